/-
  Walks of the layer 'eyes': Told.
-/
import Derived.Test.YtmbnhlihcnbebaaEyN
set_option linter.unusedVariables false
namespace Ey
theorem toldF_yes {l : List Dg} {k : Nat} {x y : Int} (h : k < l.length) (h1 : inB l[k].area x y = true) (h2 : l[k].told = true) : toldF (l.take (k + 1)) x y = toldF (l.take k) x y ++ [l[k].id] := by
  unfold toldF
  rw [List.take_add_one, List.getElem?_eq_getElem h, Option.toList_some, List.filter_append, List.map_append]
  congr 1
  simp [h1, h2]
theorem toldF_no {l : List Dg} {k : Nat} {x y : Int} (h : k < l.length) (h1 : inB l[k].area x y = false ∨ l[k].told = false) : toldF (l.take (k + 1)) x y = toldF (l.take k) x y := by
  unfold toldF
  rw [List.take_add_one, List.getElem?_eq_getElem h, Option.toList_some, List.filter_append, List.map_append]
  have : ([l[k]].filter fun d => inB d.area x y && d.told) = [] := by
    rcases h1 with h1 | h1 <;> simp [h1]
  rw [this]
  simp
theorem toldF_len (l : List Dg) (x y : Int) : (toldF l x y).length ≤ l.length := by
  unfold toldF
  rw [List.length_map]
  exact List.length_filter_le _ _
theorem toldR_bad {l : List Dg} {x y : Int} (h : stateB l = false ∨ boxB ⟨x, x, y, y⟩ = false) : toldR l x y = ([], 1) := by unfold toldR; rw [if_neg]; rcases h with h | h <;> simp [h]
theorem toldR_ok {l : List Dg} {x y : Int} (h1 : stateB l = true) (h2 : boxB ⟨x, x, y, y⟩ = true) : toldR l x y = (toldF l x y, 0) := by unfold toldR; rw [if_pos (by simp [h1, h2])]
end Ey
namespace Go.Proofs.Ytmbnhlihcnbebaa
open Go Go.RowKit Ey Sk
/-- ints and an error -/
def IntsE (w : World) (p : List Int × Int) (e : Ending) (w' : World) : Prop := ∃ ao cap, e = .returned (.tuple #[.slice ao p.1.length cap, .int .i64 p.2]) ∧ Sl w' 1 cI ao p.1.length cap p.1 ∧ Below w.heap.size w w'

set_option maxRecDepth 100000 in
set_option maxHeartbeats 8000000 in
theorem told_any (ao : Option Addr) (n cap : Nat) (l : List Dg) (x y : Int) (w : World) (hs : Sl w 12 cD ao n cap l) : Calls Try.prog 25 #[.slice ao n cap, .agg #[.int .i64 x, .int .i64 y]] w (IntsE w (toldR l x y)) := by
  have HS := Lib.hid hs
  have HBAD := Lib.hid (@toldR_bad l x y)
  have HOK := Lib.hid (@toldR_ok l x y)
  have HVB := Lib.hid (fun W => validBox_any ⟨x, x, y, y⟩ W)
  have HIN := Lib.hid (fun b W => inBox_any x y b W)
  have HIB := Lib.hid (fun b => @withinB_in x y b)
  obtain ⟨i0, hi, hz0, hz1, hz2⟩ := info_parts info_int
  have HI := Lib.hid hi
  have HZ0 := Lib.hid hz0
  have HZ1 := Lib.hid hz1
  have HZ2 := Lib.hid hz2
  obtain rfl := hs.len
  have hcap := hs.max
  have hle := hs.le
  unfold maxLen at hcap
  dsimp only [eB] at HVB
  clear hs hi hz0 hz1 hz2
  generalize toldR l x y = r at *
  obtain ⟨W0, hW0, HB_W0, hZ, hn⟩ := boxes1 w [.int .i64 x, .int .i64 y] 49
  have H_n := Lib.hid hn
  clear hn hZ
  go_enter Try.func25, Try.ntmps25
  go_wp2_with fail
  refine (load_any _ _ _ l _ (HS.out.below HB_W0)).mono ?_
  clear hW0
  rintro e wa (⟨hst, b, rfl, hbn, hsto, hb⟩ | ⟨hst, rfl, hb⟩)
  case inr =>
    have HB_wa := after0 HB_W0 hb
    have HP := Lib.hid (HBAD.out (.inl hst))
    have H_m := Lib.hid (H_n.out.below hb)
    clear hst hb
    obtain ⟨q0, q1⟩ := H_m.out.c2
    go_wp2_with fail
    go_ret2
    exact ⟨none, 0, by rw [HP.out]; rfl, by rw [HP.out]; exact Sl.nil, by first | exact HB_wa | exact grew1 HB_wa⟩
  have HB_wa := after0 HB_W0 hb
  have hl50 := state_len hst
  have HST := Lib.hid hst
  replace H_n := Lib.hid (H_n.out.below hb)
  clear hst hsto hb
  obtain ⟨q0, q1⟩ := H_n.out.c2
  obtain ⟨W2, hW2, hB2, hZ2, hb2⟩ := boxes1 wa [.int .i64 x, .int .i64 x, .int .i64 y, .int .i64 y] 31
  have H_m := Lib.hid hb2
  have HB_W2 : Below w.heap.size w W2 := after0 HB_wa hB2
  have hmz : w.heap.size < wa.heap.size := Array.getElem?_eq_some_iff.1 H_n.out |>.1
  have hsz2 : w.heap.size + 1 ≤ W2.heap.size := by omega
  replace H_n := Lib.hid (H_n.out.below hB2)
  clear hZ2 hB2
  obtain ⟨M, hM⟩ : ∃ M, wa.heap.size = M := ⟨_, rfl⟩
  rw [hM] at hb2
  replace H_m := Lib.hid hb2
  clear hb2
  obtain ⟨qm0, qm1, qm2, qm3⟩ := H_m.out.c4
  go_wp2_with fail
  clear hW2 hM
  refine (HVB.out _).mono ?_
  rintro e wb ⟨rfl, hb_wb⟩
  have HB_wb : Below w.heap.size w wb := by first | exact after0 HB_W2 hb_wb | exact after1 HB_W2 hb_wb | exact after2 HB_W2 hb_wb | exact after3 HB_W2 hb_wb | exact after4 HB_W2 hb_wb | exact after5 HB_W2 hb_wb
  try clear q_n_0 q_n_1
  have H_n := Lib.hid (Box.below (by first | exact H_n.out | exact H_n.out.alloc _ | exact (H_n.out.alloc _).alloc _ | exact ((H_n.out.alloc _).alloc _).alloc _) hb_wb)
  obtain ⟨q_n_0, q_n_1⟩ := H_n.out.c2
  have hszb := Nat.le_trans hsz2 hb_wb.size
  cases h1 : boxB ⟨x, x, y, y⟩
  · have HP := Lib.hid (HBAD.out (.inr h1))
    clear h1
    go_wp2_with fail
    go_ret2
    exact ⟨none, 0, by rw [HP.out]; rfl, by rw [HP.out]; exact Sl.nil, HB_wb⟩
  have HP := Lib.hid (HOK.out HST.out h1)
  replace HIB := Lib.hid (fun b => HIB.out b h1)
  clear h1 HBAD HOK HVB qm0 qm1 qm2 qm3 q0 q1 H_m
  go_wp2_with fail
  go_loopw [9, 39] (fun o i wr => ∃ k : Nat, k ≤ l.length ∧ i = .int .i64 k ∧ Below w.heap.size w wr ∧ Hid (Below wb.heap.size wb wr) ∧ Hid (OwnL wr wb.heap.size 3 1 cI o (toldF (l.take k) x y))) (fun _ i _ => l.length - (intOf i).toNat)
  case atStart => exact ⟨0, by omega, rfl, HB_wb, Below.refl _ _, OwnL.nil⟩
  case round =>
    obtain ⟨k, hk, rfl, HB_wr, HBB, HO⟩ := hrel
    replace H_n := Lib.hid (H_n.out.below HBB.out)
    by_cases hlt : k < l.length
    · obtain ⟨b', off, rfl, hb, hrow⟩ := HS.out.get hlt
      obtain ⟨e_0, e_1, e_2, e_3, e_4, e_5, e_6, e_7, e_8, e_9, e_10, e_11⟩ := ((hrow k hlt).below HB_wr hb).c12
      have HYES := Lib.hid (@toldF_yes l k x y hlt)
      have HNO := Lib.hid (@toldF_no l k x y hlt)
      have hyl := toldF_len (l.take k) x y
      rw [List.length_take] at hyl
      replace hyl : (toldF (l.take k) x y).length ≤ 50 := by omega
      clear hrow
      generalize l[k] = d at *
      generalize toldF (l.take k) x y = ys at *
      obtain ⟨d0, told, ⟨d2, d3, d4, d5⟩, d6, drop, ⟨d8, d9, d10, d11⟩⟩ := d
      dsimp only at e_0 e_1 e_2 e_3 e_4 e_5 e_6 e_7 e_8 e_9 e_10 e_11 HYES HNO
      obtain ⟨W1, hW1, hB1, hZ1, hb1⟩ := boxes1 wr [.int .i64 d0, .bool told, .int .i64 d2, .int .i64 d3, .int .i64 d4, .int .i64 d5, .int .i64 d6, .bool drop, .int .i64 d8, .int .i64 d9, .int .i64 d10, .int .i64 d11] 33
      have H_s := Lib.hid hb1
      have HB_W1 : Below w.heap.size w W1 := after0 HB_wr hB1
      have HO1 := Lib.hid (HO.out.below hB1)
      replace HBB := Lib.hid (HBB.out.trans (hB1.mono HBB.out.size))
      replace H_n := Lib.hid (H_n.out.below hB1)
      have HIA := Lib.hid (fun W => HIN.out ⟨d2, d3, d4, d5⟩ W)
      have HIE := Lib.hid (HIB.out ⟨d2, d3, d4, d5⟩)
      dsimp only [eB] at HIA
      clear hb1 hB1 hZ1 HO
      obtain ⟨q0, q1⟩ := H_n.out.c2
      obtain ⟨q_s_0, q_s_1, q_s_2, q_s_3, q_s_4, q_s_5, q_s_6, q_s_7, q_s_8, q_s_9, q_s_10, q_s_11⟩ := H_s.out.c12
      go_wp2_with fail
      clear hW1
      refine (HIA.out _).mono ?_
      rintro e wc ⟨rfl, hb_wc⟩
      have HB_wc : Below w.heap.size w wc := by first | exact after0 HB_W1 hb_wc | exact after1 HB_W1 hb_wc | exact after2 HB_W1 hb_wc | exact after3 HB_W1 hb_wc | exact after4 HB_W1 hb_wc | exact after5 HB_W1 hb_wc
      try clear q_s_0 q_s_1 q_s_2 q_s_3 q_s_4 q_s_5 q_s_6 q_s_7 q_s_8 q_s_9 q_s_10 q_s_11
      have H_s := Lib.hid (Box.below (by first | exact H_s.out | exact H_s.out.alloc _ | exact (H_s.out.alloc _).alloc _ | exact ((H_s.out.alloc _).alloc _).alloc _) hb_wc)
      obtain ⟨q_s_0, q_s_1, q_s_2, q_s_3, q_s_4, q_s_5, q_s_6, q_s_7, q_s_8, q_s_9, q_s_10, q_s_11⟩ := H_s.out.c12
      try clear q_n_0 q_n_1
      have H_n := Lib.hid (Box.below (by first | exact H_n.out | exact H_n.out.alloc _ | exact (H_n.out.alloc _).alloc _ | exact ((H_n.out.alloc _).alloc _).alloc _) hb_wc)
      obtain ⟨q_n_0, q_n_1⟩ := H_n.out.c2
      have HO2 := Lib.hid (HO1.out.below hb_wc)
      replace HBB := Lib.hid (HBB.out.trans (hb_wc.mono HBB.out.size))
      clear e_0 e_1 e_2 e_3 e_4 e_5 e_6 e_7 e_8 e_9 e_10 e_11 HO1 HIA
      generalize withinB ⟨x, x, y, y⟩ ⟨d2, d3, d4, d5⟩ = wr1 at *
      generalize inB ⟨d2, d3, d4, d5⟩ x y = ib at *
      obtain ⟨p1, p2⟩ := wr1
      have hie := HIE.out
      dsimp only at hie
      clear HIE
      subst hie
      cases p1
      ·
        have HNX := Lib.hid (HNO.out (by first | exact .inl rfl | exact .inr rfl))
        clear HNO HYES
        go_wp2_with fail
        go_roundw
        case rel => exact ⟨k + 1, hlt, by go_num, HB_wc, HBB.out, by rw [HNX.out]; exact HO2.out⟩
        case measure => simp [intOf] <;> omega
      cases told
      ·
        have HNX := Lib.hid (HNO.out (by first | exact .inl rfl | exact .inr rfl))
        clear HNO HYES
        go_wp2_with fail
        go_roundw
        case rel => exact ⟨k + 1, hlt, by go_num, HB_wc, HBB.out, by rw [HNX.out]; exact HO2.out⟩
        case measure => simp [intOf] <;> omega
      have HNX := Lib.hid (HYES.out rfl rfl)
      clear HNO HYES
      have HOX := Lib.hid (HO2.out.alloc (.cells #[.int .i64 d0] 3))
      have HSX : Hid (Sl (wc.alloc (.cells #[.int .i64 d0] 3)) 1 cI (some ⟨wc.heap.size, 0, none⟩) 1 1 [d0]) := Sl.one (x := d0) cI_len (Box.new wc (cI d0) 3)
      have hszx : wb.heap.size ≤ (wc.alloc (.cells #[.int .i64 d0] 3)).heap.size := by have := HBB.out.size; simp; omega
      go_wp2_with (at_builtin; refine wpList_append_sl rfl _ _ 51 rfl wb.heap.size 3 i0 _ 1 8 Try.underlying51 HI.out HZ0.out HZ1.out HZ2.out rfl (by decide) cI_len cI_one _ ys rfl HOX.out (some ⟨wc.heap.size, 0, none⟩) 1 1 [d0] rfl HSX.out (by unfold maxLen; omega) (by omega) hszx ?_)
      rintro v' w6 ho6 hg6 hgr6
      have HBB6 := Lib.hid ((grew1 HBB.out).trans (hg6 _ (Nat.le_refl _)))
      have HB_6 : Below w.heap.size w w6 := after0 HB_wb HBB6.out
      have HO6 := Lib.hid ho6
      clear hg6 hgr6 ho6 HOX HSX hszx HO2
      go_wp2_with fail
      go_roundw
      case rel => exact ⟨k + 1, hlt, by go_num, HB_6, HBB6.out, by rw [HNX.out]; exact HO6.out⟩
      case measure => simp [intOf] <;> omega
    · obtain rfl : k = l.length := by omega
      rw [List.take_length] at HO
      obtain ⟨so, sc, rfl, hsl⟩ := HO.out.sl cI_len
      have HSL := Lib.hid hsl
      clear hsl
      go_wp2_with fail
      go_ret2
      exact ⟨so, sc, by rw [HP.out]; rfl, by rw [HP.out]; exact HSL.out, HB_wr⟩
end Go.Proofs.Ytmbnhlihcnbebaa
