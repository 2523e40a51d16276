/-
  Walks of the reference of the layer 'eyes': Put, Effect.
-/
import Derived.Test.YtmbnhlihcnbebaaEyRB
import Derived.Test.YtmbnhlihcnbebaaEyH
import Derived.Test.YtmbnhlihcnbebaaEyTn
set_option linter.unusedVariables false
namespace Ey
/-- the state in which the danger with a number is another one, or is gone -/
def putR (l : List Dg) (x : Int) (d : Dg) : List Dg := l.filter (fun e => decide (e.id < x)) ++ (if 0 < d.id then [d] else []) ++ l.filter (fun e => decide (x < e.id))
/-- the danger behind an act, without a number if it is gone -/
def rEff (d : Dg) (a : Ac) : Dg × Int := if (eff d a).2.2 ≠ 0 then (d, (eff d a).2.2) else if (eff d a).2.1 = true then ((eff d a).1, 0) else (dg0, 0)
theorem rEff1 (d : Dg) {a : Ac} (hk : a.kind = 1) : rEff d a = if d.prop ≠ 0 then (d, 6) else if d.told = true ∧ d.area = a.area then (d, 5) else (⟨a.danger, d.told, d.area, a.person, d.drop, a.area⟩, 0) := by
  unfold rEff
  rw [eff_k1 d hk]
  split
  · rfl
  · split <;> rfl
theorem rEff2 (d : Dg) {a : Ac} (hk : a.kind = 2) : rEff d a = if d.told = false then (d, 4) else if d.prop ≠ 0 then (d, 6) else (⟨d.id, d.told, d.area, a.person, true, d.next⟩, 0) := by
  unfold rEff
  rw [eff_k2 d hk]
  split
  · rfl
  · split <;> rfl
theorem rEff3 (d : Dg) {a : Ac} (hk : a.kind = 3) : rEff d a = if d.prop = 0 then (d, 4) else if d.prop = a.person then (d, 21) else if d.drop = true then (dg0, 0) else (⟨d.id, true, d.next, 0, false, bx0⟩, 0) := by
  unfold rEff
  rw [eff_k3 d hk]
  split
  · rfl
  · split
    · rfl
    · cases d.drop <;> rfl
theorem rEff4 (d : Dg) {a : Ac} (hk : a.kind = 4) : rEff d a = if d.prop = 0 then (d, 4) else if d.told = false then (dg0, 0) else (⟨d.id, d.told, d.area, 0, false, bx0⟩, 0) := by
  unfold rEff
  rw [eff_k4 d (by omega) (by omega) (by omega)]
  split
  · rfl
  · cases h : d.told <;> simp
/-- what the reference asks of a danger -/
def Fine (d : Dg) : Prop := (d.prop = 0 ∨ 0 < d.prop) ∧ (d.prop = 0 → d.drop = false ∧ d.next = bx0)
theorem fine_zero : Fine dg0 := ⟨.inl rfl, fun _ => ⟨rfl, rfl⟩⟩
theorem fine_sound {d : Dg} (h : soundD d = true) : Fine d := by
  obtain ⟨h1, h2, h3, h4, h5, h6, h7⟩ := sound_parts h
  refine ⟨h2.imp id (fun h => ?_), fun h => ⟨(h3 h).1, h7 (.inl h)⟩⟩
  unfold numB at h
  simp at h
  omega
theorem fine_gt {L : List Dg} (h : stateB L = true) (x : Int) : Fine (gt L x) := by
  rcases gt_cases L x with ⟨_, e⟩ | ⟨_, e, _⟩
  · rw [e]; exact fine_zero
  · exact fine_sound ((stateB_iff.1 h).1 _ e)
end Ey
namespace Go.Proofs.Ytmbnhlihcnbebaa
open Go Go.RowKit Ey Sk Go.Sort


theorem filt_no {α : Type} {p : α → Bool} {l : List α} {k : Nat} (hk : k < l.length) (h : p l[k] = false) : (l.take (k + 1)).filter p = (l.take k).filter p := by
  rw [List.take_add_one, List.getElem?_eq_getElem hk, Option.toList_some, List.filter_append]
  simp [h]
theorem filt_yes {α : Type} {p : α → Bool} {l : List α} {k : Nat} (hk : k < l.length) (h : p l[k] = true) : (l.take (k + 1)).filter p = (l.take k).filter p ++ [l[k]] := by
  rw [List.take_add_one, List.getElem?_eq_getElem hk, Option.toList_some, List.filter_append]
  simp [h]
theorem filt_len {α : Type} (p : α → Bool) (l : List α) (k : Nat) : ((l.take k).filter p).length ≤ l.length := Nat.le_trans (List.length_filter_le _ _) (List.length_take_le' _ _)

set_option maxRecDepth 100000 in
set_option maxHeartbeats 8000000 in
theorem rput_any (ao : Option Addr) (n cap : Nat) (l : List Dg) (x : Int) (d : Dg) (w : World) (hs : Sl w 12 cD ao n cap l) (hl : l.length ≤ 100000) :
    Calls Try.prog 48 #[.slice ao n cap, .int .i64 x, eD d] w (fun e w' => ∃ v, e = .returned v ∧ OwnL w' w.heap.size 33 12 cD v (putR l x d) ∧ Below w.heap.size w w') := by
  obtain rfl := hs.len
  have hcap := hs.max
  have hle := hs.le
  unfold maxLen at hcap
  have HS := Lib.hid hs
  obtain ⟨i0, hi, hz0, hz1, hz2⟩ := info_parts info_danger
  have HI := Lib.hid hi
  have HZ0 := Lib.hid hz0
  have HZ1 := Lib.hid hz1
  have HZ2 := Lib.hid hz2
  unfold putR
  obtain ⟨mid, hmid⟩ : ∃ m, (if 0 < d.id then [d] else []) = m := ⟨_, rfl⟩
  rw [hmid]
  have HM := Lib.hid hmid
  clear hmid
  have HFN := Lib.hid (fun (p : Dg → Bool) k => @filt_no Dg p l k)
  have HFY := Lib.hid (fun (p : Dg → Bool) k => @filt_yes Dg p l k)
  have HFL := Lib.hid (fun (p : Dg → Bool) k => filt_len p l k)
  obtain ⟨W0, hW0, HB_W0, hZ, hn⟩ := boxes1 w (cD d) 33
  have H_n := Lib.hid hn
  clear hs hi hz0 hz1 hz2 hn hZ
  go_enter Try.func48, Try.ntmps48
  go_wp2_with fail
  clear hW0
  go_loopw [7, 8] (fun o i wr => ∃ k : Nat, k ≤ l.length ∧ i = .int .i64 k ∧ Hid (Below W0.heap.size W0 wr) ∧ Hid (OwnL wr W0.heap.size 33 12 cD o ((l.take k).filter (fun e => decide (e.id < x))))) (fun _ i _ => l.length - (intOf i).toNat)
  case atStart => exact ⟨0, Nat.zero_le _, rfl, Below.refl _ _, OwnL.nil⟩
  case round =>
    obtain ⟨k, hk, rfl, HB5, HO⟩ := hrel
    have HB_wr := after0 HB_W0 HB5.out
    have hyl := HFL.out (fun e => decide (e.id < x)) k
    by_cases hlt : k < l.length
    · obtain ⟨b', off, rfl, hb, hrow⟩ := HS.out.get hlt
      obtain ⟨e_0, e_1, e_2, e_3, e_4, e_5, e_6, e_7, e_8, e_9, e_10, e_11⟩ := ((hrow k hlt).below HB_wr hb).c12
      have HN1 := Lib.hid (HFN.out (fun e => decide (e.id < x)) k hlt)
      have HY1 := Lib.hid (HFY.out (fun e => decide (e.id < x)) k hlt)
      clear hrow
      generalize l[k] = c at *
      generalize (l.take k).filter (fun e => decide (e.id < x)) = ys at *
      obtain ⟨d0, told, ⟨d2, d3, d4, d5⟩, d6, drop, ⟨d8, d9, d10, d11⟩⟩ := c
      dsimp only at e_0 e_1 e_2 e_3 e_4 e_5 e_6 e_7 e_8 e_9 e_10 e_11 HN1 HY1
      by_cases hx : d0 < x
      · have HNX := Lib.hid (HY1.out (decide_eq_true hx))
        clear HN1 HY1
        have HOX := Lib.hid (HO.out.alloc (.cells (cD (⟨d0, told, ⟨d2, d3, d4, d5⟩, d6, drop, ⟨d8, d9, d10, d11⟩⟩ : Dg)).toArray 33))
        have HSX : Hid (Sl (wr.alloc (.cells (cD (⟨d0, told, ⟨d2, d3, d4, d5⟩, d6, drop, ⟨d8, d9, d10, d11⟩⟩ : Dg)).toArray 33)) 12 cD (some ⟨wr.heap.size, 0, none⟩) 1 1 [(⟨d0, told, ⟨d2, d3, d4, d5⟩, d6, drop, ⟨d8, d9, d10, d11⟩⟩ : Dg)]) := Sl.one (x := (⟨d0, told, ⟨d2, d3, d4, d5⟩, d6, drop, ⟨d8, d9, d10, d11⟩⟩ : Dg)) cD_len (Box.new wr (cD (⟨d0, told, ⟨d2, d3, d4, d5⟩, d6, drop, ⟨d8, d9, d10, d11⟩⟩ : Dg)) 33)
        have hsz : W0.heap.size ≤ (wr.alloc (.cells (cD (⟨d0, told, ⟨d2, d3, d4, d5⟩, d6, drop, ⟨d8, d9, d10, d11⟩⟩ : Dg)).toArray 33)).heap.size := by have := HB5.out.size; simp; omega
        go_wp2_with (at_builtin; refine wpList_append_sl rfl _ _ 24 rfl W0.heap.size 33 i0 _ 12 96 Try.underlying24 HI.out HZ0.out HZ1.out HZ2.out rfl (by decide) cD_len cD_one _ ys rfl HOX.out (some ⟨wr.heap.size, 0, none⟩) 1 1 [(⟨d0, told, ⟨d2, d3, d4, d5⟩, d6, drop, ⟨d8, d9, d10, d11⟩⟩ : Dg)] rfl HSX.out (by unfold maxLen; omega) (by omega) hsz ?_)
        rintro v' w6 ho6 hg6 hgr6
        have HB_6 : Below W0.heap.size W0 w6 := (grew1 HB5.out).trans (hg6 _ (Nat.le_refl _))
        have HO6 := Lib.hid ho6
        clear hg6 hgr6 ho6 HOX HSX hsz HO
        clear e_0 e_1 e_2 e_3 e_4 e_5 e_6 e_7 e_8 e_9 e_10 e_11
        go_wp2_with fail
        go_roundw
        case rel => exact ⟨k + 1, hlt, by go_num, HB_6, by rw [HNX.out]; exact HO6.out⟩
        case measure => simp [intOf] <;> omega
      · have HNX := Lib.hid (HN1.out (decide_eq_false hx))
        clear HN1 HY1
        go_wp2_with fail
        all_goals try (exfalso; omega)
        go_roundw
        case rel => exact ⟨k + 1, hlt, by go_num, HB5.out, by rw [HNX.out]; exact HO.out⟩
        case measure => simp [intOf] <;> omega
    · obtain rfl : k = l.length := by omega
      rw [List.take_length] at HO hyl
      obtain ⟨ys, hys⟩ : ∃ ys, l.filter (fun e => decide (e.id < x)) = ys := ⟨_, rfl⟩
      rw [hys] at HO hyl
      have HYS := Lib.hid hys
      clear hys
      replace H_n := Lib.hid (H_n.out.below HB5.out)
      obtain ⟨f_0, f_1, f_2, f_3, f_4, f_5, f_6, f_7, f_8, f_9, f_10, f_11⟩ := H_n.out.c12
      obtain ⟨d0, told, ⟨d2, d3, d4, d5⟩, d6, drop, ⟨d8, d9, d10, d11⟩⟩ := d
      dsimp only at f_0 f_1 f_2 f_3 f_4 f_5 f_6 f_7 f_8 f_9 f_10 f_11 HM
      by_cases h0 : 0 < d0
      · obtain rfl := HM.out.symm.trans (if_pos h0)
        clear HM
        have HOX := Lib.hid (HO.out.alloc (.cells (cD (⟨d0, told, ⟨d2, d3, d4, d5⟩, d6, drop, ⟨d8, d9, d10, d11⟩⟩ : Dg)).toArray 33))
        have HSX : Hid (Sl (wr.alloc (.cells (cD (⟨d0, told, ⟨d2, d3, d4, d5⟩, d6, drop, ⟨d8, d9, d10, d11⟩⟩ : Dg)).toArray 33)) 12 cD (some ⟨wr.heap.size, 0, none⟩) 1 1 [(⟨d0, told, ⟨d2, d3, d4, d5⟩, d6, drop, ⟨d8, d9, d10, d11⟩⟩ : Dg)]) := Sl.one (x := (⟨d0, told, ⟨d2, d3, d4, d5⟩, d6, drop, ⟨d8, d9, d10, d11⟩⟩ : Dg)) cD_len (Box.new wr (cD (⟨d0, told, ⟨d2, d3, d4, d5⟩, d6, drop, ⟨d8, d9, d10, d11⟩⟩ : Dg)) 33)
        have hsz : W0.heap.size ≤ (wr.alloc (.cells (cD (⟨d0, told, ⟨d2, d3, d4, d5⟩, d6, drop, ⟨d8, d9, d10, d11⟩⟩ : Dg)).toArray 33)).heap.size := by have := HB5.out.size; simp; omega
        go_wp2_with (at_builtin; refine wpList_append_sl rfl _ _ 24 rfl W0.heap.size 33 i0 _ 12 96 Try.underlying24 HI.out HZ0.out HZ1.out HZ2.out rfl (by decide) cD_len cD_one _ ys rfl HOX.out (some ⟨wr.heap.size, 0, none⟩) 1 1 [(⟨d0, told, ⟨d2, d3, d4, d5⟩, d6, drop, ⟨d8, d9, d10, d11⟩⟩ : Dg)] rfl HSX.out (by unfold maxLen; omega) (by omega) hsz ?_)
        rintro v' w6 ho6 hg6 hgr6
        have HB_6 : Below W0.heap.size W0 w6 := (grew1 HB5.out).trans (hg6 _ (Nat.le_refl _))
        have HO6 := Lib.hid ho6
        clear hg6 hgr6 ho6 HOX HSX hsz HO
        clear f_0 f_1 f_2 f_3 f_4 f_5 f_6 f_7 f_8 f_9 f_10 f_11 H_n
        have hyl2 : (ys ++ [(⟨d0, told, ⟨d2, d3, d4, d5⟩, d6, drop, ⟨d8, d9, d10, d11⟩⟩ : Dg)]).length ≤ l.length + 1 := by simp; omega
        obtain ⟨zs, hzs⟩ : ∃ zs, ys ++ [(⟨d0, told, ⟨d2, d3, d4, d5⟩, d6, drop, ⟨d8, d9, d10, d11⟩⟩ : Dg)] = zs := ⟨_, rfl⟩
        rw [hzs] at HO6 hyl2
        have HZS := Lib.hid (show l.filter (fun e => decide (e.id < x)) ++ [(⟨d0, told, ⟨d2, d3, d4, d5⟩, d6, drop, ⟨d8, d9, d10, d11⟩⟩ : Dg)] = zs by rw [HYS.out, hzs])
        clear hzs HYS
        have HB5 := Lib.hid HB_6
        clear HB_6
        go_wp2_with fail
        clear hyl
        go_loopw [7, 9] (fun o i wr => ∃ k : Nat, k ≤ l.length ∧ i = .int .i64 k ∧ Hid (Below W0.heap.size W0 wr) ∧ Hid (OwnL wr W0.heap.size 33 12 cD o (zs ++ (l.take k).filter (fun e => decide (x < e.id))))) (fun _ i _ => l.length - (intOf i).toNat)
        case atStart => exact ⟨0, Nat.zero_le _, rfl, HB5.out, by rw [List.take_zero, List.filter_nil, List.append_nil]; exact HO6.out⟩
        case round =>
          obtain ⟨k, hk, rfl, HB5, HO⟩ := hrel
          have HB_wr := after0 HB_W0 HB5.out
          have hyl := HFL.out (fun e => decide (x < e.id)) k
          by_cases hlt : k < l.length
          · obtain ⟨b', off, rfl, hb, hrow⟩ := HS.out.get hlt
            obtain ⟨e_0, e_1, e_2, e_3, e_4, e_5, e_6, e_7, e_8, e_9, e_10, e_11⟩ := ((hrow k hlt).below HB_wr hb).c12
            have HN1 := Lib.hid (HFN.out (fun e => decide (x < e.id)) k hlt)
            have HY1 := Lib.hid (HFY.out (fun e => decide (x < e.id)) k hlt)
            clear hrow HO6
            generalize l[k] = c at *
            generalize (l.take k).filter (fun e => decide (x < e.id)) = ys at *
            have hyz : (zs ++ ys).length ≤ l.length + 1 + l.length := by rw [List.length_append]; omega
            have hyl3 := hyl
            generalize hzy : zs ++ ys = us at *
            obtain ⟨c0, ctold, ⟨c2, c3, c4, c5⟩, c6, cdrop, ⟨c8, c9, c10, c11⟩⟩ := c
            dsimp only at e_0 e_1 e_2 e_3 e_4 e_5 e_6 e_7 e_8 e_9 e_10 e_11 HN1 HY1
            by_cases hx : x < c0
            · have HNX := Lib.hid (show zs ++ (l.take (k + 1)).filter (fun e => decide (x < e.id)) = us ++ [⟨c0, ctold, ⟨c2, c3, c4, c5⟩, c6, cdrop, ⟨c8, c9, c10, c11⟩⟩] by rw [HY1.out (decide_eq_true hx), ← List.append_assoc, hzy])
              clear HN1 HY1 hzy
              have HOX := Lib.hid (HO.out.alloc (.cells (cD (⟨c0, ctold, ⟨c2, c3, c4, c5⟩, c6, cdrop, ⟨c8, c9, c10, c11⟩⟩ : Dg)).toArray 33))
              have HSX : Hid (Sl (wr.alloc (.cells (cD (⟨c0, ctold, ⟨c2, c3, c4, c5⟩, c6, cdrop, ⟨c8, c9, c10, c11⟩⟩ : Dg)).toArray 33)) 12 cD (some ⟨wr.heap.size, 0, none⟩) 1 1 [(⟨c0, ctold, ⟨c2, c3, c4, c5⟩, c6, cdrop, ⟨c8, c9, c10, c11⟩⟩ : Dg)]) := Sl.one (x := (⟨c0, ctold, ⟨c2, c3, c4, c5⟩, c6, cdrop, ⟨c8, c9, c10, c11⟩⟩ : Dg)) cD_len (Box.new wr (cD (⟨c0, ctold, ⟨c2, c3, c4, c5⟩, c6, cdrop, ⟨c8, c9, c10, c11⟩⟩ : Dg)) 33)
              have hsz : W0.heap.size ≤ (wr.alloc (.cells (cD (⟨c0, ctold, ⟨c2, c3, c4, c5⟩, c6, cdrop, ⟨c8, c9, c10, c11⟩⟩ : Dg)).toArray 33)).heap.size := by have := HB5.out.size; simp; omega
              go_wp2_with (at_builtin; refine wpList_append_sl rfl _ _ 24 rfl W0.heap.size 33 i0 _ 12 96 Try.underlying24 HI.out HZ0.out HZ1.out HZ2.out rfl (by decide) cD_len cD_one _ us rfl HOX.out (some ⟨wr.heap.size, 0, none⟩) 1 1 [(⟨c0, ctold, ⟨c2, c3, c4, c5⟩, c6, cdrop, ⟨c8, c9, c10, c11⟩⟩ : Dg)] rfl HSX.out (by unfold maxLen; omega) (by omega) hsz ?_)
              rintro v' w6 ho6 hg6 hgr6
              have HB_6 : Below W0.heap.size W0 w6 := (grew1 HB5.out).trans (hg6 _ (Nat.le_refl _))
              have HO6 := Lib.hid ho6
              clear hg6 hgr6 ho6 HOX HSX hsz HO
              clear e_0 e_1 e_2 e_3 e_4 e_5 e_6 e_7 e_8 e_9 e_10 e_11
              go_wp2_with fail
              go_roundw
              case rel => exact ⟨k + 1, hlt, by go_num, HB_6, by rw [HNX.out]; exact HO6.out⟩
              case measure => simp [intOf] <;> omega
            · have HNX := Lib.hid (show zs ++ (l.take (k + 1)).filter (fun e => decide (x < e.id)) = us by rw [HN1.out (decide_eq_false hx), hzy])
              clear HN1 HY1 hzy
              go_wp2_with fail
              all_goals try (exfalso; omega)
              go_roundw
              case rel => exact ⟨k + 1, hlt, by go_num, HB5.out, by rw [HNX.out]; exact HO.out⟩
              case measure => simp [intOf] <;> omega
          · obtain rfl : k = l.length := by omega
            rw [List.take_length] at HO
            go_wp2_with fail
            go_ret
            have hfin := HO.out.mono HB_W0.size
            rw [← HZS.out] at hfin
            exact ⟨_, rfl, hfin, HB_wr⟩
      · obtain rfl := HM.out.symm.trans (if_neg h0)
        clear HM
        clear f_1 f_2 f_3 f_4 f_5 f_6 f_7 f_8 f_9 f_10 f_11 H_n
        have hyl2 : ys.length ≤ l.length + 1 := by omega
        obtain ⟨zs, hzs⟩ : ∃ zs, ys = zs := ⟨_, rfl⟩
        rw [hzs] at HO hyl2
        have HZS := Lib.hid (show l.filter (fun e => decide (e.id < x)) ++ [] = zs by rw [List.append_nil, HYS.out, hzs])
        clear hzs HYS
        have HO6 := HO
        clear HO
        go_wp2_with fail
        clear f_0
        clear hyl
        go_loopw [7, 9] (fun o i wr => ∃ k : Nat, k ≤ l.length ∧ i = .int .i64 k ∧ Hid (Below W0.heap.size W0 wr) ∧ Hid (OwnL wr W0.heap.size 33 12 cD o (zs ++ (l.take k).filter (fun e => decide (x < e.id))))) (fun _ i _ => l.length - (intOf i).toNat)
        case atStart => exact ⟨0, Nat.zero_le _, rfl, HB5.out, by rw [List.take_zero, List.filter_nil, List.append_nil]; exact HO6.out⟩
        case round =>
          obtain ⟨k, hk, rfl, HB5, HO⟩ := hrel
          have HB_wr := after0 HB_W0 HB5.out
          have hyl := HFL.out (fun e => decide (x < e.id)) k
          by_cases hlt : k < l.length
          · obtain ⟨b', off, rfl, hb, hrow⟩ := HS.out.get hlt
            obtain ⟨e_0, e_1, e_2, e_3, e_4, e_5, e_6, e_7, e_8, e_9, e_10, e_11⟩ := ((hrow k hlt).below HB_wr hb).c12
            have HN1 := Lib.hid (HFN.out (fun e => decide (x < e.id)) k hlt)
            have HY1 := Lib.hid (HFY.out (fun e => decide (x < e.id)) k hlt)
            clear hrow HO6
            generalize l[k] = c at *
            generalize (l.take k).filter (fun e => decide (x < e.id)) = ys at *
            have hyz : (zs ++ ys).length ≤ l.length + 1 + l.length := by rw [List.length_append]; omega
            have hyl3 := hyl
            generalize hzy : zs ++ ys = us at *
            obtain ⟨c0, ctold, ⟨c2, c3, c4, c5⟩, c6, cdrop, ⟨c8, c9, c10, c11⟩⟩ := c
            dsimp only at e_0 e_1 e_2 e_3 e_4 e_5 e_6 e_7 e_8 e_9 e_10 e_11 HN1 HY1
            by_cases hx : x < c0
            · have HNX := Lib.hid (show zs ++ (l.take (k + 1)).filter (fun e => decide (x < e.id)) = us ++ [⟨c0, ctold, ⟨c2, c3, c4, c5⟩, c6, cdrop, ⟨c8, c9, c10, c11⟩⟩] by rw [HY1.out (decide_eq_true hx), ← List.append_assoc, hzy])
              clear HN1 HY1 hzy
              have HOX := Lib.hid (HO.out.alloc (.cells (cD (⟨c0, ctold, ⟨c2, c3, c4, c5⟩, c6, cdrop, ⟨c8, c9, c10, c11⟩⟩ : Dg)).toArray 33))
              have HSX : Hid (Sl (wr.alloc (.cells (cD (⟨c0, ctold, ⟨c2, c3, c4, c5⟩, c6, cdrop, ⟨c8, c9, c10, c11⟩⟩ : Dg)).toArray 33)) 12 cD (some ⟨wr.heap.size, 0, none⟩) 1 1 [(⟨c0, ctold, ⟨c2, c3, c4, c5⟩, c6, cdrop, ⟨c8, c9, c10, c11⟩⟩ : Dg)]) := Sl.one (x := (⟨c0, ctold, ⟨c2, c3, c4, c5⟩, c6, cdrop, ⟨c8, c9, c10, c11⟩⟩ : Dg)) cD_len (Box.new wr (cD (⟨c0, ctold, ⟨c2, c3, c4, c5⟩, c6, cdrop, ⟨c8, c9, c10, c11⟩⟩ : Dg)) 33)
              have hsz : W0.heap.size ≤ (wr.alloc (.cells (cD (⟨c0, ctold, ⟨c2, c3, c4, c5⟩, c6, cdrop, ⟨c8, c9, c10, c11⟩⟩ : Dg)).toArray 33)).heap.size := by have := HB5.out.size; simp; omega
              go_wp2_with (at_builtin; refine wpList_append_sl rfl _ _ 24 rfl W0.heap.size 33 i0 _ 12 96 Try.underlying24 HI.out HZ0.out HZ1.out HZ2.out rfl (by decide) cD_len cD_one _ us rfl HOX.out (some ⟨wr.heap.size, 0, none⟩) 1 1 [(⟨c0, ctold, ⟨c2, c3, c4, c5⟩, c6, cdrop, ⟨c8, c9, c10, c11⟩⟩ : Dg)] rfl HSX.out (by unfold maxLen; omega) (by omega) hsz ?_)
              rintro v' w6 ho6 hg6 hgr6
              have HB_6 : Below W0.heap.size W0 w6 := (grew1 HB5.out).trans (hg6 _ (Nat.le_refl _))
              have HO6 := Lib.hid ho6
              clear hg6 hgr6 ho6 HOX HSX hsz HO
              clear e_0 e_1 e_2 e_3 e_4 e_5 e_6 e_7 e_8 e_9 e_10 e_11
              go_wp2_with fail
              go_roundw
              case rel => exact ⟨k + 1, hlt, by go_num, HB_6, by rw [HNX.out]; exact HO6.out⟩
              case measure => simp [intOf] <;> omega
            · have HNX := Lib.hid (show zs ++ (l.take (k + 1)).filter (fun e => decide (x < e.id)) = us by rw [HN1.out (decide_eq_false hx), hzy])
              clear HN1 HY1 hzy
              go_wp2_with fail
              all_goals try (exfalso; omega)
              go_roundw
              case rel => exact ⟨k + 1, hlt, by go_num, HB5.out, by rw [HNX.out]; exact HO.out⟩
              case measure => simp [intOf] <;> omega
          · obtain rfl : k = l.length := by omega
            rw [List.take_length] at HO
            go_wp2_with fail
            go_ret
            have hfin := HO.out.mono HB_W0.size
            rw [← HZS.out] at hfin
            exact ⟨_, rfl, hfin, HB_wr⟩
end Go.Proofs.Ytmbnhlihcnbebaa
