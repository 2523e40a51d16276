/-
  Walks of the layer 'follow': Order, Permitted.
-/
import Derived.Test.YtofilkphaelceaaFoC
set_option linter.unusedVariables false
namespace Go.Proofs.Ytofilkphaelceaa
open Go Go.RowKit Fo Sk Go.Sort

/-- a slice of integers and an error; the slice is the call's own -/
def IntsE (w : World) (p : List Int × Int) (e : Ending) (w' : World) : Prop := ∃ ao n cap, e = .returned (.tuple #[.slice ao n cap, .int .i64 p.2]) ∧ Sl w' 1 cI ao n cap p.1 ∧ Below w.heap.size w w'

theorem ordF_step {l : List St} {k : Nat} (h : k < l.length) (d : List Int) : orderF (l.take (k + 1)) d = if d.contains l[k].n then orderF (l.take k) d else orderF (l.take k) d ++ [l[k].n] := by
  unfold orderF
  rw [List.take_add_one, List.getElem?_eq_getElem h, Option.toList_some, List.filter_append, List.map_append]
  cases hc : d.contains l[k].n <;> simp [List.filter_cons] <;> simp at hc <;> simp [hc]
theorem orderF_len (l : List St) (d : List Int) (k : Nat) : (orderF (l.take k) d).length ≤ k := by
  unfold orderF
  rw [List.length_map]
  exact Nat.le_trans (List.length_filter_le _ _) (List.length_take_le _ _)
/-- the numbers ahead of a step are others -/
theorem inN_self {l : List St} (h : VOk l) {k : Nat} (hk : k < l.length) : inN (l.take k) l[k].n = false := by
  cases hi : inN (l.take k) l[k].n with
  | false => rfl
  | true =>
    obtain ⟨j, hj, hjk, he⟩ := inN_take.1 hi
    have := List.pairwise_iff_getElem.1 h.inc j k hj hk hjk
    omega
theorem orderR_bad {l : List St} {d : List Int} (h : valid l = false ∨ isDone d = false) : orderR l d = ([], 1) := by unfold orderR; rw [if_neg]; rcases h with h | h <;> simp [h]
theorem orderR_ok {l : List St} {d : List Int} (h1 : valid l = true) (h2 : isDone d = true) : orderR l d = (orderF l d, 0) := by unfold orderR; rw [if_pos (by simp [h1, h2])]

set_option maxRecDepth 100000 in
set_option maxHeartbeats 4000000 in
theorem Order_any (ao : Option Addr) (n cap : Nat) (l : List St) (bo : Option Addr) (m capb : Nat) (d : List Int) (w : World) (hs : SlS w ao n cap l) (hd : Sl w 1 cI bo m capb d) :
    Calls Try.prog 18 #[.slice ao n cap, .slice bo m capb] w (IntsE w (orderR l d)) := by
  obtain rfl := hs.1.len
  have hcap := hs.1.max
  have hle := hs.1.le
  unfold maxLen at hcap
  have HS := Lib.hid hs
  have HS0 := Lib.hid hs
  have HD := Lib.hid hd
  have HB_w : Below w.heap.size w w := Below.refl _ _
  have HBAD := Lib.hid (@orderR_bad l d)
  have HOK := Lib.hid (@orderR_ok l d)
  clear hs hd
  generalize orderR l d = p at *
  go_enter Try.func18, Try.ntmps18
  go_wp2_with fail
  refine (Valid_any _ _ _ l _ HS.out).mono ?_
  rintro e wa ⟨rfl, hb_wa⟩
  have HB_wa : Below w.heap.size w wa := by first | exact after0 HB_w hb_wa | exact after1 HB_w hb_wa | exact after2 HB_w hb_wa | exact after3 HB_w hb_wa | exact after4 HB_w hb_wa | exact after5 HB_w hb_wa
  replace HS := Lib.hid (HS.out.below hb_wa)
  replace HD := Lib.hid (HD.out.below hb_wa)
  cases h1 : valid l
  · have HP := Lib.hid (HBAD.out (.inl h1))
    clear h1
    go_wp2_with fail
    go_ret2
    exact ⟨none, 0, 0, by rw [HP.out]; rfl, by rw [HP.out]; exact Sl.nil, HB_wa⟩
  have HV := Lib.hid (vok h1)
  replace HOK := Lib.hid (HOK.out h1)
  clear h1
  go_wp2_with fail
  refine (isDone_any _ _ _ d _ HD.out).mono ?_
  rintro e wb ⟨rfl, hb_wb⟩
  have HB_wb : Below w.heap.size w wb := by first | exact after0 HB_wa hb_wb | exact after1 HB_wa hb_wb | exact after2 HB_wa hb_wb | exact after3 HB_wa hb_wb | exact after4 HB_wa hb_wb | exact after5 HB_wa hb_wb
  replace HS := Lib.hid (HS.out.below hb_wb)
  replace HD := Lib.hid (HD.out.below hb_wb)
  cases h2 : isDone d
  · have HP := Lib.hid (HBAD.out (.inr h2))
    clear h2
    go_wp2_with fail
    go_ret2
    exact ⟨none, 0, 0, by rw [HP.out]; rfl, by rw [HP.out]; exact Sl.nil, HB_wb⟩
  have hdn := isDone_iff.1 h2
  have HP := Lib.hid (HOK.out h2)
  have hl200 := HV.out.len
  have hd200 := hdn.1
  have H64 := Lib.hid (show ∀ a ∈ d, I64 a from fun a ha => by have := hdn.2.2 a ha; exact i64_of (by omega) (by omega))
  clear h2 hdn HBAD HOK
  go_wp2_with fail
  refine (newSet_any _ _ _ d _ HD.out H64.out).mono ?_
  rintro e wc ⟨mb, rfl, hmb, hset, hb_wc⟩
  have HB_wc := after0 HB_wb hb_wc
  replace HS := Lib.hid (HS.out.below hb_wc)
  have hml := hset.lt
  have HSET := Lib.hid (hset.congr (S' := fun x => d.contains x || inN (l.take 0) x) (fun x _ => by simp [inN]))
  clear hset hb_wc HD H64
  obtain ⟨i0, hi, hz0, hz1, hz2⟩ := info_parts info_int
  have HI := Lib.hid hi
  have HZ0 := Lib.hid hz0
  have HZ1 := Lib.hid hz1
  have HZ2 := Lib.hid hz2
  clear hi hz0 hz1 hz2
  go_wp2_with fail
  go_loopw [7, 22] (fun o i wr => ∃ k : Nat, k ≤ l.length ∧ i = .int .i64 k ∧ Below w.heap.size w wr ∧ wc.heap.size ≤ wr.heap.size ∧ Hid (OwnL wr wc.heap.size 3 1 cI o (orderF (l.take k) d)) ∧ Hid (SetOf wr mb (d.length + k) (fun x => d.contains x || inN (l.take k) x))) (fun _ i _ => l.length - (intOf i).toNat)
  case atStart => exact ⟨0, by omega, rfl, HB_wc, Nat.le_refl _, OwnL.nil, HSET.out⟩
  case round =>
    clear HSET HS
    obtain ⟨k, hk, rfl, HB_wr, hsw, HO, HSET⟩ := hrel
    have HS := Lib.hid (HS0.out.below HB_wr)
    by_cases hlt : k < l.length
    · have hlen := orderF_len l d k
      have HST := Lib.hid (ordF_step hlt d)
      have HIN := Lib.hid (fun x => inN_succ hlt x)
      have HSELF := Lib.hid (inN_self HV.out hlt)
      have hnum := HV.out.num _ (List.getElem_mem hlt)
      obtain ⟨b', off, rfl, hb, hrow⟩ := HS.out.1.get hlt
      obtain ⟨e_0, e_1⟩ := (hrow k hlt).c2
      have hx : I64 l[k].n := i64_of (by omega) (by omega)
      clear hrow hnum
      generalize orderF (l.take k) d = ys at *
      generalize l[k] = s at *
      obtain ⟨s0, s1, s2, s3, s4⟩ := s
      dsimp only at e_0 e_1 HST HIN HSELF hx
      obtain ⟨W1, hW1, hB1, hZ1, hb1⟩ := boxes1 wr [.int .i64 s0, .slice s1 s2 s3] 44
      have H_s := Lib.hid hb1
      have HB_W1 : Below w.heap.size w W1 := after0 HB_wr hB1
      have HO1 := Lib.hid (HO.out.below hB1)
      have HNE := Lib.hid (show ∀ k, u7.ownBlock = some k → k < wr.heap.size from fun k e => (World.ownsRow.lt HO.out k e).2)
      replace HSET := Lib.hid (HSET.out.below hB1)
      have hsw1 : wc.heap.size ≤ W1.heap.size := by omega
      have hmw : mb < wr.heap.size := by omega
      clear hb1 hB1 HO HS hsw
      obtain ⟨q_s_0, q_s_1⟩ := H_s.out.c2
      cases hc : d.contains s0
      · have hlook := HSET.out.look hx (v := false) (by show (d.contains s0 || inN (l.take k) s0) = false; rw [hc, HSELF.out]; rfl)
        have HN := Lib.hid (show orderF (l.take (k + 1)) d = ys ++ [s0] by rw [HST.out, hc]; rfl)
        have HOX := Lib.hid (HO1.out.alloc (.cells #[.int .i64 s0] 3))
        have HSX : Hid (Sl (W1.alloc (.cells #[.int .i64 s0] 3)) 1 cI (some ⟨W1.heap.size, 0, none⟩) 1 1 [s0]) := Sl.one (x := s0) cI_len (Box.new W1 (cI s0) 3)
        have hsz : wc.heap.size ≤ (W1.alloc (.cells #[.int .i64 s0] 3)).heap.size := by simp; omega
        clear hc hZ1
        go_wp2_with (at_builtin; refine wpList_append_sl rfl _ _ 23 rfl wc.heap.size 3 i0 _ 1 8 Try.underlying23 HI.out HZ0.out HZ1.out HZ2.out rfl (by decide) cI_len cI_one _ ys rfl HOX.out (some ⟨W1.heap.size, 0, none⟩) 1 1 [s0] rfl HSX.out (by unfold maxLen; omega) (by omega) hsz ?_)
        rintro v' w6 ho6 hg6 hgr6
        have hb6 := hg6 _ (Nat.le_refl _)
        have HB_w6 : Below w.heap.size w w6 := (grew1 HB_W1).trans (hb6.mono (by have := HB_wc.size; omega))
        have HO6 := Lib.hid ho6
        have HSET6 := Lib.hid ((HSET.out.alloc (.cells #[.int .i64 s0] 3)).low hb6 hml)
        have hs6 : wc.heap.size ≤ w6.heap.size := Nat.le_trans hsz hb6.size
        have hsb : Box w6 wr.heap.size 44 [.int .i64 s0, .slice s1 s2 s3] := (H_s.out.alloc (.cells #[.int .i64 s0] 3)).grown hgr6 (fun e => by have := HNE.out _ e.symm; omega)
        replace H_s := Lib.hid hsb
        clear ho6 hb6 hgr6 hg6 hsb HOX HSX hsz hlook HSET q_s_0 q_s_1 e_0 e_1 HO1
        obtain ⟨q_s_0, q_s_1⟩ := H_s.out.c2
        go_wp2_with (at_mapUpdate; refine wpList_put_set rfl _ _ _ rfl mb (d.length + k) _ rfl HSET6.out (by unfold maxLen; omega) s0 rfl rfl hx ?_; intro w7 hset7 hg7)
        have HS7 := Lib.hid (hset7.congr (S' := fun x => d.contains x || inN (l.take (k + 1)) x) (fun y _ => by show (d.contains y || inN (l.take k) y || y == s0) = (d.contains y || inN (l.take (k + 1)) y); rw [HIN.out, Bool.or_assoc]; congr 2; rw [Bool.eq_iff_iff]; simp; exact eq_comm))
        have HB_w7 : Below w.heap.size w w7 := HB_w6.grown hg7 HB_w6.size (fun j hj => by cases hj; have := HB_wb.size; omega)
        have HO7 := Lib.hid (own_past HO6.out hg7 hml)
        have hs7 : wc.heap.size ≤ w7.heap.size := Nat.le_trans hs6 hg7.size
        clear hset7 hg7
        go_wp2_with fail
        go_roundw
        case rel => exact ⟨k + 1, by omega, by go_num, HB_w7, hs7, by show OwnL _ _ _ _ _ _ _; rw [HN.out]; exact HO7.out, HS7⟩
        case measure => simp [intOf]; omega
      · have hlook := HSET.out.look hx (v := true) (by show (d.contains s0 || inN (l.take k) s0) = true; rw [hc]; rfl)
        have HN := Lib.hid (show orderF (l.take (k + 1)) d = ys by rw [HST.out, hc]; rfl)
        have HS7 := Lib.hid (SetOf.mono (HSET.out.congr (S' := fun x => d.contains x || inN (l.take (k + 1)) x) (fun y _ => by
          show (d.contains y || inN (l.take k) y) = (d.contains y || inN (l.take (k + 1)) y)
          rw [HIN.out]
          by_cases hy : s0 = y
          · subst hy; rw [hc]; rfl
          · rw [show (s0 == y) = false from beq_eq_false_iff_ne.2 hy, Bool.or_false])) (n' := d.length + (k + 1)) (by omega))
        clear hc hZ1
        go_wp2_with fail
        go_roundw
        case rel => exact ⟨k + 1, by omega, by go_num, HB_W1, hsw1, by show OwnL _ _ _ _ _ _ _; rw [HN.out]; exact HO1.out, HS7⟩
        case measure => simp [intOf]; omega
    · obtain rfl : k = l.length := by omega
      rw [List.take_length] at HO
      obtain ⟨vo, vc, rfl, hss⟩ := HO.out.sl cI_len
      have HSS := Lib.hid hss
      clear HO hss
      go_wp2_with fail
      go_ret2
      exact ⟨vo, _, vc, by rw [HP.out]; rfl, by rw [HP.out]; exact HSS.out, HB_wr⟩
end Go.Proofs.Ytofilkphaelceaa
