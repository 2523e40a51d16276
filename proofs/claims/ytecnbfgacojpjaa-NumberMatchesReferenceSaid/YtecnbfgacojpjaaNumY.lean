/-
  The reference functions of 'number': Parse.
-/
import Derived.Test.YtecnbfgacojpjaaNumT
import Derived.Test.YtecnbfgacojpjaaNumC
namespace Go.Proofs.Ytecnbfgacojpjaa
open Go.RowKit Nb Sk Go.Sort

/-- Parse, once more -/
theorem parse_four {s : ByteArray} (h4 : s.size = 4) (h2 : 48 ≤ byt s 2 ∧ byt s 2 ≤ 57) (h3 : 48 ≤ byt s 3 ∧ byt s 3 ≤ 57) :
    parse s = if okN ⟨byt s 0 - 64, byt s 1 - 64, 10 * (byt s 2 - 48) + (byt s 3 - 48)⟩ = true then (⟨byt s 0 - 64, byt s 1 - 64, 10 * (byt s 2 - 48) + (byt s 3 - 48)⟩, 0) else (zeroN, 1) := by
  by_cases hv : okN ⟨byt s 0 - 64, byt s 1 - 64, 10 * (byt s 2 - 48) + (byt s 3 - 48)⟩ = true
  · rw [if_pos hv]; unfold parse; rw [if_pos]
    have := okN_iff.1 hv
    dsimp only at this
    exact ⟨h4, by omega, by omega, h2, h3, hv⟩
  · rw [if_neg hv]; unfold parse; rw [if_neg]
    rintro ⟨_, _, _, _, _, hv'⟩; exact hv hv'
theorem parse_no {s : ByteArray} (h : ¬ (48 ≤ byt s 2 ∧ byt s 2 ≤ 57 ∧ 48 ≤ byt s 3 ∧ byt s 3 ≤ 57)) : parse s = (zeroN, 1) := by
  unfold parse; rw [if_neg]
  rintro ⟨_, _, _, h2, h3, _⟩; exact h ⟨h2.1, h2.2, h3.1, h3.2⟩

set_option maxRecDepth 100000 in
set_option maxHeartbeats 2000000 in
theorem rparse_any (s : ByteArray) (w : World) : Calls Try.prog 25 #[.string s] w (Ret w (.tuple #[.agg #[.int .i64 (parse s).1.st, .int .i64 (parse s).1.kd, .int .i64 (parse s).1.nu], .int .i64 (parse s).2])) := by
  obtain ⟨p, hp⟩ : ∃ p, parse s = p := ⟨_, rfl⟩
  have HP := Lib.hid hp
  rw [hp]
  clear hp
  obtain ⟨W0, hW0, HB_W0, hZ, hn⟩ := boxes1 w [.int .i64 0, .int .i64 0, .int .i64 0] 23
  have H_r := Lib.hid hn
  clear hn hZ
  have f1 := H_r.out.frozen
  obtain ⟨r0, r1, r2⟩ := H_r.out.c3
  by_cases h4 : s.size = 4
  · have H4 := Lib.hid h4
    have b0 : byt s 0 = ((s[0]'(by omega)).toNat : Int) := by unfold byt; rw [dif_pos (by omega)]
    have b1 : byt s 1 = ((s[1]'(by omega)).toNat : Int) := by unfold byt; rw [dif_pos (by omega)]
    have b2 : byt s 2 = ((s[2]'(by omega)).toNat : Int) := by unfold byt; rw [dif_pos (by omega)]
    have b3 : byt s 3 = ((s[3]'(by omega)).toNat : Int) := by unfold byt; rw [dif_pos (by omega)]
    have HB := Lib.hid (And.intro b0 (And.intro b1 (And.intro b2 b3)))
    have hr0 : 0 < s.size := by omega
    have hr1 : 1 < s.size := by omega
    have hr2 : 2 < s.size := by omega
    have hr3 : 3 < s.size := by omega
    clear b0 b1 b2 b3
    go_enter Try.func25, Try.ntmps25
    go_wp2_with fail
    all_goals first
      | (have HT : Hid (p = (zeroN, 1)) := HP.out.symm.trans (parse_no (fun h => by have := HB.out; omega))
         obtain ⟨s0, s1, s2⟩ := (((H_r.out.set 0 (.int .i64 0)).set 1 (.int .i64 0)).set 2 (.int .i64 0)).c3
         refine bodyPost_ret (v := .tuple #[.agg #[.int .i64 0, .int .i64 0, .int .i64 0], .int .i64 1]) (by simp [results, Try.results25, go_sem, s0, s1, s2]) rfl ⟨by rw [HT.out]; rfl, ((HB_W0.setCell (p := ⟨w.heap.size, 0, none⟩) (Nat.le_refl _) _).setCell (p := ⟨w.heap.size, 1, none⟩) (Nat.le_refl _) _).setCell (p := ⟨w.heap.size, 2, none⟩) (Nat.le_refl _) _⟩)
      | skip
    have HT := Lib.hid (HP.out.symm.trans (parse_four h4 (by have := HB.out; omega) (by have := HB.out; omega)))
    have l0 := (s[0]'hr0).toNat_lt
    have l1 := (s[1]'hr1).toNat_lt
    clear r0 r1 r2
    refine wp_region_plan (C := fun w' => ∃ p : Regrown, w' = grow (redrawn W0 p.d) p.os) (.q 0 (.q 1 (.q 2 (.q 3 (.q 4 (.q 5 (.q 6 (.q 7 (.q 8 (.q 9 (.q 10 (.q 11 (.q 12 (.q 13 (.q 14 (.q 15 (.q 16 (.q 17 (.q 18 (.q 19 (.q 20 (.e 21 (.done))))))))))))))))))))))) 22 (by kernel_rfl) (by kernel_rfl) (grew_drew _) ?_
    repeat (any_goals (first | (go_big_quiet_skip; refine wpQuiet_nil ?_) | (go_big_quiet_want; go_big_quiet_op; go_big_quiet_on; refine wpQuiet_nil ?_) | ((with_reducible apply q_split); exact rfl; intro q hq; cases q <;> (rw [hq]; (try first | replace hq := bnot_t hq | replace hq := bnot_f hq); (try first | replace hq := of_decide_eq_true hq | replace hq := of_decide_eq_false hq | replace hq := eq_of_beq hq); (try first | replace hq := Int.not_lt.1 hq | replace hq := Int.not_le.1 hq | replace hq := Nat.not_lt.1 hq | replace hq := Nat.not_le.1 hq); try (exfalso; omega))) | (refine plan_q rfl rfl ?_)))
    generalize (s[0]'hr0).toNat = c0 at *
    generalize (s[1]'hr1).toNat = c1 at *
    generalize (s[2]'hr2).toNat = c2 at *
    generalize (s[3]'hr3).toNat = c3 at *
    clear hr0 hr1 hr2 hr3
    refine plan_e rfl ?_
    go_wp2_with fail
    refine MixPost.intro (grew_of_below (grew1 (Below.refl _ _)).drew) ?_
    repeat (any_goals (first | (go_big_quiet_skip; refine wpQuiet_nil ?_) | (go_big_quiet_want; go_big_quiet_op; go_big_quiet_on; refine wpQuiet_nil ?_) | ((with_reducible apply q_split); exact rfl; intro q hq; cases q <;> (rw [hq]; (try first | replace hq := bnot_t hq | replace hq := bnot_f hq); (try first | replace hq := of_decide_eq_true hq | replace hq := of_decide_eq_false hq | replace hq := eq_of_beq hq); (try first | replace hq := Int.not_lt.1 hq | replace hq := Int.not_le.1 hq | replace hq := Nat.not_lt.1 hq | replace hq := Nat.not_le.1 hq); try (exfalso; omega))) | (refine plan_q rfl rfl ?_)))
    all_goals refine plan_done ?_
    all_goals (try simp only [List.drop_succ_cons, List.drop_zero])
    all_goals (try go_wp2_with fail)
    all_goals refine NoPanic.normal ?_
    all_goals (try go_wp2_with fail)
    have HQ := Lib.hid (show p = if okN ⟨(c0 : Int) - 65 + 1, (c1 : Int) - 65 + 1, 10 * ((c2 : Int) - 48) + ((c3 : Int) - 48)⟩ = true then (⟨(c0 : Int) - 65 + 1, (c1 : Int) - 65 + 1, 10 * ((c2 : Int) - 48) + ((c3 : Int) - 48)⟩, 0) else (zeroN, 1) by
      have h := HB.out
      rw [HT.out, h.1, h.2.1, h.2.2.1, h.2.2.2, show (c0 : Int) - 64 = c0 - 65 + 1 by omega, show (c1 : Int) - 64 = c1 - 65 + 1 by omega])
    generalize (c0 : Int) - 65 + 1 = x0 at *
    generalize (c1 : Int) - 65 + 1 = x1 at *
    generalize 10 * ((c2 : Int) - 48) + ((c3 : Int) - 48) = x2 at *
    have HN : Hid (Box (W0.alloc (.cells #[.int .i64 x0, .int .i64 x1, .int .i64 x2] 23)).drew W0.heap.size 23 [.int .i64 x0, .int .i64 x1, .int .i64 x2]) := Box.drew (Box.new W0 [.int .i64 x0, .int .i64 x1, .int .i64 x2] 23)
    have HBW : Below W0.heap.size W0 (W0.alloc (.cells #[.int .i64 x0, .int .i64 x1, .int .i64 x2] 23)).drew := (grew1 (Below.refl _ _)).drew
    have HB_W1 : Below w.heap.size w (W0.alloc (.cells #[.int .i64 x0, .int .i64 x1, .int .i64 x2] 23)).drew := after0 HB_W0 HBW
    have H_r1 := Lib.hid (H_r.out.below HBW)
    generalize (W0.alloc (.cells #[.int .i64 x0, .int .i64 x1, .int .i64 x2] 23)).drew = W1 at *
    refine (rvalid_any _ _ _ _).mono ?_
    rintro e wa ⟨rfl, hb⟩
    have HB_a := after0 HB_W1 hb
    have H_r2 := Lib.hid (H_r1.out.below hb)
    obtain ⟨n0, n1, n2⟩ := (HN.out.below hb).c3
    have f2 := H_r2.out.frozen
    obtain ⟨r0, r1, r2⟩ := H_r2.out.c3
    clear f1 hW0 HBW hb
    cases hv : okN ⟨x0, x1, x2⟩
    · have HT2 := Lib.hid (HQ.out.trans (if_neg (by rw [hv]; simp)))
      go_wp2_with fail
      obtain ⟨s0, s1, s2⟩ := (((H_r2.out.set 0 (.int .i64 0)).set 1 (.int .i64 0)).set 2 (.int .i64 0)).c3
      refine bodyPost_ret (v := .tuple #[.agg #[.int .i64 0, .int .i64 0, .int .i64 0], .int .i64 1]) (by simp [results, Try.results25, go_sem, s0, s1, s2]) rfl ⟨by rw [HT2.out]; rfl, ((HB_a.setCell (p := ⟨w.heap.size, 0, none⟩) (Nat.le_refl _) _).setCell (p := ⟨w.heap.size, 1, none⟩) (Nat.le_refl _) _).setCell (p := ⟨w.heap.size, 2, none⟩) (Nat.le_refl _) _⟩
    · have HT2 := Lib.hid (HQ.out.trans (if_pos hv))
      go_wp2_with fail
      obtain ⟨s0, s1, s2⟩ := (((H_r2.out.set 0 (.int .i64 x0)).set 1 (.int .i64 x1)).set 2 (.int .i64 x2)).c3
      refine bodyPost_ret (v := .tuple #[.agg #[.int .i64 x0, .int .i64 x1, .int .i64 x2], .int .i64 0]) (by simp [results, Try.results25, go_sem, s0, s1, s2]) rfl ⟨by rw [HT2.out], ((HB_a.setCell (p := ⟨w.heap.size, 0, none⟩) (Nat.le_refl _) _).setCell (p := ⟨w.heap.size, 1, none⟩) (Nat.le_refl _) _).setCell (p := ⟨w.heap.size, 2, none⟩) (Nat.le_refl _) _⟩
  · have HT : Hid (p = (zeroN, 1)) := by show _ = _; rw [← HP.out]; simp [parse, h4]
    have h4' : ((s.size : Int) == 4) = false := by simp; omega
    go_enter Try.func25, Try.ntmps25
    go_wp2
    obtain ⟨s0, s1, s2⟩ := (((H_r.out.set 0 (.int .i64 0)).set 1 (.int .i64 0)).set 2 (.int .i64 0)).c3
    refine bodyPost_ret (v := .tuple #[.agg #[.int .i64 0, .int .i64 0, .int .i64 0], .int .i64 1]) (by simp [results, Try.results25, go_sem, s0, s1, s2]) rfl ⟨by rw [HT.out]; rfl, ((HB_W0.setCell (p := ⟨w.heap.size, 0, none⟩) (Nat.le_refl _) _).setCell (p := ⟨w.heap.size, 1, none⟩) (Nat.le_refl _) _).setCell (p := ⟨w.heap.size, 2, none⟩) (Nat.le_refl _) _⟩
end Go.Proofs.Ytecnbfgacojpjaa
