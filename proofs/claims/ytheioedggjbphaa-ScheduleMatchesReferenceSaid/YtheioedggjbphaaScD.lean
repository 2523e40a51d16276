/-
  Walks of the layer 'schedule': Push and Pop of the jobs that wait.
-/
import Derived.Test.YtheioedggjbphaaScC
set_option linter.unusedVariables false
namespace Go.Proofs.Ytheioedggjbphaa
open Go Go.RowKit Sc Sk Go.Sort
theorem info_int : (Try.prog.info? 3).map (fun i => (i.zero, i.size, i.bytes)) = some (some (.int .i64 0), 1, 8) := by kernel_rfl
theorem as_int (n : Int) (w : World) : (Instr.typeAssert (.iface 3 (.int .i64 n)) 20 3 false).run Try.prog w = .ok (.int .i64 n) w := by kernel_rfl
set_option maxRecDepth 100000 in
set_option maxHeartbeats 4000000 in
theorem wpush_any (B base : Nat) (a v : Value) (q : List Nat) (x : Nat) (w : World) (h : HQ w B base a v q) (hB : B < base) (hbs : base ≤ w.heap.size) (hl : q.length ≤ 1000) :
    Calls Try.prog 114 #[.pointer (some ⟨B, 0, none⟩), .iface 3 (.int .i64 x)] w (fun e w' => e = .returned (.tuple #[]) ∧ ∃ v', HQ w' B base a v' (q ++ [x]) ∧ HK w w' B v v') := by
  obtain ⟨i0, hi, hz0, hz1, hz2⟩ := info_parts info_int
  have HI := Lib.hid hi
  have HZ0 := Lib.hid hz0
  have HZ1 := Lib.hid hz1
  have HZ2 := Lib.hid hz2
  clear hi hz0 hz1 hz2
  obtain ⟨W, hW⟩ : ∃ W, w.drew = W := ⟨_, rfl⟩
  have HBW : Below w.heap.size w W := hW ▸ (Below.refl _ _).drew
  have hWs : W.heap.size = w.heap.size := by rw [← hW]; rfl
  have H_B := Lib.hid (h.box.below HBW)
  have HO := Lib.hid (h.own.below HBW)
  have hBs : B < w.heap.size := by omega
  obtain ⟨h0, h1⟩ := H_B.out.c2
  have hta := fun w => as_int (x : Int) w
  have y_n : Nonempty (Wc (fun W => True)) := ⟨⟨W, trivial⟩⟩
  clear h
  go_enter Try.func114, Try.ntmps114
  go_wp2_with fail
  refine wp_region_plan (C := fun w' => ∃ p : Wc (fun W => True), w' = p.w) (.q 0 (.q 1 (.q 2 (.q 3 (.q 5 (.two 4 (.e 6 (.e 7 (.e 8 (.q 9 (.q 10 (.e 11 (.done))))))) 6 (.two 4 (.e 7 (.e 8 (.q 9 (.q 10 (.e 11 (.done)))))) 7 (.e 4 (.e 8 (.q 9 (.q 10 (.e 11 (.done))))))))))))) 12 (by kernel_rfl) (by kernel_rfl) ⟨⟨_, ?_⟩, rfl⟩ ?_
  · trivial
  repeat (any_goals (first | (go_big_quiet_skip; refine wpQuiet_nil ?_) | (go_big_quiet_want; go_big_quiet_op; go_big_quiet_on; refine wpQuiet_nil ?_) | ((with_reducible apply q_split); exact rfl; intro q hq; cases q <;> (rw [hq]; (try first | replace hq := bnot_t hq | replace hq := bnot_f hq); (try first | replace hq := of_decide_eq_true hq | replace hq := of_decide_eq_false hq | replace hq := eq_of_beq hq); (try first | replace hq := Int.not_lt.1 hq | replace hq := Int.not_le.1 hq | replace hq := Nat.not_lt.1 hq | replace hq := Nat.not_le.1 hq); try (exfalso; omega))) | (refine plan_q rfl rfl ?_)))
  rw [show ({ heap := w.heap, tape := w.tape, drawn := w.drawn + 1, os := w.os, output := w.output } : World) = W from hW]
  obtain ⟨R, hR⟩ : ∃ R, w.heap.size = R := ⟨_, rfl⟩
  rw [hR] at hWs
  obtain ⟨W1, hW1, hB1, hZ1, hb1⟩ := boxes1 W [.int .i64 (x : Int)] 3
  rw [hWs] at hb1 hZ1
  have HX := Lib.hid (show Sl W1 1 cN (some ⟨R, 0, none⟩) 1 1 [x] from Sl.one (x := x) cN_len hb1)
  have HO1 := Lib.hid (HO.out.below hB1)
  have H_B1 := Lib.hid (H_B.out.below hB1)
  have k1 := H_B1.out.c2.2
  have HB1 := Lib.hid hB1
  clear hW hb1 hB1 h0
  refine plan_two rfl rfl ?_ ?_
  ·
    go_wp2_with fail
    refine MixPost.intro ⟨⟨_, trivial⟩, rfl⟩ ?_
    repeat (any_goals (first | (go_big_quiet_skip; refine wpQuiet_nil ?_) | (go_big_quiet_want; go_big_quiet_op; go_big_quiet_on; refine wpQuiet_nil ?_) | ((with_reducible apply q_split); exact rfl; intro q hq; cases q <;> (rw [hq]; (try first | replace hq := bnot_t hq | replace hq := bnot_f hq); (try first | replace hq := of_decide_eq_true hq | replace hq := of_decide_eq_false hq | replace hq := eq_of_beq hq); (try first | replace hq := Int.not_lt.1 hq | replace hq := Int.not_le.1 hq | replace hq := Nat.not_lt.1 hq | replace hq := Nat.not_le.1 hq); try (exfalso; omega))) | (refine plan_q rfl rfl ?_)))
    refine plan_e rfl ?_
    go_wp2_with fail
    refine MixPost.intro ⟨⟨_, trivial⟩, rfl⟩ ?_
    repeat (any_goals (first | (go_big_quiet_skip; refine wpQuiet_nil ?_) | (go_big_quiet_want; go_big_quiet_op; go_big_quiet_on; refine wpQuiet_nil ?_) | ((with_reducible apply q_split); exact rfl; intro q hq; cases q <;> (rw [hq]; (try first | replace hq := bnot_t hq | replace hq := bnot_f hq); (try first | replace hq := of_decide_eq_true hq | replace hq := of_decide_eq_false hq | replace hq := eq_of_beq hq); (try first | replace hq := Int.not_lt.1 hq | replace hq := Int.not_le.1 hq | replace hq := Nat.not_lt.1 hq | replace hq := Nat.not_le.1 hq); try (exfalso; omega))) | (refine plan_q rfl rfl ?_)))
    clear h1
    refine plan_e rfl ?_
    go_wp2_with fail
    refine MixPost.intro ⟨⟨_, trivial⟩, rfl⟩ ?_
    repeat (any_goals (first | (go_big_quiet_skip; refine wpQuiet_nil ?_) | (go_big_quiet_want; go_big_quiet_op; go_big_quiet_on; refine wpQuiet_nil ?_) | ((with_reducible apply q_split); exact rfl; intro q hq; cases q <;> (rw [hq]; (try first | replace hq := bnot_t hq | replace hq := bnot_f hq); (try first | replace hq := of_decide_eq_true hq | replace hq := of_decide_eq_false hq | replace hq := eq_of_beq hq); (try first | replace hq := Int.not_lt.1 hq | replace hq := Int.not_le.1 hq | replace hq := Nat.not_lt.1 hq | replace hq := Nat.not_le.1 hq); try (exfalso; omega))) | (refine plan_q rfl rfl ?_)))
    clear hW1
    refine plan_e rfl ?_
    go_wp2_with (at_builtin; refine wpList_append_lie rfl _ _ 30 rfl base 3 i0 _ 1 8 Try.underlying30 HI.out HZ0.out HZ1.out HZ2.out rfl (by decide) cN_len cN_one _ q rfl HO1.out (some ⟨R, 0, none⟩) 1 1 [x] rfl HX.out (by omega) (by unfold maxLen; omega) (by omega) (by omega) ?_)
    rintro g cap w6 ho6 hl6 hg6 hlie hgs
    have H_B6 := Lib.hid (H_B1.out.grown hg6 (fun e => by have := (World.ownsRow.lt HO1.out B e.symm).1; omega))
    have l1 := H_B6.out.c2.2
    have lf := H_B6.out.frozen
    clear k1
    refine MixPost.intro ⟨⟨_, trivial⟩, rfl⟩ ?_
    repeat (any_goals (first | (go_big_quiet_skip; refine wpQuiet_nil ?_) | (go_big_quiet_want; go_big_quiet_op; go_big_quiet_on; refine wpQuiet_nil ?_) | ((with_reducible apply q_split); exact rfl; intro q hq; cases q <;> (rw [hq]; (try first | replace hq := bnot_t hq | replace hq := bnot_f hq); (try first | replace hq := of_decide_eq_true hq | replace hq := of_decide_eq_false hq | replace hq := eq_of_beq hq); (try first | replace hq := Int.not_lt.1 hq | replace hq := Int.not_le.1 hq | replace hq := Nat.not_lt.1 hq | replace hq := Nat.not_le.1 hq); try (exfalso; omega))) | (refine plan_q rfl rfl ?_)))
    refine plan_e rfl ?_
    go_wp2_with fail
    refine MixPost.intro ⟨⟨_, trivial⟩, rfl⟩ ?_
    clear y_n l1 lf
    refine plan_done ?_
    try simp only [List.drop_succ_cons, List.drop_zero]
    go_wp2_with fail
    refine NoPanic.normal ?_
    go_wp2_with fail
    go_end0
    refine ⟨rfl, _, ⟨H_B6.out.set 1 _, ?_⟩, ?_⟩
    · have := ho6.setCell (b := B) (j := 1) (x := .slice (some ⟨g, 0, none⟩) (q.length + 1) cap) hB
      exact this
    · refine ⟨?_, ?_, ?_, ?_⟩
      · exact (((HBW.mono (by omega)).trans (HB1.out.mono (by omega))).trans (hl6 _ (by omega))).setCell (p := ⟨B, 1, none⟩) (Nat.le_refl B) _
      · have := hg6.size; simp; omega
      · intro j hj hjB hjo
        exact (Below.heap_setCell w6 ⟨B, 1, none⟩ _ j hjB).trans ((hg6.block j (by omega) hjo).trans ((HB1.out.block j (by omega)).trans (HBW.block j hj)))
      · rcases hlie with e | e
        · exact .inl (by rw [e]; rfl)
        · refine .inr fun j hj => ?_
          have : g = j := by simpa [Value.ownBlock] using hj
          omega
  ·
    go_wp2_with fail
    refine MixPost.intro ⟨⟨_, trivial⟩, rfl⟩ ?_
    repeat (any_goals (first | (go_big_quiet_skip; refine wpQuiet_nil ?_) | (go_big_quiet_want; go_big_quiet_op; go_big_quiet_on; refine wpQuiet_nil ?_) | ((with_reducible apply q_split); exact rfl; intro q hq; cases q <;> (rw [hq]; (try first | replace hq := bnot_t hq | replace hq := bnot_f hq); (try first | replace hq := of_decide_eq_true hq | replace hq := of_decide_eq_false hq | replace hq := eq_of_beq hq); (try first | replace hq := Int.not_lt.1 hq | replace hq := Int.not_le.1 hq | replace hq := Nat.not_lt.1 hq | replace hq := Nat.not_le.1 hq); try (exfalso; omega))) | (refine plan_q rfl rfl ?_)))
    refine plan_two rfl rfl ?_ ?_
    ·
      go_wp2_with fail
      refine MixPost.intro ⟨⟨_, trivial⟩, rfl⟩ ?_
      repeat (any_goals (first | (go_big_quiet_skip; refine wpQuiet_nil ?_) | (go_big_quiet_want; go_big_quiet_op; go_big_quiet_on; refine wpQuiet_nil ?_) | ((with_reducible apply q_split); exact rfl; intro q hq; cases q <;> (rw [hq]; (try first | replace hq := bnot_t hq | replace hq := bnot_f hq); (try first | replace hq := of_decide_eq_true hq | replace hq := of_decide_eq_false hq | replace hq := eq_of_beq hq); (try first | replace hq := Int.not_lt.1 hq | replace hq := Int.not_le.1 hq | replace hq := Nat.not_lt.1 hq | replace hq := Nat.not_le.1 hq); try (exfalso; omega))) | (refine plan_q rfl rfl ?_)))
      clear h1
      refine plan_e rfl ?_
      go_wp2_with fail
      refine MixPost.intro ⟨⟨_, trivial⟩, rfl⟩ ?_
      repeat (any_goals (first | (go_big_quiet_skip; refine wpQuiet_nil ?_) | (go_big_quiet_want; go_big_quiet_op; go_big_quiet_on; refine wpQuiet_nil ?_) | ((with_reducible apply q_split); exact rfl; intro q hq; cases q <;> (rw [hq]; (try first | replace hq := bnot_t hq | replace hq := bnot_f hq); (try first | replace hq := of_decide_eq_true hq | replace hq := of_decide_eq_false hq | replace hq := eq_of_beq hq); (try first | replace hq := Int.not_lt.1 hq | replace hq := Int.not_le.1 hq | replace hq := Nat.not_lt.1 hq | replace hq := Nat.not_le.1 hq); try (exfalso; omega))) | (refine plan_q rfl rfl ?_)))
      clear hW1
      refine plan_e rfl ?_
      go_wp2_with (at_builtin; refine wpList_append_lie rfl _ _ 30 rfl base 3 i0 _ 1 8 Try.underlying30 HI.out HZ0.out HZ1.out HZ2.out rfl (by decide) cN_len cN_one _ q rfl HO1.out (some ⟨R, 0, none⟩) 1 1 [x] rfl HX.out (by omega) (by unfold maxLen; omega) (by omega) (by omega) ?_)
      rintro g cap w6 ho6 hl6 hg6 hlie hgs
      have H_B6 := Lib.hid (H_B1.out.grown hg6 (fun e => by have := (World.ownsRow.lt HO1.out B e.symm).1; omega))
      have l1 := H_B6.out.c2.2
      have lf := H_B6.out.frozen
      clear k1
      refine MixPost.intro ⟨⟨_, trivial⟩, rfl⟩ ?_
      repeat (any_goals (first | (go_big_quiet_skip; refine wpQuiet_nil ?_) | (go_big_quiet_want; go_big_quiet_op; go_big_quiet_on; refine wpQuiet_nil ?_) | ((with_reducible apply q_split); exact rfl; intro q hq; cases q <;> (rw [hq]; (try first | replace hq := bnot_t hq | replace hq := bnot_f hq); (try first | replace hq := of_decide_eq_true hq | replace hq := of_decide_eq_false hq | replace hq := eq_of_beq hq); (try first | replace hq := Int.not_lt.1 hq | replace hq := Int.not_le.1 hq | replace hq := Nat.not_lt.1 hq | replace hq := Nat.not_le.1 hq); try (exfalso; omega))) | (refine plan_q rfl rfl ?_)))
      refine plan_e rfl ?_
      go_wp2_with fail
      refine MixPost.intro ⟨⟨_, trivial⟩, rfl⟩ ?_
      clear y_n l1 lf
      refine plan_done ?_
      try simp only [List.drop_succ_cons, List.drop_zero]
      go_wp2_with fail
      refine NoPanic.normal ?_
      go_wp2_with fail
      go_end0
      refine ⟨rfl, _, ⟨H_B6.out.set 1 _, ?_⟩, ?_⟩
      · have := ho6.setCell (b := B) (j := 1) (x := .slice (some ⟨g, 0, none⟩) (q.length + 1) cap) hB
        exact this
      · refine ⟨?_, ?_, ?_, ?_⟩
        · exact (((HBW.mono (by omega)).trans (HB1.out.mono (by omega))).trans (hl6 _ (by omega))).setCell (p := ⟨B, 1, none⟩) (Nat.le_refl B) _
        · have := hg6.size; simp; omega
        · intro j hj hjB hjo
          exact (Below.heap_setCell w6 ⟨B, 1, none⟩ _ j hjB).trans ((hg6.block j (by omega) hjo).trans ((HB1.out.block j (by omega)).trans (HBW.block j hj)))
        · rcases hlie with e | e
          · exact .inl (by rw [e]; rfl)
          · refine .inr fun j hj => ?_
            have : g = j := by simpa [Value.ownBlock] using hj
            omega
    · clear h1
      go_wp2_with fail
      refine MixPost.intro ⟨⟨_, trivial⟩, rfl⟩ ?_
      repeat (any_goals (first | (go_big_quiet_skip; refine wpQuiet_nil ?_) | (go_big_quiet_want; go_big_quiet_op; go_big_quiet_on; refine wpQuiet_nil ?_) | ((with_reducible apply q_split); exact rfl; intro q hq; cases q <;> (rw [hq]; (try first | replace hq := bnot_t hq | replace hq := bnot_f hq); (try first | replace hq := of_decide_eq_true hq | replace hq := of_decide_eq_false hq | replace hq := eq_of_beq hq); (try first | replace hq := Int.not_lt.1 hq | replace hq := Int.not_le.1 hq | replace hq := Nat.not_lt.1 hq | replace hq := Nat.not_le.1 hq); try (exfalso; omega))) | (refine plan_q rfl rfl ?_)))
      clear hW1
      refine plan_e rfl ?_
      go_wp2_with fail
      refine MixPost.intro ⟨⟨_, trivial⟩, rfl⟩ ?_
      repeat (any_goals (first | (go_big_quiet_skip; refine wpQuiet_nil ?_) | (go_big_quiet_want; go_big_quiet_op; go_big_quiet_on; refine wpQuiet_nil ?_) | ((with_reducible apply q_split); exact rfl; intro q hq; cases q <;> (rw [hq]; (try first | replace hq := bnot_t hq | replace hq := bnot_f hq); (try first | replace hq := of_decide_eq_true hq | replace hq := of_decide_eq_false hq | replace hq := eq_of_beq hq); (try first | replace hq := Int.not_lt.1 hq | replace hq := Int.not_le.1 hq | replace hq := Nat.not_lt.1 hq | replace hq := Nat.not_le.1 hq); try (exfalso; omega))) | (refine plan_q rfl rfl ?_)))
      refine plan_e rfl ?_
      go_wp2_with (at_builtin; refine wpList_append_lie rfl _ _ 30 rfl base 3 i0 _ 1 8 Try.underlying30 HI.out HZ0.out HZ1.out HZ2.out rfl (by decide) cN_len cN_one _ q rfl HO1.out (some ⟨R, 0, none⟩) 1 1 [x] rfl HX.out (by omega) (by unfold maxLen; omega) (by omega) (by omega) ?_)
      rintro g cap w6 ho6 hl6 hg6 hlie hgs
      have H_B6 := Lib.hid (H_B1.out.grown hg6 (fun e => by have := (World.ownsRow.lt HO1.out B e.symm).1; omega))
      have l1 := H_B6.out.c2.2
      have lf := H_B6.out.frozen
      clear k1
      refine MixPost.intro ⟨⟨_, trivial⟩, rfl⟩ ?_
      repeat (any_goals (first | (go_big_quiet_skip; refine wpQuiet_nil ?_) | (go_big_quiet_want; go_big_quiet_op; go_big_quiet_on; refine wpQuiet_nil ?_) | ((with_reducible apply q_split); exact rfl; intro q hq; cases q <;> (rw [hq]; (try first | replace hq := bnot_t hq | replace hq := bnot_f hq); (try first | replace hq := of_decide_eq_true hq | replace hq := of_decide_eq_false hq | replace hq := eq_of_beq hq); (try first | replace hq := Int.not_lt.1 hq | replace hq := Int.not_le.1 hq | replace hq := Nat.not_lt.1 hq | replace hq := Nat.not_le.1 hq); try (exfalso; omega))) | (refine plan_q rfl rfl ?_)))
      refine plan_e rfl ?_
      go_wp2_with fail
      refine MixPost.intro ⟨⟨_, trivial⟩, rfl⟩ ?_
      clear y_n l1 lf
      refine plan_done ?_
      try simp only [List.drop_succ_cons, List.drop_zero]
      go_wp2_with fail
      refine NoPanic.normal ?_
      go_wp2_with fail
      go_end0
      refine ⟨rfl, _, ⟨H_B6.out.set 1 _, ?_⟩, ?_⟩
      · have := ho6.setCell (b := B) (j := 1) (x := .slice (some ⟨g, 0, none⟩) (q.length + 1) cap) hB
        exact this
      · refine ⟨?_, ?_, ?_, ?_⟩
        · exact (((HBW.mono (by omega)).trans (HB1.out.mono (by omega))).trans (hl6 _ (by omega))).setCell (p := ⟨B, 1, none⟩) (Nat.le_refl B) _
        · have := hg6.size; simp; omega
        · intro j hj hjB hjo
          exact (Below.heap_setCell w6 ⟨B, 1, none⟩ _ j hjB).trans ((hg6.block j (by omega) hjo).trans ((HB1.out.block j (by omega)).trans (HBW.block j hj)))
        · rcases hlie with e | e
          · exact .inl (by rw [e]; rfl)
          · refine .inr fun j hj => ?_
            have : g = j := by simpa [Value.ownBlock] using hj
            omega
theorem flat_take {α : Type} {enc : α → List Value} {size : Nat} (hk : ∀ x, (enc x).length = size) : ∀ (ys : List α) (m : Nat), (ys.take m).flatMap enc = (ys.flatMap enc).take (m * size)
  | [], m => by simp
  | y :: ys, 0 => by simp
  | y :: ys, m + 1 => by
    rw [List.take_succ_cons, List.flatMap_cons, List.flatMap_cons, flat_take hk ys m, List.take_append, hk, Nat.succ_mul, show m * size + size - size = m * size by omega, List.take_of_length_le (l := enc y) (by rw [hk]; omega)]
theorem own_trunc {α : Type} {enc : α → List Value} {w : World} {base e size g n cap : Nat} {ys : List α} (hk : ∀ x, (enc x).length = size) (h : OwnL w base e size enc (.slice (some ⟨g, 0, none⟩) n cap) ys) {m : Nat} (hm : m ≤ ys.length) : OwnL w base e size enc (.slice (some ⟨g, 0, none⟩) m cap) (ys.take m) := by
  obtain rfl := h.len
  obtain ⟨h1, h2⟩ := h
  rcases h2 with ⟨h2, _⟩ | ⟨g', cap', cur, h2, h3, h4, h5, h6, h7, h8⟩
  · simp at h2
  · simp only [Value.slice.injEq] at h2
    obtain ⟨h2, _, rfl⟩ := h2
    have hle : m * size ≤ ys.length * size := Nat.mul_le_mul_right _ hm
    refine ⟨by rw [flat_take hk, List.length_take, h1, List.length_take]; rw [Nat.min_eq_left hm, Nat.min_eq_left hle], .inr ⟨g', _, cur, ?_, h3, h4, ?_, h6, h7, ?_⟩⟩
    · rw [List.length_take, Nat.min_eq_left hm, h2]
    · rw [List.length_take]; omega
    · rw [List.length_take, Nat.min_eq_left hm, flat_take hk, ← h8, List.take_take, Nat.min_eq_left hle]
set_option maxRecDepth 100000 in
set_option maxHeartbeats 4000000 in
theorem wpop_any (B base : Nat) (a v : Value) (q : List Nat) (w : World) (h : HQ w B base a v q) (hB : B < base) (hq : 0 < q.length) :
    Calls Try.prog 113 #[.pointer (some ⟨B, 0, none⟩)] w (fun e w' => e = .returned (.iface 3 (.int .i64 (at_ q (q.length - 1)))) ∧ ∃ v', HQ w' B base a v' (q.take (q.length - 1)) ∧ HK w w' B v v') := by
  obtain ⟨g, cap, rfl, hg, hgs⟩ := h.own.form' hq
  obtain ⟨m, hm⟩ : ∃ m, q.length = m + 1 := ⟨q.length - 1, by omega⟩
  have HH := Lib.hid h
  have hsl := h.own.slG cN_len
  have hq1 := hsl.max
  have hq2 := hsl.le
  unfold maxLen at hq1
  have hst := slice_head (P := Try.prog) (t := 30) (by kernel_rfl) (fun W => by kernel_rfl) hsl m (by omega)
  obtain ⟨bj, offj, ej, hbj, hrow⟩ := hsl.get (i := m) (by omega)
  cases ej
  have e_0 := (hrow m (by omega)).c1
  have HT := Lib.hid (own_trunc cN_len h.own (m := m) (by omega))
  rw [hm, show m + 1 - 1 = m by omega, at_get (show m < q.length by omega)]
  obtain ⟨h0, h1⟩ := h.box.c2
  have hf := h.box.frozen
  have hmi : (m : Int) < (q.length : Int) := by omega
  have hix : (q.length : Int) - 1 = (m : Int) := by omega
  simp only [Nat.mul_one, Nat.zero_add] at e_0
  generalize q[m] = x at *
  clear h hsl hrow hm
  go_enter Try.func113, Try.ntmps113
  go_wp2_with fail
  go_ret
  refine ⟨rfl, _, ⟨HH.out.box.set 1 _, HT.out.setCell hB⟩, (Below.refl B w).setCell (p := ⟨B, 1, none⟩) (Nat.le_refl B) _, by simp, fun j _ hjB _ => Below.heap_setCell w ⟨B, 1, none⟩ _ j hjB, .inl rfl⟩
end Go.Proofs.Ytheioedggjbphaa
