/-
  Walks of the layer 'schedule': what the heap's operations keep; Swap.
-/
import Derived.Test.YtheioedggjbphaaScB
import Derived.Test.YtheioedggjbphaaOrow
import Derived.Test.YtheioedggjbphaaApart
import Derived.Test.YtheioedggjbphaaCls
set_option linter.unusedVariables false
namespace Go.Proofs.Ytheioedggjbphaa
open Go Go.RowKit Sc Sk Go.Sort
/-- the heap: its struct, and the row of its indices -/
structure HQ (w : World) (B base : Nat) (a v : Value) (q : List Nat) : Prop where
  box : Box w B 79 [a, v]
  own : OwnL w base 3 1 cN v q
/-- what stays when the heap changes -/
structure HK (w w' : World) (B : Nat) (v v' : Value) : Prop where
  low : Below B w w'
  size : w.heap.size ≤ w'.heap.size
  oth : ∀ j, j < w.heap.size → j ≠ B → some j ≠ v.ownBlock → w'.heap[j]? = w.heap[j]?
  lies : v'.ownBlock = v.ownBlock ∨ ∀ j, v'.ownBlock = some j → w.heap.size ≤ j
theorem HK.refl (w : World) (B : Nat) (v : Value) : HK w w B v v := ⟨Below.refl _ _, Nat.le_refl _, fun _ _ _ _ => rfl, .inl rfl⟩
theorem HK.trans {w w1 w2 : World} {B : Nat} {v v1 v2 : Value} (h : HK w w1 B v v1) (k : HK w1 w2 B v1 v2) : HK w w2 B v v2 := by
  refine ⟨h.low.trans k.low, Nat.le_trans h.size k.size, fun j hj hb ho => ?_, ?_⟩
  · refine (k.oth j (Nat.lt_of_lt_of_le hj h.size) hb (fun e => ?_)).trans (h.oth j hj hb ho)
    rcases h.lies with l | l
    · exact ho (e.trans l)
    · have := l j e.symm; omega
  · rcases k.lies with l | l
    · rw [l]; exact h.lies
    · exact .inr fun j e => Nat.le_trans h.size (l j e)
theorem HK.of_below {w w' : World} {B : Nat} {v : Value} (h : Below w.heap.size w w') (hB : B ≤ w.heap.size) : HK w w' B v v := ⟨h.mono hB, h.size, fun j hj _ _ => h.block j hj, .inl rfl⟩
theorem HK.own {w w' : World} {B : Nat} {v v' : Value} (h : HK w w' B v v') {α : Type} {enc : α → List Value} {base e size : Nat} {u : Value} {ys : List α} (ho : OwnL w base e size enc u ys) (hb : B < base) (ha : Apart u v) : OwnL w' base e size enc u ys := by
  refine ⟨ho.1, ho.2.imp id (fun ⟨g, cap, cur, hv, hg, hgc, rest⟩ => ⟨g, cap, cur, hv, hg, ?_, rest⟩)⟩
  refine (h.oth g (Array.getElem?_eq_some_iff.1 hgc).1 (by omega) (fun e => ?_)).trans hgc
  exact ha g (by rw [hv]; rfl) e.symm
theorem HK.apart {w w' : World} {B : Nat} {v v' : Value} (h : HK w w' B v v') {α : Type} {enc : α → List Value} {base e size : Nat} {u : Value} {ys : List α} (ho : OwnL w base e size enc u ys) (ha : Apart u v) : Apart u v' := by
  intro g hu hv
  rcases h.lies with l | l
  · exact ha g hu (l ▸ hv)
  · have h1 := l g hv
    have h2 := (World.ownsRow.lt ho g hu).2
    omega
theorem HQ.below {w w' : World} {B base : Nat} {a v : Value} {q : List Nat} (h : HQ w B base a v q) (hb : Below w.heap.size w w') : HQ w' B base a v q := ⟨h.box.below hb, h.own.below hb⟩

set_option maxRecDepth 100000 in
set_option maxHeartbeats 4000000 in
theorem swap_any (B base : Nat) (a v : Value) (q : List Nat) (i k : Nat) (w : World) (h : HQ w B base a v q) (hB : B < base) (hi : i < q.length) (hk : k < q.length) :
    Calls Try.prog 115 #[.pointer (some ⟨B, 0, none⟩), .int .i64 i, .int .i64 k] w (fun e w' => e = .returned (.tuple #[]) ∧ HQ w' B base a v (Sc.swp q i k) ∧ HK w w' B v v) := by
  obtain ⟨g, cap, rfl, hg, hgs⟩ := h.own.form' (by omega)
  have hsl := h.own.slG cN_len
  have hq1 := hsl.max
  have hq2 := hsl.le
  unfold maxLen at hq1
  obtain ⟨W, hW⟩ : ∃ W, w.drew = W := ⟨_, rfl⟩
  have HBW : Below w.heap.size w W := hW ▸ (Below.refl _ _).drew
  have hWs : W.heap.size = w.heap.size := by rw [← hW]; rfl
  have H_B := Lib.hid (h.box.below HBW)
  have HO := Lib.hid (h.own.below HBW)
  have hgi := HO.out.cellG cN_len (j := i) (i := 0) (a := q[i]) (List.getElem?_eq_getElem hi) rfl
  have hgk := HO.out.cellG cN_len (j := k) (i := 0) (a := q[k]) (List.getElem?_eq_getElem hk) rfl
  have hfr := HO.out.frozenG
  simp only [Nat.mul_one, Nat.add_zero] at hgi hgk
  have hs1 := OwnL.setG cN_len HO.out hi (i := 0) (by decide) (u := .int .i64 (q[k] : Nat)) (a := q[k]) rfl
  have hs2 := OwnL.setG cN_len hs1.1 (j := k) (by simpa using hk) (i := 0) (by decide) (u := .int .i64 (q[i] : Nat)) (a := q[i]) rfl
  simp only [Nat.mul_one, Nat.add_zero] at hs1 hs2
  have HSW := Lib.hid (show (q.set i q[k]).set k q[i] = Sc.swp q i k by unfold Sc.swp; rw [at_get hi, at_get hk])
  have hili : (i : Int) < (q.length : Int) := by omega
  have hkli : (k : Int) < (q.length : Int) := by omega
  have HH1 := Lib.hid hs1
  have HH2 := Lib.hid hs2
  clear hs1 hs2 hsl
  generalize q[i] = x at *
  generalize q[k] = y at *
  have hBg : B ≠ g := by omega
  obtain ⟨W1, hW1⟩ : ∃ W1, W.setCell ⟨g, i, none⟩ (.int .i64 (y : Int)) = W1 := ⟨_, rfl⟩
  rw [hW1] at HH1 HH2
  obtain ⟨W2, hW2⟩ : ∃ W2, W1.setCell ⟨g, k, none⟩ (.int .i64 (x : Int)) = W2 := ⟨_, rfl⟩
  rw [hW2] at HH2
  have H_B1 : Box W1 B 79 [a, .slice (some ⟨g, 0, none⟩) q.length cap] := hW1 ▸ H_B.out.other hBg
  have H_B2 : Box W2 B 79 [a, .slice (some ⟨g, 0, none⟩) q.length cap] := hW2 ▸ H_B1.other hBg
  have hg1 : ∃ z, W1.cell? ⟨g, k, none⟩ = some z := ⟨_, by simpa using HH1.out.1.cellG cN_len (j := k) (i := 0) (a := (q.set i y)[k]'(by simpa using hk)) (List.getElem?_eq_getElem _) rfl⟩
  have hf1 := HH1.out.1.frozenG
  obtain ⟨z1, hg1⟩ := hg1
  have c_1 := H_B1.c2.2
  have c_2 := H_B2.c2.2
  have HC0 := Lib.hid H_B.out.c2.2
  have HC1 := Lib.hid c_1
  have HC2 := Lib.hid c_2
  have HQ2 : Hid (HQ W2 B base a (.slice (some ⟨g, 0, none⟩) q.length cap) (Sc.swp q i k)) := ⟨H_B2, by rw [← HSW.out]; exact HH2.out.1⟩
  have HK2 : Hid (HK w W2 B (.slice (some ⟨g, 0, none⟩) q.length cap) (.slice (some ⟨g, 0, none⟩) q.length cap)) := by
    have hz1 : W1.heap.size = w.heap.size := by rw [← hW1]; simp [hWs]
    refine ⟨?_, ?_, ?_, .inl rfl⟩
    · rw [← hW2, ← hW1]
      exact ((HBW.mono (show B ≤ w.heap.size by omega)).setCell (p := ⟨g, i, none⟩) (show B ≤ g by omega) _).setCell (p := ⟨g, k, none⟩) (show B ≤ g by omega) _
    · rw [← hW2]; simp [hz1]
    · intro j hj hjB hjo
      have hjg : j ≠ g := fun e => hjo (by rw [e]; rfl)
      exact (HH2.out.2.block j (by omega) (fun e => hjg (Option.some.inj e))).trans ((HH1.out.2.block j (by omega) (fun e => hjg (Option.some.inj e))).trans (HBW.block j hj))
  have hq0 := H_B.out.c2.2
  clear c_1 c_2 HH1 HH2 h H_B1 H_B2
  go_enter Try.func115, Try.ntmps115
  have y_l : ∀ p : Wc (fun W => W.cell? ⟨B, 1, none⟩ = some (.slice (some ⟨g, 0, none⟩) q.length cap)), p.w.cell? ⟨B, 1, none⟩ = some (.slice (some ⟨g, 0, none⟩) q.length cap) := fun p => p.h
  have y_n : Nonempty (Wc (fun W => W.cell? ⟨B, 1, none⟩ = some (.slice (some ⟨g, 0, none⟩) q.length cap))) := ⟨⟨W, HC0.out⟩⟩
  go_wp2_with fail
  clear hq0
  refine wp_region_plan (C := fun w' => ∃ p : Wc (fun W => W.cell? ⟨B, 1, none⟩ = some (.slice (some ⟨g, 0, none⟩) q.length cap)), w' = p.w) (.q 0 (.q 1 (.q 2 (.q 3 (.q 4 (.q 5 (.q 6 (.q 7 (.q 8 (.q 9 (.q 10 (.q 11 (.q 12 (.q 13 (.q 14 (.q 15 (.q 17 (.q 18 (.q 19 (.q 20 (.q 21 (.q 22 (.two 16 (.e 23 (.q 24 (.e 25 (.q 26 (.e 27 (.done)))))) 23 (.e 16 (.q 24 (.e 25 (.q 26 (.e 27 (.done))))))))))))))))))))))))))))) 28 (by kernel_rfl) (by kernel_rfl) ⟨⟨_, ?_⟩, rfl⟩ ?_
  · exact (hW ▸ HC0.out : _)
  repeat (any_goals (first | (go_big_quiet_skip; refine wpQuiet_nil ?_) | (go_big_quiet_want; go_big_quiet_op; go_big_quiet_on; refine wpQuiet_nil ?_) | ((with_reducible apply q_split); exact rfl; intro q hq; cases q <;> (rw [hq]; (try first | replace hq := bnot_t hq | replace hq := bnot_f hq); (try first | replace hq := of_decide_eq_true hq | replace hq := of_decide_eq_false hq | replace hq := eq_of_beq hq); (try first | replace hq := Int.not_lt.1 hq | replace hq := Int.not_le.1 hq | replace hq := Nat.not_lt.1 hq | replace hq := Nat.not_le.1 hq); try (exfalso; omega))) | (refine plan_q rfl rfl ?_)))
  rw [show ({ heap := w.heap, tape := w.tape, drawn := w.drawn + 1, os := w.os, output := w.output } : World) = W from hW]
  refine plan_two rfl rfl ?_ ?_
  all_goals
    go_wp2_with fail
    refine MixPost.intro ⟨⟨W, HC0.out⟩, rfl⟩ ?_
    repeat (any_goals (first | (go_big_quiet_skip; refine wpQuiet_nil ?_) | (go_big_quiet_want; go_big_quiet_op; go_big_quiet_on; refine wpQuiet_nil ?_) | ((with_reducible apply q_split); exact rfl; intro q hq; cases q <;> (rw [hq]; (try first | replace hq := bnot_t hq | replace hq := bnot_f hq); (try first | replace hq := of_decide_eq_true hq | replace hq := of_decide_eq_false hq | replace hq := eq_of_beq hq); (try first | replace hq := Int.not_lt.1 hq | replace hq := Int.not_le.1 hq | replace hq := Nat.not_lt.1 hq | replace hq := Nat.not_le.1 hq); try (exfalso; omega))) | (refine plan_q rfl rfl ?_)))
    refine plan_e rfl ?_
    go_wp2_with fail
    refine MixPost.intro ⟨⟨W, HC0.out⟩, rfl⟩ ?_
    repeat (any_goals (first | (go_big_quiet_skip; refine wpQuiet_nil ?_) | (go_big_quiet_want; go_big_quiet_op; go_big_quiet_on; refine wpQuiet_nil ?_) | ((with_reducible apply q_split); exact rfl; intro q hq; cases q <;> (rw [hq]; (try first | replace hq := bnot_t hq | replace hq := bnot_f hq); (try first | replace hq := of_decide_eq_true hq | replace hq := of_decide_eq_false hq | replace hq := eq_of_beq hq); (try first | replace hq := Int.not_lt.1 hq | replace hq := Int.not_le.1 hq | replace hq := Nat.not_lt.1 hq | replace hq := Nat.not_le.1 hq); try (exfalso; omega))) | (refine plan_q rfl rfl ?_)))
    refine plan_e rfl ?_
    go_wp2_with fail
    refine MixPost.intro ⟨⟨_, HC1.out⟩, rfl⟩ ?_
    repeat (any_goals (first | (go_big_quiet_skip; refine wpQuiet_nil ?_) | (go_big_quiet_want; go_big_quiet_op; go_big_quiet_on; refine wpQuiet_nil ?_) | ((with_reducible apply q_split); exact rfl; intro q hq; cases q <;> (rw [hq]; (try first | replace hq := bnot_t hq | replace hq := bnot_f hq); (try first | replace hq := of_decide_eq_true hq | replace hq := of_decide_eq_false hq | replace hq := eq_of_beq hq); (try first | replace hq := Int.not_lt.1 hq | replace hq := Int.not_le.1 hq | replace hq := Nat.not_lt.1 hq | replace hq := Nat.not_le.1 hq); try (exfalso; omega))) | (refine plan_q rfl rfl ?_)))
    refine plan_e rfl ?_
    go_wp2_with fail
    refine MixPost.intro ⟨⟨_, HC2.out⟩, rfl⟩ ?_
    clear y_l y_n HC0 HC1 HC2 hW hgi hgk hfr hg1 hf1 hW1 hW2
    refine plan_done ?_
    try simp only [List.drop_succ_cons, List.drop_zero]
    go_wp2_with fail
    refine NoPanic.normal ?_
    go_wp2_with fail
    go_end0
    exact ⟨rfl, HQ2.out, HK2.out⟩
end Go.Proofs.Ytheioedggjbphaa
