/-
  The statement 'ReuseMatchesReference': for every input the law returns true, and each argument reads behind the call as it did. No condition.
-/
import Derived.Test.YtpdecgbfnhaojaaGreatRows
import Derived.Test.YtpdecgbfnhaojaaGreatReuS
import Derived.Test.YtpdecgbfnhaojaaGreatReuRE
import Derived.Test.YtpdecgbfnhaojaaGreatReuV
namespace Go.Proofs.YtpdecgbfnhaojaaGreat.SaidReuseMatchesReference
open Go.ChangeShapes Go.WideShapes Go.ChangeAt Go.ChangeMaps Go.RowKit Sk Nb Ck Ru
set_option linter.unusedVariables false

theorem own : ownKnob Tryz.prog.godebug = none := by kernel_rfl
theorem laid : laidOutB Tryz.prog = true := by kernel_rfl

set_option maxRecDepth 100000 in
set_option maxHeartbeats 1000000 in
theorem lifted (os : Os) (started : os.Started) (H : Type) (enc : TypeId × Value → H) :
    ReturnsInHanded {} Tryz.checked os 3 .any (Rows.reuseMatchesReferenceSpec.pre6 enc Tryz.prog Tryz.f3 Rows.reuseMatchesReferenceRow.domain false) (Rows.reuseMatchesReferenceSpec.post enc Tryz.prog Tryz.f3 false true false false) := by
  refine returnsInHanded_of_change (C := Tryz.checked) own started (by kernel_rfl) Tryz.func3
    (ChangeSpec.witness6 (enc := enc) (C := Tryz.checked) false ⟨#[], #[.slice none 0 0, .int .i64 0, .int .i64 0, .int .i64 0, .int .i64 0, .int .i64 0, .slice none 0 0, .agg #[.int .i64 0, .int .i64 0, .int .i64 0, .int .i64 0], .agg #[.int .i64 0, .int .i64 0, .int .i64 0], .int .i64 0], []⟩ 8 (by kernel_rfl) (by kernel_rfl) (by kernel_rfl) (by kernel_rfl)) ?_
  intro W base args ds gs before hval0 hW hcnd _
  have hval : ∀ (j : Nat) t v, Tryz.f3.params[j]? = some t → args[j]? = some v → Value.okWide Tryz.prog W .any base t v := hval0
  have hW' := hW
  obtain ⟨p, q, hA0, hV, rfl, hfz, hnd⟩ := hW
  have hA : DataW.TrodAll enc Tryz.prog W 0 (fun _ => true) true Tryz.f3.params.toList args.toList ds p := hA0
  rw [Tryz.params3] at hA hval
  obtain ⟨v0, vs0, d0, ds0, p0, q0, hargs, rfl, rfl, h0, r0⟩ := trodAll_cons hA
  obtain ⟨v1, vs1, d1, ds1, p1, q1, rfl, rfl, rfl, h1, r1⟩ := trodAll_cons r0
  obtain ⟨v2, vs2, d2, ds2, p2, q2, rfl, rfl, rfl, h2, r2⟩ := trodAll_cons r1
  obtain ⟨v3, vs3, d3, ds3, p3, q3, rfl, rfl, rfl, h3, r3⟩ := trodAll_cons r2
  obtain ⟨v4, vs4, d4, ds4, p4, q4, rfl, rfl, rfl, h4, r4⟩ := trodAll_cons r3
  obtain ⟨v5, vs5, d5, ds5, p5, q5, rfl, rfl, rfl, h5, r5⟩ := trodAll_cons r4
  obtain ⟨v6, vs6, d6, ds6, p6, q6, rfl, rfl, rfl, h6, r6⟩ := trodAll_cons r5
  obtain ⟨v7, vs7, d7, ds7, p7, q7, rfl, rfl, rfl, h7, r7⟩ := trodAll_cons r6
  obtain ⟨v8, vs8, d8, ds8, p8, q8, rfl, rfl, rfl, h8, r8⟩ := trodAll_cons r7
  obtain ⟨v9, vs9, d9, ds9, p9, q9, rfl, rfl, rfl, h9, r9⟩ := trodAll_cons r8
  obtain ⟨rfl, rfl, rfl⟩ := trodAll_nil r9
  obtain rfl : args = #[v0, v1, v2, v3, v4, v5, v6, v7, v8, v9] := by cases args; simp_all
  obtain ⟨rfl, rfl⟩ := trodVars_none hV
  obtain ⟨ao0, n0, cap0, l0, rfl, hs0, hq0⟩ := arg_sl (dd := 4) (ks := [.int .i64, .int .i64, .int .i64, .int .i64, .int .i64]) Tryz.underlying22 (k := 5) (by kernel_rfl) (by decide) (by kernel_rfl) rfl el_used (hval 0 22 v0 rfl rfl) h0
  obtain ⟨x1, rfl, _, _, w1⟩ := open_int Tryz.underlying3 (hval 1 3 v1 rfl rfl) h1
  obtain ⟨x2, rfl, _, _, w2⟩ := open_int Tryz.underlying3 (hval 2 3 v2 rfl rfl) h2
  obtain ⟨x3, rfl, _, _, w3⟩ := open_int Tryz.underlying3 (hval 3 3 v3 rfl rfl) h3
  obtain ⟨x4, rfl, _, _, w4⟩ := open_int Tryz.underlying3 (hval 4 3 v4 rfl rfl) h4
  obtain ⟨x5, rfl, _, _, w5⟩ := open_int Tryz.underlying3 (hval 5 3 v5 rfl rfl) h5
  obtain ⟨ao6, n6, cap6, l6, rfl, hs6, hq6⟩ := arg_sl (dd := 4) (ks := [.int .i64, .int .i64, .int .i64, .int .i64]) Tryz.underlying23 (k := 4) (by kernel_rfl) (by decide) (by kernel_rfl) rfl el_clock (hval 6 23 v6 rfl rfl) h6
  obtain ⟨c7, rfl, t7⟩ := arg_agg (dd := 4) (ks := [.int .i64, .int .i64, .int .i64, .int .i64]) Tryz.underlying27 (by kernel_rfl) (by kernel_rfl) (hval 7 27 v7 rfl rfl) h7
  obtain ⟨x7_0, x7_1, x7_2, x7_3, rfl, w7_0, w7_1, w7_2, w7_3⟩ := Typed.i4 t7
  obtain ⟨c8, rfl, t8⟩ := arg_agg (dd := 4) (ks := [.int .i64, .int .i64, .int .i64]) Tryz.underlying29 (by kernel_rfl) (by kernel_rfl) (hval 8 29 v8 rfl rfl) h8
  obtain ⟨x8_0, x8_1, x8_2, rfl, w8_0, w8_1, w8_2⟩ := Typed.i3 t8
  obtain ⟨x9, rfl, _, _, w9⟩ := open_int Tryz.underlying3 (hval 9 3 v9 rfl rfl) h9
  refine (reusematch_walk sort_own ao0 n0 cap0 l0 x1 x2 x3 x4 x5 ao6 n6 cap6 l6 x7_0 x7_1 x7_2 x7_3 x8_0 x8_1 x8_2 x9 W hs0 hs6).mono fun e W' ⟨he, hb⟩ => ?_
  subst he
  refine ⟨_, rfl, post_of_below hW' hb (fun _ _ _ => (trodAll_cons_mk (shut_bool Tryz.underlying4 _) trodAll_mk0)) (fun sp hsp => ?_) (fun _ => rfl) (ok_one (by kernel_rfl) rfl (okWide_bool_mk Tryz.underlying4 _))⟩
  have hlt := hW'.lt
  have hA1 := hA0
  simp only [List.append_nil] at hlt hsp hA1 ⊢
  exact all_stay laid hb _ _ _ _ (by rw [Tryz.params3]; intro t ht; simp at ht; rcases ht with rfl | rfl | rfl | rfl | rfl | rfl | rfl | rfl | rfl | rfl <;> exact ⟨by kernel_rfl, of_decide_eq_true (by kernel_rfl)⟩) hA1 (fun x hx => ⟨hlt x (by simpa using hx), hsp x (by simpa using hx)⟩)

theorem over : Rows.reuseMatchesReferenceRow.holds Tryz.pinned (OpenSpec.ofChange Rows.reuseMatchesReferenceSpec) :=
  OpenClaim.holds_of_wide 3 Tryz.f3 rfl rfl rfl rfl rfl rfl rfl ⟨rfl, rfl, rfl, rfl, rfl⟩ rfl rfl rfl rfl rfl (by kernel_rfl) Tryz.func3 (by kernel_rfl)
    (of_decide_eq_true (by kernel_rfl)) (by unfold Func.isWrapper; first | (rw [if_pos (by decide +kernel)]; kernel_rfl) | (rw [if_neg (by decide +kernel)]; exact ⟨rfl, rfl⟩))
    (fun os started H enc _ => lifted os started H enc)

theorem proved : Rows.ReuseMatchesReferenceSaid :=
  over
#print axioms proved
end Go.Proofs.YtpdecgbfnhaojaaGreat.SaidReuseMatchesReference
