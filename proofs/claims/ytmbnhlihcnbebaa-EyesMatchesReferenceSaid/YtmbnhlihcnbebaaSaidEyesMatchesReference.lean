/-
  The statement 'EyesMatchesReference': for every input the law returns true, and each argument reads behind the call as it did. No condition.
-/
import Derived.Test.YtmbnhlihcnbebaaRows
import Derived.Test.YtmbnhlihcnbebaaEyS
import Derived.Test.YtmbnhlihcnbebaaEyLm
import Derived.Test.YtmbnhlihcnbebaaEyV
namespace Go.Proofs.Ytmbnhlihcnbebaa.SaidEyesMatchesReference
open Go.ChangeShapes Go.WideShapes Go.ChangeAt Go.ChangeMaps Go.RowKit Sk Ey
set_option linter.unusedVariables false

theorem own : ownKnob Try.prog.godebug = none := by kernel_rfl
theorem laid : laidOutB Try.prog = true := by kernel_rfl

set_option maxRecDepth 100000 in
set_option maxHeartbeats 1000000 in
theorem lifted (os : Os) (started : os.Started) (H : Type) (enc : TypeId × Value → H) :
    ReturnsInHanded {} Try.checked os 8 .any (Rows.eyesMatchesReferenceSpec.pre6 enc Try.prog Try.f8 Rows.eyesMatchesReferenceRow.domain false) (Rows.eyesMatchesReferenceSpec.post enc Try.prog Try.f8 false true false false) := by
  refine returnsInHanded_of_change (C := Try.checked) own started (by kernel_rfl) Try.func8
    (ChangeSpec.witness6 (enc := enc) (C := Try.checked) false ⟨#[], #[.slice none 0 0, .slice none 0 0, .agg #[.int .i64 0, .int .i64 0, .int .i64 0, .int .i64 0, .int .i64 0, .int .i64 0, .int .i64 0, .int .i64 0], .int .i64 0, .int .i64 0, .agg #[.int .i64 0, .int .i64 0]], []⟩ 8 (by kernel_rfl) (by kernel_rfl) (by kernel_rfl) (by kernel_rfl)) ?_
  intro W base args ds gs before hval0 hW hcnd _
  have hval : ∀ (j : Nat) t v, Try.f8.params[j]? = some t → args[j]? = some v → Value.okWide Try.prog W .any base t v := hval0
  have hW' := hW
  obtain ⟨p, q, hA0, hV, rfl, hfz, hnd⟩ := hW
  have hA : DataW.TrodAll enc Try.prog W 0 (fun _ => true) true Try.f8.params.toList args.toList ds p := hA0
  rw [Try.params8] at hA hval
  obtain ⟨v0, vs0, d0, ds0, p0, q0, hargs, rfl, rfl, h0, r0⟩ := trodAll_cons hA
  obtain ⟨v1, vs1, d1, ds1, p1, q1, rfl, rfl, rfl, h1, r1⟩ := trodAll_cons r0
  obtain ⟨v2, vs2, d2, ds2, p2, q2, rfl, rfl, rfl, h2, r2⟩ := trodAll_cons r1
  obtain ⟨v3, vs3, d3, ds3, p3, q3, rfl, rfl, rfl, h3, r3⟩ := trodAll_cons r2
  obtain ⟨v4, vs4, d4, ds4, p4, q4, rfl, rfl, rfl, h4, r4⟩ := trodAll_cons r3
  obtain ⟨v5, vs5, d5, ds5, p5, q5, rfl, rfl, rfl, h5, r5⟩ := trodAll_cons r4
  obtain ⟨rfl, rfl, rfl⟩ := trodAll_nil r5
  obtain rfl : args = #[v0, v1, v2, v3, v4, v5] := by cases args; simp_all
  obtain ⟨rfl, rfl⟩ := trodVars_none hV
  obtain ⟨ao0, n0, cap0, l0, rfl, hs0, hq0⟩ := arg_sl (dd := 4) (ks := [.int .i64, .int .i64, .int .i64, .int .i64, .int .i64, .int .i64, .int .i64, .int .i64]) Try.underlying22 (k := 8) (by kernel_rfl) (by decide) (by kernel_rfl) rfl el_act (hval 0 22 v0 rfl rfl) h0
  obtain ⟨ao1, n1, cap1, l1, rfl, hs1, hq1⟩ := arg_sl (dd := 4) (ks := [.int .i64, .bool, .int .i64, .int .i64, .int .i64, .int .i64, .int .i64, .bool, .int .i64, .int .i64, .int .i64, .int .i64]) Try.underlying24 (k := 12) (by kernel_rfl) (by decide) (by kernel_rfl) rfl el_dg (hval 1 24 v1 rfl rfl) h1
  obtain ⟨x2, rfl, w2⟩ := arg_act (hval 2 37 v2 rfl rfl) h2
  obtain ⟨x3, rfl, _, _, w3⟩ := open_int Try.underlying3 (hval 3 3 v3 rfl rfl) h3
  obtain ⟨x4, rfl, _, _, w4⟩ := open_int Try.underlying3 (hval 4 3 v4 rfl rfl) h4
  obtain ⟨c5, rfl, t5⟩ := arg_agg (dd := 4) (ks := [.int .i64, .int .i64]) Try.underlying49 (by kernel_rfl) (by kernel_rfl) (hval 5 49 v5 rfl rfl) h5
  obtain ⟨x5_0, x5_1, rfl, w5_0, w5_1⟩ := Typed.i2 t5
  refine (match_walk keys_ok ao0 n0 cap0 l0 ao1 n1 cap1 l1 x2 x3 x4 x5_0 x5_1 W hs0 hs1).mono fun e W' ⟨he, hb⟩ => ?_
  subst he
  refine ⟨_, rfl, post_of_below hW' hb (fun _ _ _ => (trodAll_cons_mk (shut_bool Try.underlying4 _) trodAll_mk0)) (fun sp hsp => ?_) (fun _ => rfl) (ok_one (by kernel_rfl) rfl (okWide_bool_mk Try.underlying4 _))⟩
  have hlt := hW'.lt
  have hA1 := hA0
  simp only [List.append_nil] at hlt hsp hA1 ⊢
  exact all_stay laid hb _ _ _ _ (by rw [Try.params8]; intro t ht; simp at ht; rcases ht with rfl | rfl | rfl | rfl | rfl | rfl <;> exact ⟨by kernel_rfl, of_decide_eq_true (by kernel_rfl)⟩) hA1 (fun x hx => ⟨hlt x (by simpa using hx), hsp x (by simpa using hx)⟩)

theorem over : Rows.eyesMatchesReferenceRow.holds Try.pinned (OpenSpec.ofChange Rows.eyesMatchesReferenceSpec) :=
  OpenClaim.holds_of_wide 8 Try.f8 rfl rfl rfl rfl rfl rfl rfl ⟨rfl, rfl, rfl, rfl, rfl⟩ rfl rfl rfl rfl rfl (by kernel_rfl) Try.func8 (by kernel_rfl)
    (of_decide_eq_true (by kernel_rfl)) (by unfold Func.isWrapper; first | (rw [if_pos (by decide +kernel)]; kernel_rfl) | (rw [if_neg (by decide +kernel)]; exact ⟨rfl, rfl⟩))
    (fun os started H enc _ => lifted os started H enc)

theorem proved : Rows.EyesMatchesReferenceSaid :=
  over
#print axioms proved
end Go.Proofs.Ytmbnhlihcnbebaa.SaidEyesMatchesReference
