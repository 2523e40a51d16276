/-
  The statement 'ScheduleMatchesReference': for every input the law returns true, and each argument reads behind the call as it did. No condition.
-/
import Derived.Test.YtheioedggjbphaaRows
import Derived.Test.YtheioedggjbphaaSdS
import Derived.Test.YtheioedggjbphaaSeM
import Derived.Test.YtheioedggjbphaaSdV
namespace Go.Proofs.Ytheioedggjbphaa.SaidScheduleMatchesReference
open Go.ChangeShapes Go.WideShapes Go.ChangeAt Go.ChangeMaps Go.RowKit Sk Sc
set_option linter.unusedVariables false

theorem own : ownKnob Try.prog.godebug = none := by kernel_rfl
theorem laid : laidOutB Try.prog = true := by kernel_rfl

set_option maxRecDepth 100000 in
set_option maxHeartbeats 1000000 in
theorem lifted (os : Os) (started : os.Started) (H : Type) (enc : TypeId × Value → H) :
    ReturnsInHanded {} Try.checked os 3 .any (Rows.scheduleMatchesReferenceSpec.pre6 enc Try.prog Try.f3 Rows.scheduleMatchesReferenceRow.domain false) (Rows.scheduleMatchesReferenceSpec.post enc Try.prog Try.f3 false true false false) := by
  refine returnsInHanded_of_change (C := Try.checked) own started (by kernel_rfl) Try.func3
    (ChangeSpec.witness6 (enc := enc) (C := Try.checked) false ⟨#[], #[.slice none 0 0, .int .i64 0, .slice none 0 0, .int .i64 0], []⟩ 8 (by kernel_rfl) (by kernel_rfl) (by kernel_rfl) (by kernel_rfl)) ?_
  intro W base args ds gs before hval0 hW hcnd _
  have hval : ∀ (j : Nat) t v, Try.f3.params[j]? = some t → args[j]? = some v → Value.okWide Try.prog W .any base t v := hval0
  have hW' := hW
  obtain ⟨p, q, hA0, hV, rfl, hfz, hnd⟩ := hW
  have hA : DataW.TrodAll enc Try.prog W 0 (fun _ => true) true Try.f3.params.toList args.toList ds p := hA0
  rw [Try.params3] at hA hval
  obtain ⟨v0, vs0, d0, ds0, p0, q0, hargs, rfl, rfl, h0, r0⟩ := trodAll_cons hA
  obtain ⟨v1, vs1, d1, ds1, p1, q1, rfl, rfl, rfl, h1, r1⟩ := trodAll_cons r0
  obtain ⟨v2, vs2, d2, ds2, p2, q2, rfl, rfl, rfl, h2, r2⟩ := trodAll_cons r1
  obtain ⟨v3, vs3, d3, ds3, p3, q3, rfl, rfl, rfl, h3, r3⟩ := trodAll_cons r2
  obtain ⟨rfl, rfl, rfl⟩ := trodAll_nil r3
  obtain rfl : args = #[v0, v1, v2, v3] := by cases args; simp_all
  obtain ⟨rfl, rfl⟩ := trodVars_none hV
  obtain ⟨ao0, n0, cap0, l0, rfl, hs0, hq0⟩ := arg_sl (dd := 4) (ks := [.int .i64, .int .i64, .int .i64, .int .i64]) Try.underlying22 (k := 4) (by kernel_rfl) (by decide) (by kernel_rfl) rfl el_job (hval 0 22 v0 rfl rfl) h0
  obtain ⟨x1, rfl, _, _, w1⟩ := open_int Try.underlying3 (hval 1 3 v1 rfl rfl) h1
  obtain ⟨ao2, n2, cap2, l2, rfl, hs2, hq2⟩ := arg_sl (dd := 4) (ks := [.int .i64, .int .i64, .int .i64]) Try.underlying23 (k := 3) (by kernel_rfl) (by decide) (by kernel_rfl) rfl el_sent (hval 2 23 v2 rfl rfl) h2
  obtain ⟨x3, rfl, _, _, w3⟩ := open_int Try.underlying3 (hval 3 3 v3 rfl rfl) h3
  refine (match_walk sort_own ao0 n0 cap0 l0 x1 ao2 n2 cap2 l2 x3 W hs0 hs2).mono fun e W' ⟨he, hb⟩ => ?_
  subst he
  refine ⟨_, rfl, post_of_below hW' hb (fun _ _ _ => (trodAll_cons_mk (shut_bool Try.underlying4 _) trodAll_mk0)) (fun sp hsp => ?_) (fun _ => rfl) (ok_one (by kernel_rfl) rfl (okWide_bool_mk Try.underlying4 _))⟩
  have hlt := hW'.lt
  have hA1 := hA0
  simp only [List.append_nil] at hlt hsp hA1 ⊢
  exact all_stay laid hb _ _ _ _ (by rw [Try.params3]; intro t ht; simp at ht; rcases ht with rfl | rfl | rfl | rfl <;> exact ⟨by kernel_rfl, of_decide_eq_true (by kernel_rfl)⟩) hA1 (fun x hx => ⟨hlt x (by simpa using hx), hsp x (by simpa using hx)⟩)

theorem over : Rows.scheduleMatchesReferenceRow.holds Try.pinned (OpenSpec.ofChange Rows.scheduleMatchesReferenceSpec) :=
  OpenClaim.holds_of_wide 3 Try.f3 rfl rfl rfl rfl rfl rfl rfl ⟨rfl, rfl, rfl, rfl, rfl⟩ rfl rfl rfl rfl rfl (by kernel_rfl) Try.func3 (by kernel_rfl)
    (of_decide_eq_true (by kernel_rfl)) (by unfold Func.isWrapper; first | (rw [if_pos (by decide +kernel)]; kernel_rfl) | (rw [if_neg (by decide +kernel)]; exact ⟨rfl, rfl⟩))
    (fun os started H enc _ => lifted os started H enc)

theorem proved : Rows.ScheduleMatchesReferenceSaid :=
  over
#print axioms proved
end Go.Proofs.Ytheioedggjbphaa.SaidScheduleMatchesReference
