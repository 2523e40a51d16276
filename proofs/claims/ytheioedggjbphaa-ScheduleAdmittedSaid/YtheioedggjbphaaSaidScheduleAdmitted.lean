/-
  The statement 'ScheduleAdmitted': for every input the law returns true, and each argument reads behind the call as it did. No condition.
-/
import Derived.Test.YtheioedggjbphaaRows
import Derived.Test.YtheioedggjbphaaSdS
import Derived.Test.YtheioedggjbphaaSdD
import Derived.Test.YtheioedggjbphaaSdV
namespace Go.Proofs.Ytheioedggjbphaa.SaidScheduleAdmitted
open Go.ChangeShapes Go.WideShapes Go.ChangeAt Go.ChangeMaps Go.RowKit Sk Sc
set_option linter.unusedVariables false

theorem own : ownKnob Try.prog.godebug = none := by kernel_rfl
theorem laid : laidOutB Try.prog = true := by kernel_rfl

set_option maxRecDepth 100000 in
set_option maxHeartbeats 1000000 in
theorem lifted (os : Os) (started : os.Started) (H : Type) (enc : TypeId × Value → H) :
    ReturnsInHanded {} Try.checked os 8 .any (Rows.scheduleAdmittedSpec.pre6 enc Try.prog Try.f8 Rows.scheduleAdmittedRow.domain false) (Rows.scheduleAdmittedSpec.post enc Try.prog Try.f8 false true false false) := by
  refine returnsInHanded_of_change (C := Try.checked) own started (by kernel_rfl) Try.func8
    (ChangeSpec.witness6 (enc := enc) (C := Try.checked) false ⟨#[], #[.slice none 0 0, .int .i64 0], []⟩ 8 (by kernel_rfl) (by kernel_rfl) (by kernel_rfl) (by kernel_rfl)) ?_
  intro W base args ds gs before hval0 hW hcnd _
  have hval : ∀ (j : Nat) t v, Try.f8.params[j]? = some t → args[j]? = some v → Value.okWide Try.prog W .any base t v := hval0
  have hW' := hW
  obtain ⟨p, q, hA0, hV, rfl, hfz, hnd⟩ := hW
  have hA : DataW.TrodAll enc Try.prog W 0 (fun _ => true) true Try.f8.params.toList args.toList ds p := hA0
  rw [Try.params8] at hA hval
  obtain ⟨v0, vs0, d0, ds0, p0, q0, hargs, rfl, rfl, h0, r0⟩ := trodAll_cons hA
  obtain ⟨v1, vs1, d1, ds1, p1, q1, rfl, rfl, rfl, h1, r1⟩ := trodAll_cons r0
  obtain ⟨rfl, rfl, rfl⟩ := trodAll_nil r1
  obtain rfl : args = #[v0, v1] := by cases args; simp_all
  obtain ⟨rfl, rfl⟩ := trodVars_none hV
  obtain ⟨ao0, n0, cap0, l0, rfl, hs0, hq0⟩ := arg_sl (dd := 4) (ks := [.int .i64, .int .i64, .int .i64, .int .i64]) Try.underlying22 (k := 4) (by kernel_rfl) (by decide) (by kernel_rfl) rfl el_job (hval 0 22 v0 rfl rfl) h0
  obtain ⟨x1, rfl, _, _, w1⟩ := open_int Try.underlying3 (hval 1 3 v1 rfl rfl) h1
  refine (admitted_walk sort_own ao0 n0 cap0 l0 x1 W hs0).mono fun e W' ⟨he, hb⟩ => ?_
  subst he
  refine ⟨_, rfl, post_of_below hW' hb (fun _ _ _ => (trodAll_cons_mk (shut_bool Try.underlying4 _) trodAll_mk0)) (fun sp hsp => ?_) (fun _ => rfl) (ok_one (by kernel_rfl) rfl (okWide_bool_mk Try.underlying4 _))⟩
  have hlt := hW'.lt
  have hA1 := hA0
  simp only [List.append_nil] at hlt hsp hA1 ⊢
  exact all_stay laid hb _ _ _ _ (by rw [Try.params8]; intro t ht; simp at ht; rcases ht with rfl | rfl <;> exact ⟨by kernel_rfl, of_decide_eq_true (by kernel_rfl)⟩) hA1 (fun x hx => ⟨hlt x (by simpa using hx), hsp x (by simpa using hx)⟩)

theorem over : Rows.scheduleAdmittedRow.holds Try.pinned (OpenSpec.ofChange Rows.scheduleAdmittedSpec) :=
  OpenClaim.holds_of_wide 8 Try.f8 rfl rfl rfl rfl rfl rfl rfl ⟨rfl, rfl, rfl, rfl, rfl⟩ rfl rfl rfl rfl rfl (by kernel_rfl) Try.func8 (by kernel_rfl)
    (of_decide_eq_true (by kernel_rfl)) (by unfold Func.isWrapper; first | (rw [if_pos (by decide +kernel)]; kernel_rfl) | (rw [if_neg (by decide +kernel)]; exact ⟨rfl, rfl⟩))
    (fun os started H enc _ => lifted os started H enc)

theorem proved : Rows.ScheduleAdmittedSaid :=
  over
#print axioms proved
end Go.Proofs.Ytheioedggjbphaa.SaidScheduleAdmitted
