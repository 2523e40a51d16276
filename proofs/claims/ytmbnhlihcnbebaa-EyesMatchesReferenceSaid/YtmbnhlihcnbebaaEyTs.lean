/-
  Plain laws of the layer 'eyes': what Do does with a state. No program in sight.
-/
import Derived.Test.YtmbnhlihcnbebaaEyTn
set_option linter.unusedVariables false
namespace Ey
theorem eff_code (d : Dg) (a : Ac) : (eff d a).2.2 ≠ 1 := by
  unfold eff
  repeat' split
  all_goals simp
theorem actS_code (L : List Dg) (a : Ac) : (actS L a).2 ≠ 1 := by
  unfold actS
  split
  · exact eff_code _ _
  · split <;> simp
/-- by an act that is done its danger changes -/
theorem act_changes {L : List Dg} {a : Ac} (hs : stateB L = true) (hv : validA a = true) (h0 : (actS L a).2 = 0) : gt (actS L a).1 a.danger ≠ gt L a.danger := by
  rw [gt_act, if_pos ⟨rfl, h0⟩]
  have hp0 := numB_ne (validA_nums hv).2
  unfold lv
  unfold actS at h0
  generalize gt L a.danger = g at *
  have herr : (eff g a).2.2 = 0 := by
    by_cases h : (eff g a).2.2 = 0
    · exact h
    · rw [if_pos h] at h0; exact absurd h0 h
  clear h0
  suffices ((if (eff g a).2.1 = true then some (eff g a).1 else none).getD dg0).prop ≠ g.prop from fun e => this (by rw [e])
  by_cases k1 : a.kind = 1
  · rw [eff_k1 g k1] at herr ⊢
    split at herr
    · cases herr
    split at herr
    · cases herr
    rename_i hp hq
    rw [if_neg hp, if_neg hq, if_pos rfl]
    have hp : g.prop = 0 := by simpa using hp
    rw [hp]
    exact hp0
  by_cases k2 : a.kind = 2
  · rw [eff_k2 g k2] at herr ⊢
    split at herr
    · cases herr
    split at herr
    · cases herr
    rename_i hp hq
    rw [if_neg hp, if_neg hq, if_pos rfl]
    have hq : g.prop = 0 := by simpa using hq
    rw [hq]
    exact hp0
  by_cases k3 : a.kind = 3
  · rw [eff_k3 g k3] at herr ⊢
    split at herr
    · cases herr
    split at herr
    · cases herr
    rename_i hp hq
    rw [if_neg hp, if_neg hq]
    dsimp only
    cases g.drop <;> exact Ne.symm hp
  · rw [eff_k4 g k1 k2 k3] at herr ⊢
    split at herr
    · cases herr
    rename_i hp
    rw [if_neg hp]
    dsimp only
    cases g.told <;> exact Ne.symm hp
/-- the results of Do, parted -/
theorem doR_parts {L : List Dg} {a : Ac} : (doR L a = ([], 1) ∧ (stateB L = false ∨ stateB L = true ∧ validA a = false)) ∨ (∃ e : Int, doR L a = ([], e) ∧ e ≠ 0 ∧ e ≠ 1) ∨
    (∃ N, doR L a = (N, 0) ∧ stateB L = true ∧ stateB N = true ∧ (∀ (k : Nat) (h : k < L.length), L[k].id ≠ a.danger → gt N L[k].id = L[k]) ∧ (∀ (k : Nat) (h : k < N.length), N[k].id ≠ a.danger → gt L N[k].id = N[k]) ∧ gt N a.danger ≠ gt L a.danger) := by
  cases h1 : stateB L with
  | false => exact .inl ⟨doR_bad (.inl h1), .inl rfl⟩
  | true =>
    cases h2 : validA a with
    | false => exact .inl ⟨doR_bad (.inr h2), .inr ⟨rfl, rfl⟩⟩
    | true =>
      by_cases h3 : (actS L a).2 = 0
      · refine .inr (.inr ⟨_, doR_ok h1 h2 h3, rfl, act_sound h1 h2, fun k hk hne => ?_, fun k hk hne => ?_, act_changes h1 h2 h3⟩)
        · rw [gt_act_ne hne, (stateB_iff.1 h1).2.gt_mem (List.getElem_mem hk)]
        · rw [← gt_act_ne hne, ((stateB_iff.1 h1).2.act a).gt_mem (List.getElem_mem hk)]
      · exact .inr (.inl ⟨_, doR_err h1 h2 h3, h3, actS_code _ _⟩)
end Ey
