/-
  Plain law of the journal of what is told: its last row that is known at a time names the act by which the danger is told. No program in sight.
-/
import Derived.Test.YtmbnhlihcnbebaaEyTt
import Derived.Test.YtmbnhlihcnbebaaTwA
set_option linter.unusedVariables false
namespace Ey
/-- the time of an act -/
def tmA (l : List Ac) (k : Nat) : Int := (l[k]?.map Ac.time).getD 0
theorem tmA_at {l : List Ac} {k : Nat} (h : k < l.length) : tmA l k = l[k].time := by unfold tmA; rw [List.getElem?_eq_getElem h]; rfl
def rwA (x : Int) (l : List Ac) (k : Nat) : Rw := ⟨x, if (cor (stS (l.take (k + 1))) x).isSome = true then (k + 1 : Int) else 0, tmA l k, 10000000, tmA l k⟩
/-- the journal behind k acts -/
def jR (x : Int) (l : List Ac) : Nat → List Rw
  | 0 => []
  | k + 1 => if cor (stS (l.take (k + 1))) x = cor (stS (l.take k)) x then jR x l k else jR x l k ++ [rwA x l k]
theorem jR_same {x : Int} {l : List Ac} {k : Nat} (h : cor (stS (l.take (k + 1))) x = cor (stS (l.take k)) x) : jR x l (k + 1) = jR x l k := by rw [jR, if_pos h]
theorem jR_more {x : Int} {l : List Ac} {k : Nat} (h : ¬ cor (stS (l.take (k + 1))) x = cor (stS (l.take k)) x) : jR x l (k + 1) = jR x l k ++ [rwA x l k] := by rw [jR, if_neg h]
theorem jR_len (x : Int) (l : List Ac) : ∀ k, (jR x l k).length ≤ k
  | 0 => Nat.le_refl _
  | k + 1 => by
    have h := jR_len x l k
    rw [jR]
    split
    · omega
    · rw [List.length_append]; simp; omega
theorem jR_mem {x : Int} {l : List Ac} : ∀ {k : Nat} {r : Rw}, r ∈ jR x l k → ∃ j, j < k ∧ r = rwA x l j
  | 0, r, h => by cases h
  | k + 1, r, h => by
    rw [jR] at h
    split at h
    · obtain ⟨j, hj, e⟩ := jR_mem h; exact ⟨j, by omega, e⟩
    · rcases List.mem_append.1 h with h | h
      · obtain ⟨j, hj, e⟩ := jR_mem h; exact ⟨j, by omega, e⟩
      · exact ⟨k, by omega, by simpa using h⟩
/-- the bounds of the law -/
structure Fit (l : List Ac) (x : Int) : Prop where
  v : validL l = true
  n : numB x = true
  len : l.length ≤ 30
  t : ∀ k (h : k < l.length), l[k].time < 10000000
theorem Fit.tm {l : List Ac} {x : Int} (h : Fit l x) {k : Nat} (hk : k < l.length) : 0 ≤ tmA l k ∧ tmA l k < 10000000 := by
  rw [tmA_at hk]
  exact ⟨validA_time ((validL_iff.1 h.v).2.1 _ (List.getElem_mem hk)), h.t k hk⟩
theorem Fit.up {l : List Ac} {x : Int} (h : Fit l x) {j k : Nat} (hj : j < k) (hk : k < l.length) : tmA l j ≤ tmA l k := by
  rw [tmA_at hk, tmA_at (Nat.lt_trans hj hk)]
  exact List.pairwise_iff_getElem.1 (validL_iff.1 h.v).2.2 j k (Nat.lt_trans hj hk) hk hj
theorem Fit.row {l : List Ac} {x : Int} (h : Fit l x) {k : Nat} (hk : k < l.length) : rowB (rwA x l k) = true := by
  have h1 := h.tm hk
  have h2 := h.n
  have h3 := h.len
  unfold numB at h2
  unfold rowB rwA timeB
  simp only [decide_eq_true_eq, Bool.and_eq_true] at h2 ⊢
  refine ⟨⟨⟨⟨⟨⟨h2.1, by omega⟩, ?_⟩, ⟨h1.1, by omega⟩⟩, by decide⟩, h1.2⟩, h1.1, by omega⟩
  split <;> omega
theorem Fit.valid {l : List Ac} {x : Int} (h : Fit l x) : ∀ {k : Nat}, k ≤ l.length → validRw (jR x l k) = true := by
  intro k hk
  have hlen := jR_len x l k
  have h3 := h.len
  unfold validRw
  simp only [Bool.and_eq_true, decide_eq_true_eq, List.all_eq_true]
  refine ⟨⟨by omega, fun r hr => ?_⟩, ?_⟩
  · obtain ⟨j, hj, rfl⟩ := jR_mem hr
    exact h.row (by omega)
  · unfold KnUp
    clear hlen
    induction k with
    | zero => exact List.Pairwise.nil
    | succ k ih =>
      rw [jR]
      split
      · exact ih (by omega)
      · rw [List.pairwise_append]
        refine ⟨ih (by omega), List.pairwise_singleton _ _, fun a ha b hb => ?_⟩
        obtain ⟨j, hj, rfl⟩ := jR_mem ha
        obtain rfl : b = rwA x l k := by simpa using hb
        exact h.up hj (by omega)
theorem Fit.last {l : List Ac} {x : Int} (h : Fit l x) {k : Nat} (hk : k < l.length) {r : Rw} (hr : r ∈ jR x l k) : r.known ≤ tmA l k := by
  obtain ⟨j, hj, rfl⟩ := jR_mem hr
  exact h.up hj hk
/-- what holds at a time, as it was known at this time or before: the last row then -/
theorem Fit.pick {l : List Ac} {x : Int} (h : Fit l x) {t t' : Int} (ht : t ≤ t') (ht' : t' < 10000000) : pickR (jR x l l.length) x t' t = (jR x l (untilL l t).length).getLast? := by
  have hK := until_len l t
  have hA : ∀ n, (untilL l t).length ≤ n → n ≤ l.length → pickR (jR x l n) x t' t = pickR (jR x l (untilL l t).length) x t' t := by
    intro n h1 h2
    induction n with
    | zero => obtain e : (untilL l t).length = 0 := by omega
              rw [e]
    | succ n ih =>
      by_cases he : (untilL l t).length = n + 1
      · rw [he]
      rw [← ih (by omega) (by omega)]
      by_cases hc : cor (stS (l.take (n + 1))) x = cor (stS (l.take n)) x
      · rw [jR_same hc]
      · rw [jR_more hc]
        unfold pickR
        rw [List.reverse_append]
        have hge : t < l[n].time := by
          have e1 := until_ge (l := l) (t := t) (k := (untilL l t).length) rfl (by omega)
          by_cases e : (untilL l t).length = n
          · simpa only [e] using e1
          · have h1 := List.pairwise_iff_getElem.1 (validL_iff.1 h.v).2.2 (untilL l t).length n (by omega) (by omega) (by omega)
            omega
        have hno : holdB x t' t (rwA x l n) = false := by
          unfold holdB rwA
          simp only [tmA_at (show n < l.length by omega)]
          exact decide_eq_false (fun h => by omega)
        simp only [List.reverse_cons, List.reverse_nil, List.nil_append, List.singleton_append, List.find?_cons, hno]
  rw [hA l.length hK (Nat.le_refl _)]
  unfold pickR
  rw [← List.head?_reverse]
  have hall : ∀ r ∈ (jR x l (untilL l t).length).reverse, holdB x t' t r = true := by
    intro r hr
    obtain ⟨j, hj, rfl⟩ := jR_mem (List.mem_reverse.1 hr)
    have h1 := until_lt hj (by omega)
    unfold holdB rwA
    simp only [tmA_at (show j < l.length by omega)]
    exact decide_eq_true ⟨by trivial, h1, by omega, ht'⟩
  cases e : (jR x l (untilL l t).length).reverse with
  | nil => rfl
  | cons a m => rw [e] at hall; rw [List.find?_cons, hall a List.mem_cons_self]; rfl
/-! ### what an act changes -/
def Dif (L : List Dg) (x : Int) : Prop := (gt L x).told = true → (gt L x).prop ≠ 0 → (gt L x).drop = false → (gt L x).next ≠ (gt L x).area
theorem act_dif {L : List Dg} {x : Int} (hd : Dif L x) (a : Ac) :
    Dif (actS L a).1 x ∧ ((cor (actS L a).1 x).isSome = true → (cor (actS L a).1 x ≠ cor L x ↔ ((actS L a).2 = 0 ∧ a.kind = 3 ∧ a.danger = x))) := by
  unfold Dif cor at *
  rw [gt_act]
  split
  case isFalse hc =>
    refine ⟨hd, fun _ => ⟨fun h => absurd rfl h, fun h => absurd ⟨h.2.2.symm, h.1⟩ hc⟩⟩
  case isTrue hc =>
    obtain ⟨hx, h0⟩ := hc
    have h00 := h0
    unfold actS at h0
    unfold lv
    rw [h00]
    subst hx
    clear h00
    generalize gt L a.danger = g at *
    have herr : (eff g a).2.2 = 0 := by
      by_cases h : (eff g a).2.2 = 0
      · exact h
      · rw [if_pos h] at h0; exact absurd h0 h
    clear h0
    by_cases k1 : a.kind = 1
    · rw [eff_k1 g k1] at herr ⊢
      split at herr
      · cases herr
      split at herr
      · cases herr
      rename_i hp hq
      rw [if_neg hp, if_neg hq, if_pos rfl]
      exact ⟨fun h1 _ _ h2 => hq ⟨h1, h2.symm⟩, fun _ => ⟨fun h => absurd rfl h, fun h => by omega⟩⟩
    by_cases k2 : a.kind = 2
    · rw [eff_k2 g k2] at herr ⊢
      split at herr
      · cases herr
      split at herr
      · cases herr
      rename_i hp hq
      rw [if_neg hp, if_neg hq, if_pos rfl]
      exact ⟨fun _ _ h => (by cases h), fun _ => ⟨fun h => absurd rfl h, fun h => by omega⟩⟩
    by_cases k3 : a.kind = 3
    · rw [eff_k3 g k3] at herr ⊢
      split at herr
      · cases herr
      split at herr
      · cases herr
      rename_i hp hq
      rw [if_neg hp, if_neg hq]
      dsimp only
      cases hdr : g.drop with
      | true => exact ⟨fun _ h => absurd rfl h, fun h => by cases h⟩
      | false =>
        refine ⟨fun _ h => absurd rfl h, fun _ => ⟨fun _ => ⟨rfl, k3, rfl⟩, fun _ h => ?_⟩⟩
        by_cases ht : g.told = true
        · rw [if_pos ht] at h
          exact hd ht hp hdr (Option.some.inj h)
        · rw [if_neg ht] at h
          cases h
    · rw [eff_k4 g k1 k2 k3] at herr ⊢
      split at herr
      · cases herr
      rename_i hp
      rw [if_neg hp]
      dsimp only
      cases ht : g.told with
      | true => exact ⟨fun _ h => absurd rfl h, fun _ => ⟨fun h => absurd rfl h, fun h => by omega⟩⟩
      | false => exact ⟨fun h => (by cases h), fun h => by cases h⟩
theorem take_snoc {l : List Ac} {k : Nat} (h : k < l.length) : l.take (k + 1) = l.take k ++ [l[k]] := by rw [List.take_add_one, List.getElem?_eq_getElem h]; rfl
theorem dif_all (x : Int) (l : List Ac) : ∀ {k : Nat}, k ≤ l.length → Dif (stS (l.take k)) x
  | 0, _ => fun h => by cases h
  | k + 1, h => by rw [take_snoc h, stS_snoc]; exact (act_dif (dif_all x l (by omega)) _).1
/-- what the last row says -/
def LastOk (x : Int) (l : List Ac) (k : Nat) : Option Rw → Prop
  | none => cor (stS (l.take k)) x = none
  | some r => (r.value = 0 ∧ cor (stS (l.take k)) x = none) ∨ ∃ j, ∃ hj : j < l.length, j < k ∧ r.value = j + 1 ∧ (cor (stS (l.take k)) x).isSome = true ∧ cor (stS (l.take (j + 1))) x = cor (stS (l.take k)) x ∧ l[j].kind = 3 ∧ l[j].person = (eyesS x (l.take k)).two
theorem last_ok (x : Int) (l : List Ac) : ∀ {k : Nat}, k ≤ l.length → LastOk x l k (jR x l k).getLast?
  | 0, _ => rfl
  | k + 1, h => by
    have ih := last_ok x l (k := k) (by omega)
    have hst : stS (l.take (k + 1)) = (actS (stS (l.take k)) l[k]).1 := by rw [take_snoc h, stS_snoc]
    have hd := (act_dif (dif_all x l (k := k) (by omega)) l[k]).2
    rw [← hst] at hd
    have hey : eyesS x (l.take (k + 1)) = estep x (eyesS x (l.take k)) l[k] := by rw [take_snoc h, eyesS_snoc]
    have hL := eyesS_L x (l.take k)
    by_cases hc : cor (stS (l.take (k + 1))) x = cor (stS (l.take k)) x
    · rw [jR_same hc]
      revert ih
      generalize (jR x l k).getLast? = o
      intro ih
      cases o with
      | none => exact hc.trans ih
      | some r =>
        rcases ih with ih | ⟨j, hj, h1, h2, h3, h4, h5, h6⟩
        · exact .inl ⟨ih.1, hc.trans ih.2⟩
        · refine .inr ⟨j, hj, by omega, h2, hc ▸ h3, h4.trans hc.symm, h5, ?_⟩
          rw [hey, estep_no (fun e => (hd (hc ▸ h3)).2 (by rw [← hL]; exact e) hc)]
          exact h6
    · rw [jR_more hc, List.getLast?_append]
      show LastOk x l (k + 1) (some (rwA x l k))
      cases e : cor (stS (l.take (k + 1))) x with
      | none => exact .inl ⟨by unfold rwA; rw [e]; rfl, e⟩
      | some b =>
        obtain ⟨e0, e1, e2⟩ := (hd (by rw [e]; rfl)).1 hc
        refine .inr ⟨k, h, by omega, by unfold rwA; rw [e]; rfl, by rw [e]; rfl, rfl, e1, ?_⟩
        rw [hey, estep_yes (by rw [hL]; exact ⟨e0, e1, e2⟩)]
theorem cor_some {L : List Dg} {x : Int} {b : Bx} (h : cor L x = some b) : (gt L x).told = true ∧ (gt L x).area = b := by
  unfold cor at h
  split at h
  · rename_i ht; exact ⟨ht, Option.some.inj h⟩
  · cases h
theorem cor_none {L : List Dg} {x : Int} (h : cor L x = none) : (gt L x).told = false := by
  unfold cor at h
  split at h
  · cases h
  · rename_i ht; simpa using ht
/-- the law: what is told, and what the journal says of it -/
theorem journal {l : List Ac} {x : Int} (h : Fit l x) {t : Int} (ht : timeB t = true) (ht7 : t < 10000000) :
    (∀ t', t ≤ t' → t' < 10000000 → pickR (jR x l l.length) x t' t = (jR x l (untilL l t).length).getLast?) ∧
    ((cor (stS (untilL l t)) x = none ∧ eyesR l x t = (0, 0, 4) ∧ ((jR x l (untilL l t).length).getLast? = none ∨ ∃ r, (jR x l (untilL l t).length).getLast? = some r ∧ r.value = 0)) ∨
      ∃ b p q r j, ∃ hj : j < l.length, cor (stS (untilL l t)) x = some b ∧ (jR x l (untilL l t).length).getLast? = some r ∧ r.value = j + 1 ∧ cor (stS (l.take (j + 1))) x = some b ∧ eyesR l x t = (p, q, 0) ∧ p ≠ q ∧ l[j].person = q ∧ l[j].kind = 3 ∧ l[j].time ≤ t) := by
  refine ⟨fun t' h1 h2 => h.pick h1 h2, ?_⟩
  have hK := until_len l t
  have hu := until_eq l t
  have hl := last_ok x l hK
  cases hc : cor (stS (untilL l t)) x with
  | none =>
    refine .inl ⟨rfl, eyesR_none h.v ht h.n (by rw [eyesS_L]; exact cor_none hc), ?_⟩
    revert hl
    generalize (jR x l (untilL l t).length).getLast? = o
    intro hl
    cases o with
    | none => exact .inl rfl
    | some r =>
      refine .inr ⟨r, rfl, ?_⟩
      rcases hl with hl | ⟨j, hj, h1, h2, h3, h4, h5, h6⟩
      · exact hl.1
      · rw [← hu, hc] at h3; cases h3
  | some b =>
    right
    obtain ⟨ht1, ha⟩ := cor_some hc
    have htwo := (two_inv x (untilL l t)).2 ht1
    revert hl
    generalize hg : (jR x l (untilL l t).length).getLast? = o
    intro hl
    cases o with
    | none => unfold LastOk at hl; rw [← hu, hc] at hl; cases hl
    | some r =>
      rcases hl with ⟨_, hl⟩ | ⟨j, hj, h1, h2, h3, h4, h5, h6⟩
      · rw [← hu, hc] at hl; cases hl
      · rw [← hu] at h4 h6
        exact ⟨b, _, _, r, j, hj, rfl, rfl, h2, h4.trans hc, eyesR_ok h.v ht h.n (by rw [eyesS_L]; exact ht1), htwo.2, h6, h5, until_lt h1 hj⟩
end Ey
