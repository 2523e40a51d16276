/-
  Plain laws of the layer 'eyes': two acts at the same time, on different dangers, can be exchanged. No program in sight.
-/
import Derived.Test.YtmbnhlihcnbebaaEyT
set_option linter.unusedVariables false
namespace Ey
theorem fnd_none {L : List Dg} {x : Int} (h : fnd L x = none) : gt L x = dg0 := by unfold gt; rw [h]; rfl
/-- what an act leaves of a danger -/
def lv (L : List Dg) (a : Ac) : Option Dg := if (eff (gt L a.danger) a).2.1 = true then some (eff (gt L a.danger) a).1 else none
theorem fnd_act (L : List Dg) (a : Ac) (x : Int) : fnd (actS L a).1 x = if x = a.danger ∧ (actS L a).2 = 0 then lv L a else fnd L x := by
  unfold actS lv
  by_cases h : (eff (gt L a.danger) a).2.2 = 0
  · have hid := eff_id h
    rw [if_neg (by simpa using h)]
    by_cases h2 : (eff (gt L a.danger) a).2.1 = true
    · rw [if_pos h2, if_pos h2, fnd_pt, hid]
      by_cases hx : x = a.danger
      · rw [if_pos hx, if_pos ⟨hx, rfl⟩]
      · rw [if_neg hx, if_neg (fun e => hx e.1)]
    · rw [if_neg h2, if_neg h2, fnd_dl]
      by_cases hx : x = a.danger
      · rw [if_pos hx, if_pos ⟨hx, rfl⟩]
      · rw [if_neg hx, if_neg (fun e => hx e.1)]
  · rw [if_pos h, if_neg (fun e => h e.2)]
theorem fnd_act_ne {L : List Dg} {a : Ac} {x : Int} (h : x ≠ a.danger) : fnd (actS L a).1 x = fnd L x := by rw [fnd_act, if_neg (fun e => h e.1)]
theorem gt_act_ne {L : List Dg} {a : Ac} {x : Int} (h : x ≠ a.danger) : gt (actS L a).1 x = gt L x := by unfold gt; rw [fnd_act_ne h]
/-- what comes of an act hangs on its danger alone -/
theorem act_of {L M : List Dg} {a : Ac} (h : gt L a.danger = gt M a.danger) : (actS L a).2 = (actS M a).2 ∧ lv L a = lv M a := by
  unfold actS lv
  rw [h]
  refine ⟨?_, rfl⟩
  split
  · rfl
  · split <;> rfl
theorem act_swap {L : List Dg} (hs : Sor L) {a b : Ac} (h : a.danger ≠ b.danger) : (actS (actS L a).1 b).1 = (actS (actS L b).1 a).1 ∧ (actS (actS L a).1 b).2 = (actS L b).2 ∧ (actS (actS L b).1 a).2 = (actS L a).2 := by
  have e1 := act_of (a := b) (gt_act_ne (L := L) (a := a) (Ne.symm h))
  have e2 := act_of (a := a) (gt_act_ne (L := L) (a := b) h)
  refine ⟨Sor.ext ((hs.act a).act b) ((hs.act b).act a) fun x => ?_, e1.1, e2.1⟩
  rw [fnd_act, fnd_act, fnd_act, fnd_act, e1.1, e1.2, e2.1, e2.2]
  by_cases h1 : x = a.danger
  · rw [if_neg (show ¬ (x = b.danger ∧ (actS L b).2 = 0) from fun e => h (h1.symm.trans e.1)), if_neg (show ¬ (x = b.danger ∧ (actS L b).2 = 0) from fun e => h (h1.symm.trans e.1))]
  · rw [if_neg (show ¬ (x = a.danger ∧ (actS L a).2 = 0) from fun e => h1 e.1), if_neg (show ¬ (x = a.danger ∧ (actS L a).2 = 0) from fun e => h1 e.1)]
theorem ce_swap {s : RS} {a b : Ac} (hl : s.came.length < 199) (ht : a.time = b.time) (h : a.danger ≠ b.danger) : ce (rstep s a) b = ce s b := by
  have hg : (actS (rstep s a).L b).2 = (actS s.L b).2 := by
    rw [rstep_eq]
    dsimp only
    split
    · exact (act_of (gt_act_ne (Ne.symm h))).1
    · rfl
  have hla : (rstep s a).last = la s a := by rw [rstep_eq]
  have hcl : (rstep s a).came.length = s.came.length + 1 := rstep_came s a
  unfold ce
  rw [hg, hla, hcl, if_neg (show ¬ 200 ≤ s.came.length + 1 by omega), if_neg (show ¬ 200 ≤ s.came.length by omega)]
  by_cases hb : b.time < s.last
  · have : b.time < la s a := Int.lt_of_lt_of_le hb (la_le s a)
    rw [if_pos hb, if_pos this]
  · have : ¬ b.time < la s a := by
      unfold la
      split <;> omega
    rw [if_neg hb, if_neg this]
theorem la_swap {s : RS} {a b : Ac} (hl : s.came.length < 199) (ht : a.time = b.time) : la (rstep s a) b = if validA a = true ∧ ¬ a.time < s.last ∨ validA b = true ∧ ¬ b.time < s.last then a.time else s.last := by
  have hla : (rstep s a).last = la s a := by rw [rstep_eq]
  have hcl : (rstep s a).came.length = s.came.length + 1 := rstep_came s a
  unfold la
  rw [hla, hcl]
  unfold la
  cases h1 : validA a <;> cases h2 : validA b <;> by_cases h3 : a.time < s.last
  all_goals
    have h4 := h3
    rw [ht] at h4
    simp [h4, ht]
    try omega
theorem step_swap {s : RS} (hs : Sor s.L) {a b : Ac} (hl : s.came.length < 199) (ht : a.time = b.time) (h : a.danger ≠ b.danger) :
    ∃ L t, rstep (rstep s a) b = ⟨L, t, s.came ++ [ce s a, ce s b]⟩ ∧ rstep (rstep s b) a = ⟨L, t, s.came ++ [ce s b, ce s a]⟩ := by
  have c1 := ce_swap hl ht h
  have c2 := ce_swap hl ht.symm (Ne.symm h)
  have l1 := la_swap (s := s) (a := a) (b := b) hl ht
  have l2 := la_swap (s := s) (a := b) (b := a) hl ht.symm
  have sw := act_swap hs h
  refine ⟨if ce s b = 0 then (if ce s a = 0 then (actS (actS s.L a).1 b).1 else (actS s.L b).1) else (if ce s a = 0 then (actS s.L a).1 else s.L),
    if validA a = true ∧ ¬ a.time < s.last ∨ validA b = true ∧ ¬ b.time < s.last then a.time else s.last, (rstep_eq _ _).trans ?_, (rstep_eq _ _).trans ?_⟩
  · rw [c1, l1, rstep_eq s a]
    dsimp only
    rw [List.append_assoc]
    congr 1
    by_cases h1 : ce s a = 0 <;> by_cases h2 : ce s b = 0 <;> simp [h1, h2]
  · rw [c2, l2, rstep_eq s b]
    dsimp only
    rw [List.append_assoc]
    congr 1
    · by_cases h1 : ce s a = 0 <;> by_cases h2 : ce s b = 0 <;> simp [h1, h2, sw.1]
    · rw [ht]
      congr 1
      exact propext Or.comm
theorem rest_swap : ∀ (m : List Ac) (L : List Dg) (t : Int) (c d : List Int), c.length = d.length → ∃ L' t' r, m.foldl rstep ⟨L, t, c⟩ = ⟨L', t', c ++ r⟩ ∧ m.foldl rstep ⟨L, t, d⟩ = ⟨L', t', d ++ r⟩
  | [], L, t, c, d, _ => ⟨L, t, [], by simp, by simp⟩
  | a :: m, L, t, c, d, h => by
    have e : ce ⟨L, t, c⟩ a = ce ⟨L, t, d⟩ a := by unfold ce; simp only [h]
    have e2 : la ⟨L, t, c⟩ a = la ⟨L, t, d⟩ a := by unfold la; simp only [h]
    obtain ⟨L', t', r, h1, h2⟩ := rest_swap m (if ce ⟨L, t, c⟩ a = 0 then (actS L a).1 else L) (la ⟨L, t, c⟩ a) (c ++ [ce ⟨L, t, c⟩ a]) (d ++ [ce ⟨L, t, c⟩ a]) (by simp [h])
    refine ⟨L', t', ce ⟨L, t, c⟩ a :: r, ?_, ?_⟩
    · rw [List.foldl_cons, rstep_eq, h1, List.append_assoc]; rfl
    · rw [List.foldl_cons, rstep_eq, ← e, ← e2, h2, List.append_assoc]; rfl
/-- the exchange -/
theorem rep_swap (p q : List Ac) {a b : Ac} (hl : (p ++ a :: b :: q).length ≤ 200) (ht : a.time = b.time) (h : a.danger ≠ b.danger) :
    ∃ L t c x y r, c.length = p.length ∧ replS (p ++ a :: b :: q) = ⟨L, t, c ++ x :: y :: r⟩ ∧ replS (p ++ b :: a :: q) = ⟨L, t, c ++ y :: x :: r⟩ := by
  have hc := replS_came p
  have hp : (replS p).came.length < 199 := by rw [hc]; simp at hl; omega
  obtain ⟨L1, t1, e1, e2⟩ := step_swap (replS_sor p).1 hp ht h
  obtain ⟨L, t, r, h1, h2⟩ := rest_swap q L1 t1 ((replS p).came ++ [ce (replS p) a, ce (replS p) b]) ((replS p).came ++ [ce (replS p) b, ce (replS p) a]) (by simp)
  refine ⟨L, t, (replS p).came, ce (replS p) a, ce (replS p) b, r, hc, ?_, ?_⟩
  · unfold replS at e1 h1 ⊢
    rw [List.foldl_append, List.foldl_cons, List.foldl_cons, e1, h1, List.append_assoc]; rfl
  · unfold replS at e2 h2 ⊢
    rw [List.foldl_append, List.foldl_cons, List.foldl_cons, e2, h2, List.append_assoc]; rfl
/-- the rows of the law: the time taken over, the two acts exchanged -/
def ap1 (l : List Ac) (k : Nat) (t : Int) : List Ac := match l[k + 1]? with | some b => l.set (k + 1) { b with time := t } | none => l
def sw {α : Type} (l : List α) (k : Nat) (a b : α) : List α := (l.set k b).set (k + 1) a
theorem sw_parts {α : Type} (p q : List α) (a b x y : α) : sw (p ++ a :: b :: q) p.length x y = p ++ y :: x :: q := by
  unfold sw
  rw [List.set_append_right _ _ (Nat.le_refl _), Nat.sub_self, List.set_cons_zero, List.set_append_right _ _ (by omega), show p.length + 1 - p.length = 1 by omega, List.set_cons_succ, List.set_cons_zero]
theorem parts {α : Type} (l : List α) (k : Nat) (h : k + 1 < l.length) : ∃ p q, p.length = k ∧ l = p ++ l[k] :: l[k + 1] :: q :=
  ⟨l.take k, l.drop (k + 2), by rw [List.length_take]; omega, by
    have h1 := List.take_append_drop k l
    rw [List.drop_eq_getElem_cons (by omega), List.drop_eq_getElem_cons h] at h1
    exact h1.symm⟩
theorem apart (l : List Ac) (k : Nat) (h : k + 1 < l.length) (hl : l.length ≤ 200) (ht : l[k].time = l[k + 1].time) (hd : l[k].danger ≠ l[k + 1].danger) :
    (replS (sw l k l[k] l[k + 1])).L = (replS l).L ∧ ∀ (x y : Int), (replS l).came[k]? = some x → (replS l).came[k + 1]? = some y → (replS (sw l k l[k] l[k + 1])).came = sw (replS l).came k x y := by
  obtain ⟨p, q, hp, hl2⟩ := parts l k h
  generalize l[k] = a at *
  generalize l[k + 1] = b at *
  subst hl2
  subst hp
  obtain ⟨L, t, c, x, y, r, hc, e1, e2⟩ := rep_swap p q hl ht hd
  rw [sw_parts, e1, e2]
  refine ⟨rfl, fun x' y' h1 h2 => ?_⟩
  dsimp only at h1 h2 ⊢
  rw [← hc] at h1 h2 ⊢
  rw [List.getElem?_append_right (Nat.le_refl _), Nat.sub_self] at h1
  rw [List.getElem?_append_right (by omega), show c.length + 1 - c.length = 1 by omega] at h2
  obtain rfl : x = x' := by simpa using h1
  obtain rfl : y = y' := by simpa using h2
  rw [sw_parts]
theorem apart2 {M : List Ac} {K : Nat} {a b : Ac} (ha : M[K]? = some a) (hb : M[K + 1]? = some b) (hl : M.length ≤ 200) (ht : a.time = b.time) (hd : a.danger ≠ b.danger) :
    (replS (sw M K a b)).L = (replS M).L ∧ ∀ (x y : Int), (replS M).came[K]? = some x → (replS M).came[K + 1]? = some y → (replS (sw M K a b)).came = sw (replS M).came K x y := by
  obtain ⟨h1, rfl⟩ := List.getElem?_eq_some_iff.1 ha
  obtain ⟨h2, rfl⟩ := List.getElem?_eq_some_iff.1 hb
  exact apart M K h2 hl ht hd
theorem ap_parts {l : List Ac} {K : Nat} (h : K + 1 < l.length) : ∃ M a b, l.set (K + 1) { l[K + 1] with time := l[K].time } = M ∧ M.length = l.length ∧ M[K]? = some a ∧ M[K + 1]? = some b ∧ a.time = b.time :=
  ⟨_, l[K], { l[K + 1] with time := l[K].time }, rfl, List.length_set .., by rw [List.getElem?_set_ne (by omega), List.getElem?_eq_getElem (by omega)], List.getElem?_set_self h, rfl⟩
theorem sw_len {α : Type} (l : List α) (k : Nat) (a b : α) : (sw l k a b).length = l.length := by unfold sw; rw [List.length_set, List.length_set]
end Ey
