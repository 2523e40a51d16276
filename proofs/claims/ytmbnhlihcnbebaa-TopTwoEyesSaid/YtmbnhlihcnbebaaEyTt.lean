/-
  Plain laws of the layer 'eyes': whatever is told was proposed for this area by one person, and agreed by another one, later in the list. No program in sight.
-/
import Derived.Test.YtmbnhlihcnbebaaEyTn
import Derived.Test.YtmbnhlihcnbebaaEyTh
import Derived.Test.YtmbnhlihcnbebaaEyN
set_option linter.unusedVariables false
namespace Ey
/-- proposed -/
def PropAt (x : Int) (u : List Ac) (p : Int) (b : Bx) : Prop := ∃ i, ∃ h : i < u.length, u[i].kind = 1 ∧ u[i].danger = x ∧ u[i].person = p ∧ u[i].area = b
/-- proposed and agreed -/
def ToldAt (x : Int) (u : List Ac) (b : Bx) (p q : Int) : Prop := ∃ i j, ∃ h : i < j, ∃ hj : j < u.length, (u[i]'(Nat.lt_trans h hj)).kind = 1 ∧ u[j].kind = 3 ∧ (u[i]'(Nat.lt_trans h hj)).danger = x ∧ u[j].danger = x ∧ (u[i]'(Nat.lt_trans h hj)).area = b ∧ (u[i]'(Nat.lt_trans h hj)).person = p ∧ u[j].person = q
theorem PropAt.snoc {x : Int} {u : List Ac} {p : Int} {b : Bx} (h : PropAt x u p b) (a : Ac) : PropAt x (u ++ [a]) p b := by
  obtain ⟨i, hi, h1⟩ := h
  refine ⟨i, by rw [List.length_append]; omega, ?_⟩
  rw [List.getElem_append_left hi]
  exact h1
theorem PropAt.last (u : List Ac) {a : Ac} (hk : a.kind = 1) : PropAt a.danger (u ++ [a]) a.person a.area := ⟨u.length, by simp, by simp [hk]⟩
theorem ToldAt.snoc {x : Int} {u : List Ac} {p q : Int} {b : Bx} (h : ToldAt x u b p q) (a : Ac) : ToldAt x (u ++ [a]) b p q := by
  obtain ⟨i, j, hij, hj, h1⟩ := h
  refine ⟨i, j, hij, by rw [List.length_append]; omega, ?_⟩
  rw [List.getElem_append_left hj, List.getElem_append_left (Nat.lt_trans hij hj)]
  exact h1
theorem PropAt.told {x : Int} {u : List Ac} {p : Int} {b : Bx} (h : PropAt x u p b) {a : Ac} (hk : a.kind = 3) (hx : a.danger = x) : ToldAt x (u ++ [a]) b p a.person := by
  obtain ⟨i, hi, h1, h2, h3, h4⟩ := h
  refine ⟨i, u.length, hi, by simp, ?_⟩
  rw [List.getElem_append_left hi]
  simp [h1, h2, h3, h4, hk, hx]
theorem two_inv (x : Int) (u : List Ac) : ((gt (stS u) x).prop ≠ 0 → (gt (stS u) x).drop = false → PropAt x u (gt (stS u) x).prop (gt (stS u) x).next) ∧
    ((gt (stS u) x).told = true → ToldAt x u (gt (stS u) x).area (eyesS x u).one (eyesS x u).two ∧ (eyesS x u).one ≠ (eyesS x u).two) := by
  have key : ∀ n, ∀ u : List Ac, u.length = n → ((gt (stS u) x).prop ≠ 0 → (gt (stS u) x).drop = false → PropAt x u (gt (stS u) x).prop (gt (stS u) x).next) ∧
    ((gt (stS u) x).told = true → ToldAt x u (gt (stS u) x).area (eyesS x u).one (eyesS x u).two ∧ (eyesS x u).one ≠ (eyesS x u).two) := by
    intro n
    induction n with
    | zero =>
      intro u hu
      obtain rfl := List.eq_nil_of_length_eq_zero hu
      exact ⟨fun h => absurd rfl h, fun h => by cases h⟩
    | succ n ih =>
      intro u hu
      obtain ⟨v, a, rfl⟩ : ∃ v a, u = v ++ [a] := by
        rcases List.eq_nil_or_concat u with rfl | ⟨v, a, rfl⟩
        · cases hu
        · exact ⟨v, a, by simp⟩
      obtain ⟨i1, i2⟩ := ih v (by simpa using hu)
      clear ih hu
      rw [stS_snoc, eyesS_snoc]
      have hL := eyesS_L x v
      generalize eyesS x v = s at *
      rw [gt_act]
      have hone : ((actS s.L a).2 = 0 ∧ a.kind = 3 ∧ a.danger = x) ∨ ((estep x s a).one = s.one ∧ (estep x s a).two = s.two) := by
        by_cases h : (actS s.L a).2 = 0 ∧ a.kind = 3 ∧ a.danger = x
        · exact .inl h
        · rw [estep_no h]; exact .inr ⟨rfl, rfl⟩
      rw [← hL] at i1 i2 ⊢
      clear hL
      split
      case isFalse hc =>
        rcases hone with h | ⟨e1, e2⟩
        · exact absurd ⟨h.2.2.symm, h.1⟩ hc
        · rw [e1, e2]
          exact ⟨fun h h' => (i1 h h').snoc a, fun h => ⟨(i2 h).1.snoc a, (i2 h).2⟩⟩
      case isTrue hc =>
        obtain ⟨hx, h0⟩ := hc
        have hy : (estep x s a) = if a.kind = 3 then ⟨(actS s.L a).1, (gt s.L x).prop, a.person⟩ else ⟨(actS s.L a).1, s.one, s.two⟩ := by
          by_cases h : a.kind = 3
          · rw [estep_yes ⟨h0, h, hx.symm⟩, if_pos h, hx]
          · rw [estep_no (fun e => h e.2.1), if_neg h]
        rw [hy]
        clear hy hone
        subst hx
        unfold lv
        unfold actS at h0
        generalize gt s.L a.danger = g at *
        have herr : (eff g a).2.2 = 0 := by
          by_cases h : (eff g a).2.2 = 0
          · exact h
          · rw [if_pos h] at h0; exact absurd h0 h
        clear h0
        by_cases k1 : a.kind = 1
        · rw [if_neg (show ¬ a.kind = 3 by omega)]
          rw [eff_k1 g k1] at herr ⊢
          split at herr
          · cases herr
          split at herr
          · cases herr
          rename_i hp hq
          rw [if_neg hp, if_neg hq, if_pos rfl]
          exact ⟨fun _ _ => PropAt.last v k1, fun h => ⟨(i2 h).1.snoc a, (i2 h).2⟩⟩
        by_cases k2 : a.kind = 2
        · rw [if_neg (show ¬ a.kind = 3 by omega)]
          rw [eff_k2 g k2] at herr ⊢
          split at herr
          · cases herr
          split at herr
          · cases herr
          rename_i hp hq
          rw [if_neg hp, if_neg hq, if_pos rfl]
          exact ⟨fun _ h => (by cases h), fun h => ⟨(i2 h).1.snoc a, (i2 h).2⟩⟩
        by_cases k3 : a.kind = 3
        · rw [if_pos k3]
          rw [eff_k3 g k3] at herr ⊢
          split at herr
          · cases herr
          split at herr
          · cases herr
          rename_i hp hq
          rw [if_neg hp, if_neg hq]
          dsimp only
          cases hd : g.drop with
          | true => exact ⟨fun h => absurd rfl h, fun h => by cases h⟩
          | false => exact ⟨fun h => absurd rfl h, fun _ => ⟨(i1 hp hd).told k3 rfl, hq⟩⟩
        · rw [if_neg k3]
          rw [eff_k4 g k1 k2 k3] at herr ⊢
          split at herr
          · cases herr
          rename_i hp
          rw [if_neg hp]
          dsimp only
          cases ht : g.told with
          | true => exact ⟨fun h => absurd rfl h, fun h => ⟨(i2 ht).1.snoc a, (i2 ht).2⟩⟩
          | false => exact ⟨fun h => absurd rfl h, fun h => by cases h⟩
  exact key _ u rfl
/-- as the law asks it -/
def twoC (x t p q : Int) (b : Bx) (a c : Ac) : Prop := a.kind = 1 ∧ c.kind = 3 ∧ a.danger = x ∧ c.danger = x ∧ a.area = b ∧ a.person = p ∧ c.person = q ∧ c.time ≤ t
theorem stS_state {l : List Ac} (h : ∀ a ∈ l, validA a = true) : stateB (stS l) = true := by
  unfold stS
  suffices ∀ L : List Dg, stateB L = true → stateB (l.foldl (fun L a => (actS L a).1) L) = true from this [] rfl
  induction l with
  | nil => intro L hL; exact hL
  | cons a l ih => intro L hL; rw [List.foldl_cons]; exact ih (fun b hb => h b (List.mem_cons_of_mem _ hb)) _ (act_sound hL (h a List.mem_cons_self))
theorem two {l : List Ac} {t : Int} (hv : validL l = true) (ht : timeB t = true) {d : Dg} (hd : d ∈ stS (untilL l t)) (htl : d.told = true) :
    ∃ p q, eyesR l d.id t = (p, q, 0) ∧ p ≠ q ∧ ∃ i j, ∃ h : i < j, ∃ hj : j < l.length, twoC d.id t p q d.area (l[i]'(Nat.lt_trans h hj)) l[j] := by
  have hu := until_eq l t
  have hst : stateB (stS (untilL l t)) = true := stS_state fun a ha => (validL_iff.1 hv).2.1 a (by rw [hu] at ha; exact List.mem_of_mem_take ha)
  have hg := (stateB_iff.1 hst).2.gt_mem hd
  have hid := (sound_parts ((stateB_iff.1 hst).1 d hd)).1
  have h := (two_inv d.id (untilL l t)).2
  rw [hg] at h
  obtain ⟨⟨i, j, hij, hj, h1⟩, hne⟩ := h htl
  refine ⟨_, _, eyesR_ok hv ht hid (by rw [eyesS_L, hg]; exact htl), hne, i, j, hij, ?_⟩
  have hj2 : j < l.length := Nat.lt_of_lt_of_le hj (until_len l t)
  refine ⟨hj2, ?_⟩
  have e : ∀ (k : Nat) (hk : k < (untilL l t).length), (untilL l t)[k] = l[k]'(Nat.lt_of_lt_of_le hk (until_len l t)) := by
    intro k hk
    have : (untilL l t)[k]? = (l.take (untilL l t).length)[k]? := congrArg (fun x : List Ac => x[k]?) hu
    rw [List.getElem?_eq_getElem hk, List.getElem?_take, if_pos hk, List.getElem?_eq_getElem (Nat.lt_of_lt_of_le hk (until_len l t))] at this
    exact Option.some.inj this
  rw [e i (Nat.lt_trans hij hj), e j hj] at h1
  obtain ⟨a1, a2, a3, a4, a5, a6, a7⟩ := h1
  exact ⟨a1, a2, a3, a4, a5, a6, a7, until_lt hj hj2⟩
end Ey
