/-
  Plain laws of the layer 'eyes': a danger that is withdrawn under two pairs of eyes. No program in sight.
-/
import Derived.Test.YtmbnhlihcnbebaaEyO
set_option linter.unusedVariables false
namespace Ey
theorem inB_no {b : Bx} {x y : Int} (h : ¬ (b.a ≤ x ∧ x ≤ b.b ∧ b.c ≤ y ∧ y ≤ b.d)) : inB b x y = false := by unfold inB; rw [decide_eq_false h, Bool.and_false]
theorem inB_yes {b : Bx} {x y : Int} (h0 : boxB b = true) (h1 : b.a ≤ x) (h2 : x ≤ b.b) (h3 : b.c ≤ y) (h4 : y ≤ b.d) : inB b x y = true := by unfold inB; rw [h0, decide_eq_true ⟨h1, h2, h3, h4⟩]; rfl
theorem sound_told {d : Dg} (h : soundD d = true) (ht : d.told = true) : boxB d.area = true := by
  unfold soundD at h
  simp only [Bool.and_eq_true, ht, if_pos] at h
  exact h.1.2
/-- what is told, up to a place -/
theorem told_at {l : List Dg} {x y : Int} {k : Nat} (hk : k < l.length) (h1 : inB l[k].area x y = true) (h2 : l[k].told = true) :
    (toldF l x y)[(toldF (l.take k) x y).length]? = some l[k].id ∧ (toldF (l.take k) x y).length < (toldF l x y).length ∧ (toldF (l.take (k + 1)) x y).length = (toldF (l.take k) x y).length + 1 := by
  have e : toldF l x y = toldF (l.take (k + 1)) x y ++ toldF (l.drop (k + 1)) x y := by
    unfold toldF
    rw [← List.map_append, ← List.filter_append, List.take_append_drop]
  rw [toldF_yes hk h1 h2] at e ⊢
  rw [e]
  refine ⟨?_, by simp, by simp⟩
  rw [List.append_assoc, List.getElem?_append_right (Nat.le_refl _), Nat.sub_self]
  rfl
theorem told_len_no {l : List Dg} {x y : Int} {k : Nat} (hk : k < l.length) (h : inB l[k].area x y = false ∨ l[k].told = false) : (toldF (l.take (k + 1)) x y).length = (toldF (l.take k) x y).length := by rw [toldF_no hk h]
theorem dl_pt {L : List Dg} (h : Sor L) (d : Dg) : dl (pt L d) d.id = dl L d.id := Sor.ext ((h.pt d).dl _) (h.dl _) fun x => by
  rw [fnd_dl, fnd_dl, fnd_pt]
  by_cases hx : x = d.id
  · rw [if_pos hx, if_pos hx]
  · rw [if_neg hx, if_neg hx, if_neg hx]
theorem dl_state {L : List Dg} (h : stateB L = true) (z : Int) : stateB (dl L z) = true := by
  rw [stateB_iff] at h ⊢
  exact ⟨fun d hd => h.1 d (List.mem_filter.1 hd).1, h.2.dl z⟩
theorem told_dl : ∀ {L : List Dg}, Sor L → ∀ (z x y : Int), (toldF L x y).length ≤ (toldF (dl L z) x y).length + 1
  | [], _, _, _, _ => Nat.zero_le _
  | d :: L, h, z, x, y => by
    have hc := List.pairwise_cons.1 h
    by_cases hz : d.id = z
    · have e : dl (d :: L) z = L := by
        unfold dl
        rw [List.filter_cons, if_neg (by simp [hz])]
        exact List.filter_eq_self.2 fun e he => by have := hc.1 e he; simp; omega
      rw [e]
      unfold toldF
      rw [List.filter_cons]
      split <;> simp
    · have e : dl (d :: L) z = d :: dl L z := by
        unfold dl
        rw [List.filter_cons, if_pos (by simpa using hz)]
      rw [e]
      have ih := told_dl hc.2 z x y
      unfold toldF at ih ⊢
      rw [List.filter_cons, List.filter_cons]
      split
      · rw [List.map_cons, List.map_cons, List.length_cons, List.length_cons]; omega
      · exact ih
theorem told_not {L : List Dg} {z x y : Int} : ∀ u ∈ toldF (dl L z) x y, u ≠ z := by
  intro u hu
  unfold toldF dl at hu
  simp only [List.mem_map, List.mem_filter] at hu
  obtain ⟨d, ⟨⟨_, h⟩, _⟩, rfl⟩ := hu
  simpa using h
def acW (k x p : Int) : Ac := ⟨k, x, p, 0, bx0⟩
theorem doR_zero {L : List Dg} {a : Ac} (h : (doR L a).2 = 0) : stateB L = true ∧ validA a = true ∧ (actS L a).2 = 0 ∧ doR L a = ((actS L a).1, 0) := by
  cases h1 : stateB L with
  | false => rw [doR_bad (.inl h1)] at h; cases h
  | true =>
    cases h2 : validA a with
    | false => rw [doR_bad (.inr h2)] at h; cases h
    | true =>
      by_cases h3 : (actS L a).2 = 0
      · exact ⟨rfl, rfl, h3, doR_ok h1 h2 h3⟩
      · rw [doR_err h1 h2 h3] at h; exact absurd h h3
theorem validA_nums {a : Ac} (h : validA a = true) : numB a.danger = true ∧ numB a.person = true := by
  unfold validA at h
  simp only [Bool.and_eq_true] at h
  exact ⟨h.1.1.1, h.1.1.2⟩
theorem eff_k1 (d : Dg) {a : Ac} (hk : a.kind = 1) : eff d a = if d.prop ≠ 0 then (d, true, 6) else if d.told = true ∧ d.area = a.area then (d, true, 5) else (⟨a.danger, d.told, d.area, a.person, d.drop, a.area⟩, true, 0) := by
  unfold eff
  rw [if_pos hk]
theorem eff_k2 (d : Dg) {a : Ac} (hk : a.kind = 2) : eff d a = if d.told = false then (d, true, 4) else if d.prop ≠ 0 then (d, true, 6) else (⟨d.id, d.told, d.area, a.person, true, d.next⟩, true, 0) := by
  unfold eff
  rw [if_neg (by omega), if_pos hk]
theorem eff_k3 (d : Dg) {a : Ac} (hk : a.kind = 3) : eff d a = if d.prop = 0 then (d, true, 4) else if d.prop = a.person then (d, true, 21) else (⟨d.id, true, d.next, 0, false, bx0⟩, !d.drop, 0) := by
  unfold eff
  rw [if_neg (by omega), if_neg (by omega), if_pos hk]
theorem eff_k4 (d : Dg) {a : Ac} (h1 : a.kind ≠ 1) (h2 : a.kind ≠ 2) (h3 : a.kind ≠ 3) : eff d a = if d.prop = 0 then (d, true, 4) else (⟨d.id, d.told, d.area, 0, false, bx0⟩, d.told, 0) := by
  unfold eff
  rw [if_neg h1, if_neg h2, if_neg h3]
theorem eff2 (d : Dg) (z p : Int) : eff d (acW 2 z p) = if d.told = false then (d, true, 4) else if d.prop ≠ 0 then (d, true, 6) else (⟨d.id, d.told, d.area, p, true, d.next⟩, true, 0) := eff_k2 d rfl
theorem eff3 (d : Dg) (z p : Int) : eff d (acW 3 z p) = if d.prop = 0 then (d, true, 4) else if d.prop = p then (d, true, 21) else (⟨d.id, true, d.next, 0, false, bx0⟩, !d.drop, 0) := eff_k3 d rfl
/-- the withdrawal -/
theorem withdrawn {L : List Dg} {z p q x y : Int} (hb : boxB ⟨x, x, y, y⟩ = true) (h1 : (doR L (acW 2 z p)).2 = 0) :
    ((doR (doR L (acW 2 z p)).1 (acW 3 z q)).2 ≠ 0 ∧ ((doR (doR L (acW 2 z p)).1 (acW 3 z q)).2 = 21 ∧ p = q ∨ (doR (doR L (acW 2 z p)).1 (acW 3 z q)).2 = 1)) ∨
    ((doR (doR L (acW 2 z p)).1 (acW 3 z q)).2 = 0 ∧ p ≠ q ∧ toldR (doR (doR L (acW 2 z p)).1 (acW 3 z q)).1 x y = (toldF (dl L z) x y, 0)) := by
  obtain ⟨s1, v1, a1, e1⟩ := doR_zero h1
  have hs := (stateB_iff.1 s1).2
  have hp : p ≠ 0 := by
    have h := (validA_nums v1).2
    intro h0
    rw [show (acW 2 z p).person = p from rfl, h0] at h
    cases h
  rw [e1]
  -- what the first act does
  have hE : ∃ d, (actS L (acW 2 z p)).1 = pt L d ∧ d.id = z ∧ d.prop = p ∧ d.drop = true := by
    have e2 := eff2 (gt L z) z p
    have hid := eff_id (L := L) (a := acW 2 z p)
    unfold actS at a1 ⊢
    rw [show (acW 2 z p).danger = z from rfl] at a1 hid ⊢
    by_cases ht : (gt L z).told = false
    · rw [if_pos ht] at e2
      rw [e2] at a1
      cases a1
    rw [if_neg ht] at e2
    by_cases h0 : (gt L z).prop ≠ 0
    · rw [if_pos h0] at e2
      rw [e2] at a1
      cases a1
    rw [if_neg h0] at e2
    rw [e2] at hid ⊢
    exact ⟨_, rfl, hid rfl, rfl, rfl⟩
  obtain ⟨d, hL1, hid, hpr, hdr⟩ := hE
  dsimp only
  rw [hL1]
  cases hst : stateB (pt L d) with
  | false => left; rw [doR_bad (.inl hst)]; exact ⟨by decide, .inr rfl⟩
  | true =>
    cases hv2 : validA (acW 3 z q) with
    | false => left; rw [doR_bad (.inr hv2)]; exact ⟨by decide, .inr rfl⟩
    | true =>
      have hg : gt (pt L d) z = d := by rw [gt_pt, if_pos hid.symm]
      have hact : actS (pt L d) (acW 3 z q) = if p = q then (pt L d, 21) else (dl (pt L d) z, 0) := by
        unfold actS
        rw [show (acW 3 z q).danger = z from rfl, hg]
        rw [eff3, hpr, if_neg hp]
        by_cases hpq : p = q
        · rw [if_pos hpq, if_pos hpq]; rfl
        · rw [if_neg hpq, if_neg hpq, hdr]; rfl
      by_cases hpq : p = q
      · left
        rw [if_pos hpq] at hact
        rw [doR_err hst hv2 (by rw [hact]; exact (by decide : (21 : Int) ≠ 0)), hact]
        exact ⟨(by decide : (21 : Int) ≠ 0), .inl ⟨rfl, hpq⟩⟩
      · right
        rw [if_neg hpq] at hact
        rw [doR_ok hst hv2 (by rw [hact]), hact]
        dsimp only
        rw [← hid, dl_pt hs d]
        exact ⟨rfl, hpq, toldR_ok (dl_state s1 _) hb⟩
theorem toldR_zero {L : List Dg} {x y : Int} : ((toldR L x y) = ([], 1)) ∨ (stateB L = true ∧ boxB ⟨x, x, y, y⟩ = true ∧ toldR L x y = (toldF L x y, 0)) := by
  cases h1 : stateB L with
  | false => exact .inl (toldR_bad (.inl h1))
  | true =>
    cases h2 : boxB ⟨x, x, y, y⟩ with
    | false => exact .inl (toldR_bad (.inr h2))
    | true => exact .inr ⟨rfl, rfl, toldR_ok h1 h2⟩
end Ey
