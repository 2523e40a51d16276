/-
  Plain laws of Join.
-/
import Derived.Test.YtmnlkndbdcdngaaSymN
namespace Sb
open Go.Proofs.Ytmnlkndbdcdngaa (merge_nil merge_end merge_lt merge_gt merge_ne merge_eq)

theorem merge_comm : ∀ (a b : List Mk), merge a b = merge b a
  | [], ys => by rw [merge_nil, merge_end]
  | x :: xs, [] => by rw [merge_nil, merge_end]
  | x :: xs, y :: ys => by
    rcases Int.lt_trichotomy x.sy y.sy with h | h | h
    · rw [merge_lt h, merge_gt h, merge_comm xs (y :: ys)]
    · by_cases hk : x.kd = y.kd
      · rw [merge_eq h hk, merge_eq h.symm hk.symm, merge_comm xs ys, Int.max_comm, h, hk]
      · rw [merge_ne h hk, merge_ne h.symm (Ne.symm hk)]
    · rw [merge_gt h, merge_lt h, merge_comm (x :: xs) ys]
termination_by a b => a.length + b.length

theorem merge_self : ∀ (a : List Mk), merge a a = some a
  | [] => merge_nil
  | x :: xs => by
    rw [merge_eq rfl rfl, merge_self xs, Int.max_self]
    rfl

/-- of the one, of the other -/
def Has (l : List Mk) (x : Mk) : Prop := ∃ z ∈ l, z.sy = x.sy ∧ z.kd = x.kd ∧ x.cl ≤ z.cl
theorem Has.here {l : List Mk} {x : Mk} : Has (x :: l) x := ⟨x, by simp, rfl, rfl, Int.le_refl _⟩
theorem Has.there {l : List Mk} {x z : Mk} (h : Has l x) : Has (z :: l) x := by
  obtain ⟨y, h1, h2⟩ := h
  exact ⟨y, List.mem_cons_of_mem _ h1, h2⟩
theorem merge_mem : ∀ (a b : List Mk) {l : List Mk}, merge a b = some l → (∀ x ∈ a, Has l x) ∧ (∀ y ∈ b, Has l y) ∧ (∀ z ∈ l, (∃ x ∈ a, x.sy = z.sy) ∨ (∃ y ∈ b, y.sy = z.sy)) ∧ ((∀ x ∈ a, okM x = true) → (∀ y ∈ b, okM y = true) → ∀ z ∈ l, okM z = true)
  | [], ys, l, h => by
    rw [merge_nil] at h
    obtain rfl := Option.some.inj h
    exact ⟨by simp, fun y hy => ⟨y, hy, rfl, rfl, Int.le_refl _⟩, fun z hz => .inr ⟨z, hz, rfl⟩, fun _ h2 => h2⟩
  | x :: xs, [], l, h => by
    rw [merge_end] at h
    obtain rfl := Option.some.inj h
    exact ⟨fun y hy => ⟨y, hy, rfl, rfl, Int.le_refl _⟩, by simp, fun z hz => .inl ⟨z, hz, rfl⟩, fun h1 _ => h1⟩
  | x :: xs, y :: ys, l, h => by
    rcases Int.lt_trichotomy x.sy y.sy with hc | hc | hc
    · rw [merge_lt hc] at h
      obtain ⟨l', h', rfl⟩ := Option.map_eq_some_iff.1 h
      obtain ⟨h1, h2, h3, h4⟩ := merge_mem xs (y :: ys) h'
      refine ⟨?_, fun z hz => (h2 z hz).there, ?_, ?_⟩
      · intro z hz
        rcases List.mem_cons.1 hz with rfl | hz
        · exact Has.here
        · exact (h1 z hz).there
      · intro z hz
        rcases List.mem_cons.1 hz with rfl | hz
        · exact .inl ⟨z, by simp, rfl⟩
        · rcases h3 z hz with ⟨u, hu, e⟩ | hr
          · exact .inl ⟨u, List.mem_cons_of_mem _ hu, e⟩
          · exact .inr hr
      · intro ha hb z hz
        rcases List.mem_cons.1 hz with rfl | hz
        · exact ha z (by simp)
        · exact h4 (fun u hu => ha u (List.mem_cons_of_mem _ hu)) hb z hz
    · by_cases hk : x.kd = y.kd
      · rw [merge_eq hc hk] at h
        obtain ⟨l', h', rfl⟩ := Option.map_eq_some_iff.1 h
        obtain ⟨h1, h2, h3, h4⟩ := merge_mem xs ys h'
        refine ⟨?_, ?_, ?_, ?_⟩
        · intro z hz
          rcases List.mem_cons.1 hz with rfl | hz
          · exact ⟨_, List.mem_cons_self, rfl, rfl, Int.le_max_left _ _⟩
          · exact (h1 z hz).there
        · intro z hz
          rcases List.mem_cons.1 hz with rfl | hz
          · exact ⟨_, List.mem_cons_self, hc, hk, Int.le_max_right _ _⟩
          · exact (h2 z hz).there
        · intro z hz
          rcases List.mem_cons.1 hz with rfl | hz
          · exact .inl ⟨x, by simp, rfl⟩
          · rcases h3 z hz with ⟨u, hu, e⟩ | ⟨u, hu, e⟩
            · exact .inl ⟨u, List.mem_cons_of_mem _ hu, e⟩
            · exact .inr ⟨u, List.mem_cons_of_mem _ hu, e⟩
        · intro ha hb z hz
          rcases List.mem_cons.1 hz with rfl | hz
          · have e1 := okM_iff.1 (ha x (by simp))
            have e2 := okM_iff.1 (hb y (by simp))
            rw [okM_iff]
            dsimp only
            omega
          · exact h4 (fun u hu => ha u (List.mem_cons_of_mem _ hu)) (fun u hu => hb u (List.mem_cons_of_mem _ hu)) z hz
      · rw [merge_ne hc hk] at h
        cases h
    · rw [merge_gt hc] at h
      obtain ⟨l', h', rfl⟩ := Option.map_eq_some_iff.1 h
      obtain ⟨h1, h2, h3, h4⟩ := merge_mem (x :: xs) ys h'
      refine ⟨fun z hz => (h1 z hz).there, ?_, ?_, ?_⟩
      · intro z hz
        rcases List.mem_cons.1 hz with rfl | hz
        · exact Has.here
        · exact (h2 z hz).there
      · intro z hz
        rcases List.mem_cons.1 hz with rfl | hz
        · exact .inr ⟨z, by simp, rfl⟩
        · rcases h3 z hz with hl | ⟨u, hu, e⟩
          · exact .inl hl
          · exact .inr ⟨u, List.mem_cons_of_mem _ hu, e⟩
      · intro ha hb z hz
        rcases List.mem_cons.1 hz with rfl | hz
        · exact hb z (by simp)
        · exact h4 ha (fun u hu => hb u (List.mem_cons_of_mem _ hu)) z hz
termination_by a b => a.length + b.length

theorem merge_inc : ∀ (a b : List Mk) {l : List Mk}, merge a b = some l → a.Pairwise (fun a b => a.sy < b.sy) → b.Pairwise (fun a b => a.sy < b.sy) → l.Pairwise (fun a b => a.sy < b.sy)
  | [], ys, l, h, _, hb => by
    rw [merge_nil] at h
    obtain rfl := Option.some.inj h
    exact hb
  | x :: xs, [], l, h, ha, _ => by
    rw [merge_end] at h
    obtain rfl := Option.some.inj h
    exact ha
  | x :: xs, y :: ys, l, h, ha, hb => by
    have ha' := List.pairwise_cons.1 ha
    have hb' := List.pairwise_cons.1 hb
    rcases Int.lt_trichotomy x.sy y.sy with hc | hc | hc
    · rw [merge_lt hc] at h
      obtain ⟨l', h', rfl⟩ := Option.map_eq_some_iff.1 h
      refine List.pairwise_cons.2 ⟨fun z hz => ?_, merge_inc xs (y :: ys) h' ha'.2 hb⟩
      rcases (merge_mem _ _ h').2.2.1 z hz with ⟨u, hu, e⟩ | ⟨u, hu, e⟩
      · have := ha'.1 u hu; omega
      · rcases List.mem_cons.1 hu with rfl | hu
        · omega
        · have := hb'.1 u hu; omega
    · by_cases hk : x.kd = y.kd
      · rw [merge_eq hc hk] at h
        obtain ⟨l', h', rfl⟩ := Option.map_eq_some_iff.1 h
        refine List.pairwise_cons.2 ⟨fun z hz => ?_, merge_inc xs ys h' ha'.2 hb'.2⟩
        dsimp only
        rcases (merge_mem _ _ h').2.2.1 z hz with ⟨u, hu, e⟩ | ⟨u, hu, e⟩
        · have := ha'.1 u hu; omega
        · have := hb'.1 u hu; omega
      · rw [merge_ne hc hk] at h
        cases h
    · rw [merge_gt hc] at h
      obtain ⟨l', h', rfl⟩ := Option.map_eq_some_iff.1 h
      refine List.pairwise_cons.2 ⟨fun z hz => ?_, merge_inc (x :: xs) ys h' ha hb'.2⟩
      rcases (merge_mem _ _ h').2.2.1 z hz with ⟨u, hu, e⟩ | ⟨u, hu, e⟩
      · rcases List.mem_cons.1 hu with rfl | hu
        · omega
        · have := ha'.1 u hu; omega
      · have := hb'.1 u hu; omega
termination_by a b => a.length + b.length

theorem join_cases {oa ob oc f : Int} {a b l : List Mk} (h : join oa a ob b = ((oc, l), f)) :
    (f = 0 ∧ okB oa a = true ∧ okB ob b = true ∧ oc = oa ∧ merge a b = some l ∧ okB oa l = true) ∨ (f = 1 ∧ (okB oa a && okB ob b) = false) ∨ (f = 11 ∧ okB oa a = true ∧ okB ob b = true ∧ merge a b = none) ∨
    (f = 2 ∧ okB oa a = true ∧ okB ob b = true ∧ ∃ l', merge a b = some l' ∧ 100 < l'.length) := by
  unfold join at h
  by_cases hb : (okB oa a && okB ob b) = true
  · rw [if_pos hb] at h
    simp only [Bool.and_eq_true] at hb
    cases hm : merge a b with
    | none =>
      rw [hm] at h
      simp only [Prod.mk.injEq] at h
      obtain ⟨_, rfl⟩ := h
      exact .inr (.inr (.inl ⟨rfl, hb.1, hb.2, rfl⟩))
    | some l' =>
      rw [hm] at h
      dsimp only at h
      by_cases hl : 100 < l'.length
      · rw [if_pos hl] at h
        simp only [Prod.mk.injEq] at h
        obtain ⟨_, rfl⟩ := h
        exact .inr (.inr (.inr ⟨rfl, hb.1, hb.2, l', rfl, hl⟩))
      · rw [if_neg hl] at h
        simp only [Prod.mk.injEq] at h
        obtain ⟨⟨rfl, rfl⟩, rfl⟩ := h
        refine .inl ⟨rfl, hb.1, hb.2, rfl, rfl, okB_iff.2 ⟨(okB_iff.1 hb.1).1, ⟨by omega, ?_, ?_⟩⟩⟩
        · exact (merge_mem _ _ hm).2.2.2 (vok hb.1).ok (vok hb.2).ok
        · exact merge_inc _ _ hm (vok hb.1).inc (vok hb.2).inc
  · rw [if_neg hb] at h
    simp only [Prod.mk.injEq] at h
    obtain ⟨_, rfl⟩ := h
    exact .inr (.inl ⟨rfl, by simpa using hb⟩)

theorem lost_none {oa oc m : Int} {a c : List Mk} {l : List Int} (h : symsF oa a oc c isLost = (l, m)) (ha : okB oa a = true) (hc : okB oc c = true) (hh : ∀ x ∈ a, Has c x) : l = [] ∧ m = 0 := by
  unfold symsF at h
  rw [if_pos (by rw [ha, hc]; rfl)] at h
  obtain ⟨rfl, rfl⟩ := Prod.mk.inj h
  refine ⟨?_, rfl⟩
  rw [List.map_eq_nil_iff, List.filter_eq_nil_iff]
  intro z hz
  obtain ⟨u, hu, _, h2, h3⟩ := hh z hz
  simp [isLost, trans_there (vok hc) hu h2 h3]

theorem find_in {of : Int} {ms : List Mk} {s : Int} {m x : Mk} {e : Int} (hb : okB of ms = true) (h : findF of ms s = (m, e)) (hx : Has ms x) (hs : x.sy = s) : e = 0 ∧ m.kd = x.kd ∧ x.cl ≤ m.cl := by
  obtain ⟨z, hz, h1, h2, h3⟩ := hx
  rw [← hs, ← h1, find_mem hb hz] at h
  obtain ⟨rfl, rfl⟩ := Prod.mk.inj h
  exact ⟨rfl, h2, h3⟩

theorem joined_law {oa ob oc od o1 s e f g h i k m o : Int} {a b l1 lc ld : List Mk} {x y z : Mk} {l n : List Int} (h1 : join oa a oa a = ((o1, l1), e)) (h2 : join oa a ob b = ((oc, lc), f)) (h3 : join ob b oa a = ((od, ld), g))
    (h4 : findF oa a s = (x, h)) (h5 : findF ob b s = (y, i)) (h6 : findF oc lc s = (z, k)) (h7 : symsF oa a oc lc isLost = (l, m)) (h8 : symsF ob b oc lc isLost = (n, o)) :
    (e = 1 ∧ okB oa a = false ∧ f ≠ 0 ∧ g = f) ∨ (e = 0 ∧ oa = o1 ∧ a = l1 ∧ f ≠ 0 ∧ g = f) ∨
    (e = 0 ∧ oa = o1 ∧ a = l1 ∧ f = 0 ∧ g = 0 ∧ oa = oc ∧ lc = ld ∧ okB oa ld = true ∧ (h = 0 → k = 0 ∧ z.kd = x.kd ∧ x.cl ≤ z.cl) ∧ (i = 0 → k = 0 ∧ z.kd = y.kd ∧ y.cl ≤ z.cl) ∧ (k = 0 → h = 0 ∨ i = 0) ∧ m = 0 ∧ o = 0 ∧ l = [] ∧ n = []) := by
  have hfg : f ≠ 0 → g = f := by
    intro hf
    rcases join_cases h2 with ⟨rfl, _⟩ | ⟨rfl, k1⟩ | ⟨rfl, k1, k2, k3⟩ | ⟨rfl, k1, k2, l', k3, k4⟩
    · exact absurd rfl hf
    · rcases join_cases h3 with ⟨_, j1, j2, _⟩ | ⟨rfl, _⟩ | ⟨_, j1, j2, _⟩ | ⟨_, j1, j2, _⟩
      · rw [j1, j2] at k1; cases k1
      · rfl
      · rw [j1, j2] at k1; cases k1
      · rw [j1, j2] at k1; cases k1
    · rw [merge_comm] at k3
      rcases join_cases h3 with ⟨_, j1, j2, _, j3, _⟩ | ⟨_, j1⟩ | ⟨rfl, _⟩ | ⟨_, j1, j2, l', j3, _⟩
      · rw [k3] at j3; cases j3
      · rw [k1, k2] at j1; cases j1
      · rfl
      · rw [k3] at j3; cases j3
    · rw [merge_comm] at k3
      rcases join_cases h3 with ⟨_, j1, j2, _, j3, j4⟩ | ⟨_, j1⟩ | ⟨_, _, _, j3⟩ | ⟨rfl, _⟩
      · rw [k3] at j3
        obtain rfl := Option.some.inj j3
        have := (vok j4).len
        omega
      · rw [k1, k2] at j1; cases j1
      · rw [k3] at j3; cases j3
      · rfl
  cases ha : okB oa a with
  | false =>
    left
    have h1' : e = 1 := by
      rcases join_cases h1 with ⟨_, k, _⟩ | ⟨rfl, _⟩ | ⟨_, k, _⟩ | ⟨_, k, _⟩
      · rw [ha] at k; cases k
      · rfl
      · rw [ha] at k; cases k
      · rw [ha] at k; cases k
    have hf : f ≠ 0 := by
      rcases join_cases h2 with ⟨_, k, _⟩ | ⟨rfl, _⟩ | ⟨_, k, _⟩ | ⟨_, k, _⟩
      · rw [ha] at k; cases k
      · decide
      · rw [ha] at k; cases k
      · rw [ha] at k; cases k
    exact ⟨h1', rfl, hf, hfg hf⟩
  | true =>
    right
    have h1' : e = 0 ∧ o1 = oa ∧ l1 = a := by
      rcases join_cases h1 with ⟨rfl, _, _, rfl, k, _⟩ | ⟨_, k⟩ | ⟨_, _, _, k⟩ | ⟨_, _, _, l', k, k2⟩
      · rw [merge_self] at k
        exact ⟨rfl, rfl, (Option.some.inj k).symm⟩
      · rw [ha] at k; cases k
      · rw [merge_self] at k; cases k
      · rw [merge_self] at k
        obtain rfl := Option.some.inj k
        have := (vok ha).len
        omega
    by_cases hf : f = 0
    · right
      subst hf
      rcases join_cases h2 with ⟨_, k1, k2, rfl, k3, k4⟩ | ⟨hh, _⟩ | ⟨hh, _⟩ | ⟨hh, _⟩
      · have h3' : g = 0 ∧ ld = lc := by
          have k5 := k3
          rw [merge_comm] at k5
          rcases join_cases h3 with ⟨rfl, _, _, _, j3, _⟩ | ⟨_, j1⟩ | ⟨_, _, _, j3⟩ | ⟨_, _, _, l', j3, j4⟩
          · rw [k5] at j3
            exact ⟨rfl, (Option.some.inj j3).symm⟩
          · rw [k1, k2] at j1; cases j1
          · rw [k5] at j3; cases j3
          · rw [k5] at j3
            obtain rfl := Option.some.inj j3
            have := (vok k4).len
            omega
        obtain ⟨rfl, rfl⟩ := h3'
        obtain ⟨m1, m2, m3, _⟩ := merge_mem _ _ k3
        obtain ⟨rfl, rfl⟩ := lost_none h7 ha k4 m1
        obtain ⟨rfl, rfl⟩ := lost_none h8 k2 k4 m2
        refine ⟨h1'.1, h1'.2.1.symm, h1'.2.2.symm, rfl, rfl, rfl, rfl, k4, ?_, ?_, ?_, rfl, rfl, rfl, rfl⟩
        · rintro rfl
          obtain ⟨_, _, n1, n2⟩ := find_got h4
          exact find_in k4 h6 (m1 _ n1) n2
        · rintro rfl
          obtain ⟨_, _, n1, n2⟩ := find_got h5
          exact find_in k4 h6 (m2 _ n1) n2
        · rintro rfl
          obtain ⟨_, _, n1, n2⟩ := find_got h6
          rcases m3 _ n1 with ⟨u, hu, e1⟩ | ⟨u, hu, e1⟩
          · left
            rw [← n2, ← e1, find_mem ha hu] at h4
            exact (Prod.mk.inj h4).2.symm
          · right
            rw [← n2, ← e1, find_mem k2 hu] at h5
            exact (Prod.mk.inj h5).2.symm
      · cases hh
      · cases hh
      · cases hh
    · left
      exact ⟨h1'.1, h1'.2.1.symm, h1'.2.2.symm, hf, hfg hf⟩
end Sb
