/-
  The laws of chapter 35, in plain Lean. No program in sight.
-/
import Derived.Test.YtpdecgbfnhaojaaGreatReuP
set_option linter.unusedVariables false
namespace Ru
open Nb Ck Go.Proofs.YtpdecgbfnhaojaaGreat

/-- what reuse's Take returns -/
theorem takeR_cases (l : List Us) (st kd now u k : Int) (cs : List Clk) :
    (∃ e, takeR l st kd now u k cs = ([], zeroN, e) ∧ e ≠ 0) ∨
    (∃ x t, freeF u k cs = (t, 0) ∧ takeR l st kd now u k cs = (l ++ [⟨x, now, max t (now + 1)⟩], x, 0) ∧ RowsOk l ∧ RowsOk (l ++ [⟨x, now, max t (now + 1)⟩]) ∧ x.st = st ∧ x.kd = kd ∧ used l x now = false ∧ tm now = true ∧ l.length < 200) := by
  unfold takeR
  by_cases ha : askedR l st kd now = true
  · rw [if_pos ha]
    by_cases hf : (freeF u k cs).2 = 0
    · rw [if_neg (by rw [hf]; simp)]
      rcases take_cases l st kd now (max (freeF u k cs).1 (now + 1)) with ⟨e, h1, h2⟩ | ⟨x, h1, h2, h3, h4, h5, h6, r, h7⟩
      · left; exact ⟨e, h1, h2⟩
      · right
        obtain ⟨a1, a2, a3, a4⟩ := asked_zero h3
        have hr := rows_iff.1 a1
        obtain ⟨b1, b2, b3, b4, b5⟩ := frees_mem hr h7
        have ho := okN_iff.1 a2
        refine ⟨x, (freeF u k cs).1, by rw [← hf], h1, hr, ?_, b1, b2, b5, a3, h6⟩
        exact more_rows hr h6 (okN_iff.2 ⟨by rw [b1]; exact ho.1, by rw [b1]; exact ho.2.1, by rw [b2]; exact ho.2.2.1, by rw [b2]; exact ho.2.2.2.1, b3, b4⟩) a3 h4 h5 a4 b5
    · left; rw [if_pos hf]; exact ⟨_, rfl, hf⟩
  · left; rw [if_neg ha]; exact ⟨1, rfl, by decide⟩

theorem never_law {l l' : List Us} {st kd now u k later t f g : Int} {cs : List Clk} {n x : Nm} (h1 : freeF u k cs = (t, 0)) (h2 : takeR l st kd now u k cs = (l', n, f)) (h3 : next l' st kd later = (x, g)) :
    (f ≠ 0) ∨ (f = 0 ∧ ∃ l0 b, l' = l0 ++ [b] ∧ (g ≠ 0 ∨ (g = 0 ∧ x ≠ n) ∨ (g = 0 ∧ x = n ∧ t ≤ later ∧ b.fe ≤ later ∧ later ≤ 10000000))) := by
  rcases takeR_cases l st kd now u k cs with ⟨e, h4, h5⟩ | ⟨y, t', h4, h5, hr, hr', c1, c2, c3, c4, c5⟩
  · left
    rw [h4] at h2
    simp only [Prod.mk.injEq] at h2
    rw [← h2.2.2]; exact h5
  · right
    rw [h1] at h4
    simp only [Prod.mk.injEq, and_true] at h4
    subst h4
    rw [h5] at h2
    simp only [Prod.mk.injEq] at h2
    obtain ⟨rfl, rfl, rfl⟩ := h2
    refine ⟨rfl, l, _, rfl, ?_⟩
    by_cases hg : g = 0
    · right
      subst hg
      by_cases hx : x = y
      · right
        subst hx
        by_cases ha : asked (l ++ [⟨x, now, max t (now + 1)⟩]) st kd later = 0
        · obtain ⟨a1, a2, a3, a4⟩ := asked_zero ha
          cases hf : frees (l ++ [⟨x, now, max t (now + 1)⟩]) st kd later with
          | nil => rw [next_none ha hf] at h3; simp at h3
          | cons z r =>
            rw [next_some ha hf] at h3
            simp only [Prod.mk.injEq, and_true] at h3
            subst h3
            obtain ⟨b1, b2, b3, b4, b5⟩ := frees_mem hr' hf
            have h6 := a4 ⟨z, now, max t (now + 1)⟩ (by simp)
            dsimp only at h6
            have h7 : ¬ (later < max t (now + 1)) := fun hh => by
              rw [used_iff.2 ⟨⟨z, now, max t (now + 1)⟩, by simp, rfl, h6, hh⟩] at b5
              cases b5
            have := tm_iff.1 a3
            exact ⟨rfl, rfl, by omega, by dsimp only; omega, this.2⟩
        · rw [next_err ha] at h3
          simp only [Prod.mk.injEq] at h3
          exact absurd h3.2 ha
      · left; exact ⟨rfl, hx⟩
    · left; exact hg

theorem nolater_law {u k t e : Int} {cs : List Clk} (h : freeF u k cs = (t, e)) :
    e = 1 ∨ (e = 0 ∧ t = 0) ∨ (e = 4 ∧ droppedF cs u k 10000000 = false) ∨ (e = 0 ∧ 0 < t ∧ t ≤ 10000000 ∧ droppedF cs u k (t - 1) = false) := by
  rcases free_cases u k cs with h1 | ⟨h1, h2, h3, ⟨h4, h5⟩ | ⟨h4, h5⟩⟩
  · left; rw [h1] at h; simp at h; exact h.2.symm
  · right; right; left
    rw [h4] at h
    simp only [Prod.mk.injEq] at h
    refine ⟨h.2.symm, held_before h1 h3 (by omega) ?_⟩
    have : mostOf (cs.map fun c => freeC c (u + k)) ≤ 10000001 := mostOf_le.2 ⟨by decide, fun x hx => by obtain ⟨c, hc, rfl⟩ := List.mem_map.1 hx; exact (freeC_bd c _).2⟩
    omega
  · right
    rw [h4] at h
    simp only [Prod.mk.injEq] at h
    obtain ⟨ht, he⟩ := h
    have h0 := mostOf_nonneg (cs.map fun c => freeC c (u + k))
    by_cases hz : t = 0
    · left; exact ⟨he.symm, hz⟩
    · right; right
      exact ⟨he.symm, by omega, by omega, held_before h1 h3 (by omega) (by omega)⟩

theorem longer_law {u k a b t e s f : Int} {cs : List Clk} {c : Clk} (ha : 0 ≤ a) (hb : 0 ≤ b) (h : freeF u k cs = (t, e)) (h' : freeF (min 10000000 (u + a)) (min 100000 (k + b)) (cs ++ [c]) = (s, f)) :
    e = 1 ∨ f = 1 ∨ f = 4 ∨ (f = 0 ∧ e = 0 ∧ t ≤ s) := by
  rcases free_cases u k cs with h1 | ⟨h1, h2, h3, h45⟩
  · left; rw [h1] at h; simp at h; exact h.2.symm
  · right
    have hk := kept_iff.1 h1
    rcases free_cases (min 10000000 (u + a)) (min 100000 (k + b)) (cs ++ [c]) with g1 | ⟨g1, g2, g3, ⟨g4, g5⟩ | ⟨g4, g5⟩⟩
    · left; rw [g1] at h'; simp at h'; exact h'.2.symm
    · right; left; rw [g4] at h'; simp at h'; exact h'.2.symm
    · right; right
      rw [g4] at h'
      simp only [Prod.mk.injEq] at h'
      have hm : mostOf (cs.map fun c => freeC c (u + k)) ≤ mostOf ((cs ++ [c]).map fun c => freeC c (min 10000000 (u + a) + min 100000 (k + b))) := by
        refine mostOf_le.2 ⟨mostOf_nonneg _, fun x hx => ?_⟩
        obtain ⟨d, hd, rfl⟩ := List.mem_map.1 hx
        have h5 : freeC d (min 10000000 (u + a) + min 100000 (k + b)) ∈ (cs ++ [c]).map fun c => freeC c (min 10000000 (u + a) + min 100000 (k + b)) := List.mem_map.2 ⟨d, by simp [hd], rfl⟩
        have := le_mostOf h5
        have := freeC_mono (h3 d hd) (x := u + k) (y := min 10000000 (u + a) + min 100000 (k + b)) (by omega)
        omega
      rcases h45 with ⟨h4, h5⟩ | ⟨h4, h5⟩
      · omega
      · rw [h4] at h
        simp only [Prod.mk.injEq] at h
        exact ⟨h'.2.symm, h.2.symm, by omega⟩

/-- what Holds returns, in all -/
theorem holds_all (c : Clk) (u k t : Int) : (holds c u k t = (0, 1) ∧ (kept u k = false ∨ okC c = false ∨ tm t = false)) ∨ (kept u k = true ∧ okC c = true ∧ tm t = true ∧ ((holds c u k t).2 = 0 ∨ holds c u k t = (0, 4))) := by
  by_cases h : kept u k = false ∨ okC c = false ∨ tm t = false
  · exact .inl ⟨holds_arg h, h⟩
  · right
    simp only [not_or, Bool.not_eq_false] at h
    refine ⟨h.1, h.2.1, h.2.2, ?_⟩
    rcases holds_cases h.1 h.2.1 h.2.2 with h3 | h3 | h3
    · exact .inl h3.2.2.1
    · left; rw [h3.2.2]
    · exact .inr h3.1

theorem holds_val {c : Clk} {u k t x y : Int} (hk : kept u k = true) (h : shows c t = ((x, y), 0)) : holds c u k t = if y ≤ u + k then (1, 0) else if u + k < x then (-1, 0) else (0, 0) := by
  unfold holds
  rw [if_pos hk, h]
  rfl
theorem holds_no {c : Clk} {u k t : Int} (hk : kept u k = true) (h : shows c t = ((0, 0), 4)) : holds c u k t = (0, 4) := by
  unfold holds
  rw [if_pos hk, h]
  rfl
theorem holds_mono {c : Clk} {u k a b : Int} (hab : a ≤ b) (hk : kept u k = true) (h : okC c = true) (ha : tm a = true) (hb : tm b = true) (h1 : (holds c u k a).2 = 0) (h2 : (holds c u k b).2 = 0) : (holds c u k b).1 ≤ (holds c u k a).1 := by
  rcases shows_cases h ha with ⟨p1, p2, p3, p4, p5⟩ | ⟨p1, p3⟩
  · rcases shows_cases h hb with ⟨q1, q2, q3, q4, q5⟩ | ⟨q1, q3⟩
    · obtain ⟨a1, a2, a3⟩ := fstH_spec h a
      obtain ⟨b1, b2, b3⟩ := fstH_spec h b
      obtain ⟨c1, c2, c3⟩ := fstL_spec h (a + 1)
      obtain ⟨d1, d2, d3⟩ := fstL_spec h (b + 1)
      have m1 : fstH c a ≤ fstH c b := by
        have := (b3 (fstH c b) b1 (by omega)).2 (Int.le_refl _)
        exact (a3 (fstH c b) b1 (by omega)).1 (by omega)
      have m2 : fstL c (a + 1) ≤ fstL c (b + 1) := by
        by_cases hd : fstL c (b + 1) < 10000001
        · have := (d3 (fstL c (b + 1)) d1 hd).2 (Int.le_refl _)
          exact (c3 (fstL c (b + 1)) d1 hd).1 (by omega)
        · omega
      rw [holds_val hk p3, holds_val hk q3]
      by_cases y1 : fstL c (b + 1) - 1 ≤ u + k
      · rw [if_pos y1, if_pos (by omega)]
        exact Int.le_refl _
      · rw [if_neg y1]
        by_cases y2 : fstL c (a + 1) - 1 ≤ u + k
        · rw [if_pos y2]
          split <;> simp
        · rw [if_neg y2]
          by_cases y3 : u + k < fstH c a
          · rw [if_pos y3, if_pos (by omega)]
            exact Int.le_refl _
          · rw [if_neg y3]
            split <;> simp
    · rw [holds_no hk q3] at h2; simp at h2
  · rw [holds_no hk p3] at h1; simp at h1

theorem dropped_law {c : Clk} {u k a b x e y f t g : Int} (hab : a ≤ b) (h1 : holds c u k a = (x, e)) (h2 : holds c u k b = (y, f)) (h3 : freeF u k [c] = (t, g)) :
    (e ≠ 0) ∨ (e = 0 ∧ f = 1) ∨ (e = 0 ∧ f = 4) ∨ (e = 0 ∧ f = 0 ∧ y ≤ x ∧ (g = 4 ∨ (g = 0 ∧ y < 0 ∧ t ≤ b) ∨ (g = 0 ∧ 0 ≤ y ∧ b < t))) := by
  by_cases he : e = 0
  · right
    rcases holds_all c u k b with ⟨h4, _⟩ | ⟨hk, hc, hb, h4 | h4⟩
    · left; rw [h4] at h2; simp at h2; exact ⟨he, h2.2.symm⟩
    · right; right
      have ha : tm a = true := by
        rcases holds_all c u k a with ⟨h5, _⟩ | ⟨_, _, h5, _⟩
        · rw [h5] at h1; simp at h1; omega
        · exact h5
      rw [h2] at h4
      dsimp only at h4
      have hm := holds_mono hab hk hc ha hb (by rw [h1]; exact he) (by rw [h2]; exact h4)
      rw [h1, h2] at hm
      refine ⟨he, h4, hm, ?_⟩
      have hfc : freeF u k [c] = if 10000000 < freeC c (u + k) then (0, 4) else (freeC c (u + k), 0) := by
        have hmx : mostOf [freeC c (u + k)] = freeC c (u + k) := by
          have := freeC_bd c (u + k)
          simp [mostOf]; omega
        unfold freeF
        rw [if_pos (by simp [hk, hc])]
        simp only [List.map_cons, List.map_nil, hmx]
      rw [h3] at hfc
      by_cases hb1 : 10000000 < freeC c (u + k)
      · rw [if_pos hb1] at hfc; simp at hfc; exact .inl hfc.2
      · rw [if_neg hb1] at hfc
        simp only [Prod.mk.injEq] at hfc
        right
        rcases holds_cases hk hc hb with h6 | h6 | h6
        · right; rw [h2] at h6; exact ⟨hfc.2, h6.2.2.2.1, by omega⟩
        · left; rw [h2] at h6; simp at h6; exact ⟨hfc.2, by omega, by omega⟩
        · rw [h2] at h6; simp at h6; omega
    · right; left; rw [h4] at h2; simp at h2; exact ⟨he, h2.2.symm⟩
  · exact .inl he

theorem waiting_law {l : List Us} {st kd now w e n f m g q h between : Int} (h1 : waitR l st kd now = (w, e)) (h2 : room l st kd now = (n, f)) (h3 : room l st kd w = (m, g)) (h4 : room l st kd between = (q, h)) :
    (e = f ∧ e ≠ 0) ∨ (e = 0 ∧ f = 0 ∧ g = 0 ∧ 0 < m ∧ ((w = now ∧ 0 < n) ∨ (now < w ∧ n = 0)) ∧ (between < now ∨ (now ≤ between ∧ w ≤ between) ∨ (now ≤ between ∧ between < w ∧ h = 0 ∧ q = 0))) := by
  by_cases ha : askedR l st kd now = true
  · by_cases hf : f = 0
    · right
      subst hf
      have hz : asked l st kd now = 0 := by
        rw [room_freeN] at h2
        split at h2
        · assumption
        · simp only [Prod.mk.injEq] at h2; exact h2.2
      have e1 := room_at hz
      rw [h2] at e1
      simp only [Prod.mk.injEq, and_true] at e1
      unfold waitR at h1
      rw [if_pos ha, h2] at h1
      dsimp only at h1
      rw [if_neg (by simp)] at h1
      by_cases hn : 0 < n
      · rw [if_pos hn] at h1
        simp only [Prod.mk.injEq] at h1
        obtain ⟨rfl, rfl⟩ := h1
        rw [h3] at h2
        simp only [Prod.mk.injEq] at h2
        refine ⟨rfl, rfl, h2.2, by omega, .inl ⟨rfl, hn⟩, ?_⟩
        rcases Int.lt_or_le between now with h5 | h5
        · exact .inl h5
        · exact .inr (.inl ⟨h5, h5⟩)
      · rw [if_neg hn] at h1
        simp only [Prod.mk.injEq] at h1
        obtain ⟨rfl, rfl⟩ := h1
        obtain ⟨b1, b2, b3, b4, b5⟩ := best_spec hz (by omega)
        have e2 := room_at (asked_later hz (by omega) b2)
        rw [h3] at e2
        simp only [Prod.mk.injEq] at e2
        refine ⟨rfl, rfl, e2.2, by omega, .inr ⟨b1, by omega⟩, ?_⟩
        rcases Int.lt_or_le between now with h5 | h5
        · exact .inl h5
        · right
          rcases Int.lt_or_le between (best l st kd now) with h6 | h6
          · right
            have e3 := room_at (asked_later hz h5 (by omega))
            rw [h4, b5 between h5 h6] at e3
            simp only [Prod.mk.injEq] at e3
            exact ⟨h5, h6, e3.2, by simpa using e3.1⟩
          · left; exact ⟨h5, h6⟩
    · left
      rw [wait_err ha (by rw [h2]; exact hf), h2] at h1
      simp only [Prod.mk.injEq] at h1
      exact ⟨h1.2.symm, by rw [← h1.2]; exact hf⟩
  · left
    have ha' : askedR l st kd now = false := by simpa using ha
    rw [wait_bad ha'] at h1
    have h5 : asked l st kd now = 1 := by
      apply asked_one
      simp only [askedR, Bool.and_eq_false_iff] at ha'
      rcases ha' with (h | h) | h
      · exact .inl h
      · exact .inr (.inl h)
      · exact .inr (.inr h)
    rw [room_err (by rw [h5]; decide), h5] at h2
    simp only [Prod.mk.injEq] at h1 h2
    exact ⟨by rw [← h1.2, ← h2.2], by rw [← h1.2]; decide⟩

theorem meant_law {l : List Us} {n : Nm} {c : Clk} {r time k e lo hi f i g : Int} (h1 : who l n time = (k, e)) (h2 : true_ c r = ((lo, hi), f)) (h3 : oldR l n c r = (i, g)) :
    e ≠ 0 ∨ (e = 0 ∧ f ≠ 0) ∨ (e = 0 ∧ f = 0 ∧ (time < lo ∨ (lo ≤ time ∧ hi < time) ∨ (lo ≤ time ∧ time ≤ hi ∧ ((g = 0 ∧ i = k) ∨ g = 5)))) := by
  by_cases he : e = 0
  · right
    by_cases hf : f = 0
    · right
      refine ⟨he, hf, ?_⟩
      rcases Int.lt_or_le time lo with h4 | h4
      · exact .inl h4
      · right
        rcases Int.lt_or_le hi time with h5 | h5
        · exact .inl ⟨h4, h5⟩
        · right
          refine ⟨h4, h5, ?_⟩
          rcases who_cases l n time with ⟨h6, _⟩ | ⟨_, h6, _⟩ | ⟨h6, j, hj, h7, h8⟩
          · rw [h6] at h1; simp at h1; omega
          · rw [h6] at h1; simp at h1; omega
          · rw [h7] at h1
            simp only [Prod.mk.injEq] at h1
            obtain ⟨a1, a2, a3, _⟩ := not_bad h6
            unfold oldR at h3
            rw [if_pos (by rw [a1, a2]; rfl), h2] at h3
            dsimp only at h3
            rw [if_neg (by rw [hf]; simp)] at h3
            have hsp : tm lo = true ∧ tm hi = true := by
              unfold true_ at h2
              split at h2
              · split at h2
                · simp at h2; omega
                · simp only [Prod.mk.injEq] at h2
                  obtain ⟨⟨rfl, rfl⟩, _⟩ := h2
                  exact ⟨tm_iff.2 (by omega), tm_iff.2 (by omega)⟩
              · simp at h2; omega
            have hbad : sureBad l n lo hi = false := by
              unfold sureBad
              rw [a1, a2, hsp.1, hsp.2, decide_eq_false (by omega)]
              rfl
            rcases sure_who hj ((h8 j hj).2 rfl) h4 h5 hbad with h9 | h9
            · right; rw [h3] at h9; exact h9
            · left
              rw [h3] at h9
              simp only [Prod.mk.injEq] at h9
              exact ⟨h9.2, by rw [h9.1, ← h1.1]⟩
    · exact .inl ⟨he, hf⟩
  · exact .inl he

theorem free_one {u kp : Int} {k : Clk} (h : kept u kp = true) (hok : okC k = true) (hle : freeC k (u + kp) ≤ 10000000) : freeF u kp [k] = (freeC k (u + kp), 0) := by
  have hmx : mostOf [freeC k (u + kp)] = freeC k (u + kp) := by
    have := freeC_bd k (u + kp)
    simp [mostOf]; omega
  unfold freeF
  rw [if_pos (by simp [h, hok])]
  simp only [List.map_cons, List.map_nil, hmx]
  rw [if_neg (by omega)]
theorem slip_add {x y : Int} (hx : 0 ≤ x) (hy : 0 ≤ y) : x / 1000000 + y / 1000000 ≤ (x + y) / 1000000 := by omega

theorem better_law {c k : Clk} {r lo hi u kp e t f s g : Int} (h1 : correct c r lo hi = (k, e)) (h2 : freeF u kp [c] = (t, f)) (h3 : freeF u kp [k] = (s, g)) : e ≠ 0 ∨ (e = 0 ∧ f ≠ 0) ∨ (e = 0 ∧ f = 0 ∧ g = 0 ∧ s ≤ t) := by
  by_cases he : e = 0
  · right
    by_cases hf : f = 0
    · right
      subst he hf
      obtain ⟨a1, a2, a3, a4, a5, a6⟩ := free_ok h2
      have hc := a3 c (by simp)
      unfold correct at h1
      split at h1
      · simp at h1
      · rename_i hs
        split at h1
        · rename_i hne; simp only [Prod.mk.injEq] at h1; exact absurd h1.2 hne
        · rename_i hne
          split at h1
          · simp at h1
          · rename_i hlt
            unfold set_ at h1
            split at h1
            · split at h1
              · rename_i hsig hok
                simp only [Prod.mk.injEq, and_true] at h1
                have htr : (true_ c r).2 = 0 := by simpa using hne
                have h4 : c.at_ ≤ r ∧ r ≤ 10000000 ∧ (true_ c r).1 = (max 0 (low c r), min 10000000 (high c r)) := by
                  unfold true_ at htr ⊢
                  split at htr
                  · rename_i hg
                    simp only [Bool.and_eq_true, decide_eq_true_eq] at hg
                    rw [if_pos (by simp [hg.1, hg.2])]
                    split at htr
                    · simp at htr
                    · rename_i hq; rw [if_neg hq]; exact ⟨hg.2.1, hg.2.2, rfl⟩
                  · simp at htr
                obtain ⟨b1, b2, b3⟩ := h4
                rw [b3] at h1 hok hlt
                dsimp only at h1 hok hlt
                subst h1
                have hmx : ∀ c : Clk, mostOf [freeC c (u + kp)] = freeC c (u + kp) := fun c => by
                  have := freeC_bd c (u + kp)
                  simp [mostOf]; omega
                have hle : freeC ⟨r, max (max 0 (low c r)) lo - r, min (min 10000000 (high c r)) hi - r, c.dr⟩ (u + kp) ≤ freeC c (u + kp) := by
                  have hkp := kept_iff.1 a1
                  have hhi : ∀ q, r ≤ q → high ⟨r, max (max 0 (low c r)) lo - r, min (min 10000000 (high c r)) hi - r, c.dr⟩ q ≤ high c q := by
                    intro q hq
                    obtain ⟨ha0, _, hd0, _⟩ := okC_iff.1 hc
                    have e1 : c.dr * (q - c.at_) = c.dr * (r - c.at_) + c.dr * (q - r) := by rw [← Int.mul_add]; congr 1; omega
                    have p1 : 0 ≤ c.dr * (r - c.at_) := Int.mul_nonneg hd0 (by omega)
                    have p2 : 0 ≤ c.dr * (q - r) := Int.mul_nonneg hd0 (by omega)
                    have p3 := slip_add p1 p2
                    have p4 : high c r = r + c.hi + c.dr * (r - c.at_) / 1000000 := rfl
                    have p5 : high c q = q + c.hi + (c.dr * (r - c.at_) + c.dr * (q - r)) / 1000000 := by rw [← e1]; rfl
                    have p6 : high ⟨r, max (max 0 (low c r)) lo - r, min (min 10000000 (high c r)) hi - r, c.dr⟩ q = q + (min (min 10000000 (high c r)) hi - r) + c.dr * (q - r) / 1000000 := rfl
                    rw [p6, p5]
                    generalize c.dr * (r - c.at_) = X at *
                    generalize c.dr * (q - r) = Y at *
                    omega
                  have hkb := freeC_bd c (u + kp)
                  have hlk : low ⟨r, max (max 0 (low c r)) lo - r, min (min 10000000 (high c r)) hi - r, c.dr⟩ r = max (max 0 (low c r)) lo := by
                    have : slip ⟨r, max (max 0 (low c r)) lo - r, min (min 10000000 (high c r)) hi - r, c.dr⟩ r = 0 := slip_zero ⟨r, _, _, c.dr⟩
                    unfold low at this ⊢
                    rw [this]
                    dsimp only
                    omega
                  have hlm := low_mono hc (Int.le_refl c.at_) b1
                  unfold freeC at hkb ⊢
                  dsimp only
                  rw [hlk]
                  split
                  · split <;> omega
                  · rename_i hq
                    have := hhi (min (u + kp) 10000000) (by omega)
                    rw [if_neg (by omega)]
                    omega
                simp only [List.map_cons, List.map_nil, hmx] at a4
                have h5 := free_one a1 hok (by omega)
                rw [h3] at h5
                simp only [Prod.mk.injEq] at h5
                exact ⟨rfl, rfl, h5.2, by rw [h5.1, a4]; exact hle⟩
              · simp [zeroC] at h1
            · simp [zeroC] at h1
    · exact .inl ⟨he, hf⟩
  · exact .inl he
end Ru
