/-
  Plain mathematics of the layers 'clock' and 'reuse' (what a clock shows, how long a warning is held): no program in sight.
-/
import Derived.Test.YtpdecgbfnhaojaaGreatNb
set_option linter.unusedVariables false
namespace Ck
open Nb (tm)

structure Clk where
  at_ : Int
  lo : Int
  hi : Int
  dr : Int
  deriving DecidableEq, Inhabited

/-- a valid clock -/
def okC (c : Clk) : Bool := decide (0 ≤ c.at_ ∧ c.at_ ≤ 10000000 ∧ 0 ≤ c.dr ∧ c.dr ≤ 1000 ∧ -100000 ≤ c.lo ∧ c.lo ≤ c.hi ∧ c.hi ≤ 100000)
theorem okC_iff {c : Clk} : okC c = true ↔ (0 ≤ c.at_ ∧ c.at_ ≤ 10000000 ∧ 0 ≤ c.dr ∧ c.dr ≤ 1000 ∧ -100000 ≤ c.lo ∧ c.lo ≤ c.hi ∧ c.hi ≤ 100000) := by simp [okC]
def slip (c : Clk) (r : Int) : Int := c.dr * (r - c.at_) / 1000000
def low (c : Clk) (r : Int) : Int := r + c.lo - slip c r
def high (c : Clk) (r : Int) : Int := r + c.hi + slip c r

/-- the first one of i .. j - 1 with p, or j -/
def bs (p : Int → Bool) : Nat → Int → Int → Int
  | 0, i, _ => i
  | f + 1, i, j => if i < j then (if p ((i + j) / 2) then bs p f i ((i + j) / 2) else bs p f ((i + j) / 2 + 1) j) else i

theorem bs_spec (p : Int → Bool) : ∀ (f : Nat) (i j : Int), i ≤ j → j - i < 2 ^ f → (∀ x y, i ≤ x → x ≤ y → y < j → p x = true → p y = true) →
    (i ≤ bs p f i j ∧ bs p f i j ≤ j ∧ ∀ x, i ≤ x → x < j → p x = decide (bs p f i j ≤ x))
  | 0, i, j, h, hf, _ => by
    have : i = j := by simp at hf; omega
    subst this
    exact ⟨by simp [bs], by simp [bs], fun x h1 h2 => by omega⟩
  | f + 1, i, j, h, hf, hm => by
    unfold bs
    by_cases hij : i < j
    · rw [if_pos hij]
      have h1 : i ≤ (i + j) / 2 := by omega
      have h2 : (i + j) / 2 < j := by omega
      have hp2 : (2 : Int) ^ (f + 1) = 2 * 2 ^ f := by rw [Int.pow_succ]; omega
      by_cases hp : p ((i + j) / 2) = true
      · rw [if_pos hp]
        obtain ⟨a, b, c⟩ := bs_spec p f i ((i + j) / 2) h1 (by omega) (fun x y hx hxy hy => hm x y hx hxy (by omega))
        refine ⟨a, by omega, fun x hx hxj => ?_⟩
        by_cases hxm : x < (i + j) / 2
        · exact c x hx hxm
        · rw [hm _ x h1 (by omega) hxj hp, decide_eq_true (by omega)]
      · rw [if_neg hp]
        obtain ⟨a, b, c⟩ := bs_spec p f ((i + j) / 2 + 1) j (by omega) (by omega) (fun x y hx hxy hy => hm x y (by omega) hxy hy)
        refine ⟨by omega, b, fun x hx hxj => ?_⟩
        by_cases hxm : (i + j) / 2 + 1 ≤ x
        · exact c x hxm hxj
        · rw [decide_eq_false (by omega)]
          cases hpx : p x with
          | false => rfl
          | true => exact absurd (hm x _ hx (by omega) h2 hpx) hp
    · rw [if_neg hij]
      exact ⟨by omega, by omega, fun x h1 h2 => by omega⟩

theorem slip_zero (c : Clk) : slip c c.at_ = 0 := by simp [slip]
theorem slip_step {c : Clk} (h : okC c = true) {r s : Int} (h1 : c.at_ ≤ r) (h2 : r ≤ s) : slip c r ≤ slip c s ∧ slip c s ≤ slip c r + (s - r) := by
  obtain ⟨_, _, hd, hd2, _⟩ := okC_iff.1 h
  unfold slip
  have e : c.dr * (s - c.at_) = c.dr * (r - c.at_) + c.dr * (s - r) := by rw [← Int.mul_add]; congr 1; omega
  have h3 : 0 ≤ c.dr * (s - r) := Int.mul_nonneg hd (by omega)
  have h4 : c.dr * (s - r) ≤ 1000 * (s - r) := Int.mul_le_mul_of_nonneg_right hd2 (by omega)
  rw [e]
  generalize c.dr * (r - c.at_) = x at *
  generalize c.dr * (s - r) = d at *
  omega
theorem slip_bd {c : Clk} (h : okC c = true) {r : Int} (h1 : c.at_ ≤ r) (h2 : r ≤ 10000001) : 0 ≤ slip c r ∧ slip c r ≤ 10000001 ∧ 0 ≤ c.dr * (r - c.at_) ∧ c.dr * (r - c.at_) ≤ 10000001000 := by
  obtain ⟨ha, _, hd, hd2, _⟩ := okC_iff.1 h
  have h3 : 0 ≤ c.dr * (r - c.at_) := Int.mul_nonneg hd (by omega)
  have h4 : c.dr * (r - c.at_) ≤ 1000 * (r - c.at_) := Int.mul_le_mul_of_nonneg_right hd2 (by omega)
  unfold slip
  generalize c.dr * (r - c.at_) = x at *
  omega
theorem low_mono {c : Clk} (h : okC c = true) {r s : Int} (h1 : c.at_ ≤ r) (h2 : r ≤ s) : low c r ≤ low c s ∧ low c s ≤ low c r + (s - r) := by
  have := slip_step h h1 h2
  unfold low; omega
theorem high_mono {c : Clk} (h : okC c = true) {r s : Int} (h1 : c.at_ ≤ r) (h2 : r ≤ s) : high c r + (s - r) ≤ high c s := by
  have := slip_step h h1 h2
  unfold high; omega
theorem low_high {c : Clk} (h : okC c = true) {r : Int} (h1 : c.at_ ≤ r) : low c r ≤ high c r := by
  have h0 := slip_step h (Int.le_refl c.at_) h1
  have h2 := slip_zero c
  obtain ⟨_, _, _, _, _, h3, _⟩ := okC_iff.1 h
  unfold low high; omega

/-- the first reading at which the greatest (least) possible time is at least t, or 10000001 -/
def fstH (c : Clk) (t : Int) : Int := bs (fun r => decide (t ≤ high c r)) 24 c.at_ 10000001
def fstL (c : Clk) (t : Int) : Int := bs (fun r => decide (t ≤ low c r)) 24 c.at_ 10000001
theorem fstH_spec {c : Clk} (h : okC c = true) (t : Int) : c.at_ ≤ fstH c t ∧ fstH c t ≤ 10000001 ∧ ∀ r, c.at_ ≤ r → r < 10000001 → (t ≤ high c r ↔ fstH c t ≤ r) := by
  obtain ⟨ha, ha2, _⟩ := okC_iff.1 h
  obtain ⟨h1, h2, h3⟩ := bs_spec (fun r => decide (t ≤ high c r)) 24 c.at_ 10000001 (by omega) (by omega) (fun x y hx hxy _ hp => by
    have := high_mono h hx hxy
    simp only [decide_eq_true_eq] at hp ⊢; omega)
  refine ⟨h1, h2, fun r hr hr2 => ?_⟩
  have := h3 r hr hr2
  unfold fstH
  simpa using this
theorem fstL_spec {c : Clk} (h : okC c = true) (t : Int) : c.at_ ≤ fstL c t ∧ fstL c t ≤ 10000001 ∧ ∀ r, c.at_ ≤ r → r < 10000001 → (t ≤ low c r ↔ fstL c t ≤ r) := by
  obtain ⟨ha, ha2, _⟩ := okC_iff.1 h
  obtain ⟨h1, h2, h3⟩ := bs_spec (fun r => decide (t ≤ low c r)) 24 c.at_ 10000001 (by omega) (by omega) (fun x y hx hxy _ hp => by
    have := low_mono h hx hxy
    simp only [decide_eq_true_eq] at hp ⊢; omega)
  refine ⟨h1, h2, fun r hr hr2 => ?_⟩
  have := h3 r hr hr2
  unfold fstL
  simpa using this

/-- what Shows returns -/
def shows (c : Clk) (t : Int) : (Int × Int) × Int :=
  if okC c && tm t then (if fstL c (t + 1) - 1 < fstH c t then ((0, 0), 4) else ((fstH c t, fstL c (t + 1) - 1), 0)) else ((0, 0), 1)
/-- what True returns -/
def true_ (c : Clk) (r : Int) : (Int × Int) × Int :=
  if okC c && decide (c.at_ ≤ r ∧ r ≤ 10000000) then (if min 10000000 (high c r) < max 0 (low c r) then ((0, 0), 4) else ((max 0 (low c r), min 10000000 (high c r)), 0)) else ((0, 0), 1)
def signal (lo hi : Int) : Bool := tm lo && tm hi && decide (lo ≤ hi)
def zeroC : Clk := ⟨0, 0, 0, 0⟩
/-- what Set returns -/
def set_ (r lo hi dr : Int) : Clk × Int :=
  if tm r && signal lo hi then (if okC ⟨r, lo - r, hi - r, dr⟩ then (⟨r, lo - r, hi - r, dr⟩, 0) else (zeroC, 1)) else (zeroC, 1)
/-- what Correct returns -/
def correct (c : Clk) (r lo hi : Int) : Clk × Int :=
  if signal lo hi = false then (zeroC, 1)
  else if (true_ c r).2 ≠ 0 then (zeroC, (true_ c r).2)
  else if min (true_ c r).1.2 hi < max (true_ c r).1.1 lo then (zeroC, 18)
  else set_ r (max (true_ c r).1.1 lo) (min (true_ c r).1.2 hi) c.dr

/-- kept -/
def kept (u k : Int) : Bool := tm u && decide (0 ≤ k ∧ k ≤ 100000)
theorem kept_iff {u k : Int} : kept u k = true ↔ (0 ≤ u ∧ u ≤ 10000000 ∧ 0 ≤ k ∧ k ≤ 100000) := by simp [kept, tm, and_assoc]
/-- the time from which on no ship with a clock can hold a warning -/
def freeC (c : Clk) (x : Int) : Int :=
  if min x 10000000 < c.at_ ∨ 10000000 < low c c.at_ ∨ high c (min x 10000000) < 0 then 0 else min 10000000 (high c (min x 10000000)) + 1
def mostOf (l : List Int) : Int := l.foldl max 0
/-- what Free returns -/
def freeF (u k : Int) (cs : List Clk) : Int × Int :=
  if kept u k && decide (cs.length ≤ 8) && cs.all okC then
    (if 10000000 < mostOf (cs.map fun c => freeC c (u + k)) then (0, 4) else (mostOf (cs.map fun c => freeC c (u + k)), 0)) else (0, 1)
/-- what Holds returns -/
def holds (c : Clk) (u k t : Int) : Int × Int :=
  if kept u k then (if (shows c t).2 ≠ 0 then (0, (shows c t).2) else if (shows c t).1.2 ≤ u + k then (1, 0) else if u + k < (shows c t).1.1 then (-1, 0) else (0, 0)) else (0, 1)

theorem high_most {c : Clk} (h : okC c = true) : 9900000 ≤ high c 10000000 := by
  obtain ⟨ha, ha2, _, _, h1, h2, h3⟩ := okC_iff.1 h
  have := slip_bd h ha2 (by omega)
  unfold high; omega

/-- the readings that are possible at a time -/
theorem shows_cases {c : Clk} (h : okC c = true) {t : Int} (ht : tm t = true) :
    (low c c.at_ ≤ t ∧ t ≤ high c 10000000 ∧ shows c t = ((fstH c t, fstL c (t + 1) - 1), 0) ∧ fstH c t ≤ fstL c (t + 1) - 1 ∧ fstH c t ≤ 10000000) ∨
    ((t < low c c.at_ ∨ high c 10000000 < t) ∧ shows c t = ((0, 0), 4)) := by
  obtain ⟨ha, ha2, _⟩ := okC_iff.1 h
  obtain ⟨p1, p2, p3⟩ := fstH_spec h t
  obtain ⟨q1, q2, q3⟩ := fstL_spec h (t + 1)
  unfold shows
  rw [if_pos (by rw [h, ht]; rfl)]
  generalize fstH c t = H at *
  generalize fstL c (t + 1) = L at *
  by_cases hlt : L - 1 < H
  · rw [if_pos hlt]
    right
    refine ⟨?_, rfl⟩
    rcases Int.lt_or_le t (low c c.at_) with h1 | h1
    · exact .inl h1
    · right
      rcases Int.lt_or_le (high c 10000000) t with h2 | h2
      · exact h2
      · exfalso
        have a1 := (p3 10000000 ha2 (by omega)).1 h2
        have a2 : ¬ L ≤ c.at_ := fun hl => by have := (q3 c.at_ (by omega) (by omega)).2 hl; omega
        have a3 := (q3 L (by omega) (by omega)).2 (by omega)
        have a4 : ¬ (t + 1 ≤ low c (L - 1)) := fun hl => by have := (q3 (L - 1) (by omega) (by omega)).1 hl; omega
        have a5 := low_mono h (r := L - 1) (s := L) (by omega) (by omega)
        have a6 := low_high h (r := L - 1) (by omega)
        have a7 := (p3 (L - 1) (by omega) (by omega)).1 (by omega)
        omega
  · rw [if_neg hlt]
    left
    have a1 := (p3 H p1 (by omega)).2 (Int.le_refl _)
    have a2 : ¬ (t + 1 ≤ low c H) := fun hl => by have := (q3 H p1 (by omega)).1 hl; omega
    have a3 := low_mono h (Int.le_refl c.at_) p1
    have a4 := high_mono h p1 (s := 10000000) (by omega)
    exact ⟨by omega, by omega, rfl, by omega, by omega⟩

/-- can a ship hold a warning -/
theorem can_iff {c : Clk} (h : okC c = true) {t : Int} (ht : tm t = true) {x : Int} (hx : 0 ≤ x) :
    ((shows c t).2 = 0 ∧ (shows c t).1.1 ≤ x) ↔ (low c c.at_ ≤ t ∧ t < freeC c x) := by
  obtain ⟨ha, ha2, _⟩ := okC_iff.1 h
  have htm := Nb.tm_iff.1 ht
  unfold freeC
  rcases shows_cases h ht with ⟨h1, h2, h3, h4, h5⟩ | ⟨h1, h3⟩
  · rw [h3]
    obtain ⟨p1, p2, p3⟩ := fstH_spec h t
    dsimp only
    by_cases hm : min x 10000000 < c.at_
    · rw [if_pos (.inl hm)]
      constructor
      · intro hh; omega
      · intro hh; omega
    · have a1 := p3 (min x 10000000) (by omega) (by omega)
      have a2 : ¬ (10000000 < low c c.at_) := by omega
      constructor
      · rintro ⟨_, hh⟩
        have a3 := a1.2 (by omega)
        rw [if_neg (by omega)]
        exact ⟨h1, by omega⟩
      · rintro ⟨_, hh⟩
        refine ⟨rfl, ?_⟩
        split at hh
        · omega
        · have := a1.1 (by omega)
          omega
  · rw [h3]
    dsimp only
    constructor
    · rintro ⟨hh, _⟩; cases hh
    · rintro ⟨b1, b2⟩
      exfalso
      split at b2
      · omega
      · have a4 := high_mono h (r := min x 10000000) (s := 10000000) (by omega) (by omega)
        omega

theorem freeC_bd (c : Clk) (x : Int) : 0 ≤ freeC c x ∧ freeC c x ≤ 10000001 := by
  unfold freeC; split <;> omega
/-- at the last time it can -/
theorem freeC_last {c : Clk} (h : okC c = true) {x : Int} (hp : 0 < freeC c x) : tm (freeC c x - 1) = true ∧ low c c.at_ ≤ freeC c x - 1 := by
  have hb := freeC_bd c x
  refine ⟨Nb.tm_iff.2 (by omega), ?_⟩
  unfold freeC at hp ⊢
  split at hp
  · omega
  · rename_i hn
    rw [if_neg hn]
    have a1 := high_mono h (Int.le_refl c.at_) (s := min x 10000000) (by omega)
    have a2 := low_high h (Int.le_refl c.at_)
    omega
theorem freeC_mono {c : Clk} (h : okC c = true) {x y : Int} (hxy : x ≤ y) : freeC c x ≤ freeC c y := by
  have hb := freeC_bd c y
  unfold freeC at hb ⊢
  split
  · split <;> omega
  · rename_i hn
    have a1 := high_mono h (r := min x 10000000) (s := min y 10000000) (by omega) (by omega)
    rw [if_neg (by omega)]
    omega

theorem mostOf_le {l : List Int} {b : Int} : mostOf l ≤ b ↔ 0 ≤ b ∧ ∀ x ∈ l, x ≤ b := by
  have hg : ∀ (l : List Int) (a : Int), l.foldl max a ≤ b ↔ a ≤ b ∧ ∀ x ∈ l, x ≤ b := by
    intro l
    induction l with
    | nil => intro a; simp
    | cons y l ih =>
      intro a
      rw [List.foldl_cons, ih]
      simp only [List.mem_cons, forall_eq_or_imp]
      constructor
      · rintro ⟨h1, h2⟩; exact ⟨by omega, by omega, h2⟩
      · rintro ⟨h1, h2, h3⟩; exact ⟨by omega, h3⟩
  exact hg l 0
theorem mostOf_nonneg (l : List Int) : 0 ≤ mostOf l := (mostOf_le.1 (Int.le_refl (mostOf l))).1
theorem le_mostOf {l : List Int} {x : Int} (h : x ∈ l) : x ≤ mostOf l := (mostOf_le.1 (Int.le_refl (mostOf l))).2 x h
theorem mostOf_mem {l : List Int} (h : 0 < mostOf l) : mostOf l ∈ l := by
  have hg : ∀ (l : List Int) (a : Int), l.foldl max a = a ∨ l.foldl max a ∈ l := by
    intro l
    induction l with
    | nil => intro a; simp
    | cons y l ih =>
      intro a
      rw [List.foldl_cons]
      rcases ih (max a y) with h | h
      · rcases Int.le_total a y with hay | hay
        · right; rw [h, Int.max_eq_right hay]; simp
        · left; rw [h, Int.max_eq_left hay]
      · right; exact List.mem_cons_of_mem _ h
  rcases hg l 0 with h1 | h1
  · unfold mostOf at h; omega
  · exact h1

end Ck
