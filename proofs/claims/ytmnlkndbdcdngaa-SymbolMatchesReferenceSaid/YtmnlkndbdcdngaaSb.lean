/-
  Plain mathematics of the layer 'symbol' (marks, books, translations): no program in sight.
-/
import Init
namespace Sb

structure Mk where
  sy : Int
  kd : Int
  cl : Int
  deriving DecidableEq, Inhabited

def okS (n : Int) : Bool := decide (0 ≤ n ∧ n ≤ 999)
def okM (m : Mk) : Bool := decide (0 ≤ m.sy ∧ m.sy ≤ 999 ∧ 1 ≤ m.kd ∧ m.kd ≤ 6 ∧ 0 ≤ m.cl ∧ m.cl ≤ 9)
def vgo : Int → List Mk → Bool
  | _, [] => true
  | last, m :: r => okM m && decide (last < m.sy) && vgo m.sy r
/-- a valid book -/
def okB (of : Int) (ms : List Mk) : Bool := decide (1 ≤ of ∧ of ≤ 20) && decide (ms.length ≤ 100) && vgo (-1) ms
/-- what valid marks are -/
structure VOk (ms : List Mk) : Prop where
  len : ms.length ≤ 100
  ok : ∀ m ∈ ms, okM m = true
  inc : ms.Pairwise (fun a b => a.sy < b.sy)

theorem okS_iff {n : Int} : okS n = true ↔ (0 ≤ n ∧ n ≤ 999) := by simp [okS]
theorem okM_iff {m : Mk} : okM m = true ↔ (0 ≤ m.sy ∧ m.sy ≤ 999 ∧ 1 ≤ m.kd ∧ m.kd ≤ 6 ∧ 0 ≤ m.cl ∧ m.cl ≤ 9) := by simp [okM]
theorem vgo_iff : ∀ (ms : List Mk) (last : Int), vgo last ms = true ↔ (∀ m ∈ ms, okM m = true ∧ last < m.sy) ∧ ms.Pairwise (fun a b => a.sy < b.sy)
  | [], last => by simp [vgo]
  | m :: r, last => by
    simp only [vgo, Bool.and_eq_true, decide_eq_true_eq, vgo_iff r m.sy, List.pairwise_cons, List.mem_cons]
    constructor
    · rintro ⟨⟨h1, h2⟩, h3, h4⟩
      refine ⟨?_, fun x hx => (h3 x hx).2, h4⟩
      rintro x (rfl | hx)
      · exact ⟨h1, h2⟩
      · have := h3 x hx; exact ⟨this.1, by omega⟩
    · rintro ⟨h1, h2, h3⟩
      exact ⟨h1 m (.inl rfl), fun x hx => ⟨(h1 x (.inr hx)).1, h2 x hx⟩, h3⟩
theorem okB_iff {of : Int} {ms : List Mk} : okB of ms = true ↔ (1 ≤ of ∧ of ≤ 20) ∧ VOk ms := by
  simp only [okB, Bool.and_eq_true, decide_eq_true_eq, vgo_iff]
  constructor
  · rintro ⟨⟨h1, h2⟩, h3, h4⟩; exact ⟨h1, h2, fun m hm => (h3 m hm).1, h4⟩
  · rintro ⟨h1, h2, h3, h4⟩; exact ⟨⟨h1, h2⟩, fun m hm => ⟨h3 m hm, by have := okM_iff.1 (h3 m hm); omega⟩, h4⟩

/-- fits a wish -/
def fitB (w m : Mk) : Bool := decide (m.kd = w.kd ∧ w.cl ≤ m.cl)
def top : Mk := ⟨0, 0, 10⟩
def better (b x : Mk) : Mk := if x.cl < b.cl then x else b
/-- the translation of a mark into a book -/
def trans (ms : List Mk) (m : Mk) : Mk := (ms.filter (fitB m)).foldl better top
def found (m : Mk) : Bool := decide (m.cl ≤ 9)

theorem better_le (b x : Mk) : (better b x).cl ≤ b.cl := by unfold better; split <;> omega
theorem foldl_better : ∀ (l : List Mk) (b : Mk), (l.foldl better b).cl ≤ b.cl ∧ (∀ x ∈ l, (l.foldl better b).cl ≤ x.cl) ∧ (l.foldl better b = b ∨ l.foldl better b ∈ l)
  | [], b => by simp
  | y :: l, b => by
    obtain ⟨h1, h2, h3⟩ := foldl_better l (better b y)
    have hb := better_le b y
    refine ⟨by simp only [List.foldl_cons]; omega, ?_, ?_⟩
    · intro x hx
      simp only [List.foldl_cons]
      rcases List.mem_cons.1 hx with rfl | hx
      · have : (better b x).cl ≤ x.cl := by unfold better; split <;> omega
        omega
      · exact h2 x hx
    · simp only [List.foldl_cons]
      rcases h3 with h3 | h3
      · rw [h3]
        unfold better
        split
        · right; simp
        · left; rfl
      · right; exact List.mem_cons_of_mem _ h3
/-- what a translation is -/
theorem trans_cases {ms : List Mk} (h : VOk ms) (m : Mk) :
    (trans ms m = top ∧ found (trans ms m) = false ∧ ∀ x ∈ ms, fitB m x = false) ∨
    (found (trans ms m) = true ∧ trans ms m ∈ ms ∧ fitB m (trans ms m) = true ∧ ∀ x ∈ ms, fitB m x = true → (trans ms m).cl ≤ x.cl) := by
  obtain ⟨h1, h2, h3⟩ := foldl_better (ms.filter (fitB m)) top
  have hm : ∀ x ∈ ms.filter (fitB m), x.cl ≤ 9 := fun x hx => (okM_iff.1 (h.ok x (List.mem_filter.1 hx).1)).2.2.2.2.2
  by_cases he : ms.filter (fitB m) = []
  · left
    unfold trans
    rw [he]
    refine ⟨rfl, rfl, ?_⟩
    intro x hx
    rw [List.filter_eq_nil_iff] at he
    simpa using he x hx
  · right
    have hin : trans ms m ∈ ms.filter (fitB m) := by
      rcases h3 with h3 | h3
      · exfalso
        obtain ⟨x, hx⟩ := List.exists_mem_of_ne_nil _ he
        have := h2 x hx
        rw [h3] at this
        have := hm x hx
        simp [top] at *
        omega
      · exact h3
    refine ⟨decide_eq_true (hm _ hin), (List.mem_filter.1 hin).1, (List.mem_filter.1 hin).2, fun x hx hf => h2 x (List.mem_filter.2 ⟨hx, hf⟩)⟩

/-- the mark of a symbol -/
def lookM (ms : List Mk) (s : Int) : Option Mk := ms.find? fun m => decide (m.sy = s)
def zeroM : Mk := ⟨0, 0, 0⟩
theorem lookM_some {ms : List Mk} {s : Int} {m : Mk} (h : lookM ms s = some m) : m ∈ ms ∧ m.sy = s := by
  unfold lookM at h
  exact ⟨List.mem_of_find?_eq_some h, by simpa using List.find?_some h⟩
theorem lookM_none {ms : List Mk} {s : Int} (h : lookM ms s = none) : ∀ m ∈ ms, m.sy ≠ s := by
  unfold lookM at h
  rw [List.find?_eq_none] at h
  simpa using h
theorem lookM_mem {ms : List Mk} (h : VOk ms) {m : Mk} (hm : m ∈ ms) : lookM ms m.sy = some m := by
  cases hl : lookM ms m.sy with
  | none => exact absurd rfl (lookM_none hl m hm)
  | some x =>
    obtain ⟨h1, h2⟩ := lookM_some hl
    obtain ⟨i, hi, rfl⟩ := List.getElem_of_mem hm
    obtain ⟨j, hj, rfl⟩ := List.getElem_of_mem h1
    rcases Nat.lt_trichotomy i j with h3 | h3 | h3
    · have := List.pairwise_iff_getElem.1 h.inc i j hi hj h3; omega
    · subst h3; rfl
    · have := List.pairwise_iff_getElem.1 h.inc j i hj hi h3; omega

/-- what Find returns -/
def findF (of : Int) (ms : List Mk) (s : Int) : Mk × Int :=
  if okB of ms && okS s then match lookM ms s with | some m => (m, 0) | none => (zeroM, 11) else (zeroM, 1)
/-- what Translate returns -/
def translate (oa : Int) (a : List Mk) (ob : Int) (b : List Mk) (s : Int) : Int × Int :=
  if okB oa a && okB ob b && okS s then match lookM a s with
    | some m => if found (trans b m) then ((trans b m).sy, 0) else (0, 4)
    | none => (0, 11)
  else (0, 1)
/-- what 'symbols' returns -/
def symsF (oa : Int) (a : List Mk) (ob : Int) (b : List Mk) (is : Mk → Mk → Bool → Bool) : List Int × Int :=
  if okB oa a && okB ob b then ((a.filter fun m => is m (trans b m) (found (trans b m))).map Mk.sy, 0) else ([], 1)
def isLost (_ _ : Mk) (ok : Bool) : Bool := !ok
def isChanged (m t : Mk) (ok : Bool) : Bool := ok && decide (m.cl < t.cl)

/-- books in a chain -/
def chainGo : List (Int × List Mk) → Mk → Int × Int
  | [], m => (m.sy, 0)
  | b :: r, m => if found (trans b.2 m) then chainGo r (trans b.2 m) else (0, 4)
/-- what Chain returns -/
def chain (bs : List (Int × List Mk)) (s : Int) : Int × Int :=
  match bs with
  | [] => (0, 1)
  | b :: r => if decide (bs.length ≤ 20) && okS s && bs.all (fun b => okB b.1 b.2) then match lookM b.2 s with
      | some m => chainGo r m
      | none => (0, 11)
    else (0, 1)

/-- the marks of both -/
def merge : List Mk → List Mk → Option (List Mk)
  | [], ys => some ys
  | x :: xs, [] => some (x :: xs)
  | x :: xs, y :: ys =>
    if x.sy < y.sy then (merge xs (y :: ys)).map (x :: ·)
    else if y.sy < x.sy then (merge (x :: xs) ys).map (y :: ·)
    else if x.kd ≠ y.kd then none
    else (merge xs ys).map (⟨x.sy, x.kd, max x.cl y.cl⟩ :: ·)
termination_by xs ys => xs.length + ys.length
/-- what Join returns -/
def join (oa : Int) (a : List Mk) (ob : Int) (b : List Mk) : (Int × List Mk) × Int :=
  if okB oa a && okB ob b then match merge a b with
    | none => ((0, []), 11)
    | some l => if 100 < l.length then ((0, []), 2) else ((oa, l), 0)
  else ((0, []), 1)
end Sb
