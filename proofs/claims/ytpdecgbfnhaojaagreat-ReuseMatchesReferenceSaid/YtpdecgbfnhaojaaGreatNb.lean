/-
  Plain mathematics of the layer 'number' (names, rows, the next number, the room): no program in sight.
-/
import Init
namespace Nb

structure Nm where
  st : Int
  kd : Int
  nu : Int
  deriving DecidableEq, Inhabited

structure Us where
  nm : Nm
  fr : Int
  fe : Int
  deriving DecidableEq, Inhabited

/-- a valid name -/
def okN (n : Nm) : Bool := decide (1 ≤ n.st ∧ n.st ≤ 26 ∧ 1 ≤ n.kd ∧ n.kd ≤ 10 ∧ 1 ≤ n.nu ∧ n.nu ≤ 99)
/-- a time -/
def tm (t : Int) : Bool := decide (0 ≤ t ∧ t ≤ 10000000)
/-- a row covers a time -/
def cov (u : Us) (t : Int) : Bool := decide (u.fr ≤ t ∧ t < u.fe)
/-- a row meets a span -/
def meets (n : Nm) (lo hi : Int) (u : Us) : Bool := decide (u.nm = n ∧ u.fr ≤ hi ∧ lo < u.fe)

/-- one row behind others -/
def rowOk (pre : List Us) (last : Int) (u : Us) : Bool :=
  okN u.nm && decide (last ≤ u.fr) && decide (u.fr < u.fe) && tm u.fe && !(pre.any fun v => decide (v.nm = u.nm) && cov v u.fr)

def rowsGo : List Us → Int → List Us → Bool
  | _, _, [] => true
  | pre, last, u :: r => rowOk pre last u && rowsGo (pre ++ [u]) u.fr r

/-- valid rows -/
def rows (l : List Us) : Bool := decide (l.length ≤ 200) && rowsGo [] 0 l

/-- the number of the last row of a station and a kind, or 0 -/
def lastNu (l : List Us) (st kd : Int) : Int :=
  l.foldl (fun n u => if u.nm.st = st ∧ u.nm.kd = kd then u.nm.nu else n) 0

/-- is a name in use at a time -/
def used (l : List Us) (n : Nm) (t : Int) : Bool := l.any fun u => decide (u.nm = n) && cov u t

/-- the error of what is asked: 0 none, 1 ErrArg, 13 ErrOld -/
def asked (l : List Us) (st kd now : Int) : Int :=
  if !(rows l) || !(okN ⟨st, kd, 1⟩) || !(tm now) then 1
  else match l.getLast? with
    | some u => if now < u.fr then 13 else 0
    | none => 0

/-- the numbers in turn behind 'last': 99 of them -/
def turn (last : Int) : List Int := (List.range 99).map fun (i : Nat) => (last + (i : Int)) % 99 + 1

/-- the free ones -/
def frees (l : List Us) (st kd now : Int) : List Nm :=
  ((turn (lastNu l st kd)).map fun n => (⟨st, kd, n⟩ : Nm)).filter fun n => !used l n now

def zeroN : Nm := ⟨0, 0, 0⟩

/-- what Next returns: a name and an error -/
def next (l : List Us) (st kd now : Int) : Nm × Int :=
  if asked l st kd now ≠ 0 then (zeroN, asked l st kd now)
  else match frees l st kd now with
    | n :: _ => (n, 0)
    | [] => (zeroN, 17)

/-- what Room returns -/
def room (l : List Us) (st kd now : Int) : Int × Int :=
  if asked l st kd now ≠ 0 then (0, asked l st kd now) else ((frees l st kd now).length, 0)

/-- what Take returns: rows, a name, an error -/
def take (l : List Us) (st kd now free : Int) : List Us × Nm × Int :=
  let (n, e) := next l st kd now
  if e = 1 ∨ free ≤ now ∨ tm free = false then ([], zeroN, 1)
  else if 200 ≤ l.length then ([], zeroN, 2)
  else if e ≠ 0 then ([], zeroN, e)
  else (l ++ [⟨n, now, free⟩], n, 0)

/-- what Sure returns: an index and an error -/
def sure (l : List Us) (n : Nm) (lo hi : Int) : Int × Int :=
  if !(rows l) || !(okN n) || !(tm lo) || !(tm hi) || decide (hi < lo) then (0, 1)
  else match l.findIdx? (meets n lo hi) with
    | none => (0, 4)
    | some i => if (l.drop (i + 1)).any (meets n lo hi) then (0, 5) else (i, 0)

def who (l : List Us) (n : Nm) (t : Int) : Int × Int := sure l n t t

end Nb

namespace Nb

theorem okN_iff {n : Nm} : okN n = true ↔ (1 ≤ n.st ∧ n.st ≤ 26 ∧ 1 ≤ n.kd ∧ n.kd ≤ 10 ∧ 1 ≤ n.nu ∧ n.nu ≤ 99) := by simp [okN]
theorem tm_iff {t : Int} : tm t = true ↔ (0 ≤ t ∧ t ≤ 10000000) := by simp [tm]
theorem cov_iff {u : Us} {t : Int} : cov u t = true ↔ (u.fr ≤ t ∧ t < u.fe) := by simp [cov]
theorem meets_iff {n : Nm} {lo hi : Int} {u : Us} : meets n lo hi u = true ↔ (u.nm = n ∧ u.fr ≤ hi ∧ lo < u.fe) := by simp [meets]

/-- What valid rows are. -/
structure RowsOk (l : List Us) : Prop where
  len : l.length ≤ 200
  ok : ∀ u ∈ l, okN u.nm = true ∧ 0 ≤ u.fr ∧ u.fr < u.fe ∧ u.fe ≤ 10000000
  mono : l.Pairwise (fun a b => a.fr ≤ b.fr)
  disj : l.Pairwise (fun a b => a.nm = b.nm → a.fe ≤ b.fr)

theorem rowOk_iff {pre : List Us} {last : Int} {u : Us} : rowOk pre last u = true ↔
    okN u.nm = true ∧ last ≤ u.fr ∧ u.fr < u.fe ∧ 0 ≤ u.fe ∧ u.fe ≤ 10000000 ∧ ∀ v ∈ pre, v.nm = u.nm → ¬ (v.fr ≤ u.fr ∧ u.fr < v.fe) := by
  simp only [rowOk, Bool.and_eq_true, decide_eq_true_eq, tm_iff, Bool.not_eq_true', List.any_eq_false, cov_iff]
  constructor
  · rintro ⟨⟨⟨⟨h1, h2⟩, h3⟩, h4, h5⟩, h6⟩
    exact ⟨h1, h2, h3, h4, h5, fun v hv he hc => h6 v hv ⟨he, hc⟩⟩
  · rintro ⟨h1, h2, h3, h4, h5, h6⟩
    exact ⟨⟨⟨⟨h1, h2⟩, h3⟩, h4, h5⟩, fun v hv ⟨he, hc⟩ => h6 v hv he hc⟩

theorem rowsGo_iff : ∀ (l pre : List Us) (last : Int), 0 ≤ last → (∀ v ∈ pre, v.fr ≤ last) → (rowsGo pre last l = true ↔
    ((∀ u ∈ l, okN u.nm = true ∧ last ≤ u.fr ∧ u.fr < u.fe ∧ u.fe ≤ 10000000) ∧ l.Pairwise (fun a b => a.fr ≤ b.fr) ∧
      l.Pairwise (fun a b => a.nm = b.nm → a.fe ≤ b.fr) ∧ ∀ v ∈ pre, ∀ u ∈ l, v.nm = u.nm → v.fe ≤ u.fr))
  | [], pre, last, _, _ => by simp [rowsGo]
  | u :: r, pre, last, h0, hp => by
    simp only [rowsGo, Bool.and_eq_true, rowOk_iff]
    constructor
    · rintro ⟨⟨a1, a2, a3, a4, a5, a6⟩, hr⟩
      have ih := (rowsGo_iff r (pre ++ [u]) u.fr (by omega) (by
        intro v hv
        rcases List.mem_append.1 hv with hv | hv
        · have := hp v hv; omega
        · simp at hv; subst hv; omega)).1 hr
      obtain ⟨b1, b2, b3, b4⟩ := ih
      refine ⟨?_, ?_, ?_, ?_⟩
      · intro x hx
        rcases List.mem_cons.1 hx with rfl | hx
        · exact ⟨a1, a2, a3, a5⟩
        · obtain ⟨c1, c2, c3, c4⟩ := b1 x hx; exact ⟨c1, by omega, c3, c4⟩
      · exact List.pairwise_cons.2 ⟨fun x hx => (b1 x hx).2.1, b2⟩
      · exact List.pairwise_cons.2 ⟨fun x hx he => b4 u (by simp) x hx he, b3⟩
      · intro v hv x hx he
        rcases List.mem_cons.1 hx with rfl | hx
        · have := a6 v hv he; have := hp v hv; omega
        · exact b4 v (by simp [hv]) x hx he
    · rintro ⟨h1, h2, h3, h4⟩
      obtain ⟨a1, a2, a3, a4⟩ := h1 u (by simp)
      obtain ⟨m1, m2⟩ := List.pairwise_cons.1 h2
      obtain ⟨d1, d2⟩ := List.pairwise_cons.1 h3
      refine ⟨⟨a1, a2, a3, by omega, a4, ?_⟩, ?_⟩
      · intro v hv he hc
        have := h4 v hv u (by simp) he; omega
      · refine (rowsGo_iff r (pre ++ [u]) u.fr (by omega) (by
          intro v hv
          rcases List.mem_append.1 hv with hv | hv
          · have := hp v hv; omega
          · simp at hv; subst hv; omega)).2 ⟨?_, m2, d2, ?_⟩
        · intro x hx
          obtain ⟨c1, c2, c3, c4⟩ := h1 x (by simp [hx])
          exact ⟨c1, m1 x hx, c3, c4⟩
        · intro v hv x hx he
          rcases List.mem_append.1 hv with hv | hv
          · exact h4 v hv x (by simp [hx]) he
          · simp at hv; subst hv; exact d1 x hx he

theorem rows_iff {l : List Us} : rows l = true ↔ RowsOk l := by
  simp only [rows, Bool.and_eq_true, decide_eq_true_eq]
  constructor
  · rintro ⟨h, hr⟩
    obtain ⟨b1, b2, b3, _⟩ := (rowsGo_iff l [] 0 (by omega) (by simp)).1 hr
    exact ⟨h, fun u hu => let ⟨c1, c2, c3, c4⟩ := b1 u hu; ⟨c1, c2, c3, c4⟩, b2, b3⟩
  · rintro ⟨h1, h2, h3, h4⟩
    exact ⟨h1, (rowsGo_iff l [] 0 (by omega) (by simp)).2 ⟨fun u hu => let ⟨c1, c2, c3, c4⟩ := h2 u hu; ⟨c1, c2, c3, c4⟩, h3, h4, by simp⟩⟩

end Nb

namespace Nb

theorem lastNu_snoc (l : List Us) (u : Us) (st kd : Int) : lastNu (l ++ [u]) st kd = if u.nm.st = st ∧ u.nm.kd = kd then u.nm.nu else lastNu l st kd := by
  simp [lastNu, List.foldl_append]

theorem used_snoc (l : List Us) (u : Us) (n : Nm) (t : Int) : used (l ++ [u]) n t = (used l n t || (decide (u.nm = n) && cov u t)) := by
  simp [used, List.any_append]

/-- which numbers from 0 to 99 are in use -/
def usedL (l : List Us) (st kd now : Int) : List Bool := (List.range 100).map fun (i : Nat) => used l ⟨st, kd, (i : Int)⟩ now

theorem usedL_length (l : List Us) (st kd now : Int) : (usedL l st kd now).length = 100 := by simp [usedL]
theorem usedL_get (l : List Us) (st kd now : Int) (i : Nat) (h : i < (usedL l st kd now).length) : (usedL l st kd now)[i] = used l ⟨st, kd, (i : Int)⟩ now := by simp [usedL]
/-- none in use -/
def noUse : List Bool := List.replicate 100 false
theorem usedL_nil (st kd now : Int) : usedL [] st kd now = noUse := by
  simp only [usedL, used, List.any_nil]
  rfl
theorem usedL_other (l : List Us) (u : Us) (st kd now : Int) (h : ¬ (u.nm.st = st ∧ u.nm.kd = kd)) : usedL (l ++ [u]) st kd now = usedL l st kd now := by
  unfold usedL
  refine List.map_congr_left fun i _ => ?_
  rw [used_snoc]
  have : u.nm ≠ ⟨st, kd, (i : Int)⟩ := by
    intro e; apply h; rw [e]; exact ⟨rfl, rfl⟩
  simp [this]
theorem usedL_hit (l : List Us) (u : Us) (st kd now : Int) (m : Nat) (h1 : u.nm.st = st) (h2 : u.nm.kd = kd) (h3 : u.nm.nu = m) :
    usedL (l ++ [u]) st kd now = (usedL l st kd now).set m (used l ⟨st, kd, (m : Int)⟩ now || cov u now) := by
  apply List.ext_getElem
  · simp [usedL]
  intro i hi hi'
  rw [usedL_get, List.getElem_set, used_snoc]
  split
  · rename_i e
    subst e
    have : u.nm = ⟨st, kd, (m : Int)⟩ := by rw [← h1, ← h2, ← h3]
    simp [this]
  · rename_i e
    rw [usedL_get]
    have : u.nm ≠ ⟨st, kd, (i : Int)⟩ := by
      intro e'; rw [e'] at h3; simp at h3; omega
    simp [this]

theorem asked_zero {l : List Us} {st kd now : Int} (h : asked l st kd now = 0) : rows l = true ∧ okN ⟨st, kd, 1⟩ = true ∧ tm now = true ∧ ∀ u, l.getLast? = some u → u.fr ≤ now := by
  unfold asked at h
  split at h
  · omega
  · rename_i hn
    simp at hn
    refine ⟨hn.1.1, hn.1.2, hn.2, fun u hu => ?_⟩
    rw [hu] at h
    dsimp only at h
    split at h <;> omega
end Nb
