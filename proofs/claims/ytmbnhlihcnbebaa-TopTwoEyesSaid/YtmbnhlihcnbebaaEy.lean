/-
  Plain mathematics of the layer 'eyes': dangers, acts, what acts do. No program in sight.
-/
import Derived.Test.YtmbnhlihcnbebaaKit
set_option linter.unusedVariables false
namespace Ey
open Go

/-- a box: the ends of its spans -/
structure Bx where
  a : Int
  b : Int
  c : Int
  d : Int
  deriving DecidableEq, Inhabited
structure Ac where
  kind : Int
  danger : Int
  person : Int
  time : Int
  area : Bx
  deriving DecidableEq, Inhabited
structure Dg where
  id : Int
  told : Bool
  area : Bx
  prop : Int
  drop : Bool
  next : Bx
  deriving DecidableEq, Inhabited
def bx0 : Bx := ⟨0, 0, 0, 0⟩
def dg0 : Dg := ⟨0, false, bx0, 0, false, bx0⟩
def numB (n : Int) : Bool := decide (1 ≤ n ∧ n ≤ 50)
def timeB (t : Int) : Bool := decide (0 ≤ t ∧ t ≤ 10000000)
def boxB (b : Bx) : Bool := decide (-1000000 ≤ b.a ∧ b.a ≤ b.b ∧ b.b ≤ 1000000 ∧ -1000000 ≤ b.c ∧ b.c ≤ b.d ∧ b.d ≤ 1000000)
def validA (a : Ac) : Bool := numB a.danger && numB a.person && timeB a.time && (if a.kind = 1 then boxB a.area else if a.kind = 2 ∨ a.kind = 3 ∨ a.kind = 4 then decide (a.area = bx0) else false)
def soundD (d : Dg) : Bool := numB d.id && (decide (d.prop = 0) || numB d.prop) && (decide (d.prop ≠ 0) || (!d.drop && d.told)) && (if d.told then boxB d.area else !d.drop && decide (d.area = bx0)) && (if d.prop ≠ 0 ∧ d.drop = false then boxB d.next else decide (d.next = bx0))
/-- what an act does with a danger, whether it stays, and what comes of it -/
def eff (d : Dg) (a : Ac) : Dg × Bool × Int :=
  if a.kind = 1 then (if d.prop ≠ 0 then (d, true, 6) else if d.told = true ∧ d.area = a.area then (d, true, 5) else (⟨a.danger, d.told, d.area, a.person, d.drop, a.area⟩, true, 0))
  else if a.kind = 2 then (if d.told = false then (d, true, 4) else if d.prop ≠ 0 then (d, true, 6) else (⟨d.id, d.told, d.area, a.person, true, d.next⟩, true, 0))
  else if a.kind = 3 then (if d.prop = 0 then (d, true, 4) else if d.prop = a.person then (d, true, 21) else (⟨d.id, true, d.next, 0, false, bx0⟩, !d.drop, 0))
  else (if d.prop = 0 then (d, true, 4) else (⟨d.id, d.told, d.area, 0, false, bx0⟩, d.told, 0))
def fnd (L : List Dg) (x : Int) : Option Dg := L.find? (fun d => d.id == x)
def gt (L : List Dg) (x : Int) : Dg := (fnd L x).getD dg0
def pt (L : List Dg) (d : Dg) : List Dg := L.filter (fun e => decide (e.id < d.id)) ++ d :: L.filter (fun e => decide (d.id < e.id))
def dl (L : List Dg) (x : Int) : List Dg := L.filter (fun e => e.id != x)
def Sor (L : List Dg) : Prop := L.Pairwise (fun d e => d.id < e.id)
instance (L : List Dg) : Decidable (Sor L) := inferInstanceAs (Decidable (L.Pairwise _))
/-- what an act does with a state -/
def actS (L : List Dg) (a : Ac) : List Dg × Int :=
  if (eff (gt L a.danger) a).2.2 ≠ 0 then (L, (eff (gt L a.danger) a).2.2) else if (eff (gt L a.danger) a).2.1 = true then (pt L (eff (gt L a.danger) a).1, 0) else (dl L a.danger, 0)
def stateB (L : List Dg) : Bool := L.all soundD && decide (Sor L)
def doR (L : List Dg) (a : Ac) : List Dg × Int := if stateB L && validA a then (if (actS L a).2 ≠ 0 then ([], (actS L a).2) else ((actS L a).1, 0)) else ([], 1)
def validL (l : List Ac) : Bool := decide (l.length ≤ 200) && l.all validA && decide (l.Pairwise (fun a b => a.time ≤ b.time))
/-- a state of Replay: the dangers, the last time, what came -/
structure RS where
  L : List Dg
  last : Int
  came : List Int
def rstep (s : RS) (a : Ac) : RS :=
  if 200 ≤ s.came.length then ⟨s.L, s.last, s.came ++ [2]⟩ else if validA a = false then ⟨s.L, s.last, s.came ++ [1]⟩ else if a.time < s.last then ⟨s.L, s.last, s.came ++ [13]⟩
  else ⟨(actS s.L a).1, a.time, s.came ++ [(actS s.L a).2]⟩
def replS (l : List Ac) : RS := l.foldl rstep ⟨[], 0, []⟩
def untilL (l : List Ac) (t : Int) : List Ac := l.takeWhile (fun a => decide (a.time ≤ t))
def stS (l : List Ac) : List Dg := l.foldl (fun L a => (actS L a).1) []
def atR (l : List Ac) (t : Int) : List Dg × Int := if validL l && timeB t then (stS (untilL l t), 0) else ([], 1)
structure ES where
  L : List Dg
  one : Int
  two : Int
def estep (x : Int) (s : ES) (a : Ac) : ES :=
  if (actS s.L a).2 = 0 ∧ a.kind = 3 ∧ a.danger = x then ⟨(actS s.L a).1, (gt s.L a.danger).prop, a.person⟩ else ⟨(actS s.L a).1, s.one, s.two⟩
def eyesS (x : Int) (l : List Ac) : ES := l.foldl (estep x) ⟨[], 0, 0⟩
def eyesR (l : List Ac) (x t : Int) : Int × Int × Int :=
  if validL l && timeB t && numB x then (if (gt (eyesS x (untilL l t)).L x).told = true then ((eyesS x (untilL l t)).one, (eyesS x (untilL l t)).two, 0) else (0, 0, 4)) else (0, 0, 1)
def inB (b : Bx) (x y : Int) : Bool := boxB b && decide (b.a ≤ x ∧ x ≤ b.b ∧ b.c ≤ y ∧ y ≤ b.d)
def toldF (L : List Dg) (x y : Int) : List Int := (L.filter (fun d => inB d.area x y && d.told)).map Dg.id
def toldR (L : List Dg) (x y : Int) : List Int × Int := if stateB L && boxB ⟨x, x, y, y⟩ then (toldF L x y, 0) else ([], 1)

/-! ### states -/
theorem fnd_pt (L : List Dg) (d : Dg) (x : Int) : fnd (pt L d) x = if x = d.id then some d else fnd L x := by
  unfold fnd pt
  rw [List.find?_append, List.find?_filter, List.find?_cons, List.find?_filter]
  by_cases h : x = d.id
  · subst h
    rw [if_pos rfl, List.find?_eq_none.2 (fun e _ => by simp; omega)]
    simp
  · rw [if_neg h]
    have hd : (d.id == x) = false := by simp; omega
    rw [hd]
    by_cases h2 : x < d.id
    · have e1 : (fun e : Dg => decide (decide (e.id < d.id) = true ∧ (e.id == x) = true)) = fun e => e.id == x := by
        funext e; by_cases he : e.id = x <;> simp [he]; omega
      have e2 : L.find? (fun e : Dg => decide (decide (d.id < e.id) = true ∧ (e.id == x) = true)) = none := List.find?_eq_none.2 (fun e _ => by simp; omega)
      rw [e1, e2]; cases L.find? (fun e => e.id == x) <;> rfl
    · have e1 : (fun e : Dg => decide (decide (d.id < e.id) = true ∧ (e.id == x) = true)) = fun e => e.id == x := by
        funext e; by_cases he : e.id = x <;> simp [he]; omega
      have e2 : L.find? (fun e : Dg => decide (decide (e.id < d.id) = true ∧ (e.id == x) = true)) = none := List.find?_eq_none.2 (fun e _ => by simp; omega)
      rw [e1, e2]; rfl
theorem fnd_dl (L : List Dg) (y x : Int) : fnd (dl L y) x = if x = y then none else fnd L x := by
  unfold fnd dl
  rw [List.find?_filter]
  by_cases h : x = y
  · subst h
    rw [if_pos rfl, List.find?_eq_none.2 (fun e _ => by simp)]
  · rw [if_neg h]
    congr 1
    funext e
    by_cases he : e.id = x <;> simp [he]; omega
theorem fnd_id {L : List Dg} {x : Int} {d : Dg} (h : fnd L x = some d) : d ∈ L ∧ d.id = x := ⟨List.mem_of_find?_eq_some h, by simpa using List.find?_some h⟩
theorem Sor.pt {L : List Dg} (h : Sor L) (d : Dg) : Sor (pt L d) := by
  unfold Sor Ey.pt
  rw [List.pairwise_append, List.pairwise_cons]
  refine ⟨h.filter _, ⟨fun e he => by simpa using (List.mem_filter.1 he).2, h.filter _⟩, fun e he f hf => ?_⟩
  have h1 : e.id < d.id := by simpa using (List.mem_filter.1 he).2
  rcases List.mem_cons.1 hf with rfl | hf
  · exact h1
  · have : d.id < f.id := by simpa using (List.mem_filter.1 hf).2
    omega
theorem Sor.dl {L : List Dg} (h : Sor L) (x : Int) : Sor (dl L x) := h.filter _
theorem Sor.fnd_mem {L : List Dg} (h : Sor L) {d : Dg} (hd : d ∈ L) : fnd L d.id = some d := by
  obtain ⟨k, hk, rfl⟩ := List.getElem_of_mem hd
  unfold fnd
  rw [List.find?_eq_some_iff_getElem]
  refine ⟨by simp, k, hk, rfl, fun j hj => ?_⟩
  have := List.pairwise_iff_getElem.1 h j k (by omega) hk hj
  simp; omega
theorem Sor.ext : ∀ {L M : List Dg}, Sor L → Sor M → (∀ x, fnd L x = fnd M x) → L = M
  | [], [], _, _, _ => rfl
  | [], m :: M, _, hm, h => by have := h m.id; rw [hm.fnd_mem List.mem_cons_self] at this; cases this
  | l :: L, [], hl, _, h => by have := h l.id; rw [hl.fnd_mem List.mem_cons_self] at this; cases this
  | l :: L, m :: M, hl, hm, h => by
    have h1 := (fnd_id ((h l.id).symm.trans (hl.fnd_mem List.mem_cons_self))).1
    have h2 := (fnd_id ((h m.id).trans (hm.fnd_mem List.mem_cons_self))).1
    have hl1 := List.pairwise_cons.1 hl
    have hm1 := List.pairwise_cons.1 hm
    have e : l = m := by
      rcases List.mem_cons.1 h1 with e | h1
      · exact e
      · rcases List.mem_cons.1 h2 with e | h2
        · exact e.symm
        · have a := hl1.1 m h2; have b := hm1.1 l h1; omega
    subst e
    congr 1
    refine Sor.ext hl1.2 hm1.2 fun x => ?_
    have hx := h x
    unfold fnd at hx ⊢
    rw [List.find?_cons, List.find?_cons] at hx
    by_cases hc : l.id = x
    · subst hc
      rw [List.find?_eq_none.2 (fun e he => by have := hl1.1 e he; simp; omega), List.find?_eq_none.2 (fun e he => by have := hm1.1 e he; simp; omega)]
    · rw [show (l.id == x) = false by simpa using hc] at hx
      exact hx
theorem gt_pt (L : List Dg) (d : Dg) (x : Int) : gt (pt L d) x = if x = d.id then d else gt L x := by
  unfold gt; rw [fnd_pt]; split <;> rfl
theorem gt_dl (L : List Dg) (y x : Int) : gt (dl L y) x = if x = y then dg0 else gt L x := by
  unfold gt; rw [fnd_dl]; split <;> rfl
theorem gt_nil (x : Int) : gt [] x = dg0 := rfl
theorem gt_cases (L : List Dg) (x : Int) : (fnd L x = none ∧ gt L x = dg0) ∨ ((gt L x).id = x ∧ gt L x ∈ L ∧ fnd L x = some (gt L x)) := by
  unfold gt
  cases h : fnd L x with
  | none => exact .inl ⟨rfl, rfl⟩
  | some d => exact .inr ⟨(fnd_id h).2, (fnd_id h).1, rfl⟩
/-- the danger behind an act that is done has the act's number -/
theorem eff_id {L : List Dg} {a : Ac} (h : (eff (gt L a.danger) a).2.2 = 0) : (eff (gt L a.danger) a).1.id = a.danger := by
  rcases gt_cases L a.danger with ⟨_, e⟩ | ⟨e, _⟩
  · rw [e] at h ⊢
    unfold eff dg0 at h ⊢
    split at h <;> (try split at h) <;> (try split at h) <;> simp_all
  · revert h e
    generalize gt L a.danger = d
    intro h e
    unfold eff
    repeat' split
    all_goals first | exact e | rfl
theorem Sor.act {L : List Dg} (h : Sor L) (a : Ac) : Sor (actS L a).1 := by
  unfold actS
  split
  · exact h
  · split
    · exact h.pt _
    · exact h.dl _
end Ey
