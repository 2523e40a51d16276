/-
  Plain mathematics of exchanges: pairs that stand falling, the first one, the exchange of neighbours.
-/
import Derived.Test.YtofilkphaelceaaFo
set_option linter.unusedVariables false
namespace Fo

def swp : Nat → List Int → List Int
  | 0, a :: b :: l => b :: a :: l
  | i + 1, a :: l => a :: swp i l
  | _, l => l
theorem swapAt_eq : ∀ (i : Nat) (l : List Int), i + 1 < l.length → swapAt l i = swp i l
  | 0, a :: b :: l, _ => rfl
  | i + 1, a :: l, h => by
    have ih := swapAt_eq i l (by simpa using h)
    unfold swapAt at ih ⊢
    simp only [List.getD_cons_succ, List.set_cons_succ, swp]
    rw [← ih]
  | 0, [], h => by simp at h
  | 0, [_], h => by simp at h
  | _ + 1, [], h => by simp at h
theorem swp_perm : ∀ (i : Nat) (l : List Int), (swp i l).Perm l
  | 0, a :: b :: l => List.Perm.swap a b l
  | i + 1, a :: l => List.Perm.cons a (swp_perm i l)
  | 0, [] => .refl _
  | 0, [_] => .refl _
  | _ + 1, [] => .refl _
theorem inv_swp : ∀ (i : Nat) (l : List Int) (h : i + 1 < l.length), l[i + 1] < l[i] → inv (swp i l) + 1 = inv l
  | 0, a :: b :: l, _, hlt => by
    simp only [List.getElem_cons_zero, List.getElem_cons_succ] at hlt
    simp only [swp, inv, List.filter_cons]
    rw [if_neg (by simp; omega), if_pos (by simp; omega)]
    simp only [List.length_cons]
    omega
  | i + 1, a :: l, h, hlt => by
    have ih := inv_swp i l (by simpa using h) (by simpa using hlt)
    simp only [swp, inv]
    have := ((swp_perm i l).filter (fun b => decide (b < a))).length_eq
    omega
  | 0, [], h, _ => by simp at h
  | 0, [_], h, _ => by simp at h
  | _ + 1, [], h, _ => by simp at h
theorem inv_le : ∀ l : List Int, inv l ≤ l.length * l.length
  | [] => by simp [inv]
  | a :: l => by
    have ih := inv_le l
    have := List.length_filter_le (fun b => decide (b < a)) l
    simp only [inv, List.length_cons, Nat.add_mul, Nat.mul_add]
    omega
theorem swp_len (i : Nat) (l : List Int) : (swp i l).length = l.length := (swp_perm i l).length_eq
theorem swp_get : ∀ (i : Nat) (l : List Int) (j : Nat) (h : j < l.length), i + 1 < l.length → (swp i l)[j]? = if j = i then l[i + 1]? else if j = i + 1 then l[i]? else l[j]?
  | 0, a :: b :: l, j, h, _ => by
    rcases j with _ | _ | j <;> simp [swp]
  | i + 1, a :: l, j, h, hi => by
    rcases j with _ | j
    · simp [swp]
    · have ih := swp_get i l j (by simpa using h) (by simpa using hi)
      simp only [swp, List.getElem?_cons_succ]
      rw [ih]
      by_cases h1 : j = i
      · simp [h1]
      · by_cases h2 : j = i + 1
        · simp [h2]
        · rw [if_neg h1, if_neg h2, if_neg (by omega), if_neg (by omega)]
  | 0, [], _, h, _ => by simp at h
  | 0, [_], _, h, hi => by simp at hi
  | _ + 1, [], _, h, _ => by simp at h

theorem firstD_some {l : List Int} {k : Nat} (hk : k + 1 < l.length) (h : l[k + 1] < l[k]) (hn : ∀ (j : Nat) (hj : j + 1 < l.length), j < k → l[j] < l[j + 1]) : firstD l = some k := by
  unfold firstD
  rw [List.find?_eq_some_iff_getElem]
  refine ⟨by rw [List.getD_eq_getElem?_getD, List.getD_eq_getElem?_getD, List.getElem?_eq_getElem hk, List.getElem?_eq_getElem (by omega)]; simpa using h, k, by simp; omega, by simp, fun j hj => ?_⟩
  have := hn j (by omega) hj
  simp only [List.getElem_range]
  rw [List.getD_eq_getElem?_getD, List.getD_eq_getElem?_getD, List.getElem?_eq_getElem (by omega), List.getElem?_eq_getElem (by omega)]
  simp; omega
theorem firstD_none {l : List Int} (hn : ∀ (j : Nat) (hj : j + 1 < l.length), l[j] < l[j + 1]) : firstD l = none := by
  unfold firstD
  rw [List.find?_eq_none]
  intro j hj
  have h1 := List.mem_range.1 hj
  have := hn j (by omega)
  rw [List.getD_eq_getElem?_getD, List.getD_eq_getElem?_getD, List.getElem?_eq_getElem (by omega), List.getElem?_eq_getElem (by omega)]
  simp; omega
theorem exN_none {l : List Int} (h : firstD l = none) : ∀ f, exN f l = []
  | 0 => rfl
  | f + 1 => by simp [exN, h]
theorem exN_step {l : List Int} {k : Nat} (hk : k + 1 < l.length) (h : l[k + 1] < l[k]) (hn : ∀ (j : Nat) (hj : j + 1 < l.length), j < k → l[j] < l[j + 1]) :
    exN (inv l) l = (k : Int) :: exN (inv (swp k l)) (swp k l) := by
  have h1 := inv_swp k l hk h
  rw [← h1, exN, firstD_some hk h hn]
  dsimp only
  rw [swapAt_eq k l hk]

/-- a state of the exchanging: what has come, the list, its rising beginning -/
structure ExSt (o : List Int) (out cur : List Int) (k : Nat) : Prop where
  perm : cur.Perm o
  nodup : cur.Nodup
  cnt : out.length + inv cur = inv o
  all : out ++ exN (inv cur) cur = exchF o
  ris : ∀ (j : Nat) (hj : j + 1 < cur.length), j < k → cur[j] < cur[j + 1]
theorem ExSt.start {o : List Int} (h : o.Nodup) : ExSt o [] o 0 := ⟨.refl _, h, by simp, rfl, fun j _ h => absurd h (Nat.not_lt_zero _)⟩
theorem ExSt.on {o out cur : List Int} {k : Nat} (h : ExSt o out cur k) (hk : k + 1 < cur.length) (hlt : cur[k] < cur[k + 1]) : ExSt o out cur (k + 1) :=
  ⟨h.perm, h.nodup, h.cnt, h.all, fun j hj hjk => by
    rcases Nat.lt_succ_iff_lt_or_eq.1 hjk with h1 | rfl
    · exact h.ris j hj h1
    · exact hlt⟩
theorem ExSt.swap {o out cur : List Int} {k : Nat} (h : ExSt o out cur k) (hk : k + 1 < cur.length) (hge : ¬ cur[k] < cur[k + 1]) : ExSt o (out ++ [(k : Int)]) (swp k cur) (k - 1) := by
  have hne : cur[k] ≠ cur[k + 1] := by
    have := List.pairwise_iff_getElem.1 h.nodup k (k + 1) (by omega) hk (by omega)
    exact this
  have hlt : cur[k + 1] < cur[k] := by omega
  have h1 := inv_swp k cur hk hlt
  refine ⟨(swp_perm k cur).trans h.perm, (swp_perm k cur).nodup_iff.2 h.nodup, ?_, ?_, ?_⟩
  · have := h.cnt; simp; omega
  · rw [← h.all, exN_step hk hlt h.ris, List.append_assoc]; rfl
  · intro j hj hjk
    rw [swp_len] at hj
    have e1 := swp_get k cur j (by omega) hk
    have e2 := swp_get k cur (j + 1) hj hk
    rw [if_neg (by omega), if_neg (by omega), List.getElem?_eq_getElem (by first | omega | (rw [swp_len]; omega)), List.getElem?_eq_getElem (by first | omega | (rw [swp_len]; omega))] at e1
    have h2 := h.ris j hj (by omega)
    rw [if_neg (by omega), if_neg (by omega), List.getElem?_eq_getElem (by first | omega | (rw [swp_len]; omega)), List.getElem?_eq_getElem (by first | omega | (rw [swp_len]; omega))] at e2
    simp only [Option.some.injEq] at e1 e2
    rw [e1, e2]
    exact h2
theorem ExSt.end_ {o out cur : List Int} {k : Nat} (h : ExSt o out cur k) (hk : cur.length ≤ k + 1) : out = exchF o := by
  have h1 := firstD_none (fun j hj => h.ris j hj (by omega))
  have := h.all
  rwa [exN_none h1, List.append_nil] at this
theorem ExSt.bound {o out cur : List Int} {k : Nat} (h : ExSt o out cur k) (ho : o.length ≤ 200) : out.length ≤ 40000 := by
  have h1 := h.cnt
  have h2 := inv_le o
  have h3 : o.length * o.length ≤ 200 * 200 := Nat.mul_le_mul ho ho
  omega
/-- a permitted order has no integer twice -/
theorem perm_nodup {l : List St} {o : List Int} (h : permF l o = -1) : o.Nodup := by
  have hall : ∀ j, j < o.length → permAt l o j = true := by
    intro j hj
    unfold permF at h
    cases hf : (List.range o.length).find? (fun i => !permAt l o i) with
    | some i => rw [hf] at h; exfalso; dsimp only at h; omega
    | none =>
      have := List.find?_eq_none.1 hf j (List.mem_range.2 hj)
      simpa using this
  unfold List.Nodup
  rw [List.pairwise_iff_getElem]
  intro i j hi hj hij he
  have := hall j hj
  unfold permAt at this
  rw [List.getElem?_eq_getElem hj] at this
  dsimp only at this
  split at this
  · cases this
  · rw [Bool.and_eq_true] at this
    have h1 := this.1
    simp only [Bool.not_eq_true'] at h1
    have h2 : o[j] ∈ o.take j := List.mem_take_iff_getElem.2 ⟨i, by omega, he⟩
    rw [List.contains_eq_mem, decide_eq_false_iff_not] at h1
    exact h1 h2
end Fo
