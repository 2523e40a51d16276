/-
  Plain mathematics of what comes before a step: what can be reached, the search in breadth, the marking from the last step on.
-/
import Derived.Test.YtofilkphaelceaaFo
set_option linter.unusedVariables false
namespace Fo

/-- what comes before n, but for what is done -/
inductive Rch (l : List St) (D : List Int) (n : Int) : Int → Prop
  | one {s : St} {a : Int} : findS l n = some s → a ∈ s.af → D.contains a = false → Rch l D n a
  | more {x : Int} {s : St} {a : Int} : Rch l D n x → findS l x = some s → a ∈ s.af → D.contains a = false → Rch l D n a

theorem af_lt {l : List St} (h : VOk l) {s : St} (hs : s ∈ l) {a : Int} (ha : a ∈ s.af) : a < s.n ∧ ∃ t ∈ l, t.n = a := by
  obtain ⟨k, hk, rfl⟩ := List.getElem_of_mem hs
  obtain ⟨j, hj, hjk, rfl⟩ := h.pre k hk a ha
  exact ⟨List.pairwise_iff_getElem.1 h.inc j k hj hk hjk, l[j], List.getElem_mem hj, rfl⟩
theorem Rch.lt {l : List St} (h : VOk l) {D : List Int} {n x : Int} (hr : Rch l D n x) : x < n ∧ (∃ t ∈ l, t.n = x) ∧ D.contains x = false := by
  induction hr with
  | one hf ha hd =>
    obtain ⟨h1, h2⟩ := find_some hf
    have := af_lt h h1 ha
    exact ⟨by omega, this.2, hd⟩
  | more _ hf ha hd ih =>
    obtain ⟨h1, h2⟩ := find_some hf
    have := af_lt h h1 ha
    exact ⟨by omega, this.2, hd⟩

theorem nodup_len : ∀ (s t : List Int), s.Nodup → (∀ x ∈ s, x ∈ t) → s.length ≤ t.length
  | [], _, _, _ => Nat.zero_le _
  | a :: s, t, hn, hm => by
    obtain ⟨h1, h2⟩ := List.nodup_cons.1 hn
    have ha := hm a (by simp)
    have ih := nodup_len s (t.erase a) h2 (fun x hx => by
      have hx' := hm x (by simp [hx])
      exact (List.mem_erase_of_ne (fun e => by subst e; exact h1 hx)).2 hx')
    have := List.length_erase_of_mem ha
    have hp : 0 < t.length := List.length_pos_of_mem ha
    simp only [List.length_cons]
    omega

/-- the search: what has come, what waits -/
structure BSt (l : List St) (D : List Int) (n : Int) (seen q : List Int) : Prop where
  nodup : seen.Nodup
  sub : ∀ a ∈ seen, Rch l D n a
  qsub : ∀ a ∈ q, a = n ∨ a ∈ seen
  cl : ∀ x s, (x = n ∨ x ∈ seen) → findS l x = some s → (x ∈ q ∨ ∀ a ∈ s.af, D.contains a = false → a ∈ seen)
theorem BSt.start (l : List St) (D : List Int) (n : Int) : BSt l D n [] [n] :=
  ⟨List.nodup_nil, by simp, by simp, fun x s hx _ => .inl (hx.elim (fun e => by simp [e]) (fun h => by cases h))⟩
theorem BSt.len {l : List St} {D : List Int} {n : Int} {seen q : List Int} (h : BSt l D n seen q) (hv : VOk l) : seen.length ≤ l.length := by
  have := nodup_len seen (l.map St.n) h.nodup (fun x hx => by
    obtain ⟨_, ⟨t, ht, he⟩, _⟩ := (h.sub x hx).lt hv
    exact List.mem_map.2 ⟨t, ht, he⟩)
  simpa using this
theorem BSt.num {l : List St} {D : List Int} {n : Int} {seen q : List Int} (h : BSt l D n seen q) (hv : VOk l) (hn : (findS l n).isSome = true) : ∀ x ∈ q, ∃ s, findS l x = some s := by
  intro x hx
  rcases h.qsub x hx with rfl | hx
  · exact Option.isSome_iff_exists.1 hn
  · obtain ⟨_, ⟨t, ht, rfl⟩, _⟩ := (h.sub x hx).lt hv
    obtain ⟨k, hk, rfl⟩ := List.getElem_of_mem ht
    exact ⟨_, find_mem hv hk⟩
/-- one number more comes -/
theorem BSt.push {l : List St} {D : List Int} {n x a : Int} {s : St} {seen r : List Int} (h : BSt l D n seen (x :: r)) (hf : findS l x = some s) (ha : a ∈ s.af) (hd : D.contains a = false) (hs : seen.contains a = false) :
    BSt l D n (seen ++ [a]) (x :: (r ++ [a])) := by
  have hns : a ∉ seen := fun hm => by rw [List.contains_eq_mem, decide_eq_true hm] at hs; cases hs
  have hra : Rch l D n a := by
    rcases h.qsub x (by simp) with rfl | hx
    · exact .one hf ha hd
    · exact .more (h.sub x hx) hf ha hd
  refine ⟨List.nodup_append.2 ⟨h.nodup, by simp, fun y hy z hz => by simp at hz; subst hz; exact fun e => hns (e ▸ hy)⟩, ?_, ?_, ?_⟩
  · intro y hy
    rcases List.mem_append.1 hy with hy | hy
    · exact h.sub y hy
    · simp at hy; subst hy; exact hra
  · intro y hy
    simp only [List.mem_cons, List.mem_append, List.not_mem_nil, or_false] at hy
    rcases hy with rfl | hy | rfl
    · rcases h.qsub y (by simp) with h1 | h1
      · exact .inl h1
      · exact .inr (List.mem_append_left _ h1)
    · rcases h.qsub y (by simp [hy]) with h1 | h1
      · exact .inl h1
      · exact .inr (List.mem_append_left _ h1)
    · exact .inr (by simp)
  · intro y t hy ht
    by_cases hya : y = a
    · exact .inl (by simp [hya])
    · have hy' : y = n ∨ y ∈ seen := by
        rcases hy with h1 | h1
        · exact .inl h1
        · rcases List.mem_append.1 h1 with h2 | h2
          · exact .inr h2
          · simp at h2; exact absurd h2 hya
      rcases h.cl y t hy' ht with h1 | h1
      · left
        rcases List.mem_cons.1 h1 with h2 | h2
        · simp [h2]
        · simp [h2]
      · exact .inr (fun b hb hbd => List.mem_append_left _ (h1 b hb hbd))
/-- the first one that waits is done with -/
theorem BSt.pop {l : List St} {D : List Int} {n x : Int} {s : St} {seen r : List Int} (h : BSt l D n seen (x :: r)) (hf : findS l x = some s) (ha : ∀ a ∈ s.af, D.contains a = false → a ∈ seen) : BSt l D n seen r := by
  refine ⟨h.nodup, h.sub, fun y hy => h.qsub y (by simp [hy]), fun y t hy ht => ?_⟩
  rcases h.cl y t hy ht with h1 | h1
  · rcases List.mem_cons.1 h1 with rfl | h2
    · rw [hf] at ht
      cases ht
      exact .inr ha
    · exact .inl h2
  · exact .inr h1
theorem BSt.end_ {l : List St} {D : List Int} {n : Int} {seen : List Int} (h : BSt l D n seen []) : ∀ a, a ∈ seen ↔ Rch l D n a := by
  intro a
  refine ⟨h.sub a, fun hr => ?_⟩
  have hcl : ∀ x s, (x = n ∨ x ∈ seen) → findS l x = some s → ∀ a ∈ s.af, D.contains a = false → a ∈ seen := by
    intro x s hx hf
    rcases h.cl x s hx hf with h1 | h1
    · cases h1
    · exact h1
  induction hr with
  | one hf ha hd => exact hcl n _ (.inl rfl) hf _ ha hd
  | more _ hf ha hd ih => exact hcl _ _ (.inr ih) hf _ ha hd

/-! ### the marking -/
theorem mark_pre (D : List Int) (n : Int) (post : List St) : ∀ (pre : List St) (x : Int), x ∈ markF post D n → x ∈ markF (pre ++ post) D n
  | [], x, h => h
  | s :: pre, x, h => by
    have ih := mark_pre D n post pre x h
    unfold markF at ih ⊢
    rw [List.cons_append, List.foldr_cons]
    split
    · exact List.mem_append_left _ ih
    · exact ih
theorem mark_or (D : List Int) (n : Int) (post : List St) : ∀ (pre : List St) (x : Int), x ∈ markF (pre ++ post) D n → x ∈ markF post D n ∨ ∃ s ∈ pre, x ∈ s.af
  | [], x, h => .inl h
  | s :: pre, x, h => by
    have ih := mark_or D n post pre x
    unfold markF at ih h ⊢
    rw [List.cons_append, List.foldr_cons] at h
    split at h
    · rcases List.mem_append.1 h with h | h
      · rcases ih h with h1 | ⟨t, ht, h1⟩
        · exact .inl h1
        · exact .inr ⟨t, by simp [ht], h1⟩
      · exact .inr ⟨s, by simp, (List.mem_filter.1 h).1⟩
    · rcases ih h with h1 | ⟨t, ht, h1⟩
      · exact .inl h1
      · exact .inr ⟨t, by simp [ht], h1⟩
theorem mark_self (D : List Int) (n : Int) : ∀ l : List St, n ∈ markF l D n
  | [] => by simp [markF]
  | s :: l => by
    have := mark_pre D n l [s] n (mark_self D n l)
    simpa using this
/-- what is marked is reached -/
theorem mark_sound {l : List St} (h : VOk l) (D : List Int) (n : Int) : ∀ (k : Nat), k ≤ l.length → ∀ x ∈ markF (l.drop k) D n, x = n ∨ Rch l D n x := by
  intro k hk
  induction hd : l.length - k generalizing k with
  | zero =>
    intro x hx
    rw [List.drop_eq_nil_of_le (by omega)] at hx
    simp [markF] at hx
    exact .inl hx
  | succ m ih =>
    have hkl : k < l.length := by omega
    have ih1 := ih (k + 1) (by omega) (by omega)
    intro x hx
    rw [List.drop_eq_getElem_cons hkl] at hx
    unfold markF at hx ih1
    rw [List.foldr_cons] at hx
    split at hx
    · rename_i hc
      rcases List.mem_append.1 hx with hx | hx
      · exact ih1 x hx
      · obtain ⟨ha, hd⟩ := List.mem_filter.1 hx
        have hf := find_mem h hkl
        have hd' : D.contains x = false := by simpa using hd
        rw [List.contains_eq_mem, decide_eq_true_eq] at hc
        rcases ih1 _ hc with he | hr
        · rw [he] at hf
          exact .inr (.one hf ha hd')
        · exact .inr (.more hr hf ha hd')
    · exact ih1 x hx
/-- .. and closed -/
theorem mark_closed {l : List St} (h : VOk l) (D : List Int) (n : Int) {x : Int} {s : St} (hf : findS l x = some s) (hx : x ∈ markF l D n) {a : Int} (ha : a ∈ s.af) (hd : D.contains a = false) : a ∈ markF l D n := by
  obtain ⟨hs, rfl⟩ := find_some hf
  obtain ⟨k, hk, rfl⟩ := List.getElem_of_mem hs
  have e1 : l = l.take k ++ l.drop k := (List.take_append_drop k l).symm
  have h1 : l[k].n ∈ markF (l.drop k) D n := by
    have hx' : l[k].n ∈ markF (l.take k ++ l.drop k) D n := by rw [← e1]; exact hx
    rcases mark_or D n _ _ _ hx' with h2 | ⟨t, ht, h2⟩
    · exact h2
    · exfalso
      obtain ⟨j, hj, rfl⟩ := List.getElem_of_mem ht
      rw [List.length_take] at hj
      rw [List.getElem_take] at h2
      have h3 := (af_lt h (List.getElem_mem (by omega : j < l.length)) h2).1
      have h4 := List.pairwise_iff_getElem.1 h.inc j k (by omega) hk (by omega)
      omega
  have h2 : l[k].n ∈ markF (l.drop (k + 1)) D n := by
    rw [List.drop_eq_getElem_cons hk] at h1
    unfold markF at h1 ⊢
    rw [List.foldr_cons] at h1
    split at h1
    · rcases List.mem_append.1 h1 with h3 | h3
      · exact h3
      · have := (af_lt h hs (List.mem_filter.1 h3).1).1
        omega
    · exact h1
  have h3 : a ∈ markF (l.drop k) D n := by
    rw [List.drop_eq_getElem_cons hk]
    unfold markF at h2 ⊢
    rw [List.foldr_cons, if_pos (by rw [List.contains_eq_mem]; exact decide_eq_true h2)]
    exact List.mem_append_right _ (List.mem_filter.2 ⟨ha, by rw [hd]; rfl⟩)
  have := mark_pre D n (l.drop k) (l.take k) a h3
  rwa [List.take_append_drop] at this
theorem mark_iff {l : List St} (h : VOk l) (D : List Int) (n x : Int) : x ∈ markF l D n ↔ (x = n ∨ Rch l D n x) := by
  constructor
  · intro hx
    exact mark_sound h D n 0 (Nat.zero_le _) x (by simpa using hx)
  · rintro (rfl | hr)
    · exact mark_self D _ l
    · induction hr with
      | one hf ha hd => exact mark_closed h D n hf (mark_self D n l) ha hd
      | more _ hf ha hd ih => exact mark_closed h D n hf ih ha hd
theorem miss_iff {l : List St} (h : VOk l) (D : List Int) (n x : Int) : x ∈ missF l D n ↔ Rch l D n x := by
  unfold missF
  rw [List.mem_map]
  constructor
  · rintro ⟨s, hs, rfl⟩
    obtain ⟨h1, h2⟩ := List.mem_filter.1 hs
    simp only [Bool.and_eq_true, bne_iff_ne, List.contains_eq_mem, decide_eq_true_eq] at h2
    rcases (mark_iff h D n s.n).1 h2.2 with h3 | h3
    · exact absurd h3 h2.1
    · exact h3
  · intro hr
    obtain ⟨h1, ⟨t, ht, rfl⟩, _⟩ := hr.lt h
    refine ⟨t, List.mem_filter.2 ⟨ht, ?_⟩, rfl⟩
    simp only [Bool.and_eq_true, bne_iff_ne, List.contains_eq_mem, decide_eq_true_eq]
    exact ⟨by omega, (mark_iff h D n _).2 (.inr hr)⟩
theorem filt_inc {l : List St} (h : VOk l) (p : St → Bool) : ((l.filter p).map St.n).Pairwise (· < ·) := by
  rw [List.pairwise_map]
  exact h.inc.sublist List.filter_sublist
end Fo
