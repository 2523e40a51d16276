/-
  Plain mathematics of the layer 'reuse': what Take, Wait and Old return, and the laws of chapter 35. No program in sight.
-/
import Derived.Test.YtpdecgbfnhaojaaGreatNumQ
import Derived.Test.YtpdecgbfnhaojaaGreatCk
set_option linter.unusedVariables false
namespace Ru
open Nb Ck Go.Proofs.YtpdecgbfnhaojaaGreat

/-- are rows, a station, a kind and a time valid -/
def askedR (l : List Us) (st kd now : Int) : Bool := rows l && okN ⟨st, kd, 1⟩ && tm now
/-- what Take returns -/
def takeR (l : List Us) (st kd now u k : Int) (cs : List Clk) : List Us × Nm × Int :=
  if askedR l st kd now then (if (freeF u k cs).2 ≠ 0 then ([], zeroN, (freeF u k cs).2) else take l st kd now (max (freeF u k cs).1 (now + 1))) else ([], zeroN, 1)
/-- the least end of the rows that cover a time -/
def best (l : List Us) (st kd now : Int) : Int := (l.filter fun u => cov u now && isOwn st kd u).foldl (fun b u => min b u.fe) 10000000
/-- what Wait returns -/
def waitR (l : List Us) (st kd now : Int) : Int × Int :=
  if askedR l st kd now then (if (room l st kd now).2 ≠ 0 then (0, (room l st kd now).2) else if 0 < (room l st kd now).1 then (now, 0) else (best l st kd now, 0)) else (0, 1)
/-- what Old returns -/
def oldR (l : List Us) (n : Nm) (c : Clk) (r : Int) : Int × Int :=
  if rows l && okN n then (if (true_ c r).2 ≠ 0 then (0, (true_ c r).2) else sure l n (true_ c r).1.1 (true_ c r).1.2) else (0, 1)
/-- is there room at a time -/
def roomy (l : List Us) (st kd t : Int) : Bool := decide ((room l st kd t).2 = 0) && decide (0 < (room l st kd t).1)
/-- what the program's Wait finds -/
def waitP (l : List Us) (st kd now : Int) (es : List Int) : Int := ((now :: es).find? (roomy l st kd)).getD 10000000

theorem find_sorted (P : Int → Bool) : ∀ (l : List Int) (b : Int), l.Pairwise (· ≤ ·) → b ∈ l → P b = true → (∀ t ∈ l, t < b → P t = false) → l.find? P = some b
  | [], _, _, h, _, _ => by cases h
  | a :: l, b, hp, hb, hP, hn => by
    obtain ⟨h1, h2⟩ := List.pairwise_cons.1 hp
    by_cases hab : a = b
    · subst hab
      rw [List.find?_cons_of_pos hP]
    · have hbl : b ∈ l := by rcases List.mem_cons.1 hb with h | h; · exact absurd h.symm hab
                             · exact h
      have := h1 b hbl
      rw [List.find?_cons_of_neg (by rw [hn a (by simp) (by omega)]; simp)]
      exact find_sorted P l b h2 hbl hP (fun t ht htb => hn t (List.mem_cons_of_mem _ ht) htb)

theorem min_spec {α : Type} (f : α → Int) : ∀ (l : List α) (m : Int), (∀ x ∈ l, f x ≤ m) → l ≠ [] → ∃ x ∈ l, f x = l.foldl (fun b u => min b (f u)) m ∧ ∀ y ∈ l, f x ≤ f y
  | [], _, _, h => (h rfl).elim
  | a :: l, m, hm, _ => by
    have ha := hm a (by simp)
    rw [List.foldl_cons, Int.min_eq_right ha]
    by_cases hl : l = []
    · subst hl; exact ⟨a, by simp, rfl, fun y hy => by simp at hy; subst hy; omega⟩
    · by_cases hall : ∀ x ∈ l, f x ≤ f a
      · obtain ⟨x, hx, h1, h2⟩ := min_spec f l (f a) hall hl
        refine ⟨x, List.mem_cons_of_mem _ hx, h1, fun y hy => ?_⟩
        rcases List.mem_cons.1 hy with rfl | hy
        · exact hall x hx
        · exact h2 y hy
      · -- the general fact
        have hg : ∀ (l : List α) (m : Int), l.foldl (fun b u => min b (f u)) m ≤ m ∧ (∀ y ∈ l, l.foldl (fun b u => min b (f u)) m ≤ f y) ∧ (l.foldl (fun b u => min b (f u)) m = m ∨ ∃ y ∈ l, f y = l.foldl (fun b u => min b (f u)) m) := by
          intro l
          induction l with
          | nil => intro m; exact ⟨Int.le_refl _, by simp, .inl rfl⟩
          | cons b l ih =>
            intro m
            rw [List.foldl_cons]
            obtain ⟨h1, h2, h3⟩ := ih (min m (f b))
            refine ⟨by omega, ?_, ?_⟩
            · intro y hy
              rcases List.mem_cons.1 hy with rfl | hy
              · omega
              · exact h2 y hy
            · rcases h3 with h3 | ⟨y, hy, h3⟩
              · rcases Int.le_total m (f b) with hh | hh
                · left; rw [h3, Int.min_eq_left hh]
                · right; exact ⟨b, by simp, by rw [h3, Int.min_eq_right hh]⟩
              · right; exact ⟨y, List.mem_cons_of_mem _ hy, h3⟩
        obtain ⟨h1, h2, h3⟩ := hg l (f a)
        rcases h3 with h3 | ⟨y, hy, h3⟩
        · refine ⟨a, by simp, h3.symm, fun y hy => ?_⟩
          rcases List.mem_cons.1 hy with rfl | hy
          · omega
          · have := h2 y hy; omega
        · refine ⟨y, List.mem_cons_of_mem _ hy, h3, fun z hz => ?_⟩
          rcases List.mem_cons.1 hz with rfl | hz
          · omega
          · have := h2 z hz; omega

theorem askedR_iff {l : List Us} {st kd now : Int} : askedR l st kd now = true ↔ (rows l = true ∧ okN ⟨st, kd, 1⟩ = true ∧ tm now = true) := by
  simp [askedR, and_assoc]

theorem last_fr {l : List Us} (h : RowsOk l) {now : Int} (hlast : ∀ u, l.getLast? = some u → u.fr ≤ now) : ∀ u ∈ l, u.fr ≤ now := by
  intro u hu
  have hne : l ≠ [] := by rintro rfl; cases hu
  have hl := List.getLast?_eq_some_getLast hne
  have h1 := hlast _ hl
  obtain ⟨i, hi, rfl⟩ := List.getElem_of_mem hu
  rw [List.getLast_eq_getElem] at h1
  rcases Nat.lt_or_ge i (l.length - 1) with h3 | h3
  · have := List.pairwise_iff_getElem.1 h.mono i (l.length - 1) hi (by omega) h3
    omega
  · have : i = l.length - 1 := by omega
    subst this; exact h1

/-- later times are asked as well as now -/
theorem asked_later {l : List Us} {st kd now t : Int} (h : asked l st kd now = 0) (h1 : now ≤ t) (h2 : t ≤ 10000000) : asked l st kd t = 0 := by
  obtain ⟨a1, a2, a3, a4⟩ := asked_zero h
  have := tm_iff.1 a3
  rw [asked_rest a1 a2 (tm_iff.2 (by omega))]
  cases hl : l.getLast? with
  | none => rfl
  | some v => dsimp only; rw [if_neg (by have := a4 v hl; omega)]

theorem room_at {l : List Us} {st kd t : Int} (h : asked l st kd t = 0) : room l st kd t = ((freeN l st kd t : Int), 0) := by rw [room_freeN, if_pos h]
theorem freeN_zero {l : List Us} {st kd t : Int} : freeN l st kd t = 0 ↔ ∀ x : Int, 1 ≤ x → x ≤ 99 → used l ⟨st, kd, x⟩ t = true := by
  unfold freeN
  rw [List.length_eq_zero_iff, List.filter_eq_nil_iff]
  constructor
  · intro h x h1 h2
    have := h x (List.mem_map.2 ⟨(x - 1).toNat, by simp; omega, by omega⟩)
    simpa using this
  · intro h x hx
    obtain ⟨i, hi, rfl⟩ := List.mem_map.1 hx
    have := List.mem_range.1 hi
    rw [h _ (by omega) (by omega)]
    simp
theorem used_iff {l : List Us} {n : Nm} {t : Int} : used l n t = true ↔ ∃ u ∈ l, u.nm = n ∧ u.fr ≤ t ∧ t < u.fe := by
  simp [used, List.any_eq_true, cov_iff]

/-- the time of the reference's Wait, where there is no room now -/
theorem best_spec {l : List Us} {st kd now : Int} (h : asked l st kd now = 0) (h0 : freeN l st kd now = 0) :
    now < best l st kd now ∧ best l st kd now ≤ 10000000 ∧ best l st kd now ∈ l.map (fun u => u.fe) ∧ 0 < freeN l st kd (best l st kd now) ∧ ∀ t, now ≤ t → t < best l st kd now → freeN l st kd t = 0 := by
  obtain ⟨a1, a2, a3, a4⟩ := asked_zero h
  have hr := rows_iff.1 a1
  have hfr := last_fr hr a4
  have hall := freeN_zero.1 h0
  have hF : ∀ x : Int, 1 ≤ x → x ≤ 99 → ∃ u ∈ l.filter (fun u => cov u now && isOwn st kd u), u.nm = ⟨st, kd, x⟩ := by
    intro x h1 h2
    obtain ⟨u, hu, hn, hc1, hc2⟩ := used_iff.1 (hall x h1 h2)
    exact ⟨u, List.mem_filter.2 ⟨hu, by simp [cov, isOwn, hn, hc1, hc2]⟩, hn⟩
  obtain ⟨u0, hu0, _⟩ := hF 1 (by omega) (by omega)
  obtain ⟨u, hu, h1, h2⟩ := min_spec (fun u : Us => u.fe) (l.filter fun u => cov u now && isOwn st kd u) 10000000 (fun x hx => (hr.ok x (List.mem_filter.1 hx).1).2.2.2) (by intro e; rw [e] at hu0; cases hu0)
  change u.fe = best l st kd now at h1
  rw [← h1]
  obtain ⟨hul, huc⟩ := List.mem_filter.1 hu
  simp only [Bool.and_eq_true, cov_iff, isOwn, decide_eq_true_eq] at huc
  obtain ⟨⟨c1, c2⟩, c3, c4⟩ := huc
  have hu4 := hr.ok u hul
  refine ⟨c2, hu4.2.2.2, List.mem_map.2 ⟨u, hul, rfl⟩, ?_, ?_⟩
  · rcases Nat.eq_zero_or_pos (freeN l st kd u.fe) with hz | hz
    · exfalso
      have hok := okN_iff.1 hu4.1
      obtain ⟨v, hv, hn, d1, d2⟩ := used_iff.1 (freeN_zero.1 hz u.nm.nu (by omega) (by omega))
      have hnm : v.nm = u.nm := by rw [hn, ← c3, ← c4]
      have := hfr v hv
      obtain ⟨i, hi, rfl⟩ := List.getElem_of_mem hv
      obtain ⟨j, hj, rfl⟩ := List.getElem_of_mem hul
      rcases Nat.lt_trichotomy i j with hij | hij | hij
      · have := List.pairwise_iff_getElem.1 hr.disj i j hi hj hij hnm; omega
      · subst hij; omega
      · have := List.pairwise_iff_getElem.1 hr.disj j i hj hi hij hnm.symm; omega
    · exact hz
  · intro t ht1 ht2
    rw [freeN_zero]
    intro x hx1 hx2
    obtain ⟨v, hv, hn⟩ := hF x hx1 hx2
    have := h2 v hv
    obtain ⟨hvl, hvc⟩ := List.mem_filter.1 hv
    simp only [Bool.and_eq_true, cov_iff] at hvc
    exact used_iff.2 ⟨v, hvl, hn, by have := hfr v hvl; omega, by omega⟩

theorem roomy_at {l : List Us} {st kd t : Int} (h : asked l st kd t = 0) : roomy l st kd t = decide (0 < freeN l st kd t) := by
  unfold roomy
  rw [room_at h]
  simp
/-- the program's Wait is the reference's -/
theorem wait_eq {l : List Us} {st kd now : Int} (ha : askedR l st kd now = true) (h2 : (room l st kd now).2 = 0) {es : List Int} (hs : es.Pairwise (· ≤ ·)) (hp : ∀ t, t ∈ es ↔ t ∈ l.map (fun u => max now u.fe)) :
    waitR l st kd now = (waitP l st kd now es, 0) := by
  have hz : asked l st kd now = 0 := by
    rw [room_freeN] at h2
    split at h2
    · assumption
    · exact h2
  unfold waitR waitP
  rw [if_pos ha, if_neg (by rw [h2]; simp)]
  have e1 := room_at hz
  rw [e1]
  dsimp only
  have hrm := roomy_at hz
  by_cases h0 : 0 < freeN l st kd now
  · rw [if_pos (by omega), List.find?_cons_of_pos (by rw [hrm]; simpa using h0)]
    rfl
  · rw [if_neg (by omega), List.find?_cons_of_neg (by rw [hrm]; simpa using h0)]
    obtain ⟨b1, b2, b3, b4, b5⟩ := best_spec hz (by omega)
    have hbm : best l st kd now ∈ es := by
      rw [hp]
      obtain ⟨u, hu, hb⟩ := List.mem_map.1 b3
      exact List.mem_map.2 ⟨u, hu, by omega⟩
    have hge : ∀ t ∈ es, now ≤ t := by
      intro t ht
      obtain ⟨u, hu, rfl⟩ := List.mem_map.1 ((hp t).1 ht)
      omega
    rw [find_sorted (roomy l st kd) es (best l st kd now) hs hbm (by rw [roomy_at (asked_later hz (by omega) b2)]; simpa using b4) (fun t ht htb => by
      have h1 := hge t ht
      rw [roomy_at (asked_later hz h1 (by omega)), b5 t h1 htb]; simp)]
    rfl
theorem wait_bad {l : List Us} {st kd now : Int} (ha : askedR l st kd now = false) : waitR l st kd now = (0, 1) := by
  unfold waitR; rw [if_neg (by rw [ha]; simp)]
theorem wait_err {l : List Us} {st kd now : Int} (ha : askedR l st kd now = true) (h2 : (room l st kd now).2 ≠ 0) : waitR l st kd now = (0, (room l st kd now).2) := by
  unfold waitR; rw [if_pos ha, if_pos h2]

/-- what a warning's dropping asks, of all clocks -/
def droppedF (cs : List Clk) (u k t : Int) : Bool := cs.all fun c => !((decide ((holds c u k t).2 = 0) && decide ((holds c u k t).1 ≠ -1)) || decide ((holds c u k t).2 = 1))


/-- what Holds returns -/
theorem holds_cases {c : Clk} {u k t : Int} (hk : kept u k = true) (h : okC c = true) (ht : tm t = true) :
    (low c c.at_ ≤ t ∧ t < freeC c (u + k) ∧ (holds c u k t).2 = 0 ∧ 0 ≤ (holds c u k t).1 ∧ (holds c u k t).1 ≤ 1) ∨
    (low c c.at_ ≤ t ∧ freeC c (u + k) ≤ t ∧ holds c u k t = (-1, 0)) ∨ (holds c u k t = (0, 4) ∧ (t < low c c.at_ ∨ high c 10000000 < t)) := by
  have hk' := kept_iff.1 hk
  have hc := can_iff h ht (x := u + k) (by omega)
  unfold holds
  rw [if_pos hk]
  rcases shows_cases h ht with ⟨h1, h2, h3, h4, h5⟩ | ⟨h1, h3⟩
  · rw [h3] at hc ⊢
    dsimp only at hc ⊢
    rw [if_neg (by simp)]
    by_cases hx : fstH c t ≤ u + k
    · left
      have := hc.1 ⟨rfl, hx⟩
      refine ⟨h1, this.2, ?_⟩
      split
      · exact ⟨rfl, by decide, by decide⟩
      · rw [if_neg (by omega)]; exact ⟨rfl, by decide, by decide⟩
    · right; left
      have hn : ¬ (t < freeC c (u + k)) := fun hh => hx (hc.2 ⟨h1, hh⟩).2
      refine ⟨h1, by omega, ?_⟩
      rw [if_neg (by omega), if_pos (by omega)]
  · right; right
    rw [h3]
    exact ⟨rfl, h1⟩
theorem holds_arg {c : Clk} {u k t : Int} (h : kept u k = false ∨ okC c = false ∨ tm t = false) : holds c u k t = (0, 1) := by
  unfold holds
  split
  · rename_i hk
    have : shows c t = ((0, 0), 1) := by
      unfold shows
      rw [if_neg]
      rcases h with h | h | h
      · rw [hk] at h; cases h
      · simp [h]
      · simp [h]
    rw [this]
    rfl
  · rfl

theorem free_ok {u k : Int} {cs : List Clk} {t : Int} (h : freeF u k cs = (t, 0)) :
    kept u k = true ∧ cs.length ≤ 8 ∧ (∀ c ∈ cs, okC c = true) ∧ t = mostOf (cs.map fun c => freeC c (u + k)) ∧ 0 ≤ t ∧ t ≤ 10000000 := by
  unfold freeF at h
  split at h
  · rename_i hk
    simp only [Bool.and_eq_true, decide_eq_true_eq, List.all_eq_true] at hk
    split at h
    · cases h
    · rename_i hm
      simp only [Prod.mk.injEq, and_true] at h
      subst h
      exact ⟨hk.1.1, hk.1.2, hk.2, rfl, mostOf_nonneg _, by omega⟩
  · cases h
theorem free_cases (u k : Int) (cs : List Clk) : freeF u k cs = (0, 1) ∨
    (kept u k = true ∧ cs.length ≤ 8 ∧ (∀ c ∈ cs, okC c = true) ∧ ((freeF u k cs = (0, 4) ∧ 10000000 < mostOf (cs.map fun c => freeC c (u + k))) ∨ (freeF u k cs = (mostOf (cs.map fun c => freeC c (u + k)), 0) ∧ mostOf (cs.map fun c => freeC c (u + k)) ≤ 10000000))) := by
  unfold freeF
  split
  · rename_i hk
    simp only [Bool.and_eq_true, decide_eq_true_eq, List.all_eq_true] at hk
    right
    refine ⟨hk.1.1, hk.1.2, hk.2, ?_⟩
    split
    · left; exact ⟨rfl, by assumption⟩
    · right; exact ⟨rfl, by omega⟩
  · left; rfl
theorem freeC_le {u k t : Int} {cs : List Clk} (h : freeF u k cs = (t, 0)) : ∀ c ∈ cs, freeC c (u + k) ≤ t := by
  obtain ⟨_, _, _, h4, _⟩ := free_ok h
  intro c hc
  rw [h4]
  exact le_mostOf (List.mem_map.2 ⟨c, hc, rfl⟩)

/-- from the time on at which a number is free, no ship holds the warning -/
theorem not_held {u k t later : Int} {cs : List Clk} (h : freeF u k cs = (t, 0)) (h1 : t ≤ later) (h2 : later ≤ 10000000) {c : Clk} (hc : c ∈ cs) : holds c u k later = (-1, 0) ∨ holds c u k later = (0, 4) := by
  obtain ⟨a1, a2, a3, a4, a5, a6⟩ := free_ok h
  have := freeC_le h c hc
  rcases holds_cases a1 (a3 c hc) (t := later) (tm_iff.2 (by omega)) with h3 | h3 | h3
  · omega
  · exact .inl h3.2.2
  · exact .inr h3.1
theorem dropped_later {u k t later : Int} {cs : List Clk} (h : freeF u k cs = (t, 0)) (h1 : t ≤ later) (h2 : later ≤ 10000000) : droppedF cs u k later = true := by
  unfold droppedF
  rw [List.all_eq_true]
  intro c hc
  rcases not_held h h1 h2 hc with h3 | h3 <;> rw [h3] <;> rfl
/-- one minute earlier some ship can hold it -/
theorem held_before {u k t : Int} {cs : List Clk} (hk : kept u k = true) (hv : ∀ c ∈ cs, okC c = true) (hp : 0 < mostOf (cs.map fun c => freeC c (u + k))) (ht : t = mostOf (cs.map fun c => freeC c (u + k)) - 1) : droppedF cs u k t = false := by
  obtain ⟨c, hc, he⟩ := List.mem_map.1 (mostOf_mem hp)
  have hc0 := hv c hc
  have hp2 : 0 < freeC c (u + k) := by omega
  obtain ⟨b1, b2⟩ := freeC_last hc0 hp2
  have e : t = freeC c (u + k) - 1 := by omega
  unfold droppedF
  rw [List.all_eq_false]
  refine ⟨c, hc, ?_⟩
  rw [e]
  rcases holds_cases hk hc0 b1 with h3 | h3 | h3
  · obtain ⟨_, _, h4, h5, _⟩ := h3
    rw [h4]
    have : (holds c u k (freeC c (u + k) - 1)).1 ≠ -1 := by omega
    simp [this]
  · omega
  · obtain ⟨_, h4⟩ := h3
    exfalso
    have hh : freeC c (u + k) ≤ high c 10000000 + 1 := by
      have ha := okC_iff.1 hc0
      unfold freeC at hp2 ⊢
      split at hp2
      · omega
      · rename_i hn
        rw [if_neg hn]
        have := high_mono hc0 (r := min (u + k) 10000000) (s := 10000000) (by omega) (by omega)
        omega
    omega

end Ru
