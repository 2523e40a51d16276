/-
  Plain laws of Find and Translate; the calls by their results.
-/
import Derived.Test.YtmnlkndbdcdngaaSymK
namespace Sb

theorem find_cases {of : Int} {ms : List Mk} {s : Int} {m : Mk} {e : Int} (h : findF of ms s = (m, e)) :
    (e = 0 ∧ okB of ms = true ∧ okS s = true ∧ m ∈ ms ∧ m.sy = s) ∨ (e = 11 ∧ okB of ms = true ∧ okS s = true ∧ m = zeroM ∧ ∀ x ∈ ms, x.sy ≠ s) ∨ (e = 1 ∧ m = zeroM ∧ (okB of ms && okS s) = false) := by
  unfold findF at h
  by_cases hb : (okB of ms && okS s) = true
  · rw [if_pos hb] at h
    simp only [Bool.and_eq_true] at hb
    cases hl : lookM ms s with
    | none =>
      rw [hl] at h
      obtain ⟨rfl, rfl⟩ := Prod.mk.inj h
      exact .inr (.inl ⟨rfl, hb.1, hb.2, rfl, lookM_none hl⟩)
    | some x =>
      rw [hl] at h
      obtain ⟨rfl, rfl⟩ := Prod.mk.inj h
      exact .inl ⟨rfl, hb.1, hb.2, lookM_some hl⟩
  · rw [if_neg hb] at h
    obtain ⟨rfl, rfl⟩ := Prod.mk.inj h
    exact .inr (.inr ⟨rfl, rfl, by simpa using hb⟩)
theorem vok {of : Int} {ms : List Mk} (h : okB of ms = true) : VOk ms := (okB_iff.1 h).2
theorem okS_of {of : Int} {ms : List Mk} (h : okB of ms = true) {m : Mk} (hm : m ∈ ms) : okS m.sy = true := by
  have := okM_iff.1 ((vok h).ok m hm)
  exact okS_iff.2 ⟨this.1, this.2.1⟩
theorem find_mem {of : Int} {ms : List Mk} {m : Mk} (h : okB of ms = true) (hm : m ∈ ms) : findF of ms m.sy = (m, 0) := by
  unfold findF
  rw [if_pos (by rw [h, okS_of h hm]; rfl), lookM_mem (vok h) hm]
theorem same_sy {of : Int} {ms : List Mk} (h : okB of ms = true) {m x : Mk} (hm : m ∈ ms) (hx : x ∈ ms) (he : m.sy = x.sy) : m = x := by
  have h1 := lookM_mem (vok h) hm
  rw [he, lookM_mem (vok h) hx] at h1
  exact (Option.some.inj h1).symm
theorem translate_cases {oa : Int} {a : List Mk} {ob : Int} {b : List Mk} {s t g : Int} (h : translate oa a ob b s = (t, g)) :
    (g = 0 ∧ okB oa a = true ∧ okB ob b = true ∧ okS s = true ∧ ∃ m ∈ a, m.sy = s ∧ found (trans b m) = true ∧ t = (trans b m).sy) ∨
    (g = 4 ∧ t = 0 ∧ okB oa a = true ∧ okB ob b = true ∧ okS s = true ∧ ∃ m ∈ a, m.sy = s ∧ found (trans b m) = false) ∨
    (g = 11 ∧ t = 0 ∧ okB oa a = true ∧ okB ob b = true ∧ okS s = true ∧ ∀ x ∈ a, x.sy ≠ s) ∨
    (g = 1 ∧ t = 0 ∧ (okB oa a && okB ob b && okS s) = false) := by
  unfold translate at h
  by_cases hb : (okB oa a && okB ob b && okS s) = true
  · rw [if_pos hb] at h
    simp only [Bool.and_eq_true] at hb
    cases hl : lookM a s with
    | none =>
      rw [hl] at h
      obtain ⟨rfl, rfl⟩ := Prod.mk.inj h
      exact .inr (.inr (.inl ⟨rfl, rfl, hb.1.1, hb.1.2, hb.2, lookM_none hl⟩))
    | some x =>
      rw [hl] at h
      obtain ⟨h1, h2⟩ := lookM_some hl
      dsimp only at h
      cases hf : found (trans b x) with
      | true =>
        rw [hf, if_pos rfl] at h
        obtain ⟨rfl, rfl⟩ := Prod.mk.inj h
        exact .inl ⟨rfl, hb.1.1, hb.1.2, hb.2, x, h1, h2, hf, rfl⟩
      | false =>
        rw [hf, if_neg (by simp)] at h
        obtain ⟨rfl, rfl⟩ := Prod.mk.inj h
        exact .inr (.inl ⟨rfl, rfl, hb.1.1, hb.1.2, hb.2, x, h1, h2, hf⟩)
  · rw [if_neg hb] at h
    obtain ⟨rfl, rfl⟩ := Prod.mk.inj h
    exact .inr (.inr (.inr ⟨rfl, rfl, by simpa using hb⟩))

theorem fitB_iff {m x : Mk} : fitB m x = true ↔ x.kd = m.kd ∧ m.cl ≤ x.cl := by simp [fitB]
theorem trans_found {ms : List Mk} (h : VOk ms) {m : Mk} (hf : found (trans ms m) = true) : trans ms m ∈ ms ∧ (trans ms m).kd = m.kd ∧ m.cl ≤ (trans ms m).cl ∧ ∀ x ∈ ms, x.kd = m.kd → m.cl ≤ x.cl → (trans ms m).cl ≤ x.cl := by
  rcases trans_cases h m with ⟨_, h1, _⟩ | ⟨_, h1, h2, h3⟩
  · rw [hf] at h1; cases h1
  · have := fitB_iff.1 h2
    exact ⟨h1, this.1, this.2, fun x hx e1 e2 => h3 x hx (fitB_iff.2 ⟨e1, e2⟩)⟩
theorem trans_lost {ms : List Mk} (h : VOk ms) {m : Mk} (hf : found (trans ms m) = false) : ∀ x ∈ ms, x.kd = m.kd → x.cl < m.cl := by
  rcases trans_cases h m with ⟨_, _, h1⟩ | ⟨h1, _⟩
  · intro x hx e
    have := h1 x hx
    have h2 : ¬ (fitB m x = true) := by rw [this]; simp
    rw [fitB_iff] at h2
    omega
  · rw [hf] at h1; cases h1
theorem trans_there {ms : List Mk} (h : VOk ms) {m x : Mk} (hx : x ∈ ms) (h1 : x.kd = m.kd) (h2 : m.cl ≤ x.cl) : found (trans ms m) = true := by
  cases hf : found (trans ms m) with
  | true => rfl
  | false => have := trans_lost h hf x hx h1; omega

theorem foldl_stay : ∀ (l : List Mk) (b : Mk), (l.foldl better b).cl = b.cl → l.foldl better b = b
  | [], _, _ => rfl
  | y :: l, b, h => by
    simp only [List.foldl_cons] at h ⊢
    have h1 := (foldl_better l (better b y)).1
    have h2 : better b y = b := by
      unfold better
      split
      · rename_i hlt
        unfold better at h1 h
        rw [if_pos hlt] at h1 h
        omega
      · rfl
    rw [h2] at h ⊢
    exact foldl_stay l b h
theorem foldl_first : ∀ (l : List Mk) (b : Mk), l.Pairwise (fun a b => a.sy < b.sy) → ∀ x ∈ l, (l.foldl better b).cl = x.cl → l.foldl better b = b ∨ (l.foldl better b).sy ≤ x.sy
  | [], _, _, _, hx, _ => by simp at hx
  | y :: l, b, hp, x, hx, he => by
    simp only [List.foldl_cons] at he ⊢
    rw [List.pairwise_cons] at hp
    have h1 := (foldl_better l (better b y)).1
    rcases List.mem_cons.1 hx with rfl | hx
    · by_cases hlt : x.cl < b.cl
      · have hb : better b x = x := by unfold better; rw [if_pos hlt]
        rw [hb] at he ⊢
        right
        rw [foldl_stay l x he]
        exact Int.le_refl _
      · have hb : better b x = b := by unfold better; rw [if_neg hlt]
        rw [hb] at he h1 ⊢
        left
        exact foldl_stay l b (by omega)
    · rcases foldl_first l (better b y) hp.2 x hx he with h | h
      · rw [h]
        unfold better
        split
        · right; have := hp.1 x hx; omega
        · left; rfl
      · exact .inr h
/-- the first of the least dangerous ones -/
theorem trans_first {ms : List Mk} (h : VOk ms) {m : Mk} (hf : found (trans ms m) = true) {x : Mk} (hx : x ∈ ms) (h1 : x.kd = m.kd) (h2 : x.cl = (trans ms m).cl) : (trans ms m).sy ≤ x.sy := by
  have hm := trans_found h hf
  have h3 : x ∈ ms.filter (fitB m) := List.mem_filter.2 ⟨hx, fitB_iff.2 ⟨h1, by omega⟩⟩
  rcases foldl_first (ms.filter (fitB m)) top (h.inc.sublist List.filter_sublist) x h3 h2.symm with h4 | h4
  · exfalso
    have : trans ms m = top := h4
    rw [this] at hf
    cases hf
  · exact h4

theorem find_got {of : Int} {ms : List Mk} {s : Int} {m : Mk} (h : findF of ms s = (m, 0)) : okB of ms = true ∧ okS s = true ∧ m ∈ ms ∧ m.sy = s := by
  rcases find_cases h with ⟨_, h⟩ | ⟨hh, _⟩ | ⟨hh, _⟩
  · exact h
  · cases hh
  · cases hh
theorem translate_got {oa : Int} {a : List Mk} {ob : Int} {b : List Mk} {s t : Int} (h : translate oa a ob b s = (t, 0)) :
    okB oa a = true ∧ okB ob b = true ∧ okS s = true ∧ ∃ m ∈ a, m.sy = s ∧ found (trans b m) = true ∧ t = (trans b m).sy := by
  rcases translate_cases h with ⟨_, h⟩ | ⟨hh, _⟩ | ⟨hh, _⟩ | ⟨hh, _⟩
  · exact h
  · cases hh
  · cases hh
  · cases hh
theorem order_law {oa ob s n e f t g u h i k : Int} {a b : List Mk} {x y p q : Mk} (h1 : findF oa a s = (x, e)) (h2 : findF oa a n = (y, f)) (h3 : translate oa a ob b s = (t, g)) (h4 : translate oa a ob b n = (u, h))
    (h5 : findF ob b t = (p, i)) (h6 : findF ob b u = (q, k)) (he : e = 0) (hf : f = 0) (hk : x.kd = y.kd) (hc : x.cl ≤ y.cl) : (g = 0 → h = 0 → i = 0 ∧ k = 0 ∧ p.cl ≤ q.cl) ∧ (g ≠ 0 → h = g) := by
  subst he hf
  obtain ⟨ha, hs, hx, rfl⟩ := find_got h1
  obtain ⟨_, hn, hy, rfl⟩ := find_got h2
  rcases translate_cases h3 with ⟨rfl, _, hb, _, m, hm, hms, hfm, rfl⟩ | ⟨rfl, rfl, _, hb, _, m, hm, hms, hfm⟩ | ⟨rfl, rfl, _, hb, _, hno⟩ | ⟨rfl, rfl, hbad⟩
  · obtain rfl := same_sy ha hm hx hms
    refine ⟨?_, by simp⟩
    rintro - rfl
    obtain ⟨_, _, _, m', hm', hms', hfm', rfl⟩ := translate_got h4
    obtain rfl := same_sy ha hm' hy hms'
    obtain ⟨k1, k2, k3, k4⟩ := trans_found (vok hb) hfm
    obtain ⟨l1, l2, l3, l4⟩ := trans_found (vok hb) hfm'
    rw [find_mem hb k1] at h5
    rw [find_mem hb l1] at h6
    obtain ⟨rfl, rfl⟩ := Prod.mk.inj h5
    obtain ⟨rfl, rfl⟩ := Prod.mk.inj h6
    exact ⟨rfl, rfl, k4 _ l1 (by omega) (by omega)⟩
  · obtain rfl := same_sy ha hm hx hms
    refine ⟨by simp, fun _ => ?_⟩
    rcases translate_cases h4 with ⟨rfl, _, _, _, m', hm', hms', hfm', rfl⟩ | ⟨rfl, _⟩ | ⟨_, _, _, _, _, hno⟩ | ⟨_, _, hbad⟩
    · exfalso
      obtain rfl := same_sy ha hm' hy hms'
      obtain ⟨l1, l2, l3, _⟩ := trans_found (vok hb) hfm'
      have := trans_lost (vok hb) hfm _ l1 (by omega)
      omega
    · rfl
    · exact absurd rfl (hno _ hy)
    · rw [ha, hb, hn] at hbad; cases hbad
  · exact absurd rfl (hno _ hx)
  · refine ⟨by simp, fun _ => ?_⟩
    rw [ha, hs] at hbad
    rcases translate_cases h4 with ⟨_, _, hb, _⟩ | ⟨_, _, _, hb, _⟩ | ⟨_, _, _, hb, _⟩ | ⟨rfl, _⟩
    · rw [hb] at hbad; cases hbad
    · rw [hb] at hbad; cases hbad
    · rw [hb] at hbad; cases hbad
    · rfl
end Sb

namespace Go.Proofs.Ytmnlkndbdcdngaa
open Go.RowKit Sb Sk Go.Sort
set_option linter.unusedVariables false
section
variable {w : World} {oa ob oc s t e x0 x1 x2 : Int} {ax bx cx : Option Addr} {na ca nb cb nc cc : Nat} {a b : List Mk}
theorem find_to (h : findF oa a s = (⟨x0, x1, x2⟩, e)) (hs : Sl w 3 cM ax na ca a) : Calls Try.prog 14 #[.agg #[.int .i64 oa, .slice ax na ca], .int .i64 s] w (Ret w (.tuple #[.agg #[.int .i64 x0, .int .i64 x1, .int .i64 x2], .int .i64 e])) := by
  have := Find_any oa ax na ca a s w hs
  rwa [h] at this
theorem translate_to (h : translate oa a ob b s = (t, e)) (hs : Sl w 3 cM ax na ca a) (ht : Sl w 3 cM bx nb cb b) :
    Calls Try.prog 16 #[.agg #[.int .i64 oa, .slice ax na ca], .agg #[.int .i64 ob, .slice bx nb cb], .int .i64 s] w (Ret w (.tuple #[.int .i64 t, .int .i64 e])) := by
  have := Translate_any oa ax na ca a ob bx nb cb b s w hs ht
  rwa [h] at this
/-- a list of symbols and an error -/
def IntsE (w : World) (l : List Int) (k : Int) (e : Ending) (w' : World) : Prop := ∃ ao n cap, e = .returned (.tuple #[.slice ao n cap, .int .i64 k]) ∧ Sl w' 1 cI ao n cap l ∧ Below w.heap.size w w'
theorem lost_to {l : List Int} (h : symsF oa a ob b isLost = (l, e)) (hs : Sl w 3 cM ax na ca a) (ht : Sl w 3 cM bx nb cb b) : Calls Try.prog 18 #[.agg #[.int .i64 oa, .slice ax na ca], .agg #[.int .i64 ob, .slice bx nb cb]] w (IntsE w l e) := by
  have := Lost_any oa ax na ca a ob bx nb cb b w hs ht
  rw [h] at this
  exact this.mono fun e w' ⟨ao, n, cap, h1, h2, _, h4⟩ => ⟨ao, n, cap, h1, h2, h4⟩
theorem changed_to {l : List Int} (h : symsF oa a ob b isChanged = (l, e)) (hs : Sl w 3 cM ax na ca a) (ht : Sl w 3 cM bx nb cb b) : Calls Try.prog 21 #[.agg #[.int .i64 oa, .slice ax na ca], .agg #[.int .i64 ob, .slice bx nb cb]] w (IntsE w l e) := by
  have := Changed_any oa ax na ca a ob bx nb cb b w hs ht
  rw [h] at this
  exact this.mono fun e w' ⟨ao, n, cap, h1, h2, _, h4⟩ => ⟨ao, n, cap, h1, h2, h4⟩
theorem join_to {l : List Mk} (h : join oa a ob b = ((oc, l), e)) (hs : Sl w 3 cM ax na ca a) (ht : Sl w 3 cM bx nb cb b) : Calls Try.prog 25 #[.agg #[.int .i64 oa, .slice ax na ca], .agg #[.int .i64 ob, .slice bx nb cb]] w
    (fun k w' => ∃ ao n cap, k = .returned (.tuple #[.agg #[.int .i64 oc, .slice ao n cap], .int .i64 e]) ∧ Sl w' 3 cM ao n cap l ∧ Below w.heap.size w w') := by
  have := Join_any oa ax na ca a ob bx nb cb b w hs ht
  rw [h] at this
  exact this.mono fun e w' ⟨ao, n, cap, h1, h2, _, h4⟩ => ⟨ao, n, cap, h1, h2, h4⟩
end
theorem find_ex (of : Int) (ms : List Mk) (s : Int) : ∃ x0 x1 x2 e, findF of ms s = (⟨x0, x1, x2⟩, e) := ⟨_, _, _, _, rfl⟩
theorem translate_ex (oa : Int) (a : List Mk) (ob : Int) (b : List Mk) (s : Int) : ∃ t e, translate oa a ob b s = (t, e) := ⟨_, _, rfl⟩
theorem syms_ex (oa : Int) (a : List Mk) (ob : Int) (b : List Mk) (is : Mk → Mk → Bool → Bool) : ∃ l e, symsF oa a ob b is = (l, e) := ⟨_, _, rfl⟩
theorem join_ex (oa : Int) (a : List Mk) (ob : Int) (b : List Mk) : ∃ oc l e, join oa a ob b = ((oc, l), e) := ⟨_, _, _, rfl⟩
end Go.Proofs.Ytmnlkndbdcdngaa
