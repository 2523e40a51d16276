/-
  A region that draws its order, walked by a plan: what is quiet in one order of our own choosing; where one, two or three operations that make memory may come up, one way for each of them. No program in sight.
-/
import Derived.Test.YtheioedggjbphaaMore
namespace Sk
open Go Go.RowKit Go.Sort

/-- a plan for a region: the operations' numbers -/
inductive Plan where
  | done
  | q (i : Nat) (p : Plan)
  | e (i : Nat) (p : Plan)
  | two (i : Nat) (p : Plan) (j : Nat) (r : Plan)
  | three (i : Nat) (p : Plan) (j : Nat) (r : Plan) (k : Nat) (s : Plan)

section
variable {P : Program} {ops : Array Oper} {md : Region.Mode} {C : World → Prop} {Q : Exit → Act → World → Prop} {n : Nat}

def wpPlan (P : Program) (ops : Array Oper) (C : World → Prop) (Q : Exit → Act → World → Prop) (tail : List Oper) : Plan → Act → World → Prop
  | .done, a, w => wpList P ops Q tail a w
  | .q i r, a, w => ∃ o, ops[i]? = some o ∧ plainOp o.op = true ∧ wpQuiet P ops C (fun a' => wpPlan P ops C Q tail r a' w) [o] a
  | .e i r, a, w => ∃ o, ops[i]? = some o ∧ wpList P ops (MixPost C (wpPlan P ops C Q tail r) Q) [o] a w
  | .two i r j s, a, w => ∃ o p, ops[i]? = some o ∧ ops[j]? = some p ∧ wpList P ops (MixPost C (wpPlan P ops C Q tail r) Q) [o] a w ∧ wpList P ops (MixPost C (wpPlan P ops C Q tail s) Q) [p] a w
  | .three i r j s k t, a, w => ∃ o p q, ops[i]? = some o ∧ ops[j]? = some p ∧ ops[k]? = some q ∧ wpList P ops (MixPost C (wpPlan P ops C Q tail r) Q) [o] a w ∧ wpList P ops (MixPost C (wpPlan P ops C Q tail s) Q) [p] a w ∧
      wpList P ops (MixPost C (wpPlan P ops C Q tail t) Q) [q] a w

section
variable {l tail : List Oper} {a : Act} {w : World} {i j k : Nat} {r s t : Plan} {o p q : Oper}
theorem plan_done (h : wpList P l.toArray Q tail a w) : wpPlan P l.toArray C Q tail .done a w := h
theorem plan_q (ho : pick l i = some o) (hp : plainOp o.op = true) (h : wpQuiet P l.toArray C (fun a' => wpPlan P l.toArray C Q tail r a' w) [o] a) : wpPlan P l.toArray C Q tail (.q i r) a w := ⟨o, by rw [← pick_eq]; exact ho, hp, h⟩
theorem plan_e (ho : pick l i = some o) (h : wpList P l.toArray (MixPost C (wpPlan P l.toArray C Q tail r) Q) [o] a w) : wpPlan P l.toArray C Q tail (.e i r) a w := ⟨o, by rw [← pick_eq]; exact ho, h⟩
theorem plan_two (ho : pick l i = some o) (hp : pick l j = some p) (h1 : wpList P l.toArray (MixPost C (wpPlan P l.toArray C Q tail r) Q) [o] a w) (h2 : wpList P l.toArray (MixPost C (wpPlan P l.toArray C Q tail s) Q) [p] a w) :
    wpPlan P l.toArray C Q tail (.two i r j s) a w := ⟨o, p, by rw [← pick_eq]; exact ho, by rw [← pick_eq]; exact hp, h1, h2⟩
theorem plan_three (ho : pick l i = some o) (hp : pick l j = some p) (hq : pick l k = some q) (h1 : wpList P l.toArray (MixPost C (wpPlan P l.toArray C Q tail r) Q) [o] a w) (h2 : wpList P l.toArray (MixPost C (wpPlan P l.toArray C Q tail s) Q) [p] a w)
    (h3 : wpList P l.toArray (MixPost C (wpPlan P l.toArray C Q tail t) Q) [q] a w) : wpPlan P l.toArray C Q tail (.three i r j s k t) a w :=
  ⟨o, p, q, by rw [← pick_eq]; exact ho, by rw [← pick_eq]; exact hp, by rw [← pick_eq]; exact hq, h1, h2, h3⟩
end

/-- the check of a plan: 'n': where the forced tail begins -/
def planB (md : Region.Mode) (ops : Array Oper) (n : Nat) : Plan → Array Bool → Bool
  | .done, listed => Region.seqB md ops (ops.size - n) n listed
  | .q i r, listed => decide (i < n) && (Region.ready md ops listed).contains i && Region.free md ops listed i && planB md ops n r (listed.setIfInBounds i true)
  | .e i r, listed => decide (i < n) && decide (Region.ready md ops listed = [i]) && planB md ops n r (listed.setIfInBounds i true)
  | .two i r j s, listed => decide (i < n) && decide (j < n) && decide (Region.ready md ops listed = [i, j]) && planB md ops n r (listed.setIfInBounds i true) && planB md ops n s (listed.setIfInBounds j true)
  | .three i r j s k t, listed => decide (i < n) && decide (j < n) && decide (k < n) && decide (Region.ready md ops listed = [i, j, k]) && planB md ops n r (listed.setIfInBounds i true) && planB md ops n s (listed.setIfInBounds j true) && planB md ops n t (listed.setIfInBounds k true)

/-- every way through a plan takes f operations -/
def planLen : Nat → Plan → Bool
  | 0, .done => true
  | f + 1, .q _ r => planLen f r
  | f + 1, .e _ r => planLen f r
  | f + 1, .two _ r _ s => planLen f r && planLen f s
  | f + 1, .three _ r _ s _ t => planLen f r && planLen f s && planLen f t
  | _, _ => false

theorem plan_lex {g : Nat} {tail : List Oper} (hg : g = ops.size - n) (hsel : Region.noSelect ops = true) (hQ : ∀ c a w, ¬ Q (.panic c) a w)
    (hhead : ∀ i, i < n → ∀ listed, HeadInv md ops n listed → listed.getD i true = false → ∀ j ∈ Region.ready md ops listed, j < n) :
    ∀ (f : Nat) (order : Plan) (listed : Array Bool) (a : Act) (w : World), planLen f order = true → HeadInv md ops n listed → planB md ops n order listed = true → C w → wpPlan P ops C Q tail order a w →
      wpAnyT P md ops Q C n (fun listed' a' w' => Region.seqB md ops g n listed' = true ∧ wpList P ops Q tail a' w') f listed a w
  | 0, .done, listed, a, w, _, _, hB, _, h => ⟨by subst hg; exact hB, h⟩
  | f + 1, .q i r, listed, a, w, hl, inv, hB, hC, h => by
    simp only [planB, Bool.and_eq_true, decide_eq_true_eq] at hB
    obtain ⟨⟨⟨hin, hr⟩, hf⟩, hB'⟩ := hB
    have hr' : i ∈ Region.ready md ops listed := by simpa using hr
    obtain ⟨o, ho, hp, hq⟩ := h
    obtain ⟨v, hy, hN⟩ := yieldsIf_of hp hq
    exact wpAnyT_first ho (Region.noSelect_spec hsel) (fun c a w h => (hQ c _ _ h).elim) (hhead i hin) (fun listed' a' w' hL => seqB_ready hL.1) f listed a w inv (Region.free_spec ho hf) hr' hy hC
      (plan_lex hg hsel hQ hhead f r _ _ _ hl (inv.set hr' hin) hB' hC hN)
  | f + 1, .e i r, listed, a, w, hl, inv, hB, hC, h => by
    simp only [planB, Bool.and_eq_true, decide_eq_true_eq] at hB
    obtain ⟨⟨hin, hone⟩, hB'⟩ := hB
    have hr' : i ∈ Region.ready md ops listed := by rw [hone]; simp
    obtain ⟨o, ho, hq⟩ := h
    refine ⟨fun h0 => (by rw [h0] at hr'; cases hr'), fun j hj => ?_⟩
    rw [hone] at hj
    obtain rfl : j = i := by simpa using hj
    exact ⟨hin, wpOp_of_eff ho (fun a' w' hC' hN => plan_lex hg hsel hQ hhead f r _ _ _ hl (inv.set hr' hin) hB' hC' hN) hq⟩
  | f + 1, .two i r j s, listed, a, w, hl, inv, hB, hC, h => by
    simp only [planB, Bool.and_eq_true, decide_eq_true_eq] at hB
    obtain ⟨⟨⟨⟨hin, hjn⟩, htwo⟩, hB1⟩, hB2⟩ := hB
    simp only [planLen, Bool.and_eq_true] at hl
    have hri : i ∈ Region.ready md ops listed := by rw [htwo]; simp
    have hrj : j ∈ Region.ready md ops listed := by rw [htwo]; simp
    obtain ⟨o, p, ho, hp, hq1, hq2⟩ := h
    refine ⟨fun h0 => (by rw [h0] at hri; cases hri), fun k hk => ?_⟩
    rw [htwo] at hk
    rcases (by simpa using hk : k = i ∨ k = j) with rfl | rfl
    · exact ⟨hin, wpOp_of_eff ho (fun a' w' hC' hN => plan_lex hg hsel hQ hhead f r _ _ _ hl.1 (inv.set hri hin) hB1 hC' hN) hq1⟩
    · exact ⟨hjn, wpOp_of_eff hp (fun a' w' hC' hN => plan_lex hg hsel hQ hhead f s _ _ _ hl.2 (inv.set hrj hjn) hB2 hC' hN) hq2⟩
  | f + 1, .three i r j s k t, listed, a, w, hl, inv, hB, hC, h => by
    simp only [planB, Bool.and_eq_true, decide_eq_true_eq] at hB
    obtain ⟨⟨⟨⟨⟨⟨hin, hjn⟩, hkn⟩, htwo⟩, hB1⟩, hB2⟩, hB3⟩ := hB
    simp only [planLen, Bool.and_eq_true] at hl
    have hri : i ∈ Region.ready md ops listed := by rw [htwo]; simp
    have hrj : j ∈ Region.ready md ops listed := by rw [htwo]; simp
    have hrk : k ∈ Region.ready md ops listed := by rw [htwo]; simp
    obtain ⟨o, p, q, ho, hp, hq, hq1, hq2, hq3⟩ := h
    refine ⟨fun h0 => (by rw [h0] at hri; cases hri), fun m hm => ?_⟩
    rw [htwo] at hm
    rcases (by simpa using hm : m = i ∨ m = j ∨ m = k) with rfl | rfl | rfl
    · exact ⟨hin, wpOp_of_eff ho (fun a' w' hC' hN => plan_lex hg hsel hQ hhead f r _ _ _ hl.1.1 (inv.set hri hin) hB1 hC' hN) hq1⟩
    · exact ⟨hjn, wpOp_of_eff hp (fun a' w' hC' hN => plan_lex hg hsel hQ hhead f s _ _ _ hl.1.2 (inv.set hrj hjn) hB2 hC' hN) hq2⟩
    · exact ⟨hkn, wpOp_of_eff hq (fun a' w' hC' hN => plan_lex hg hsel hQ hhead f t _ _ _ hl.2 (inv.set hrk hkn) hB3 hC' hN) hq3⟩
  | 0, .q _ _, _, _, _, hl, _, _, _, _ => by cases hl
  | 0, .e _ _, _, _, _, hl, _, _, _, _ => by cases hl
  | 0, .two _ _ _ _, _, _, _, hl, _, _, _, _ => by cases hl
  | 0, .three _ _ _ _ _ _, _, _, _, hl, _, _, _, _ => by cases hl
  | _ + 1, .done, _, _, _, hl, _, _, _, _ => by cases hl

/-- the whole check, for the kernel -/
def planOk (ops : Array Oper) (order : Plan) (n : Nat) : Bool :=
  Region.noSelect ops && (decide (n = ops.size) || (decide (n < ops.size) && Region.sinkB .any ops n && Region.chainB .any ops n)) && planLen n order && planB .any ops n order (Array.replicate ops.size false)

theorem wp_region_plan {id : Nat} {a : Act} {w : World} {l : List Oper} (order : Plan) (n : Nat) (hm : P.follows .mixedOrders = true) (hB : planOk l.toArray order n = true) (hC : C { w with drawn := w.drawn + 1 })
    (h : wpPlan P l.toArray C (NoPanic Q) (l.drop n) order a { w with drawn := w.drawn + 1 }) : (Code.region id l.toArray true).wp P Q a w := by
  simp only [planOk, Bool.and_eq_true, Bool.or_eq_true, decide_eq_true_eq] at hB
  obtain ⟨⟨⟨hsel, hn⟩, hlen⟩, hmix⟩ := hB
  have hle : n ≤ l.toArray.size := by rcases hn with h | h <;> omega
  have hdl : (l.drop n).length = l.toArray.size - n := by simp
  have inv0 : HeadInv .any l.toArray n (Array.replicate l.toArray.size false) :=
    ⟨by simp, fun j oj _ hl => (by rw [getD_replicate_false] at hl; cases hl), fun t _ ht => getD_in (by simpa using ht) (getD_replicate_false _ _)⟩
  have hhead : ∀ i, i < n → ∀ listed, HeadInv .any l.toArray n listed → listed.getD i true = false → ∀ j ∈ Region.ready .any l.toArray listed, j < n := by
    intro i hi listed inv hun j hj
    rcases hn with rfl | ⟨⟨hlt, hs⟩, hc⟩
    · obtain ⟨_, o, ho, _⟩ := mem_ready.1 hj
      exact (Array.getElem?_eq_some_iff.1 ho).1
    · rcases Nat.lt_or_ge j n with h | h
      · exact h
      · exact absurd hj (tail_waits hs hc hlt inv _ i rfl hi hun j h)
  refine wp_region_noPanic (wp_region_any hm ?_)
  have H := plan_lex (md := .any) (g := l.toArray.size - n) rfl hsel (fun c a w h => h) hhead n order _ a _ hlen inv0 hmix hC h
  have := wpAny_of_T (g := l.toArray.size - n) (fun listed a' w' hL => by
    have := wpAny_of_seq (md := .any) (l.drop n) n listed a' w' (fun j => by simp [List.getElem?_drop]) (by rw [hdl]; exact hL.1) hL.2
    rwa [hdl] at this) _ _ _ _ H
  rw [show n + (l.toArray.size - n) = l.toArray.size by omega] at this
  exact this
end
end Sk
