/-
  XMix's walk, in a fence that lets every function in (the wide fence; a round in it): a region that draws its order, walked once, in an order of our own choosing. No program in sight.
-/
import Derived.OrdersIn
import Derived.TacticsIn
import Derived.OwnWalkIn
import Derived.Test.YtheioedggjbphaaMix
namespace Sk
open Go Go.RowKit Go.Sort

section
variable {F : Fence} {m : Nat} {P : Program} {ops : Array Oper} {md : Region.Mode} {C : World → Prop} {Q : Exit → Act → World → Prop} {n : Nat}

def noDefer (ops : Array Oper) : Bool := ops.all fun o => match o.op with | .defer _ => false | _ => true
theorem noDefer_spec (h : noDefer ops = true) : ∀ (j : Nat) (o : Oper), ops[j]? = some o → ∀ c, o.op ≠ .defer c := by
  intro j o ho c hc
  obtain ⟨hlt, rfl⟩ := Array.getElem?_eq_some_iff.1 ho
  have := (Array.all_eq_true.1 h) j hlt
  simp [hc] at this

theorem YieldsIf.wpOpIn (hF : ∀ f, F.fn f) {S : World → Prop} {i : Nat} {o : Oper} {v : Value} {a : Act} (hi : ops[i]? = some o) (hnd : ∀ c, o.op ≠ .defer c) (hy : YieldsIf P ops S o v a)
    {K : Act → World → Prop} {w : World} (hS : S w) (h : K (a.put o.dst v) w) : wpOpIn F m P ops Q i K a w := by
  unfold Go.wpOpIn
  simp only [hi]
  rcases hy with ⟨hw, hv⟩ | ⟨hw, rfl⟩
  · simp only [hw, if_true, Oper.wpIn, Oper.semAt_eq _ _ _ hnd, hv w hS, Oper.uponIn]; exact ⟨fun f _ => hF f, h⟩
  · simp only [hw, Bool.false_eq_true, if_false]; exact ⟨fun f _ => hF f, h⟩

theorem wpOpIn_putIf (hF : ∀ f, F.fn f) {S : World → Prop} {j : Nat} {oi oj : Oper} {v : Value} (hj : ops[j]? = some oj) (hnd : ∀ c, oj.op ≠ .defer c) (hap : oi.apart ops oj = true)
    (hsi : ∀ cs b, oi.op ≠ .select cs b) (hsj : ∀ cs b, oj.op ≠ .select cs b)
    (hQ : ∀ c a w, Q (.panic c) (a.put oi.dst v) w → Q (.panic c) a w) {K : Act → World → Prop} {a : Act} {w : World}
    (hy : YieldsIf P ops S oi v a) (h : wpOpIn F m P ops Q j K (a.put oi.dst v) w) :
    wpOpIn F m P ops Q j (fun a' w' => YieldsIf P ops S oi v a' ∧ K (a'.put oi.dst v) w') a w := by
  obtain ⟨h1, h2, h3⟩ := Oper.apart_spec hap
  have keep : ∀ (a : Act), YieldsIf P ops S oi v a → ∀ u, YieldsIf P ops S oi v (a.put oj.dst u) := fun a hy u =>
    hy.of_same (execOp_put oi hsi a oj.dst u h3) (wanted_put oi a oj.dst u h3)
  have keepD : ∀ d, YieldsIf P ops S oi v { a with defers := d :: a.defers } := fun d => hy.of_same rfl rfl
  unfold wpOpIn at *
  simp only [hj] at *
  rw [wanted_put oj a oi.dst v h1] at h
  split
  · rename_i hw
    simp only [hw, if_true] at h
    unfold Oper.wpIn at *
    refine ⟨fun f _ => hF f, ?_⟩
    have h := h.2
    rw [Oper.semAt_eq _ _ _ hnd, execOp_put oj hsj a oi.dst v h1] at h
    rw [Oper.semAt_eq _ _ _ hnd]
    generalize (execOp a.eval oj).run P w = r at *
    cases r with
    | ok x w' =>
      cases x <;> simp only [Oper.uponIn] at h ⊢
      case value u => exact ⟨keep a hy u, by rw [← Act.put_comm a v u h2]; exact h⟩
      case skip => exact ⟨keep a hy _, by rw [← Act.put_comm a v undef h2]; exact h⟩
      case defer d =>
        refine ⟨keep _ (keepD d) _, ?_⟩
        rw [← Act.put_comm _ v undef h2, ← Act.put_defers]
        exact h
      case enter f args =>
        refine ⟨h.1, CallsIn.mono h.2 fun e w'' he => ?_⟩
        cases e with
        | returned u => exact ⟨keep a hy u, by rw [← Act.put_comm a v u h2]; exact he⟩
        | panicked c => exact hQ _ _ _ he
        | outgrown => exact he
      case row row args => exact ⟨h.1, RowsIn.mono h.2 fun u w'' he => ⟨keep a hy u, by rw [← Act.put_comm a v u h2]; exact he⟩⟩
      case round l f tmps assign body =>
        refine ⟨h.1, RoundIn.mono h.2 fun e w'' he => ?_⟩
        cases e with
        | returned u => exact ⟨keep a hy u, by rw [← Act.put_comm a v u h2]; exact he⟩
        | panicked c => exact hQ _ _ _ he
        | outgrown => exact he
    | halt x w' =>
      cases x <;> simp only [Oper.uponIn] at h ⊢
      case panic u => exact hQ _ _ _ h
  · rename_i hw
    simp only [hw] at h
    exact ⟨fun f _ => hF f, keep a hy _, by rw [← Act.put_comm a v undef h2]; exact h.2⟩

/-- the walk in the order that is handed in: an index with 0: quiet; with 1: whatever else, alone; with k + 2: this one and number k, in either order -/
def wpMixIn (F : Fence) (m : Nat) (P : Program) (ops : Array Oper) (C : World → Prop) (Q : Exit → Act → World → Prop) (tail : List Oper) : List (Nat × Nat) → Act → World → Prop
  | [], a, w => wpListIn F m P ops Q tail a w
  | (i, 0) :: r, a, w => ∃ o, ops[i]? = some o ∧ plainOp o.op = true ∧ wpQuiet P ops C (fun a' => wpMixIn F m P ops C Q tail r a' w) [o] a
  | (i, 1) :: r, a, w => ∃ o, ops[i]? = some o ∧ wpListIn F m P ops (MixPost C (wpMixIn F m P ops C Q tail r) Q) [o] a w
  | (i, j + 2) :: r, a, w => ∃ o p, ops[i]? = some o ∧ ops[j]? = some p ∧ wpListIn F m P ops (MixPost C (fun a' w' => wpListIn F m P ops (MixPost C (wpMixIn F m P ops C Q tail r) Q) [p] a' w') Q) [o] a w ∧
      wpListIn F m P ops (MixPost C (fun a' w' => wpListIn F m P ops (MixPost C (wpMixIn F m P ops C Q tail r) Q) [o] a' w') Q) [p] a w

section
variable {l tail : List Oper} {a : Act} {w : World} {i j : Nat} {r : List (Nat × Nat)} {o p : Oper}
theorem imix_nil (h : wpListIn F m P ops Q tail a w) : wpMixIn F m P ops C Q tail [] a w := h
theorem imix_q (ho : pick l i = some o) (hp : plainOp o.op = true) (h : wpQuiet P l.toArray C (fun a' => wpMixIn F m P l.toArray C Q tail r a' w) [o] a) : wpMixIn F m P l.toArray C Q tail ((i, 0) :: r) a w := ⟨o, by rw [← pick_eq]; exact ho, hp, h⟩
theorem imix_e (ho : pick l i = some o) (h : wpListIn F m P l.toArray (MixPost C (wpMixIn F m P l.toArray C Q tail r) Q) [o] a w) : wpMixIn F m P l.toArray C Q tail ((i, 1) :: r) a w := ⟨o, by rw [← pick_eq]; exact ho, h⟩
theorem imix_p (ho : pick l i = some o) (hp : pick l j = some p)
    (h1 : wpListIn F m P l.toArray (MixPost C (fun a' w' => wpListIn F m P l.toArray (MixPost C (wpMixIn F m P l.toArray C Q tail r) Q) [p] a' w') Q) [o] a w)
    (h2 : wpListIn F m P l.toArray (MixPost C (fun a' w' => wpListIn F m P l.toArray (MixPost C (wpMixIn F m P l.toArray C Q tail r) Q) [o] a' w') Q) [p] a w) : wpMixIn F m P l.toArray C Q tail ((i, j + 2) :: r) a w :=
  ⟨o, p, by rw [← pick_eq]; exact ho, by rw [← pick_eq]; exact hp, h1, h2⟩
end

def wpAnyInT (F : Fence) (m : Nat) (P : Program) (md : Region.Mode) (ops : Array Oper) (Q : Exit → Act → World → Prop) (S : World → Prop) (n : Nat) (L : Array Bool → Act → World → Prop) : Nat → Array Bool → Act → World → Prop
  | 0, listed, a, w => L listed a w
  | f + 1, listed, a, w => Region.ready md ops listed ≠ [] ∧ ∀ i ∈ Region.ready md ops listed, i < n ∧ wpOpIn F m P ops Q i (fun a' w' => S w' ∧ wpAnyInT F m P md ops Q S n L f (listed.setIfInBounds i true) a' w') a w

theorem wpAnyIn_of_T {S : World → Prop} {L : Array Bool → Act → World → Prop} {g : Nat} (hL : ∀ listed a w, L listed a w → wpAnyIn F m P md ops Q g listed a w) :
    ∀ (f : Nat) (listed : Array Bool) (a : Act) (w : World), wpAnyInT F m P md ops Q S n L f listed a w → wpAnyIn F m P md ops Q (f + g) listed a w
  | 0, listed, a, w, h => by rw [Nat.zero_add]; exact hL _ _ _ h
  | f + 1, listed, a, w, h => by
    rw [show f + 1 + g = (f + g) + 1 by omega]
    exact ⟨fun h0 => absurd h0 h.1, fun i hi => wpOpIn_mono (fun a' w' h' => wpAnyIn_of_T hL f _ a' w' h'.2) (h.2 i hi).2⟩

theorem wpAnyInT_first (hF : ∀ f, F.fn f) {S : World → Prop} {L : Array Bool → Act → World → Prop} {i : Nat} {oi : Oper} {v : Value} (hi : ops[i]? = some oi) (hsel : ∀ (j : Nat) (o : Oper) cs b, ops[j]? = some o → o.op ≠ .select cs b)
    (hnd : ∀ (j : Nat) (o : Oper), ops[j]? = some o → ∀ c, o.op ≠ .defer c)
    (hQ : ∀ c a w, Q (.panic c) (a.put oi.dst v) w → Q (.panic c) a w)
    (hhead : ∀ listed, HeadInv md ops n listed → listed.getD i true = false → ∀ j ∈ Region.ready md ops listed, j < n)
    (hdone : ∀ listed a w, L listed a w → ∀ j ∈ Region.ready md ops listed, n ≤ j) :
    ∀ (f : Nat) (listed : Array Bool) (a : Act) (w : World), HeadInv md ops n listed →
      (∀ j oj, ops[j]? = some oj → j ≠ i → listed.getD j true = false → (∀ e ∈ oj.after, Region.binds md e = true → e.on ≠ i) → oi.apart ops oj = true) →
      i ∈ Region.ready md ops listed → YieldsIf P ops S oi v a → S w →
      wpAnyInT F m P md ops Q S n L f (listed.setIfInBounds i true) (a.put oi.dst v) w → wpAnyInT F m P md ops Q S n L (f + 1) listed a w := by
  intro f
  induction f with
  | zero =>
    intro listed a w inv _ hr hy hS H
    have hun := (mem_ready.1 hr).1
    refine ⟨fun h => (by rw [h] at hr; cases hr), fun j hj => ?_⟩
    have hjn := hhead listed inv hun j hj
    refine ⟨hjn, ?_⟩
    by_cases hji : j = i
    · subst hji; exact YieldsIf.wpOpIn hF hi (hnd _ _ hi) hy hS ⟨hS, H⟩
    · have := hdone _ _ _ H j (ready_mono hj hji)
      omega
  | succ f ih =>
    intro listed a w inv hfree hr hy hS H
    have hun := (mem_ready.1 hr).1
    refine ⟨fun h => (by rw [h] at hr; cases hr), fun j hj => ?_⟩
    have hjn := hhead listed inv hun j hj
    refine ⟨hjn, ?_⟩
    by_cases hji : j = i
    · subst hji; exact YieldsIf.wpOpIn hF hi (hnd _ _ hi) hy hS ⟨hS, H⟩
    · have h1 := (H.2 j (ready_mono hj hji)).2
      obtain ⟨hjun, oj, hoj, hall⟩ := mem_ready.1 hj
      have hnot : ∀ e ∈ oj.after, Region.binds md e = true → e.on ≠ i := fun e he hb heq => by
        have h1 := hall e he hb
        rw [heq, getD_both hun] at h1
        cases h1
      have h2 := wpOpIn_putIf hF hoj (hnd _ _ hoj) (hfree j oj hoj hji hjun hnot) (fun cs b => hsel i oi cs b hi) (fun cs b => hsel j oj cs b hoj) hQ hy h1
      have hfree' : ∀ k ok, ops[k]? = some ok → k ≠ i → (listed.setIfInBounds j true).getD k true = false →
          (∀ e ∈ ok.after, Region.binds md e = true → e.on ≠ i) → oi.apart ops ok = true := fun k ok hk hki hun hno => by
        refine hfree k ok hk hki ?_ hno
        by_cases hjk : j = k
        · subst hjk; exact hjun
        · rw [getD_set_ne true hjk] at hun; exact hun
      refine wpOpIn_mono (fun a' w' h3 => ⟨h3.2.1, ih (listed.setIfInBounds j true) a' w' (inv.set hj hjn) hfree' (ready_mono hr (Ne.symm hji)) h3.1 h3.2.1 ?_⟩) h2
      rw [Array.setIfInBounds_comm _ _ hji]
      exact h3.2.2

theorem wpIn_imp {o : Oper} {a : Act} {w : World} {K K' : Act → World → Prop} {Q Q' : Exit → Act → World → Prop} (hK : ∀ a w, K a w → K' a w) (hp : ∀ c a w, Q (.panic c) a w → Q' (.panic c) a w) (ho : LetsOut Q → LetsOut Q')
    (h : o.wpIn F m P a w K Q) : o.wpIn F m P a w K' Q' := by
  unfold Oper.wpIn at *
  refine ⟨h.1, ?_⟩
  have h := h.2
  generalize (o.semAt F.round a.eval).run P w = r at *
  cases r with
  | ok n w' =>
    cases n <;> simp only [Oper.uponIn] at h ⊢ <;>
      first
        | exact hK _ _ h
        | exact ⟨h.1, CallsIn.mono h.2 (fun e w'' he => by cases e <;> first | exact hK _ _ he | exact hp _ _ _ he | exact ho he)⟩
        | exact ⟨h.1, RowsIn.mono h.2 (fun _ _ he => hK _ _ he)⟩
        | exact ⟨h.1, RoundIn.mono h.2 (fun e w'' he => by cases e <;> first | exact hK _ _ he | exact hp _ _ _ he | exact ho he)⟩
  | halt x w' => cases x <;> simp only [Oper.uponIn] at h ⊢ <;> first | exact hp _ _ _ h | exact h

theorem wpOpIn_of_eff {i : Nat} {o : Oper} {a : Act} {w : World} {N K : Act → World → Prop} (ho : ops[i]? = some o) (go : ∀ a' w', C w' → N a' w' → K a' w') (hq : wpListIn F m P ops (MixPost C N Q) [o] a w) :
    wpOpIn F m P ops Q i (fun a' w' => C w' ∧ K a' w') a w := by
  have go' : ∀ a' w', MixPost C N Q .normal a' w' → C w' ∧ K a' w' := fun a' w' hm => ⟨hm.1, go a' w' hm.1 hm.2⟩
  unfold wpOpIn
  simp only [ho]
  simp only [wpListIn] at hq
  split
  · rename_i hw
    rw [if_pos hw] at hq
    exact wpIn_imp (Q := MixPost C N Q) go' (fun c a w h => False.elim h) (fun ⟨a0, w0, h⟩ => ⟨a0, w0, h⟩) hq
  · rename_i hw
    rw [if_neg hw] at hq
    exact ⟨hq.1, go' _ _ hq.2⟩

theorem imix_lex (hF : ∀ f, F.fn f) {g : Nat} {tail : List Oper} (hg : g = ops.size - n) (hsel : Region.noSelect ops = true) (hndf : noDefer ops = true) (hQ : ∀ c a w, ¬ Q (.panic c) a w)
    (hhead : ∀ i, i < n → ∀ listed, HeadInv md ops n listed → listed.getD i true = false → ∀ j ∈ Region.ready md ops listed, j < n) :
    ∀ (order : List (Nat × Nat)) (listed : Array Bool) (a : Act) (w : World), HeadInv md ops n listed → mixB md ops n order listed = true → C w → wpMixIn F m P ops C Q tail order a w →
      wpAnyInT F m P md ops Q C n (fun listed' a' w' => Region.seqB md ops g n listed' = true ∧ wpListIn F m P ops Q tail a' w') (mixLen order) listed a w
  | [], listed, a, w, _, hB, _, h => ⟨by subst hg; exact hB, h⟩
  | (i, 0) :: r, listed, a, w, inv, hB, hC, h => by
    simp only [mixB, Bool.and_eq_true, decide_eq_true_eq] at hB
    obtain ⟨⟨⟨hin, hr⟩, hf⟩, hB'⟩ := hB
    have hr' : i ∈ Region.ready md ops listed := by simpa using hr
    obtain ⟨o, ho, hp, hq⟩ := h
    obtain ⟨v, hy, hN⟩ := yieldsIf_of hp hq
    exact wpAnyInT_first hF ho (Region.noSelect_spec hsel) (noDefer_spec hndf) (fun c a w h => (hQ c _ _ h).elim) (hhead i hin) (fun listed' a' w' hL => seqB_ready hL.1) (mixLen r) listed a w inv (Region.free_spec ho hf) hr' hy hC
      (imix_lex hF hg hsel hndf hQ hhead r _ _ _ (inv.set hr' hin) hB' hC hN)
  | (i, 1) :: r, listed, a, w, inv, hB, hC, h => by
    simp only [mixB, Bool.and_eq_true, decide_eq_true_eq] at hB
    obtain ⟨⟨hin, hone⟩, hB'⟩ := hB
    have hr' : i ∈ Region.ready md ops listed := by rw [hone]; simp
    obtain ⟨o, ho, hq⟩ := h
    refine ⟨fun h0 => (by rw [h0] at hr'; cases hr'), fun j hj => ?_⟩
    rw [hone] at hj
    obtain rfl : j = i := by simpa using hj
    exact ⟨hin, wpOpIn_of_eff ho (fun a' w' hC' hN => imix_lex hF hg hsel hndf hQ hhead r _ _ _ (inv.set hr' hin) hB' hC' hN) hq⟩
  | (i, j + 2) :: r, listed, a, w, inv, hB, hC, h => by
    simp only [mixB, Bool.and_eq_true, decide_eq_true_eq] at hB
    obtain ⟨⟨⟨⟨⟨hin, hjn⟩, htwo⟩, hi1⟩, hj1⟩, hB'⟩ := hB
    have hri : i ∈ Region.ready md ops listed := by rw [htwo]; simp
    have hrj : j ∈ Region.ready md ops listed := by rw [htwo]; simp
    have hri2 : i ∈ Region.ready md ops (listed.setIfInBounds j true) := by rw [hj1]; simp
    have hrj2 : j ∈ Region.ready md ops (listed.setIfInBounds i true) := by rw [hi1]; simp
    obtain ⟨o, p, ho, hp, hq1, hq2⟩ := h
    have hne : i ≠ j := by
      rintro rfl
      have h1 := (mem_ready.1 hrj2).1
      obtain ⟨h2, o', ho', _⟩ := mem_ready.1 hri
      have hlt : i < listed.size := by rw [inv.size]; exact (Array.getElem?_eq_some_iff.1 ho').1
      simp [hlt] at h1
    refine ⟨fun h0 => (by rw [h0] at hri; cases hri), fun k hk => ?_⟩
    rw [htwo] at hk
    rcases (by simpa using hk : k = i ∨ k = j) with rfl | rfl
    · refine ⟨hin, wpOpIn_of_eff ho (fun a' w' hC' hN => ?_) hq1⟩
      refine ⟨fun h0 => (by rw [h0] at hrj2; cases hrj2), fun m hm => ?_⟩
      rw [hi1] at hm
      obtain rfl : m = j := by simpa using hm
      exact ⟨hjn, wpOpIn_of_eff hp (fun a'' w'' hC'' hN' => imix_lex hF hg hsel hndf hQ hhead r _ _ _ ((inv.set hri hin).set hrj2 hjn) hB' hC'' hN') hN⟩
    · refine ⟨hjn, wpOpIn_of_eff hp (fun a' w' hC' hN => ?_) hq2⟩
      refine ⟨fun h0 => (by rw [h0] at hri2; cases hri2), fun m hm => ?_⟩
      rw [hj1] at hm
      obtain rfl : m = i := by simpa using hm
      exact ⟨hin, wpOpIn_of_eff ho (fun a'' w'' hC'' hN' => imix_lex hF hg hsel hndf hQ hhead r _ _ _ ((inv.set hrj hjn).set hri2 hin) (by rw [Array.setIfInBounds_comm _ _ (Ne.symm hne)]; exact hB') hC'' hN') hN⟩

theorem wpAnyIn_of_seq {Q' : Exit → Act → World → Prop} : ∀ (l : List Oper) (k : Nat) (listed : Array Bool) (a : Act) (w : World), (∀ j, l[j]? = ops[k + j]?) →
    Region.seqB md ops l.length k listed = true → wpListIn F m P ops Q' l a w → wpAnyIn F m P md ops Q' l.length listed a w
  | [], _, _, _, _, _, hB, h => ⟨by simpa [Region.seqB] using hB, h⟩
  | o :: l, k, listed, a, w, hl, hB, h => by
    have h0 : ops[k]? = some o := by simpa using (hl 0).symm
    simp only [List.length_cons, Region.seqB, Bool.and_eq_true, decide_eq_true_eq] at hB
    refine ⟨fun h1 => (by rw [hB.1] at h1; cases h1), fun i hi => ?_⟩
    rw [hB.1] at hi
    have hik : i = k := by simpa using hi
    subst hik
    have hw : wpOpIn F m P ops Q' i (wpListIn F m P ops Q' l) a w := by unfold wpOpIn; simp only [h0]; exact h
    exact wpOpIn_mono (fun a' w' h' => wpAnyIn_of_seq l (i + 1) _ a' w' (fun j => by have := hl (j + 1); simpa [Nat.add_assoc, Nat.add_comm 1 j] using this) hB.2 h') hw

theorem wpIn_region_mix {id : Nat} {a : Act} {w : World} {l : List Oper} (order : List (Nat × Nat)) (n : Nat) (hF : ∀ f, F.fn f) (hm : P.follows .mixedOrders = true) (hB : mixOk l.toArray order n = true) (hN : noDefer l.toArray = true) (hC : C { w with drawn := w.drawn + 1 })
    (h : wpMixIn F m P l.toArray C (NoPanic Q) (l.drop n) order a { w with drawn := w.drawn + 1 }) : (Code.region id l.toArray true).wpIn F m P Q a w := by
  simp only [mixOk, Bool.and_eq_true, Bool.or_eq_true, decide_eq_true_eq] at hB
  obtain ⟨⟨⟨hsel, hn⟩, hlen⟩, hmix⟩ := hB
  have hle : n ≤ l.toArray.size := by rcases hn with h | h <;> omega
  have hdl : (l.drop n).length = l.toArray.size - n := by simp
  have inv0 : HeadInv .any l.toArray n (Array.replicate l.toArray.size false) :=
    ⟨by simp, fun j oj _ hl => (by rw [getD_replicate_false] at hl; cases hl), fun t _ ht => getD_in (by simpa using ht) (getD_replicate_false _ _)⟩
  have hhead : ∀ i, i < n → ∀ listed, HeadInv .any l.toArray n listed → listed.getD i true = false → ∀ j ∈ Region.ready .any l.toArray listed, j < n := by
    intro i hi listed inv hun j hj
    rcases hn with rfl | ⟨⟨hlt, hs⟩, hc⟩
    · obtain ⟨_, o, ho, _⟩ := mem_ready.1 hj
      exact (Array.getElem?_eq_some_iff.1 ho).1
    · rcases Nat.lt_or_ge j n with h | h
      · exact h
      · exact absurd hj (tail_waits hs hc hlt inv _ i rfl hi hun j h)
  refine wpIn_mono (Q := NoPanic Q) (wpIn_region_any hm ?_) NoPanic.imp
  have H := imix_lex hF (md := .any) (g := l.toArray.size - n) rfl hsel hN (fun c a w h => h) hhead order _ a _ inv0 hmix hC h
  have := wpAnyIn_of_T (g := l.toArray.size - n) (fun listed a' w' hL => by
    have := wpAnyIn_of_seq (md := .any) (l.drop n) n listed a' w' (fun j => by simp [List.getElem?_drop]) (by rw [hdl]; exact hL.1) hL.2
    rwa [hdl] at this) _ _ _ _ H
  rw [hlen, show n + (l.toArray.size - n) = l.toArray.size by omega] at this
  exact this

theorem wide_fn : ∀ f, Fence.wide.fn f := fun _ => trivial
theorem wide_round_fn (l : Nat) : ∀ f, (Fence.wide.inRound l).fn f := fun _ => trivial
end
end Sk
