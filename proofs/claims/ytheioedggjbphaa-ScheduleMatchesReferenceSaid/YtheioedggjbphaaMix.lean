/-
  A region that draws its order, walked once, in an order of our own choosing: reads and reckoning (quiet, in every world of a class), calls and other operations that make memory (each the only one that may come up), and a forced tail. No program in sight.
-/
import Derived.OrdersHeld
import Derived.StillTail
import Derived.Deep.RegionHeld3
import Derived.Deep.Quiet
import Derived.BigQuiet
import Derived.Lib.QuietBelow
namespace Sk
open Go Go.RowKit Go.Sort

section
variable {P : Program} {ops : Array Oper} {md : Region.Mode} {C : World → Prop} {Q : Exit → Act → World → Prop} {n : Nat}

/-- no call of a Go function, no store, no deferred call, no communication: an operation that hands back a value -/
def plainOp (o : Op) : Bool := match o with
  | .call { callee := .builtin .len, .. } | .call { callee := .builtin .cap, .. } | .call { callee := .builtin .min, .. } | .call { callee := .builtin .max, .. } => true
  | .call _ | .go _ | .defer _ | .select .. | .send .. | .recv .. | .store .. | .ready _ | .mapUpdate .. | .insert .. | .entryStore .. => false
  | _ => true

theorem plain_value {w w' : World} {nx : Next} (s : Sem Value) (hs : ((do pure (Next.value (← s)) : Sem Next)).run P w = .ok nx w') : ∃ v, nx = .value v := by
  simp only [Sem.run_bind] at hs
  cases hq : s.run P w with
  | ok v w2 => rw [hq] at hs; simp [Result.andThen] at hs; exact ⟨v, hs.1.symm⟩
  | halt x w2 => rw [hq] at hs; simp [Result.andThen] at hs
theorem plain_bind {α : Type} {w w' : World} {nx : Next} {s : Sem α} {f : α → Sem Next} (hf : ∀ a w, (f a).run P w = .ok nx w' → ∃ v, nx = .value v) (hs : (s >>= f).run P w = .ok nx w') : ∃ v, nx = .value v := by
  simp only [Sem.run_bind] at hs
  cases hq : s.run P w with
  | ok v w2 => rw [hq] at hs; exact hf _ _ hs
  | halt x w2 => rw [hq] at hs; simp [Result.andThen] at hs

theorem plain_next {ρ : Operand → Value} {o : Oper} {w w' : World} {nx : Next} (h : plainOp o.op = true) (hr : (execOp ρ o).run P w = .ok nx w') : ∃ v, nx = .value v := by
  cases ho : o.op with
  | call c =>
    obtain ⟨callee, args, ts⟩ := c
    cases callee with
    | builtin b =>
      cases b <;> simp only [ho, plainOp] at h <;> first | (cases h; done) | skip
      all_goals
        simp only [execOp, ho, resolve, Sem.run_bind, Sem.run_pure, Result.andThen, invoke, builtin] at hr
        split at hr
        · simp only [Result.ok.injEq] at hr; exact ⟨_, hr.1.symm⟩
        · cases hr
    | value f => simp [ho, plainOp] at h
    | invoke r m => simp [ho, plainOp] at h
  | nilCheck x =>
    simp only [execOp, ho] at hr
    split at hr
    case h_4 =>
      split at hr
      · simp [runtimePanic] at hr
      · refine plain_bind (fun a w hr => ?_) hr
        refine plain_bind (fun a w hr => ?_) hr
        split at hr
        · refine plain_bind (fun a w hr => ?_) hr
          simp only [Sem.run_pure, Result.ok.injEq] at hr; exact ⟨_, hr.1.symm⟩
        · simp only [Sem.run_pure, Result.ok.injEq] at hr; exact ⟨_, hr.1.symm⟩
      · simp only [Sem.run_pure, Result.ok.injEq] at hr; exact ⟨_, hr.1.symm⟩
    case h_5 => simp only [Sem.run_pure, Result.ok.injEq] at hr; exact ⟨_, hr.1.symm⟩
    all_goals (simp [runtimePanic] at hr)
  | _ =>
    simp only [ho, plainOp] at h <;> simp only [execOp, ho] at hr <;>
    first
      | exact plain_value _ hr
      | (cases h; done)
      | (refine plain_bind (fun a w hr => ?_) hr; simp only [Sem.run_pure, Result.ok.injEq] at hr; exact ⟨_, hr.1.symm⟩)
      | (simp only [Sem.run_pure, Result.ok.injEq] at hr; exact ⟨_, hr.1.symm⟩)

/-- behind an operation that makes memory: the class is met anew, and the rest follows -/
def MixPost (C : World → Prop) (N : Act → World → Prop) (Q : Exit → Act → World → Prop) : Exit → Act → World → Prop
  | .normal, a, w => C w ∧ N a w
  | .outgrown, a, w => Q .outgrown a w
  | _, _, _ => False
theorem MixPost.intro {N : Act → World → Prop} {a : Act} {w : World} (h1 : C w) (h2 : N a w) : MixPost C N Q .normal a w := ⟨h1, h2⟩

/-- the walk in the order that is handed in: an index with 0: quiet; with 1: whatever else, alone; with k + 2: this one and number k, in either order -/
def wpMix (P : Program) (ops : Array Oper) (C : World → Prop) (Q : Exit → Act → World → Prop) (tail : List Oper) : List (Nat × Nat) → Act → World → Prop
  | [], a, w => wpList P ops Q tail a w
  | (i, 0) :: r, a, w => ∃ o, ops[i]? = some o ∧ plainOp o.op = true ∧ wpQuiet P ops C (fun a' => wpMix P ops C Q tail r a' w) [o] a
  | (i, 1) :: r, a, w => ∃ o, ops[i]? = some o ∧ wpList P ops (MixPost C (wpMix P ops C Q tail r) Q) [o] a w
  | (i, j + 2) :: r, a, w => ∃ o p, ops[i]? = some o ∧ ops[j]? = some p ∧ wpList P ops (MixPost C (fun a' w' => wpList P ops (MixPost C (wpMix P ops C Q tail r) Q) [p] a' w') Q) [o] a w ∧
      wpList P ops (MixPost C (fun a' w' => wpList P ops (MixPost C (wpMix P ops C Q tail r) Q) [o] a' w') Q) [p] a w

theorem wpMix_nil {tail : List Oper} {a : Act} {w : World} (h : wpList P ops Q tail a w) : wpMix P ops C Q tail [] a w := h
theorem wpMix_quiet {tail : List Oper} {a : Act} {w : World} {i : Nat} {r : List (Nat × Nat)} {o : Oper} (ho : ops[i]? = some o) (hp : plainOp o.op = true) (h : wpQuiet P ops C (fun a' => wpMix P ops C Q tail r a' w) [o] a) :
    wpMix P ops C Q tail ((i, 0) :: r) a w := ⟨o, ho, hp, h⟩
theorem wpMix_eff {tail : List Oper} {a : Act} {w : World} {i : Nat} {r : List (Nat × Nat)} {o : Oper} (ho : ops[i]? = some o) (h : wpList P ops (MixPost C (wpMix P ops C Q tail r) Q) [o] a w) :
    wpMix P ops C Q tail ((i, 1) :: r) a w := ⟨o, ho, h⟩
theorem wpMix_pair {tail : List Oper} {a : Act} {w : World} {i j : Nat} {r : List (Nat × Nat)} {o p : Oper} (ho : ops[i]? = some o) (hp : ops[j]? = some p)
    (h1 : wpList P ops (MixPost C (fun a' w' => wpList P ops (MixPost C (wpMix P ops C Q tail r) Q) [p] a' w') Q) [o] a w)
    (h2 : wpList P ops (MixPost C (fun a' w' => wpList P ops (MixPost C (wpMix P ops C Q tail r) Q) [o] a' w') Q) [p] a w) : wpMix P ops C Q tail ((i, j + 2) :: r) a w := ⟨o, p, ho, hp, h1, h2⟩

/-- number i of a list that is written out -/
def pick : List Oper → Nat → Option Oper
  | [], _ => none
  | o :: _, 0 => some o
  | _ :: l, i + 1 => pick l i
theorem pick_eq : ∀ (l : List Oper) (i : Nat), pick l i = l.toArray[i]?
  | [], i => by simp [pick]
  | o :: l, 0 => by simp [pick]
  | o :: l, i + 1 => by rw [pick, pick_eq l i]; simp
section
variable {l tail : List Oper} {a : Act} {w : World} {i j : Nat} {r : List (Nat × Nat)} {o p : Oper}
theorem mix_q (ho : pick l i = some o) (hp : plainOp o.op = true) (h : wpQuiet P l.toArray C (fun a' => wpMix P l.toArray C Q tail r a' w) [o] a) : wpMix P l.toArray C Q tail ((i, 0) :: r) a w := wpMix_quiet (by rw [← pick_eq]; exact ho) hp h
theorem mix_e (ho : pick l i = some o) (h : wpList P l.toArray (MixPost C (wpMix P l.toArray C Q tail r) Q) [o] a w) : wpMix P l.toArray C Q tail ((i, 1) :: r) a w := wpMix_eff (by rw [← pick_eq]; exact ho) h
theorem mix_p (ho : pick l i = some o) (hp : pick l j = some p)
    (h1 : wpList P l.toArray (MixPost C (fun a' w' => wpList P l.toArray (MixPost C (wpMix P l.toArray C Q tail r) Q) [p] a' w') Q) [o] a w)
    (h2 : wpList P l.toArray (MixPost C (fun a' w' => wpList P l.toArray (MixPost C (wpMix P l.toArray C Q tail r) Q) [o] a' w') Q) [p] a w) : wpMix P l.toArray C Q tail ((i, j + 2) :: r) a w :=
  wpMix_pair (by rw [← pick_eq]; exact ho) (by rw [← pick_eq]; exact hp) h1 h2
end

/-- the check of an order: 'n': where the forced tail begins -/
def mixB (md : Region.Mode) (ops : Array Oper) (n : Nat) : List (Nat × Nat) → Array Bool → Bool
  | [], listed => Region.seqB md ops (ops.size - n) n listed
  | (i, 0) :: r, listed => decide (i < n) && (Region.ready md ops listed).contains i && Region.free md ops listed i && mixB md ops n r (listed.setIfInBounds i true)
  | (i, 1) :: r, listed => decide (i < n) && decide (Region.ready md ops listed = [i]) && mixB md ops n r (listed.setIfInBounds i true)
  | (i, j + 2) :: r, listed => decide (i < n) && decide (j < n) && decide (Region.ready md ops listed = [i, j]) && decide (Region.ready md ops (listed.setIfInBounds i true) = [j]) &&
      decide (Region.ready md ops (listed.setIfInBounds j true) = [i]) && mixB md ops n r ((listed.setIfInBounds i true).setIfInBounds j true)

/-- how many operations an order takes -/
def mixLen : List (Nat × Nat) → Nat
  | [] => 0
  | (_, 0) :: r => mixLen r + 1
  | (_, 1) :: r => mixLen r + 1
  | (_, _ + 2) :: r => mixLen r + 2

def wpAnyT (P : Program) (md : Region.Mode) (ops : Array Oper) (Q : Exit → Act → World → Prop) (S : World → Prop) (n : Nat) (L : Array Bool → Act → World → Prop) : Nat → Array Bool → Act → World → Prop
  | 0, listed, a, w => L listed a w
  | f + 1, listed, a, w => Region.ready md ops listed ≠ [] ∧ ∀ i ∈ Region.ready md ops listed, i < n ∧ wpOp P ops Q i (fun a' w' => S w' ∧ wpAnyT P md ops Q S n L f (listed.setIfInBounds i true) a' w') a w

theorem wpAny_of_T {S : World → Prop} {L : Array Bool → Act → World → Prop} {g : Nat} (hL : ∀ listed a w, L listed a w → wpAny P md ops Q g listed a w) :
    ∀ (f : Nat) (listed : Array Bool) (a : Act) (w : World), wpAnyT P md ops Q S n L f listed a w → wpAny P md ops Q (f + g) listed a w
  | 0, listed, a, w, h => by rw [Nat.zero_add]; exact hL _ _ _ h
  | f + 1, listed, a, w, h => by
    rw [show f + 1 + g = (f + g) + 1 by omega]
    exact ⟨fun h0 => absurd h0 h.1, fun i hi => wpOp_mono (fun a' w' h' => wpAny_of_T hL f _ a' w' h'.2) (h.2 i hi).2⟩

theorem wpAnyT_first {S : World → Prop} {L : Array Bool → Act → World → Prop} {i : Nat} {oi : Oper} {v : Value} (hi : ops[i]? = some oi) (hsel : ∀ (j : Nat) (o : Oper) cs b, ops[j]? = some o → o.op ≠ .select cs b)
    (hQ : ∀ c a w, Q (.panic c) (a.put oi.dst v) w → Q (.panic c) a w)
    (hhead : ∀ listed, HeadInv md ops n listed → listed.getD i true = false → ∀ j ∈ Region.ready md ops listed, j < n)
    (hdone : ∀ listed a w, L listed a w → ∀ j ∈ Region.ready md ops listed, n ≤ j) :
    ∀ (f : Nat) (listed : Array Bool) (a : Act) (w : World), HeadInv md ops n listed →
      (∀ j oj, ops[j]? = some oj → j ≠ i → listed.getD j true = false → (∀ e ∈ oj.after, Region.binds md e = true → e.on ≠ i) → oi.apart ops oj = true) →
      i ∈ Region.ready md ops listed → YieldsIf P ops S oi v a → S w →
      wpAnyT P md ops Q S n L f (listed.setIfInBounds i true) (a.put oi.dst v) w → wpAnyT P md ops Q S n L (f + 1) listed a w := by
  intro f
  induction f with
  | zero =>
    intro listed a w inv _ hr hy hS H
    have hun := (mem_ready.1 hr).1
    refine ⟨fun h => (by rw [h] at hr; cases hr), fun j hj => ?_⟩
    have hjn := hhead listed inv hun j hj
    refine ⟨hjn, ?_⟩
    by_cases hji : j = i
    · subst hji; exact hy.wpOp hi hS ⟨hS, H⟩
    · have := hdone _ _ _ H j (ready_mono hj hji)
      omega
  | succ f ih =>
    intro listed a w inv hfree hr hy hS H
    have hun := (mem_ready.1 hr).1
    refine ⟨fun h => (by rw [h] at hr; cases hr), fun j hj => ?_⟩
    have hjn := hhead listed inv hun j hj
    refine ⟨hjn, ?_⟩
    by_cases hji : j = i
    · subst hji; exact hy.wpOp hi hS ⟨hS, H⟩
    · have h1 := (H.2 j (ready_mono hj hji)).2
      obtain ⟨hjun, oj, hoj, hall⟩ := mem_ready.1 hj
      have hnot : ∀ e ∈ oj.after, Region.binds md e = true → e.on ≠ i := fun e he hb heq => by
        have h1 := hall e he hb
        rw [heq, getD_both hun] at h1
        cases h1
      have h2 := wpOp_putIf hoj (hfree j oj hoj hji hjun hnot) (fun cs b => hsel i oi cs b hi) (fun cs b => hsel j oj cs b hoj) hQ hy h1
      have hfree' : ∀ k ok, ops[k]? = some ok → k ≠ i → (listed.setIfInBounds j true).getD k true = false →
          (∀ e ∈ ok.after, Region.binds md e = true → e.on ≠ i) → oi.apart ops ok = true := fun k ok hk hki hun hno => by
        refine hfree k ok hk hki ?_ hno
        by_cases hjk : j = k
        · subst hjk; exact hjun
        · rw [getD_set_ne true hjk] at hun; exact hun
      refine wpOp_mono (fun a' w' h3 => ⟨h3.2.1, ih (listed.setIfInBounds j true) a' w' (inv.set hj hjn) hfree' (ready_mono hr (Ne.symm hji)) h3.1 h3.2.1 ?_⟩) h2
      rw [Array.setIfInBounds_comm _ _ hji]
      exact h3.2.2

theorem wp_imp {o : Oper} {a : Act} {w : World} {K K' : Act → World → Prop} {Q Q' : Exit → Act → World → Prop} (hK : ∀ a w, K a w → K' a w) (hp : ∀ c a w, Q (.panic c) a w → Q' (.panic c) a w) (ho : LetsOut Q → LetsOut Q')
    (h : o.wp P a w K Q) : o.wp P a w K' Q' := by
  unfold Oper.wp at *
  generalize (execOp a.eval o).run P w = r at *
  cases r with
  | ok n w' =>
    cases n <;> simp only [Oper.upon] at h ⊢ <;>
      first
        | exact hK _ _ h
        | exact Calls.mono h (fun e w'' he => by cases e <;> first | exact hK _ _ he | exact hp _ _ _ he | exact ho he)
        | exact Rows.mono h (fun _ _ he => hK _ _ he)
  | halt x w' => cases x <;> simp only [Oper.upon] at h ⊢ <;> first | exact hp _ _ _ h | exact h

theorem yieldsIf_of {o : Oper} {a : Act} {N : Act → Prop} (hp : plainOp o.op = true) (h : wpQuiet P ops C N [o] a) : ∃ v, YieldsIf P ops C o v a ∧ N (a.put o.dst v) := by
  unfold wpQuiet at h
  split at h
  · rename_i hw
    obtain ⟨v, h1, h2⟩ := h
    refine ⟨v, .inl ⟨hw, fun W hW => ?_⟩, h2⟩
    have h3 := h1 W hW
    unfold Oper.quietAt at h3
    cases hr : (execOp a.eval o).run P W with
    | ok nx W' =>
      obtain ⟨u, rfl⟩ := plain_next hp hr
      rw [hr] at h3
      obtain ⟨rfl, rfl⟩ := h3
      rfl
    | halt x W' => rw [hr] at h3; exact h3.elim
  · rename_i hw
    exact ⟨undef, .inr ⟨by simpa using hw, rfl⟩, h⟩

theorem wpOp_of_eff {i : Nat} {o : Oper} {a : Act} {w : World} {N K : Act → World → Prop} (ho : ops[i]? = some o) (go : ∀ a' w', C w' → N a' w' → K a' w') (hq : wpList P ops (MixPost C N Q) [o] a w) :
    wpOp P ops Q i (fun a' w' => C w' ∧ K a' w') a w := by
  have go' : ∀ a' w', MixPost C N Q .normal a' w' → C w' ∧ K a' w' := fun a' w' hm => ⟨hm.1, go a' w' hm.1 hm.2⟩
  unfold wpOp
  simp only [ho]
  simp only [wpList] at hq
  split
  · rename_i hw
    rw [if_pos hw] at hq
    rcases hq with hq | ⟨h1, a0, w0, h2⟩
    · exact .inl (wp_imp (Q := MixPost C N Q) go' (fun c a w h => False.elim h) (fun ⟨a0, w0, h⟩ => ⟨a0, w0, h⟩) hq)
    · exact .inr ⟨h1, a0, w0, h2⟩
  · rename_i hw
    rw [if_neg hw] at hq
    exact go' _ _ hq

theorem mix_lex {g : Nat} {tail : List Oper} (hg : g = ops.size - n) (hsel : Region.noSelect ops = true) (hQ : ∀ c a w, ¬ Q (.panic c) a w)
    (hhead : ∀ i, i < n → ∀ listed, HeadInv md ops n listed → listed.getD i true = false → ∀ j ∈ Region.ready md ops listed, j < n) :
    ∀ (order : List (Nat × Nat)) (listed : Array Bool) (a : Act) (w : World), HeadInv md ops n listed → mixB md ops n order listed = true → C w → wpMix P ops C Q tail order a w →
      wpAnyT P md ops Q C n (fun listed' a' w' => Region.seqB md ops g n listed' = true ∧ wpList P ops Q tail a' w') (mixLen order) listed a w
  | [], listed, a, w, _, hB, _, h => ⟨by subst hg; exact hB, h⟩
  | (i, 0) :: r, listed, a, w, inv, hB, hC, h => by
    simp only [mixB, Bool.and_eq_true, decide_eq_true_eq] at hB
    obtain ⟨⟨⟨hin, hr⟩, hf⟩, hB'⟩ := hB
    have hr' : i ∈ Region.ready md ops listed := by simpa using hr
    obtain ⟨o, ho, hp, hq⟩ := h
    obtain ⟨v, hy, hN⟩ := yieldsIf_of hp hq
    exact wpAnyT_first ho (Region.noSelect_spec hsel) (fun c a w h => (hQ c _ _ h).elim) (hhead i hin) (fun listed' a' w' hL => seqB_ready hL.1) (mixLen r) listed a w inv (Region.free_spec ho hf) hr' hy hC
      (mix_lex hg hsel hQ hhead r _ _ _ (inv.set hr' hin) hB' hC hN)
  | (i, 1) :: r, listed, a, w, inv, hB, hC, h => by
    simp only [mixB, Bool.and_eq_true, decide_eq_true_eq] at hB
    obtain ⟨⟨hin, hone⟩, hB'⟩ := hB
    have hr' : i ∈ Region.ready md ops listed := by rw [hone]; simp
    obtain ⟨o, ho, hq⟩ := h
    refine ⟨fun h0 => (by rw [h0] at hr'; cases hr'), fun j hj => ?_⟩
    rw [hone] at hj
    obtain rfl : j = i := by simpa using hj
    exact ⟨hin, wpOp_of_eff ho (fun a' w' hC' hN => mix_lex hg hsel hQ hhead r _ _ _ (inv.set hr' hin) hB' hC' hN) hq⟩
  | (i, j + 2) :: r, listed, a, w, inv, hB, hC, h => by
    simp only [mixB, Bool.and_eq_true, decide_eq_true_eq] at hB
    obtain ⟨⟨⟨⟨⟨hin, hjn⟩, htwo⟩, hi1⟩, hj1⟩, hB'⟩ := hB
    have hri : i ∈ Region.ready md ops listed := by rw [htwo]; simp
    have hrj : j ∈ Region.ready md ops listed := by rw [htwo]; simp
    have hri2 : i ∈ Region.ready md ops (listed.setIfInBounds j true) := by rw [hj1]; simp
    have hrj2 : j ∈ Region.ready md ops (listed.setIfInBounds i true) := by rw [hi1]; simp
    obtain ⟨o, p, ho, hp, hq1, hq2⟩ := h
    have hne : i ≠ j := by
      rintro rfl
      have h1 := (mem_ready.1 hrj2).1
      obtain ⟨h2, o', ho', _⟩ := mem_ready.1 hri
      have hlt : i < listed.size := by rw [inv.size]; exact (Array.getElem?_eq_some_iff.1 ho').1
      simp [hlt] at h1
    refine ⟨fun h0 => (by rw [h0] at hri; cases hri), fun k hk => ?_⟩
    rw [htwo] at hk
    rcases (by simpa using hk : k = i ∨ k = j) with rfl | rfl
    · refine ⟨hin, wpOp_of_eff ho (fun a' w' hC' hN => ?_) hq1⟩
      refine ⟨fun h0 => (by rw [h0] at hrj2; cases hrj2), fun m hm => ?_⟩
      rw [hi1] at hm
      obtain rfl : m = j := by simpa using hm
      exact ⟨hjn, wpOp_of_eff hp (fun a'' w'' hC'' hN' => mix_lex hg hsel hQ hhead r _ _ _ ((inv.set hri hin).set hrj2 hjn) hB' hC'' hN') hN⟩
    · refine ⟨hjn, wpOp_of_eff hp (fun a' w' hC' hN => ?_) hq2⟩
      refine ⟨fun h0 => (by rw [h0] at hri2; cases hri2), fun m hm => ?_⟩
      rw [hj1] at hm
      obtain rfl : m = i := by simpa using hm
      exact ⟨hin, wpOp_of_eff ho (fun a'' w'' hC'' hN' => mix_lex hg hsel hQ hhead r _ _ _ ((inv.set hrj hjn).set hri2 hin) (by rw [Array.setIfInBounds_comm _ _ (Ne.symm hne)]; exact hB') hC'' hN') hN⟩

/-- the whole check, for the kernel -/
def mixOk (ops : Array Oper) (order : List (Nat × Nat)) (n : Nat) : Bool :=
  Region.noSelect ops && (decide (n = ops.size) || (decide (n < ops.size) && Region.sinkB .any ops n && Region.chainB .any ops n)) && decide (mixLen order = n) && mixB .any ops n order (Array.replicate ops.size false)

theorem wp_region_mix {id : Nat} {a : Act} {w : World} {l : List Oper} (order : List (Nat × Nat)) (n : Nat) (hm : P.follows .mixedOrders = true) (hB : mixOk l.toArray order n = true) (hC : C { w with drawn := w.drawn + 1 })
    (h : wpMix P l.toArray C (NoPanic Q) (l.drop n) order a { w with drawn := w.drawn + 1 }) : (Code.region id l.toArray true).wp P Q a w := by
  simp only [mixOk, Bool.and_eq_true, Bool.or_eq_true, decide_eq_true_eq] at hB
  obtain ⟨⟨⟨hsel, hn⟩, hlen⟩, hmix⟩ := hB
  have hle : n ≤ l.toArray.size := by rcases hn with h | h <;> omega
  have hdl : (l.drop n).length = l.toArray.size - n := by simp
  have inv0 : HeadInv .any l.toArray n (Array.replicate l.toArray.size false) :=
    ⟨by simp, fun j oj _ hl => (by rw [getD_replicate_false] at hl; cases hl), fun t _ ht => getD_in (by simpa using ht) (getD_replicate_false _ _)⟩
  have hhead : ∀ i, i < n → ∀ listed, HeadInv .any l.toArray n listed → listed.getD i true = false → ∀ j ∈ Region.ready .any l.toArray listed, j < n := by
    intro i hi listed inv hun j hj
    rcases hn with rfl | ⟨⟨hlt, hs⟩, hc⟩
    · obtain ⟨_, o, ho, _⟩ := mem_ready.1 hj
      exact (Array.getElem?_eq_some_iff.1 ho).1
    · rcases Nat.lt_or_ge j n with h | h
      · exact h
      · exact absurd hj (tail_waits hs hc hlt inv _ i rfl hi hun j h)
  refine wp_region_noPanic (wp_region_any hm ?_)
  have H := mix_lex (md := .any) (g := l.toArray.size - n) rfl hsel (fun c a w h => h) hhead order _ a _ inv0 hmix hC h
  have := wpAny_of_T (g := l.toArray.size - n) (fun listed a' w' hL => by
    have := wpAny_of_seq (md := .any) (l.drop n) n listed a' w' (fun j => by simp [List.getElem?_drop]) (by rw [hdl]; exact hL.1) hL.2
    rwa [hdl] at this) _ _ _ _ H
  rw [hlen, show n + (l.toArray.size - n) = l.toArray.size by omega] at this
  exact this

/-- the class: the region's first world, with draws and with new blocks behind it -/
def Grew (w : World) : World → Prop := fun w' => ∃ p : Regrown, w' = grow (redrawn w p.d) p.os
theorem grew_of_below {w w' : World} (h : Below w.heap.size w w') : Grew w w' := regrown_of_below h
theorem grew_drew (w : World) : Grew w { w with drawn := w.drawn + 1 } := grew_of_below ⟨rfl, rfl, rfl, Nat.le_refl _, fun _ _ => rfl⟩
end
end Sk
