/-
  The layer 'eyes': a state as a map of the call's own; the table of deeds.
-/
import Derived.Maps.OwnSet
import Derived.Maps.OwnOps
import Derived.Maps.RangeWalk
import Derived.Maps.Views
import Derived.Test.YtmbnhlihcnbebaaEyE
set_option linter.unusedVariables false
namespace Go.Proofs.Ytmbnhlihcnbebaa
open Go Go.RowKit Ey Sk

/-- an int64 -/
def I64 (x : Int) : Prop := (Lit.int .i64 x).wf = true
theorem i64_of {x : Int} (h1 : -9223372036854775808 ≤ x) (h2 : x ≤ 9223372036854775807) : I64 x := by
  unfold I64
  simp only [Lit.wf, Bool.and_eq_true, decide_eq_true_eq]
  exact ⟨h1, h2⟩
theorem lawI : Maps.Keyed Try.prog 3 := Maps.int_keyed Try.underlying3
theorem keyI {x : Int} (h : I64 x) : keyOf Try.prog 3 (.int .i64 x) = some (.int .i64 x) := Maps.keyOf_int_mk Try.underlying3 h
theorem key_int_inv {key : Value} {kl : Lit} (h : keyOf Try.prog 3 key = some kl) : ∃ x, key = .int .i64 x ∧ kl = .int .i64 x ∧ I64 x := Maps.keyOf_int_inv Try.underlying3 h
theorem kli (x : Int) : WideAt.IsKeyLit (.int .i64 x) := trivial

/-- a danger as a datum -/
def tokD (d : Dg) : DataW Unit := .agg [.lit (.int .i64 d.id), .lit (.bool d.told), .lit (.int .i64 d.area.a), .lit (.int .i64 d.area.b), .lit (.int .i64 d.area.c), .lit (.int .i64 d.area.d), .lit (.int .i64 d.prop), .lit (.bool d.drop), .lit (.int .i64 d.next.a), .lit (.int .i64 d.next.b), .lit (.int .i64 d.next.c), .lit (.int .i64 d.next.d)]
theorem tokD_inj {d e : Dg} (h : tokD d = tokD e) : d = e := by
  obtain ⟨d0, d1, ⟨d2, d3, d4, d5⟩, d6, d7, ⟨d8, d9, d10, d11⟩⟩ := d
  obtain ⟨e0, e1, ⟨e2, e3, e4, e5⟩, e6, e7, ⟨e8, e9, e10, e11⟩⟩ := e
  simp [tokD] at h
  simp [h]
theorem eD_inj {d e : Dg} (h : eD d = eD e) : d = e := by
  obtain ⟨d0, d1, ⟨d2, d3, d4, d5⟩, d6, d7, ⟨d8, d9, d10, d11⟩⟩ := d
  obtain ⟨e0, e1, ⟨e2, e3, e4, e5⟩, e6, e7, ⟨e8, e9, e10, e11⟩⟩ := e
  simp [eD] at h
  simp [h]
open Classical in
noncomputable def rdD (v : Value) : Option (DataW Unit × List MemPlace) := if h : ∃ d, v = eD d then some (tokD (Classical.choose h), []) else none
theorem rdD_mk (d : Dg) : rdD (eD d) = some (tokD d, []) := by
  have h : ∃ e, eD d = eD e := ⟨d, rfl⟩
  unfold rdD
  rw [dif_pos h, eD_inj (Classical.choose_spec h).symm]
theorem rdD_inv {v : Value} {d : Dg} {ps : List MemPlace} (h : rdD v = some (tokD d, ps)) : v = eD d := by
  unfold rdD at h
  split at h
  · rename_i hx
    simp only [Option.some.injEq, Prod.mk.injEq] at h
    rw [← tokD_inj h.1]
    exact Classical.choose_spec hx
  · cases h
theorem rdD_any {v : Value} {z : DataW Unit × List MemPlace} (h : rdD v = some z) : ∃ d, v = eD d ∧ z = (tokD d, []) := by
  unfold rdD at h
  split at h
  · rename_i hx
    cases h
    exact ⟨_, Classical.choose_spec hx, rfl⟩
  · cases h
theorem zeroD (w : World) : (zeroValue 33).run Try.prog w = .ok (eD dg0) w := by kernel_rfl

/-- block b is a map of at most n entries that holds the dangers of L -/
def StOf (w : World) (b n : Nat) (L : List Dg) : Prop :=
  Sor L ∧ (∀ d ∈ L, I64 d.id) ∧ ∃ D : DataW Unit, w.ownsMap Try.prog 3 rdD b n D ∧ (∀ x, I64 x → Maps.has D (.int .i64 x) = (fnd L x).isSome) ∧ ∀ x, I64 x → D.atKey (.int .i64 x) (tokD dg0) = tokD (gt L x)
theorem StOf.made (w : World) : StOf (w.alloc (.map #[] 0)) w.heap.size 0 [] := ⟨List.Pairwise.nil, fun d h => (by cases h), .map [], World.ownsMap_made _ _ _ _, fun x _ => rfl, fun x _ => rfl⟩
section
variable {w w' : World} {b n : Nat} {L : List Dg}
theorem StOf.lt (h : StOf w b n L) : b < w.heap.size := by obtain ⟨_, _, D, h, _⟩ := h; exact h.lt
theorem StOf.mono (h : StOf w b n L) {n' : Nat} (hn : n ≤ n') : StOf w b n' L := by obtain ⟨h1, h2, D, h, r⟩ := h; exact ⟨h1, h2, D, h.mono hn, r⟩
theorem StOf.kept {row : Option Nat} (h : StOf w b n L) (hg : w.grownBy w' row) (hne : some b ≠ row) : StOf w' b n L := by obtain ⟨h1, h2, D, h, r⟩ := h; exact ⟨h1, h2, D, h.kept hg hne, r⟩
theorem StOf.low {B : Nat} (h : StOf w b n L) (hb : Below B w w') (hlt : b < B) : StOf w' b n L := by
  obtain ⟨a1, a2, D, ⟨es, clock, h1, h2⟩, r⟩ := h
  exact ⟨a1, a2, D, ⟨es, clock, (hb.block b hlt).trans h1, h2⟩, r⟩
theorem StOf.below (h : StOf w b n L) (hb : Below w.heap.size w w') : StOf w' b n L := h.low hb h.lt
theorem StOf.alloc (h : StOf w b n L) (o : Obj) : StOf (w.alloc o) b n L := by obtain ⟨h1, h2, D, h, r⟩ := h; exact ⟨h1, h2, D, h.alloc o, r⟩
theorem StOf.drew (h : StOf w b n L) : StOf w.drew b n L := h
theorem StOf.setCell (h : StOf w b n L) {a : Addr} (ha : b ≠ a.block) (u : Value) : StOf (w.setCell a u) b n L := by obtain ⟨h1, h2, D, h, r⟩ := h; exact ⟨h1, h2, D, h.setCell ha u, r⟩
theorem StOf.look (h : StOf w b n L) {x : Int} (hx : I64 x) : (Instr.lookup 70 (.map (some b)) (.int .i64 x) false).run Try.prog w = .ok (eD (gt L x)) w := by
  obtain ⟨_, _, D, h, _, r⟩ := h
  obtain ⟨u, ps, hrun, hu⟩ := h.lookup lawI Try.underlying70 (zeroD w) (rdD_mk dg0) (keyI hx)
  rw [r x hx] at hu
  rw [rdD_inv hu] at hrun
  exact hrun
end
theorem I64.num {x : Int} (h : numB x = true) : I64 x := by
  simp [numB] at h
  exact i64_of (by omega) (by omega)

section
variable {w : World} {ops : Array Oper} {rest : List Oper} {o : Oper} {a : Act} {Q : Exit → Act → World → Prop}
/-- 's[d.ID] = d' -/
theorem wpList_put_st (hg : o.guard = none) (m x v : Operand) (hop : o.op = Op.mapUpdate 70 m x v) (b n : Nat) (L : List Dg)
    (hm : a.eval m = .map (some b)) (h : StOf w b n L) (hn : n < maxLen) (y : Int) (d : Dg) (hx : a.eval x = .int .i64 y) (hv : a.eval v = eD d) (hy : I64 y) (hd : d.id = y)
    (hK : ∀ w', StOf w' b (n + 1) (pt L d) → w.grownBy w' (some b) → wpList Try.prog ops Q rest (a.put o.dst undef) w') :
    wpList Try.prog ops Q (o :: rest) a w := by
  obtain ⟨h0, h00, D, h1, h2, h3⟩ := h
  have hD := h1.isMap
  refine wpList_mapUpdate_own w hg m x v 70 hop 3 33 lawI Try.underlying70 _ b n D hm h1 hn _ _ _ hx hv (keyI hy) _ [] (rdD_mk d) ?_
  intro w' h4 h5
  refine hK w' ⟨h0.pt d, fun e he => ?_, _, h4, fun z hz => ?_, fun z hz => ?_⟩ h5
  · unfold pt at he
    rcases List.mem_append.1 he with he | he
    · exact h00 e (List.mem_filter.1 he).1
    · rcases List.mem_cons.1 he with rfl | he
      · rw [hd]; exact hy
      · exact h00 e (List.mem_filter.1 he).1
  · rw [fnd_pt, hd]
    by_cases e : z = y
    · subst e
      rw [Maps.has_put_same hD (kli _), if_pos rfl]; rfl
    · rw [Maps.has_put_other (by simp; omega), h2 z hz, if_neg e]
  · rw [gt_pt, hd]
    by_cases e : z = y
    · subst e
      rw [Maps.atKey_put_same hD (kli _), if_pos rfl]
    · rw [Maps.atKey_put_other (by simp; omega), h3 z hz, if_neg e]
/-- 'delete(s, y)' -/
theorem wpList_del_st (hg : o.guard = none) (m x : Operand) (hop : o.op = Op.call { callee := Callee.builtin Builtin.delete, args := #[m, x], argTypes := #[70, 3] }) (b n : Nat) (L : List Dg)
    (hm : a.eval m = .map (some b)) (h : StOf w b n L) (y : Int) (hx : a.eval x = .int .i64 y) (hy : I64 y)
    (hK : ∀ w', StOf w' b n (dl L y) → w.grownBy w' (some b) → wpList Try.prog ops Q rest (a.put o.dst (.tuple #[])) w') :
    wpList Try.prog ops Q (o :: rest) a w := by
  obtain ⟨h0, h00, D, h1, h2, h3⟩ := h
  refine wpList_delete_own w hg m x 70 3 hop 33 lawI Try.underlying70 _ b n D hm h1 _ _ hx (keyI hy) ?_
  intro w' h4 h5
  refine hK w' ⟨h0.dl y, fun e he => h00 e (List.mem_filter.1 he).1, _, h4, fun z hz => ?_, fun z hz => ?_⟩ h5.grown
  · rw [fnd_dl]
    by_cases e : z = y
    · subst e
      rw [Maps.has_del_same, if_pos rfl]; rfl
    · rw [Maps.has_del_other (by simp; omega), h2 z hz, if_neg e]
  · rw [gt_dl]
    by_cases e : z = y
    · subst e
      rw [Maps.atKey_del_same, if_pos rfl]
    · rw [Maps.atKey_del_other (by simp; omega), h3 z hz, if_neg e]
end

/-! ### the table of deeds -/
def eF : Option Nat → Value
  | none => .agg #[Value.nilFunc]
  | some g => .agg #[.func (.func g) #[] #[]]
def tokF : Option Nat → DataW Unit
  | none => .agg []
  | some g => .lit (.int .i64 g)
theorem tokF_inj {f g : Option Nat} (h : tokF f = tokF g) : f = g := by
  cases f <;> cases g <;> simp [tokF] at h ⊢
  omega
theorem eF_inj {f g : Option Nat} (h : eF f = eF g) : f = g := by
  cases f <;> cases g <;> simp_all [eF]
open Classical in
noncomputable def rdF (v : Value) : Option (DataW Unit × List MemPlace) := if h : ∃ f, v = eF f then some (tokF (Classical.choose h), []) else none
theorem rdF_mk (f : Option Nat) : rdF (eF f) = some (tokF f, []) := by
  have h : ∃ g, eF f = eF g := ⟨f, rfl⟩
  unfold rdF
  rw [dif_pos h, eF_inj (Classical.choose_spec h).symm]
theorem rdF_inv {v : Value} {f : Option Nat} {ps : List MemPlace} (h : rdF v = some (tokF f, ps)) : v = eF f := by
  unfold rdF at h
  split at h
  · rename_i hx
    simp only [Option.some.injEq, Prod.mk.injEq] at h
    rw [← tokF_inj h.1]
    exact Classical.choose_spec hx
  · cases h
theorem zeroF (w : World) : (zeroValue 103).run Try.prog w = .ok (eF none) w := by kernel_rfl
section
variable {w : World} {ops : Array Oper} {rest : List Oper} {o : Oper} {a : Act} {Q : Exit → Act → World → Prop}
theorem wpList_insert_own (hg : o.guard = none) (m x v : Operand) (t : TypeId) (hop : o.op = Op.insert t m x v)
    (k e : TypeId) (K : Maps.Keyed Try.prog k) (ht : Try.prog.underlying t = some (.map k e)) (R : Value → Option (DataW Unit × List MemPlace)) (b n : Nat) (D : DataW Unit)
    (hm : a.eval m = .map (some b)) (hown : w.ownsMap Try.prog k R b n D) (hn : n < maxLen) (key val : Value) (kl : Lit) (hx : a.eval x = key) (hv : a.eval v = val) (hkey : keyOf Try.prog k key = some kl)
    (d : DataW Unit) (ps : List MemPlace) (hval : R val = some (d, ps))
    (hK : ∀ w', w'.ownsMap Try.prog k R b (n + 1) (D.put kl d) → w.grownBy w' (some b) → wpList Try.prog ops Q rest (a.put o.dst undef) w') :
    wpList Try.prog ops Q (o :: rest) a w := by
  refine wpList_plain hg fun K' hK' => ?_
  obtain ⟨w', hrun, r1, r2⟩ := hown.update K ht hn hkey hval
  unfold Oper.wp
  simp [execOp, hop, hm, hx, hv, hrun, Result.andThen]
  exact hK' _ _ (hK w' r1 r2)
end
/-- what the table of deeds gives, in this world and whatever comes behind it -/
def Deeds (W : World) (g : Nat) : Prop := ∀ W', Below W.heap.size W W' → ∀ k f, (k, f) ∈ [((1 : Int), 82), (2, 83), (3, 84), (4, 85)] →
  (Instr.lookup 104 (.map (some g)) (.int .i64 k) false).run Try.prog W' = .ok (eF (some f)) W'

set_option maxRecDepth 100000 in
set_option maxHeartbeats 4000000 in
theorem deeds_any (w : World) : Calls Try.prog 64 #[] w (fun e w' => ∃ g, e = .returned (.map (some g)) ∧ Deeds w' g ∧ Below w.heap.size w w') := by
  have hmm := @run_makeMap Try.prog
  have H0 := Lib.hid (World.ownsMap_made (H := Unit) w Try.prog 3 rdF)
  have i64 : ∀ k : Int, 0 ≤ k → k ≤ 4 → keyOf Try.prog 3 (.int .i64 k) = some (.int .i64 k) := fun k h1 h2 => keyI (i64_of (by omega) (by omega))
  have HK := Lib.hid i64
  clear i64
  go_enter Try.func64, Try.ntmps64
  go_wp2_with (first | (refine wpList_insert_own rfl _ _ _ 104 rfl 3 103 lawI Try.underlying104 rdF w.heap.size 0 _ rfl H0.out (by unfold maxLen; omega) _ (eF (some 82)) _ rfl rfl (HK.out 1 (by omega) (by omega)) _ [] (rdF_mk _) ?_; intro w1 h1 g1; have H1 := Lib.hid h1; clear h1) | (refine wpList_insert_own rfl _ _ _ 104 rfl 3 103 lawI Try.underlying104 rdF w.heap.size 1 _ rfl H1.out (by unfold maxLen; omega) _ (eF (some 83)) _ rfl rfl (HK.out 2 (by omega) (by omega)) _ [] (rdF_mk _) ?_; intro w2 h2 g2; have H2 := Lib.hid h2; clear h2) | (refine wpList_insert_own rfl _ _ _ 104 rfl 3 103 lawI Try.underlying104 rdF w.heap.size 2 _ rfl H2.out (by unfold maxLen; omega) _ (eF (some 84)) _ rfl rfl (HK.out 3 (by omega) (by omega)) _ [] (rdF_mk _) ?_; intro w3 h3 g3; have H3 := Lib.hid h3; clear h3) | (refine wpList_insert_own rfl _ _ _ 104 rfl 3 103 lawI Try.underlying104 rdF w.heap.size 3 _ rfl H3.out (by unfold maxLen; omega) _ (eF (some 85)) _ rfl rfl (HK.out 4 (by omega) (by omega)) _ [] (rdF_mk _) ?_; intro w4 h4 g4; have H4 := Lib.hid h4; clear h4))
  have HB_4 : Below w.heap.size w w4 := ((((grew1 (Below.refl _ _)).grown g1 (by simp) (fun j hj => by cases hj; exact Nat.le_refl _)).grown g2 (by have := g1.size; simp at this; omega) (fun j hj => by cases hj; exact Nat.le_refl _)).grown g3 (by have := g1.size; have := g2.size; simp at *; omega) (fun j hj => by cases hj; exact Nat.le_refl _)).grown g4 (by have := g1.size; have := g2.size; have := g3.size; simp at *; omega) (fun j hj => by cases hj; exact Nat.le_refl _)
  clear g1 g2 g3 g4
  go_ret
  refine ⟨w.heap.size, rfl, fun W' hW k f hkf => ?_, HB_4⟩
  have hown := H4.out
  obtain ⟨es, clock, hb, rest⟩ := hown
  have hown' : W'.ownsMap Try.prog 3 rdF w.heap.size (3 + 1) _ := ⟨es, clock, (hW.block _ (Array.getElem?_eq_some_iff.1 hb).1).trans hb, rest⟩
  have h0 : Maps.IsMap (H := Unit) (.map []) := Maps.isMap_empty
  have hk : 0 ≤ k ∧ k ≤ 4 := by simp at hkf; omega
  obtain ⟨u, ps, hrun, hu⟩ := hown'.lookup lawI Try.underlying104 (zeroF W') (rdF_mk none) (HK.out k hk.1 hk.2)
  have e : DataW.atKey (((((DataW.map (H := Unit) []).put (.int .i64 1) (tokF (some 82))).put (.int .i64 2) (tokF (some 83))).put (.int .i64 3) (tokF (some 84))).put (.int .i64 4) (tokF (some 85))) (.int .i64 k) (tokF none) = tokF (some f) := by
    simp at hkf
    rcases hkf with ⟨rfl, rfl⟩ | ⟨rfl, rfl⟩ | ⟨rfl, rfl⟩ | ⟨rfl, rfl⟩
    · rw [Maps.atKey_put_other (by simp), Maps.atKey_put_other (by simp), Maps.atKey_put_other (by simp), Maps.atKey_put_same h0 (kli _)]
    · rw [Maps.atKey_put_other (by simp), Maps.atKey_put_other (by simp), Maps.atKey_put_same (h0.put _ _) (kli _)]
    · rw [Maps.atKey_put_other (by simp), Maps.atKey_put_same ((h0.put _ _).put _ _) (kli _)]
    · rw [Maps.atKey_put_same (((h0.put _ _).put _ _).put _ _) (kli _)]
  rw [e] at hu
  rw [rdF_inv hu] at hrun
  exact hrun
end Go.Proofs.Ytmbnhlihcnbebaa
