/-
  Walks of the layer 'symbol': translation.
-/
import Derived.Test.YtmnlkndbdcdngaaSymC
namespace Go.Proofs.Ytmnlkndbdcdngaa
open Go.RowKit Sb Sk Go.Sort Go.Shelf
set_option linter.unusedVariables false
attribute [local go_sem] Oper.semAt_some

/-- the block of a slice that is not empty -/
def sbs (ao : Option Addr) (ms : List Mk) : List Nat := if ms = [] then [] else match ao with | some a => [a.block] | none => []
theorem sbs_lt {w : World} {ao : Option Addr} {n cap : Nat} {ms : List Mk} (h : Sl w 3 cM ao n cap ms) : ∀ b ∈ sbs ao ms, b < w.heap.size := by
  intro b hb
  unfold sbs at hb
  split at hb
  · simp at hb
  · rename_i hne
    obtain ⟨b', off, e, hlt, _⟩ := h.at_ hne
    rw [e] at hb
    simp at hb
    omega
theorem sbs_mem {ao : Option Addr} {ms : List Mk} : ∀ a, ao = some a → ms ≠ [] → a.block ∈ sbs ao ms := by
  intro a ha hne
  unfold sbs
  rw [if_neg hne, ha]; simp

theorem enters_fits : ∀ args w, (callFunc 43 args).run Try.prog w = .ok (.enter 43 args) w := enters_of Try.func43 (by kernel_rfl) rfl
theorem enters_marks1 : ∀ args w, (callFunc 46 args).run Try.prog w = .ok (.enter 46 args) w := enters_of Try.func46 (by kernel_rfl) rfl

theorem marks_stops (NB NF TB TF : Nat) (of : Int) (ao : Option Addr) (n cap : Nat) (ms : List Mk) (g : Nat) (pr lb : Array Value) (p : Mk → Bool) (bs : List Nat) (w : World)
    (hA : ∀ W', Same bs w W' → ∀ x ∈ ms, Calls Try.prog g (pr.push (.agg #[.int .i64 x.sy, .int .i64 x.kd, .int .i64 x.cl]) ++ lb) W' (Ret W' (.bool (p x))))
    (eg : ∀ args w, (callFunc g args).run Try.prog w = .ok (.enter g args) w)
    (hN : Box w NB TB [.int .i64 of, .slice ao n cap]) (hF : Box w NF TF [.func (.func g) pr lb]) (hNB : NB ∈ bs) (hNF : NF ∈ bs) (hlt : ∀ b ∈ bs, b < w.heap.size)
    (hs : Sl w 3 cM ao n cap ms) (hao : ∀ a, ao = some a → ms ≠ [] → a.block ∈ bs) :
    SeqStopsK Fence.wide 9 Try.prog 46 #[.pointer (some ⟨NB, 0, none⟩), .pointer (some ⟨NF, 0, none⟩)] eMs (Same bs) (fun ys => ys = ms.filter p) (fun pre => pre <+: ms.filter p) ms.length w := fun l J Jx W hW hJ _ hY h0 =>
  have hsame : Same bs w W := fun b hb => hW.block b (hlt b hb)
  marks1_wide l NB NF TB TF of ao n cap ms g pr lb p bs J Jx W hJ (fun W' hW' => hA W' (same_t hsame hW')) eg hY (hN.below hW) (hF.below hW) hNB hNF (fun b hb => Nat.lt_of_lt_of_le (hlt b hb) hW.size) (hs.below hW) hao h0

set_option maxRecDepth 100000 in
set_option maxHeartbeats 2000000 in
theorem translation_any (of : Int) (ao : Option Addr) (n cap : Nat) (ms : List Mk) (a b c : Int) (w : World) (hs : Sl w 3 cM ao n cap ms) :
    Calls Try.prog 34 #[.agg #[.int .i64 of, .slice ao n cap], .agg #[.int .i64 a, .int .i64 b, .int .i64 c]] w
      (Ret w (.tuple #[eM (trans ms ⟨a, b, c⟩), .bool (found (trans ms ⟨a, b, c⟩))])) := by
  obtain ⟨W0, hW0, HB_W0, hZ, hn, hm, hr⟩ := boxes3 w [.int .i64 of, .slice ao n cap] [.int .i64 a, .int .i64 b, .int .i64 c] [.int .i64 0, .int .i64 0, .int .i64 0] 24 29 29
  have H_n := Lib.hid hn
  have H_m := Lib.hid hm
  have H_r := Lib.hid hr
  have HS := Lib.hid (hs.below HB_W0)
  clear hn hm hr
  obtain ⟨W1, hW1, hB1, hZ1, hb1⟩ := boxes1 W0 [.int .i64 0, .int .i64 0, .int .i64 10] 29
  rw [hZ] at hb1
  have H_b := Lib.hid hb1
  replace H_n := Lib.hid (H_n.out.below hB1)
  replace H_m := Lib.hid (H_m.out.below hB1)
  replace H_r := Lib.hid (H_r.out.below hB1)
  replace HS := Lib.hid (HS.out.below hB1)
  have HB_W1 : Below w.heap.size w W1 := after0 HB_W0 hB1
  rw [hZ] at hZ1
  clear hb1 hB1
  obtain ⟨q_n_0, q_n_1⟩ := H_n.out.c2
  obtain ⟨q_m_0, q_m_1, q_m_2⟩ := H_m.out.c3
  refine (callsIn_wide (n := 10)).1 (callsIn_of_wp_marks Try.func34 rfl trivial (wpIn_wide.2 ?_) rfl)
  simp only [Try.ntmps34, List.size_toArray, List.length_cons, List.length_nil, Nat.reduceAdd, Nat.reduceSub, Array.replicate_succ, Array.replicate_zero, List.push_toArray, List.append_toArray, List.nil_append, List.cons_append]
  go_wp2_with fail
  refine (marks_any _ _ _ _ _ _ _ _).mono ?_
  rintro e wb ⟨rfl, hwb⟩
  obtain ⟨NB, hNB⟩ : ∃ NB, W1.heap.size = NB := ⟨_, rfl⟩
  have HN2 : Hid (Box wb NB 24 [.int .i64 of, .slice ao n cap]) := by rw [hwb, ← hNB]; exact (Box.new W1 [.int .i64 of, .slice ao n cap] 24).alloc _
  have HF2 : Hid (Box wb (NB + 1) 49 [.func (.func 43) #[.agg #[.int .i64 a, .int .i64 b, .int .i64 c]] #[]]) := by
    rw [hwb, ← hNB]
    have := Box.new (W1.alloc (.cells #[.int .i64 of, .slice ao n cap] 24)) [.func (.func 43) #[.agg #[.int .i64 a, .int .i64 b, .int .i64 c]] #[]] 49
    rwa [World.size_alloc] at this
  have hb : Below W1.heap.size W1 wb := hwb ▸ grew2 (Below.refl _ _)
  have HB_wb : Below w.heap.size w wb := after0 HB_W1 hb
  have H_b2 := Lib.hid (H_b.out.below hb)
  have H_r2 : Hid (Box wb (w.heap.size + 1 + 1) 29 [.int .i64 0, .int .i64 0, .int .i64 0]) := H_r.out.below hb
  have HS2 := Lib.hid (HS.out.below hb)
  have HRN : Hid (NB = w.heap.size + 4 ∧ wb.heap.size = NB + 2) := ⟨by omega, by rw [hwb]; simp [hNB]⟩
  have HSB := Lib.hid (sbs_lt hs)
  rw [hNB]
  obtain ⟨R, hR⟩ : ∃ R, w.heap.size = R := ⟨_, rfl⟩
  have HRW : Hid (w.heap.size = R) := hR
  rw [hR] at H_b2 H_r2 HRN HSB ⊢
  clear hwb hNB hZ1 hW1 hW0 hZ q_n_0 q_n_1 q_m_0 q_m_1 q_m_2 H_n H_m H_r H_b HS hb hR HB_W1 HB_W0 hs
  go_wp2_with fail
  have hlt : ∀ x ∈ NB :: (NB + 1) :: sbs ao ms, x < wb.heap.size := by
    intro x hx
    have h1 := HRN.out
    rcases List.mem_cons.1 hx with rfl | hx
    · omega
    rcases List.mem_cons.1 hx with rfl | hx
    · omega
    · have := HSB.out x hx; omega
  have HLT := Lib.hid hlt
  have HNE : Hid (∀ x ∈ NB :: (NB + 1) :: sbs ao ms, x ≠ R + 3 ∧ x ≠ R + 1 + 1) := by
    intro x hx
    have h1 := HRN.out
    rcases List.mem_cons.1 hx with rfl | hx
    · omega
    rcases List.mem_cons.1 hx with rfl | hx
    · omega
    · have := HSB.out x hx; omega
  clear hlt
  refine (wpIn_wide (n := 10)).1 ?_
  refine wpIn_rangeFunc_ownH rfl (by omega) (gf := 46) (lb := #[.pointer (some ⟨NB, 0, none⟩), .pointer (some ⟨NB + 1, 0, none⟩)]) rfl trivial enters_marks1
    (marks_stops NB (NB + 1) 24 49 of ao n cap ms 43 #[.agg #[.int .i64 a, .int .i64 b, .int .i64 c]] #[] (fitB ⟨a, b, c⟩) (NB :: (NB + 1) :: sbs ao ms) wb
      (fun W' _ x _ => by rw [Array.append_empty]; exact fits_any a b c x.sy x.kd x.cl W') enters_fits HN2.out HF2.out (by simp) (by simp) HLT.out HS2.out (fun a' ha hne => by simp [sbs_mem a' ha hne])) same_t
    (same_b HLT.out) (Below.refl _ _) (fun _ => rfl)
    (fun pre W => (Box W (R + 3) 29 (cM (pre.foldl better top)) ∧ Box W (R + 1 + 1) 29 [.int .i64 0, .int .i64 0, .int .i64 0]) ∧ Below w.heap.size w W ∧ wb.heap.size ≤ W.heap.size)
    (fun _ _ _ => False)
    (OwnFrom.and (OwnFrom.and (box_own _ _ _ (fun pre : List Mk => cM (pre.foldl better top))) (box_own _ _ _ (fun _ => _))) (OwnFrom.and (ownFrom_below (Nat.le_refl _) HB_wb.size) (ownFrom_size _ _)))
    (fun _ _ _ _ _ hs _ _ => hs)
    ⟨⟨H_b2.out, H_r2.out⟩, HB_wb, Nat.le_refl _⟩
    (fun x a' W => ∃ Bx, Box W Bx 29 [.int .i64 x.sy, .int .i64 x.kd, .int .i64 x.cl] ∧ R + 3 < Bx ∧ a' = {
      tmps := #[.agg #[.int .i64 of, .slice ao n cap], .agg #[.int .i64 a, .int .i64 b, .int .i64 c], .pointer (some ⟨R, 0, none⟩), .pointer (some ⟨R + 1, 0, none⟩), .pointer (some ⟨R + 1 + 1, 0, none⟩), .bool false,
        .pointer (some ⟨R + 3, 0, none⟩), .pointer (some ⟨Bx, 0, none⟩), .agg #[.int .i64 0, .int .i64 0, .int .i64 10], .agg #[.int .i64 of, .slice ao n cap], .agg #[.int .i64 a, .int .i64 b, .int .i64 c],
        .agg #[.int .i64 a, .int .i64 b, .int .i64 c], .func (.func 43) #[.agg #[.int .i64 a, .int .i64 b, .int .i64 c]] #[],
        .func (.func 46) #[] #[.pointer (some ⟨NB, 0, none⟩), .pointer (some ⟨NB + 1, 0, none⟩)], .agg #[.int .i64 x.sy, .int .i64 x.kd, .int .i64 x.cl], undef, undef, undef, undef, undef, undef, undef, undef, undef, undef], defers := [] })
    (fun x a' _ X Y row hs hg hr => by
      obtain ⟨Bx, b1, hl, e⟩ := hs
      exact ⟨Bx, box_own _ Bx _ (fun (_ : Unit) => _) () X Y row b1 hg hr, hl, e⟩)
    ?assign ?body ?done ?stop
  case assign =>
    rintro l' pre x W K ⟨⟨b1, b2⟩, hb, hz⟩ hK
    dsimp only [eMs]
    gi_wp2
    refine hK _ _ ((KeepsOthers.alloc _ _).from _) ?_ ⟨⟨b1.alloc _, b2.alloc _⟩, grew1 hb, by simp; omega⟩ ⟨W.heap.size, Box.new W [.int .i64 x.sy, .int .i64 x.kd, .int .i64 x.cl] _, by have := HRN.out; omega, rfl⟩
    exact Same.alloc _ (fun b hb' => Nat.lt_of_lt_of_le (HLT.out b hb') hz)
  case body =>
    rintro l' pre x a' W hl _ ⟨⟨b1, b2⟩, hb, hz⟩ ⟨Bx, bX, hBx, rfl⟩ hlt
    have HFO := Lib.hid (show (pre ++ [x]).foldl better top = better (pre.foldl better top) x by simp)
    obtain ⟨k0, k1, k2⟩ := bX.c3
    have f1 := b1.frozen
    generalize pre.foldl better top = B at *
    obtain ⟨B1, B2, B3⟩ := B
    obtain ⟨x1, x2, x3⟩ := x
    dsimp only at k0 k1 k2
    obtain ⟨r0, r1, r2⟩ := b1.c3
    dsimp only at r0 r1 r2
    by_cases hlt2 : x3 < B3
    · have HF2' := Lib.hid (HFO.out.trans (show better ⟨B1, B2, B3⟩ ⟨x1, x2, x3⟩ = ⟨x1, x2, x3⟩ from if_pos hlt2))
      clear HFO bX
      gi_wp2
      refine ⟨(((KeepsOthers.setCell _ _ _).trans (KeepsOthers.setCell _ _ _)).trans (KeepsOthers.setCell _ _ _)).from _, ?_, ⟨?_, ?_⟩, ?_, by simp [World.size_setCell]; exact hz⟩
      · exact (((Same.refl _ _).setCell (fun q hq => (HNE.out q hq).1)).setCell (fun q hq => (HNE.out q hq).1)).setCell (fun q hq => (HNE.out q hq).1)
      · rw [HF2'.out]; exact ((b1.set 0 _).set 1 _).set 2 _
      · exact ((b2.other (by omega)).other (by omega)).other (by omega)
      · have HR := HRW.out
        exact ((hb.setCell (p := ⟨R + 3, 0, none⟩) (by dsimp only; omega) _).setCell (p := ⟨R + 3, 1, none⟩) (by dsimp only; omega) _).setCell (p := ⟨R + 3, 2, none⟩) (by dsimp only; omega) _
    · have HF2' := Lib.hid (HFO.out.trans (show better ⟨B1, B2, B3⟩ ⟨x1, x2, x3⟩ = ⟨B1, B2, B3⟩ from if_neg hlt2))
      have hle2 : B3 ≤ x3 := by omega
      clear HFO bX
      gi_wp2
      refine ⟨KeepsFrom.refl _ _, Same.refl _ _, ⟨?_, b2⟩, hb, hz⟩
      rw [HF2'.out]; exact b1
  case done =>
    rintro D xs W hD hS ⟨⟨b1, b2⟩, hb, hz⟩ hK
    subst hS
    have HTR := Lib.hid (show trans ms ⟨a, b, c⟩ = (ms.filter (fitB ⟨a, b, c⟩)).foldl better top from rfl)
    have HFD := Lib.hid (show found (trans ms ⟨a, b, c⟩) = decide ((trans ms ⟨a, b, c⟩).cl ≤ 9) from rfl)
    rw [HTR.out] at HFD
    generalize (ms.filter (fitB ⟨a, b, c⟩)).foldl better top = B at *
    obtain ⟨B1, B2, B3⟩ := B
    obtain ⟨r0, r1, r2⟩ := b1.c3
    dsimp only at r0 r1 r2
    have f2 := b2.frozen
    obtain ⟨s0, s1, s2⟩ := b2.c3
    have HD : Hid (W.heap[D]? = some (.deferred (some []))) := hK
    have HDR : Hid (wb.heap.size ≤ D) := hD
    clear hK hD
    dsimp only [Exit.inBlock, Exit.then]
    go_wp2_with fail
    refine wp_region_plan (C := fun _ => True) (.q 1 (.two 0 (.two 2 (.q 3 (.e 4 (.q 5 (.done)))) 4 (.e 2 (.q 3 (.q 5 (.done))))) 2 (.q 3 (.e 0 (.e 4 (.q 5 (.done))))))) 6 (by kernel_rfl) (by kernel_rfl) trivial ?_
    repeat (any_goals (first | (go_big_quiet_skip; refine wpQuiet_nil ?_) | (go_big_quiet_want; go_big_quiet_op; go_big_quiet_on; refine wpQuiet_nil ?_) | ((with_reducible apply q_split); exact rfl; intro q hq; cases q <;> (rw [hq]; (try first | replace hq := bnot_t hq | replace hq := bnot_f hq); (try first | replace hq := of_decide_eq_true hq | replace hq := of_decide_eq_false hq | replace hq := eq_of_beq hq); (try first | replace hq := Int.not_lt.1 hq | replace hq := Int.not_le.1 hq | replace hq := Nat.not_lt.1 hq | replace hq := Nat.not_le.1 hq); try (exfalso; omega))) | (refine plan_q rfl rfl ?_) | (refine plan_e rfl ?_; go_wp2_with fail; refine MixPost.intro trivial ?_) | (refine plan_two rfl rfl ?_ ?_) | (refine plan_three rfl rfl rfl ?_ ?_ ?_) | ((with_reducible refine wpl_id ?_); go_wp2_with fail; refine MixPost.intro trivial ?_)))
    all_goals
      have HR := HRW.out
      obtain ⟨W2, hW2⟩ : ∃ W2, (((W.setCell ⟨R + 1 + 1, 0, none⟩ (.int .i64 B1)).setCell ⟨R + 1 + 1, 1, none⟩ (.int .i64 B2)).setCell ⟨R + 1 + 1, 2, none⟩ (.int .i64 B3)).drew = W2 := ⟨_, rfl⟩
      have c1 : Box W2 (R + 1 + 1) 29 [.int .i64 B1, .int .i64 B2, .int .i64 B3] := hW2 ▸ Box.drew (((b2.set 0 (.int .i64 B1)).set 1 (.int .i64 B2)).set 2 (.int .i64 B3))
      have c3 : W2.heap[D]? = some (.deferred (some [])) := hW2 ▸ (((KeepsOthers.setCell _ _ _).trans (KeepsOthers.setCell _ _ _)).trans (KeepsOthers.setCell _ _ _)).same D _ HD.out rfl
      have c4 : Below w.heap.size w W2 := hW2 ▸ (((hb.setCell (p := ⟨R + 1 + 1, 0, none⟩) (by dsimp only; omega) _).setCell (p := ⟨R + 1 + 1, 1, none⟩) (by dsimp only; omega) _).setCell (p := ⟨R + 1 + 1, 2, none⟩) (by dsimp only; omega) _).drew
      rw [hW2]
      clear hW2 r0 r1 r2 s0 s1 s2 f2 HR
      refine plan_done ?_
      try simp only [List.drop_succ_cons, List.drop_zero]
      try go_wp2_with fail
      refine NoPanic.normal ?_
      try go_wp2_with fail
      have q1 := c1.putObj (o' := .deferred none) c3 rfl
      obtain ⟨r0, r1, r2⟩ := q1.c3
      refine marks_ret1 (v := .tuple #[.agg #[.int .i64 B1, .int .i64 B2, .int .i64 B3], .bool (decide (B3 ≤ 9))]) c3 rfl (by simp [results, Try.results34, go_sem, r0, r1, r2]) ⟨by rw [HTR.out, HFD.out], ?_⟩
      exact c4.trans (belowK_b (w := w) (Nat.le_refl _) W2 D _ _ (by have := HB_wb.size; have := HDR.out; omega) c3 rfl rfl)
  case stop =>
    rintro D c pre W hD _ h _
    exact h.elim
end Go.Proofs.Ytmnlkndbdcdngaa
