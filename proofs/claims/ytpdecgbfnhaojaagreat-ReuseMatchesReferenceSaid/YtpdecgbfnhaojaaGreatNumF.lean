/-
  Walks of the layer 'number': Next and Room, which range over the free names.
-/
import Derived.Test.YtpdecgbfnhaojaaGreatNumE
namespace Go.Proofs.YtpdecgbfnhaojaaGreat
open Go.RowKit Nb Sk Go.Sort Go.Shelf
attribute [local go_sem] Oper.semAt_some

theorem free_any (N : Nat) (w : World) : Calls Tryz.prog 69 #[.pointer (some ⟨N, 0, none⟩)] w fun e w' => e = .returned (.func (.func 86) #[] #[.pointer (some ⟨w.heap.size, 0, none⟩)]) ∧ w' = w.alloc (.cells #[.pointer (some ⟨N, 0, none⟩)] 73) := by
  go_enter Tryz.func69, Tryz.ntmps69
  go_wp2
  go_ret
  exact ⟨rfl, rfl⟩

theorem lastNu_range {l : List Us} (h : RowsOk l) (st kd : Int) : 0 ≤ lastNu l st kd ∧ lastNu l st kd ≤ 99 := by
  have : ∀ k : Nat, 0 ≤ lastNu (l.take k) st kd ∧ lastNu (l.take k) st kd ≤ 99 := by
    intro k
    induction k with
    | zero => simp [lastNu]
    | succ k ih =>
      by_cases hk : k < l.length
      · rw [List.take_succ_eq_append_getElem hk, lastNu_snoc]
        split
        · have := okN_iff.1 (h.ok _ (List.getElem_mem hk)).1; omega
        · exact ih
      · rwa [List.take_of_length_le (by omega), ← List.take_of_length_le (i := k) (by omega : l.length ≤ k)]
  have := this l.length
  rwa [List.take_length] at this

theorem fre_frees (l : List Us) (st kd now : Int) : fre st kd (lastNu l st kd) (usedL l st kd now) 99 = frees l st kd now := by
  have key : ∀ (last : Int) (k : Nat), fre st kd last (usedL l st kd now) k = (((List.range k).map fun (i : Nat) => (last + (i : Int)) % 99 + 1).map fun n => (⟨st, kd, n⟩ : Nm)).filter fun n => !used l n now := by
    intro last k
    induction k with
    | zero => simp [fre]
    | succ k ih =>
      rw [fre, ih, List.range_succ, List.map_append, List.map_append, List.filter_append]
      congr 1
      have h1 : 0 ≤ (last + (k : Int)) % 99 := Int.emod_nonneg _ (by omega)
      have h2 : (last + (k : Int)) % 99 < 99 := Int.emod_lt_of_pos _ (by omega)
      obtain ⟨m, hm⟩ : ∃ m : Nat, nth last (k + 1) = m := ⟨(nth last (k + 1)).toNat, by simp only [nth]; omega⟩
      have hml : m < (usedL l st kd now).length := by rw [usedL_length]; simp only [nth] at hm; omega
      rw [hm]
      simp only [nth] at hm
      rw [show ((m : Int)).toNat = m by omega, List.getElem?_eq_getElem hml, usedL_get]
      simp only [List.map_cons, List.map_nil, hm]
      cases h : used l ⟨st, kd, (m : Int)⟩ now <;> simp [h]
  exact key _ 99

theorem next_err {l : List Us} {st kd now : Int} (h : asked l st kd now ≠ 0) : next l st kd now = (zeroN, asked l st kd now) := by unfold next; rw [if_pos h]
theorem next_some {l : List Us} {st kd now : Int} (h : asked l st kd now = 0) {x : Nm} {r : List Nm} (hf : frees l st kd now = x :: r) : next l st kd now = (x, 0) := by unfold next; rw [if_neg (by simp [h]), hf]
theorem next_none {l : List Us} {st kd now : Int} (h : asked l st kd now = 0) (hf : frees l st kd now = []) : next l st kd now = (zeroN, 17) := by unfold next; rw [if_neg (by simp [h]), hf]

theorem free_stops (N Bp T Tp : Nat) (st kd last : Int) (us : List Bool) (hla : 0 ≤ last ∧ last ≤ 99) (hus : us.length = 100) (w : World) (hN : Box w N T (poolC st kd last us)) (hB : Box w Bp Tp [.pointer (some ⟨N, 0, none⟩)]) :
    SeqStopsK Fence.wide 9 Tryz.prog 86 #[.pointer (some ⟨Bp, 0, none⟩)] eNs (Same [N, Bp]) (fun ys => ys = fre st kd last us 99) (fun pre => pre <+: fre st kd last us 99) 99 w := fun l J Jx W hW hJ _ hY h0 =>
  free1_wide l N Bp T Tp st kd last us hla hus J Jx W hJ hY (hN.below hW) (hB.below hW) h0

set_option maxRecDepth 100000 in
set_option maxHeartbeats 1000000 in
theorem next_any (ao : Option Addr) (n cap : Nat) (l : List Us) (st kd now : Int) (w : World) (hs : Sl w 5 cU ao n cap l) :
    Calls Tryz.prog 63 #[.slice ao n cap, .int .i64 st, .int .i64 kd, .int .i64 now] w
      (Ret w (.tuple #[.agg #[.int .i64 (next l st kd now).1.st, .int .i64 (next l st kd now).1.kd, .int .i64 (next l st kd now).1.nu], .int .i64 (next l st kd now).2])) := by
  have HS := Lib.hid hs
  clear hs
  obtain ⟨p, hp⟩ : ∃ p, next l st kd now = p := ⟨_, rfl⟩
  have HP := Lib.hid hp
  rw [hp]
  clear hp
  obtain ⟨W0, hW0, HB_W0, hZ, hr, he⟩ := boxes2 w [.int .i64 0, .int .i64 0, .int .i64 0] [.int .i64 0] 29 32
  have H_r := Lib.hid hr
  have H_e := Lib.hid he
  clear hr he
  refine (callsIn_wide (n := 10)).1 (callsIn_of_wp_marks Tryz.func63 rfl trivial (wpIn_wide.2 ?_) rfl)
  simp only [Tryz.ntmps63, List.size_toArray, List.length_cons, List.length_nil, Nat.reduceAdd, Nat.reduceSub, Array.replicate_succ, Array.replicate_zero, List.push_toArray, List.append_toArray, List.nil_append, List.cons_append]
  go_wp2_with fail
  by_cases ha : asked l st kd now = 0
  · have HA := Lib.hid ha
    have HROK := Lib.hid (rows_iff.1 (asked_zero ha).1)
    refine (read_ok _ _ _ l st kd now W0 (HS.out.below HB_W0) ha).mono ?_
    rintro e wa ⟨N, rfl, hNw, hN, hb⟩
    have HN := Lib.hid hN
    have HB_a : Below w.heap.size w wa := after0 HB_W0 hb
    have H_r2 := Lib.hid (H_r.out.below hb)
    have H_e2 := Lib.hid (H_e.out.below hb)
    clear ha hN hW0 hb H_r H_e
    go_wp2_with fail
    refine (free_any N wa).mono ?_
    rintro e wb ⟨rfl, hwb⟩
    have H_p : Hid (Box wb wa.heap.size 73 [.pointer (some ⟨N, 0, none⟩)]) := by rw [hwb]; exact Box.new wa [.pointer (some ⟨N, 0, none⟩)] 73
    have HN2 := Lib.hid (show Box wb N 92 _ by rw [hwb]; exact HN.out.alloc _)
    have H_r3 := Lib.hid (show Box wb w.heap.size 29 _ by rw [hwb]; exact H_r2.out.alloc _)
    have H_e3 := Lib.hid (show Box wb (w.heap.size + 1) 32 _ by rw [hwb]; exact H_e2.out.alloc _)
    have HB_b : Below w.heap.size w wb := hwb ▸ grew1 HB_a
    have hsz : wb.heap.size = wa.heap.size + 1 := by rw [hwb]; simp
    have hNlt := HN.out.lt
    obtain ⟨Bp, hBp⟩ : ∃ Bp, wa.heap.size = Bp := ⟨_, rfl⟩
    rw [hBp] at H_p hsz hNlt ⊢
    clear hwb HN H_r2 H_e2 HB_a hBp
    obtain ⟨R, hR⟩ : ∃ R, w.heap.size = R := ⟨_, rfl⟩
    have HRN : Hid (R + 1 < N ∧ N < Bp ∧ wb.heap.size = Bp + 1) := ⟨by omega, hNlt, hsz⟩
    rw [hR] at H_r3 H_e3 ⊢
    clear hZ hNlt hNw HB_W0
    go_wp2_with fail
    refine (wpIn_wide (n := 10)).1 ?_
    refine wpIn_rangeFunc_ownH rfl (by omega) (gf := 86) (lb := #[.pointer (some ⟨Bp, 0, none⟩)]) rfl trivial (enters_of Tryz.func86 (by kernel_rfl) rfl)
      (free_stops N Bp 92 73 st kd _ _ (lastNu_range HROK.out st kd) (usedL_length _ _ _ _) wb HN2.out H_p.out) same_t
      (same_b (fun b hb => by have := HRN.out; simp at hb; omega)) (Below.refl _ _) (fun _ => rfl)
      (fun pre W => pre = [] ∧ (Box W R 29 [.int .i64 0, .int .i64 0, .int .i64 0] ∧ Box W (R + 1) 32 [.int .i64 0]) ∧ Below w.heap.size w W ∧ wb.heap.size ≤ W.heap.size)
      (fun c pre W => c = .ret ∧ ∃ x, pre = [x] ∧ (Box W R 29 [.int .i64 x.st, .int .i64 x.kd, .int .i64 x.nu] ∧ Box W (R + 1) 32 [.int .i64 0]) ∧ Below w.heap.size w W)
      (OwnFrom.and (ownFrom_pure _ _) (OwnFrom.and (OwnFrom.and (box_own _ _ _ (fun _ => _)) (box_own _ _ _ (fun _ => _))) (OwnFrom.and (ownFrom_below (Nat.le_refl _) HB_b.size) (ownFrom_size _ _))))
      (fun c s X Y row hs hg hr => by
        obtain ⟨rfl, x, e, ⟨b1, b2⟩, hb⟩ := hs
        exact ⟨rfl, x, e, ⟨box_own _ R _ (fun (_ : Unit) => _) () X Y row b1 hg hr, box_own _ (R + 1) _ (fun (_ : Unit) => _) () X Y row b2 hg hr⟩, ownFrom_below (β := Unit) (Nat.le_refl _) HB_b.size () X Y row hb hg hr⟩)
      ⟨rfl, ⟨H_r3.out, H_e3.out⟩, HB_b, Nat.le_refl _⟩
      (fun x a' W => ∃ Bx, Box W Bx 29 [.int .i64 x.st, .int .i64 x.kd, .int .i64 x.nu] ∧ a' = {
        tmps := #[.slice ao n cap, .int .i64 st, .int .i64 kd, .int .i64 now, undef, undef, undef, undef, .pointer (some ⟨R, 0, none⟩), .pointer (some ⟨R + 1, 0, none⟩), .pointer (some ⟨N, 0, none⟩),
          .int .i64 0, .pointer (some ⟨Bx, 0, none⟩), .tuple #[.pointer (some ⟨N, 0, none⟩), .int .i64 0], .slice ao n cap, .int .i64 st, .int .i64 kd, .int .i64 now,
          .tuple #[.pointer (some ⟨N, 0, none⟩), .int .i64 0], .pointer (some ⟨N, 0, none⟩), .int .i64 0, .int .i64 0, .bool false, undef, undef, .pointer (some ⟨N, 0, none⟩),
          .func (.func 86) #[] #[.pointer (some ⟨Bp, 0, none⟩)], .agg #[.int .i64 x.st, .int .i64 x.kd, .int .i64 x.nu], undef, undef], defers := [] })
      (fun x a' _ X Y row hs hg hr => by
        obtain ⟨Bx, b1, e⟩ := hs
        exact ⟨Bx, box_own _ Bx _ (fun (_ : Unit) => _) () X Y row b1 hg hr, e⟩)
      ?assign ?body ?done ?stop
    case assign =>
      rintro l' pre x W K ⟨rfl, ⟨b1, b2⟩, hb, hz⟩ hK
      dsimp only [eNs]
      gi_wp2
      refine hK _ _ ((KeepsOthers.alloc _ _).from _) ?_ ⟨by trivial, ⟨b1.alloc _, b2.alloc _⟩, grew1 hb, by simp; omega⟩ ⟨W.heap.size, Box.new W [.int .i64 x.st, .int .i64 x.kd, .int .i64 x.nu] _, rfl⟩
      exact Same.alloc _ (fun b hb' => by have := HRN.out; have := hb.size; have := b2.lt; simp at hb'; omega)
    case body =>
      rintro l' pre x a' W hl _ ⟨rfl, ⟨b1, b2⟩, hb, hz⟩ ⟨Bx, bX, rfl⟩ hlt
      obtain ⟨k0, k1, k2⟩ := bX.c3
      have f1 := b1.frozen
      have f2 := b2.frozen
      obtain ⟨r0, r1, r2⟩ := b1.c3
      have r3 := b2.c1
      clear bX
      gi_wp2
      refine ⟨?_, by trivial, x, rfl, ⟨?_, ?_⟩, ?_⟩
      · exact ((((KeepsOthers.setCell _ _ _).trans (KeepsOthers.setCell _ _ _)).trans (KeepsOthers.setCell _ _ _)).trans (KeepsOthers.setCell _ _ _)).from _
      · exact (((b1.set 0 _).set 1 _).set 2 _).other (by omega)
      · exact (((b2.other (by omega)).other (by omega)).other (by omega)).set 0 _
      · exact (((hb.setCell (p := ⟨R, 0, none⟩) (Nat.le_of_eq hR) _).setCell (p := ⟨R, 1, none⟩) (Nat.le_of_eq hR) _).setCell (p := ⟨R, 2, none⟩) (Nat.le_of_eq hR) _).setCell (p := ⟨R + 1, 0, none⟩) (Nat.le_succ_of_le (Nat.le_of_eq hR)) _
    case done =>
      rintro D xs W hD hS ⟨rfl, ⟨b1, b2⟩, hb, hz⟩ hK
      have f1 := b1.frozen
      have f2 := b2.frozen
      obtain ⟨r0, r1, r2⟩ := b1.c3
      have r3 := b2.c1
      rw [fre_frees] at hS
      have HP2 : Hid (p = (zeroN, 17)) := by show _ = _; rw [← HP.out]; exact next_none HA.out hS.symm
      have HD : Hid (W.heap[D]? = some (.deferred (some []))) := hK
      have hDR : wb.heap.size ≤ D := hD
      clear hS hK hD
      dsimp only [Exit.inBlock, Exit.then]
      go_wp2
      obtain ⟨W2, hW2⟩ : ∃ W2, (((W.setCell ⟨R, 0, none⟩ (.int .i64 0)).setCell ⟨R, 1, none⟩ (.int .i64 0)).setCell ⟨R, 2, none⟩ (.int .i64 0)).setCell ⟨R + 1, 0, none⟩ (.int .i64 17) = W2 := ⟨_, rfl⟩
      have c1 : Box W2 R 29 [.int .i64 0, .int .i64 0, .int .i64 0] := hW2 ▸ (((b1.set 0 (.int .i64 0)).set 1 (.int .i64 0)).set 2 (.int .i64 0)).other (by omega)
      have c2 : Box W2 (R + 1) 32 [.int .i64 17] := hW2 ▸ (((b2.other (by omega)).other (by omega)).other (by omega)).set 0 (.int .i64 17)
      have c3 : W2.heap[D]? = some (.deferred (some [])) := hW2 ▸ ((((KeepsOthers.setCell _ _ _).trans (KeepsOthers.setCell _ _ _)).trans (KeepsOthers.setCell _ _ _)).trans (KeepsOthers.setCell _ _ _)).same D _ HD.out rfl
      have c4 : Below w.heap.size w W2 := hW2 ▸ (((hb.setCell (p := ⟨R, 0, none⟩) (Nat.le_of_eq hR) _).setCell (p := ⟨R, 1, none⟩) (Nat.le_of_eq hR) _).setCell (p := ⟨R, 2, none⟩) (Nat.le_of_eq hR) _).setCell (p := ⟨R + 1, 0, none⟩) (Nat.le_succ_of_le (Nat.le_of_eq hR)) _
      rw [hW2]
      clear hW2 r0 r1 r2 r3 f1 f2
      have q1 := c1.putObj (o' := .deferred none) c3 rfl
      have q2 := c2.putObj (o' := .deferred none) c3 rfl
      obtain ⟨r0, r1, r2⟩ := q1.c3
      have r3 := q2.c1
      refine marks_ret1 (v := .tuple #[.agg #[.int .i64 0, .int .i64 0, .int .i64 0], .int .i64 17]) c3 rfl (by simp [results, Tryz.results63, go_sem, r0, r1, r2, r3]) ⟨by rw [HP2.out]; try rfl, ?_⟩
      exact c4.trans (belowK_b (w := w) (Nat.le_refl _) W2 D _ _ (by have := HB_b.size; omega) c3 rfl rfl)
    case stop =>
      rintro D c pre W hD hSp ⟨rfl, x, rfl, ⟨b1, b2⟩, hb⟩ hK
      refine wpIn_wide.2 ?_
      have HP2 : Hid (p = (x, 0)) := by
        show _ = _
        rw [← HP.out]
        rw [fre_frees] at hSp
        obtain ⟨r, hr⟩ := hSp
        exact next_some HA.out hr.symm
      clear hSp
      go_wp2
      have q1 := b1.putObj (o' := .deferred none) hK rfl
      have q2 := b2.putObj (o' := .deferred none) hK rfl
      obtain ⟨r0, r1, r2⟩ := q1.c3
      have r3 := q2.c1
      refine marks_ret1 (v := .tuple #[.agg #[.int .i64 x.st, .int .i64 x.kd, .int .i64 x.nu], .int .i64 0]) hK rfl (by simp [results, Tryz.results63, go_sem, r0, r1, r2, r3]) ⟨by rw [HP2.out]; try rfl, ?_⟩
      exact hb.trans (belowK_b (w := w) (Nat.le_refl _) W D _ _ (by have := HB_b.size; omega) hK rfl rfl)
  · have HA := Lib.hid ha
    refine (read_err _ _ _ l st kd now W0 (HS.out.below HB_W0) ha).mono ?_
    rintro e wa ⟨rfl, hb⟩
    have HP2 : Hid (p = (zeroN, asked l st kd now)) := by show _ = _; rw [← HP.out]; exact next_err HA.out
    have H_r2 := Lib.hid (H_r.out.below hb)
    have H_e2 := Lib.hid (H_e.out.below hb)
    have HB_a : Below w.heap.size w wa := after0 HB_W0 hb
    have hne : (asked l st kd now == 0) = false := beq_eq_false_iff_ne.2 ha
    obtain ⟨q, hq⟩ : ∃ q, asked l st kd now = q := ⟨_, rfl⟩
    rw [hq] at hne HP2 ⊢
    clear ha hW0 hb H_r H_e hq
    have f1 := H_r2.out.frozen
    have f2 := H_e2.out.frozen
    obtain ⟨r0, r1, r2⟩ := H_r2.out.c3
    have r3 := H_e2.out.c1
    go_wp2_with fail
    have b1 := (((((H_r2.out.set 0 (.int .i64 0)).set 1 (.int .i64 0)).set 2 (.int .i64 0)).other (b' := w.heap.size + 1) (j := 0) (v := .int .i64 q) (by omega)))
    have b2 := ((((H_e2.out.other (b' := w.heap.size) (j := 0) (v := .int .i64 0) (by omega)).other (b' := w.heap.size) (j := 1) (v := .int .i64 0) (by omega)).other (b' := w.heap.size) (j := 2) (v := .int .i64 0) (by omega))).set 0 (.int .i64 q)
    obtain ⟨s0, s1, s2⟩ := b1.c3
    have s3 := b2.c1
    refine marks_ret0 (v := .tuple #[.agg #[.int .i64 0, .int .i64 0, .int .i64 0], .int .i64 q]) (by simp [results, Tryz.results63, go_sem, s0, s1, s2, s3]) rfl ⟨by rw [HP2.out]; try rfl, ?_⟩
    exact (((HB_a.setCell (p := ⟨w.heap.size, 0, none⟩) (by simp) _).setCell (p := ⟨w.heap.size, 1, none⟩) (by simp) _).setCell (p := ⟨w.heap.size, 2, none⟩) (by simp) _).setCell (p := ⟨w.heap.size + 1, 0, none⟩) (by simp) _
end Go.Proofs.YtpdecgbfnhaojaaGreat
