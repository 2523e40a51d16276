/-
  Walks of the layer 'number': Room.
-/
import Derived.Test.YtpdecgbfnhaojaaGreatNumF
namespace Go.Proofs.YtpdecgbfnhaojaaGreat
open Go.RowKit Nb Sk Go.Sort Go.Shelf
attribute [local go_sem] Oper.semAt_some

theorem room_err {l : List Us} {st kd now : Int} (h : asked l st kd now ≠ 0) : room l st kd now = (0, asked l st kd now) := by unfold room; rw [if_pos h]
theorem room_ok {l : List Us} {st kd now : Int} (h : asked l st kd now = 0) : room l st kd now = (((frees l st kd now).length : Int), 0) := by unfold room; rw [if_neg (by simp [h])]

set_option maxRecDepth 100000 in
set_option maxHeartbeats 1000000 in
theorem room_any (ao : Option Addr) (n cap : Nat) (l : List Us) (st kd now : Int) (w : World) (hs : Sl w 5 cU ao n cap l) :
    Calls Tryz.prog 34 #[.slice ao n cap, .int .i64 st, .int .i64 kd, .int .i64 now] w (Ret w (.tuple #[.int .i64 (room l st kd now).1, .int .i64 (room l st kd now).2])) := by
  have HS := Lib.hid hs
  clear hs
  obtain ⟨p, hp⟩ : ∃ p, room l st kd now = p := ⟨_, rfl⟩
  have HP := Lib.hid hp
  rw [hp]
  clear hp
  refine (callsIn_wide (n := 10)).1 (callsIn_of_wp_marks Tryz.func34 rfl trivial (wpIn_wide.2 ?_) rfl)
  simp only [Tryz.ntmps34, List.size_toArray, List.length_cons, List.length_nil, Nat.reduceAdd, Nat.reduceSub, Array.replicate_succ, Array.replicate_zero, List.push_toArray, List.append_toArray, List.nil_append, List.cons_append]
  go_wp2_with fail
  by_cases ha : asked l st kd now = 0
  · have HA := Lib.hid ha
    have HROK := Lib.hid (rows_iff.1 (asked_zero ha).1)
    refine (read_ok _ _ _ l st kd now w HS.out ha).mono ?_
    rintro e wa ⟨N, rfl, hNw, hN, hb⟩
    have HN := Lib.hid hN
    clear ha hN
    go_wp2_with fail
    refine (free_any N _).mono ?_
    rintro e wb ⟨rfl, hwb⟩
    rw [World.size_alloc]
    obtain ⟨R, hR⟩ : ∃ R, wa.heap.size = R := ⟨_, rfl⟩
    have H_p : Hid (Box wb (R + 1) 73 [.pointer (some ⟨N, 0, none⟩)]) := by
      rw [hwb, ← hR]
      have := Box.new (wa.alloc (.cells #[.int .i64 0] 3)) [.pointer (some ⟨N, 0, none⟩)] 73
      rwa [World.size_alloc] at this
    have HN2 := Lib.hid (show Box wb N 92 _ by rw [hwb]; exact (HN.out.alloc _).alloc _)
    have H_r : Hid (Box wb R 3 [.int .i64 0]) := by rw [hwb, ← hR]; exact (Box.new wa [.int .i64 0] 3).alloc _
    have HB_b : Below w.heap.size w wb := hwb ▸ grew2 hb
    have hNlt := HN.out.lt
    have HRN : Hid (N < R ∧ wb.heap.size = R + 2 ∧ w.heap.size ≤ N ∧ w.heap.size ≤ R) := ⟨by omega, by rw [hwb]; simp [hR], hNw, by omega⟩
    rw [hR]
    clear hwb HN hb hR hNlt hNw
    go_wp2_with fail
    refine (wpIn_wide (n := 10)).1 ?_
    refine wpIn_rangeFunc_ownG rfl (by omega) (gf := 86) (lb := #[.pointer (some ⟨R + 1, 0, none⟩)]) rfl trivial (enters_of Tryz.func86 (by kernel_rfl) rfl)
      (free_stops N (R + 1) 92 73 st kd _ _ (lastNu_range HROK.out st kd) (usedL_length _ _ _ _) wb HN2.out H_p.out) same_t
      (same_b (fun b hb => by have := HRN.out; simp at hb; omega)) (Below.refl _ _) (fun _ => rfl)
      (fun pre W => Box W R 3 [.int .i64 (pre.length : Int)] ∧ Below w.heap.size w W)
      (fun _ _ _ => False)
      (OwnFrom.and (box_own _ _ _ (fun pre : List Nm => [.int .i64 (pre.length : Int)])) (ownFrom_below (Nat.le_refl _) HB_b.size))
      (fun _ _ _ _ _ hs _ _ => hs)
      ⟨H_r.out, HB_b⟩
      (fun x => { tmps := #[.slice ao n cap, .int .i64 st, .int .i64 kd, .int .i64 now, undef, undef, undef, undef, .int .i64 0, .int .i64 0, .pointer (some ⟨N, 0, none⟩),
          .int .i64 0, .pointer (some ⟨R, 0, none⟩), .tuple #[.pointer (some ⟨N, 0, none⟩), .int .i64 0], .slice ao n cap, .int .i64 st, .int .i64 kd, .int .i64 now,
          .tuple #[.pointer (some ⟨N, 0, none⟩), .int .i64 0], .pointer (some ⟨N, 0, none⟩), .int .i64 0, .int .i64 0, .bool false, undef, .pointer (some ⟨N, 0, none⟩),
          .func (.func 86) #[] #[.pointer (some ⟨R + 1, 0, none⟩)], .agg #[.int .i64 x.st, .int .i64 x.kd, .int .i64 x.nu], undef, undef, undef], defers := [] })
      ?assign ?body ?done ?stop
    case assign =>
      intro l' x W K hK
      dsimp only [eNs]
      gi_wp2
      simpa using hK
    case body =>
      rintro l' pre x W ⟨b1, hb⟩ hlt
      have f1 := b1.frozen
      have r0 := b1.c1
      have hlt' : (pre.length : Int) < 99 := by omega
      gi_wp2
      have hRN := HRN.out
      refine ⟨(KeepsOthers.setCell _ _ _).from _, (Same.refl _ _).setCell (fun b hb => by simp at hb; omega), ?_, hb.setCell (p := ⟨R, 0, none⟩) hRN.2.2.2 _⟩
      have := b1.set 0 (.int .i64 ((pre.length : Int) + 1))
      simpa using this
    case done =>
      rintro D xs W hD hS ⟨b1, hb⟩ hK
      have HP2 : Hid (p = ((xs.length : Int), 0)) := by show _ = _; rw [← HP.out, room_ok HA.out, hS, fre_frees]
      have r0 := b1.c1
      clear hS
      dsimp only [Exit.inBlock, Exit.then]
      go_wp2
      refine marks_ret1 (v := .tuple #[.int .i64 (xs.length : Int), .int .i64 0]) hK rfl (by simp [results, Tryz.results34, go_sem]) ⟨by rw [HP2.out]; try rfl, ?_⟩
      exact hb.trans (belowK_b (w := w) (Nat.le_refl _) W D _ _ (by have := HB_b.size; omega) hK rfl rfl)
    case stop =>
      rintro D c pre W hD _ h _
      exact h.elim
  · have HA := Lib.hid ha
    refine (read_err _ _ _ l st kd now w HS.out ha).mono ?_
    rintro e wa ⟨rfl, hb⟩
    have HP2 : Hid (p = (0, asked l st kd now)) := by show _ = _; rw [← HP.out]; exact room_err HA.out
    have hne : (asked l st kd now == 0) = false := beq_eq_false_iff_ne.2 ha
    obtain ⟨q, hq⟩ : ∃ q, asked l st kd now = q := ⟨_, rfl⟩
    rw [hq] at hne HP2 ⊢
    clear ha hq
    go_wp2_with fail
    refine marks_ret0 (v := .tuple #[.int .i64 0, .int .i64 q]) (by simp [results, Tryz.results34, go_sem]) rfl ⟨by rw [HP2.out]; try rfl, hb⟩
end Go.Proofs.YtpdecgbfnhaojaaGreat
