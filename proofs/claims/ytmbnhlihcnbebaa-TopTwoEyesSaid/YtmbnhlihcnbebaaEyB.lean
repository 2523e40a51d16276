/-
  Walks of the layer 'eyes': boxes of layer 2.
-/
import Derived.Test.YtmbnhlihcnbebaaEyA
set_option linter.unusedVariables false
namespace Ey
theorem boxB_eq (b : Bx) : boxB b = (decide ((within b.a b.b (-1000000) 1000000).2 = 0) && decide ((within b.c b.d (-1000000) 1000000).2 = 0) && (within b.a b.b (-1000000) 1000000).1 && (within b.c b.d (-1000000) 1000000).1) := by
  have key : ∀ a b : Int, within a b (-1000000) 1000000 = if spanB a b = true then (decide (-1000000 ≤ a ∧ b ≤ 1000000), 0) else (false, 1) := fun a b => by
    unfold within
    cases h : spanB a b with
    | false => rw [join_bad (.inl h)]; simp
    | true =>
      rw [join_ok h (by decide)]
      have e : ((min a (-1000000), max b 1000000) = ((-1000000 : Int), (1000000 : Int))) ↔ (-1000000 ≤ a ∧ b ≤ 1000000) := by rw [Prod.mk.injEq]; omega
      simp [e]
  rw [key, key]
  unfold boxB
  rw [Bool.eq_iff_iff]
  have e1 : spanB b.a b.b = true ↔ (-1000000000000 ≤ b.a ∧ b.a ≤ b.b ∧ b.b ≤ 1000000000000) := by simp [spanB]
  have e2 : spanB b.c b.d = true ↔ (-1000000000000 ≤ b.c ∧ b.c ≤ b.d ∧ b.d ≤ 1000000000000) := by simp [spanB]
  by_cases h1 : spanB b.a b.b = true
  · by_cases h2 : spanB b.c b.d = true
    · rw [if_pos h1, if_pos h2]
      have h1' := e1.1 h1
      have h2' := e2.1 h2
      simp
      omega
    · rw [if_pos h1, if_neg h2]
      constructor
      · intro h
        have := of_decide_eq_true h
        exact absurd (e2.2 (by omega)) h2
      · intro h; simp at h
  · rw [if_neg h1]
    constructor
    · intro h
      have := of_decide_eq_true h
      exact absurd (e1.2 (by omega)) h1
    · intro h; simp at h
def joinB (a b : Bx) : Bx := ⟨min a.a b.a, max a.b b.b, min a.c b.c, max a.d b.d⟩
def boxesR (a b : Bx) : Bx × Int := if boxB a && boxB b then (joinB a b, 0) else (bx0, 1)
theorem boxesR_bad {a b : Bx} (h : boxB a = false ∨ boxB b = false) : boxesR a b = (bx0, 1) := by rcases h with h | h <;> simp [boxesR, h]
theorem boxesR_ok {a b : Bx} (h1 : boxB a = true) (h2 : boxB b = true) : boxesR a b = (joinB a b, 0) ∧ join a.a a.b b.a b.b = ((min a.a b.a, max a.b b.b), 0) ∧ join a.c a.d b.c b.d = ((min a.c b.c, max a.d b.d), 0) := by
  have e1 := h1
  have e2 := h2
  simp [boxB] at e1 e2
  refine ⟨by simp [boxesR, h1, h2], join_ok ?_ ?_, join_ok ?_ ?_⟩ <;> (simp [spanB]; omega)
def withinB (a b : Bx) : Bool × Int := (decide ((boxesR a b).2 = 0 ∧ (boxesR a b).1 = b), (boxesR a b).2)
theorem withinB_in {x y : Int} (b : Bx) (h : boxB ⟨x, x, y, y⟩ = true) : (withinB ⟨x, x, y, y⟩ b).1 = inB b x y := by
  unfold withinB inB
  cases hb : boxB b with
  | false => rw [boxesR_bad (.inr hb)]; simp
  | true =>
    rw [(boxesR_ok h hb).1]
    obtain ⟨a, c, d, e⟩ := b
    simp [boxB] at hb h
    rw [Bool.eq_iff_iff]
    simp [joinB]
    omega
end Ey
namespace Go.Proofs.Ytmbnhlihcnbebaa
open Go Go.RowKit Ey Sk

set_option maxRecDepth 100000 in
set_option maxHeartbeats 4000000 in
theorem validBox_any (b : Bx) (w : World) : Calls Try.prog 52 #[eB b] w (Ret w (.bool (boxB b))) := by
  obtain ⟨a0, a1, a2, a3⟩ := b
  have HP := Lib.hid (boxB_eq ⟨a0, a1, a2, a3⟩)
  have HX := Lib.hid (fun W => within_any a0 a1 (-1000000) 1000000 W)
  have HY := Lib.hid (fun W => within_any a2 a3 (-1000000) 1000000 W)
  dsimp only at HP
  generalize boxB ⟨a0, a1, a2, a3⟩ = p at *
  generalize within a0 a1 (-1000000) 1000000 = r at *
  generalize within a2 a3 (-1000000) 1000000 = s at *
  obtain ⟨x, e⟩ := r
  obtain ⟨y, f⟩ := s
  obtain ⟨W0, hW0, HB_W0, hZ, hn, hm⟩ := boxes2 w [.int .i64 a0, .int .i64 a1, .int .i64 a2, .int .i64 a3] [.int .i64 (-1000000), .int .i64 1000000] 31 29
  have H_n := Lib.hid hn
  have H_m := Lib.hid hm
  clear hn hm hZ
  obtain ⟨q_n_0, q_n_1, q_n_2, q_n_3⟩ := H_n.out.c4
  obtain ⟨q_m_0, q_m_1⟩ := H_m.out.c2
  dsimp only [eB]
  go_enter Try.func52, Try.ntmps52
  go_wp2_with fail
  refine (HX.out _).mono ?_
  rintro e wa ⟨rfl, hb_wa⟩
  have HB_wa : Below w.heap.size w wa := by first | exact after0 HB_W0 hb_wa | exact after1 HB_W0 hb_wa | exact after2 HB_W0 hb_wa | exact after3 HB_W0 hb_wa | exact after4 HB_W0 hb_wa | exact after5 HB_W0 hb_wa
  try clear q_n_0 q_n_1 q_n_2 q_n_3
  have H_n := Lib.hid (Box.below (by first | exact H_n.out | exact H_n.out.alloc _ | exact (H_n.out.alloc _).alloc _ | exact ((H_n.out.alloc _).alloc _).alloc _) hb_wa)
  obtain ⟨q_n_0, q_n_1, q_n_2, q_n_3⟩ := H_n.out.c4
  try clear q_m_0 q_m_1
  have H_m := Lib.hid (Box.below (by first | exact H_m.out | exact H_m.out.alloc _ | exact (H_m.out.alloc _).alloc _ | exact ((H_m.out.alloc _).alloc _).alloc _) hb_wa)
  obtain ⟨q_m_0, q_m_1⟩ := H_m.out.c2
  clear hW0
  go_wp2_with fail
  refine (HY.out _).mono ?_
  rintro e wb ⟨rfl, hb_wb⟩
  have HB_wb : Below w.heap.size w wb := by first | exact after0 HB_wa hb_wb | exact after1 HB_wa hb_wb | exact after2 HB_wa hb_wb | exact after3 HB_wa hb_wb | exact after4 HB_wa hb_wb | exact after5 HB_wa hb_wb
  try clear q_n_0 q_n_1 q_n_2 q_n_3
  have H_n := Lib.hid (Box.below (by first | exact H_n.out | exact H_n.out.alloc _ | exact (H_n.out.alloc _).alloc _ | exact ((H_n.out.alloc _).alloc _).alloc _) hb_wb)
  obtain ⟨q_n_0, q_n_1, q_n_2, q_n_3⟩ := H_n.out.c4
  try clear q_m_0 q_m_1
  have H_m := Lib.hid (Box.below (by first | exact H_m.out | exact H_m.out.alloc _ | exact (H_m.out.alloc _).alloc _ | exact ((H_m.out.alloc _).alloc _).alloc _) hb_wb)
  obtain ⟨q_m_0, q_m_1⟩ := H_m.out.c2
  clear HX HY
  by_cases he : e = 0
  · subst he
    by_cases hf : f = 0
    · subst hf
      cases x <;> cases y
      all_goals
        have HQ := Lib.hid HP.out
        go_wp2_with fail
        go_ret
        exact ⟨ret_bool' HQ.out.symm, HB_wb⟩
    · have hf2 : (f == 0) = false := beq_eq_false_iff_ne.2 hf
      have HQ := Lib.hid (show p = false by rw [HP.out]; simp [hf])
      clear hf HP
      go_wp2_with fail
      go_ret
      exact ⟨ret_bool' HQ.out.symm, HB_wb⟩
  · have he2 : (e == 0) = false := beq_eq_false_iff_ne.2 he
    have HQ := Lib.hid (show p = false by rw [HP.out]; simp [he])
    clear he HP
    go_wp2_with fail
    go_ret
    exact ⟨ret_bool' HQ.out.symm, HB_wb⟩

abbrev eQ (p : Bx × Int) : Value := .tuple #[.agg #[.int .i64 p.1.a, .int .i64 p.1.b, .int .i64 p.1.c, .int .i64 p.1.d], .int .i64 p.2]

set_option maxRecDepth 100000 in
set_option maxHeartbeats 8000000 in
theorem boxes_any (a b : Bx) (w : World) : Calls Try.prog 99 #[eB a, eB b, .func (.func 89) #[] #[]] w (Ret w (eQ (boxesR a b))) := by
  have HBAD := Lib.hid (@boxesR_bad a b)
  have HOK := Lib.hid (@boxesR_ok a b)
  have HV1 := Lib.hid (fun W => validBox_any a W)
  have HV2 := Lib.hid (fun W => validBox_any b W)
  have HJ1 := Lib.hid (fun W => join_any a.a a.b b.a b.b W)
  have HJ2 := Lib.hid (fun W => join_any a.c a.d b.c b.d W)
  obtain ⟨a0, a1, a2, a3⟩ := a
  obtain ⟨b0, b1, b2, b3⟩ := b
  dsimp only [eB] at HV1 HV2 HJ1 HJ2 HOK HBAD ⊢
  generalize boxesR ⟨a0, a1, a2, a3⟩ ⟨b0, b1, b2, b3⟩ = p at *
  obtain ⟨W0, hW0, HB_W0, hZ, hn, hm, hr⟩ := boxes3 w [.int .i64 a0, .int .i64 a1, .int .i64 a2, .int .i64 a3] [.int .i64 b0, .int .i64 b1, .int .i64 b2, .int .i64 b3] [.int .i64 0, .int .i64 0, .int .i64 0, .int .i64 0] 31 31 31
  have H_n := Lib.hid hn
  have H_m := Lib.hid hm
  have H_r : Hid (Box W0 (w.heap.size + 1 + 1) 31 [.int .i64 0, .int .i64 0, .int .i64 0, .int .i64 0]) := hr
  clear hn hm hr hZ
  obtain ⟨q_n_0, q_n_1, q_n_2, q_n_3⟩ := H_n.out.c4
  obtain ⟨q_m_0, q_m_1, q_m_2, q_m_3⟩ := H_m.out.c4
  go_enter Try.func99, Try.ntmps99
  go_wp2_with fail
  refine (HV1.out _).mono ?_
  rintro e wa ⟨rfl, hb_wa⟩
  have HB_wa : Below w.heap.size w wa := by first | exact after0 HB_W0 hb_wa | exact after1 HB_W0 hb_wa | exact after2 HB_W0 hb_wa | exact after3 HB_W0 hb_wa | exact after4 HB_W0 hb_wa | exact after5 HB_W0 hb_wa
  try clear q_n_0 q_n_1 q_n_2 q_n_3
  have H_n := Lib.hid (Box.below (by first | exact H_n.out | exact H_n.out.alloc _ | exact (H_n.out.alloc _).alloc _ | exact ((H_n.out.alloc _).alloc _).alloc _) hb_wa)
  obtain ⟨q_n_0, q_n_1, q_n_2, q_n_3⟩ := H_n.out.c4
  try clear q_m_0 q_m_1 q_m_2 q_m_3
  have H_m := Lib.hid (Box.below (by first | exact H_m.out | exact H_m.out.alloc _ | exact (H_m.out.alloc _).alloc _ | exact ((H_m.out.alloc _).alloc _).alloc _) hb_wa)
  obtain ⟨q_m_0, q_m_1, q_m_2, q_m_3⟩ := H_m.out.c4
  try clear q_r_0 q_r_1 q_r_2 q_r_3
  have H_r := Lib.hid (Box.below (by first | exact H_r.out | exact H_r.out.alloc _ | exact (H_r.out.alloc _).alloc _ | exact ((H_r.out.alloc _).alloc _).alloc _) hb_wa)
  obtain ⟨q_r_0, q_r_1, q_r_2, q_r_3⟩ := H_r.out.c4
  clear hW0
  cases h1 : boxB ⟨a0, a1, a2, a3⟩
  · have HP := Lib.hid (HBAD.out (.inl h1))
    clear h1 HBAD HOK HV1 HV2 HJ1 HJ2
    have f1 := H_r.out.frozen
    go_wp2_with fail
    obtain ⟨s0, s1, s2, s3⟩ := ((((H_r.out.set 0 (.int .i64 (0))).set 1 (.int .i64 (0))).set 2 (.int .i64 (0))).set 3 (.int .i64 (0))).c4
    refine bodyPost_ret (v := .tuple #[.agg #[.int .i64 (0), .int .i64 (0), .int .i64 (0), .int .i64 (0)], .int .i64 (1)]) (by simp [results, Try.results99, go_sem, s0, s1, s2, s3]) rfl ?_
    exact ⟨by first | (rw [HP.out]; rfl) | rfl, (((HB_wa.setCell (p := ⟨w.heap.size + 1 + 1, 0, none⟩) (by simp; omega) _).setCell (p := ⟨w.heap.size + 1 + 1, 1, none⟩) (by simp; omega) _).setCell (p := ⟨w.heap.size + 1 + 1, 2, none⟩) (by simp; omega) _).setCell (p := ⟨w.heap.size + 1 + 1, 3, none⟩) (by simp; omega) _⟩
  go_wp2_with fail
  refine (HV2.out _).mono ?_
  rintro e wb ⟨rfl, hb_wb⟩
  have HB_wb : Below w.heap.size w wb := by first | exact after0 HB_wa hb_wb | exact after1 HB_wa hb_wb | exact after2 HB_wa hb_wb | exact after3 HB_wa hb_wb | exact after4 HB_wa hb_wb | exact after5 HB_wa hb_wb
  try clear q_n_0 q_n_1 q_n_2 q_n_3
  have H_n := Lib.hid (Box.below (by first | exact H_n.out | exact H_n.out.alloc _ | exact (H_n.out.alloc _).alloc _ | exact ((H_n.out.alloc _).alloc _).alloc _) hb_wb)
  obtain ⟨q_n_0, q_n_1, q_n_2, q_n_3⟩ := H_n.out.c4
  try clear q_m_0 q_m_1 q_m_2 q_m_3
  have H_m := Lib.hid (Box.below (by first | exact H_m.out | exact H_m.out.alloc _ | exact (H_m.out.alloc _).alloc _ | exact ((H_m.out.alloc _).alloc _).alloc _) hb_wb)
  obtain ⟨q_m_0, q_m_1, q_m_2, q_m_3⟩ := H_m.out.c4
  try clear q_r_0 q_r_1 q_r_2 q_r_3
  have H_r := Lib.hid (Box.below (by first | exact H_r.out | exact H_r.out.alloc _ | exact (H_r.out.alloc _).alloc _ | exact ((H_r.out.alloc _).alloc _).alloc _) hb_wb)
  obtain ⟨q_r_0, q_r_1, q_r_2, q_r_3⟩ := H_r.out.c4
  cases h2 : boxB ⟨b0, b1, b2, b3⟩
  · have HP := Lib.hid (HBAD.out (.inr h2))
    clear h1 h2 HBAD HOK HV1 HV2 HJ1 HJ2
    have f1 := H_r.out.frozen
    go_wp2_with fail
    obtain ⟨s0, s1, s2, s3⟩ := ((((H_r.out.set 0 (.int .i64 (0))).set 1 (.int .i64 (0))).set 2 (.int .i64 (0))).set 3 (.int .i64 (0))).c4
    refine bodyPost_ret (v := .tuple #[.agg #[.int .i64 (0), .int .i64 (0), .int .i64 (0), .int .i64 (0)], .int .i64 (1)]) (by simp [results, Try.results99, go_sem, s0, s1, s2, s3]) rfl ?_
    exact ⟨by first | (rw [HP.out]; rfl) | rfl, (((HB_wb.setCell (p := ⟨w.heap.size + 1 + 1, 0, none⟩) (by simp; omega) _).setCell (p := ⟨w.heap.size + 1 + 1, 1, none⟩) (by simp; omega) _).setCell (p := ⟨w.heap.size + 1 + 1, 2, none⟩) (by simp; omega) _).setCell (p := ⟨w.heap.size + 1 + 1, 3, none⟩) (by simp; omega) _⟩
  obtain ⟨hp, j1, j2⟩ := HOK.out h1 h2
  have HP := Lib.hid hp
  rw [j1] at HJ1
  rw [j2] at HJ2
  clear h1 h2 hp j1 j2 HBAD HOK HV1 HV2
  go_wp2_with fail
  refine (HJ1.out _).mono ?_
  rintro e wc ⟨rfl, hb_wc⟩
  have HB_wc : Below w.heap.size w wc := by first | exact after0 HB_wb hb_wc | exact after1 HB_wb hb_wc | exact after2 HB_wb hb_wc | exact after3 HB_wb hb_wc | exact after4 HB_wb hb_wc | exact after5 HB_wb hb_wc
  try clear q_n_0 q_n_1 q_n_2 q_n_3
  have H_n := Lib.hid (Box.below (by first | exact H_n.out | exact H_n.out.alloc _ | exact (H_n.out.alloc _).alloc _ | exact ((H_n.out.alloc _).alloc _).alloc _) hb_wc)
  obtain ⟨q_n_0, q_n_1, q_n_2, q_n_3⟩ := H_n.out.c4
  try clear q_m_0 q_m_1 q_m_2 q_m_3
  have H_m := Lib.hid (Box.below (by first | exact H_m.out | exact H_m.out.alloc _ | exact (H_m.out.alloc _).alloc _ | exact ((H_m.out.alloc _).alloc _).alloc _) hb_wc)
  obtain ⟨q_m_0, q_m_1, q_m_2, q_m_3⟩ := H_m.out.c4
  try clear q_r_0 q_r_1 q_r_2 q_r_3
  have H_r := Lib.hid (Box.below (by first | exact H_r.out | exact H_r.out.alloc _ | exact (H_r.out.alloc _).alloc _ | exact ((H_r.out.alloc _).alloc _).alloc _) hb_wc)
  obtain ⟨q_r_0, q_r_1, q_r_2, q_r_3⟩ := H_r.out.c4
  obtain ⟨W1, hW1, hB1, hZ1, hb1⟩ := boxes1 wc [.int .i64 (min a0 b0), .int .i64 (max a1 b1)] 29
  have H_s := Lib.hid hb1
  have HB_W1 : Below w.heap.size w W1 := after0 HB_wc hB1
  replace H_n := Lib.hid (H_n.out.below hB1)
  replace H_m := Lib.hid (H_m.out.below hB1)
  replace H_r := Lib.hid (H_r.out.below hB1)
  clear hb1 hZ1 hB1 q_n_0 q_n_1 q_n_2 q_n_3 q_m_0 q_m_1 q_m_2 q_m_3 q_r_0 q_r_1 q_r_2 q_r_3 HJ1
  obtain ⟨q_n_0, q_n_1, q_n_2, q_n_3⟩ := H_n.out.c4
  obtain ⟨q_m_0, q_m_1, q_m_2, q_m_3⟩ := H_m.out.c4
  go_wp2_with fail
  clear hW1
  refine (HJ2.out _).mono ?_
  rintro e wd ⟨rfl, hb_wd⟩
  have HB_wd : Below w.heap.size w wd := by first | exact after0 HB_W1 hb_wd | exact after1 HB_W1 hb_wd | exact after2 HB_W1 hb_wd | exact after3 HB_W1 hb_wd | exact after4 HB_W1 hb_wd | exact after5 HB_W1 hb_wd
  try clear q_n_0 q_n_1 q_n_2 q_n_3
  have H_n := Lib.hid (Box.below (by first | exact H_n.out | exact H_n.out.alloc _ | exact (H_n.out.alloc _).alloc _ | exact ((H_n.out.alloc _).alloc _).alloc _) hb_wd)
  obtain ⟨q_n_0, q_n_1, q_n_2, q_n_3⟩ := H_n.out.c4
  try clear q_m_0 q_m_1 q_m_2 q_m_3
  have H_m := Lib.hid (Box.below (by first | exact H_m.out | exact H_m.out.alloc _ | exact (H_m.out.alloc _).alloc _ | exact ((H_m.out.alloc _).alloc _).alloc _) hb_wd)
  obtain ⟨q_m_0, q_m_1, q_m_2, q_m_3⟩ := H_m.out.c4
  try clear q_r_0 q_r_1 q_r_2 q_r_3
  have H_r := Lib.hid (Box.below (by first | exact H_r.out | exact H_r.out.alloc _ | exact (H_r.out.alloc _).alloc _ | exact ((H_r.out.alloc _).alloc _).alloc _) hb_wd)
  obtain ⟨q_r_0, q_r_1, q_r_2, q_r_3⟩ := H_r.out.c4
  try clear q_s_0 q_s_1
  have H_s := Lib.hid (Box.below (by first | exact H_s.out | exact H_s.out.alloc _ | exact (H_s.out.alloc _).alloc _ | exact ((H_s.out.alloc _).alloc _).alloc _) hb_wd)
  obtain ⟨q_s_0, q_s_1⟩ := H_s.out.c2
  obtain ⟨W2, hW2, hB2, hZ2, hb2⟩ := boxes1 wd [.int .i64 (min a2 b2), .int .i64 (max a3 b3)] 29
  have H_t := Lib.hid hb2
  have HB_W2 : Below w.heap.size w W2 := after0 HB_wd hB2
  replace H_s := Lib.hid (H_s.out.below hB2)
  replace H_r := Lib.hid (H_r.out.below hB2)
  clear hb2 hZ2 hB2 q_n_0 q_n_1 q_n_2 q_n_3 q_m_0 q_m_1 q_m_2 q_m_3 q_r_0 q_r_1 q_r_2 q_r_3 q_s_0 q_s_1 HJ2
  obtain ⟨q_s_0, q_s_1⟩ := H_s.out.c2
  obtain ⟨q_t_0, q_t_1⟩ := H_t.out.c2
  obtain ⟨q_r_0, q_r_1, q_r_2, q_r_3⟩ := H_r.out.c4
  have f1 := H_r.out.frozen
  go_wp2_with fail
  obtain ⟨s0, s1, s2, s3⟩ := ((((H_r.out.set 0 (.int .i64 (min a0 b0))).set 1 (.int .i64 (max a1 b1))).set 2 (.int .i64 (min a2 b2))).set 3 (.int .i64 (max a3 b3))).c4
  refine bodyPost_ret (v := .tuple #[.agg #[.int .i64 (min a0 b0), .int .i64 (max a1 b1), .int .i64 (min a2 b2), .int .i64 (max a3 b3)], .int .i64 (0)]) (by simp [results, Try.results99, go_sem, s0, s1, s2, s3]) rfl ?_
  exact ⟨by first | (rw [HP.out]; rfl) | rfl, (((HB_W2.setCell (p := ⟨w.heap.size + 1 + 1, 0, none⟩) (by simp; omega) _).setCell (p := ⟨w.heap.size + 1 + 1, 1, none⟩) (by simp; omega) _).setCell (p := ⟨w.heap.size + 1 + 1, 2, none⟩) (by simp; omega) _).setCell (p := ⟨w.heap.size + 1 + 1, 3, none⟩) (by simp; omega) _⟩

set_option maxRecDepth 100000 in
set_option maxHeartbeats 8000000 in
theorem joinBox_any (a b : Bx) (w : World) : Calls Try.prog 90 #[eB a, eB b] w (Ret w (eQ (boxesR a b))) := by
  have HJ := Lib.hid (fun W => boxes_any a b W)
  obtain ⟨a0, a1, a2, a3⟩ := a
  obtain ⟨b0, b1, b2, b3⟩ := b
  dsimp only [eB] at HJ ⊢
  generalize boxesR ⟨a0, a1, a2, a3⟩ ⟨b0, b1, b2, b3⟩ = p at *
  obtain ⟨⟨p0, p1, p2, p3⟩, q⟩ := p
  obtain ⟨W0, hW0, HB_W0, hZ, hn, hm, hr⟩ := boxes3 w [.int .i64 a0, .int .i64 a1, .int .i64 a2, .int .i64 a3] [.int .i64 b0, .int .i64 b1, .int .i64 b2, .int .i64 b3] [.int .i64 0, .int .i64 0, .int .i64 0, .int .i64 0] 31 31 31
  have H_n := Lib.hid hn
  have H_m := Lib.hid hm
  have H_r : Hid (Box W0 (w.heap.size + 1 + 1) 31 [.int .i64 0, .int .i64 0, .int .i64 0, .int .i64 0]) := hr
  have HP : Hid (((⟨p0, p1, p2, p3⟩ : Bx), q) = (⟨p0, p1, p2, p3⟩, q)) := rfl
  clear hn hm hr hZ
  obtain ⟨q_n_0, q_n_1, q_n_2, q_n_3⟩ := H_n.out.c4
  obtain ⟨q_m_0, q_m_1, q_m_2, q_m_3⟩ := H_m.out.c4
  go_enter Try.func90, Try.ntmps90
  go_wp2_with fail
  refine (HJ.out _).mono ?_
  rintro e wa ⟨rfl, hb_wa⟩
  have HB_wa : Below w.heap.size w wa := by first | exact after0 HB_W0 hb_wa | exact after1 HB_W0 hb_wa | exact after2 HB_W0 hb_wa | exact after3 HB_W0 hb_wa | exact after4 HB_W0 hb_wa | exact after5 HB_W0 hb_wa
  try clear q_n_0 q_n_1 q_n_2 q_n_3
  have H_n := Lib.hid (Box.below (by first | exact H_n.out | exact H_n.out.alloc _ | exact (H_n.out.alloc _).alloc _ | exact ((H_n.out.alloc _).alloc _).alloc _) hb_wa)
  obtain ⟨q_n_0, q_n_1, q_n_2, q_n_3⟩ := H_n.out.c4
  try clear q_m_0 q_m_1 q_m_2 q_m_3
  have H_m := Lib.hid (Box.below (by first | exact H_m.out | exact H_m.out.alloc _ | exact (H_m.out.alloc _).alloc _ | exact ((H_m.out.alloc _).alloc _).alloc _) hb_wa)
  obtain ⟨q_m_0, q_m_1, q_m_2, q_m_3⟩ := H_m.out.c4
  try clear q_r_0 q_r_1 q_r_2 q_r_3
  have H_r := Lib.hid (Box.below (by first | exact H_r.out | exact H_r.out.alloc _ | exact (H_r.out.alloc _).alloc _ | exact ((H_r.out.alloc _).alloc _).alloc _) hb_wa)
  obtain ⟨q_r_0, q_r_1, q_r_2, q_r_3⟩ := H_r.out.c4
  clear hW0
  have f1 := H_r.out.frozen
  go_wp2_with fail
  obtain ⟨s0, s1, s2, s3⟩ := ((((H_r.out.set 0 (.int .i64 (p0))).set 1 (.int .i64 (p1))).set 2 (.int .i64 (p2))).set 3 (.int .i64 (p3))).c4
  refine bodyPost_ret (v := .tuple #[.agg #[.int .i64 (p0), .int .i64 (p1), .int .i64 (p2), .int .i64 (p3)], .int .i64 (q)]) (by simp [results, Try.results90, go_sem, s0, s1, s2, s3]) rfl ?_
  exact ⟨by first | (rw [HP.out]; rfl) | rfl, (((HB_wa.setCell (p := ⟨w.heap.size + 1 + 1, 0, none⟩) (by simp; omega) _).setCell (p := ⟨w.heap.size + 1 + 1, 1, none⟩) (by simp; omega) _).setCell (p := ⟨w.heap.size + 1 + 1, 2, none⟩) (by simp; omega) _).setCell (p := ⟨w.heap.size + 1 + 1, 3, none⟩) (by simp; omega) _⟩

set_option maxRecDepth 100000 in
set_option maxHeartbeats 8000000 in
theorem withinBox_any (a b : Bx) (w : World) : Calls Try.prog 71 #[eB a, eB b] w (Ret w (.tuple #[.bool (withinB a b).1, .int .i64 (withinB a b).2])) := by
  have HJ := Lib.hid (fun W => joinBox_any a b W)
  have HW := Lib.hid (show withinB a b = (decide ((boxesR a b).2 = 0 ∧ (boxesR a b).1 = b), (boxesR a b).2) from rfl)
  obtain ⟨a0, a1, a2, a3⟩ := a
  obtain ⟨b0, b1, b2, b3⟩ := b
  dsimp only [eB] at HJ ⊢
  generalize withinB ⟨a0, a1, a2, a3⟩ ⟨b0, b1, b2, b3⟩ = r at *
  generalize boxesR ⟨a0, a1, a2, a3⟩ ⟨b0, b1, b2, b3⟩ = p at *
  obtain ⟨⟨p0, p1, p2, p3⟩, e⟩ := p
  dsimp only at HW
  obtain ⟨W0, hW0, HB_W0, hZ, hn, hm⟩ := boxes2 w [.int .i64 a0, .int .i64 a1, .int .i64 a2, .int .i64 a3] [.int .i64 b0, .int .i64 b1, .int .i64 b2, .int .i64 b3] 31 31
  have H_n := Lib.hid hn
  have H_m := Lib.hid hm
  clear hn hm hZ
  obtain ⟨q_n_0, q_n_1, q_n_2, q_n_3⟩ := H_n.out.c4
  obtain ⟨q_m_0, q_m_1, q_m_2, q_m_3⟩ := H_m.out.c4
  go_enter Try.func71, Try.ntmps71
  go_wp2_with fail
  refine (HJ.out _).mono ?_
  rintro e wa ⟨rfl, hb_wa⟩
  have HB_wa : Below w.heap.size w wa := by first | exact after0 HB_W0 hb_wa | exact after1 HB_W0 hb_wa | exact after2 HB_W0 hb_wa | exact after3 HB_W0 hb_wa | exact after4 HB_W0 hb_wa | exact after5 HB_W0 hb_wa
  try clear q_n_0 q_n_1 q_n_2 q_n_3
  have H_n := Lib.hid (Box.below (by first | exact H_n.out | exact H_n.out.alloc _ | exact (H_n.out.alloc _).alloc _ | exact ((H_n.out.alloc _).alloc _).alloc _) hb_wa)
  obtain ⟨q_n_0, q_n_1, q_n_2, q_n_3⟩ := H_n.out.c4
  try clear q_m_0 q_m_1 q_m_2 q_m_3
  have H_m := Lib.hid (Box.below (by first | exact H_m.out | exact H_m.out.alloc _ | exact (H_m.out.alloc _).alloc _ | exact ((H_m.out.alloc _).alloc _).alloc _) hb_wa)
  obtain ⟨q_m_0, q_m_1, q_m_2, q_m_3⟩ := H_m.out.c4
  clear hW0
  obtain ⟨W1, hW1, hB1, hZ1, hb1⟩ := boxes1 wa [.int .i64 p0, .int .i64 p1, .int .i64 p2, .int .i64 p3] 31
  have H_s := Lib.hid hb1
  have HB_W1 : Below w.heap.size w W1 := after0 HB_wa hB1
  replace H_m := Lib.hid (H_m.out.below hB1)
  clear hb1 hZ1 hB1 q_n_0 q_n_1 q_n_2 q_n_3 q_m_0 q_m_1 q_m_2 q_m_3 HJ
  obtain ⟨q_s_0, q_s_1, q_s_2, q_s_3⟩ := H_s.out.c4
  obtain ⟨q_m_0, q_m_1, q_m_2, q_m_3⟩ := H_m.out.c4
  by_cases he : e = 0
  · have hq := eql_box p0 p1 p2 p3 b0 b1 b2 b3
    have HP := Lib.hid (show r = (decide ((⟨p0, p1, p2, p3⟩ : Bx) = ⟨b0, b1, b2, b3⟩), 0) by rw [HW.out]; simp [he])
    subst he
    generalize decide ((⟨p0, p1, p2, p3⟩ : Bx) = ⟨b0, b1, b2, b3⟩) = q at *
    go_wp2_with fail
    go_ret2
    exact ⟨by rw [HP.out]; rfl, HB_W1⟩
  · have HP := Lib.hid (show r = (false, e) by rw [HW.out]; simp [he])
    have he2 : (e == 0) = false := beq_eq_false_iff_ne.2 he
    clear he
    go_wp2_with fail
    go_ret2
    exact ⟨by rw [HP.out]; rfl, HB_W1⟩

set_option maxRecDepth 100000 in
set_option maxHeartbeats 8000000 in
theorem inBox_any (x y : Int) (b : Bx) (w : World) : Calls Try.prog 53 #[.agg #[.int .i64 x, .int .i64 y], eB b] w (Ret w (.tuple #[.bool (withinB ⟨x, x, y, y⟩ b).1, .int .i64 (withinB ⟨x, x, y, y⟩ b).2])) := by
  have HJ := Lib.hid (fun W => withinBox_any ⟨x, x, y, y⟩ b W)
  obtain ⟨b0, b1, b2, b3⟩ := b
  dsimp only [eB] at HJ ⊢
  generalize withinB ⟨x, x, y, y⟩ ⟨b0, b1, b2, b3⟩ = r at *
  obtain ⟨p, e⟩ := r
  obtain ⟨W0, hW0, HB_W0, hZ, hn, hm⟩ := boxes2 w [.int .i64 x, .int .i64 y] [.int .i64 b0, .int .i64 b1, .int .i64 b2, .int .i64 b3] 49 31
  have H_n := Lib.hid hn
  have H_m := Lib.hid hm
  clear hn hm hZ
  obtain ⟨q_n_0, q_n_1⟩ := H_n.out.c2
  obtain ⟨q_m_0, q_m_1, q_m_2, q_m_3⟩ := H_m.out.c4
  go_enter Try.func53, Try.ntmps53
  go_wp2_with fail
  refine (HJ.out _).mono ?_
  rintro e wa ⟨rfl, hb_wa⟩
  have HB_wa : Below w.heap.size w wa := by first | exact after0 HB_W0 hb_wa | exact after1 HB_W0 hb_wa | exact after2 HB_W0 hb_wa | exact after3 HB_W0 hb_wa | exact after4 HB_W0 hb_wa | exact after5 HB_W0 hb_wa
  try clear q_n_0 q_n_1
  have H_n := Lib.hid (Box.below (by first | exact H_n.out | exact H_n.out.alloc _ | exact (H_n.out.alloc _).alloc _ | exact ((H_n.out.alloc _).alloc _).alloc _) hb_wa)
  obtain ⟨q_n_0, q_n_1⟩ := H_n.out.c2
  try clear q_m_0 q_m_1 q_m_2 q_m_3
  have H_m := Lib.hid (Box.below (by first | exact H_m.out | exact H_m.out.alloc _ | exact (H_m.out.alloc _).alloc _ | exact ((H_m.out.alloc _).alloc _).alloc _) hb_wa)
  obtain ⟨q_m_0, q_m_1, q_m_2, q_m_3⟩ := H_m.out.c4
  clear hW0
  go_wp2_with fail
  go_ret2
  exact ⟨rfl, HB_wa⟩
end Go.Proofs.Ytmbnhlihcnbebaa
