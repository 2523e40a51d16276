/-
  Walks of the layer 'eyes': numbers, and the spans and boxes of layer 2.
-/
import Derived.Test.YtmbnhlihcnbebaaEy
import Derived.Test.YtmbnhlihcnbebaaProg
import Derived.WalkKit
import Derived.WalkLawsBesides
import Derived.WalkSpells
import Derived.Lib.OthersKept
import Derived.Test.YtmbnhlihcnbebaaPlan
import Derived.Test.YtmbnhlihcnbebaaApp
import Derived.Test.YtmbnhlihcnbebaaStore
set_option linter.unusedVariables false
namespace Ey
def spanB (a b : Int) : Bool := decide (-1000000000000 ≤ a ∧ a ≤ b ∧ b ≤ 1000000000000)
def join (a b c d : Int) : (Int × Int) × Int := if spanB a b && spanB c d then ((min a c, max b d), 0) else ((0, 0), 1)
theorem join_ok {a b c d : Int} (h1 : spanB a b = true) (h2 : spanB c d = true) : join a b c d = ((min a c, max b d), 0) := by simp [join, h1, h2]
theorem join_bad {a b c d : Int} (h : spanB a b = false ∨ spanB c d = false) : join a b c d = ((0, 0), 1) := by rcases h with h | h <;> simp [join, h]
def within (a b c d : Int) : Bool × Int := (decide ((join a b c d).2 = 0 ∧ (join a b c d).1 = (c, d)), (join a b c d).2)
end Ey
namespace Go.Proofs.Ytmbnhlihcnbebaa
open Go Go.RowKit Ey Sk

abbrev cB (b : Bx) : List Value := [.int .i64 b.a, .int .i64 b.b, .int .i64 b.c, .int .i64 b.d]
abbrev eB (b : Bx) : Value := .agg #[.int .i64 b.a, .int .i64 b.b, .int .i64 b.c, .int .i64 b.d]
abbrev cA (a : Ac) : List Value := [.int .i64 a.kind, .int .i64 a.danger, .int .i64 a.person, .int .i64 a.time, .int .i64 a.area.a, .int .i64 a.area.b, .int .i64 a.area.c, .int .i64 a.area.d]
abbrev eA (a : Ac) : Value := .agg #[.int .i64 a.kind, .int .i64 a.danger, .int .i64 a.person, .int .i64 a.time, .int .i64 a.area.a, .int .i64 a.area.b, .int .i64 a.area.c, .int .i64 a.area.d]
abbrev cD (d : Dg) : List Value := [.int .i64 d.id, .bool d.told, .int .i64 d.area.a, .int .i64 d.area.b, .int .i64 d.area.c, .int .i64 d.area.d, .int .i64 d.prop, .bool d.drop, .int .i64 d.next.a, .int .i64 d.next.b, .int .i64 d.next.c, .int .i64 d.next.d]
abbrev eD (d : Dg) : Value := .agg #[.int .i64 d.id, .bool d.told, .int .i64 d.area.a, .int .i64 d.area.b, .int .i64 d.area.c, .int .i64 d.area.d, .int .i64 d.prop, .bool d.drop, .int .i64 d.next.a, .int .i64 d.next.b, .int .i64 d.next.c, .int .i64 d.next.d]
theorem cA_len : ∀ x, (cA x).length = 8 := fun _ => rfl
theorem cD_len : ∀ x, (cD x).length = 12 := fun _ => rfl
theorem cD_one : ∀ x, ∀ u ∈ cD x, u.oneCell' = true := by intro x u hu; simp [cD] at hu; rcases hu with rfl | rfl | rfl | rfl | rfl | rfl | rfl | rfl | rfl | rfl | rfl | rfl <;> rfl
abbrev eP (p : (Int × Int) × Int) : Value := .tuple #[.agg #[.int .i64 p.1.1, .int .i64 p.1.2], .int .i64 p.2]
theorem eql_span (a b a' b' : Int) (w : World) : (binOp .eql 29 (.agg #[.int .i64 a, .int .i64 b]) (.agg #[.int .i64 a', .int .i64 b'])).run Try.prog w = .ok (.bool (decide ((a, b) = (a', b')))) w := by
  by_cases h1 : a = a'
  · by_cases h2 : b = b' <;> simp [go_sem, *]
  · simp [go_sem, *]
set_option maxRecDepth 100000 in
theorem eql_box (a b c d a' b' c' d' : Int) (w : World) : (binOp .eql 31 (.agg #[.int .i64 a, .int .i64 b, .int .i64 c, .int .i64 d]) (.agg #[.int .i64 a', .int .i64 b', .int .i64 c', .int .i64 d'])).run Try.prog w = .ok (.bool (decide ((⟨a, b, c, d⟩ : Bx) = ⟨a', b', c', d'⟩))) w := by
  by_cases h1 : a = a'
  · by_cases h2 : b = b'
    · by_cases h3 : c = c'
      · by_cases h4 : d = d' <;> simp [go_sem, *]
      · simp [go_sem, *]
    · simp [go_sem, *]
  · simp [go_sem, *]
set_option maxRecDepth 100000 in
theorem neq_box (a b c d a' b' c' d' : Int) (w : World) : (binOp .neq 31 (.agg #[.int .i64 a, .int .i64 b, .int .i64 c, .int .i64 d]) (.agg #[.int .i64 a', .int .i64 b', .int .i64 c', .int .i64 d'])).run Try.prog w = .ok (.bool (!decide ((⟨a, b, c, d⟩ : Bx) = ⟨a', b', c', d'⟩))) w := by
  by_cases h1 : a = a'
  · by_cases h2 : b = b'
    · by_cases h3 : c = c'
      · by_cases h4 : d = d' <;> simp [go_sem, *]
      · simp [go_sem, *]
    · simp [go_sem, *]
  · simp [go_sem, *]

theorem number_any (n : Int) (w : World) : Calls Try.prog 39 #[.int .i64 n] w (Ret w (.bool (numB n))) := by
  go_enter Try.func39, Try.ntmps39
  go_wp2
  all_goals
    go_ret
    refine ⟨ret_bool ?_, (Below.refl _ _)⟩
    simp [numB]; omega
theorem svalid_any (a b : Int) (w : World) : Calls Try.prog 97 #[.agg #[.int .i64 a, .int .i64 b]] w (Ret w (.bool (spanB a b))) := by
  go_enter Try.func97, Try.ntmps97
  go_wp2
  all_goals
    go_ret
    refine ⟨ret_bool ?_, grew1 (Below.refl _ _)⟩
    simp [spanB]; try omega
theorem ends_any (a b : Int) (w : World) : Calls Try.prog 98 #[.int .i64 a, .int .i64 b] w (Ret w (.tuple #[.int .i64 (min a b), .int .i64 (max a b)])) := by
  rcases Int.lt_or_le b a with h | h
  · have e1 : min a b = b := by omega
    have e2 : max a b = a := by omega
    rw [e1, e2]
    clear e1 e2
    go_enter Try.func98, Try.ntmps98
    have h2 : ¬ a < b := by omega
    go_wp2_with fail
    go_ret2
    refine ⟨?_, Below.refl _ _⟩
    simp [go_sem]
  · have e1 : min a b = a := by omega
    have e2 : max a b = b := by omega
    rw [e1, e2]
    clear e1 e2
    rcases Int.lt_or_eq_of_le h with h3 | rfl
    · clear h
      have h4 : ¬ b < a := by omega
      go_enter Try.func98, Try.ntmps98
      go_wp2_with fail
      all_goals
        go_ret2
        refine ⟨?_, Below.refl _ _⟩
        first | rfl | (exfalso; omega)
    · go_enter Try.func98, Try.ntmps98
      go_wp2_with fail
      all_goals
        go_ret2
        refine ⟨?_, Below.refl _ _⟩
        first | rfl | (exfalso; omega)

set_option maxRecDepth 100000 in
set_option maxHeartbeats 4000000 in
theorem join_any (a b c d : Int) (w : World) : Calls Try.prog 89 #[.agg #[.int .i64 a, .int .i64 b], .agg #[.int .i64 c, .int .i64 d]] w (Ret w (eP (join a b c d))) := by
  obtain ⟨W0, hW0, HB_W0, hZ, hn, hm, hr⟩ := boxes3 w [.int .i64 a, .int .i64 b] [.int .i64 c, .int .i64 d] [.int .i64 0, .int .i64 0] 29 29 29
  have H_n := Lib.hid hn
  have H_m := Lib.hid hm
  have H_r : Hid (Box W0 (w.heap.size + 1 + 1) 29 [.int .i64 0, .int .i64 0]) := hr
  have HBAD := Lib.hid (@join_bad a b c d)
  have HOK := Lib.hid (@join_ok a b c d)
  generalize join a b c d = p at *
  clear hn hm hr hZ
  obtain ⟨q_n_0, q_n_1⟩ := H_n.out.c2
  obtain ⟨q_m_0, q_m_1⟩ := H_m.out.c2
  go_enter Try.func89, Try.ntmps89
  go_wp2_with fail
  refine (svalid_any a b _).mono ?_
  rintro e wa ⟨rfl, hb_wa⟩
  have HB_wa : Below w.heap.size w wa := by first | exact after0 HB_W0 hb_wa | exact after1 HB_W0 hb_wa | exact after2 HB_W0 hb_wa | exact after3 HB_W0 hb_wa | exact after4 HB_W0 hb_wa | exact after5 HB_W0 hb_wa
  try clear q_n_0 q_n_1
  have H_n := Lib.hid (Box.below (by first | exact H_n.out | exact H_n.out.alloc _ | exact (H_n.out.alloc _).alloc _ | exact ((H_n.out.alloc _).alloc _).alloc _) hb_wa)
  obtain ⟨q_n_0, q_n_1⟩ := H_n.out.c2
  try clear q_m_0 q_m_1
  have H_m := Lib.hid (Box.below (by first | exact H_m.out | exact H_m.out.alloc _ | exact (H_m.out.alloc _).alloc _ | exact ((H_m.out.alloc _).alloc _).alloc _) hb_wa)
  obtain ⟨q_m_0, q_m_1⟩ := H_m.out.c2
  try clear q_r_0 q_r_1
  have H_r := Lib.hid (Box.below (by first | exact H_r.out | exact H_r.out.alloc _ | exact (H_r.out.alloc _).alloc _ | exact ((H_r.out.alloc _).alloc _).alloc _) hb_wa)
  obtain ⟨q_r_0, q_r_1⟩ := H_r.out.c2
  clear hW0
  cases h1 : spanB a b
  · have HP := Lib.hid (HBAD.out (.inl h1))
    clear h1 HBAD HOK
    have f1 := H_r.out.frozen
    go_wp2_with fail
    obtain ⟨s0, s1⟩ := ((H_r.out.set 0 (.int .i64 (0))).set 1 (.int .i64 (0))).c2
    refine bodyPost_ret (v := .tuple #[.agg #[.int .i64 (0), .int .i64 (0)], .int .i64 1]) (by simp [results, Try.results89, go_sem, s0, s1]) rfl ?_
    exact ⟨by rw [HP.out], (HB_wa.setCell (p := ⟨w.heap.size + 1 + 1, 0, none⟩) (by simp; omega) _).setCell (p := ⟨w.heap.size + 1 + 1, 1, none⟩) (by simp; omega) _⟩
  go_wp2_with fail
  refine (svalid_any c d _).mono ?_
  rintro e wb ⟨rfl, hb_wb⟩
  have HB_wb : Below w.heap.size w wb := by first | exact after0 HB_wa hb_wb | exact after1 HB_wa hb_wb | exact after2 HB_wa hb_wb | exact after3 HB_wa hb_wb | exact after4 HB_wa hb_wb | exact after5 HB_wa hb_wb
  try clear q_n_0 q_n_1
  have H_n := Lib.hid (Box.below (by first | exact H_n.out | exact H_n.out.alloc _ | exact (H_n.out.alloc _).alloc _ | exact ((H_n.out.alloc _).alloc _).alloc _) hb_wb)
  obtain ⟨q_n_0, q_n_1⟩ := H_n.out.c2
  try clear q_m_0 q_m_1
  have H_m := Lib.hid (Box.below (by first | exact H_m.out | exact H_m.out.alloc _ | exact (H_m.out.alloc _).alloc _ | exact ((H_m.out.alloc _).alloc _).alloc _) hb_wb)
  obtain ⟨q_m_0, q_m_1⟩ := H_m.out.c2
  try clear q_r_0 q_r_1
  have H_r := Lib.hid (Box.below (by first | exact H_r.out | exact H_r.out.alloc _ | exact (H_r.out.alloc _).alloc _ | exact ((H_r.out.alloc _).alloc _).alloc _) hb_wb)
  obtain ⟨q_r_0, q_r_1⟩ := H_r.out.c2
  cases h2 : spanB c d
  · have HP := Lib.hid (HBAD.out (.inr h2))
    clear h1 h2 HBAD HOK
    have f1 := H_r.out.frozen
    go_wp2_with fail
    obtain ⟨s0, s1⟩ := ((H_r.out.set 0 (.int .i64 (0))).set 1 (.int .i64 (0))).c2
    refine bodyPost_ret (v := .tuple #[.agg #[.int .i64 (0), .int .i64 (0)], .int .i64 1]) (by simp [results, Try.results89, go_sem, s0, s1]) rfl ?_
    exact ⟨by rw [HP.out], (HB_wb.setCell (p := ⟨w.heap.size + 1 + 1, 0, none⟩) (by simp; omega) _).setCell (p := ⟨w.heap.size + 1 + 1, 1, none⟩) (by simp; omega) _⟩
  have HP := Lib.hid (HOK.out h1 h2)
  clear h1 h2 HBAD HOK
  go_wp2_with fail
  refine (ends_any a c _).mono ?_
  rintro e wc ⟨rfl, hb_wc⟩
  have HB_wc : Below w.heap.size w wc := by first | exact after0 HB_wb hb_wc | exact after1 HB_wb hb_wc | exact after2 HB_wb hb_wc | exact after3 HB_wb hb_wc | exact after4 HB_wb hb_wc | exact after5 HB_wb hb_wc
  try clear q_n_0 q_n_1
  have H_n := Lib.hid (Box.below (by first | exact H_n.out | exact H_n.out.alloc _ | exact (H_n.out.alloc _).alloc _ | exact ((H_n.out.alloc _).alloc _).alloc _) hb_wc)
  obtain ⟨q_n_0, q_n_1⟩ := H_n.out.c2
  try clear q_m_0 q_m_1
  have H_m := Lib.hid (Box.below (by first | exact H_m.out | exact H_m.out.alloc _ | exact (H_m.out.alloc _).alloc _ | exact ((H_m.out.alloc _).alloc _).alloc _) hb_wc)
  obtain ⟨q_m_0, q_m_1⟩ := H_m.out.c2
  try clear q_r_0 q_r_1
  have H_r := Lib.hid (Box.below (by first | exact H_r.out | exact H_r.out.alloc _ | exact (H_r.out.alloc _).alloc _ | exact ((H_r.out.alloc _).alloc _).alloc _) hb_wc)
  obtain ⟨q_r_0, q_r_1⟩ := H_r.out.c2
  go_wp2_with fail
  refine (ends_any b d _).mono ?_
  rintro e wd ⟨rfl, hb_wd⟩
  have HB_wd : Below w.heap.size w wd := by first | exact after0 HB_wc hb_wd | exact after1 HB_wc hb_wd | exact after2 HB_wc hb_wd | exact after3 HB_wc hb_wd | exact after4 HB_wc hb_wd | exact after5 HB_wc hb_wd
  try clear q_n_0 q_n_1
  have H_n := Lib.hid (Box.below (by first | exact H_n.out | exact H_n.out.alloc _ | exact (H_n.out.alloc _).alloc _ | exact ((H_n.out.alloc _).alloc _).alloc _) hb_wd)
  obtain ⟨q_n_0, q_n_1⟩ := H_n.out.c2
  try clear q_m_0 q_m_1
  have H_m := Lib.hid (Box.below (by first | exact H_m.out | exact H_m.out.alloc _ | exact (H_m.out.alloc _).alloc _ | exact ((H_m.out.alloc _).alloc _).alloc _) hb_wd)
  obtain ⟨q_m_0, q_m_1⟩ := H_m.out.c2
  try clear q_r_0 q_r_1
  have H_r := Lib.hid (Box.below (by first | exact H_r.out | exact H_r.out.alloc _ | exact (H_r.out.alloc _).alloc _ | exact ((H_r.out.alloc _).alloc _).alloc _) hb_wd)
  obtain ⟨q_r_0, q_r_1⟩ := H_r.out.c2
  have f1 := H_r.out.frozen
  go_wp2_with fail
  obtain ⟨s0, s1⟩ := ((H_r.out.set 0 (.int .i64 (min a c))).set 1 (.int .i64 (max b d))).c2
  refine bodyPost_ret (v := .tuple #[.agg #[.int .i64 (min a c), .int .i64 (max b d)], .int .i64 0]) (by simp [results, Try.results89, go_sem, s0, s1]) rfl ?_
  exact ⟨by rw [HP.out], (HB_wd.setCell (p := ⟨w.heap.size + 1 + 1, 0, none⟩) (by simp; omega) _).setCell (p := ⟨w.heap.size + 1 + 1, 1, none⟩) (by simp; omega) _⟩

set_option maxRecDepth 100000 in
set_option maxHeartbeats 4000000 in
theorem within_any (a b c d : Int) (w : World) : Calls Try.prog 70 #[.agg #[.int .i64 a, .int .i64 b], .agg #[.int .i64 c, .int .i64 d]] w (Ret w (.tuple #[.bool (within a b c d).1, .int .i64 (within a b c d).2])) := by
  obtain ⟨W0, hW0, HB_W0, hZ, hn, hm⟩ := boxes2 w [.int .i64 a, .int .i64 b] [.int .i64 c, .int .i64 d] 29 29
  have H_n := Lib.hid hn
  have H_m := Lib.hid hm
  have HJ := Lib.hid (fun W => join_any a b c d W)
  have HW := Lib.hid (show within a b c d = (decide ((join a b c d).2 = 0 ∧ (join a b c d).1 = (c, d)), (join a b c d).2) from rfl)
  generalize within a b c d = r at *
  generalize join a b c d = p at *
  obtain ⟨⟨x, y⟩, e⟩ := p
  clear hn hm hZ
  obtain ⟨q_n_0, q_n_1⟩ := H_n.out.c2
  obtain ⟨q_m_0, q_m_1⟩ := H_m.out.c2
  go_enter Try.func70, Try.ntmps70
  go_wp2_with fail
  refine (HJ.out _).mono ?_
  rintro e wa ⟨rfl, hb_wa⟩
  have HB_wa : Below w.heap.size w wa := by first | exact after0 HB_W0 hb_wa | exact after1 HB_W0 hb_wa | exact after2 HB_W0 hb_wa | exact after3 HB_W0 hb_wa | exact after4 HB_W0 hb_wa | exact after5 HB_W0 hb_wa
  try clear q_n_0 q_n_1
  have H_n := Lib.hid (Box.below (by first | exact H_n.out | exact H_n.out.alloc _ | exact (H_n.out.alloc _).alloc _ | exact ((H_n.out.alloc _).alloc _).alloc _) hb_wa)
  obtain ⟨q_n_0, q_n_1⟩ := H_n.out.c2
  try clear q_m_0 q_m_1
  have H_m := Lib.hid (Box.below (by first | exact H_m.out | exact H_m.out.alloc _ | exact (H_m.out.alloc _).alloc _ | exact ((H_m.out.alloc _).alloc _).alloc _) hb_wa)
  obtain ⟨q_m_0, q_m_1⟩ := H_m.out.c2
  clear hW0
  obtain ⟨W1, hW1, hB1, hZ1, hb1⟩ := boxes1 wa [.int .i64 x, .int .i64 y] 29
  have H_s := Lib.hid hb1
  have HB_W1 : Below w.heap.size w W1 := after0 HB_wa hB1
  replace H_m := Lib.hid (H_m.out.below hB1)
  clear hb1 hZ1 hB1 q_n_0 q_n_1 q_m_0 q_m_1 HJ
  have hs := H_s.out
  obtain ⟨q_s_0, q_s_1⟩ := hs.c2
  obtain ⟨q_m_0, q_m_1⟩ := H_m.out.c2
  clear hs
  by_cases he : e = 0
  · have hq := eql_span x y c d
    have HP := Lib.hid (show r = (decide ((x, y) = (c, d)), 0) by rw [HW.out]; simp [he])
    subst he
    generalize decide ((x, y) = (c, d)) = q at *
    go_wp2_with fail
    go_ret2
    exact ⟨by rw [HP.out]; rfl, HB_W1⟩
  · have HP := Lib.hid (show r = (false, e) by rw [HW.out]; simp [he])
    have he2 : (e == 0) = false := beq_eq_false_iff_ne.2 he
    clear he
    go_wp2_with fail
    go_ret2
    exact ⟨by rw [HP.out]; rfl, HB_W1⟩
end Go.Proofs.Ytmbnhlihcnbebaa
