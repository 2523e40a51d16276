/-
  'SymbolNeverSafer' and 'SymbolOwn': plain laws and walks.
-/
import Derived.Test.YtmnlkndbdcdngaaSymM
namespace Sb
theorem safer_law {oa ob s n e t f g h : Int} {a b : List Mk} {m x y : Mk} (h1 : findF oa a s = (m, e)) (h2 : translate oa a ob b s = (t, f)) (h3 : findF ob b n = (x, g)) (h4 : findF ob b t = (y, h)) :
    (e ≠ 0 ∧ f ≠ 0 ∧ t = 0) ∨ (e = 0 ∧ f = 1 ∧ okB ob b = false) ∨ (e = 0 ∧ f = 4 ∧ ¬(g = 0 ∧ x.kd = m.kd ∧ m.cl ≤ x.cl)) ∨
    (e = 0 ∧ f = 0 ∧ h = 0 ∧ y.sy = t ∧ y.kd = m.kd ∧ m.cl ≤ y.cl ∧ (g = 0 → x.kd = m.kd → m.cl ≤ x.cl → y.cl < x.cl ∨ x.cl = y.cl ∧ t ≤ n)) := by
  rcases find_cases h1 with ⟨rfl, ha, hs, hm, rfl⟩ | ⟨rfl, ha, hs, rfl, hno⟩ | ⟨rfl, rfl, hbad⟩
  · rcases translate_cases h2 with ⟨rfl, _, hb, _, m', hm', hms, hf, rfl⟩ | ⟨rfl, rfl, _, hb, _, m', hm', hms, hf⟩ | ⟨_, _, _, _, _, hno⟩ | ⟨rfl, rfl, hbad⟩
    · right; right; right
      obtain rfl := same_sy ha hm' hm hms
      obtain ⟨k1, k2, k3, k4⟩ := trans_found (vok hb) hf
      rw [find_mem hb k1] at h4
      obtain ⟨rfl, rfl⟩ := Prod.mk.inj h4
      refine ⟨rfl, rfl, rfl, rfl, k2, k3, ?_⟩
      rintro rfl e1 e2
      obtain ⟨_, _, hx, rfl⟩ := find_got h3
      have := k4 _ hx e1 e2
      rcases Int.lt_or_eq_of_le this with h | h
      · exact .inl h
      · exact .inr ⟨h.symm, trans_first (vok hb) hf hx e1 h.symm⟩
    · right; right; left
      obtain rfl := same_sy ha hm' hm hms
      refine ⟨rfl, rfl, ?_⟩
      rintro ⟨rfl, e1, e2⟩
      obtain ⟨_, _, hx, rfl⟩ := find_got h3
      have := trans_lost (vok hb) hf _ hx e1
      omega
    · exact absurd rfl (hno _ hm)
    · right; left
      rw [ha, hs] at hbad
      exact ⟨rfl, rfl, by simpa using hbad⟩
  · left
    refine ⟨by decide, ?_⟩
    rcases translate_cases h2 with ⟨_, _, _, _, m', hm', hms, _⟩ | ⟨rfl, rfl, _⟩ | ⟨rfl, rfl, _⟩ | ⟨rfl, rfl, _⟩
    · exact absurd hms (hno _ hm')
    · decide
    · decide
    · decide
  · left
    refine ⟨by decide, ?_⟩
    rcases translate_cases h2 with ⟨_, ha, _, hs, _⟩ | ⟨rfl, rfl, _⟩ | ⟨rfl, rfl, _⟩ | ⟨rfl, rfl, _⟩
    · rw [ha, hs] at hbad; cases hbad
    · decide
    · decide
    · decide

/-- a mark's translation into its own book -/
theorem trans_own {ms : List Mk} (h : VOk ms) {m : Mk} (hm : m ∈ ms) : found (trans ms m) = true ∧ (trans ms m).cl = m.cl ∧ (trans ms m).sy ≤ m.sy := by
  have hf := trans_there h hm rfl (Int.le_refl _)
  obtain ⟨k1, k2, k3, k4⟩ := trans_found h hf
  have := k4 m hm rfl (Int.le_refl _)
  exact ⟨hf, by omega, trans_first h hf hm rfl (by omega)⟩
theorem own_law {oa s e f g h t i : Int} {a : List Mk} {l k : List Int} {m x : Mk} (h1 : symsF oa a oa a isLost = (l, e)) (h2 : symsF oa a oa a isChanged = (k, f)) (h3 : findF oa a s = (m, g)) (h4 : translate oa a oa a s = (t, h)) (h5 : findF oa a t = (x, i)) :
    (okB oa a = false ∧ e = 1 ∧ f = 1 ∧ l = []) ∨ (okB oa a = true ∧ e = 0 ∧ f = 0 ∧ l = [] ∧ k = [] ∧ g = h ∧ (g = 0 → i = 0 ∧ t ≤ s ∧ x.kd = m.kd ∧ x.cl = m.cl)) := by
  cases ha : okB oa a
  · left
    unfold symsF at h1 h2
    rw [if_neg (by rw [ha]; simp)] at h1 h2
    obtain ⟨rfl, rfl⟩ := Prod.mk.inj h1
    obtain ⟨rfl, rfl⟩ := Prod.mk.inj h2
    exact ⟨rfl, rfl, rfl, rfl⟩
  · right
    unfold symsF at h1 h2
    rw [if_pos (by rw [ha]; rfl)] at h1 h2
    obtain ⟨rfl, rfl⟩ := Prod.mk.inj h1
    obtain ⟨rfl, rfl⟩ := Prod.mk.inj h2
    refine ⟨rfl, rfl, rfl, ?_, ?_, ?_⟩
    · rw [List.map_eq_nil_iff, List.filter_eq_nil_iff]
      intro z hz
      simp [isLost, (trans_own (vok ha) hz).1]
    · rw [List.map_eq_nil_iff, List.filter_eq_nil_iff]
      intro z hz
      have := trans_own (vok ha) hz
      simp [isChanged, this.1, this.2.1]
    · rcases find_cases h3 with ⟨rfl, _, hs, hm, rfl⟩ | ⟨rfl, _, hs, rfl, hno⟩ | ⟨rfl, rfl, hbad⟩
      · rcases translate_cases h4 with ⟨rfl, _, _, _, m', hm', hms, hf, rfl⟩ | ⟨_, _, _, _, _, m', hm', hms, hf⟩ | ⟨_, _, _, _, _, hno⟩ | ⟨_, _, hbad⟩
        · obtain rfl := same_sy ha hm' hm hms
          obtain ⟨k1, k2, k3, k4⟩ := trans_found (vok ha) hf
          have k5 := trans_own (vok ha) hm
          rw [find_mem ha k1] at h5
          obtain ⟨rfl, rfl⟩ := Prod.mk.inj h5
          exact ⟨rfl, fun _ => ⟨rfl, k5.2.2, k2, k5.2.1⟩⟩
        · obtain rfl := same_sy ha hm' hm hms
          rw [(trans_own (vok ha) hm).1] at hf
          cases hf
        · exact absurd rfl (hno _ hm)
        · rw [ha, hs] at hbad; cases hbad
      · refine ⟨?_, by simp⟩
        rcases translate_cases h4 with ⟨_, _, _, _, m', hm', hms, _⟩ | ⟨_, _, _, _, _, m', hm', hms, _⟩ | ⟨rfl, _⟩ | ⟨_, _, hbad⟩
        · exact absurd hms (hno _ hm')
        · exact absurd hms (hno _ hm')
        · rfl
        · rw [ha, hs] at hbad; cases hbad
      · refine ⟨?_, by simp⟩
        rw [ha] at hbad
        rcases translate_cases h4 with ⟨_, _, _, hs, _⟩ | ⟨_, _, _, _, hs, _⟩ | ⟨_, _, _, _, hs, _⟩ | ⟨rfl, _⟩
        · rw [hs] at hbad; cases hbad
        · rw [hs] at hbad; cases hbad
        · rw [hs] at hbad; cases hbad
        · rfl
end Sb
namespace Go.Proofs.Ytmnlkndbdcdngaa
open Go.RowKit Sb Sk Go.Sort
set_option linter.unusedVariables false


set_option maxRecDepth 100000 in
set_option maxHeartbeats 8000000 in
theorem safer_walk (oa : Int) (aa : Option Addr) (na ca : Nat) (a : List Mk) (ob : Int) (ab : Option Addr) (nb cb : Nat) (b : List Mk) (s n : Int) (w : World) (ha : Sl w 3 cM aa na ca a) (hb : Sl w 3 cM ab nb cb b) :
    Calls Try.prog 4 #[.agg #[.int .i64 oa, .slice aa na ca], .agg #[.int .i64 ob, .slice ab nb cb], .int .i64 s, .int .i64 n] w (Ret w (.bool true)) := by
  obtain ⟨m0, m1, m2, e, h1⟩ := find_ex oa a s
  obtain ⟨t, f, h2⟩ := translate_ex oa a ob b s
  obtain ⟨x0, x1, x2, g, h3⟩ := find_ex ob b n
  obtain ⟨y0, y1, y2, h, h4⟩ := find_ex ob b t
  have HLAW := Lib.hid (safer_law h1 h2 h3 h4)
  replace h1 := Lib.hid h1
  replace h2 := Lib.hid h2
  replace h3 := Lib.hid h3
  replace h4 := Lib.hid h4
  obtain ⟨W0, hW0, HB_W0, hZ, hA, hB⟩ := boxes2 w [.int .i64 oa, .slice aa na ca] [.int .i64 ob, .slice ab nb cb] 24 24
  have H_a := Lib.hid hA
  have H_b := Lib.hid hB
  have HSA := Lib.hid (ha.below HB_W0)
  have HSB := Lib.hid (hb.below HB_W0)
  clear ha hb hA hB hZ
  go_enter Try.func4, Try.ntmps4
  go_wp2_with fail
  refine (head_any _).mono ?_
  rintro e w1 ⟨rfl, hb_w1⟩
  have HB_w1 : Below w.heap.size w w1 := by first | exact after0 HB_W0 hb_w1 | exact after1 HB_W0 hb_w1 | exact after2 HB_W0 hb_w1 | exact after3 HB_W0 hb_w1 | exact after4 HB_W0 hb_w1 | exact after5 HB_W0 hb_w1
  try clear q_a_0 q_a_1
  have H_a := Lib.hid (Box.below (by first | exact H_a.out | exact H_a.out.alloc _ | exact (H_a.out.alloc _).alloc _ | exact ((H_a.out.alloc _).alloc _).alloc _) hb_w1)
  obtain ⟨q_a_0, q_a_1⟩ := H_a.out.c2
  try clear q_b_0 q_b_1
  have H_b := Lib.hid (Box.below (by first | exact H_b.out | exact H_b.out.alloc _ | exact (H_b.out.alloc _).alloc _ | exact ((H_b.out.alloc _).alloc _).alloc _) hb_w1)
  obtain ⟨q_b_0, q_b_1⟩ := H_b.out.c2
  replace HSA := Lib.hid (show Sl w1 _ _ _ _ _ _ by first | exact HSA.out.below hb_w1 | exact (HSA.out.below (grew1 (Below.refl _ _))).below hb_w1 | exact (HSA.out.below (grew2 (Below.refl _ _))).below hb_w1 | exact (HSA.out.below (grew3 (Below.refl _ _))).below hb_w1)
  replace HSB := Lib.hid (show Sl w1 _ _ _ _ _ _ by first | exact HSB.out.below hb_w1 | exact (HSB.out.below (grew1 (Below.refl _ _))).below hb_w1 | exact (HSB.out.below (grew2 (Below.refl _ _))).below hb_w1 | exact (HSB.out.below (grew3 (Below.refl _ _))).below hb_w1)
  clear hW0
  go_wp2_with fail
  refine (find_to h1.out (by first | exact HSA.out | exact HSA.out.below (grew1 (Below.refl _ _)) | exact HSA.out.below (grew2 (Below.refl _ _)) | exact HSA.out.below (grew3 (Below.refl _ _)))).mono ?_
  rintro e w2 ⟨rfl, hb_w2⟩
  have HB_w2 : Below w.heap.size w w2 := by first | exact after0 HB_w1 hb_w2 | exact after1 HB_w1 hb_w2 | exact after2 HB_w1 hb_w2 | exact after3 HB_w1 hb_w2 | exact after4 HB_w1 hb_w2 | exact after5 HB_w1 hb_w2
  try clear q_a_0 q_a_1
  have H_a := Lib.hid (Box.below (by first | exact H_a.out | exact H_a.out.alloc _ | exact (H_a.out.alloc _).alloc _ | exact ((H_a.out.alloc _).alloc _).alloc _) hb_w2)
  obtain ⟨q_a_0, q_a_1⟩ := H_a.out.c2
  try clear q_b_0 q_b_1
  have H_b := Lib.hid (Box.below (by first | exact H_b.out | exact H_b.out.alloc _ | exact (H_b.out.alloc _).alloc _ | exact ((H_b.out.alloc _).alloc _).alloc _) hb_w2)
  obtain ⟨q_b_0, q_b_1⟩ := H_b.out.c2
  replace HSA := Lib.hid (show Sl w2 _ _ _ _ _ _ by first | exact HSA.out.below hb_w2 | exact (HSA.out.below (grew1 (Below.refl _ _))).below hb_w2 | exact (HSA.out.below (grew2 (Below.refl _ _))).below hb_w2 | exact (HSA.out.below (grew3 (Below.refl _ _))).below hb_w2)
  replace HSB := Lib.hid (show Sl w2 _ _ _ _ _ _ by first | exact HSB.out.below hb_w2 | exact (HSB.out.below (grew1 (Below.refl _ _))).below hb_w2 | exact (HSB.out.below (grew2 (Below.refl _ _))).below hb_w2 | exact (HSB.out.below (grew3 (Below.refl _ _))).below hb_w2)
  have H_m := Lib.hid (Box.new w2 [.int .i64 m0, .int .i64 m1, .int .i64 m2] 29)
  obtain ⟨z0, z1⟩ := (H_a.out.alloc (.cells #[.int .i64 m0, .int .i64 m1, .int .i64 m2] 29)).c2
  obtain ⟨z2, z3⟩ := (H_b.out.alloc (.cells #[.int .i64 m0, .int .i64 m1, .int .i64 m2] 29)).c2
  go_wp2_with fail
  clear z0 z1 z2 z3
  refine (translate_to h2.out (by first | exact HSA.out | exact HSA.out.below (grew1 (Below.refl _ _)) | exact HSA.out.below (grew2 (Below.refl _ _)) | exact HSA.out.below (grew3 (Below.refl _ _))) (by first | exact HSB.out | exact HSB.out.below (grew1 (Below.refl _ _)) | exact HSB.out.below (grew2 (Below.refl _ _)) | exact HSB.out.below (grew3 (Below.refl _ _)))).mono ?_
  rintro e w3 ⟨rfl, hb_w3⟩
  have HB_w3 : Below w.heap.size w w3 := by first | exact after0 HB_w2 hb_w3 | exact after1 HB_w2 hb_w3 | exact after2 HB_w2 hb_w3 | exact after3 HB_w2 hb_w3 | exact after4 HB_w2 hb_w3 | exact after5 HB_w2 hb_w3
  try clear q_a_0 q_a_1
  have H_a := Lib.hid (Box.below (by first | exact H_a.out | exact H_a.out.alloc _ | exact (H_a.out.alloc _).alloc _ | exact ((H_a.out.alloc _).alloc _).alloc _) hb_w3)
  obtain ⟨q_a_0, q_a_1⟩ := H_a.out.c2
  try clear q_b_0 q_b_1
  have H_b := Lib.hid (Box.below (by first | exact H_b.out | exact H_b.out.alloc _ | exact (H_b.out.alloc _).alloc _ | exact ((H_b.out.alloc _).alloc _).alloc _) hb_w3)
  obtain ⟨q_b_0, q_b_1⟩ := H_b.out.c2
  try clear q_m_0 q_m_1 q_m_2
  have H_m := Lib.hid (Box.below (by first | exact H_m.out | exact H_m.out.alloc _ | exact (H_m.out.alloc _).alloc _ | exact ((H_m.out.alloc _).alloc _).alloc _) hb_w3)
  obtain ⟨q_m_0, q_m_1, q_m_2⟩ := H_m.out.c3
  replace HSA := Lib.hid (show Sl w3 _ _ _ _ _ _ by first | exact HSA.out.below hb_w3 | exact (HSA.out.below (grew1 (Below.refl _ _))).below hb_w3 | exact (HSA.out.below (grew2 (Below.refl _ _))).below hb_w3 | exact (HSA.out.below (grew3 (Below.refl _ _))).below hb_w3)
  replace HSB := Lib.hid (show Sl w3 _ _ _ _ _ _ by first | exact HSB.out.below hb_w3 | exact (HSB.out.below (grew1 (Below.refl _ _))).below hb_w3 | exact (HSB.out.below (grew2 (Below.refl _ _))).below hb_w3 | exact (HSB.out.below (grew3 (Below.refl _ _))).below hb_w3)
  go_wp2_with fail
  refine (find_to h3.out (by first | exact HSB.out | exact HSB.out.below (grew1 (Below.refl _ _)) | exact HSB.out.below (grew2 (Below.refl _ _)) | exact HSB.out.below (grew3 (Below.refl _ _)))).mono ?_
  rintro e w4 ⟨rfl, hb_w4⟩
  have HB_w4 : Below w.heap.size w w4 := by first | exact after0 HB_w3 hb_w4 | exact after1 HB_w3 hb_w4 | exact after2 HB_w3 hb_w4 | exact after3 HB_w3 hb_w4 | exact after4 HB_w3 hb_w4 | exact after5 HB_w3 hb_w4
  try clear q_a_0 q_a_1
  have H_a := Lib.hid (Box.below (by first | exact H_a.out | exact H_a.out.alloc _ | exact (H_a.out.alloc _).alloc _ | exact ((H_a.out.alloc _).alloc _).alloc _) hb_w4)
  obtain ⟨q_a_0, q_a_1⟩ := H_a.out.c2
  try clear q_b_0 q_b_1
  have H_b := Lib.hid (Box.below (by first | exact H_b.out | exact H_b.out.alloc _ | exact (H_b.out.alloc _).alloc _ | exact ((H_b.out.alloc _).alloc _).alloc _) hb_w4)
  obtain ⟨q_b_0, q_b_1⟩ := H_b.out.c2
  try clear q_m_0 q_m_1 q_m_2
  have H_m := Lib.hid (Box.below (by first | exact H_m.out | exact H_m.out.alloc _ | exact (H_m.out.alloc _).alloc _ | exact ((H_m.out.alloc _).alloc _).alloc _) hb_w4)
  obtain ⟨q_m_0, q_m_1, q_m_2⟩ := H_m.out.c3
  replace HSA := Lib.hid (show Sl w4 _ _ _ _ _ _ by first | exact HSA.out.below hb_w4 | exact (HSA.out.below (grew1 (Below.refl _ _))).below hb_w4 | exact (HSA.out.below (grew2 (Below.refl _ _))).below hb_w4 | exact (HSA.out.below (grew3 (Below.refl _ _))).below hb_w4)
  replace HSB := Lib.hid (show Sl w4 _ _ _ _ _ _ by first | exact HSB.out.below hb_w4 | exact (HSB.out.below (grew1 (Below.refl _ _))).below hb_w4 | exact (HSB.out.below (grew2 (Below.refl _ _))).below hb_w4 | exact (HSB.out.below (grew3 (Below.refl _ _))).below hb_w4)
  clear q_a_0 q_a_1 q_b_0 q_b_1 q_m_0 q_m_1 q_m_2
  obtain ⟨W1, hW1, HB_W1, hZ, hY⟩ := boxes1 w4 [.int .i64 x0, .int .i64 x1, .int .i64 x2] 29
  have H_x := Lib.hid hY
  clear hY hZ
  replace H_b := Lib.hid (H_b.out.below HB_W1)
  replace H_m := Lib.hid (H_m.out.below HB_W1)
  replace HSB := Lib.hid (HSB.out.below HB_W1)
  replace HB_W1 := after0 HB_w4 HB_W1
  obtain ⟨q_b_0, q_b_1⟩ := H_b.out.c2
  obtain ⟨q_m_0, q_m_1, q_m_2⟩ := H_m.out.c3
  obtain ⟨q_x_0, q_x_1, q_x_2⟩ := H_x.out.c3
  rcases HLAW.out with ⟨k1, k2, k3⟩ | ⟨k1, k2, k3⟩ | ⟨k1, k2, k3⟩ | ⟨rfl, rfl, rfl, rfl, rfl, k6, k7⟩
  ·
    go_wp2_with fail
    all_goals try (exfalso; omega)
    all_goals try (go_ret; first | exact ⟨rfl, HB_W1⟩ | (refine ⟨ret_bool ?_, HB_W1⟩; simp; omega))
  · have hne : (f != 0) = true := by rw [k2]; rfl
    go_wp2_with fail
    all_goals try (exfalso; omega)
    all_goals
      refine (bvalid_any _ _ _ _ _ _ (by first | exact HSB.out | exact HSB.out.below (grew1 (Below.refl _ _)) | exact HSB.out.below (grew2 (Below.refl _ _)) | exact HSB.out.below (grew3 (Below.refl _ _)))).mono ?_
      rintro e w5 ⟨rfl, hb_w5⟩
      have HB_w5 : Below w.heap.size w w5 := by first | exact after0 HB_W1 hb_w5 | exact after1 HB_W1 hb_w5 | exact after2 HB_W1 hb_w5 | exact after3 HB_W1 hb_w5 | exact after4 HB_W1 hb_w5 | exact after5 HB_W1 hb_w5
      rw [k3]
      go_wp2_with fail
      go_ret
      exact ⟨rfl, HB_w5⟩
  · have hne : (f != 0) = true := by rw [k2]; rfl
    go_wp2_with fail
    all_goals try (exfalso; omega)
    all_goals try (go_ret; first | exact ⟨rfl, HB_W1⟩ | (refine ⟨ret_bool ?_, HB_W1⟩; simp; omega))
  ·
    go_wp2_with fail
    all_goals try (exfalso; omega)
    all_goals
      clear hW1
      refine (find_to h4.out (by first | exact HSB.out | exact HSB.out.below (grew1 (Below.refl _ _)) | exact HSB.out.below (grew2 (Below.refl _ _)) | exact HSB.out.below (grew3 (Below.refl _ _)))).mono ?_
      rintro e w5 ⟨rfl, hb_w5⟩
      have HB_w5 : Below w.heap.size w w5 := by first | exact after0 HB_W1 hb_w5 | exact after1 HB_W1 hb_w5 | exact after2 HB_W1 hb_w5 | exact after3 HB_W1 hb_w5 | exact after4 HB_W1 hb_w5 | exact after5 HB_W1 hb_w5
      try clear q_m_0 q_m_1 q_m_2
      have H_m := Lib.hid (Box.below (by first | exact H_m.out | exact H_m.out.alloc _ | exact (H_m.out.alloc _).alloc _ | exact ((H_m.out.alloc _).alloc _).alloc _) hb_w5)
      obtain ⟨q_m_0, q_m_1, q_m_2⟩ := H_m.out.c3
      try clear q_x_0 q_x_1 q_x_2
      have H_x := Lib.hid (Box.below (by first | exact H_x.out | exact H_x.out.alloc _ | exact (H_x.out.alloc _).alloc _ | exact ((H_x.out.alloc _).alloc _).alloc _) hb_w5)
      obtain ⟨q_x_0, q_x_1, q_x_2⟩ := H_x.out.c3
      clear q_m_0 q_m_1 q_m_2 q_x_0 q_x_1 q_x_2 q_b_0 q_b_1
      obtain ⟨W2, hW2, HB_W2, hZ, hY⟩ := boxes1 w5 [.int .i64 y0, .int .i64 y1, .int .i64 y2] 29
      have H_y := Lib.hid hY
      clear hY hZ
      replace H_m := Lib.hid (H_m.out.below HB_W2)
      replace H_x := Lib.hid (H_x.out.below HB_W2)
      replace HB_W2 := after0 HB_w5 HB_W2
      obtain ⟨q_m_0, q_m_1, q_m_2⟩ := H_m.out.c3
      obtain ⟨q_x_0, q_x_1, q_x_2⟩ := H_x.out.c3
      obtain ⟨q_y_0, q_y_1, q_y_2⟩ := H_y.out.c3
      go_wp2_with fail
      all_goals try (exfalso; omega)
      all_goals try (go_ret; first | exact ⟨rfl, HB_W2⟩ | (refine ⟨ret_bool ?_, HB_W2⟩; simp; omega))
end Go.Proofs.Ytmnlkndbdcdngaa
