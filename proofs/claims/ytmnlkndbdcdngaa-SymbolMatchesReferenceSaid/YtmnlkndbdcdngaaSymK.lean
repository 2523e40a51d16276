/-
  The examples (head) of chapter 10.
-/
import Derived.Test.YtmnlkndbdcdngaaSymG
import Derived.Test.YtmnlkndbdcdngaaSymH
import Derived.Test.YtmnlkndbdcdngaaSymI
import Derived.Test.YtmnlkndbdcdngaaSymJ
namespace Go.Proofs.Ytmnlkndbdcdngaa
open Go.RowKit Sb Sk Go.Sort
set_option linter.unusedVariables false

def kA : List Mk := [⟨5, 2, 3⟩, ⟨7, 2, 6⟩, ⟨9, 5, 1⟩]
def kB : List Mk := [⟨20, 2, 4⟩, ⟨21, 2, 4⟩, ⟨30, 5, 1⟩]
def kC : List Mk := [⟨5, 2, 8⟩, ⟨6, 6, 0⟩]
def kJ : List Mk := [⟨5, 2, 8⟩, ⟨6, 6, 0⟩, ⟨7, 2, 6⟩, ⟨9, 5, 1⟩]
theorem e_f7 : findF 1 kA 7 = (⟨7, 2, 6⟩, 0) := by kernel_rfl
theorem e_f8 : findF 1 kA 8 = (zeroM, 11) := by kernel_rfl
theorem e_t5 : translate 1 kA 2 kB 5 = (20, 0) := by kernel_rfl
theorem e_t7 : translate 1 kA 2 kB 7 = (0, 4) := by kernel_rfl
theorem e_t9 : translate 1 kA 2 kB 9 = (30, 0) := by kernel_rfl
theorem e_l : symsF 1 kA 2 kB isLost = ([7], 0) := by kernel_rfl
theorem e_c1 : symsF 1 kA 2 kB isChanged = ([5], 0) := by kernel_rfl
theorem e_c2 : symsF 2 kB 1 kA isChanged = ([20, 21], 0) := by kernel_rfl
theorem e_ch : chain [(1, kA), (2, kB), (1, kA)] 5 = (7, 0) := by kernel_rfl
theorem e_okA : okB 1 kA = true := by kernel_rfl
theorem e_okC : okB 2 kC = true := by kernel_rfl
theorem e_m : merge kA kC = some kJ := by
  unfold kA kC kJ
  rw [merge_eq (x := ⟨5, 2, 3⟩) (y := ⟨5, 2, 8⟩) rfl rfl, merge_gt (by decide), merge_end]
  rfl
theorem e_j : join 1 kA 2 kC = ((1, kJ), 0) := by
  rw [join_some (by rw [e_okA, e_okC]; rfl) e_m, if_neg (by decide)]


section
variable (w : World) {x y z : Option Addr}
theorem k_f7 (h : Sl w 3 cM x 3 3 kA) : Calls Try.prog 14 #[.agg #[.int .i64 1, .slice x 3 3], .int .i64 7] w (Ret w (.tuple #[.agg #[.int .i64 7, .int .i64 2, .int .i64 6], .int .i64 0])) := by
  have := Find_any 1 x 3 3 kA 7 w h
  rwa [e_f7] at this
theorem k_f8 (h : Sl w 3 cM x 3 3 kA) : Calls Try.prog 14 #[.agg #[.int .i64 1, .slice x 3 3], .int .i64 8] w (Ret w (.tuple #[.agg #[.int .i64 0, .int .i64 0, .int .i64 0], .int .i64 11])) := by
  have := Find_any 1 x 3 3 kA 8 w h
  rwa [e_f8] at this
theorem k_t5 (h : Sl w 3 cM x 3 3 kA) (k : Sl w 3 cM y 3 3 kB) : Calls Try.prog 16 #[.agg #[.int .i64 1, .slice x 3 3], .agg #[.int .i64 2, .slice y 3 3], .int .i64 5] w (Ret w (.tuple #[.int .i64 20, .int .i64 0])) := by
  have := Translate_any 1 x 3 3 kA 2 y 3 3 kB 5 w h k
  rwa [e_t5] at this
theorem k_t7 (h : Sl w 3 cM x 3 3 kA) (k : Sl w 3 cM y 3 3 kB) : Calls Try.prog 16 #[.agg #[.int .i64 1, .slice x 3 3], .agg #[.int .i64 2, .slice y 3 3], .int .i64 7] w (Ret w (.tuple #[.int .i64 0, .int .i64 4])) := by
  have := Translate_any 1 x 3 3 kA 2 y 3 3 kB 7 w h k
  rwa [e_t7] at this
theorem k_t9 (h : Sl w 3 cM x 3 3 kA) (k : Sl w 3 cM y 3 3 kB) : Calls Try.prog 16 #[.agg #[.int .i64 1, .slice x 3 3], .agg #[.int .i64 2, .slice y 3 3], .int .i64 9] w (Ret w (.tuple #[.int .i64 30, .int .i64 0])) := by
  have := Translate_any 1 x 3 3 kA 2 y 3 3 kB 9 w h k
  rwa [e_t9] at this
def Ints (w : World) (l : List Int) (e : Ending) (w' : World) : Prop := ∃ ao n cap, e = .returned (.tuple #[.slice ao n cap, .int .i64 0]) ∧ Sl w' 1 cI ao n cap l ∧ Below w.heap.size w w'
theorem k_l (h : Sl w 3 cM x 3 3 kA) (k : Sl w 3 cM y 3 3 kB) : Calls Try.prog 18 #[.agg #[.int .i64 1, .slice x 3 3], .agg #[.int .i64 2, .slice y 3 3]] w (Ints w [7]) := by
  have := Lost_any 1 x 3 3 kA 2 y 3 3 kB w h k
  rw [e_l] at this
  exact this.mono fun e w' ⟨ao, n, cap, h1, h2, _, h4⟩ => ⟨ao, n, cap, h1, h2, h4⟩
theorem k_c1 (h : Sl w 3 cM x 3 3 kA) (k : Sl w 3 cM y 3 3 kB) : Calls Try.prog 21 #[.agg #[.int .i64 1, .slice x 3 3], .agg #[.int .i64 2, .slice y 3 3]] w (Ints w [5]) := by
  have := Changed_any 1 x 3 3 kA 2 y 3 3 kB w h k
  rw [e_c1] at this
  exact this.mono fun e w' ⟨ao, n, cap, h1, h2, _, h4⟩ => ⟨ao, n, cap, h1, h2, h4⟩
theorem k_c2 (h : Sl w 3 cM x 3 3 kB) (k : Sl w 3 cM y 3 3 kA) : Calls Try.prog 21 #[.agg #[.int .i64 2, .slice x 3 3], .agg #[.int .i64 1, .slice y 3 3]] w (Ints w [20, 21]) := by
  have := Changed_any 2 x 3 3 kB 1 y 3 3 kA w h k
  rw [e_c2] at this
  exact this.mono fun e w' ⟨ao, n, cap, h1, h2, _, h4⟩ => ⟨ao, n, cap, h1, h2, h4⟩
theorem k_ch {b : Nat} {T : Nat} (h : Sl w 3 cM x 3 3 kA) (k : Sl w 3 cM y 3 3 kB) (hb : Box w b T [.int .i64 1, .slice x 3 3, .int .i64 2, .slice y 3 3, .int .i64 1, .slice x 3 3]) :
    Calls Try.prog 23 #[.slice (some ⟨b, 0, none⟩) 3 3, .int .i64 5] w (Ret w (.tuple #[.int .i64 7, .int .i64 0])) := by
  have := Chain_any (some ⟨b, 0, none⟩) 3 3 [⟨1, x, 3, 3, kA⟩, ⟨2, y, 3, 3, kB⟩, ⟨1, x, 3, 3, kA⟩] 5 w (Sl.lit (l := [(⟨1, x, 3, 3, kA⟩ : Bk), ⟨2, y, 3, 3, kB⟩, ⟨1, x, 3, 3, kA⟩]) cB_len hb (by simp [maxLen])) (by
    intro u hu
    simp only [List.mem_cons, List.not_mem_nil, or_false] at hu
    rcases hu with rfl | rfl | rfl
    · exact h
    · exact k
    · exact h)
  rwa [show chain (List.map plainB [⟨1, x, 3, 3, kA⟩, ⟨2, y, 3, 3, kB⟩, ⟨1, x, 3, 3, kA⟩]) 5 = (7, 0) from e_ch] at this
theorem k_j (h : Sl w 3 cM x 3 3 kA) (k : Sl w 3 cM y 2 2 kC) : Calls Try.prog 25 #[.agg #[.int .i64 1, .slice x 3 3], .agg #[.int .i64 2, .slice y 2 2]] w
    (fun e w' => ∃ ao n cap, e = .returned (.tuple #[.agg #[.int .i64 1, .slice ao n cap], .int .i64 0]) ∧ Sl w' 3 cM ao n cap kJ ∧ Below w.heap.size w w') := by
  have := Join_any 1 x 3 3 kA 2 y 2 2 kC w h k
  rw [e_j] at this
  exact this.mono fun e w' ⟨ao, n, cap, h1, h2, _, h4⟩ => ⟨ao, n, cap, h1, h2, h4⟩
theorem k_i1 {n cap b T : Nat} {v : Int} (h : Sl w 1 cI x n cap [v]) (hb : Box w b T [.int .i64 v]) : Calls Try.prog 20 #[.slice x n cap, .slice (some ⟨b, 0, none⟩) 1 1] w (Ret w (.bool true)) := by
  have := rints_any x (some ⟨b, 0, none⟩) n cap 1 1 [v] [v] w h (Sl.lit (l := [v]) (fun _ => rfl) hb (by simp [maxLen]))
  rwa [decide_eq_true rfl] at this
theorem k_i2 {n cap b T : Nat} {v u : Int} (h : Sl w 1 cI x n cap [v, u]) (hb : Box w b T [.int .i64 v, .int .i64 u]) : Calls Try.prog 20 #[.slice x n cap, .slice (some ⟨b, 0, none⟩) 2 2] w (Ret w (.bool true)) := by
  have := rints_any x (some ⟨b, 0, none⟩) n cap 2 2 [v, u] [v, u] w h (Sl.lit (l := [v, u]) (fun _ => rfl) hb (by simp [maxLen]))
  rwa [decide_eq_true rfl] at this
theorem k_s {n cap b T : Nat} (h : Sl w 3 cM x n cap kJ) (hb : Box w b T [.int .i64 5, .int .i64 2, .int .i64 8, .int .i64 6, .int .i64 6, .int .i64 0, .int .i64 7, .int .i64 2, .int .i64 6, .int .i64 9, .int .i64 5, .int .i64 1]) :
    Calls Try.prog 27 #[.agg #[.int .i64 1, .slice x n cap], .agg #[.int .i64 1, .slice (some ⟨b, 0, none⟩) 4 4]] w (Ret w (.bool true)) := by
  have := rsame_any 1 x n cap kJ 1 (some ⟨b, 0, none⟩) 4 4 kJ w h (Sl.lit (l := kJ) cM_len hb (by unfold maxLen; decide))
  rwa [decide_eq_true ⟨rfl, rfl⟩] at this
end

set_option maxRecDepth 100000 in
set_option maxHeartbeats 8000000 in
theorem head_any (w : World) : Calls Try.prog 11 #[] w (Ret w (.bool true)) := by
  have HB_w : Below w.heap.size w w := Below.refl _ _
  obtain ⟨W1, hW1, hB1, hZ1, hs1, ha⟩ := boxes2 w [.int .i64 5, .int .i64 2, .int .i64 3, .int .i64 7, .int .i64 2, .int .i64 6, .int .i64 9, .int .i64 5, .int .i64 1] [.int .i64 1, .slice (some ⟨w.heap.size, 0, none⟩) 3 3] 29 24
  obtain ⟨W2, hW2, hB2, hZ2, hs2, hb⟩ := boxes2 W1 [.int .i64 20, .int .i64 2, .int .i64 4, .int .i64 21, .int .i64 2, .int .i64 4, .int .i64 30, .int .i64 5, .int .i64 1] [.int .i64 2, .slice (some ⟨w.heap.size + 2, 0, none⟩) 3 3] 29 24
  obtain ⟨W3, hW3, hB3, hZ3, hs3, hc⟩ := boxes2 W2 [.int .i64 5, .int .i64 2, .int .i64 8, .int .i64 6, .int .i64 6, .int .i64 0] [.int .i64 2, .slice (some ⟨w.heap.size + 2 + 1 + 1, 0, none⟩) 2 2] 29 24
  replace hZ2 : W2.heap.size = w.heap.size + 2 + 1 + 1 := by omega
  rw [hZ1] at hs2 hb
  rw [hZ2] at hs3 hc
  have hB12 := after0 hB1 hB2
  have HB_W3 : Below w.heap.size w W3 := after0 hB12 hB3
  have hB13 := after0 hB2 hB3
  have HSA : Hid (Sl W3 3 cM (some ⟨w.heap.size, 0, none⟩) 3 3 kA) := (Sl.lit (l := kA) cM_len hs1 (by unfold maxLen; decide)).below hB13
  have HSB : Hid (Sl W3 3 cM (some ⟨w.heap.size + 2, 0, none⟩) 3 3 kB) := (Sl.lit (l := kB) cM_len hs2 (by unfold maxLen; decide)).below hB3
  have HSC : Hid (Sl W3 3 cM (some ⟨w.heap.size + 2 + 1 + 1, 0, none⟩) 2 2 kC) := Sl.lit (l := kC) cM_len hs3 (by unfold maxLen; decide)
  have H_a := Lib.hid (ha.below hB13)
  have H_b := Lib.hid (hb.below hB3)
  have H_c := Lib.hid hc
  clear hs1 hs2 hs3 ha hb hc hB1 hB2 hB3 hB12 hB13
  go_enter Try.func11, Try.ntmps11
  obtain ⟨q_a_0, q_a_1⟩ := H_a.out.c2
  obtain ⟨q_b_0, q_b_1⟩ := H_b.out.c2
  obtain ⟨q_c_0, q_c_1⟩ := H_c.out.c2
  go_wp2_with fail
  refine (k_f7 _ (by first | exact HSA.out | exact HSA.out.below (grew1 (Below.refl _ _)) | exact HSA.out.below (grew2 (Below.refl _ _)) | exact HSA.out.below (grew3 (Below.refl _ _)))).mono ?_
  rintro e wa ⟨rfl, hb_wa⟩
  have HB_wa : Below w.heap.size w wa := by first | exact after0 HB_W3 hb_wa | exact after1 HB_W3 hb_wa | exact after2 HB_W3 hb_wa | exact after3 HB_W3 hb_wa | exact after4 HB_W3 hb_wa | exact after5 HB_W3 hb_wa
  try clear q_a_0 q_a_1
  have H_a := Lib.hid (Box.below (by first | exact H_a.out | exact H_a.out.alloc _ | exact (H_a.out.alloc _).alloc _ | exact ((H_a.out.alloc _).alloc _).alloc _) hb_wa)
  obtain ⟨q_a_0, q_a_1⟩ := H_a.out.c2
  try clear q_b_0 q_b_1
  have H_b := Lib.hid (Box.below (by first | exact H_b.out | exact H_b.out.alloc _ | exact (H_b.out.alloc _).alloc _ | exact ((H_b.out.alloc _).alloc _).alloc _) hb_wa)
  obtain ⟨q_b_0, q_b_1⟩ := H_b.out.c2
  try clear q_c_0 q_c_1
  have H_c := Lib.hid (Box.below (by first | exact H_c.out | exact H_c.out.alloc _ | exact (H_c.out.alloc _).alloc _ | exact ((H_c.out.alloc _).alloc _).alloc _) hb_wa)
  obtain ⟨q_c_0, q_c_1⟩ := H_c.out.c2
  replace HSA := Lib.hid (show Sl wa _ _ _ _ _ _ by first | exact HSA.out.below hb_wa | exact (HSA.out.below (grew1 (Below.refl _ _))).below hb_wa | exact (HSA.out.below (grew2 (Below.refl _ _))).below hb_wa | exact (HSA.out.below (grew3 (Below.refl _ _))).below hb_wa)
  replace HSB := Lib.hid (show Sl wa _ _ _ _ _ _ by first | exact HSB.out.below hb_wa | exact (HSB.out.below (grew1 (Below.refl _ _))).below hb_wa | exact (HSB.out.below (grew2 (Below.refl _ _))).below hb_wa | exact (HSB.out.below (grew3 (Below.refl _ _))).below hb_wa)
  replace HSC := Lib.hid (show Sl wa _ _ _ _ _ _ by first | exact HSC.out.below hb_wa | exact (HSC.out.below (grew1 (Below.refl _ _))).below hb_wa | exact (HSC.out.below (grew2 (Below.refl _ _))).below hb_wa | exact (HSC.out.below (grew3 (Below.refl _ _))).below hb_wa)
  clear hW3 hW2 hW1 hZ1 hZ2 hZ3
  obtain ⟨z0, z1⟩ := (H_a.out.alloc (.cells #[.int .i64 7, .int .i64 2, .int .i64 6] 29)).c2
  have H_m := Lib.hid (Box.new wa [.int .i64 7, .int .i64 2, .int .i64 6] 29)
  clear q_a_0 q_a_1 q_b_0 q_b_1 q_c_0 q_c_1
  go_wp2_with fail
  clear z0 z1
  refine (k_f8 _ (by first | exact HSA.out | exact HSA.out.below (grew1 (Below.refl _ _)) | exact HSA.out.below (grew2 (Below.refl _ _)) | exact HSA.out.below (grew3 (Below.refl _ _)))).mono ?_
  rintro e wb ⟨rfl, hb_wb⟩
  have HB_wb : Below w.heap.size w wb := by first | exact after0 HB_wa hb_wb | exact after1 HB_wa hb_wb | exact after2 HB_wa hb_wb | exact after3 HB_wa hb_wb | exact after4 HB_wa hb_wb | exact after5 HB_wa hb_wb
  try clear q_a_0 q_a_1
  have H_a := Lib.hid (Box.below (by first | exact H_a.out | exact H_a.out.alloc _ | exact (H_a.out.alloc _).alloc _ | exact ((H_a.out.alloc _).alloc _).alloc _) hb_wb)
  obtain ⟨q_a_0, q_a_1⟩ := H_a.out.c2
  try clear q_b_0 q_b_1
  have H_b := Lib.hid (Box.below (by first | exact H_b.out | exact H_b.out.alloc _ | exact (H_b.out.alloc _).alloc _ | exact ((H_b.out.alloc _).alloc _).alloc _) hb_wb)
  obtain ⟨q_b_0, q_b_1⟩ := H_b.out.c2
  try clear q_c_0 q_c_1
  have H_c := Lib.hid (Box.below (by first | exact H_c.out | exact H_c.out.alloc _ | exact (H_c.out.alloc _).alloc _ | exact ((H_c.out.alloc _).alloc _).alloc _) hb_wb)
  obtain ⟨q_c_0, q_c_1⟩ := H_c.out.c2
  try clear q_m_0 q_m_1 q_m_2
  have H_m := Lib.hid (Box.below (by first | exact H_m.out | exact H_m.out.alloc _ | exact (H_m.out.alloc _).alloc _ | exact ((H_m.out.alloc _).alloc _).alloc _) hb_wb)
  obtain ⟨q_m_0, q_m_1, q_m_2⟩ := H_m.out.c3
  replace HSA := Lib.hid (show Sl wb _ _ _ _ _ _ by first | exact HSA.out.below hb_wb | exact (HSA.out.below (grew1 (Below.refl _ _))).below hb_wb | exact (HSA.out.below (grew2 (Below.refl _ _))).below hb_wb | exact (HSA.out.below (grew3 (Below.refl _ _))).below hb_wb)
  replace HSB := Lib.hid (show Sl wb _ _ _ _ _ _ by first | exact HSB.out.below hb_wb | exact (HSB.out.below (grew1 (Below.refl _ _))).below hb_wb | exact (HSB.out.below (grew2 (Below.refl _ _))).below hb_wb | exact (HSB.out.below (grew3 (Below.refl _ _))).below hb_wb)
  replace HSC := Lib.hid (show Sl wb _ _ _ _ _ _ by first | exact HSC.out.below hb_wb | exact (HSC.out.below (grew1 (Below.refl _ _))).below hb_wb | exact (HSC.out.below (grew2 (Below.refl _ _))).below hb_wb | exact (HSC.out.below (grew3 (Below.refl _ _))).below hb_wb)
  obtain ⟨z0, z1⟩ := (H_a.out.alloc (.cells #[.int .i64 0, .int .i64 0, .int .i64 0] 29)).c2
  obtain ⟨z2, z3⟩ := (H_b.out.alloc (.cells #[.int .i64 0, .int .i64 0, .int .i64 0] 29)).c2
  clear q_a_0 q_a_1 q_b_0 q_b_1 q_c_0 q_c_1 q_m_0 q_m_1 q_m_2
  go_wp2_with fail
  clear z0 z1 z2 z3
  refine (k_t5 _ (by first | exact HSA.out | exact HSA.out.below (grew1 (Below.refl _ _)) | exact HSA.out.below (grew2 (Below.refl _ _)) | exact HSA.out.below (grew3 (Below.refl _ _))) (by first | exact HSB.out | exact HSB.out.below (grew1 (Below.refl _ _)) | exact HSB.out.below (grew2 (Below.refl _ _)) | exact HSB.out.below (grew3 (Below.refl _ _)))).mono ?_
  rintro e wc ⟨rfl, hb_wc⟩
  have HB_wc : Below w.heap.size w wc := by first | exact after0 HB_wb hb_wc | exact after1 HB_wb hb_wc | exact after2 HB_wb hb_wc | exact after3 HB_wb hb_wc | exact after4 HB_wb hb_wc | exact after5 HB_wb hb_wc
  try clear q_a_0 q_a_1
  have H_a := Lib.hid (Box.below (by first | exact H_a.out | exact H_a.out.alloc _ | exact (H_a.out.alloc _).alloc _ | exact ((H_a.out.alloc _).alloc _).alloc _) hb_wc)
  obtain ⟨q_a_0, q_a_1⟩ := H_a.out.c2
  try clear q_b_0 q_b_1
  have H_b := Lib.hid (Box.below (by first | exact H_b.out | exact H_b.out.alloc _ | exact (H_b.out.alloc _).alloc _ | exact ((H_b.out.alloc _).alloc _).alloc _) hb_wc)
  obtain ⟨q_b_0, q_b_1⟩ := H_b.out.c2
  try clear q_c_0 q_c_1
  have H_c := Lib.hid (Box.below (by first | exact H_c.out | exact H_c.out.alloc _ | exact (H_c.out.alloc _).alloc _ | exact ((H_c.out.alloc _).alloc _).alloc _) hb_wc)
  obtain ⟨q_c_0, q_c_1⟩ := H_c.out.c2
  try clear q_m_0 q_m_1 q_m_2
  have H_m := Lib.hid (Box.below (by first | exact H_m.out | exact H_m.out.alloc _ | exact (H_m.out.alloc _).alloc _ | exact ((H_m.out.alloc _).alloc _).alloc _) hb_wc)
  obtain ⟨q_m_0, q_m_1, q_m_2⟩ := H_m.out.c3
  replace HSA := Lib.hid (show Sl wc _ _ _ _ _ _ by first | exact HSA.out.below hb_wc | exact (HSA.out.below (grew1 (Below.refl _ _))).below hb_wc | exact (HSA.out.below (grew2 (Below.refl _ _))).below hb_wc | exact (HSA.out.below (grew3 (Below.refl _ _))).below hb_wc)
  replace HSB := Lib.hid (show Sl wc _ _ _ _ _ _ by first | exact HSB.out.below hb_wc | exact (HSB.out.below (grew1 (Below.refl _ _))).below hb_wc | exact (HSB.out.below (grew2 (Below.refl _ _))).below hb_wc | exact (HSB.out.below (grew3 (Below.refl _ _))).below hb_wc)
  replace HSC := Lib.hid (show Sl wc _ _ _ _ _ _ by first | exact HSC.out.below hb_wc | exact (HSC.out.below (grew1 (Below.refl _ _))).below hb_wc | exact (HSC.out.below (grew2 (Below.refl _ _))).below hb_wc | exact (HSC.out.below (grew3 (Below.refl _ _))).below hb_wc)
  go_wp2_with fail
  refine (k_t7 _ (by first | exact HSA.out | exact HSA.out.below (grew1 (Below.refl _ _)) | exact HSA.out.below (grew2 (Below.refl _ _)) | exact HSA.out.below (grew3 (Below.refl _ _))) (by first | exact HSB.out | exact HSB.out.below (grew1 (Below.refl _ _)) | exact HSB.out.below (grew2 (Below.refl _ _)) | exact HSB.out.below (grew3 (Below.refl _ _)))).mono ?_
  rintro e wd ⟨rfl, hb_wd⟩
  have HB_wd : Below w.heap.size w wd := by first | exact after0 HB_wc hb_wd | exact after1 HB_wc hb_wd | exact after2 HB_wc hb_wd | exact after3 HB_wc hb_wd | exact after4 HB_wc hb_wd | exact after5 HB_wc hb_wd
  try clear q_a_0 q_a_1
  have H_a := Lib.hid (Box.below (by first | exact H_a.out | exact H_a.out.alloc _ | exact (H_a.out.alloc _).alloc _ | exact ((H_a.out.alloc _).alloc _).alloc _) hb_wd)
  obtain ⟨q_a_0, q_a_1⟩ := H_a.out.c2
  try clear q_b_0 q_b_1
  have H_b := Lib.hid (Box.below (by first | exact H_b.out | exact H_b.out.alloc _ | exact (H_b.out.alloc _).alloc _ | exact ((H_b.out.alloc _).alloc _).alloc _) hb_wd)
  obtain ⟨q_b_0, q_b_1⟩ := H_b.out.c2
  try clear q_c_0 q_c_1
  have H_c := Lib.hid (Box.below (by first | exact H_c.out | exact H_c.out.alloc _ | exact (H_c.out.alloc _).alloc _ | exact ((H_c.out.alloc _).alloc _).alloc _) hb_wd)
  obtain ⟨q_c_0, q_c_1⟩ := H_c.out.c2
  try clear q_m_0 q_m_1 q_m_2
  have H_m := Lib.hid (Box.below (by first | exact H_m.out | exact H_m.out.alloc _ | exact (H_m.out.alloc _).alloc _ | exact ((H_m.out.alloc _).alloc _).alloc _) hb_wd)
  obtain ⟨q_m_0, q_m_1, q_m_2⟩ := H_m.out.c3
  replace HSA := Lib.hid (show Sl wd _ _ _ _ _ _ by first | exact HSA.out.below hb_wd | exact (HSA.out.below (grew1 (Below.refl _ _))).below hb_wd | exact (HSA.out.below (grew2 (Below.refl _ _))).below hb_wd | exact (HSA.out.below (grew3 (Below.refl _ _))).below hb_wd)
  replace HSB := Lib.hid (show Sl wd _ _ _ _ _ _ by first | exact HSB.out.below hb_wd | exact (HSB.out.below (grew1 (Below.refl _ _))).below hb_wd | exact (HSB.out.below (grew2 (Below.refl _ _))).below hb_wd | exact (HSB.out.below (grew3 (Below.refl _ _))).below hb_wd)
  replace HSC := Lib.hid (show Sl wd _ _ _ _ _ _ by first | exact HSC.out.below hb_wd | exact (HSC.out.below (grew1 (Below.refl _ _))).below hb_wd | exact (HSC.out.below (grew2 (Below.refl _ _))).below hb_wd | exact (HSC.out.below (grew3 (Below.refl _ _))).below hb_wd)
  go_wp2_with fail
  refine (k_t9 _ (by first | exact HSA.out | exact HSA.out.below (grew1 (Below.refl _ _)) | exact HSA.out.below (grew2 (Below.refl _ _)) | exact HSA.out.below (grew3 (Below.refl _ _))) (by first | exact HSB.out | exact HSB.out.below (grew1 (Below.refl _ _)) | exact HSB.out.below (grew2 (Below.refl _ _)) | exact HSB.out.below (grew3 (Below.refl _ _)))).mono ?_
  rintro e we ⟨rfl, hb_we⟩
  have HB_we : Below w.heap.size w we := by first | exact after0 HB_wd hb_we | exact after1 HB_wd hb_we | exact after2 HB_wd hb_we | exact after3 HB_wd hb_we | exact after4 HB_wd hb_we | exact after5 HB_wd hb_we
  try clear q_a_0 q_a_1
  have H_a := Lib.hid (Box.below (by first | exact H_a.out | exact H_a.out.alloc _ | exact (H_a.out.alloc _).alloc _ | exact ((H_a.out.alloc _).alloc _).alloc _) hb_we)
  obtain ⟨q_a_0, q_a_1⟩ := H_a.out.c2
  try clear q_b_0 q_b_1
  have H_b := Lib.hid (Box.below (by first | exact H_b.out | exact H_b.out.alloc _ | exact (H_b.out.alloc _).alloc _ | exact ((H_b.out.alloc _).alloc _).alloc _) hb_we)
  obtain ⟨q_b_0, q_b_1⟩ := H_b.out.c2
  try clear q_c_0 q_c_1
  have H_c := Lib.hid (Box.below (by first | exact H_c.out | exact H_c.out.alloc _ | exact (H_c.out.alloc _).alloc _ | exact ((H_c.out.alloc _).alloc _).alloc _) hb_we)
  obtain ⟨q_c_0, q_c_1⟩ := H_c.out.c2
  try clear q_m_0 q_m_1 q_m_2
  have H_m := Lib.hid (Box.below (by first | exact H_m.out | exact H_m.out.alloc _ | exact (H_m.out.alloc _).alloc _ | exact ((H_m.out.alloc _).alloc _).alloc _) hb_we)
  obtain ⟨q_m_0, q_m_1, q_m_2⟩ := H_m.out.c3
  replace HSA := Lib.hid (show Sl we _ _ _ _ _ _ by first | exact HSA.out.below hb_we | exact (HSA.out.below (grew1 (Below.refl _ _))).below hb_we | exact (HSA.out.below (grew2 (Below.refl _ _))).below hb_we | exact (HSA.out.below (grew3 (Below.refl _ _))).below hb_we)
  replace HSB := Lib.hid (show Sl we _ _ _ _ _ _ by first | exact HSB.out.below hb_we | exact (HSB.out.below (grew1 (Below.refl _ _))).below hb_we | exact (HSB.out.below (grew2 (Below.refl _ _))).below hb_we | exact (HSB.out.below (grew3 (Below.refl _ _))).below hb_we)
  replace HSC := Lib.hid (show Sl we _ _ _ _ _ _ by first | exact HSC.out.below hb_we | exact (HSC.out.below (grew1 (Below.refl _ _))).below hb_we | exact (HSC.out.below (grew2 (Below.refl _ _))).below hb_we | exact (HSC.out.below (grew3 (Below.refl _ _))).below hb_we)
  go_wp2_with fail
  refine (k_l _ (by first | exact HSA.out | exact HSA.out.below (grew1 (Below.refl _ _)) | exact HSA.out.below (grew2 (Below.refl _ _)) | exact HSA.out.below (grew3 (Below.refl _ _))) (by first | exact HSB.out | exact HSB.out.below (grew1 (Below.refl _ _)) | exact HSB.out.below (grew2 (Below.refl _ _)) | exact HSB.out.below (grew3 (Below.refl _ _)))).mono ?_
  rintro e wf ⟨ao1, n1, cap1, rfl, hl, hb_wf⟩
  have HB_wf : Below w.heap.size w wf := by first | exact after0 HB_we hb_wf | exact after1 HB_we hb_wf | exact after2 HB_we hb_wf | exact after3 HB_we hb_wf | exact after4 HB_we hb_wf | exact after5 HB_we hb_wf
  try clear q_a_0 q_a_1
  have H_a := Lib.hid (Box.below (by first | exact H_a.out | exact H_a.out.alloc _ | exact (H_a.out.alloc _).alloc _ | exact ((H_a.out.alloc _).alloc _).alloc _) hb_wf)
  obtain ⟨q_a_0, q_a_1⟩ := H_a.out.c2
  try clear q_b_0 q_b_1
  have H_b := Lib.hid (Box.below (by first | exact H_b.out | exact H_b.out.alloc _ | exact (H_b.out.alloc _).alloc _ | exact ((H_b.out.alloc _).alloc _).alloc _) hb_wf)
  obtain ⟨q_b_0, q_b_1⟩ := H_b.out.c2
  try clear q_c_0 q_c_1
  have H_c := Lib.hid (Box.below (by first | exact H_c.out | exact H_c.out.alloc _ | exact (H_c.out.alloc _).alloc _ | exact ((H_c.out.alloc _).alloc _).alloc _) hb_wf)
  obtain ⟨q_c_0, q_c_1⟩ := H_c.out.c2
  try clear q_m_0 q_m_1 q_m_2
  have H_m := Lib.hid (Box.below (by first | exact H_m.out | exact H_m.out.alloc _ | exact (H_m.out.alloc _).alloc _ | exact ((H_m.out.alloc _).alloc _).alloc _) hb_wf)
  obtain ⟨q_m_0, q_m_1, q_m_2⟩ := H_m.out.c3
  replace HSA := Lib.hid (show Sl wf _ _ _ _ _ _ by first | exact HSA.out.below hb_wf | exact (HSA.out.below (grew1 (Below.refl _ _))).below hb_wf | exact (HSA.out.below (grew2 (Below.refl _ _))).below hb_wf | exact (HSA.out.below (grew3 (Below.refl _ _))).below hb_wf)
  replace HSB := Lib.hid (show Sl wf _ _ _ _ _ _ by first | exact HSB.out.below hb_wf | exact (HSB.out.below (grew1 (Below.refl _ _))).below hb_wf | exact (HSB.out.below (grew2 (Below.refl _ _))).below hb_wf | exact (HSB.out.below (grew3 (Below.refl _ _))).below hb_wf)
  replace HSC := Lib.hid (show Sl wf _ _ _ _ _ _ by first | exact HSC.out.below hb_wf | exact (HSC.out.below (grew1 (Below.refl _ _))).below hb_wf | exact (HSC.out.below (grew2 (Below.refl _ _))).below hb_wf | exact (HSC.out.below (grew3 (Below.refl _ _))).below hb_wf)
  have HL1 := Lib.hid hl
  clear hl
  go_wp2_with fail
  refine (k_c1 _ (by first | exact HSA.out | exact HSA.out.below (grew1 (Below.refl _ _)) | exact HSA.out.below (grew2 (Below.refl _ _)) | exact HSA.out.below (grew3 (Below.refl _ _))) (by first | exact HSB.out | exact HSB.out.below (grew1 (Below.refl _ _)) | exact HSB.out.below (grew2 (Below.refl _ _)) | exact HSB.out.below (grew3 (Below.refl _ _)))).mono ?_
  rintro e wg ⟨ao2, n2, cap2, rfl, hl, hb_wg⟩
  have HB_wg : Below w.heap.size w wg := by first | exact after0 HB_wf hb_wg | exact after1 HB_wf hb_wg | exact after2 HB_wf hb_wg | exact after3 HB_wf hb_wg | exact after4 HB_wf hb_wg | exact after5 HB_wf hb_wg
  try clear q_a_0 q_a_1
  have H_a := Lib.hid (Box.below (by first | exact H_a.out | exact H_a.out.alloc _ | exact (H_a.out.alloc _).alloc _ | exact ((H_a.out.alloc _).alloc _).alloc _) hb_wg)
  obtain ⟨q_a_0, q_a_1⟩ := H_a.out.c2
  try clear q_b_0 q_b_1
  have H_b := Lib.hid (Box.below (by first | exact H_b.out | exact H_b.out.alloc _ | exact (H_b.out.alloc _).alloc _ | exact ((H_b.out.alloc _).alloc _).alloc _) hb_wg)
  obtain ⟨q_b_0, q_b_1⟩ := H_b.out.c2
  try clear q_c_0 q_c_1
  have H_c := Lib.hid (Box.below (by first | exact H_c.out | exact H_c.out.alloc _ | exact (H_c.out.alloc _).alloc _ | exact ((H_c.out.alloc _).alloc _).alloc _) hb_wg)
  obtain ⟨q_c_0, q_c_1⟩ := H_c.out.c2
  try clear q_m_0 q_m_1 q_m_2
  have H_m := Lib.hid (Box.below (by first | exact H_m.out | exact H_m.out.alloc _ | exact (H_m.out.alloc _).alloc _ | exact ((H_m.out.alloc _).alloc _).alloc _) hb_wg)
  obtain ⟨q_m_0, q_m_1, q_m_2⟩ := H_m.out.c3
  replace HSA := Lib.hid (show Sl wg _ _ _ _ _ _ by first | exact HSA.out.below hb_wg | exact (HSA.out.below (grew1 (Below.refl _ _))).below hb_wg | exact (HSA.out.below (grew2 (Below.refl _ _))).below hb_wg | exact (HSA.out.below (grew3 (Below.refl _ _))).below hb_wg)
  replace HSB := Lib.hid (show Sl wg _ _ _ _ _ _ by first | exact HSB.out.below hb_wg | exact (HSB.out.below (grew1 (Below.refl _ _))).below hb_wg | exact (HSB.out.below (grew2 (Below.refl _ _))).below hb_wg | exact (HSB.out.below (grew3 (Below.refl _ _))).below hb_wg)
  replace HSC := Lib.hid (show Sl wg _ _ _ _ _ _ by first | exact HSC.out.below hb_wg | exact (HSC.out.below (grew1 (Below.refl _ _))).below hb_wg | exact (HSC.out.below (grew2 (Below.refl _ _))).below hb_wg | exact (HSC.out.below (grew3 (Below.refl _ _))).below hb_wg)
  replace HL1 := Lib.hid (show Sl wg _ _ _ _ _ _ by first | exact HL1.out.below hb_wg | exact (HL1.out.below (grew1 (Below.refl _ _))).below hb_wg | exact (HL1.out.below (grew2 (Below.refl _ _))).below hb_wg | exact (HL1.out.below (grew3 (Below.refl _ _))).below hb_wg)
  have HL2 := Lib.hid hl
  clear hl
  go_wp2_with fail
  refine (k_c2 _ (by first | exact HSB.out | exact HSB.out.below (grew1 (Below.refl _ _)) | exact HSB.out.below (grew2 (Below.refl _ _)) | exact HSB.out.below (grew3 (Below.refl _ _))) (by first | exact HSA.out | exact HSA.out.below (grew1 (Below.refl _ _)) | exact HSA.out.below (grew2 (Below.refl _ _)) | exact HSA.out.below (grew3 (Below.refl _ _)))).mono ?_
  rintro e wh ⟨ao3, n3, cap3, rfl, hl, hb_wh⟩
  have HB_wh : Below w.heap.size w wh := by first | exact after0 HB_wg hb_wh | exact after1 HB_wg hb_wh | exact after2 HB_wg hb_wh | exact after3 HB_wg hb_wh | exact after4 HB_wg hb_wh | exact after5 HB_wg hb_wh
  try clear q_a_0 q_a_1
  have H_a := Lib.hid (Box.below (by first | exact H_a.out | exact H_a.out.alloc _ | exact (H_a.out.alloc _).alloc _ | exact ((H_a.out.alloc _).alloc _).alloc _) hb_wh)
  obtain ⟨q_a_0, q_a_1⟩ := H_a.out.c2
  try clear q_b_0 q_b_1
  have H_b := Lib.hid (Box.below (by first | exact H_b.out | exact H_b.out.alloc _ | exact (H_b.out.alloc _).alloc _ | exact ((H_b.out.alloc _).alloc _).alloc _) hb_wh)
  obtain ⟨q_b_0, q_b_1⟩ := H_b.out.c2
  try clear q_c_0 q_c_1
  have H_c := Lib.hid (Box.below (by first | exact H_c.out | exact H_c.out.alloc _ | exact (H_c.out.alloc _).alloc _ | exact ((H_c.out.alloc _).alloc _).alloc _) hb_wh)
  obtain ⟨q_c_0, q_c_1⟩ := H_c.out.c2
  try clear q_m_0 q_m_1 q_m_2
  have H_m := Lib.hid (Box.below (by first | exact H_m.out | exact H_m.out.alloc _ | exact (H_m.out.alloc _).alloc _ | exact ((H_m.out.alloc _).alloc _).alloc _) hb_wh)
  obtain ⟨q_m_0, q_m_1, q_m_2⟩ := H_m.out.c3
  replace HSA := Lib.hid (show Sl wh _ _ _ _ _ _ by first | exact HSA.out.below hb_wh | exact (HSA.out.below (grew1 (Below.refl _ _))).below hb_wh | exact (HSA.out.below (grew2 (Below.refl _ _))).below hb_wh | exact (HSA.out.below (grew3 (Below.refl _ _))).below hb_wh)
  replace HSB := Lib.hid (show Sl wh _ _ _ _ _ _ by first | exact HSB.out.below hb_wh | exact (HSB.out.below (grew1 (Below.refl _ _))).below hb_wh | exact (HSB.out.below (grew2 (Below.refl _ _))).below hb_wh | exact (HSB.out.below (grew3 (Below.refl _ _))).below hb_wh)
  replace HSC := Lib.hid (show Sl wh _ _ _ _ _ _ by first | exact HSC.out.below hb_wh | exact (HSC.out.below (grew1 (Below.refl _ _))).below hb_wh | exact (HSC.out.below (grew2 (Below.refl _ _))).below hb_wh | exact (HSC.out.below (grew3 (Below.refl _ _))).below hb_wh)
  replace HL1 := Lib.hid (show Sl wh _ _ _ _ _ _ by first | exact HL1.out.below hb_wh | exact (HL1.out.below (grew1 (Below.refl _ _))).below hb_wh | exact (HL1.out.below (grew2 (Below.refl _ _))).below hb_wh | exact (HL1.out.below (grew3 (Below.refl _ _))).below hb_wh)
  replace HL2 := Lib.hid (show Sl wh _ _ _ _ _ _ by first | exact HL2.out.below hb_wh | exact (HL2.out.below (grew1 (Below.refl _ _))).below hb_wh | exact (HL2.out.below (grew2 (Below.refl _ _))).below hb_wh | exact (HL2.out.below (grew3 (Below.refl _ _))).below hb_wh)
  have HL3 := Lib.hid hl
  clear hl
  go_wp2_with fail
  refine (k_ch _ (by first | exact HSA.out | exact HSA.out.below (grew1 (Below.refl _ _)) | exact HSA.out.below (grew2 (Below.refl _ _)) | exact HSA.out.below (grew3 (Below.refl _ _))) (by first | exact HSB.out | exact HSB.out.below (grew1 (Below.refl _ _)) | exact HSB.out.below (grew2 (Below.refl _ _)) | exact HSB.out.below (grew3 (Below.refl _ _))) (Box.new wh [.int .i64 1, .slice (some ⟨w.heap.size, 0, none⟩) 3 3, .int .i64 2, .slice (some ⟨w.heap.size + 2, 0, none⟩) 3 3, .int .i64 1, .slice (some ⟨w.heap.size, 0, none⟩) 3 3] 24)).mono ?_
  rintro e wi ⟨rfl, hb_wi⟩
  have HB_wi : Below w.heap.size w wi := by first | exact after0 HB_wh hb_wi | exact after1 HB_wh hb_wi | exact after2 HB_wh hb_wi | exact after3 HB_wh hb_wi | exact after4 HB_wh hb_wi | exact after5 HB_wh hb_wi
  try clear q_a_0 q_a_1
  have H_a := Lib.hid (Box.below (by first | exact H_a.out | exact H_a.out.alloc _ | exact (H_a.out.alloc _).alloc _ | exact ((H_a.out.alloc _).alloc _).alloc _) hb_wi)
  obtain ⟨q_a_0, q_a_1⟩ := H_a.out.c2
  try clear q_b_0 q_b_1
  have H_b := Lib.hid (Box.below (by first | exact H_b.out | exact H_b.out.alloc _ | exact (H_b.out.alloc _).alloc _ | exact ((H_b.out.alloc _).alloc _).alloc _) hb_wi)
  obtain ⟨q_b_0, q_b_1⟩ := H_b.out.c2
  try clear q_c_0 q_c_1
  have H_c := Lib.hid (Box.below (by first | exact H_c.out | exact H_c.out.alloc _ | exact (H_c.out.alloc _).alloc _ | exact ((H_c.out.alloc _).alloc _).alloc _) hb_wi)
  obtain ⟨q_c_0, q_c_1⟩ := H_c.out.c2
  try clear q_m_0 q_m_1 q_m_2
  have H_m := Lib.hid (Box.below (by first | exact H_m.out | exact H_m.out.alloc _ | exact (H_m.out.alloc _).alloc _ | exact ((H_m.out.alloc _).alloc _).alloc _) hb_wi)
  obtain ⟨q_m_0, q_m_1, q_m_2⟩ := H_m.out.c3
  replace HSA := Lib.hid (show Sl wi _ _ _ _ _ _ by first | exact HSA.out.below hb_wi | exact (HSA.out.below (grew1 (Below.refl _ _))).below hb_wi | exact (HSA.out.below (grew2 (Below.refl _ _))).below hb_wi | exact (HSA.out.below (grew3 (Below.refl _ _))).below hb_wi)
  replace HSB := Lib.hid (show Sl wi _ _ _ _ _ _ by first | exact HSB.out.below hb_wi | exact (HSB.out.below (grew1 (Below.refl _ _))).below hb_wi | exact (HSB.out.below (grew2 (Below.refl _ _))).below hb_wi | exact (HSB.out.below (grew3 (Below.refl _ _))).below hb_wi)
  replace HSC := Lib.hid (show Sl wi _ _ _ _ _ _ by first | exact HSC.out.below hb_wi | exact (HSC.out.below (grew1 (Below.refl _ _))).below hb_wi | exact (HSC.out.below (grew2 (Below.refl _ _))).below hb_wi | exact (HSC.out.below (grew3 (Below.refl _ _))).below hb_wi)
  replace HL1 := Lib.hid (show Sl wi _ _ _ _ _ _ by first | exact HL1.out.below hb_wi | exact (HL1.out.below (grew1 (Below.refl _ _))).below hb_wi | exact (HL1.out.below (grew2 (Below.refl _ _))).below hb_wi | exact (HL1.out.below (grew3 (Below.refl _ _))).below hb_wi)
  replace HL2 := Lib.hid (show Sl wi _ _ _ _ _ _ by first | exact HL2.out.below hb_wi | exact (HL2.out.below (grew1 (Below.refl _ _))).below hb_wi | exact (HL2.out.below (grew2 (Below.refl _ _))).below hb_wi | exact (HL2.out.below (grew3 (Below.refl _ _))).below hb_wi)
  replace HL3 := Lib.hid (show Sl wi _ _ _ _ _ _ by first | exact HL3.out.below hb_wi | exact (HL3.out.below (grew1 (Below.refl _ _))).below hb_wi | exact (HL3.out.below (grew2 (Below.refl _ _))).below hb_wi | exact (HL3.out.below (grew3 (Below.refl _ _))).below hb_wi)
  go_wp2_with fail
  refine (k_j _ (by first | exact HSA.out | exact HSA.out.below (grew1 (Below.refl _ _)) | exact HSA.out.below (grew2 (Below.refl _ _)) | exact HSA.out.below (grew3 (Below.refl _ _))) (by first | exact HSC.out | exact HSC.out.below (grew1 (Below.refl _ _)) | exact HSC.out.below (grew2 (Below.refl _ _)) | exact HSC.out.below (grew3 (Below.refl _ _)))).mono ?_
  rintro e wj ⟨ao4, n4, cap4, rfl, hl, hb_wj⟩
  have HB_wj : Below w.heap.size w wj := by first | exact after0 HB_wi hb_wj | exact after1 HB_wi hb_wj | exact after2 HB_wi hb_wj | exact after3 HB_wi hb_wj | exact after4 HB_wi hb_wj | exact after5 HB_wi hb_wj
  try clear q_a_0 q_a_1
  have H_a := Lib.hid (Box.below (by first | exact H_a.out | exact H_a.out.alloc _ | exact (H_a.out.alloc _).alloc _ | exact ((H_a.out.alloc _).alloc _).alloc _) hb_wj)
  obtain ⟨q_a_0, q_a_1⟩ := H_a.out.c2
  try clear q_b_0 q_b_1
  have H_b := Lib.hid (Box.below (by first | exact H_b.out | exact H_b.out.alloc _ | exact (H_b.out.alloc _).alloc _ | exact ((H_b.out.alloc _).alloc _).alloc _) hb_wj)
  obtain ⟨q_b_0, q_b_1⟩ := H_b.out.c2
  try clear q_c_0 q_c_1
  have H_c := Lib.hid (Box.below (by first | exact H_c.out | exact H_c.out.alloc _ | exact (H_c.out.alloc _).alloc _ | exact ((H_c.out.alloc _).alloc _).alloc _) hb_wj)
  obtain ⟨q_c_0, q_c_1⟩ := H_c.out.c2
  try clear q_m_0 q_m_1 q_m_2
  have H_m := Lib.hid (Box.below (by first | exact H_m.out | exact H_m.out.alloc _ | exact (H_m.out.alloc _).alloc _ | exact ((H_m.out.alloc _).alloc _).alloc _) hb_wj)
  obtain ⟨q_m_0, q_m_1, q_m_2⟩ := H_m.out.c3
  replace HSA := Lib.hid (show Sl wj _ _ _ _ _ _ by first | exact HSA.out.below hb_wj | exact (HSA.out.below (grew1 (Below.refl _ _))).below hb_wj | exact (HSA.out.below (grew2 (Below.refl _ _))).below hb_wj | exact (HSA.out.below (grew3 (Below.refl _ _))).below hb_wj)
  replace HSB := Lib.hid (show Sl wj _ _ _ _ _ _ by first | exact HSB.out.below hb_wj | exact (HSB.out.below (grew1 (Below.refl _ _))).below hb_wj | exact (HSB.out.below (grew2 (Below.refl _ _))).below hb_wj | exact (HSB.out.below (grew3 (Below.refl _ _))).below hb_wj)
  replace HSC := Lib.hid (show Sl wj _ _ _ _ _ _ by first | exact HSC.out.below hb_wj | exact (HSC.out.below (grew1 (Below.refl _ _))).below hb_wj | exact (HSC.out.below (grew2 (Below.refl _ _))).below hb_wj | exact (HSC.out.below (grew3 (Below.refl _ _))).below hb_wj)
  replace HL1 := Lib.hid (show Sl wj _ _ _ _ _ _ by first | exact HL1.out.below hb_wj | exact (HL1.out.below (grew1 (Below.refl _ _))).below hb_wj | exact (HL1.out.below (grew2 (Below.refl _ _))).below hb_wj | exact (HL1.out.below (grew3 (Below.refl _ _))).below hb_wj)
  replace HL2 := Lib.hid (show Sl wj _ _ _ _ _ _ by first | exact HL2.out.below hb_wj | exact (HL2.out.below (grew1 (Below.refl _ _))).below hb_wj | exact (HL2.out.below (grew2 (Below.refl _ _))).below hb_wj | exact (HL2.out.below (grew3 (Below.refl _ _))).below hb_wj)
  replace HL3 := Lib.hid (show Sl wj _ _ _ _ _ _ by first | exact HL3.out.below hb_wj | exact (HL3.out.below (grew1 (Below.refl _ _))).below hb_wj | exact (HL3.out.below (grew2 (Below.refl _ _))).below hb_wj | exact (HL3.out.below (grew3 (Below.refl _ _))).below hb_wj)
  have HL4 := Lib.hid hl
  clear hl
  clear q_a_0 q_a_1 q_b_0 q_b_1 q_c_0 q_c_1 q_m_0 q_m_1 q_m_2
  obtain ⟨W4, hW4, hB4, hZ4, hj, hx⟩ := boxes2 wj [.int .i64 1, .slice ao4 n4 cap4] [.int .i64 7] 24 3
  have HB_W4 : Below w.heap.size w W4 := after0 HB_wj hB4
  have H_j := Lib.hid hj
  have H_x := Lib.hid hx
  obtain ⟨z0, z1, z2⟩ := (Box.alloc (H_m.out) (.cells #[.int .i64 1, .slice ao4 n4 cap4] 24)).c3
  replace HL1 := Lib.hid (HL1.out.below hB4)
  replace HL2 := Lib.hid (HL2.out.below hB4)
  replace HL3 := Lib.hid (HL3.out.below hB4)
  replace HL4 := Lib.hid (HL4.out.below hB4)
  clear hj hx
  go_wp2_with fail
  clear z0 z1 z2 hW4 hZ4 hB4
  refine (k_i1 _ (by first | exact HL1.out | exact HL1.out.below (grew1 (Below.refl _ _)) | exact HL1.out.below (grew2 (Below.refl _ _)) | exact HL1.out.below (grew3 (Below.refl _ _))) H_x.out).mono ?_
  rintro e wk ⟨rfl, hb_wk⟩
  have HB_wk : Below w.heap.size w wk := by first | exact after0 HB_W4 hb_wk | exact after1 HB_W4 hb_wk | exact after2 HB_W4 hb_wk | exact after3 HB_W4 hb_wk | exact after4 HB_W4 hb_wk | exact after5 HB_W4 hb_wk
  try clear q_j_0 q_j_1
  have H_j := Lib.hid (Box.below (by first | exact H_j.out | exact H_j.out.alloc _ | exact (H_j.out.alloc _).alloc _ | exact ((H_j.out.alloc _).alloc _).alloc _) hb_wk)
  obtain ⟨q_j_0, q_j_1⟩ := H_j.out.c2
  replace HL2 := Lib.hid (show Sl wk _ _ _ _ _ _ by first | exact HL2.out.below hb_wk | exact (HL2.out.below (grew1 (Below.refl _ _))).below hb_wk | exact (HL2.out.below (grew2 (Below.refl _ _))).below hb_wk | exact (HL2.out.below (grew3 (Below.refl _ _))).below hb_wk)
  replace HL3 := Lib.hid (show Sl wk _ _ _ _ _ _ by first | exact HL3.out.below hb_wk | exact (HL3.out.below (grew1 (Below.refl _ _))).below hb_wk | exact (HL3.out.below (grew2 (Below.refl _ _))).below hb_wk | exact (HL3.out.below (grew3 (Below.refl _ _))).below hb_wk)
  replace HL4 := Lib.hid (show Sl wk _ _ _ _ _ _ by first | exact HL4.out.below hb_wk | exact (HL4.out.below (grew1 (Below.refl _ _))).below hb_wk | exact (HL4.out.below (grew2 (Below.refl _ _))).below hb_wk | exact (HL4.out.below (grew3 (Below.refl _ _))).below hb_wk)
  have H_y := Lib.hid (Box.new wk [.int .i64 5] 3)
  go_wp2_with fail
  refine (k_i1 _ (by first | exact HL2.out | exact HL2.out.below (grew1 (Below.refl _ _)) | exact HL2.out.below (grew2 (Below.refl _ _)) | exact HL2.out.below (grew3 (Below.refl _ _))) H_y.out).mono ?_
  rintro e wl ⟨rfl, hb_wl⟩
  have HB_wl : Below w.heap.size w wl := by first | exact after0 HB_wk hb_wl | exact after1 HB_wk hb_wl | exact after2 HB_wk hb_wl | exact after3 HB_wk hb_wl | exact after4 HB_wk hb_wl | exact after5 HB_wk hb_wl
  try clear q_j_0 q_j_1
  have H_j := Lib.hid (Box.below (by first | exact H_j.out | exact H_j.out.alloc _ | exact (H_j.out.alloc _).alloc _ | exact ((H_j.out.alloc _).alloc _).alloc _) hb_wl)
  obtain ⟨q_j_0, q_j_1⟩ := H_j.out.c2
  replace HL3 := Lib.hid (show Sl wl _ _ _ _ _ _ by first | exact HL3.out.below hb_wl | exact (HL3.out.below (grew1 (Below.refl _ _))).below hb_wl | exact (HL3.out.below (grew2 (Below.refl _ _))).below hb_wl | exact (HL3.out.below (grew3 (Below.refl _ _))).below hb_wl)
  replace HL4 := Lib.hid (show Sl wl _ _ _ _ _ _ by first | exact HL4.out.below hb_wl | exact (HL4.out.below (grew1 (Below.refl _ _))).below hb_wl | exact (HL4.out.below (grew2 (Below.refl _ _))).below hb_wl | exact (HL4.out.below (grew3 (Below.refl _ _))).below hb_wl)
  have H_z := Lib.hid (Box.new wl [.int .i64 20, .int .i64 21] 3)
  go_wp2_with fail
  refine (k_i2 _ (by first | exact HL3.out | exact HL3.out.below (grew1 (Below.refl _ _)) | exact HL3.out.below (grew2 (Below.refl _ _)) | exact HL3.out.below (grew3 (Below.refl _ _))) H_z.out).mono ?_
  rintro e wm ⟨rfl, hb_wm⟩
  have HB_wm : Below w.heap.size w wm := by first | exact after0 HB_wl hb_wm | exact after1 HB_wl hb_wm | exact after2 HB_wl hb_wm | exact after3 HB_wl hb_wm | exact after4 HB_wl hb_wm | exact after5 HB_wl hb_wm
  try clear q_j_0 q_j_1
  have H_j := Lib.hid (Box.below (by first | exact H_j.out | exact H_j.out.alloc _ | exact (H_j.out.alloc _).alloc _ | exact ((H_j.out.alloc _).alloc _).alloc _) hb_wm)
  obtain ⟨q_j_0, q_j_1⟩ := H_j.out.c2
  replace HL4 := Lib.hid (show Sl wm _ _ _ _ _ _ by first | exact HL4.out.below hb_wm | exact (HL4.out.below (grew1 (Below.refl _ _))).below hb_wm | exact (HL4.out.below (grew2 (Below.refl _ _))).below hb_wm | exact (HL4.out.below (grew3 (Below.refl _ _))).below hb_wm)
  have H_t := Lib.hid (Box.new wm [.int .i64 5, .int .i64 2, .int .i64 8, .int .i64 6, .int .i64 6, .int .i64 0, .int .i64 7, .int .i64 2, .int .i64 6, .int .i64 9, .int .i64 5, .int .i64 1] 29)
  go_wp2_with fail
  refine (k_s _ (by first | exact HL4.out | exact HL4.out.below (grew1 (Below.refl _ _)) | exact HL4.out.below (grew2 (Below.refl _ _)) | exact HL4.out.below (grew3 (Below.refl _ _))) H_t.out).mono ?_
  rintro e wn ⟨rfl, hb_wn⟩
  have HB_wn : Below w.heap.size w wn := by first | exact after0 HB_wm hb_wn | exact after1 HB_wm hb_wn | exact after2 HB_wm hb_wn | exact after3 HB_wm hb_wn | exact after4 HB_wm hb_wn | exact after5 HB_wm hb_wn
  go_wp2_with fail
  go_ret
  exact ⟨rfl, HB_wn⟩
end Go.Proofs.Ytmnlkndbdcdngaa
