/-
  The examples of chapter 18 (head).
-/
import Derived.Test.YtofilkphaelceaaFoQ
import Derived.Test.YtofilkphaelceaaFoI
import Derived.Test.YtofilkphaelceaaFoN
set_option linter.unusedVariables false
namespace Go.Proofs.Ytofilkphaelceaa
open Go Go.RowKit Fo Sk Go.Sort

/-- the steps of the examples -/
def kS (a b : Option Addr) : List St := [⟨1, none, 0, 0, []⟩, ⟨2, none, 0, 0, []⟩, ⟨3, a, 1, 1, [1]⟩, ⟨5, b, 2, 2, [2, 3]⟩]
def kT (a b : Option Addr) : List St := [⟨2, none, 0, 0, []⟩, ⟨3, a, 1, 1, [1]⟩, ⟨5, b, 2, 2, [2, 3]⟩]
section
variable (a b : Option Addr)
theorem e_r : readyR (kS a b) [1] = ([2, 3], 0) := by kernel_rfl
theorem e_o : orderR (kS a b) [2] = ([1, 3, 5], 0) := by kernel_rfl
theorem e_p1 : permR (kS a b) [2, 1, 3, 5] = (-1, 0) := by kernel_rfl
theorem e_p2 : permR (kS a b) [1, 3, 5, 2] = (2, 0) := by kernel_rfl
theorem e_m : missR (kS a b) [1] 5 = ([2, 3], 0) := by kernel_rfl
theorem e_b : missR (kS a b) [] 5 = ([1, 2, 3], 0) := by kernel_rfl
theorem e_c : besR (kS a b) = ([(1, 2), (2, 3)], 0) := by kernel_rfl
theorem e_x1 : exchR (kS a b) [1, 3, 2, 5] = ([1], 0) := by kernel_rfl
theorem e_x2 : exchR (kS a b) [2, 1, 3] = ([0], 0) := by kernel_rfl
theorem e_x3 : exchR (kS a b) [3, 1] = ([], 14) := by kernel_rfl
theorem e_v : valid (kS a b) = true := by kernel_rfl
theorem e_w : valid (kT a b) = false := by kernel_rfl
end

/-- a slice of integers and an error -/
def IntsK (w : World) (l : List Int) (x : Int) (e : Ending) (w' : World) : Prop := ∃ ao n cap, e = .returned (.tuple #[.slice ao n cap, .int .i64 x]) ∧ Sl w' 1 cI ao n cap l ∧ Below w.heap.size w w'
def PairsK (w : World) (l : List (Int × Int)) (x : Int) (e : Ending) (w' : World) : Prop := ∃ ao n cap, e = .returned (.tuple #[.slice ao n cap, .int .i64 x]) ∧ Sl w' 2 cP ao n cap l ∧ Below w.heap.size w w'
def StepsK (w : World) (e : Ending) (w' : World) : Prop := ∃ ao a b, e = .returned (.slice ao 4 4) ∧ SlS w' ao 4 4 (kS a b) ∧ Below w.heap.size w w'
theorem i64_lit (x : Int) (h : decide (-9223372036854775808 ≤ x ∧ x ≤ 9223372036854775807) = true) : I64 x := i64_of (of_decide_eq_true h).1 (of_decide_eq_true h).2

theorem steps_any (w : World) : Calls Try.prog 34 #[] w (StepsK w) := by
  obtain ⟨W0, hW0, HB_W0, hZ, h1, h2, h3⟩ := boxes3 w [.int .i64 1] [.int .i64 2, .int .i64 3] [.int .i64 1, .slice none 0 0, .int .i64 2, .slice none 0 0, .int .i64 3, .slice (some ⟨w.heap.size, 0, none⟩) 1 1, .int .i64 5, .slice (some ⟨w.heap.size + 1, 0, none⟩) 2 2] 3 3 44
  have HS := Lib.hid (show SlS W0 (some ⟨w.heap.size + 2, 0, none⟩) 4 4 (kS (some ⟨w.heap.size, 0, none⟩) (some ⟨w.heap.size + 1, 0, none⟩)) from ⟨Sl.lit (l := kS (some ⟨w.heap.size, 0, none⟩) (some ⟨w.heap.size + 1, 0, none⟩)) cS_len h3 (by unfold maxLen; simp [kS]), by
    intro s hs
    simp only [kS, List.mem_cons, List.not_mem_nil, or_false] at hs
    rcases hs with rfl | rfl | rfl | rfl
    · exact ⟨Sl.nil, by simp⟩
    · exact ⟨Sl.nil, by simp⟩
    · exact ⟨Sl.lit (l := [1]) cI_len h1 (by unfold maxLen; decide), fun a ha => by simp at ha; subst ha; exact i64_lit _ rfl⟩
    · exact ⟨Sl.lit (l := [2, 3]) cI_len h2 (by unfold maxLen; decide), fun a ha => by simp at ha; rcases ha with rfl | rfl <;> exact i64_lit _ rfl⟩⟩)
  clear hZ h1 h2 h3
  go_enter Try.func34, Try.ntmps34
  go_wp2_with fail
  go_ret
  exact ⟨_, _, _, rfl, HS.out, HB_W0⟩

section
variable (w : World) {ao a b bo : Option Addr} {m capb : Nat}
theorem k_r (h : SlS w ao 4 4 (kS a b)) (hd : Sl w 1 cI bo m capb [1]) : Calls Try.prog 15 #[.slice ao 4 4, .slice bo m capb] w (IntsK w [2, 3] 0) := by
  have := Ready_any ao 4 4 (kS a b) bo m capb [1] w h hd
  rw [e_r] at this
  exact this
theorem k_o (h : SlS w ao 4 4 (kS a b)) (hd : Sl w 1 cI bo m capb [2]) : Calls Try.prog 18 #[.slice ao 4 4, .slice bo m capb] w (IntsK w [1, 3, 5] 0) := by
  have := Order_any ao 4 4 (kS a b) bo m capb [2] w h hd
  rw [e_o] at this
  exact this
theorem k_p1 (h : SlS w ao 4 4 (kS a b)) (hd : Sl w 1 cI bo m capb [2, 1, 3, 5]) : Calls Try.prog 20 #[.slice ao 4 4, .slice bo m capb] w (Ret w (.tuple #[.int .i64 (-1), .int .i64 0])) := by
  have := Permitted_any ao 4 4 (kS a b) bo m capb [2, 1, 3, 5] w h hd
  rw [e_p1] at this
  exact this
theorem k_p2 (h : SlS w ao 4 4 (kS a b)) (hd : Sl w 1 cI bo m capb [1, 3, 5, 2]) : Calls Try.prog 20 #[.slice ao 4 4, .slice bo m capb] w (Ret w (.tuple #[.int .i64 2, .int .i64 0])) := by
  have := Permitted_any ao 4 4 (kS a b) bo m capb [1, 3, 5, 2] w h hd
  rw [e_p2] at this
  exact this
theorem k_m (hso : SortOk) (h : SlS w ao 4 4 (kS a b)) (hd : Sl w 1 cI bo m capb [1]) : Calls Try.prog 22 #[.slice ao 4 4, .slice bo m capb, .int .i64 5] w (IntsK w [2, 3] 0) := by
  have := Missing_any hso ao 4 4 (kS a b) bo m capb [1] 5 w h hd
  rw [e_m] at this
  exact this
theorem k_b (hso : SortOk) (h : SlS w ao 4 4 (kS a b)) : Calls Try.prog 24 #[.slice ao 4 4, .int .i64 5] w (IntsK w [1, 2, 3] 0) := by
  have := Before_any hso ao 4 4 (kS a b) 5 w h
  rw [e_b] at this
  exact this
theorem k_c (h : SlS w ao 4 4 (kS a b)) : Calls Try.prog 26 #[.slice ao 4 4] w (PairsK w [(1, 2), (2, 3)] 0) := by
  have := Beside_any ao 4 4 (kS a b) w h
  rw [e_c] at this
  exact this
theorem k_x1 (h : SlS w ao 4 4 (kS a b)) (hd : Sl w 1 cI bo m capb [1, 3, 2, 5]) : Calls Try.prog 29 #[.slice ao 4 4, .slice bo m capb] w (IntsK w [1] 0) := by
  have := Exchanges_any ao 4 4 (kS a b) bo m capb [1, 3, 2, 5] w h hd
  rw [e_x1] at this
  exact this
theorem k_x2 (h : SlS w ao 4 4 (kS a b)) (hd : Sl w 1 cI bo m capb [2, 1, 3]) : Calls Try.prog 29 #[.slice ao 4 4, .slice bo m capb] w (IntsK w [0] 0) := by
  have := Exchanges_any ao 4 4 (kS a b) bo m capb [2, 1, 3] w h hd
  rw [e_x2] at this
  exact this
theorem k_x3 (h : SlS w ao 4 4 (kS a b)) (hd : Sl w 1 cI bo m capb [3, 1]) : Calls Try.prog 29 #[.slice ao 4 4, .slice bo m capb] w (IntsK w [] 14) := by
  have := Exchanges_any ao 4 4 (kS a b) bo m capb [3, 1] w h hd
  rw [e_x3] at this
  exact this
theorem k_v (h : SlS w ao 4 4 (kS a b)) : Calls Try.prog 13 #[.slice ao 4 4] w (Ret w (.bool true)) := by
  have := Valid_any ao 4 4 (kS a b) w h
  rwa [e_v] at this
theorem k_w (h : SlS w ao 3 3 (kT a b)) : Calls Try.prog 13 #[.slice ao 3 3] w (Ret w (.bool false)) := by
  have := Valid_any ao 3 3 (kT a b) w h
  rwa [e_w] at this
/-- equal lists -/
theorem k_i {n cap : Nat} {l : List Int} (h : Sl w 1 cI ao n cap l) (hd : Sl w 1 cI bo m capb l) : Calls Try.prog 17 #[.slice ao n cap, .slice bo m capb] w (Ret w (.bool true)) := by
  have := rints_any ao bo n cap m capb l l w h hd
  rwa [decide_eq_true rfl] at this
theorem k_q {n cap : Nat} {l : List (Int × Int)} (h : Sl w 2 cP ao n cap l) (hd : Sl w 2 cP bo m capb l) : Calls Try.prog 28 #[.slice ao n cap, .slice bo m capb] w (Ret w (.bool true)) := by
  have := rpairs_any ao bo n cap m capb l l w h hd
  rwa [decide_eq_true rfl] at this
/-- a literal of integers -/
theorem lit_new (l : List Int) (hm : l.length ≤ 1000) : Sl (w.alloc (.cells (l.map (Value.int .i64)).toArray 3)) 1 cI (some ⟨w.heap.size, 0, none⟩) l.length l.length l :=
  Sl.lit (l := l) cI_len (by rw [flat_cI]; exact Box.new w _ _) (by unfold maxLen; omega)
theorem lit_newP (l : List (Int × Int)) (hm : l.length ≤ 1000) : Sl (w.alloc (.cells (l.flatMap cP).toArray 46)) 2 cP (some ⟨w.heap.size, 0, none⟩) l.length l.length l :=
  Sl.lit (l := l) cP_len (Box.new w _ _) (by unfold maxLen; omega)
end

set_option maxRecDepth 100000 in
set_option maxHeartbeats 8000000 in
theorem head_any (hso : SortOk) (w : World) : Calls Try.prog 11 #[] w (Ret w (.bool true)) := by
  have HB_w : Below w.heap.size w w := Below.refl _ _
  have HSO := Lib.hid hso
  clear hso
  go_enter Try.func11, Try.ntmps11
  go_wp2_with fail
  refine (steps_any _).mono ?_
  rintro e w1 ⟨ao, a, b, rfl, hs, hb_w1⟩
  have HB_w1 : Below w.heap.size w w1 := by first | exact after0 HB_w hb_w1 | exact after1 HB_w hb_w1 | exact after2 HB_w hb_w1 | exact after3 HB_w hb_w1 | exact after4 HB_w hb_w1 | exact after5 HB_w hb_w1
  have HST := Lib.hid hs
  clear hs
  go_wp2_with fail
  refine (k_r _ (HST.out.below (grew1 (Below.refl _ _))) (lit_new _ [1] (by decide))).mono ?_
  rintro e w2 ⟨o2, n2, c2, rfl, hl, hb_w2⟩
  have HB_w2 : Below w.heap.size w w2 := by first | exact after0 HB_w1 hb_w2 | exact after1 HB_w1 hb_w2 | exact after2 HB_w1 hb_w2 | exact after3 HB_w1 hb_w2 | exact after4 HB_w1 hb_w2 | exact after5 HB_w1 hb_w2
  have HL1 := Lib.hid hl
  clear hl HST
  go_wp2_with fail
  refine (steps_any _).mono ?_
  rintro e w3 ⟨ao, a, b, rfl, hs, hb_w3⟩
  have HB_w3 : Below w.heap.size w w3 := by first | exact after0 HB_w2 hb_w3 | exact after1 HB_w2 hb_w3 | exact after2 HB_w2 hb_w3 | exact after3 HB_w2 hb_w3 | exact after4 HB_w2 hb_w3 | exact after5 HB_w2 hb_w3
  replace HL1 := Lib.hid (show Sl w3 _ _ _ _ _ _ by first | exact HL1.out.below hb_w3 | exact (HL1.out.below (grew1 (Below.refl _ _))).below hb_w3 | exact (HL1.out.below (grew2 (Below.refl _ _))).below hb_w3 | exact (HL1.out.below (grew3 (Below.refl _ _))).below hb_w3)
  have HST := Lib.hid hs
  clear hs
  go_wp2_with fail
  refine (k_o _ (HST.out.below (grew1 (Below.refl _ _))) (lit_new _ [2] (by decide))).mono ?_
  rintro e w4 ⟨o4, n4, c4, rfl, hl, hb_w4⟩
  have HB_w4 : Below w.heap.size w w4 := by first | exact after0 HB_w3 hb_w4 | exact after1 HB_w3 hb_w4 | exact after2 HB_w3 hb_w4 | exact after3 HB_w3 hb_w4 | exact after4 HB_w3 hb_w4 | exact after5 HB_w3 hb_w4
  replace HL1 := Lib.hid (show Sl w4 _ _ _ _ _ _ by first | exact HL1.out.below hb_w4 | exact (HL1.out.below (grew1 (Below.refl _ _))).below hb_w4 | exact (HL1.out.below (grew2 (Below.refl _ _))).below hb_w4 | exact (HL1.out.below (grew3 (Below.refl _ _))).below hb_w4)
  have HL2 := Lib.hid hl
  clear hl HST
  go_wp2_with fail
  refine (steps_any _).mono ?_
  rintro e w5 ⟨ao, a, b, rfl, hs, hb_w5⟩
  have HB_w5 : Below w.heap.size w w5 := by first | exact after0 HB_w4 hb_w5 | exact after1 HB_w4 hb_w5 | exact after2 HB_w4 hb_w5 | exact after3 HB_w4 hb_w5 | exact after4 HB_w4 hb_w5 | exact after5 HB_w4 hb_w5
  replace HL1 := Lib.hid (show Sl w5 _ _ _ _ _ _ by first | exact HL1.out.below hb_w5 | exact (HL1.out.below (grew1 (Below.refl _ _))).below hb_w5 | exact (HL1.out.below (grew2 (Below.refl _ _))).below hb_w5 | exact (HL1.out.below (grew3 (Below.refl _ _))).below hb_w5)
  replace HL2 := Lib.hid (show Sl w5 _ _ _ _ _ _ by first | exact HL2.out.below hb_w5 | exact (HL2.out.below (grew1 (Below.refl _ _))).below hb_w5 | exact (HL2.out.below (grew2 (Below.refl _ _))).below hb_w5 | exact (HL2.out.below (grew3 (Below.refl _ _))).below hb_w5)
  have HST := Lib.hid hs
  clear hs
  go_wp2_with fail
  refine (k_p1 _ (HST.out.below (grew1 (Below.refl _ _))) (lit_new _ [2, 1, 3, 5] (by decide))).mono ?_
  rintro e w6 ⟨rfl, hb_w6⟩
  have HB_w6 : Below w.heap.size w w6 := by first | exact after0 HB_w5 hb_w6 | exact after1 HB_w5 hb_w6 | exact after2 HB_w5 hb_w6 | exact after3 HB_w5 hb_w6 | exact after4 HB_w5 hb_w6 | exact after5 HB_w5 hb_w6
  replace HL1 := Lib.hid (show Sl w6 _ _ _ _ _ _ by first | exact HL1.out.below hb_w6 | exact (HL1.out.below (grew1 (Below.refl _ _))).below hb_w6 | exact (HL1.out.below (grew2 (Below.refl _ _))).below hb_w6 | exact (HL1.out.below (grew3 (Below.refl _ _))).below hb_w6)
  replace HL2 := Lib.hid (show Sl w6 _ _ _ _ _ _ by first | exact HL2.out.below hb_w6 | exact (HL2.out.below (grew1 (Below.refl _ _))).below hb_w6 | exact (HL2.out.below (grew2 (Below.refl _ _))).below hb_w6 | exact (HL2.out.below (grew3 (Below.refl _ _))).below hb_w6)
  clear HST
  go_wp2_with fail
  refine (steps_any _).mono ?_
  rintro e w7 ⟨ao, a, b, rfl, hs, hb_w7⟩
  have HB_w7 : Below w.heap.size w w7 := by first | exact after0 HB_w6 hb_w7 | exact after1 HB_w6 hb_w7 | exact after2 HB_w6 hb_w7 | exact after3 HB_w6 hb_w7 | exact after4 HB_w6 hb_w7 | exact after5 HB_w6 hb_w7
  replace HL1 := Lib.hid (show Sl w7 _ _ _ _ _ _ by first | exact HL1.out.below hb_w7 | exact (HL1.out.below (grew1 (Below.refl _ _))).below hb_w7 | exact (HL1.out.below (grew2 (Below.refl _ _))).below hb_w7 | exact (HL1.out.below (grew3 (Below.refl _ _))).below hb_w7)
  replace HL2 := Lib.hid (show Sl w7 _ _ _ _ _ _ by first | exact HL2.out.below hb_w7 | exact (HL2.out.below (grew1 (Below.refl _ _))).below hb_w7 | exact (HL2.out.below (grew2 (Below.refl _ _))).below hb_w7 | exact (HL2.out.below (grew3 (Below.refl _ _))).below hb_w7)
  have HST := Lib.hid hs
  clear hs
  go_wp2_with fail
  refine (k_p2 _ (HST.out.below (grew1 (Below.refl _ _))) (lit_new _ [1, 3, 5, 2] (by decide))).mono ?_
  rintro e w8 ⟨rfl, hb_w8⟩
  have HB_w8 : Below w.heap.size w w8 := by first | exact after0 HB_w7 hb_w8 | exact after1 HB_w7 hb_w8 | exact after2 HB_w7 hb_w8 | exact after3 HB_w7 hb_w8 | exact after4 HB_w7 hb_w8 | exact after5 HB_w7 hb_w8
  replace HL1 := Lib.hid (show Sl w8 _ _ _ _ _ _ by first | exact HL1.out.below hb_w8 | exact (HL1.out.below (grew1 (Below.refl _ _))).below hb_w8 | exact (HL1.out.below (grew2 (Below.refl _ _))).below hb_w8 | exact (HL1.out.below (grew3 (Below.refl _ _))).below hb_w8)
  replace HL2 := Lib.hid (show Sl w8 _ _ _ _ _ _ by first | exact HL2.out.below hb_w8 | exact (HL2.out.below (grew1 (Below.refl _ _))).below hb_w8 | exact (HL2.out.below (grew2 (Below.refl _ _))).below hb_w8 | exact (HL2.out.below (grew3 (Below.refl _ _))).below hb_w8)
  clear HST
  go_wp2_with fail
  refine (k_i _ (HL1.out.below (grew1 (Below.refl _ _))) (lit_new _ [2, 3] (by decide))).mono ?_
  rintro e w9 ⟨rfl, hb_w9⟩
  have HB_w9 : Below w.heap.size w w9 := by first | exact after0 HB_w8 hb_w9 | exact after1 HB_w8 hb_w9 | exact after2 HB_w8 hb_w9 | exact after3 HB_w8 hb_w9 | exact after4 HB_w8 hb_w9 | exact after5 HB_w8 hb_w9
  replace HL2 := Lib.hid (show Sl w9 _ _ _ _ _ _ by first | exact HL2.out.below hb_w9 | exact (HL2.out.below (grew1 (Below.refl _ _))).below hb_w9 | exact (HL2.out.below (grew2 (Below.refl _ _))).below hb_w9 | exact (HL2.out.below (grew3 (Below.refl _ _))).below hb_w9)
  clear HL1
  go_wp2_with fail
  refine (k_i _ (HL2.out.below (grew1 (Below.refl _ _))) (lit_new _ [1, 3, 5] (by decide))).mono ?_
  rintro e w10 ⟨rfl, hb_w10⟩
  have HB_w10 : Below w.heap.size w w10 := by first | exact after0 HB_w9 hb_w10 | exact after1 HB_w9 hb_w10 | exact after2 HB_w9 hb_w10 | exact after3 HB_w9 hb_w10 | exact after4 HB_w9 hb_w10 | exact after5 HB_w9 hb_w10
  clear HL2
  go_wp2_with fail
  refine (steps_any _).mono ?_
  rintro e w11 ⟨ao, a, b, rfl, hs, hb_w11⟩
  have HB_w11 : Below w.heap.size w w11 := by first | exact after0 HB_w10 hb_w11 | exact after1 HB_w10 hb_w11 | exact after2 HB_w10 hb_w11 | exact after3 HB_w10 hb_w11 | exact after4 HB_w10 hb_w11 | exact after5 HB_w10 hb_w11
  have HST := Lib.hid hs
  clear hs
  go_wp2_with fail
  refine (k_m _ HSO.out (HST.out.below (grew1 (Below.refl _ _))) (lit_new _ [1] (by decide))).mono ?_
  rintro e w12 ⟨o12, n12, c12, rfl, hl, hb_w12⟩
  have HB_w12 : Below w.heap.size w w12 := by first | exact after0 HB_w11 hb_w12 | exact after1 HB_w11 hb_w12 | exact after2 HB_w11 hb_w12 | exact after3 HB_w11 hb_w12 | exact after4 HB_w11 hb_w12 | exact after5 HB_w11 hb_w12
  have HL3 := Lib.hid hl
  clear hl HST
  go_wp2_with fail
  refine (steps_any _).mono ?_
  rintro e w13 ⟨ao, a, b, rfl, hs, hb_w13⟩
  have HB_w13 : Below w.heap.size w w13 := by first | exact after0 HB_w12 hb_w13 | exact after1 HB_w12 hb_w13 | exact after2 HB_w12 hb_w13 | exact after3 HB_w12 hb_w13 | exact after4 HB_w12 hb_w13 | exact after5 HB_w12 hb_w13
  replace HL3 := Lib.hid (show Sl w13 _ _ _ _ _ _ by first | exact HL3.out.below hb_w13 | exact (HL3.out.below (grew1 (Below.refl _ _))).below hb_w13 | exact (HL3.out.below (grew2 (Below.refl _ _))).below hb_w13 | exact (HL3.out.below (grew3 (Below.refl _ _))).below hb_w13)
  have HST := Lib.hid hs
  clear hs
  go_wp2_with fail
  refine (k_b _ HSO.out HST.out).mono ?_
  rintro e w14 ⟨o14, n14, c14, rfl, hl, hb_w14⟩
  have HB_w14 : Below w.heap.size w w14 := by first | exact after0 HB_w13 hb_w14 | exact after1 HB_w13 hb_w14 | exact after2 HB_w13 hb_w14 | exact after3 HB_w13 hb_w14 | exact after4 HB_w13 hb_w14 | exact after5 HB_w13 hb_w14
  replace HL3 := Lib.hid (show Sl w14 _ _ _ _ _ _ by first | exact HL3.out.below hb_w14 | exact (HL3.out.below (grew1 (Below.refl _ _))).below hb_w14 | exact (HL3.out.below (grew2 (Below.refl _ _))).below hb_w14 | exact (HL3.out.below (grew3 (Below.refl _ _))).below hb_w14)
  have HL4 := Lib.hid hl
  clear hl HST
  go_wp2_with fail
  refine (steps_any _).mono ?_
  rintro e w15 ⟨ao, a, b, rfl, hs, hb_w15⟩
  have HB_w15 : Below w.heap.size w w15 := by first | exact after0 HB_w14 hb_w15 | exact after1 HB_w14 hb_w15 | exact after2 HB_w14 hb_w15 | exact after3 HB_w14 hb_w15 | exact after4 HB_w14 hb_w15 | exact after5 HB_w14 hb_w15
  replace HL3 := Lib.hid (show Sl w15 _ _ _ _ _ _ by first | exact HL3.out.below hb_w15 | exact (HL3.out.below (grew1 (Below.refl _ _))).below hb_w15 | exact (HL3.out.below (grew2 (Below.refl _ _))).below hb_w15 | exact (HL3.out.below (grew3 (Below.refl _ _))).below hb_w15)
  replace HL4 := Lib.hid (show Sl w15 _ _ _ _ _ _ by first | exact HL4.out.below hb_w15 | exact (HL4.out.below (grew1 (Below.refl _ _))).below hb_w15 | exact (HL4.out.below (grew2 (Below.refl _ _))).below hb_w15 | exact (HL4.out.below (grew3 (Below.refl _ _))).below hb_w15)
  have HST := Lib.hid hs
  clear hs
  go_wp2_with fail
  refine (k_c _ HST.out).mono ?_
  rintro e w16 ⟨o16, n16, c16, rfl, hl, hb_w16⟩
  have HB_w16 : Below w.heap.size w w16 := by first | exact after0 HB_w15 hb_w16 | exact after1 HB_w15 hb_w16 | exact after2 HB_w15 hb_w16 | exact after3 HB_w15 hb_w16 | exact after4 HB_w15 hb_w16 | exact after5 HB_w15 hb_w16
  replace HL3 := Lib.hid (show Sl w16 _ _ _ _ _ _ by first | exact HL3.out.below hb_w16 | exact (HL3.out.below (grew1 (Below.refl _ _))).below hb_w16 | exact (HL3.out.below (grew2 (Below.refl _ _))).below hb_w16 | exact (HL3.out.below (grew3 (Below.refl _ _))).below hb_w16)
  replace HL4 := Lib.hid (show Sl w16 _ _ _ _ _ _ by first | exact HL4.out.below hb_w16 | exact (HL4.out.below (grew1 (Below.refl _ _))).below hb_w16 | exact (HL4.out.below (grew2 (Below.refl _ _))).below hb_w16 | exact (HL4.out.below (grew3 (Below.refl _ _))).below hb_w16)
  have HL5 := Lib.hid hl
  clear hl HST
  go_wp2_with fail
  refine (k_i _ (HL3.out.below (grew1 (Below.refl _ _))) (lit_new _ [2, 3] (by decide))).mono ?_
  rintro e w17 ⟨rfl, hb_w17⟩
  have HB_w17 : Below w.heap.size w w17 := by first | exact after0 HB_w16 hb_w17 | exact after1 HB_w16 hb_w17 | exact after2 HB_w16 hb_w17 | exact after3 HB_w16 hb_w17 | exact after4 HB_w16 hb_w17 | exact after5 HB_w16 hb_w17
  replace HL4 := Lib.hid (show Sl w17 _ _ _ _ _ _ by first | exact HL4.out.below hb_w17 | exact (HL4.out.below (grew1 (Below.refl _ _))).below hb_w17 | exact (HL4.out.below (grew2 (Below.refl _ _))).below hb_w17 | exact (HL4.out.below (grew3 (Below.refl _ _))).below hb_w17)
  replace HL5 := Lib.hid (show Sl w17 _ _ _ _ _ _ by first | exact HL5.out.below hb_w17 | exact (HL5.out.below (grew1 (Below.refl _ _))).below hb_w17 | exact (HL5.out.below (grew2 (Below.refl _ _))).below hb_w17 | exact (HL5.out.below (grew3 (Below.refl _ _))).below hb_w17)
  clear HL3
  go_wp2_with fail
  refine (k_i _ (HL4.out.below (grew1 (Below.refl _ _))) (lit_new _ [1, 2, 3] (by decide))).mono ?_
  rintro e w18 ⟨rfl, hb_w18⟩
  have HB_w18 : Below w.heap.size w w18 := by first | exact after0 HB_w17 hb_w18 | exact after1 HB_w17 hb_w18 | exact after2 HB_w17 hb_w18 | exact after3 HB_w17 hb_w18 | exact after4 HB_w17 hb_w18 | exact after5 HB_w17 hb_w18
  replace HL5 := Lib.hid (show Sl w18 _ _ _ _ _ _ by first | exact HL5.out.below hb_w18 | exact (HL5.out.below (grew1 (Below.refl _ _))).below hb_w18 | exact (HL5.out.below (grew2 (Below.refl _ _))).below hb_w18 | exact (HL5.out.below (grew3 (Below.refl _ _))).below hb_w18)
  clear HL4
  go_wp2_with fail
  refine (k_q _ (HL5.out.below (grew1 (Below.refl _ _))) (lit_newP _ [(1, 2), (2, 3)] (by decide))).mono ?_
  rintro e w19 ⟨rfl, hb_w19⟩
  have HB_w19 : Below w.heap.size w w19 := by first | exact after0 HB_w18 hb_w19 | exact after1 HB_w18 hb_w19 | exact after2 HB_w18 hb_w19 | exact after3 HB_w18 hb_w19 | exact after4 HB_w18 hb_w19 | exact after5 HB_w18 hb_w19
  clear HL5
  go_wp2_with fail
  refine (steps_any _).mono ?_
  rintro e w20 ⟨ao, a, b, rfl, hs, hb_w20⟩
  have HB_w20 : Below w.heap.size w w20 := by first | exact after0 HB_w19 hb_w20 | exact after1 HB_w19 hb_w20 | exact after2 HB_w19 hb_w20 | exact after3 HB_w19 hb_w20 | exact after4 HB_w19 hb_w20 | exact after5 HB_w19 hb_w20
  have HST := Lib.hid hs
  clear hs
  go_wp2_with fail
  refine (k_x1 _ (HST.out.below (grew1 (Below.refl _ _))) (lit_new _ [1, 3, 2, 5] (by decide))).mono ?_
  rintro e w21 ⟨o21, n21, c21, rfl, hl, hb_w21⟩
  have HB_w21 : Below w.heap.size w w21 := by first | exact after0 HB_w20 hb_w21 | exact after1 HB_w20 hb_w21 | exact after2 HB_w20 hb_w21 | exact after3 HB_w20 hb_w21 | exact after4 HB_w20 hb_w21 | exact after5 HB_w20 hb_w21
  have HL6 := Lib.hid hl
  clear hl HST
  go_wp2_with fail
  refine (steps_any _).mono ?_
  rintro e w22 ⟨ao, a, b, rfl, hs, hb_w22⟩
  have HB_w22 : Below w.heap.size w w22 := by first | exact after0 HB_w21 hb_w22 | exact after1 HB_w21 hb_w22 | exact after2 HB_w21 hb_w22 | exact after3 HB_w21 hb_w22 | exact after4 HB_w21 hb_w22 | exact after5 HB_w21 hb_w22
  replace HL6 := Lib.hid (show Sl w22 _ _ _ _ _ _ by first | exact HL6.out.below hb_w22 | exact (HL6.out.below (grew1 (Below.refl _ _))).below hb_w22 | exact (HL6.out.below (grew2 (Below.refl _ _))).below hb_w22 | exact (HL6.out.below (grew3 (Below.refl _ _))).below hb_w22)
  have HST := Lib.hid hs
  clear hs
  go_wp2_with fail
  refine (k_x2 _ (HST.out.below (grew1 (Below.refl _ _))) (lit_new _ [2, 1, 3] (by decide))).mono ?_
  rintro e w23 ⟨o23, n23, c23, rfl, hl, hb_w23⟩
  have HB_w23 : Below w.heap.size w w23 := by first | exact after0 HB_w22 hb_w23 | exact after1 HB_w22 hb_w23 | exact after2 HB_w22 hb_w23 | exact after3 HB_w22 hb_w23 | exact after4 HB_w22 hb_w23 | exact after5 HB_w22 hb_w23
  replace HL6 := Lib.hid (show Sl w23 _ _ _ _ _ _ by first | exact HL6.out.below hb_w23 | exact (HL6.out.below (grew1 (Below.refl _ _))).below hb_w23 | exact (HL6.out.below (grew2 (Below.refl _ _))).below hb_w23 | exact (HL6.out.below (grew3 (Below.refl _ _))).below hb_w23)
  have HL7 := Lib.hid hl
  clear hl HST
  go_wp2_with fail
  refine (steps_any _).mono ?_
  rintro e w24 ⟨ao, a, b, rfl, hs, hb_w24⟩
  have HB_w24 : Below w.heap.size w w24 := by first | exact after0 HB_w23 hb_w24 | exact after1 HB_w23 hb_w24 | exact after2 HB_w23 hb_w24 | exact after3 HB_w23 hb_w24 | exact after4 HB_w23 hb_w24 | exact after5 HB_w23 hb_w24
  replace HL6 := Lib.hid (show Sl w24 _ _ _ _ _ _ by first | exact HL6.out.below hb_w24 | exact (HL6.out.below (grew1 (Below.refl _ _))).below hb_w24 | exact (HL6.out.below (grew2 (Below.refl _ _))).below hb_w24 | exact (HL6.out.below (grew3 (Below.refl _ _))).below hb_w24)
  replace HL7 := Lib.hid (show Sl w24 _ _ _ _ _ _ by first | exact HL7.out.below hb_w24 | exact (HL7.out.below (grew1 (Below.refl _ _))).below hb_w24 | exact (HL7.out.below (grew2 (Below.refl _ _))).below hb_w24 | exact (HL7.out.below (grew3 (Below.refl _ _))).below hb_w24)
  have HST := Lib.hid hs
  clear hs
  go_wp2_with fail
  refine (k_x3 _ (HST.out.below (grew1 (Below.refl _ _))) (lit_new _ [3, 1] (by decide))).mono ?_
  rintro e w25 ⟨o25, n25, c25, rfl, hl, hb_w25⟩
  have HB_w25 : Below w.heap.size w w25 := by first | exact after0 HB_w24 hb_w25 | exact after1 HB_w24 hb_w25 | exact after2 HB_w24 hb_w25 | exact after3 HB_w24 hb_w25 | exact after4 HB_w24 hb_w25 | exact after5 HB_w24 hb_w25
  replace HL6 := Lib.hid (show Sl w25 _ _ _ _ _ _ by first | exact HL6.out.below hb_w25 | exact (HL6.out.below (grew1 (Below.refl _ _))).below hb_w25 | exact (HL6.out.below (grew2 (Below.refl _ _))).below hb_w25 | exact (HL6.out.below (grew3 (Below.refl _ _))).below hb_w25)
  replace HL7 := Lib.hid (show Sl w25 _ _ _ _ _ _ by first | exact HL7.out.below hb_w25 | exact (HL7.out.below (grew1 (Below.refl _ _))).below hb_w25 | exact (HL7.out.below (grew2 (Below.refl _ _))).below hb_w25 | exact (HL7.out.below (grew3 (Below.refl _ _))).below hb_w25)
  have HL8 := Lib.hid hl
  clear hl HST
  clear HL8
  go_wp2_with fail
  refine (k_i _ (HL6.out.below (grew1 (Below.refl _ _))) (lit_new _ [1] (by decide))).mono ?_
  rintro e w26 ⟨rfl, hb_w26⟩
  have HB_w26 : Below w.heap.size w w26 := by first | exact after0 HB_w25 hb_w26 | exact after1 HB_w25 hb_w26 | exact after2 HB_w25 hb_w26 | exact after3 HB_w25 hb_w26 | exact after4 HB_w25 hb_w26 | exact after5 HB_w25 hb_w26
  replace HL7 := Lib.hid (show Sl w26 _ _ _ _ _ _ by first | exact HL7.out.below hb_w26 | exact (HL7.out.below (grew1 (Below.refl _ _))).below hb_w26 | exact (HL7.out.below (grew2 (Below.refl _ _))).below hb_w26 | exact (HL7.out.below (grew3 (Below.refl _ _))).below hb_w26)
  clear HL6
  go_wp2_with fail
  refine (k_i _ (HL7.out.below (grew1 (Below.refl _ _))) (lit_new _ [0] (by decide))).mono ?_
  rintro e w27 ⟨rfl, hb_w27⟩
  have HB_w27 : Below w.heap.size w w27 := by first | exact after0 HB_w26 hb_w27 | exact after1 HB_w26 hb_w27 | exact after2 HB_w26 hb_w27 | exact after3 HB_w26 hb_w27 | exact after4 HB_w26 hb_w27 | exact after5 HB_w26 hb_w27
  clear HL7
  go_wp2_with fail
  refine (steps_any _).mono ?_
  rintro e w28 ⟨ao, a, b, rfl, hs, hb_w28⟩
  have HB_w28 : Below w.heap.size w w28 := by first | exact after0 HB_w27 hb_w28 | exact after1 HB_w27 hb_w28 | exact after2 HB_w27 hb_w28 | exact after3 HB_w27 hb_w28 | exact after4 HB_w27 hb_w28 | exact after5 HB_w27 hb_w28
  have HST := Lib.hid hs
  clear hs
  go_wp2_with fail
  refine (k_v _ HST.out).mono ?_
  rintro e w29 ⟨rfl, hb_w29⟩
  have HB_w29 : Below w.heap.size w w29 := by first | exact after0 HB_w28 hb_w29 | exact after1 HB_w28 hb_w29 | exact after2 HB_w28 hb_w29 | exact after3 HB_w28 hb_w29 | exact after4 HB_w28 hb_w29 | exact after5 HB_w28 hb_w29
  clear HST
  go_wp2_with fail
  refine (steps_any _).mono ?_
  rintro e w30 ⟨ao, a, b, rfl, hs, hb_w30⟩
  have HB_w30 : Below w.heap.size w w30 := by first | exact after0 HB_w29 hb_w30 | exact after1 HB_w29 hb_w30 | exact after2 HB_w29 hb_w30 | exact after3 HB_w29 hb_w30 | exact after4 HB_w29 hb_w30 | exact after5 HB_w29 hb_w30
  have HST := Lib.hid hs
  clear hs
  obtain ⟨ta, htt, hsl⟩ := slice_tail (P := Try.prog) (t := 22) (by kernel_rfl) (fun W => by kernel_rfl) HST.out.1 1 (by omega)
  have HTL := Lib.hid (show SlS w30 ta 3 3 (kT a b) from ⟨hsl, fun s hs => HST.out.2 s (by simp only [kT, kS, List.mem_cons, List.not_mem_nil, or_false] at hs ⊢; exact .inr hs)⟩)
  have HTT : ∀ W, (Instr.sliceAt 22 (.slice ao 4 4) (some (.int .i64 1)) none none).run Try.prog W = .ok (.slice ta 3 3) W := htt
  clear htt hsl HST
  go_wp2_with fail
  refine (k_w _ HTL.out).mono ?_
  rintro e w31 ⟨rfl, hb_w31⟩
  have HB_w31 : Below w.heap.size w w31 := by first | exact after0 HB_w30 hb_w31 | exact after1 HB_w30 hb_w31 | exact after2 HB_w30 hb_w31 | exact after3 HB_w30 hb_w31 | exact after4 HB_w30 hb_w31 | exact after5 HB_w30 hb_w31
  go_wp2_with fail
  go_ret
  exact ⟨rfl, HB_w31⟩
end Go.Proofs.Ytofilkphaelceaa
