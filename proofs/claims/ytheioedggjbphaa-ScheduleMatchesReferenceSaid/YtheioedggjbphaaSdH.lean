/-
  The examples of chapter 32 (head).
-/
import Derived.Test.YtheioedggjbphaaScZ
import Derived.Test.YtheioedggjbphaaLie
set_option linter.unusedVariables false
namespace Go.Proofs.Ytheioedggjbphaa
open Go Go.RowKit Sc Sk Go.Sort
/-- what is sent, integers, with an error -/
def SnsK (w : World) (l : List Sn) (x : Int) (e : Ending) (w' : World) : Prop := ∃ ao n cap, e = .returned (.tuple #[.slice ao n cap, .int .i64 x]) ∧ Sl w' 3 cS ao n cap l ∧ Below w.heap.size w w'
def IntsK (w : World) (l : List Int) (x : Int) (e : Ending) (w' : World) : Prop := ∃ ao n cap, e = .returned (.tuple #[.slice ao n cap, .int .i64 x]) ∧ Sl w' 1 cI ao n cap l ∧ Below w.heap.size w w'
theorem SnsE.K {w : World} {p : List Sn × Int} {e : Ending} {w' : World} (h : SnsE w p e w') : SnsK w p.1 p.2 e w' := by
  obtain ⟨v, rfl, ho, hb⟩ := h
  obtain ⟨ao, cap, rfl, hs⟩ := ho.sl cS_len
  exact ⟨ao, _, cap, rfl, hs, hb⟩
theorem IsE.K {w : World} {p : List Int × Int} {e : Ending} {w' : World} (h : IsE w p e w') : IntsK w p.1 p.2 e w' := by
  obtain ⟨v, rfl, ho, hb⟩ := h
  obtain ⟨ao, cap, rfl, hs⟩ := ho.sl cI_len
  exact ⟨ao, _, cap, rfl, hs, hb⟩
section
variable (w : World) {ao bo : Option Addr} {n m cap capb : Nat}
theorem h_plan (h : Sl w 4 cJ ao n cap kJ) : Calls Try.prog 15 #[.slice ao n cap, .int .i64 0] w (SnsK w kP 0) := (Plan_any ao n cap kJ 0 w h).mono fun e w' h => by have := h.K; rwa [k_plan] at this
theorem h_late (h : Sl w 4 cJ ao n cap kJ) (hd : Sl w 3 cS bo m capb kP) : Calls Try.prog 18 #[.slice ao n cap, .slice bo m capb] w (IntsK w [2] 0) := (Late_any ao n cap kJ bo m capb kP w h hd).mono fun e w' h => by have := h.K; rwa [k_late] at this
theorem h_done (hd : Sl w 3 cS bo m capb kP) : Calls Try.prog 27 #[.slice bo m capb, .int .i64 1] w (IntsK w [1, 2] 0) := (Done_any bo m capb kP 1 w hd (by decide)).mono fun e w' h => by have := h.K; rwa [k_done] at this
theorem h_check (h : Sl w 4 cJ ao n cap kJ) (hd : Sl w 3 cS bo m capb kP) : Calls Try.prog 21 #[.slice ao n cap, .slice bo m capb] w (Ret w (.tuple #[.bool true, .int .i64 0])) := by have := Check_any ao n cap kJ bo m capb kP w h hd; rwa [k_check] at this
theorem h_core (h : Sl w 4 cJ ao n cap kJ) : Calls Try.prog 23 #[.slice ao n cap, .int .i64 0] w (Ret w (.tuple #[.agg #[.int .i64 1, .int .i64 3], .int .i64 0])) := (Core_any ao n cap kJ 0 w h).mono fun e w' h => by
  obtain ⟨lo, hi, er, rfl, hc, hb⟩ := h
  obtain ⟨rfl, rfl, rfl⟩ := k_core hc
  exact ⟨rfl, hb⟩
theorem h_core2 (h : Sl w 4 cJ ao n cap (kJ.take 2)) : Calls Try.prog 23 #[.slice ao n cap, .int .i64 0] w (fun e w' => ∃ lo hi, e = .returned (.tuple #[.agg #[.int .i64 lo, .int .i64 hi], .int .i64 4]) ∧ Below w.heap.size w w') := (Core_any ao n cap _ 0 w h).mono fun e w' h => by
  obtain ⟨lo, hi, er, rfl, hc, hb⟩ := h
  obtain rfl := k_core2 hc
  exact ⟨lo, hi, rfl, hb⟩
theorem h_adm (hso : SortOk) (h : Sl w 4 cJ ao n cap kJ) : Calls Try.prog 25 #[.slice ao n cap, .int .i64 0] w (IntsK w [0, 2] 0) := (Admit_any hso ao n cap kJ 0 w h (by decide)).mono fun e w' h => by
  obtain ⟨v, L, er, rfl, ho, hc, hb⟩ := h
  obtain ⟨rfl, rfl⟩ := k_adm hc
  obtain ⟨ao, cap, rfl, hs⟩ := ho.sl cI_len
  exact ⟨ao, _, cap, rfl, hs, hb⟩
theorem h_ints {l : List Int} (h : Sl w 1 cI ao n cap l) (hd : Sl w 1 cI bo m capb l) : Calls Try.prog 20 #[.slice ao n cap, .slice bo m capb] w (Ret w (.bool true)) := by
  have := rints_any ao bo n cap m capb l l w h hd
  rwa [decide_eq_true rfl] at this
theorem h_same {l : List Sn} (h : Sl w 3 cS ao n cap l) (hd : Sl w 3 cS bo m capb l) : Calls Try.prog 17 #[.slice ao n cap, .slice bo m capb] w (Ret w (.bool true)) := by
  have := rsame_any ao bo n cap m capb l l w h hd
  rwa [decide_eq_true rfl] at this
theorem lit_new (l : List Int) (hm : l.length ≤ 1000) : Sl (w.alloc (.cells (l.map (Value.int .i64)).toArray 3)) 1 cI (some ⟨w.heap.size, 0, none⟩) l.length l.length l :=
  Sl.lit (l := l) cI_len (by rw [show l.flatMap cI = l.map (Value.int .i64) from by clear hm; induction l with | nil => rfl | cons x l ih => rw [List.flatMap_cons, ih]; rfl]; exact Box.new w _ _) (by unfold maxLen; omega)
theorem lit_newS (l : List Sn) (hm : l.length ≤ 1000) : Sl (w.alloc (.cells (l.flatMap cS).toArray 46)) 3 cS (some ⟨w.heap.size, 0, none⟩) l.length l.length l :=
  Sl.lit (l := l) cS_len (Box.new w _ _) (by unfold maxLen; omega)
end
set_option maxRecDepth 100000 in
set_option maxHeartbeats 8000000 in
theorem head_any (hso : SortOk) (w : World) : Calls Try.prog 11 #[] w (Ret w (.bool true)) := by
  have HB_w : Below w.heap.size w w := Below.refl _ _
  have HSO := Lib.hid hso
  clear hso
  go_enter Try.func11, Try.ntmps11
  go_wp2_with fail
  refine (jobs_any _).mono ?_
  rintro e w1 ⟨b, rfl, hs, hb_w1⟩
  have HB_w1 : Below w.heap.size w w1 := by first | exact after0 HB_w hb_w1 | exact after1 HB_w hb_w1 | exact after2 HB_w hb_w1 | exact after3 HB_w hb_w1 | exact after4 HB_w hb_w1 | exact after5 HB_w hb_w1
  have HST := Lib.hid hs
  clear hs
  go_wp2_with fail
  refine (h_plan _ HST.out).mono ?_
  rintro e w2 ⟨o2, n2, c2, rfl, hl, hb_w2⟩
  have HB_w2 : Below w.heap.size w w2 := by first | exact after0 HB_w1 hb_w2 | exact after1 HB_w1 hb_w2 | exact after2 HB_w1 hb_w2 | exact after3 HB_w1 hb_w2 | exact after4 HB_w1 hb_w2 | exact after5 HB_w1 hb_w2
  have HL1 := Lib.hid hl
  clear hl HST
  go_wp2_with fail
  refine (jobs_any _).mono ?_
  rintro e w3 ⟨b, rfl, hs, hb_w3⟩
  have HB_w3 : Below w.heap.size w w3 := by first | exact after0 HB_w2 hb_w3 | exact after1 HB_w2 hb_w3 | exact after2 HB_w2 hb_w3 | exact after3 HB_w2 hb_w3 | exact after4 HB_w2 hb_w3 | exact after5 HB_w2 hb_w3
  replace HL1 := Lib.hid (show Sl w3 _ _ _ _ _ _ by first | exact HL1.out.below hb_w3 | exact (HL1.out.below (grew1 (Below.refl _ _))).below hb_w3 | exact (HL1.out.below (grew2 (Below.refl _ _))).below hb_w3 | exact (HL1.out.below (grew3 (Below.refl _ _))).below hb_w3)
  have HST := Lib.hid hs
  clear hs
  go_wp2_with fail
  refine (h_late _ HST.out HL1.out).mono ?_
  rintro e w4 ⟨o4, n4, c4, rfl, hl, hb_w4⟩
  have HB_w4 : Below w.heap.size w w4 := by first | exact after0 HB_w3 hb_w4 | exact after1 HB_w3 hb_w4 | exact after2 HB_w3 hb_w4 | exact after3 HB_w3 hb_w4 | exact after4 HB_w3 hb_w4 | exact after5 HB_w3 hb_w4
  replace HL1 := Lib.hid (show Sl w4 _ _ _ _ _ _ by first | exact HL1.out.below hb_w4 | exact (HL1.out.below (grew1 (Below.refl _ _))).below hb_w4 | exact (HL1.out.below (grew2 (Below.refl _ _))).below hb_w4 | exact (HL1.out.below (grew3 (Below.refl _ _))).below hb_w4)
  have HL2 := Lib.hid hl
  clear hl HST
  go_wp2_with fail
  refine (jobs_any _).mono ?_
  rintro e w5 ⟨b, rfl, hs, hb_w5⟩
  have HB_w5 : Below w.heap.size w w5 := by first | exact after0 HB_w4 hb_w5 | exact after1 HB_w4 hb_w5 | exact after2 HB_w4 hb_w5 | exact after3 HB_w4 hb_w5 | exact after4 HB_w4 hb_w5 | exact after5 HB_w4 hb_w5
  replace HL1 := Lib.hid (show Sl w5 _ _ _ _ _ _ by first | exact HL1.out.below hb_w5 | exact (HL1.out.below (grew1 (Below.refl _ _))).below hb_w5 | exact (HL1.out.below (grew2 (Below.refl _ _))).below hb_w5 | exact (HL1.out.below (grew3 (Below.refl _ _))).below hb_w5)
  replace HL2 := Lib.hid (show Sl w5 _ _ _ _ _ _ by first | exact HL2.out.below hb_w5 | exact (HL2.out.below (grew1 (Below.refl _ _))).below hb_w5 | exact (HL2.out.below (grew2 (Below.refl _ _))).below hb_w5 | exact (HL2.out.below (grew3 (Below.refl _ _))).below hb_w5)
  have HST := Lib.hid hs
  clear hs
  go_wp2_with fail
  refine (h_core _ HST.out).mono ?_
  rintro e w6 ⟨rfl, hb_w6⟩
  have HB_w6 : Below w.heap.size w w6 := by first | exact after0 HB_w5 hb_w6 | exact after1 HB_w5 hb_w6 | exact after2 HB_w5 hb_w6 | exact after3 HB_w5 hb_w6 | exact after4 HB_w5 hb_w6 | exact after5 HB_w5 hb_w6
  replace HL1 := Lib.hid (show Sl w6 _ _ _ _ _ _ by first | exact HL1.out.below hb_w6 | exact (HL1.out.below (grew1 (Below.refl _ _))).below hb_w6 | exact (HL1.out.below (grew2 (Below.refl _ _))).below hb_w6 | exact (HL1.out.below (grew3 (Below.refl _ _))).below hb_w6)
  replace HL2 := Lib.hid (show Sl w6 _ _ _ _ _ _ by first | exact HL2.out.below hb_w6 | exact (HL2.out.below (grew1 (Below.refl _ _))).below hb_w6 | exact (HL2.out.below (grew2 (Below.refl _ _))).below hb_w6 | exact (HL2.out.below (grew3 (Below.refl _ _))).below hb_w6)
  clear HST
  obtain ⟨W7, hW7, hb_W7, hZ7, hbc⟩ := boxes1 w6 [.int .i64 1, .int .i64 3] 37
  have HB_W7 := after0 HB_w6 hb_W7
  have H_c := Lib.hid hbc
  have HLL1 := Lib.hid (HL1.out.below hb_W7)
  have HLL2 := Lib.hid (HL2.out.below hb_W7)
  clear hbc hZ7 HL1 HL2 hb_W7
  go_wp2_with fail
  clear hW7
  refine (jobs_any _).mono ?_
  rintro e w7 ⟨b, rfl, hs, hb_w7⟩
  have HB_w7 : Below w.heap.size w w7 := by first | exact after0 HB_W7 hb_w7 | exact after1 HB_W7 hb_w7 | exact after2 HB_W7 hb_w7 | exact after3 HB_W7 hb_w7 | exact after4 HB_W7 hb_w7 | exact after5 HB_W7 hb_w7
  try clear q_c_0 q_c_1
  have H_c := Lib.hid (Box.below (by first | exact H_c.out | exact H_c.out.alloc _ | exact (H_c.out.alloc _).alloc _ | exact ((H_c.out.alloc _).alloc _).alloc _) hb_w7)
  obtain ⟨q_c_0, q_c_1⟩ := H_c.out.c2
  replace HLL1 := Lib.hid (show Sl w7 _ _ _ _ _ _ by first | exact HLL1.out.below hb_w7 | exact (HLL1.out.below (grew1 (Below.refl _ _))).below hb_w7 | exact (HLL1.out.below (grew2 (Below.refl _ _))).below hb_w7 | exact (HLL1.out.below (grew3 (Below.refl _ _))).below hb_w7)
  replace HLL2 := Lib.hid (show Sl w7 _ _ _ _ _ _ by first | exact HLL2.out.below hb_w7 | exact (HLL2.out.below (grew1 (Below.refl _ _))).below hb_w7 | exact (HLL2.out.below (grew2 (Below.refl _ _))).below hb_w7 | exact (HLL2.out.below (grew3 (Below.refl _ _))).below hb_w7)
  have HST := Lib.hid hs
  clear hs
  go_wp2_with fail
  refine (h_adm _ HSO.out HST.out).mono ?_
  rintro e w8 ⟨o8, n8, c8, rfl, hl, hb_w8⟩
  have HB_w8 : Below w.heap.size w w8 := by first | exact after0 HB_w7 hb_w8 | exact after1 HB_w7 hb_w8 | exact after2 HB_w7 hb_w8 | exact after3 HB_w7 hb_w8 | exact after4 HB_w7 hb_w8 | exact after5 HB_w7 hb_w8
  try clear q_c_0 q_c_1
  have H_c := Lib.hid (Box.below (by first | exact H_c.out | exact H_c.out.alloc _ | exact (H_c.out.alloc _).alloc _ | exact ((H_c.out.alloc _).alloc _).alloc _) hb_w8)
  obtain ⟨q_c_0, q_c_1⟩ := H_c.out.c2
  replace HLL1 := Lib.hid (show Sl w8 _ _ _ _ _ _ by first | exact HLL1.out.below hb_w8 | exact (HLL1.out.below (grew1 (Below.refl _ _))).below hb_w8 | exact (HLL1.out.below (grew2 (Below.refl _ _))).below hb_w8 | exact (HLL1.out.below (grew3 (Below.refl _ _))).below hb_w8)
  replace HLL2 := Lib.hid (show Sl w8 _ _ _ _ _ _ by first | exact HLL2.out.below hb_w8 | exact (HLL2.out.below (grew1 (Below.refl _ _))).below hb_w8 | exact (HLL2.out.below (grew2 (Below.refl _ _))).below hb_w8 | exact (HLL2.out.below (grew3 (Below.refl _ _))).below hb_w8)
  have HL3 := Lib.hid hl
  clear hl HST
  go_wp2_with fail
  refine (jobs_any _).mono ?_
  rintro e w9 ⟨b, rfl, hs, hb_w9⟩
  have HB_w9 : Below w.heap.size w w9 := by first | exact after0 HB_w8 hb_w9 | exact after1 HB_w8 hb_w9 | exact after2 HB_w8 hb_w9 | exact after3 HB_w8 hb_w9 | exact after4 HB_w8 hb_w9 | exact after5 HB_w8 hb_w9
  try clear q_c_0 q_c_1
  have H_c := Lib.hid (Box.below (by first | exact H_c.out | exact H_c.out.alloc _ | exact (H_c.out.alloc _).alloc _ | exact ((H_c.out.alloc _).alloc _).alloc _) hb_w9)
  obtain ⟨q_c_0, q_c_1⟩ := H_c.out.c2
  replace HLL1 := Lib.hid (show Sl w9 _ _ _ _ _ _ by first | exact HLL1.out.below hb_w9 | exact (HLL1.out.below (grew1 (Below.refl _ _))).below hb_w9 | exact (HLL1.out.below (grew2 (Below.refl _ _))).below hb_w9 | exact (HLL1.out.below (grew3 (Below.refl _ _))).below hb_w9)
  replace HLL2 := Lib.hid (show Sl w9 _ _ _ _ _ _ by first | exact HLL2.out.below hb_w9 | exact (HLL2.out.below (grew1 (Below.refl _ _))).below hb_w9 | exact (HLL2.out.below (grew2 (Below.refl _ _))).below hb_w9 | exact (HLL2.out.below (grew3 (Below.refl _ _))).below hb_w9)
  replace HL3 := Lib.hid (show Sl w9 _ _ _ _ _ _ by first | exact HL3.out.below hb_w9 | exact (HL3.out.below (grew1 (Below.refl _ _))).below hb_w9 | exact (HL3.out.below (grew2 (Below.refl _ _))).below hb_w9 | exact (HL3.out.below (grew3 (Below.refl _ _))).below hb_w9)
  have HST := Lib.hid hs
  have HSH := slice_head (P := Try.prog) (t := 22) (by kernel_rfl) (fun W => by kernel_rfl) hs 2 (by decide)
  rw [show ((2 : Nat) : Int) = 2 from rfl] at HSH
  clear hs
  go_wp2_with fail
  clear HSH
  refine (h_core2 _ (HST.out.take (n := 2) (by decide))).mono ?_
  rintro e wa ⟨lo, hi, rfl, hb_wa⟩
  have HB_wa : Below w.heap.size w wa := by first | exact after0 HB_w9 hb_wa | exact after1 HB_w9 hb_wa | exact after2 HB_w9 hb_wa | exact after3 HB_w9 hb_wa | exact after4 HB_w9 hb_wa | exact after5 HB_w9 hb_wa
  try clear q_c_0 q_c_1
  have H_c := Lib.hid (Box.below (by first | exact H_c.out | exact H_c.out.alloc _ | exact (H_c.out.alloc _).alloc _ | exact ((H_c.out.alloc _).alloc _).alloc _) hb_wa)
  obtain ⟨q_c_0, q_c_1⟩ := H_c.out.c2
  replace HLL1 := Lib.hid (show Sl wa _ _ _ _ _ _ by first | exact HLL1.out.below hb_wa | exact (HLL1.out.below (grew1 (Below.refl _ _))).below hb_wa | exact (HLL1.out.below (grew2 (Below.refl _ _))).below hb_wa | exact (HLL1.out.below (grew3 (Below.refl _ _))).below hb_wa)
  replace HLL2 := Lib.hid (show Sl wa _ _ _ _ _ _ by first | exact HLL2.out.below hb_wa | exact (HLL2.out.below (grew1 (Below.refl _ _))).below hb_wa | exact (HLL2.out.below (grew2 (Below.refl _ _))).below hb_wa | exact (HLL2.out.below (grew3 (Below.refl _ _))).below hb_wa)
  replace HL3 := Lib.hid (show Sl wa _ _ _ _ _ _ by first | exact HL3.out.below hb_wa | exact (HL3.out.below (grew1 (Below.refl _ _))).below hb_wa | exact (HL3.out.below (grew2 (Below.refl _ _))).below hb_wa | exact (HL3.out.below (grew3 (Below.refl _ _))).below hb_wa)
  clear HST
  obtain ⟨Wb, hWb, hb_Wb, hZb, _⟩ := boxes1 wa [.int .i64 lo, .int .i64 hi] 37
  have HB_Wb := after0 HB_wa hb_Wb
  replace H_c := Lib.hid (H_c.out.below hb_Wb)
  replace HLL1 := Lib.hid (HLL1.out.below hb_Wb)
  replace HLL2 := Lib.hid (HLL2.out.below hb_Wb)
  replace HL3 := Lib.hid (HL3.out.below hb_Wb)
  clear hZb hb_Wb
  go_wp2_with fail
  clear hWb
  refine (h_done _ HLL1.out).mono ?_
  rintro e wb ⟨ob, nb, cb, rfl, hl, hb_wb⟩
  have HB_wb : Below w.heap.size w wb := by first | exact after0 HB_Wb hb_wb | exact after1 HB_Wb hb_wb | exact after2 HB_Wb hb_wb | exact after3 HB_Wb hb_wb | exact after4 HB_Wb hb_wb | exact after5 HB_Wb hb_wb
  try clear q_c_0 q_c_1
  have H_c := Lib.hid (Box.below (by first | exact H_c.out | exact H_c.out.alloc _ | exact (H_c.out.alloc _).alloc _ | exact ((H_c.out.alloc _).alloc _).alloc _) hb_wb)
  obtain ⟨q_c_0, q_c_1⟩ := H_c.out.c2
  replace HLL1 := Lib.hid (show Sl wb _ _ _ _ _ _ by first | exact HLL1.out.below hb_wb | exact (HLL1.out.below (grew1 (Below.refl _ _))).below hb_wb | exact (HLL1.out.below (grew2 (Below.refl _ _))).below hb_wb | exact (HLL1.out.below (grew3 (Below.refl _ _))).below hb_wb)
  replace HLL2 := Lib.hid (show Sl wb _ _ _ _ _ _ by first | exact HLL2.out.below hb_wb | exact (HLL2.out.below (grew1 (Below.refl _ _))).below hb_wb | exact (HLL2.out.below (grew2 (Below.refl _ _))).below hb_wb | exact (HLL2.out.below (grew3 (Below.refl _ _))).below hb_wb)
  replace HL3 := Lib.hid (show Sl wb _ _ _ _ _ _ by first | exact HL3.out.below hb_wb | exact (HL3.out.below (grew1 (Below.refl _ _))).below hb_wb | exact (HL3.out.below (grew2 (Below.refl _ _))).below hb_wb | exact (HL3.out.below (grew3 (Below.refl _ _))).below hb_wb)
  have HL4 := Lib.hid hl
  clear hl
  go_wp2_with fail
  refine (jobs_any _).mono ?_
  rintro e wc ⟨b, rfl, hs, hb_wc⟩
  have HB_wc : Below w.heap.size w wc := by first | exact after0 HB_wb hb_wc | exact after1 HB_wb hb_wc | exact after2 HB_wb hb_wc | exact after3 HB_wb hb_wc | exact after4 HB_wb hb_wc | exact after5 HB_wb hb_wc
  try clear q_c_0 q_c_1
  have H_c := Lib.hid (Box.below (by first | exact H_c.out | exact H_c.out.alloc _ | exact (H_c.out.alloc _).alloc _ | exact ((H_c.out.alloc _).alloc _).alloc _) hb_wc)
  obtain ⟨q_c_0, q_c_1⟩ := H_c.out.c2
  replace HLL1 := Lib.hid (show Sl wc _ _ _ _ _ _ by first | exact HLL1.out.below hb_wc | exact (HLL1.out.below (grew1 (Below.refl _ _))).below hb_wc | exact (HLL1.out.below (grew2 (Below.refl _ _))).below hb_wc | exact (HLL1.out.below (grew3 (Below.refl _ _))).below hb_wc)
  replace HLL2 := Lib.hid (show Sl wc _ _ _ _ _ _ by first | exact HLL2.out.below hb_wc | exact (HLL2.out.below (grew1 (Below.refl _ _))).below hb_wc | exact (HLL2.out.below (grew2 (Below.refl _ _))).below hb_wc | exact (HLL2.out.below (grew3 (Below.refl _ _))).below hb_wc)
  replace HL3 := Lib.hid (show Sl wc _ _ _ _ _ _ by first | exact HL3.out.below hb_wc | exact (HL3.out.below (grew1 (Below.refl _ _))).below hb_wc | exact (HL3.out.below (grew2 (Below.refl _ _))).below hb_wc | exact (HL3.out.below (grew3 (Below.refl _ _))).below hb_wc)
  replace HL4 := Lib.hid (show Sl wc _ _ _ _ _ _ by first | exact HL4.out.below hb_wc | exact (HL4.out.below (grew1 (Below.refl _ _))).below hb_wc | exact (HL4.out.below (grew2 (Below.refl _ _))).below hb_wc | exact (HL4.out.below (grew3 (Below.refl _ _))).below hb_wc)
  have HST := Lib.hid hs
  clear hs
  go_wp2_with fail
  refine (h_check _ HST.out HLL1.out).mono ?_
  rintro e wd ⟨rfl, hb_wd⟩
  have HB_wd : Below w.heap.size w wd := by first | exact after0 HB_wc hb_wd | exact after1 HB_wc hb_wd | exact after2 HB_wc hb_wd | exact after3 HB_wc hb_wd | exact after4 HB_wc hb_wd | exact after5 HB_wc hb_wd
  try clear q_c_0 q_c_1
  have H_c := Lib.hid (Box.below (by first | exact H_c.out | exact H_c.out.alloc _ | exact (H_c.out.alloc _).alloc _ | exact ((H_c.out.alloc _).alloc _).alloc _) hb_wd)
  obtain ⟨q_c_0, q_c_1⟩ := H_c.out.c2
  replace HLL1 := Lib.hid (show Sl wd _ _ _ _ _ _ by first | exact HLL1.out.below hb_wd | exact (HLL1.out.below (grew1 (Below.refl _ _))).below hb_wd | exact (HLL1.out.below (grew2 (Below.refl _ _))).below hb_wd | exact (HLL1.out.below (grew3 (Below.refl _ _))).below hb_wd)
  replace HLL2 := Lib.hid (show Sl wd _ _ _ _ _ _ by first | exact HLL2.out.below hb_wd | exact (HLL2.out.below (grew1 (Below.refl _ _))).below hb_wd | exact (HLL2.out.below (grew2 (Below.refl _ _))).below hb_wd | exact (HLL2.out.below (grew3 (Below.refl _ _))).below hb_wd)
  replace HL3 := Lib.hid (show Sl wd _ _ _ _ _ _ by first | exact HL3.out.below hb_wd | exact (HL3.out.below (grew1 (Below.refl _ _))).below hb_wd | exact (HL3.out.below (grew2 (Below.refl _ _))).below hb_wd | exact (HL3.out.below (grew3 (Below.refl _ _))).below hb_wd)
  replace HL4 := Lib.hid (show Sl wd _ _ _ _ _ _ by first | exact HL4.out.below hb_wd | exact (HL4.out.below (grew1 (Below.refl _ _))).below hb_wd | exact (HL4.out.below (grew2 (Below.refl _ _))).below hb_wd | exact (HL4.out.below (grew3 (Below.refl _ _))).below hb_wd)
  clear HST
  go_wp2_with fail
  refine (h_same _ (HLL1.out.below (grew1 (Below.refl _ _))) (lit_newS _ kP (by decide))).mono ?_
  rintro e we ⟨rfl, hb_we⟩
  have HB_we : Below w.heap.size w we := by first | exact after0 HB_wd hb_we | exact after1 HB_wd hb_we | exact after2 HB_wd hb_we | exact after3 HB_wd hb_we | exact after4 HB_wd hb_we | exact after5 HB_wd hb_we
  try clear q_c_0 q_c_1
  have H_c := Lib.hid (Box.below (by first | exact H_c.out | exact H_c.out.alloc _ | exact (H_c.out.alloc _).alloc _ | exact ((H_c.out.alloc _).alloc _).alloc _) hb_we)
  obtain ⟨q_c_0, q_c_1⟩ := H_c.out.c2
  replace HLL2 := Lib.hid (show Sl we _ _ _ _ _ _ by first | exact HLL2.out.below hb_we | exact (HLL2.out.below (grew1 (Below.refl _ _))).below hb_we | exact (HLL2.out.below (grew2 (Below.refl _ _))).below hb_we | exact (HLL2.out.below (grew3 (Below.refl _ _))).below hb_we)
  replace HL3 := Lib.hid (show Sl we _ _ _ _ _ _ by first | exact HL3.out.below hb_we | exact (HL3.out.below (grew1 (Below.refl _ _))).below hb_we | exact (HL3.out.below (grew2 (Below.refl _ _))).below hb_we | exact (HL3.out.below (grew3 (Below.refl _ _))).below hb_we)
  replace HL4 := Lib.hid (show Sl we _ _ _ _ _ _ by first | exact HL4.out.below hb_we | exact (HL4.out.below (grew1 (Below.refl _ _))).below hb_we | exact (HL4.out.below (grew2 (Below.refl _ _))).below hb_we | exact (HL4.out.below (grew3 (Below.refl _ _))).below hb_we)
  clear HLL1
  go_wp2_with fail
  refine (h_ints _ (HLL2.out.below (grew1 (Below.refl _ _))) (lit_new _ [2] (by decide))).mono ?_
  rintro e wf ⟨rfl, hb_wf⟩
  have HB_wf : Below w.heap.size w wf := by first | exact after0 HB_we hb_wf | exact after1 HB_we hb_wf | exact after2 HB_we hb_wf | exact after3 HB_we hb_wf | exact after4 HB_we hb_wf | exact after5 HB_we hb_wf
  try clear q_c_0 q_c_1
  have H_c := Lib.hid (Box.below (by first | exact H_c.out | exact H_c.out.alloc _ | exact (H_c.out.alloc _).alloc _ | exact ((H_c.out.alloc _).alloc _).alloc _) hb_wf)
  obtain ⟨q_c_0, q_c_1⟩ := H_c.out.c2
  replace HL3 := Lib.hid (show Sl wf _ _ _ _ _ _ by first | exact HL3.out.below hb_wf | exact (HL3.out.below (grew1 (Below.refl _ _))).below hb_wf | exact (HL3.out.below (grew2 (Below.refl _ _))).below hb_wf | exact (HL3.out.below (grew3 (Below.refl _ _))).below hb_wf)
  replace HL4 := Lib.hid (show Sl wf _ _ _ _ _ _ by first | exact HL4.out.below hb_wf | exact (HL4.out.below (grew1 (Below.refl _ _))).below hb_wf | exact (HL4.out.below (grew2 (Below.refl _ _))).below hb_wf | exact (HL4.out.below (grew3 (Below.refl _ _))).below hb_wf)
  clear HLL2
  have hq := eql_span 1 3 1 3
  go_wp2_with fail
  refine (h_ints _ (HL3.out.below (grew1 (Below.refl _ _))) (lit_new _ [0, 2] (by decide))).mono ?_
  rintro e wg ⟨rfl, hb_wg⟩
  have HB_wg : Below w.heap.size w wg := by first | exact after0 HB_wf hb_wg | exact after1 HB_wf hb_wg | exact after2 HB_wf hb_wg | exact after3 HB_wf hb_wg | exact after4 HB_wf hb_wg | exact after5 HB_wf hb_wg
  replace HL4 := Lib.hid (show Sl wg _ _ _ _ _ _ by first | exact HL4.out.below hb_wg | exact (HL4.out.below (grew1 (Below.refl _ _))).below hb_wg | exact (HL4.out.below (grew2 (Below.refl _ _))).below hb_wg | exact (HL4.out.below (grew3 (Below.refl _ _))).below hb_wg)
  clear HL3
  go_wp2_with fail
  refine (h_ints _ (HL4.out.below (grew1 (Below.refl _ _))) (lit_new _ [1, 2] (by decide))).mono ?_
  rintro e wh ⟨rfl, hb_wh⟩
  have HB_wh : Below w.heap.size w wh := by first | exact after0 HB_wg hb_wh | exact after1 HB_wg hb_wh | exact after2 HB_wg hb_wh | exact after3 HB_wg hb_wh | exact after4 HB_wg hb_wh | exact after5 HB_wg hb_wh
  go_wp2_with fail
  go_ret
  exact ⟨rfl, HB_wh⟩
end Go.Proofs.Ytheioedggjbphaa
