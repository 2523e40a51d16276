/-
  The examples of chapter 26 (head).
-/
import Derived.Test.YtmbnhlihcnbebaaEyP
set_option linter.unusedVariables false
namespace Ey
/-- the acts of the examples -/
def kA : List Ac := [⟨1, 3, 1, 10, ⟨0, 9, 0, 9⟩⟩, ⟨3, 3, 1, 11, bx0⟩, ⟨3, 3, 2, 12, bx0⟩, ⟨1, 3, 2, 20, ⟨5, 20, 0, 9⟩⟩, ⟨3, 3, 4, 21, bx0⟩, ⟨2, 3, 4, 30, bx0⟩, ⟨4, 3, 4, 31, bx0⟩, ⟨2, 3, 4, 32, bx0⟩, ⟨3, 3, 1, 33, bx0⟩]
def kD1 : List Dg := [⟨3, false, bx0, 1, false, ⟨0, 9, 0, 9⟩⟩]
def kD2 : List Dg := [⟨3, true, ⟨0, 9, 0, 9⟩, 0, false, bx0⟩]
def kD3 : List Dg := [⟨3, true, ⟨5, 20, 0, 9⟩, 0, false, bx0⟩]
theorem e_at11 : atR kA 11 = (kD1, 0) := by decide +kernel
theorem e_at12 : atR kA 12 = (kD2, 0) := by decide +kernel
theorem e_at31 : atR kA 31 = (kD3, 0) := by decide +kernel
theorem e_rep : (replS kA).L = [] ∧ (replS kA).came = [0, 21, 0, 0, 0, 0, 0, 0, 0] := by decide +kernel
theorem e_ey20 : eyesR kA 3 20 = (1, 2, 0) := by decide +kernel
theorem e_ey21 : eyesR kA 3 21 = (2, 4, 0) := by decide +kernel
theorem e_ey33 : eyesR kA 3 33 = (0, 0, 4) := by decide +kernel
theorem e_told : toldR kD3 20 9 = ([3], 0) := by decide +kernel
end Ey
namespace Go.Proofs.Ytmbnhlihcnbebaa
open Go Go.RowKit Ey Sk Go.Sort

set_option maxRecDepth 100000 in
theorem box_any (a b c d : Int) (w : World) : Calls Try.prog 35 #[.int .i64 a, .int .i64 b, .int .i64 c, .int .i64 d] w (Ret w (eB ⟨a, b, c, d⟩)) := by
  obtain ⟨W0, hW0, HB_W0, hZ, hn⟩ := boxes1 w [.int .i64 a, .int .i64 b, .int .i64 c, .int .i64 d] 31
  have H_n := Lib.hid hn
  clear hn hZ
  go_enter Try.func35, Try.ntmps35
  go_wp2_with fail
  clear hW0
  obtain ⟨s0, s1, s2, s3⟩ := H_n.out.c4
  refine bodyPost_ret (v := .agg #[.int .i64 a, .int .i64 b, .int .i64 c, .int .i64 d]) (by simp [results, Try.results35, go_sem, s0, s1, s2, s3]) rfl ?_
  exact ⟨rfl, HB_W0⟩

def ActsK (w : World) (e : Ending) (w' : World) : Prop := ∃ b, e = .returned (.slice (some ⟨b, 0, none⟩) 9 9) ∧ Sl w' 8 cA (some ⟨b, 0, none⟩) 9 9 kA ∧ Below w.heap.size w w'
theorem lit_newA (w : World) (l : List Ac) (hm : l.length ≤ 1000) : Sl (w.alloc (.cells (l.flatMap cA).toArray 37)) 8 cA (some ⟨w.heap.size, 0, none⟩) l.length l.length l :=
  Sl.lit (l := l) cA_len (Box.new w _ _) (by unfold maxLen; omega)
theorem lit_newD (w : World) (l : List Dg) (hm : l.length ≤ 1000) : Sl (w.alloc (.cells (l.flatMap cD).toArray 33)) 12 cD (some ⟨w.heap.size, 0, none⟩) l.length l.length l :=
  Sl.lit (l := l) cD_len (Box.new w _ _) (by unfold maxLen; omega)
theorem flat_cJ : ∀ l : List Int, l.flatMap cI = l.map (Value.int .i64)
  | [] => rfl
  | x :: l => by rw [List.flatMap_cons, flat_cJ l]; rfl
theorem lit_newI (w : World) (T : Nat) (l : List Int) (hm : l.length ≤ 1000) : Sl (w.alloc (.cells (l.map (Value.int .i64)).toArray T)) 1 cI (some ⟨w.heap.size, 0, none⟩) l.length l.length l :=
  Sl.lit (l := l) cI_len (by rw [flat_cJ]; exact Box.new w _ _) (by unfold maxLen; omega)

set_option maxRecDepth 100000 in
set_option maxHeartbeats 4000000 in
theorem acts_any (w : World) : Calls Try.prog 34 #[] w (ActsK w) := by
  have HB_w : Below w.heap.size w w := Below.refl _ _
  go_enter Try.func34, Try.ntmps34
  go_wp2_with fail
  refine (box_any 0 9 0 9 _).mono ?_
  rintro e wa ⟨rfl, hb_wa⟩
  have HB_wa : Below w.heap.size w wa := by first | exact after0 HB_w hb_wa | exact after1 HB_w hb_wa | exact after2 HB_w hb_wa | exact after3 HB_w hb_wa | exact after4 HB_w hb_wa | exact after5 HB_w hb_wa
  go_wp2_with fail
  refine (box_any 5 20 0 9 _).mono ?_
  rintro e wb ⟨rfl, hb_wb⟩
  have HB_wb : Below w.heap.size w wb := by first | exact after0 HB_wa hb_wb | exact after1 HB_wa hb_wb | exact after2 HB_wa hb_wb | exact after3 HB_wa hb_wb | exact after4 HB_wa hb_wb | exact after5 HB_wa hb_wb
  have HS := Lib.hid (lit_newA wb kA (by decide))
  go_wp2_with fail
  go_ret
  exact ⟨_, rfl, HS.out, grew1 HB_wb⟩
section
variable (w : World) {ao bo : Option Addr} {n c n2 c2 : Nat}
def DgsK (w : World) (l : List Dg) (x : Int) (e : Ending) (w' : World) : Prop := ∃ ao n cap, e = .returned (.tuple #[.slice ao n cap, .int .i64 x]) ∧ Sl w' 12 cD ao n cap l ∧ Below w.heap.size w w'
def IntK (w : World) (l : List Int) (x : Int) (e : Ending) (w' : World) : Prop := ∃ ao n cap, e = .returned (.tuple #[.slice ao n cap, .int .i64 x]) ∧ Sl w' 1 cI ao n cap l ∧ Below w.heap.size w w'
theorem dgs_k {w : World} {p : List Dg × Int} {l : List Dg} {x : Int} (h : p = (l, x)) {e : Ending} {w' : World} (hd : DgsE w p e w') : DgsK w l x e w' := by subst h; exact hd
theorem k_at11 (hko : KeysOk) (h : Sl w 8 cA ao 9 9 kA) : Calls Try.prog 13 #[.slice ao 9 9, .int .i64 11] w (DgsK w kD1 0) := (at_any hko _ _ _ kA 11 w h).mono fun _ _ => dgs_k e_at11
theorem k_at12 (hko : KeysOk) (h : Sl w 8 cA ao 9 9 kA) : Calls Try.prog 13 #[.slice ao 9 9, .int .i64 12] w (DgsK w kD2 0) := (at_any hko _ _ _ kA 12 w h).mono fun _ _ => dgs_k e_at12
theorem k_at31 (hko : KeysOk) (h : Sl w 8 cA ao 9 9 kA) : Calls Try.prog 13 #[.slice ao 9 9, .int .i64 31] w (DgsK w kD3 0) := (at_any hko _ _ _ kA 31 w h).mono fun _ _ => dgs_k e_at31
theorem k_ey20 (h : Sl w 8 cA ao 9 9 kA) : Calls Try.prog 14 #[.slice ao 9 9, .int .i64 3, .int .i64 20] w (Ret w (.tuple #[.int .i64 1, .int .i64 2, .int .i64 0])) := by
  have := eyes_any _ _ _ kA 3 20 w h
  rwa [e_ey20] at this
theorem k_ey21 (h : Sl w 8 cA ao 9 9 kA) : Calls Try.prog 14 #[.slice ao 9 9, .int .i64 3, .int .i64 21] w (Ret w (.tuple #[.int .i64 2, .int .i64 4, .int .i64 0])) := by
  have := eyes_any _ _ _ kA 3 21 w h
  rwa [e_ey21] at this
theorem k_ey33 (h : Sl w 8 cA ao 9 9 kA) : Calls Try.prog 14 #[.slice ao 9 9, .int .i64 3, .int .i64 33] w (Ret w (.tuple #[.int .i64 0, .int .i64 0, .int .i64 4])) := by
  have := eyes_any _ _ _ kA 3 33 w h
  rwa [e_ey33] at this
def RepK (w : World) (e : Ending) (w' : World) : Prop := ∃ a1 c1 a2 c2, e = .returned (.tuple #[.slice a1 0 c1, .slice a2 9 c2]) ∧ Sl w' 12 cD a1 0 c1 [] ∧ Sl w' 1 cI a2 9 c2 [0, 21, 0, 0, 0, 0, 0, 0, 0] ∧ Below w.heap.size w w'
theorem k_rep (hko : KeysOk) (h : Sl w 8 cA ao 9 9 kA) : Calls Try.prog 15 #[.slice ao 9 9] w (RepK w) := (replay_any hko _ _ _ kA w h (by decide)).mono fun e w' hd => by
  unfold ReplE at hd
  rw [e_rep.1, e_rep.2] at hd
  exact hd
theorem k_told (h : Sl w 12 cD ao n c kD3) : Calls Try.prog 25 #[.slice ao n c, .agg #[.int .i64 20, .int .i64 9]] w (IntK w [3] 0) := (told_any _ _ _ kD3 20 9 w h).mono fun e w' hd => by
  unfold IntsE at hd
  rw [e_told] at hd
  obtain ⟨a, c, h1, h2, h3⟩ := hd
  exact ⟨a, _, c, h1, h2, h3⟩
theorem k_same {l k : List Dg} (h : Sl w 12 cD ao n c l) (h2 : Sl w 12 cD bo n2 c2 k) (e : l = k) : Calls Try.prog 16 #[.slice ao n c, .slice bo n2 c2] w (Ret w (.bool true)) := by
  have := rsame_any ao bo n c n2 c2 l k w h h2
  rwa [decide_eq_true e] at this
theorem k_ints {l k : List Int} (h : Sl w 1 cI ao n c l) (h2 : Sl w 1 cI bo n2 c2 k) (e : l = k) : Calls Try.prog 27 #[.slice ao n c, .slice bo n2 c2] w (Ret w (.bool true)) := by
  have := rints_any ao bo n c n2 c2 l k w h h2
  rwa [decide_eq_true e] at this
theorem k_errs {l k : List Int} (h : Sl w 1 cI ao n c l) (h2 : Sl w 1 cI bo n2 c2 k) (e : l = k) : Calls Try.prog 17 #[.slice ao n c, .slice bo n2 c2] w (Ret w (.bool true)) := by
  have := rerrors_any ao bo n c n2 c2 l k w h h2
  rwa [decide_eq_true e] at this
end

set_option maxRecDepth 100000 in
set_option maxHeartbeats 8000000 in
theorem head_any (hko : KeysOk) (w : World) : Calls Try.prog 12 #[] w (Ret w (.bool true)) := by
  have HB_w : Below w.heap.size w w := Below.refl _ _
  have HKO := Lib.hid hko
  clear hko
  go_enter Try.func12, Try.ntmps12
  go_wp2_with fail
  refine (acts_any _).mono ?_
  rintro e w1 ⟨ab, rfl, hs, hb_w1⟩
  have HB_w1 : Below w.heap.size w w1 := by first | exact after0 HB_w hb_w1 | exact after1 HB_w hb_w1 | exact after2 HB_w hb_w1 | exact after3 HB_w hb_w1 | exact after4 HB_w hb_w1 | exact after5 HB_w hb_w1
  have HST := Lib.hid hs
  clear hs
  go_wp2_with fail
  refine (k_at11 _ HKO.out HST.out).mono ?_
  rintro e w2 ⟨o1, n1, c1, rfl, hl, hb_w2⟩
  have HB_w2 : Below w.heap.size w w2 := by first | exact after0 HB_w1 hb_w2 | exact after1 HB_w1 hb_w2 | exact after2 HB_w1 hb_w2 | exact after3 HB_w1 hb_w2 | exact after4 HB_w1 hb_w2 | exact after5 HB_w1 hb_w2
  have HL1 := Lib.hid hl
  clear hl HST
  go_wp2_with fail
  refine (acts_any _).mono ?_
  rintro e w3 ⟨ab, rfl, hs, hb_w3⟩
  have HB_w3 : Below w.heap.size w w3 := by first | exact after0 HB_w2 hb_w3 | exact after1 HB_w2 hb_w3 | exact after2 HB_w2 hb_w3 | exact after3 HB_w2 hb_w3 | exact after4 HB_w2 hb_w3 | exact after5 HB_w2 hb_w3
  replace HL1 := Lib.hid (show Sl w3 _ _ _ _ _ _ by first | exact HL1.out.below hb_w3 | exact (HL1.out.below (grew1 (Below.refl _ _))).below hb_w3 | exact (HL1.out.below (grew2 (Below.refl _ _))).below hb_w3 | exact (HL1.out.below (grew3 (Below.refl _ _))).below hb_w3)
  have HST := Lib.hid hs
  clear hs
  go_wp2_with fail
  refine (k_at12 _ HKO.out HST.out).mono ?_
  rintro e w4 ⟨o2, n2, c2, rfl, hl, hb_w4⟩
  have HB_w4 : Below w.heap.size w w4 := by first | exact after0 HB_w3 hb_w4 | exact after1 HB_w3 hb_w4 | exact after2 HB_w3 hb_w4 | exact after3 HB_w3 hb_w4 | exact after4 HB_w3 hb_w4 | exact after5 HB_w3 hb_w4
  replace HL1 := Lib.hid (show Sl w4 _ _ _ _ _ _ by first | exact HL1.out.below hb_w4 | exact (HL1.out.below (grew1 (Below.refl _ _))).below hb_w4 | exact (HL1.out.below (grew2 (Below.refl _ _))).below hb_w4 | exact (HL1.out.below (grew3 (Below.refl _ _))).below hb_w4)
  have HL2 := Lib.hid hl
  clear hl HST
  go_wp2_with fail
  refine (acts_any _).mono ?_
  rintro e w5 ⟨ab, rfl, hs, hb_w5⟩
  have HB_w5 : Below w.heap.size w w5 := by first | exact after0 HB_w4 hb_w5 | exact after1 HB_w4 hb_w5 | exact after2 HB_w4 hb_w5 | exact after3 HB_w4 hb_w5 | exact after4 HB_w4 hb_w5 | exact after5 HB_w4 hb_w5
  replace HL1 := Lib.hid (show Sl w5 _ _ _ _ _ _ by first | exact HL1.out.below hb_w5 | exact (HL1.out.below (grew1 (Below.refl _ _))).below hb_w5 | exact (HL1.out.below (grew2 (Below.refl _ _))).below hb_w5 | exact (HL1.out.below (grew3 (Below.refl _ _))).below hb_w5)
  replace HL2 := Lib.hid (show Sl w5 _ _ _ _ _ _ by first | exact HL2.out.below hb_w5 | exact (HL2.out.below (grew1 (Below.refl _ _))).below hb_w5 | exact (HL2.out.below (grew2 (Below.refl _ _))).below hb_w5 | exact (HL2.out.below (grew3 (Below.refl _ _))).below hb_w5)
  have HST := Lib.hid hs
  clear hs
  go_wp2_with fail
  refine (k_at31 _ HKO.out HST.out).mono ?_
  rintro e w6 ⟨o3, n3, c3, rfl, hl, hb_w6⟩
  have HB_w6 : Below w.heap.size w w6 := by first | exact after0 HB_w5 hb_w6 | exact after1 HB_w5 hb_w6 | exact after2 HB_w5 hb_w6 | exact after3 HB_w5 hb_w6 | exact after4 HB_w5 hb_w6 | exact after5 HB_w5 hb_w6
  replace HL1 := Lib.hid (show Sl w6 _ _ _ _ _ _ by first | exact HL1.out.below hb_w6 | exact (HL1.out.below (grew1 (Below.refl _ _))).below hb_w6 | exact (HL1.out.below (grew2 (Below.refl _ _))).below hb_w6 | exact (HL1.out.below (grew3 (Below.refl _ _))).below hb_w6)
  replace HL2 := Lib.hid (show Sl w6 _ _ _ _ _ _ by first | exact HL2.out.below hb_w6 | exact (HL2.out.below (grew1 (Below.refl _ _))).below hb_w6 | exact (HL2.out.below (grew2 (Below.refl _ _))).below hb_w6 | exact (HL2.out.below (grew3 (Below.refl _ _))).below hb_w6)
  have HL3 := Lib.hid hl
  clear hl HST
  go_wp2_with fail
  refine (acts_any _).mono ?_
  rintro e w7 ⟨ab, rfl, hs, hb_w7⟩
  have HB_w7 : Below w.heap.size w w7 := by first | exact after0 HB_w6 hb_w7 | exact after1 HB_w6 hb_w7 | exact after2 HB_w6 hb_w7 | exact after3 HB_w6 hb_w7 | exact after4 HB_w6 hb_w7 | exact after5 HB_w6 hb_w7
  replace HL1 := Lib.hid (show Sl w7 _ _ _ _ _ _ by first | exact HL1.out.below hb_w7 | exact (HL1.out.below (grew1 (Below.refl _ _))).below hb_w7 | exact (HL1.out.below (grew2 (Below.refl _ _))).below hb_w7 | exact (HL1.out.below (grew3 (Below.refl _ _))).below hb_w7)
  replace HL2 := Lib.hid (show Sl w7 _ _ _ _ _ _ by first | exact HL2.out.below hb_w7 | exact (HL2.out.below (grew1 (Below.refl _ _))).below hb_w7 | exact (HL2.out.below (grew2 (Below.refl _ _))).below hb_w7 | exact (HL2.out.below (grew3 (Below.refl _ _))).below hb_w7)
  replace HL3 := Lib.hid (show Sl w7 _ _ _ _ _ _ by first | exact HL3.out.below hb_w7 | exact (HL3.out.below (grew1 (Below.refl _ _))).below hb_w7 | exact (HL3.out.below (grew2 (Below.refl _ _))).below hb_w7 | exact (HL3.out.below (grew3 (Below.refl _ _))).below hb_w7)
  have HST := Lib.hid hs
  clear hs
  go_wp2_with fail
  refine (k_rep _ HKO.out HST.out).mono ?_
  rintro e w8 ⟨o4, c4, o5, c5, rfl, hl, hl2, hb_w8⟩
  have HB_w8 : Below w.heap.size w w8 := by first | exact after0 HB_w7 hb_w8 | exact after1 HB_w7 hb_w8 | exact after2 HB_w7 hb_w8 | exact after3 HB_w7 hb_w8 | exact after4 HB_w7 hb_w8 | exact after5 HB_w7 hb_w8
  replace HL1 := Lib.hid (show Sl w8 _ _ _ _ _ _ by first | exact HL1.out.below hb_w8 | exact (HL1.out.below (grew1 (Below.refl _ _))).below hb_w8 | exact (HL1.out.below (grew2 (Below.refl _ _))).below hb_w8 | exact (HL1.out.below (grew3 (Below.refl _ _))).below hb_w8)
  replace HL2 := Lib.hid (show Sl w8 _ _ _ _ _ _ by first | exact HL2.out.below hb_w8 | exact (HL2.out.below (grew1 (Below.refl _ _))).below hb_w8 | exact (HL2.out.below (grew2 (Below.refl _ _))).below hb_w8 | exact (HL2.out.below (grew3 (Below.refl _ _))).below hb_w8)
  replace HL3 := Lib.hid (show Sl w8 _ _ _ _ _ _ by first | exact HL3.out.below hb_w8 | exact (HL3.out.below (grew1 (Below.refl _ _))).below hb_w8 | exact (HL3.out.below (grew2 (Below.refl _ _))).below hb_w8 | exact (HL3.out.below (grew3 (Below.refl _ _))).below hb_w8)
  have HL4 := Lib.hid hl2
  clear hl hl2 HST
  go_wp2_with fail
  refine (acts_any _).mono ?_
  rintro e w9 ⟨ab, rfl, hs, hb_w9⟩
  have HB_w9 : Below w.heap.size w w9 := by first | exact after0 HB_w8 hb_w9 | exact after1 HB_w8 hb_w9 | exact after2 HB_w8 hb_w9 | exact after3 HB_w8 hb_w9 | exact after4 HB_w8 hb_w9 | exact after5 HB_w8 hb_w9
  replace HL1 := Lib.hid (show Sl w9 _ _ _ _ _ _ by first | exact HL1.out.below hb_w9 | exact (HL1.out.below (grew1 (Below.refl _ _))).below hb_w9 | exact (HL1.out.below (grew2 (Below.refl _ _))).below hb_w9 | exact (HL1.out.below (grew3 (Below.refl _ _))).below hb_w9)
  replace HL2 := Lib.hid (show Sl w9 _ _ _ _ _ _ by first | exact HL2.out.below hb_w9 | exact (HL2.out.below (grew1 (Below.refl _ _))).below hb_w9 | exact (HL2.out.below (grew2 (Below.refl _ _))).below hb_w9 | exact (HL2.out.below (grew3 (Below.refl _ _))).below hb_w9)
  replace HL3 := Lib.hid (show Sl w9 _ _ _ _ _ _ by first | exact HL3.out.below hb_w9 | exact (HL3.out.below (grew1 (Below.refl _ _))).below hb_w9 | exact (HL3.out.below (grew2 (Below.refl _ _))).below hb_w9 | exact (HL3.out.below (grew3 (Below.refl _ _))).below hb_w9)
  replace HL4 := Lib.hid (show Sl w9 _ _ _ _ _ _ by first | exact HL4.out.below hb_w9 | exact (HL4.out.below (grew1 (Below.refl _ _))).below hb_w9 | exact (HL4.out.below (grew2 (Below.refl _ _))).below hb_w9 | exact (HL4.out.below (grew3 (Below.refl _ _))).below hb_w9)
  have HST := Lib.hid hs
  clear hs
  go_wp2_with fail
  refine (k_ey20 _ HST.out).mono ?_
  rintro e w10 ⟨rfl, hb_w10⟩
  have HB_w10 : Below w.heap.size w w10 := by first | exact after0 HB_w9 hb_w10 | exact after1 HB_w9 hb_w10 | exact after2 HB_w9 hb_w10 | exact after3 HB_w9 hb_w10 | exact after4 HB_w9 hb_w10 | exact after5 HB_w9 hb_w10
  replace HL1 := Lib.hid (show Sl w10 _ _ _ _ _ _ by first | exact HL1.out.below hb_w10 | exact (HL1.out.below (grew1 (Below.refl _ _))).below hb_w10 | exact (HL1.out.below (grew2 (Below.refl _ _))).below hb_w10 | exact (HL1.out.below (grew3 (Below.refl _ _))).below hb_w10)
  replace HL2 := Lib.hid (show Sl w10 _ _ _ _ _ _ by first | exact HL2.out.below hb_w10 | exact (HL2.out.below (grew1 (Below.refl _ _))).below hb_w10 | exact (HL2.out.below (grew2 (Below.refl _ _))).below hb_w10 | exact (HL2.out.below (grew3 (Below.refl _ _))).below hb_w10)
  replace HL3 := Lib.hid (show Sl w10 _ _ _ _ _ _ by first | exact HL3.out.below hb_w10 | exact (HL3.out.below (grew1 (Below.refl _ _))).below hb_w10 | exact (HL3.out.below (grew2 (Below.refl _ _))).below hb_w10 | exact (HL3.out.below (grew3 (Below.refl _ _))).below hb_w10)
  replace HL4 := Lib.hid (show Sl w10 _ _ _ _ _ _ by first | exact HL4.out.below hb_w10 | exact (HL4.out.below (grew1 (Below.refl _ _))).below hb_w10 | exact (HL4.out.below (grew2 (Below.refl _ _))).below hb_w10 | exact (HL4.out.below (grew3 (Below.refl _ _))).below hb_w10)
  clear HST
  go_wp2_with fail
  refine (acts_any _).mono ?_
  rintro e w11 ⟨ab, rfl, hs, hb_w11⟩
  have HB_w11 : Below w.heap.size w w11 := by first | exact after0 HB_w10 hb_w11 | exact after1 HB_w10 hb_w11 | exact after2 HB_w10 hb_w11 | exact after3 HB_w10 hb_w11 | exact after4 HB_w10 hb_w11 | exact after5 HB_w10 hb_w11
  replace HL1 := Lib.hid (show Sl w11 _ _ _ _ _ _ by first | exact HL1.out.below hb_w11 | exact (HL1.out.below (grew1 (Below.refl _ _))).below hb_w11 | exact (HL1.out.below (grew2 (Below.refl _ _))).below hb_w11 | exact (HL1.out.below (grew3 (Below.refl _ _))).below hb_w11)
  replace HL2 := Lib.hid (show Sl w11 _ _ _ _ _ _ by first | exact HL2.out.below hb_w11 | exact (HL2.out.below (grew1 (Below.refl _ _))).below hb_w11 | exact (HL2.out.below (grew2 (Below.refl _ _))).below hb_w11 | exact (HL2.out.below (grew3 (Below.refl _ _))).below hb_w11)
  replace HL3 := Lib.hid (show Sl w11 _ _ _ _ _ _ by first | exact HL3.out.below hb_w11 | exact (HL3.out.below (grew1 (Below.refl _ _))).below hb_w11 | exact (HL3.out.below (grew2 (Below.refl _ _))).below hb_w11 | exact (HL3.out.below (grew3 (Below.refl _ _))).below hb_w11)
  replace HL4 := Lib.hid (show Sl w11 _ _ _ _ _ _ by first | exact HL4.out.below hb_w11 | exact (HL4.out.below (grew1 (Below.refl _ _))).below hb_w11 | exact (HL4.out.below (grew2 (Below.refl _ _))).below hb_w11 | exact (HL4.out.below (grew3 (Below.refl _ _))).below hb_w11)
  have HST := Lib.hid hs
  clear hs
  go_wp2_with fail
  refine (k_ey21 _ HST.out).mono ?_
  rintro e w12 ⟨rfl, hb_w12⟩
  have HB_w12 : Below w.heap.size w w12 := by first | exact after0 HB_w11 hb_w12 | exact after1 HB_w11 hb_w12 | exact after2 HB_w11 hb_w12 | exact after3 HB_w11 hb_w12 | exact after4 HB_w11 hb_w12 | exact after5 HB_w11 hb_w12
  replace HL1 := Lib.hid (show Sl w12 _ _ _ _ _ _ by first | exact HL1.out.below hb_w12 | exact (HL1.out.below (grew1 (Below.refl _ _))).below hb_w12 | exact (HL1.out.below (grew2 (Below.refl _ _))).below hb_w12 | exact (HL1.out.below (grew3 (Below.refl _ _))).below hb_w12)
  replace HL2 := Lib.hid (show Sl w12 _ _ _ _ _ _ by first | exact HL2.out.below hb_w12 | exact (HL2.out.below (grew1 (Below.refl _ _))).below hb_w12 | exact (HL2.out.below (grew2 (Below.refl _ _))).below hb_w12 | exact (HL2.out.below (grew3 (Below.refl _ _))).below hb_w12)
  replace HL3 := Lib.hid (show Sl w12 _ _ _ _ _ _ by first | exact HL3.out.below hb_w12 | exact (HL3.out.below (grew1 (Below.refl _ _))).below hb_w12 | exact (HL3.out.below (grew2 (Below.refl _ _))).below hb_w12 | exact (HL3.out.below (grew3 (Below.refl _ _))).below hb_w12)
  replace HL4 := Lib.hid (show Sl w12 _ _ _ _ _ _ by first | exact HL4.out.below hb_w12 | exact (HL4.out.below (grew1 (Below.refl _ _))).below hb_w12 | exact (HL4.out.below (grew2 (Below.refl _ _))).below hb_w12 | exact (HL4.out.below (grew3 (Below.refl _ _))).below hb_w12)
  clear HST
  go_wp2_with fail
  refine (acts_any _).mono ?_
  rintro e w13 ⟨ab, rfl, hs, hb_w13⟩
  have HB_w13 : Below w.heap.size w w13 := by first | exact after0 HB_w12 hb_w13 | exact after1 HB_w12 hb_w13 | exact after2 HB_w12 hb_w13 | exact after3 HB_w12 hb_w13 | exact after4 HB_w12 hb_w13 | exact after5 HB_w12 hb_w13
  replace HL1 := Lib.hid (show Sl w13 _ _ _ _ _ _ by first | exact HL1.out.below hb_w13 | exact (HL1.out.below (grew1 (Below.refl _ _))).below hb_w13 | exact (HL1.out.below (grew2 (Below.refl _ _))).below hb_w13 | exact (HL1.out.below (grew3 (Below.refl _ _))).below hb_w13)
  replace HL2 := Lib.hid (show Sl w13 _ _ _ _ _ _ by first | exact HL2.out.below hb_w13 | exact (HL2.out.below (grew1 (Below.refl _ _))).below hb_w13 | exact (HL2.out.below (grew2 (Below.refl _ _))).below hb_w13 | exact (HL2.out.below (grew3 (Below.refl _ _))).below hb_w13)
  replace HL3 := Lib.hid (show Sl w13 _ _ _ _ _ _ by first | exact HL3.out.below hb_w13 | exact (HL3.out.below (grew1 (Below.refl _ _))).below hb_w13 | exact (HL3.out.below (grew2 (Below.refl _ _))).below hb_w13 | exact (HL3.out.below (grew3 (Below.refl _ _))).below hb_w13)
  replace HL4 := Lib.hid (show Sl w13 _ _ _ _ _ _ by first | exact HL4.out.below hb_w13 | exact (HL4.out.below (grew1 (Below.refl _ _))).below hb_w13 | exact (HL4.out.below (grew2 (Below.refl _ _))).below hb_w13 | exact (HL4.out.below (grew3 (Below.refl _ _))).below hb_w13)
  have HST := Lib.hid hs
  clear hs
  go_wp2_with fail
  refine (k_ey33 _ HST.out).mono ?_
  rintro e w14 ⟨rfl, hb_w14⟩
  have HB_w14 : Below w.heap.size w w14 := by first | exact after0 HB_w13 hb_w14 | exact after1 HB_w13 hb_w14 | exact after2 HB_w13 hb_w14 | exact after3 HB_w13 hb_w14 | exact after4 HB_w13 hb_w14 | exact after5 HB_w13 hb_w14
  replace HL1 := Lib.hid (show Sl w14 _ _ _ _ _ _ by first | exact HL1.out.below hb_w14 | exact (HL1.out.below (grew1 (Below.refl _ _))).below hb_w14 | exact (HL1.out.below (grew2 (Below.refl _ _))).below hb_w14 | exact (HL1.out.below (grew3 (Below.refl _ _))).below hb_w14)
  replace HL2 := Lib.hid (show Sl w14 _ _ _ _ _ _ by first | exact HL2.out.below hb_w14 | exact (HL2.out.below (grew1 (Below.refl _ _))).below hb_w14 | exact (HL2.out.below (grew2 (Below.refl _ _))).below hb_w14 | exact (HL2.out.below (grew3 (Below.refl _ _))).below hb_w14)
  replace HL3 := Lib.hid (show Sl w14 _ _ _ _ _ _ by first | exact HL3.out.below hb_w14 | exact (HL3.out.below (grew1 (Below.refl _ _))).below hb_w14 | exact (HL3.out.below (grew2 (Below.refl _ _))).below hb_w14 | exact (HL3.out.below (grew3 (Below.refl _ _))).below hb_w14)
  replace HL4 := Lib.hid (show Sl w14 _ _ _ _ _ _ by first | exact HL4.out.below hb_w14 | exact (HL4.out.below (grew1 (Below.refl _ _))).below hb_w14 | exact (HL4.out.below (grew2 (Below.refl _ _))).below hb_w14 | exact (HL4.out.below (grew3 (Below.refl _ _))).below hb_w14)
  clear HST
  go_wp2_with fail
  refine (k_told _ HL3.out).mono ?_
  rintro e w15 ⟨o6, n6, c6, rfl, hl, hb_w15⟩
  have HB_w15 : Below w.heap.size w w15 := by first | exact after0 HB_w14 hb_w15 | exact after1 HB_w14 hb_w15 | exact after2 HB_w14 hb_w15 | exact after3 HB_w14 hb_w15 | exact after4 HB_w14 hb_w15 | exact after5 HB_w14 hb_w15
  replace HL1 := Lib.hid (show Sl w15 _ _ _ _ _ _ by first | exact HL1.out.below hb_w15 | exact (HL1.out.below (grew1 (Below.refl _ _))).below hb_w15 | exact (HL1.out.below (grew2 (Below.refl _ _))).below hb_w15 | exact (HL1.out.below (grew3 (Below.refl _ _))).below hb_w15)
  replace HL2 := Lib.hid (show Sl w15 _ _ _ _ _ _ by first | exact HL2.out.below hb_w15 | exact (HL2.out.below (grew1 (Below.refl _ _))).below hb_w15 | exact (HL2.out.below (grew2 (Below.refl _ _))).below hb_w15 | exact (HL2.out.below (grew3 (Below.refl _ _))).below hb_w15)
  replace HL3 := Lib.hid (show Sl w15 _ _ _ _ _ _ by first | exact HL3.out.below hb_w15 | exact (HL3.out.below (grew1 (Below.refl _ _))).below hb_w15 | exact (HL3.out.below (grew2 (Below.refl _ _))).below hb_w15 | exact (HL3.out.below (grew3 (Below.refl _ _))).below hb_w15)
  replace HL4 := Lib.hid (show Sl w15 _ _ _ _ _ _ by first | exact HL4.out.below hb_w15 | exact (HL4.out.below (grew1 (Below.refl _ _))).below hb_w15 | exact (HL4.out.below (grew2 (Below.refl _ _))).below hb_w15 | exact (HL4.out.below (grew3 (Below.refl _ _))).below hb_w15)
  have HL5 := Lib.hid hl
  clear hl
  go_wp2_with fail
  refine (box_any 0 9 0 9 _).mono ?_
  rintro e w16 ⟨rfl, hb_w16⟩
  have HB_w16 : Below w.heap.size w w16 := by first | exact after0 HB_w15 hb_w16 | exact after1 HB_w15 hb_w16 | exact after2 HB_w15 hb_w16 | exact after3 HB_w15 hb_w16 | exact after4 HB_w15 hb_w16 | exact after5 HB_w15 hb_w16
  replace HL1 := Lib.hid (show Sl w16 _ _ _ _ _ _ by first | exact HL1.out.below hb_w16 | exact (HL1.out.below (grew1 (Below.refl _ _))).below hb_w16 | exact (HL1.out.below (grew2 (Below.refl _ _))).below hb_w16 | exact (HL1.out.below (grew3 (Below.refl _ _))).below hb_w16)
  replace HL2 := Lib.hid (show Sl w16 _ _ _ _ _ _ by first | exact HL2.out.below hb_w16 | exact (HL2.out.below (grew1 (Below.refl _ _))).below hb_w16 | exact (HL2.out.below (grew2 (Below.refl _ _))).below hb_w16 | exact (HL2.out.below (grew3 (Below.refl _ _))).below hb_w16)
  replace HL3 := Lib.hid (show Sl w16 _ _ _ _ _ _ by first | exact HL3.out.below hb_w16 | exact (HL3.out.below (grew1 (Below.refl _ _))).below hb_w16 | exact (HL3.out.below (grew2 (Below.refl _ _))).below hb_w16 | exact (HL3.out.below (grew3 (Below.refl _ _))).below hb_w16)
  replace HL4 := Lib.hid (show Sl w16 _ _ _ _ _ _ by first | exact HL4.out.below hb_w16 | exact (HL4.out.below (grew1 (Below.refl _ _))).below hb_w16 | exact (HL4.out.below (grew2 (Below.refl _ _))).below hb_w16 | exact (HL4.out.below (grew3 (Below.refl _ _))).below hb_w16)
  replace HL5 := Lib.hid (show Sl w16 _ _ _ _ _ _ by first | exact HL5.out.below hb_w16 | exact (HL5.out.below (grew1 (Below.refl _ _))).below hb_w16 | exact (HL5.out.below (grew2 (Below.refl _ _))).below hb_w16 | exact (HL5.out.below (grew3 (Below.refl _ _))).below hb_w16)
  go_wp2_with fail
  refine (k_same _ (HL1.out.below (grew1 (Below.refl _ _))) (lit_newD _ kD1 (by decide)) rfl).mono ?_
  rintro e w17 ⟨rfl, hb_w17⟩
  have HB_w17 : Below w.heap.size w w17 := by first | exact after0 HB_w16 hb_w17 | exact after1 HB_w16 hb_w17 | exact after2 HB_w16 hb_w17 | exact after3 HB_w16 hb_w17 | exact after4 HB_w16 hb_w17 | exact after5 HB_w16 hb_w17
  replace HL2 := Lib.hid (show Sl w17 _ _ _ _ _ _ by first | exact HL2.out.below hb_w17 | exact (HL2.out.below (grew1 (Below.refl _ _))).below hb_w17 | exact (HL2.out.below (grew2 (Below.refl _ _))).below hb_w17 | exact (HL2.out.below (grew3 (Below.refl _ _))).below hb_w17)
  replace HL3 := Lib.hid (show Sl w17 _ _ _ _ _ _ by first | exact HL3.out.below hb_w17 | exact (HL3.out.below (grew1 (Below.refl _ _))).below hb_w17 | exact (HL3.out.below (grew2 (Below.refl _ _))).below hb_w17 | exact (HL3.out.below (grew3 (Below.refl _ _))).below hb_w17)
  replace HL4 := Lib.hid (show Sl w17 _ _ _ _ _ _ by first | exact HL4.out.below hb_w17 | exact (HL4.out.below (grew1 (Below.refl _ _))).below hb_w17 | exact (HL4.out.below (grew2 (Below.refl _ _))).below hb_w17 | exact (HL4.out.below (grew3 (Below.refl _ _))).below hb_w17)
  replace HL5 := Lib.hid (show Sl w17 _ _ _ _ _ _ by first | exact HL5.out.below hb_w17 | exact (HL5.out.below (grew1 (Below.refl _ _))).below hb_w17 | exact (HL5.out.below (grew2 (Below.refl _ _))).below hb_w17 | exact (HL5.out.below (grew3 (Below.refl _ _))).below hb_w17)
  clear HL1
  go_wp2_with fail
  refine (box_any 0 9 0 9 _).mono ?_
  rintro e w18 ⟨rfl, hb_w18⟩
  have HB_w18 : Below w.heap.size w w18 := by first | exact after0 HB_w17 hb_w18 | exact after1 HB_w17 hb_w18 | exact after2 HB_w17 hb_w18 | exact after3 HB_w17 hb_w18 | exact after4 HB_w17 hb_w18 | exact after5 HB_w17 hb_w18
  replace HL2 := Lib.hid (show Sl w18 _ _ _ _ _ _ by first | exact HL2.out.below hb_w18 | exact (HL2.out.below (grew1 (Below.refl _ _))).below hb_w18 | exact (HL2.out.below (grew2 (Below.refl _ _))).below hb_w18 | exact (HL2.out.below (grew3 (Below.refl _ _))).below hb_w18)
  replace HL3 := Lib.hid (show Sl w18 _ _ _ _ _ _ by first | exact HL3.out.below hb_w18 | exact (HL3.out.below (grew1 (Below.refl _ _))).below hb_w18 | exact (HL3.out.below (grew2 (Below.refl _ _))).below hb_w18 | exact (HL3.out.below (grew3 (Below.refl _ _))).below hb_w18)
  replace HL4 := Lib.hid (show Sl w18 _ _ _ _ _ _ by first | exact HL4.out.below hb_w18 | exact (HL4.out.below (grew1 (Below.refl _ _))).below hb_w18 | exact (HL4.out.below (grew2 (Below.refl _ _))).below hb_w18 | exact (HL4.out.below (grew3 (Below.refl _ _))).below hb_w18)
  replace HL5 := Lib.hid (show Sl w18 _ _ _ _ _ _ by first | exact HL5.out.below hb_w18 | exact (HL5.out.below (grew1 (Below.refl _ _))).below hb_w18 | exact (HL5.out.below (grew2 (Below.refl _ _))).below hb_w18 | exact (HL5.out.below (grew3 (Below.refl _ _))).below hb_w18)
  go_wp2_with fail
  refine (k_same _ (HL2.out.below (grew1 (Below.refl _ _))) (lit_newD _ kD2 (by decide)) rfl).mono ?_
  rintro e w19 ⟨rfl, hb_w19⟩
  have HB_w19 : Below w.heap.size w w19 := by first | exact after0 HB_w18 hb_w19 | exact after1 HB_w18 hb_w19 | exact after2 HB_w18 hb_w19 | exact after3 HB_w18 hb_w19 | exact after4 HB_w18 hb_w19 | exact after5 HB_w18 hb_w19
  replace HL3 := Lib.hid (show Sl w19 _ _ _ _ _ _ by first | exact HL3.out.below hb_w19 | exact (HL3.out.below (grew1 (Below.refl _ _))).below hb_w19 | exact (HL3.out.below (grew2 (Below.refl _ _))).below hb_w19 | exact (HL3.out.below (grew3 (Below.refl _ _))).below hb_w19)
  replace HL4 := Lib.hid (show Sl w19 _ _ _ _ _ _ by first | exact HL4.out.below hb_w19 | exact (HL4.out.below (grew1 (Below.refl _ _))).below hb_w19 | exact (HL4.out.below (grew2 (Below.refl _ _))).below hb_w19 | exact (HL4.out.below (grew3 (Below.refl _ _))).below hb_w19)
  replace HL5 := Lib.hid (show Sl w19 _ _ _ _ _ _ by first | exact HL5.out.below hb_w19 | exact (HL5.out.below (grew1 (Below.refl _ _))).below hb_w19 | exact (HL5.out.below (grew2 (Below.refl _ _))).below hb_w19 | exact (HL5.out.below (grew3 (Below.refl _ _))).below hb_w19)
  clear HL2
  go_wp2_with fail
  refine (box_any 5 20 0 9 _).mono ?_
  rintro e w20 ⟨rfl, hb_w20⟩
  have HB_w20 : Below w.heap.size w w20 := by first | exact after0 HB_w19 hb_w20 | exact after1 HB_w19 hb_w20 | exact after2 HB_w19 hb_w20 | exact after3 HB_w19 hb_w20 | exact after4 HB_w19 hb_w20 | exact after5 HB_w19 hb_w20
  replace HL3 := Lib.hid (show Sl w20 _ _ _ _ _ _ by first | exact HL3.out.below hb_w20 | exact (HL3.out.below (grew1 (Below.refl _ _))).below hb_w20 | exact (HL3.out.below (grew2 (Below.refl _ _))).below hb_w20 | exact (HL3.out.below (grew3 (Below.refl _ _))).below hb_w20)
  replace HL4 := Lib.hid (show Sl w20 _ _ _ _ _ _ by first | exact HL4.out.below hb_w20 | exact (HL4.out.below (grew1 (Below.refl _ _))).below hb_w20 | exact (HL4.out.below (grew2 (Below.refl _ _))).below hb_w20 | exact (HL4.out.below (grew3 (Below.refl _ _))).below hb_w20)
  replace HL5 := Lib.hid (show Sl w20 _ _ _ _ _ _ by first | exact HL5.out.below hb_w20 | exact (HL5.out.below (grew1 (Below.refl _ _))).below hb_w20 | exact (HL5.out.below (grew2 (Below.refl _ _))).below hb_w20 | exact (HL5.out.below (grew3 (Below.refl _ _))).below hb_w20)
  go_wp2_with fail
  refine (k_same _ (HL3.out.below (grew1 (Below.refl _ _))) (lit_newD _ kD3 (by decide)) rfl).mono ?_
  rintro e w21 ⟨rfl, hb_w21⟩
  have HB_w21 : Below w.heap.size w w21 := by first | exact after0 HB_w20 hb_w21 | exact after1 HB_w20 hb_w21 | exact after2 HB_w20 hb_w21 | exact after3 HB_w20 hb_w21 | exact after4 HB_w20 hb_w21 | exact after5 HB_w20 hb_w21
  replace HL4 := Lib.hid (show Sl w21 _ _ _ _ _ _ by first | exact HL4.out.below hb_w21 | exact (HL4.out.below (grew1 (Below.refl _ _))).below hb_w21 | exact (HL4.out.below (grew2 (Below.refl _ _))).below hb_w21 | exact (HL4.out.below (grew3 (Below.refl _ _))).below hb_w21)
  replace HL5 := Lib.hid (show Sl w21 _ _ _ _ _ _ by first | exact HL5.out.below hb_w21 | exact (HL5.out.below (grew1 (Below.refl _ _))).below hb_w21 | exact (HL5.out.below (grew2 (Below.refl _ _))).below hb_w21 | exact (HL5.out.below (grew3 (Below.refl _ _))).below hb_w21)
  clear HL3
  go_wp2_with fail
  refine (k_ints _ (HL5.out.below (grew1 (Below.refl _ _))) (lit_newI _ 3 [3] (by decide)) rfl).mono ?_
  rintro e w22 ⟨rfl, hb_w22⟩
  have HB_w22 : Below w.heap.size w w22 := by first | exact after0 HB_w21 hb_w22 | exact after1 HB_w21 hb_w22 | exact after2 HB_w21 hb_w22 | exact after3 HB_w21 hb_w22 | exact after4 HB_w21 hb_w22 | exact after5 HB_w21 hb_w22
  replace HL4 := Lib.hid (show Sl w22 _ _ _ _ _ _ by first | exact HL4.out.below hb_w22 | exact (HL4.out.below (grew1 (Below.refl _ _))).below hb_w22 | exact (HL4.out.below (grew2 (Below.refl _ _))).below hb_w22 | exact (HL4.out.below (grew3 (Below.refl _ _))).below hb_w22)
  clear HL5
  go_wp2_with fail
  refine (k_errs _ (HL4.out.below (grew1 (Below.refl _ _))) (lit_newI _ 25 [0, 21, 0, 0, 0, 0, 0, 0, 0] (by decide)) rfl).mono ?_
  rintro e w23 ⟨rfl, hb_w23⟩
  have HB_w23 : Below w.heap.size w w23 := by first | exact after0 HB_w22 hb_w23 | exact after1 HB_w22 hb_w23 | exact after2 HB_w22 hb_w23 | exact after3 HB_w22 hb_w23 | exact after4 HB_w22 hb_w23 | exact after5 HB_w22 hb_w23
  go_wp2_with fail
  go_ret
  exact ⟨rfl, HB_w23⟩
end Go.Proofs.Ytmbnhlihcnbebaa
