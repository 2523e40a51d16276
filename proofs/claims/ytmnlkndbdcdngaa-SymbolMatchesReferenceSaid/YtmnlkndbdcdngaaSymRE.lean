/-
  The reference functions of chapter 10: Find.
-/
import Derived.Test.YtmnlkndbdcdngaaSymRD
namespace Go.Proofs.Ytmnlkndbdcdngaa
open Go.RowKit Sb Sk Go.Sort
set_option linter.unusedVariables false


set_option maxRecDepth 100000 in
set_option maxHeartbeats 8000000 in
theorem rfind_any (of : Int) (ao : Option Addr) (n cap : Nat) (ms : List Mk) (s : Int) (w : World) (hs : Sl w 3 cM ao n cap ms) :
    Calls Try.prog 15 #[.agg #[.int .i64 of, .slice ao n cap], .int .i64 s] w (Ret w (.tuple #[eM (findF of ms s).1, .int .i64 (findF of ms s).2])) := by
  obtain rfl := hs.len
  have hcap := hs.max
  have hle := hs.le
  unfold maxLen at hcap
  obtain ⟨W0, hW0, HB_W0, hZ, hn, hr⟩ := boxes2 w [.int .i64 of, .slice ao ms.length cap] [.int .i64 0, .int .i64 0, .int .i64 0] 24 29
  have H_n := Lib.hid hn
  have H_r := Lib.hid hr
  have HS := Lib.hid (hs.below HB_W0)
  have HTR := Lib.hid (@findF_ok of ms s)
  have HBAD := Lib.hid (@findF_bad of ms s)
  clear hs hn hr hZ
  generalize findF of ms s = p at *
  obtain ⟨q_n_0, q_n_1⟩ := H_n.out.c2
  go_enter Try.func15, Try.ntmps15
  go_wp2_with fail
  refine (rvalid_any _ _ _ _ _ _ (by first | exact HS.out | exact HS.out.below (grew1 (Below.refl _ _)) | exact HS.out.below (grew2 (Below.refl _ _)) | exact HS.out.below (grew3 (Below.refl _ _)))).mono ?_
  rintro e w1 ⟨rfl, hb_w1⟩
  have HB_w1 : Below w.heap.size w w1 := by first | exact after0 HB_W0 hb_w1 | exact after1 HB_W0 hb_w1 | exact after2 HB_W0 hb_w1 | exact after3 HB_W0 hb_w1 | exact after4 HB_W0 hb_w1 | exact after5 HB_W0 hb_w1
  try clear q_n_0 q_n_1
  have H_n := Lib.hid (Box.below (by first | exact H_n.out | exact H_n.out.alloc _ | exact (H_n.out.alloc _).alloc _ | exact ((H_n.out.alloc _).alloc _).alloc _) hb_w1)
  obtain ⟨q_n_0, q_n_1⟩ := H_n.out.c2
  try clear q_r_0 q_r_1 q_r_2
  have H_r := Lib.hid (Box.below (by first | exact H_r.out | exact H_r.out.alloc _ | exact (H_r.out.alloc _).alloc _ | exact ((H_r.out.alloc _).alloc _).alloc _) hb_w1)
  obtain ⟨q_r_0, q_r_1, q_r_2⟩ := H_r.out.c3
  replace HS := Lib.hid (show Sl w1 _ _ _ _ _ _ by first | exact HS.out.below hb_w1 | exact (HS.out.below (grew1 (Below.refl _ _))).below hb_w1 | exact (HS.out.below (grew2 (Below.refl _ _))).below hb_w1 | exact (HS.out.below (grew3 (Below.refl _ _))).below hb_w1)
  clear hW0
  clear q_r_0 q_r_1 q_r_2
  cases hob : okB of ms
  · have HP := Lib.hid (HBAD.out (.inl hob))
    clear hob
    have f1 := H_r.out.frozen
    obtain ⟨r0, r1, r2⟩ := H_r.out.c3
    go_wp2_with fail
    obtain ⟨s0, s1, s2⟩ := (((H_r.out.set 0 (.int .i64 0)).set 1 (.int .i64 0)).set 2 (.int .i64 0)).c3
    refine bodyPost_ret (v := .tuple #[.agg #[.int .i64 0, .int .i64 0, .int .i64 0], .int .i64 1]) (by simp [results, Try.results15, go_sem, s0, s1, s2]) rfl ?_
    exact ⟨by rw [HP.out]; try rfl, ((HB_w1.setCell (p := ⟨w.heap.size + 1, 0, none⟩) (Nat.le_succ _) _).setCell (p := ⟨w.heap.size + 1, 1, none⟩) (Nat.le_succ _) _).setCell (p := ⟨w.heap.size + 1, 2, none⟩) (Nat.le_succ _) _⟩
  go_wp2_with fail
  refine (rsymbol_any s _).mono ?_
  rintro e w2 ⟨rfl, hb_w2⟩
  have HB_w2 : Below w.heap.size w w2 := by first | exact after0 HB_w1 hb_w2 | exact after1 HB_w1 hb_w2 | exact after2 HB_w1 hb_w2 | exact after3 HB_w1 hb_w2 | exact after4 HB_w1 hb_w2 | exact after5 HB_w1 hb_w2
  try clear q_n_0 q_n_1
  have H_n := Lib.hid (Box.below (by first | exact H_n.out | exact H_n.out.alloc _ | exact (H_n.out.alloc _).alloc _ | exact ((H_n.out.alloc _).alloc _).alloc _) hb_w2)
  obtain ⟨q_n_0, q_n_1⟩ := H_n.out.c2
  try clear q_r_0 q_r_1 q_r_2
  have H_r := Lib.hid (Box.below (by first | exact H_r.out | exact H_r.out.alloc _ | exact (H_r.out.alloc _).alloc _ | exact ((H_r.out.alloc _).alloc _).alloc _) hb_w2)
  obtain ⟨q_r_0, q_r_1, q_r_2⟩ := H_r.out.c3
  replace HS := Lib.hid (show Sl w2 _ _ _ _ _ _ by first | exact HS.out.below hb_w2 | exact (HS.out.below (grew1 (Below.refl _ _))).below hb_w2 | exact (HS.out.below (grew2 (Below.refl _ _))).below hb_w2 | exact (HS.out.below (grew3 (Below.refl _ _))).below hb_w2)
  clear q_r_0 q_r_1 q_r_2
  cases hok : okS s
  · have HP := Lib.hid (HBAD.out (.inr hok))
    clear hok
    have f1 := H_r.out.frozen
    obtain ⟨r0, r1, r2⟩ := H_r.out.c3
    go_wp2_with fail
    obtain ⟨s0, s1, s2⟩ := (((H_r.out.set 0 (.int .i64 0)).set 1 (.int .i64 0)).set 2 (.int .i64 0)).c3
    refine bodyPost_ret (v := .tuple #[.agg #[.int .i64 0, .int .i64 0, .int .i64 0], .int .i64 1]) (by simp [results, Try.results15, go_sem, s0, s1, s2]) rfl ?_
    exact ⟨by rw [HP.out]; try rfl, ((HB_w2.setCell (p := ⟨w.heap.size + 1, 0, none⟩) (Nat.le_succ _) _).setCell (p := ⟨w.heap.size + 1, 1, none⟩) (Nat.le_succ _) _).setCell (p := ⟨w.heap.size + 1, 2, none⟩) (Nat.le_succ _) _⟩
  have HT := Lib.hid (HTR.out hob hok)
  clear hob hok HTR HBAD
  go_wp2_with fail
  refine (rplace_any _ _ _ _ _ _ _ (by first | exact HS.out | exact HS.out.below (grew1 (Below.refl _ _)) | exact HS.out.below (grew2 (Below.refl _ _)) | exact HS.out.below (grew3 (Below.refl _ _)))).mono ?_
  rintro e w3 ⟨rfl, hb_w3⟩
  have HB_w3 : Below w.heap.size w w3 := by first | exact after0 HB_w2 hb_w3 | exact after1 HB_w2 hb_w3 | exact after2 HB_w2 hb_w3 | exact after3 HB_w2 hb_w3 | exact after4 HB_w2 hb_w3 | exact after5 HB_w2 hb_w3
  try clear q_n_0 q_n_1
  have H_n := Lib.hid (Box.below (by first | exact H_n.out | exact H_n.out.alloc _ | exact (H_n.out.alloc _).alloc _ | exact ((H_n.out.alloc _).alloc _).alloc _) hb_w3)
  obtain ⟨q_n_0, q_n_1⟩ := H_n.out.c2
  try clear q_r_0 q_r_1 q_r_2
  have H_r := Lib.hid (Box.below (by first | exact H_r.out | exact H_r.out.alloc _ | exact (H_r.out.alloc _).alloc _ | exact ((H_r.out.alloc _).alloc _).alloc _) hb_w3)
  obtain ⟨q_r_0, q_r_1, q_r_2⟩ := H_r.out.c3
  replace HS := Lib.hid (show Sl w3 _ _ _ _ _ _ by first | exact HS.out.below hb_w3 | exact (HS.out.below (grew1 (Below.refl _ _))).below hb_w3 | exact (HS.out.below (grew2 (Below.refl _ _))).below hb_w3 | exact (HS.out.below (grew3 (Below.refl _ _))).below hb_w3)
  clear q_r_0 q_r_1 q_r_2
  cases hl : lookM ms s with
  | none =>
    have HP := Lib.hid HT.out
    rw [hl] at HP
    rw [place_none hl]
    clear hl HT
    have f1 := H_r.out.frozen
    obtain ⟨r0, r1, r2⟩ := H_r.out.c3
    go_wp2_with fail
    obtain ⟨s0, s1, s2⟩ := (((H_r.out.set 0 (.int .i64 0)).set 1 (.int .i64 0)).set 2 (.int .i64 0)).c3
    refine bodyPost_ret (v := .tuple #[.agg #[.int .i64 0, .int .i64 0, .int .i64 0], .int .i64 11]) (by simp [results, Try.results15, go_sem, s0, s1, s2]) rfl ?_
    exact ⟨by rw [HP.out]; try rfl, ((HB_w3.setCell (p := ⟨w.heap.size + 1, 0, none⟩) (Nat.le_succ _) _).setCell (p := ⟨w.heap.size + 1, 1, none⟩) (Nat.le_succ _) _).setCell (p := ⟨w.heap.size + 1, 2, none⟩) (Nat.le_succ _) _⟩
  | some m =>
    have HP := Lib.hid HT.out
    rw [hl] at HP
    obtain ⟨i, hi, hpl, him⟩ := place_some hl
    rw [hpl]
    clear hl hpl HT
    dsimp only at HP
    obtain ⟨bb, off, rfl, hbb, hrow⟩ := HS.out.get hi
    obtain ⟨e_0, e_1, e_2⟩ := (hrow i hi).c3
    rw [him] at e_0 e_1 e_2
    clear hrow him
    obtain ⟨m0, m1, m2⟩ := m
    dsimp only at e_0 e_1 e_2
    have f1 := H_r.out.frozen
    obtain ⟨r0, r1, r2⟩ := H_r.out.c3
    go_wp2_with fail
    obtain ⟨s0, s1, s2⟩ := (((H_r.out.set 0 (.int .i64 m0)).set 1 (.int .i64 m1)).set 2 (.int .i64 m2)).c3
    refine bodyPost_ret (v := .tuple #[.agg #[.int .i64 m0, .int .i64 m1, .int .i64 m2], .int .i64 0]) (by simp [results, Try.results15, go_sem, s0, s1, s2]) rfl ?_
    exact ⟨by rw [HP.out]; try rfl, ((HB_w3.setCell (p := ⟨w.heap.size + 1, 0, none⟩) (Nat.le_succ _) _).setCell (p := ⟨w.heap.size + 1, 1, none⟩) (Nat.le_succ _) _).setCell (p := ⟨w.heap.size + 1, 2, none⟩) (Nat.le_succ _) _⟩
end Go.Proofs.Ytmnlkndbdcdngaa
