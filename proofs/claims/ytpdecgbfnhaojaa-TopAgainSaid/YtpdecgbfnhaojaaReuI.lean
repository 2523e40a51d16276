/-
  The walks of 'ReuseNoLater' and 'ReuseDropped'.
-/
import Derived.Test.YtpdecgbfnhaojaaReuH
set_option linter.unusedVariables false
namespace Go.Proofs.Ytpdecgbfnhaojaa
open Go.RowKit Nb Sk Ck Ru Go.Sort

theorem dropped_to {cs : List Clk} {u k t : Int} {v : Bool} {ao : Option Addr} {n cap : Nat} {w : World} (h : droppedF cs u k t = v) (hs : Sl w 4 cC ao n cap cs) : Calls Try.prog 14 #[.slice ao n cap, .int .i64 u, .int .i64 k, .int .i64 t] w (Ret w (.bool v)) := by
  have := dropped_any ao n cap cs u k t w hs
  rwa [h] at this
theorem free_ex (u k : Int) (cs : List Clk) : ∃ t e, freeF u k cs = (t, e) := ⟨_, _, rfl⟩
theorem holds_ex (c : Clk) (u k t : Int) : ∃ x e, holds c u k t = (x, e) := ⟨_, _, rfl⟩

set_option maxRecDepth 100000 in
set_option maxHeartbeats 4000000 in
theorem nolater_walk (hso : SortOk) (u k : Int) (ao : Option Addr) (n cap : Nat) (cs : List Clk) (w : World) (hs : Sl w 4 cC ao n cap cs) :
    Calls Try.prog 4 #[.int .i64 u, .int .i64 k, .slice ao n cap] w (Ret w (.bool true)) := by
  have HB_w : Below w.heap.size w w := Below.refl _ _
  obtain ⟨t, e, h1⟩ := free_ex u k cs
  have HLAW := nolater_law h1
  have H1 := Lib.hid h1
  have HS := Lib.hid hs
  have HSO := Lib.hid hso
  clear hs h1 hso
  rcases HLAW with rfl | ⟨rfl, rfl⟩ | ⟨rfl, hd⟩ | ⟨rfl, h2, h3, hd⟩
  all_goals
    go_enter Try.func4, Try.ntmps4
    go_wp2_with fail
    refine (head_any HSO.out _).mono ?_
    rintro e wa ⟨rfl, hb_wa⟩
    have HB_wa : Below w.heap.size w wa := by first | exact after0 HB_w hb_wa | exact after1 HB_w hb_wa | exact after2 HB_w hb_wa | exact after3 HB_w hb_wa | exact after4 HB_w hb_wa | exact after5 HB_w hb_wa
    replace HS := Lib.hid (show Sl wa _ _ _ _ _ _ by first | exact HS.out.below hb_wa | exact (HS.out.below (grew1 (Below.refl _ _))).below hb_wa | exact (HS.out.below (grew2 (Below.refl _ _))).below hb_wa | exact (HS.out.below (grew3 (Below.refl _ _))).below hb_wa)
    go_wp2_with fail
    refine (free_to H1.out HS.out).mono ?_
    rintro e wb ⟨rfl, hb_wb⟩
    have HB_wb : Below w.heap.size w wb := by first | exact after0 HB_wa hb_wb | exact after1 HB_wa hb_wb | exact after2 HB_wa hb_wb | exact after3 HB_wa hb_wb | exact after4 HB_wa hb_wb | exact after5 HB_wa hb_wb
    replace HS := Lib.hid (show Sl wb _ _ _ _ _ _ by first | exact HS.out.below hb_wb | exact (HS.out.below (grew1 (Below.refl _ _))).below hb_wb | exact (HS.out.below (grew2 (Below.refl _ _))).below hb_wb | exact (HS.out.below (grew3 (Below.refl _ _))).below hb_wb)
    go_wp2_with fail
    all_goals try (exfalso; omega)
    try (go_ret; exact ⟨rfl, HB_wb⟩)
  all_goals
    first | (refine (dropped_to hd HS.out).mono ?_) | skip
    rintro e wc ⟨rfl, hb_wc⟩
    have HB_wc := after0 HB_wb hb_wc
    go_wp2_with fail
    all_goals try (exfalso; omega)
    go_ret
    exact ⟨rfl, HB_wc⟩

set_option maxRecDepth 100000 in
set_option maxHeartbeats 4000000 in
theorem dropped_walk (hso : SortOk) (c0 c1 c2 c3 u k a b : Int) (w : World) :
    Calls Try.prog 6 #[.agg #[.int .i64 c0, .int .i64 c1, .int .i64 c2, .int .i64 c3], .int .i64 u, .int .i64 k, .int .i64 a, .int .i64 b] w (Ret w (.bool true)) := by
  obtain ⟨x, e, h1⟩ := holds_ex ⟨c0, c1, c2, c3⟩ u k (min a b)
  obtain ⟨y, f, h2⟩ := holds_ex ⟨c0, c1, c2, c3⟩ u k (max a b)
  obtain ⟨t, g, h3⟩ := free_ex u k [⟨c0, c1, c2, c3⟩]
  have HLAW := dropped_law (by omega) h1 h2 h3
  obtain ⟨W0, hW0, HB_W0, hZ, hn⟩ := boxes1 w [.int .i64 c0, .int .i64 c1, .int .i64 c2, .int .i64 c3] 44
  have H_c := Lib.hid hn
  have HSO := Lib.hid hso
  clear hn hZ hso
  have hab : (a < b ∧ min a b = a ∧ max a b = b) ∨ (b < a ∧ min a b = b ∧ max a b = a) ∨ (a = b ∧ min a b = b ∧ max a b = b) := by omega
  rcases hab with ⟨hab, hmi, hma⟩ | ⟨hab, hmi, hma⟩ | ⟨rfl, hmi, hma⟩
  all_goals
    rw [hmi] at h1
    rw [hma] at h2 HLAW
    have H1 := Lib.hid h1
    have H2 := Lib.hid h2
    have H3 := Lib.hid h3
    clear h1 h2 h3 hmi hma
    rcases HLAW with hne | ⟨rfl, rfl⟩ | ⟨rfl, rfl⟩ | ⟨rfl, rfl, hyx, hL⟩
    all_goals
      try (have hne1 : (e != 0) = true := bne_iff_ne.2 hne; clear hne)
      obtain ⟨q_c_0, q_c_1, q_c_2, q_c_3⟩ := H_c.out.c4
      go_enter Try.func6, Try.ntmps6
      go_wp2_with fail
      refine (head_any HSO.out _).mono ?_
      rintro e wa ⟨rfl, hb_wa⟩
      have HB_wa : Below w.heap.size w wa := by first | exact after0 HB_W0 hb_wa | exact after1 HB_W0 hb_wa | exact after2 HB_W0 hb_wa | exact after3 HB_W0 hb_wa | exact after4 HB_W0 hb_wa | exact after5 HB_W0 hb_wa
      try clear q_c_0 q_c_1 q_c_2 q_c_3
      have H_c := Lib.hid (Box.below (by first | exact H_c.out | exact H_c.out.alloc _ | exact (H_c.out.alloc _).alloc _ | exact ((H_c.out.alloc _).alloc _).alloc _) hb_wa)
      obtain ⟨q_c_0, q_c_1, q_c_2, q_c_3⟩ := H_c.out.c4
      clear hW0
      go_wp2_with fail
      refine (holds_to H1.out).mono ?_
      rintro e wb ⟨rfl, hb_wb⟩
      have HB_wb : Below w.heap.size w wb := by first | exact after0 HB_wa hb_wb | exact after1 HB_wa hb_wb | exact after2 HB_wa hb_wb | exact after3 HB_wa hb_wb | exact after4 HB_wa hb_wb | exact after5 HB_wa hb_wb
      try clear q_c_0 q_c_1 q_c_2 q_c_3
      have H_c := Lib.hid (Box.below (by first | exact H_c.out | exact H_c.out.alloc _ | exact (H_c.out.alloc _).alloc _ | exact ((H_c.out.alloc _).alloc _).alloc _) hb_wb)
      obtain ⟨q_c_0, q_c_1, q_c_2, q_c_3⟩ := H_c.out.c4
      go_wp2_with fail
      refine (holds_to H2.out).mono ?_
      rintro e wc ⟨rfl, hb_wc⟩
      have HB_wc : Below w.heap.size w wc := by first | exact after0 HB_wb hb_wc | exact after1 HB_wb hb_wc | exact after2 HB_wb hb_wc | exact after3 HB_wb hb_wc | exact after4 HB_wb hb_wc | exact after5 HB_wb hb_wc
      try clear q_c_0 q_c_1 q_c_2 q_c_3
      have H_c := Lib.hid (Box.below (by first | exact H_c.out | exact H_c.out.alloc _ | exact (H_c.out.alloc _).alloc _ | exact ((H_c.out.alloc _).alloc _).alloc _) hb_wc)
      obtain ⟨q_c_0, q_c_1, q_c_2, q_c_3⟩ := H_c.out.c4
      go_wp2_with fail
      all_goals try (exfalso; omega)
      try (go_ret; exact ⟨rfl, HB_wc⟩)
    all_goals
      refine (free_to H3.out (ao := some ⟨wc.heap.size, 0, none⟩) (n := 1) (cap := 1) (Sl.one (x := (⟨c0, c1, c2, c3⟩ : Clk)) (fun _ => rfl) (Box.new wc (cC ⟨c0, c1, c2, c3⟩) 44))).mono ?_
      rintro e wd ⟨rfl, hb_wd⟩
      have HB_wd := after1 HB_wc hb_wd
      clear q_c_0 q_c_1 q_c_2 q_c_3
      rcases hL with rfl | ⟨rfl, h4, h5⟩ | ⟨rfl, h4, h5⟩
      all_goals
        go_wp2_with fail
        all_goals try (exfalso; omega)
        go_ret
        exact ⟨rfl, HB_wd⟩
end Go.Proofs.Ytpdecgbfnhaojaa
