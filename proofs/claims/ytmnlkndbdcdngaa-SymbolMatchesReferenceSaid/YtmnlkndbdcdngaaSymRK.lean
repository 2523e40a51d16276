/-
  The walk of 'SymbolMatchesReference'.
-/
import Derived.Test.YtmnlkndbdcdngaaSymRJ
import Derived.Test.YtmnlkndbdcdngaaSymJ
import Derived.Test.YtmnlkndbdcdngaaSymK
namespace Go.Proofs.Ytmnlkndbdcdngaa
open Go.RowKit Sb Sk Go.Sort
set_option linter.unusedVariables false


theorem rfind_to {oa : Int} {ax : Option Addr} {na ca : Nat} {a : List Mk} {s x0 x1 x2 e : Int} {w : World} (h : findF oa a s = (⟨x0, x1, x2⟩, e)) (hs : Sl w 3 cM ax na ca a) : Calls Try.prog 15 #[.agg #[.int .i64 oa, .slice ax na ca], .int .i64 s] w (Ret w (.tuple #[.agg #[.int .i64 x0, .int .i64 x1, .int .i64 x2], .int .i64 e])) := by
  have := rfind_any oa ax na ca a s w hs
  rwa [h] at this
section
variable {oa ob s t e oc : Int} {ax bx : Option Addr} {na ca nb cb : Nat} {a b : List Mk} {w : World}
theorem rtranslate_to (h : translate oa a ob b s = (t, e)) (hs : Sl w 3 cM ax na ca a) (ht : Sl w 3 cM bx nb cb b) :
    Calls Try.prog 17 #[.agg #[.int .i64 oa, .slice ax na ca], .agg #[.int .i64 ob, .slice bx nb cb], .int .i64 s] w (Ret w (.tuple #[.int .i64 t, .int .i64 e])) := by
  have := rtranslate_any oa ax na ca a ob bx nb cb b s w hs ht
  rwa [h] at this
theorem rlost_to {l : List Int} (h : symsF oa a ob b isLost = (l, e)) (hs : Sl w 3 cM ax na ca a) (ht : Sl w 3 cM bx nb cb b) : Calls Try.prog 19 #[.agg #[.int .i64 oa, .slice ax na ca], .agg #[.int .i64 ob, .slice bx nb cb]] w (IntsE w l e) := by
  have := rlost_any oa ax na ca a ob bx nb cb b w hs ht
  rwa [h] at this
theorem rchanged_to {l : List Int} (h : symsF oa a ob b isChanged = (l, e)) (hs : Sl w 3 cM ax na ca a) (ht : Sl w 3 cM bx nb cb b) : Calls Try.prog 22 #[.agg #[.int .i64 oa, .slice ax na ca], .agg #[.int .i64 ob, .slice bx nb cb]] w (IntsE w l e) := by
  have := rchanged_any oa ax na ca a ob bx nb cb b w hs ht
  rwa [h] at this
theorem rjoin_to {l : List Mk} (h : join oa a ob b = ((oc, l), e)) (hs : Sl w 3 cM ax na ca a) (ht : Sl w 3 cM bx nb cb b) : Calls Try.prog 26 #[.agg #[.int .i64 oa, .slice ax na ca], .agg #[.int .i64 ob, .slice bx nb cb]] w
    (fun k w' => ∃ ao n cap, k = .returned (.tuple #[.agg #[.int .i64 oc, .slice ao n cap], .int .i64 e]) ∧ Sl w' 3 cM ao n cap l ∧ Below w.heap.size w w') := by
  have := rjoin_any oa ax na ca a ob bx nb cb b w hs ht
  rw [h] at this
  exact this.mono fun e w' ⟨ao, n, cap, h1, h2, h4⟩ => ⟨ao, n, cap, h1, h2, h4⟩
theorem rints_same {ao bo : Option Addr} {n cap m capb : Nat} {l : List Int} (hs : Sl w 1 cI ao n cap l) (ht : Sl w 1 cI bo m capb l) : Calls Try.prog 20 #[.slice ao n cap, .slice bo m capb] w (Ret w (.bool true)) := by
  have := rints_any ao bo n cap m capb l l w hs ht
  rwa [show decide (l = l) = true by simp] at this
theorem rsame_same {ao bo : Option Addr} {n cap m capb : Nat} {l : List Mk} (hs : Sl w 3 cM ao n cap l) (ht : Sl w 3 cM bo m capb l) : Calls Try.prog 27 #[.agg #[.int .i64 oc, .slice ao n cap], .agg #[.int .i64 oc, .slice bo m capb]] w (Ret w (.bool true)) := by
  have := rsame_any oc ao n cap l oc bo m capb l w hs ht
  rwa [show decide (oc = oc ∧ l = l) = true by simp] at this
theorem bvalid_to {v : Bool} (h : okB oa a = v) (hs : Sl w 3 cM ax na ca a) : Calls Try.prog 12 #[.agg #[.int .i64 oa, .slice ax na ca]] w (Ret w (.bool v)) := by
  have := bvalid_any oa ax na ca a w hs
  rwa [h] at this
theorem rvalid_to {v : Bool} (h : okB oa a = v) (hs : Sl w 3 cM ax na ca a) : Calls Try.prog 13 #[.agg #[.int .i64 oa, .slice ax na ca]] w (Ret w (.bool v)) := by
  have := rvalid_any oa ax na ca a w hs
  rwa [h] at this
end
theorem chain_ex (bs : List (Int × List Mk)) (s : Int) : ∃ t e, chain bs s = (t, e) := ⟨_, _, rfl⟩
theorem chain_to {bs : List Bk} {s t e : Int} {ao : Option Addr} {n cap : Nat} {w : World} (h : chain (bs.map plainB) s = (t, e)) (hs : Sl w 2 cB ao n cap bs) (hb : ∀ u ∈ bs, BkOk w u) :
    Calls Try.prog 23 #[.slice ao n cap, .int .i64 s] w (Ret w (.tuple #[.int .i64 t, .int .i64 e])) := by
  have := Chain_any ao n cap bs s w hs hb
  rwa [h] at this
theorem rchain_to {bs : List Bk} {s t e : Int} {ao : Option Addr} {n cap : Nat} {w : World} (h : chain (bs.map plainB) s = (t, e)) (hs : Sl w 2 cB ao n cap bs) (hb : ∀ u ∈ bs, BkOk w u) :
    Calls Try.prog 24 #[.slice ao n cap, .int .i64 s] w (Ret w (.tuple #[.int .i64 t, .int .i64 e])) := by
  have := rchain_any ao n cap bs s w hs hb
  rwa [h] at this

set_option maxRecDepth 100000 in
set_option maxHeartbeats 16000000 in
theorem match_walk (oa : Int) (aa : Option Addr) (na ca : Nat) (a : List Mk) (ob : Int) (ab : Option Addr) (nb cb : Nat) (b : List Mk) (ao : Option Addr) (n cap : Nat) (bs : List Bk) (s : Int) (w : World) (ha : Sl w 3 cM aa na ca a) (hb : Sl w 3 cM ab nb cb b) (hs : Sl w 2 cB ao n cap bs) (hq : ∀ u ∈ bs, BkOk w u) :
    Calls Try.prog 3 #[.agg #[.int .i64 oa, .slice aa na ca], .agg #[.int .i64 ob, .slice ab nb cb], .slice ao n cap, .int .i64 s] w (Ret w (.bool true)) := by
  obtain ⟨v, h0⟩ : ∃ v, okB oa a = v := ⟨_, rfl⟩
  obtain ⟨x0, x1, x2, e1, h1⟩ := find_ex oa a s
  obtain ⟨t2, e2, h2⟩ := translate_ex oa a ob b s
  obtain ⟨l3, e3, h3⟩ := syms_ex oa a ob b isLost
  obtain ⟨l4, e4, h4⟩ := syms_ex oa a ob b isChanged
  obtain ⟨t5, e5, h5⟩ := chain_ex (bs.map plainB) s
  obtain ⟨oc, l6, e6, h6⟩ := join_ex oa a ob b
  replace h0 := Lib.hid h0
  replace h1 := Lib.hid h1
  replace h2 := Lib.hid h2
  replace h3 := Lib.hid h3
  replace h4 := Lib.hid h4
  replace h5 := Lib.hid h5
  replace h6 := Lib.hid h6
  obtain ⟨W0, hW0, HB_W0, hZ, hA, hB⟩ := boxes2 w [.int .i64 oa, .slice aa na ca] [.int .i64 ob, .slice ab nb cb] 24 24
  have H_a := Lib.hid hA
  have H_b := Lib.hid hB
  have HSA := Lib.hid (ha.below HB_W0)
  have HSB := Lib.hid (hb.below HB_W0)
  have HSX := Lib.hid hs
  have HQ := Lib.hid hq
  clear ha hb hA hB hZ hs hq
  go_enter Try.func3, Try.ntmps3
  go_wp2_with fail
  obtain ⟨q_a_0, q_a_1⟩ := H_a.out.c2
  have y_q_a_0 := cell_regrown q_a_0
  have y_q_a_1 := cell_regrown q_a_1
  clear q_a_0 q_a_1
  clear hW0
  refine wp_region_plan (C := fun w' => ∃ p : Regrown, w' = grow (redrawn W0 p.d) p.os) (.e 0 (.q 1 (.q 2 (.q 4 (.e 3 (.e 5 (.q 6 (.q 7 (.q 8 (.done)))))))))) 9 (by kernel_rfl) (by kernel_rfl) (grew_drew _) ?_
  repeat (any_goals (first | (go_big_quiet_skip; refine wpQuiet_nil ?_) | (go_big_quiet_want; go_big_quiet_op; go_big_quiet_on; refine wpQuiet_nil ?_) | ((with_reducible apply q_split); exact rfl; intro q hq; cases q <;> (rw [hq]; (try first | replace hq := bnot_t hq | replace hq := bnot_f hq); (try first | replace hq := of_decide_eq_true hq | replace hq := of_decide_eq_false hq | replace hq := eq_of_beq hq); (try first | replace hq := Int.not_lt.1 hq | replace hq := Int.not_le.1 hq | replace hq := Nat.not_lt.1 hq | replace hq := Nat.not_le.1 hq); try (exfalso; omega))) | (refine plan_q rfl rfl ?_)))
  refine plan_e rfl ?_
  go_wp2_with fail
  refine (head_any _).mono ?_
  rintro e w1 ⟨rfl, hb_w1⟩
  have HW_w1 : Below W0.heap.size W0 w1 := below_undrew hb_w1
  clear hb_w1
  go_wp2_with fail
  refine MixPost.intro (grew_of_below HW_w1) ?_
  repeat (any_goals (first | (go_big_quiet_skip; refine wpQuiet_nil ?_) | (go_big_quiet_want; go_big_quiet_op; go_big_quiet_on; refine wpQuiet_nil ?_) | ((with_reducible apply q_split); exact rfl; intro q hq; cases q <;> (rw [hq]; (try first | replace hq := bnot_t hq | replace hq := bnot_f hq); (try first | replace hq := of_decide_eq_true hq | replace hq := of_decide_eq_false hq | replace hq := eq_of_beq hq); (try first | replace hq := Int.not_lt.1 hq | replace hq := Int.not_le.1 hq | replace hq := Nat.not_lt.1 hq | replace hq := Nat.not_le.1 hq); try (exfalso; omega))) | (refine plan_q rfl rfl ?_)))
  refine plan_e rfl ?_
  go_wp2_with fail
  refine (bvalid_to h0.out (HSA.out.below HW_w1)).mono ?_
  rintro e w2 ⟨rfl, hb_w2⟩
  have HW_w2 : Below W0.heap.size W0 w2 := after0 HW_w1 hb_w2
  clear hb_w2
  go_wp2_with fail
  refine MixPost.intro (grew_of_below HW_w2) ?_
  repeat (any_goals (first | (go_big_quiet_skip; refine wpQuiet_nil ?_) | (go_big_quiet_want; go_big_quiet_op; go_big_quiet_on; refine wpQuiet_nil ?_) | ((with_reducible apply q_split); exact rfl; intro q hq; cases q <;> (rw [hq]; (try first | replace hq := bnot_t hq | replace hq := bnot_f hq); (try first | replace hq := of_decide_eq_true hq | replace hq := of_decide_eq_false hq | replace hq := eq_of_beq hq); (try first | replace hq := Int.not_lt.1 hq | replace hq := Int.not_le.1 hq | replace hq := Nat.not_lt.1 hq | replace hq := Nat.not_le.1 hq); try (exfalso; omega))) | (refine plan_q rfl rfl ?_)))
  refine plan_e rfl ?_
  go_wp2_with fail
  refine (rvalid_to h0.out (HSA.out.below HW_w2)).mono ?_
  rintro e w3 ⟨rfl, hb_w3⟩
  have HW_w3 : Below W0.heap.size W0 w3 := after0 HW_w2 hb_w3
  clear hb_w3
  go_wp2_with fail
  refine MixPost.intro (grew_of_below HW_w3) ?_
  repeat (any_goals (first | (go_big_quiet_skip; refine wpQuiet_nil ?_) | (go_big_quiet_want; go_big_quiet_op; go_big_quiet_on; refine wpQuiet_nil ?_) | ((with_reducible apply q_split); exact rfl; intro q hq; cases q <;> (rw [hq]; (try first | replace hq := bnot_t hq | replace hq := bnot_f hq); (try first | replace hq := of_decide_eq_true hq | replace hq := of_decide_eq_false hq | replace hq := eq_of_beq hq); (try first | replace hq := Int.not_lt.1 hq | replace hq := Int.not_le.1 hq | replace hq := Nat.not_lt.1 hq | replace hq := Nat.not_le.1 hq); try (exfalso; omega))) | (refine plan_q rfl rfl ?_)))
  clear y_q_a_0 y_q_a_1
  have HB_w3 : Below w.heap.size w w3 := after0 HB_W0 HW_w3
  replace H_a := Lib.hid (H_a.out.below HW_w3)
  replace H_b := Lib.hid (H_b.out.below HW_w3)
  replace HSA := Lib.hid (HSA.out.below HW_w3)
  replace HSB := Lib.hid (HSB.out.below HW_w3)
  clear HW_w1 HW_w2 HW_w3
  obtain ⟨q_a_0, q_a_1⟩ := H_a.out.c2
  obtain ⟨q_b_0, q_b_1⟩ := H_b.out.c2
  all_goals refine plan_done ?_
  all_goals (try simp only [List.drop_succ_cons, List.drop_zero])
  all_goals (try go_wp2_with fail)
  all_goals refine NoPanic.normal ?_
  all_goals (try go_wp2_with fail)
  refine (find_to h1.out (by first | exact HSA.out | exact HSA.out.below (grew1 (Below.refl _ _)) | exact HSA.out.below (grew2 (Below.refl _ _)) | exact HSA.out.below (grew3 (Below.refl _ _)))).mono ?_
  rintro e w4 ⟨rfl, hb_w4⟩
  have HB_w4 : Below w.heap.size w w4 := by first | exact after0 HB_w3 hb_w4 | exact after1 HB_w3 hb_w4 | exact after2 HB_w3 hb_w4 | exact after3 HB_w3 hb_w4 | exact after4 HB_w3 hb_w4 | exact after5 HB_w3 hb_w4
  try clear q_a_0 q_a_1
  have H_a := Lib.hid (Box.below (by first | exact H_a.out | exact H_a.out.alloc _ | exact (H_a.out.alloc _).alloc _ | exact ((H_a.out.alloc _).alloc _).alloc _) hb_w4)
  obtain ⟨q_a_0, q_a_1⟩ := H_a.out.c2
  try clear q_b_0 q_b_1
  have H_b := Lib.hid (Box.below (by first | exact H_b.out | exact H_b.out.alloc _ | exact (H_b.out.alloc _).alloc _ | exact ((H_b.out.alloc _).alloc _).alloc _) hb_w4)
  obtain ⟨q_b_0, q_b_1⟩ := H_b.out.c2
  replace HSA := Lib.hid (show Sl w4 _ _ _ _ _ _ by first | exact HSA.out.below hb_w4 | exact (HSA.out.below (grew1 (Below.refl _ _))).below hb_w4 | exact (HSA.out.below (grew2 (Below.refl _ _))).below hb_w4 | exact (HSA.out.below (grew3 (Below.refl _ _))).below hb_w4)
  replace HSB := Lib.hid (show Sl w4 _ _ _ _ _ _ by first | exact HSB.out.below hb_w4 | exact (HSB.out.below (grew1 (Below.refl _ _))).below hb_w4 | exact (HSB.out.below (grew2 (Below.refl _ _))).below hb_w4 | exact (HSB.out.below (grew3 (Below.refl _ _))).below hb_w4)
  obtain ⟨W1, hW1, hB_W1, hZ_W1, hb_W1⟩ := boxes1 w4 [.int .i64 x0, .int .i64 x1, .int .i64 x2] 29
  have H_m := Lib.hid hb_W1
  have HB_W1 : Below w.heap.size w W1 := after0 HB_w4 hB_W1
  replace H_a := Lib.hid (H_a.out.below hB_W1)
  replace H_b := Lib.hid (H_b.out.below hB_W1)
  try (have H_m2 := Lib.hid (H_m.out.below hB_W1); clear H_m; have H_m := H_m2; clear H_m2)
  try (have H_c2 := Lib.hid (H_c.out.below hB_W1); clear H_c; have H_c := H_c2; clear H_c2)
  replace HSA := Lib.hid (HSA.out.below hB_W1)
  replace HSB := Lib.hid (HSB.out.below hB_W1)
  clear hb_W1 hZ_W1
  obtain ⟨q_a_0, q_a_1⟩ := H_a.out.c2
  obtain ⟨q_b_0, q_b_1⟩ := H_b.out.c2
  go_wp2_with fail
  refine (rfind_to h1.out (by first | exact HSA.out | exact HSA.out.below (grew1 (Below.refl _ _)) | exact HSA.out.below (grew2 (Below.refl _ _)) | exact HSA.out.below (grew3 (Below.refl _ _)))).mono ?_
  rintro e w5 ⟨rfl, hb_w5⟩
  have HB_w5 : Below w.heap.size w w5 := by first | exact after0 HB_W1 hb_w5 | exact after1 HB_W1 hb_w5 | exact after2 HB_W1 hb_w5 | exact after3 HB_W1 hb_w5 | exact after4 HB_W1 hb_w5 | exact after5 HB_W1 hb_w5
  try clear q_a_0 q_a_1
  have H_a := Lib.hid (Box.below (by first | exact H_a.out | exact H_a.out.alloc _ | exact (H_a.out.alloc _).alloc _ | exact ((H_a.out.alloc _).alloc _).alloc _) hb_w5)
  obtain ⟨q_a_0, q_a_1⟩ := H_a.out.c2
  try clear q_b_0 q_b_1
  have H_b := Lib.hid (Box.below (by first | exact H_b.out | exact H_b.out.alloc _ | exact (H_b.out.alloc _).alloc _ | exact ((H_b.out.alloc _).alloc _).alloc _) hb_w5)
  obtain ⟨q_b_0, q_b_1⟩ := H_b.out.c2
  try clear q_m_0 q_m_1 q_m_2
  have H_m := Lib.hid (Box.below (by first | exact H_m.out | exact H_m.out.alloc _ | exact (H_m.out.alloc _).alloc _ | exact ((H_m.out.alloc _).alloc _).alloc _) hb_w5)
  obtain ⟨q_m_0, q_m_1, q_m_2⟩ := H_m.out.c3
  replace HSA := Lib.hid (show Sl w5 _ _ _ _ _ _ by first | exact HSA.out.below hb_w5 | exact (HSA.out.below (grew1 (Below.refl _ _))).below hb_w5 | exact (HSA.out.below (grew2 (Below.refl _ _))).below hb_w5 | exact (HSA.out.below (grew3 (Below.refl _ _))).below hb_w5)
  replace HSB := Lib.hid (show Sl w5 _ _ _ _ _ _ by first | exact HSB.out.below hb_w5 | exact (HSB.out.below (grew1 (Below.refl _ _))).below hb_w5 | exact (HSB.out.below (grew2 (Below.refl _ _))).below hb_w5 | exact (HSB.out.below (grew3 (Below.refl _ _))).below hb_w5)
  clear hW1
  obtain ⟨W2, hW2, hB_W2, hZ_W2, hb_W2⟩ := boxes1 w5 [.int .i64 x0, .int .i64 x1, .int .i64 x2] 29
  have H_o := Lib.hid hb_W2
  have HB_W2 : Below w.heap.size w W2 := after0 HB_w5 hB_W2
  replace H_a := Lib.hid (H_a.out.below hB_W2)
  replace H_b := Lib.hid (H_b.out.below hB_W2)
  try (have H_m2 := Lib.hid (H_m.out.below hB_W2); clear H_m; have H_m := H_m2; clear H_m2)
  try (have H_c2 := Lib.hid (H_c.out.below hB_W2); clear H_c; have H_c := H_c2; clear H_c2)
  replace HSA := Lib.hid (HSA.out.below hB_W2)
  replace HSB := Lib.hid (HSB.out.below hB_W2)
  clear hb_W2 hZ_W2
  obtain ⟨q_a_0, q_a_1⟩ := H_a.out.c2
  obtain ⟨q_b_0, q_b_1⟩ := H_b.out.c2
  obtain ⟨q_m_0, q_m_1, q_m_2⟩ := H_m.out.c3
  obtain ⟨q_o_0, q_o_1, q_o_2⟩ := H_o.out.c3
  go_wp2_with fail
  clear hW2 q_m_0 q_m_1 q_m_2 q_o_0 q_o_1 q_o_2 H_m H_o
  refine (translate_to h2.out (by first | exact HSA.out | exact HSA.out.below (grew1 (Below.refl _ _)) | exact HSA.out.below (grew2 (Below.refl _ _)) | exact HSA.out.below (grew3 (Below.refl _ _))) (by first | exact HSB.out | exact HSB.out.below (grew1 (Below.refl _ _)) | exact HSB.out.below (grew2 (Below.refl _ _)) | exact HSB.out.below (grew3 (Below.refl _ _)))).mono ?_
  rintro e w6 ⟨rfl, hb_w6⟩
  have HB_w6 : Below w.heap.size w w6 := by first | exact after0 HB_W2 hb_w6 | exact after1 HB_W2 hb_w6 | exact after2 HB_W2 hb_w6 | exact after3 HB_W2 hb_w6 | exact after4 HB_W2 hb_w6 | exact after5 HB_W2 hb_w6
  try clear q_a_0 q_a_1
  have H_a := Lib.hid (Box.below (by first | exact H_a.out | exact H_a.out.alloc _ | exact (H_a.out.alloc _).alloc _ | exact ((H_a.out.alloc _).alloc _).alloc _) hb_w6)
  obtain ⟨q_a_0, q_a_1⟩ := H_a.out.c2
  try clear q_b_0 q_b_1
  have H_b := Lib.hid (Box.below (by first | exact H_b.out | exact H_b.out.alloc _ | exact (H_b.out.alloc _).alloc _ | exact ((H_b.out.alloc _).alloc _).alloc _) hb_w6)
  obtain ⟨q_b_0, q_b_1⟩ := H_b.out.c2
  replace HSA := Lib.hid (show Sl w6 _ _ _ _ _ _ by first | exact HSA.out.below hb_w6 | exact (HSA.out.below (grew1 (Below.refl _ _))).below hb_w6 | exact (HSA.out.below (grew2 (Below.refl _ _))).below hb_w6 | exact (HSA.out.below (grew3 (Below.refl _ _))).below hb_w6)
  replace HSB := Lib.hid (show Sl w6 _ _ _ _ _ _ by first | exact HSB.out.below hb_w6 | exact (HSB.out.below (grew1 (Below.refl _ _))).below hb_w6 | exact (HSB.out.below (grew2 (Below.refl _ _))).below hb_w6 | exact (HSB.out.below (grew3 (Below.refl _ _))).below hb_w6)
  go_wp2_with fail
  refine (rtranslate_to h2.out (by first | exact HSA.out | exact HSA.out.below (grew1 (Below.refl _ _)) | exact HSA.out.below (grew2 (Below.refl _ _)) | exact HSA.out.below (grew3 (Below.refl _ _))) (by first | exact HSB.out | exact HSB.out.below (grew1 (Below.refl _ _)) | exact HSB.out.below (grew2 (Below.refl _ _)) | exact HSB.out.below (grew3 (Below.refl _ _)))).mono ?_
  rintro e w7 ⟨rfl, hb_w7⟩
  have HB_w7 : Below w.heap.size w w7 := by first | exact after0 HB_w6 hb_w7 | exact after1 HB_w6 hb_w7 | exact after2 HB_w6 hb_w7 | exact after3 HB_w6 hb_w7 | exact after4 HB_w6 hb_w7 | exact after5 HB_w6 hb_w7
  try clear q_a_0 q_a_1
  have H_a := Lib.hid (Box.below (by first | exact H_a.out | exact H_a.out.alloc _ | exact (H_a.out.alloc _).alloc _ | exact ((H_a.out.alloc _).alloc _).alloc _) hb_w7)
  obtain ⟨q_a_0, q_a_1⟩ := H_a.out.c2
  try clear q_b_0 q_b_1
  have H_b := Lib.hid (Box.below (by first | exact H_b.out | exact H_b.out.alloc _ | exact (H_b.out.alloc _).alloc _ | exact ((H_b.out.alloc _).alloc _).alloc _) hb_w7)
  obtain ⟨q_b_0, q_b_1⟩ := H_b.out.c2
  replace HSA := Lib.hid (show Sl w7 _ _ _ _ _ _ by first | exact HSA.out.below hb_w7 | exact (HSA.out.below (grew1 (Below.refl _ _))).below hb_w7 | exact (HSA.out.below (grew2 (Below.refl _ _))).below hb_w7 | exact (HSA.out.below (grew3 (Below.refl _ _))).below hb_w7)
  replace HSB := Lib.hid (show Sl w7 _ _ _ _ _ _ by first | exact HSB.out.below hb_w7 | exact (HSB.out.below (grew1 (Below.refl _ _))).below hb_w7 | exact (HSB.out.below (grew2 (Below.refl _ _))).below hb_w7 | exact (HSB.out.below (grew3 (Below.refl _ _))).below hb_w7)
  go_wp2_with fail
  refine (lost_to h3.out (by first | exact HSA.out | exact HSA.out.below (grew1 (Below.refl _ _)) | exact HSA.out.below (grew2 (Below.refl _ _)) | exact HSA.out.below (grew3 (Below.refl _ _))) (by first | exact HSB.out | exact HSB.out.below (grew1 (Below.refl _ _)) | exact HSB.out.below (grew2 (Below.refl _ _)) | exact HSB.out.below (grew3 (Below.refl _ _)))).mono ?_
  rintro e w8 ⟨ao1, n1, cap1, rfl, hl, hb_w8⟩
  have HB_w8 : Below w.heap.size w w8 := by first | exact after0 HB_w7 hb_w8 | exact after1 HB_w7 hb_w8 | exact after2 HB_w7 hb_w8 | exact after3 HB_w7 hb_w8 | exact after4 HB_w7 hb_w8 | exact after5 HB_w7 hb_w8
  try clear q_a_0 q_a_1
  have H_a := Lib.hid (Box.below (by first | exact H_a.out | exact H_a.out.alloc _ | exact (H_a.out.alloc _).alloc _ | exact ((H_a.out.alloc _).alloc _).alloc _) hb_w8)
  obtain ⟨q_a_0, q_a_1⟩ := H_a.out.c2
  try clear q_b_0 q_b_1
  have H_b := Lib.hid (Box.below (by first | exact H_b.out | exact H_b.out.alloc _ | exact (H_b.out.alloc _).alloc _ | exact ((H_b.out.alloc _).alloc _).alloc _) hb_w8)
  obtain ⟨q_b_0, q_b_1⟩ := H_b.out.c2
  replace HSA := Lib.hid (show Sl w8 _ _ _ _ _ _ by first | exact HSA.out.below hb_w8 | exact (HSA.out.below (grew1 (Below.refl _ _))).below hb_w8 | exact (HSA.out.below (grew2 (Below.refl _ _))).below hb_w8 | exact (HSA.out.below (grew3 (Below.refl _ _))).below hb_w8)
  replace HSB := Lib.hid (show Sl w8 _ _ _ _ _ _ by first | exact HSB.out.below hb_w8 | exact (HSB.out.below (grew1 (Below.refl _ _))).below hb_w8 | exact (HSB.out.below (grew2 (Below.refl _ _))).below hb_w8 | exact (HSB.out.below (grew3 (Below.refl _ _))).below hb_w8)
  have HSL := Lib.hid hl
  clear hl
  go_wp2_with fail
  refine (rlost_to h3.out (by first | exact HSA.out | exact HSA.out.below (grew1 (Below.refl _ _)) | exact HSA.out.below (grew2 (Below.refl _ _)) | exact HSA.out.below (grew3 (Below.refl _ _))) (by first | exact HSB.out | exact HSB.out.below (grew1 (Below.refl _ _)) | exact HSB.out.below (grew2 (Below.refl _ _)) | exact HSB.out.below (grew3 (Below.refl _ _)))).mono ?_
  rintro e w9 ⟨ao2, n2, cap2, rfl, hl, hb_w9⟩
  have HB_w9 : Below w.heap.size w w9 := by first | exact after0 HB_w8 hb_w9 | exact after1 HB_w8 hb_w9 | exact after2 HB_w8 hb_w9 | exact after3 HB_w8 hb_w9 | exact after4 HB_w8 hb_w9 | exact after5 HB_w8 hb_w9
  try clear q_a_0 q_a_1
  have H_a := Lib.hid (Box.below (by first | exact H_a.out | exact H_a.out.alloc _ | exact (H_a.out.alloc _).alloc _ | exact ((H_a.out.alloc _).alloc _).alloc _) hb_w9)
  obtain ⟨q_a_0, q_a_1⟩ := H_a.out.c2
  try clear q_b_0 q_b_1
  have H_b := Lib.hid (Box.below (by first | exact H_b.out | exact H_b.out.alloc _ | exact (H_b.out.alloc _).alloc _ | exact ((H_b.out.alloc _).alloc _).alloc _) hb_w9)
  obtain ⟨q_b_0, q_b_1⟩ := H_b.out.c2
  replace HSA := Lib.hid (show Sl w9 _ _ _ _ _ _ by first | exact HSA.out.below hb_w9 | exact (HSA.out.below (grew1 (Below.refl _ _))).below hb_w9 | exact (HSA.out.below (grew2 (Below.refl _ _))).below hb_w9 | exact (HSA.out.below (grew3 (Below.refl _ _))).below hb_w9)
  replace HSB := Lib.hid (show Sl w9 _ _ _ _ _ _ by first | exact HSB.out.below hb_w9 | exact (HSB.out.below (grew1 (Below.refl _ _))).below hb_w9 | exact (HSB.out.below (grew2 (Below.refl _ _))).below hb_w9 | exact (HSB.out.below (grew3 (Below.refl _ _))).below hb_w9)
  replace HSL := Lib.hid (show Sl w9 _ _ _ _ _ _ by first | exact HSL.out.below hb_w9 | exact (HSL.out.below (grew1 (Below.refl _ _))).below hb_w9 | exact (HSL.out.below (grew2 (Below.refl _ _))).below hb_w9 | exact (HSL.out.below (grew3 (Below.refl _ _))).below hb_w9)
  have HSC := Lib.hid hl
  clear hl
  go_wp2_with fail
  refine (rints_same (by first | exact HSL.out | exact HSL.out.below (grew1 (Below.refl _ _)) | exact HSL.out.below (grew2 (Below.refl _ _)) | exact HSL.out.below (grew3 (Below.refl _ _))) (by first | exact HSC.out | exact HSC.out.below (grew1 (Below.refl _ _)) | exact HSC.out.below (grew2 (Below.refl _ _)) | exact HSC.out.below (grew3 (Below.refl _ _)))).mono ?_
  rintro e wa ⟨rfl, hb_wa⟩
  have HB_wa : Below w.heap.size w wa := by first | exact after0 HB_w9 hb_wa | exact after1 HB_w9 hb_wa | exact after2 HB_w9 hb_wa | exact after3 HB_w9 hb_wa | exact after4 HB_w9 hb_wa | exact after5 HB_w9 hb_wa
  try clear q_a_0 q_a_1
  have H_a := Lib.hid (Box.below (by first | exact H_a.out | exact H_a.out.alloc _ | exact (H_a.out.alloc _).alloc _ | exact ((H_a.out.alloc _).alloc _).alloc _) hb_wa)
  obtain ⟨q_a_0, q_a_1⟩ := H_a.out.c2
  try clear q_b_0 q_b_1
  have H_b := Lib.hid (Box.below (by first | exact H_b.out | exact H_b.out.alloc _ | exact (H_b.out.alloc _).alloc _ | exact ((H_b.out.alloc _).alloc _).alloc _) hb_wa)
  obtain ⟨q_b_0, q_b_1⟩ := H_b.out.c2
  replace HSA := Lib.hid (show Sl wa _ _ _ _ _ _ by first | exact HSA.out.below hb_wa | exact (HSA.out.below (grew1 (Below.refl _ _))).below hb_wa | exact (HSA.out.below (grew2 (Below.refl _ _))).below hb_wa | exact (HSA.out.below (grew3 (Below.refl _ _))).below hb_wa)
  replace HSB := Lib.hid (show Sl wa _ _ _ _ _ _ by first | exact HSB.out.below hb_wa | exact (HSB.out.below (grew1 (Below.refl _ _))).below hb_wa | exact (HSB.out.below (grew2 (Below.refl _ _))).below hb_wa | exact (HSB.out.below (grew3 (Below.refl _ _))).below hb_wa)
  clear HSL HSC
  go_wp2_with fail
  refine (changed_to h4.out (by first | exact HSA.out | exact HSA.out.below (grew1 (Below.refl _ _)) | exact HSA.out.below (grew2 (Below.refl _ _)) | exact HSA.out.below (grew3 (Below.refl _ _))) (by first | exact HSB.out | exact HSB.out.below (grew1 (Below.refl _ _)) | exact HSB.out.below (grew2 (Below.refl _ _)) | exact HSB.out.below (grew3 (Below.refl _ _)))).mono ?_
  rintro e wb ⟨ao3, n3, cap3, rfl, hl, hb_wb⟩
  have HB_wb : Below w.heap.size w wb := by first | exact after0 HB_wa hb_wb | exact after1 HB_wa hb_wb | exact after2 HB_wa hb_wb | exact after3 HB_wa hb_wb | exact after4 HB_wa hb_wb | exact after5 HB_wa hb_wb
  try clear q_a_0 q_a_1
  have H_a := Lib.hid (Box.below (by first | exact H_a.out | exact H_a.out.alloc _ | exact (H_a.out.alloc _).alloc _ | exact ((H_a.out.alloc _).alloc _).alloc _) hb_wb)
  obtain ⟨q_a_0, q_a_1⟩ := H_a.out.c2
  try clear q_b_0 q_b_1
  have H_b := Lib.hid (Box.below (by first | exact H_b.out | exact H_b.out.alloc _ | exact (H_b.out.alloc _).alloc _ | exact ((H_b.out.alloc _).alloc _).alloc _) hb_wb)
  obtain ⟨q_b_0, q_b_1⟩ := H_b.out.c2
  replace HSA := Lib.hid (show Sl wb _ _ _ _ _ _ by first | exact HSA.out.below hb_wb | exact (HSA.out.below (grew1 (Below.refl _ _))).below hb_wb | exact (HSA.out.below (grew2 (Below.refl _ _))).below hb_wb | exact (HSA.out.below (grew3 (Below.refl _ _))).below hb_wb)
  replace HSB := Lib.hid (show Sl wb _ _ _ _ _ _ by first | exact HSB.out.below hb_wb | exact (HSB.out.below (grew1 (Below.refl _ _))).below hb_wb | exact (HSB.out.below (grew2 (Below.refl _ _))).below hb_wb | exact (HSB.out.below (grew3 (Below.refl _ _))).below hb_wb)
  have HSL := Lib.hid hl
  clear hl
  go_wp2_with fail
  refine (rchanged_to h4.out (by first | exact HSA.out | exact HSA.out.below (grew1 (Below.refl _ _)) | exact HSA.out.below (grew2 (Below.refl _ _)) | exact HSA.out.below (grew3 (Below.refl _ _))) (by first | exact HSB.out | exact HSB.out.below (grew1 (Below.refl _ _)) | exact HSB.out.below (grew2 (Below.refl _ _)) | exact HSB.out.below (grew3 (Below.refl _ _)))).mono ?_
  rintro e wc ⟨ao4, n4, cap4, rfl, hl, hb_wc⟩
  have HB_wc : Below w.heap.size w wc := by first | exact after0 HB_wb hb_wc | exact after1 HB_wb hb_wc | exact after2 HB_wb hb_wc | exact after3 HB_wb hb_wc | exact after4 HB_wb hb_wc | exact after5 HB_wb hb_wc
  try clear q_a_0 q_a_1
  have H_a := Lib.hid (Box.below (by first | exact H_a.out | exact H_a.out.alloc _ | exact (H_a.out.alloc _).alloc _ | exact ((H_a.out.alloc _).alloc _).alloc _) hb_wc)
  obtain ⟨q_a_0, q_a_1⟩ := H_a.out.c2
  try clear q_b_0 q_b_1
  have H_b := Lib.hid (Box.below (by first | exact H_b.out | exact H_b.out.alloc _ | exact (H_b.out.alloc _).alloc _ | exact ((H_b.out.alloc _).alloc _).alloc _) hb_wc)
  obtain ⟨q_b_0, q_b_1⟩ := H_b.out.c2
  replace HSA := Lib.hid (show Sl wc _ _ _ _ _ _ by first | exact HSA.out.below hb_wc | exact (HSA.out.below (grew1 (Below.refl _ _))).below hb_wc | exact (HSA.out.below (grew2 (Below.refl _ _))).below hb_wc | exact (HSA.out.below (grew3 (Below.refl _ _))).below hb_wc)
  replace HSB := Lib.hid (show Sl wc _ _ _ _ _ _ by first | exact HSB.out.below hb_wc | exact (HSB.out.below (grew1 (Below.refl _ _))).below hb_wc | exact (HSB.out.below (grew2 (Below.refl _ _))).below hb_wc | exact (HSB.out.below (grew3 (Below.refl _ _))).below hb_wc)
  replace HSL := Lib.hid (show Sl wc _ _ _ _ _ _ by first | exact HSL.out.below hb_wc | exact (HSL.out.below (grew1 (Below.refl _ _))).below hb_wc | exact (HSL.out.below (grew2 (Below.refl _ _))).below hb_wc | exact (HSL.out.below (grew3 (Below.refl _ _))).below hb_wc)
  have HSC := Lib.hid hl
  clear hl
  go_wp2_with fail
  refine (rints_same (by first | exact HSL.out | exact HSL.out.below (grew1 (Below.refl _ _)) | exact HSL.out.below (grew2 (Below.refl _ _)) | exact HSL.out.below (grew3 (Below.refl _ _))) (by first | exact HSC.out | exact HSC.out.below (grew1 (Below.refl _ _)) | exact HSC.out.below (grew2 (Below.refl _ _)) | exact HSC.out.below (grew3 (Below.refl _ _)))).mono ?_
  rintro e wd ⟨rfl, hb_wd⟩
  have HB_wd : Below w.heap.size w wd := by first | exact after0 HB_wc hb_wd | exact after1 HB_wc hb_wd | exact after2 HB_wc hb_wd | exact after3 HB_wc hb_wd | exact after4 HB_wc hb_wd | exact after5 HB_wc hb_wd
  try clear q_a_0 q_a_1
  have H_a := Lib.hid (Box.below (by first | exact H_a.out | exact H_a.out.alloc _ | exact (H_a.out.alloc _).alloc _ | exact ((H_a.out.alloc _).alloc _).alloc _) hb_wd)
  obtain ⟨q_a_0, q_a_1⟩ := H_a.out.c2
  try clear q_b_0 q_b_1
  have H_b := Lib.hid (Box.below (by first | exact H_b.out | exact H_b.out.alloc _ | exact (H_b.out.alloc _).alloc _ | exact ((H_b.out.alloc _).alloc _).alloc _) hb_wd)
  obtain ⟨q_b_0, q_b_1⟩ := H_b.out.c2
  replace HSA := Lib.hid (show Sl wd _ _ _ _ _ _ by first | exact HSA.out.below hb_wd | exact (HSA.out.below (grew1 (Below.refl _ _))).below hb_wd | exact (HSA.out.below (grew2 (Below.refl _ _))).below hb_wd | exact (HSA.out.below (grew3 (Below.refl _ _))).below hb_wd)
  replace HSB := Lib.hid (show Sl wd _ _ _ _ _ _ by first | exact HSB.out.below hb_wd | exact (HSB.out.below (grew1 (Below.refl _ _))).below hb_wd | exact (HSB.out.below (grew2 (Below.refl _ _))).below hb_wd | exact (HSB.out.below (grew3 (Below.refl _ _))).below hb_wd)
  clear HSL HSC
  go_wp2_with fail
  refine (chain_to h5.out (HSX.out.below HB_wd) (fun u hu => Sl.below (HQ.out u hu) HB_wd)).mono ?_
  rintro e we ⟨rfl, hb_we⟩
  have HB_we : Below w.heap.size w we := by first | exact after0 HB_wd hb_we | exact after1 HB_wd hb_we | exact after2 HB_wd hb_we | exact after3 HB_wd hb_we | exact after4 HB_wd hb_we | exact after5 HB_wd hb_we
  try clear q_a_0 q_a_1
  have H_a := Lib.hid (Box.below (by first | exact H_a.out | exact H_a.out.alloc _ | exact (H_a.out.alloc _).alloc _ | exact ((H_a.out.alloc _).alloc _).alloc _) hb_we)
  obtain ⟨q_a_0, q_a_1⟩ := H_a.out.c2
  try clear q_b_0 q_b_1
  have H_b := Lib.hid (Box.below (by first | exact H_b.out | exact H_b.out.alloc _ | exact (H_b.out.alloc _).alloc _ | exact ((H_b.out.alloc _).alloc _).alloc _) hb_we)
  obtain ⟨q_b_0, q_b_1⟩ := H_b.out.c2
  replace HSA := Lib.hid (show Sl we _ _ _ _ _ _ by first | exact HSA.out.below hb_we | exact (HSA.out.below (grew1 (Below.refl _ _))).below hb_we | exact (HSA.out.below (grew2 (Below.refl _ _))).below hb_we | exact (HSA.out.below (grew3 (Below.refl _ _))).below hb_we)
  replace HSB := Lib.hid (show Sl we _ _ _ _ _ _ by first | exact HSB.out.below hb_we | exact (HSB.out.below (grew1 (Below.refl _ _))).below hb_we | exact (HSB.out.below (grew2 (Below.refl _ _))).below hb_we | exact (HSB.out.below (grew3 (Below.refl _ _))).below hb_we)
  go_wp2_with fail
  refine (rchain_to h5.out (HSX.out.below HB_we) (fun u hu => Sl.below (HQ.out u hu) HB_we)).mono ?_
  rintro e wf ⟨rfl, hb_wf⟩
  have HB_wf : Below w.heap.size w wf := by first | exact after0 HB_we hb_wf | exact after1 HB_we hb_wf | exact after2 HB_we hb_wf | exact after3 HB_we hb_wf | exact after4 HB_we hb_wf | exact after5 HB_we hb_wf
  try clear q_a_0 q_a_1
  have H_a := Lib.hid (Box.below (by first | exact H_a.out | exact H_a.out.alloc _ | exact (H_a.out.alloc _).alloc _ | exact ((H_a.out.alloc _).alloc _).alloc _) hb_wf)
  obtain ⟨q_a_0, q_a_1⟩ := H_a.out.c2
  try clear q_b_0 q_b_1
  have H_b := Lib.hid (Box.below (by first | exact H_b.out | exact H_b.out.alloc _ | exact (H_b.out.alloc _).alloc _ | exact ((H_b.out.alloc _).alloc _).alloc _) hb_wf)
  obtain ⟨q_b_0, q_b_1⟩ := H_b.out.c2
  replace HSA := Lib.hid (show Sl wf _ _ _ _ _ _ by first | exact HSA.out.below hb_wf | exact (HSA.out.below (grew1 (Below.refl _ _))).below hb_wf | exact (HSA.out.below (grew2 (Below.refl _ _))).below hb_wf | exact (HSA.out.below (grew3 (Below.refl _ _))).below hb_wf)
  replace HSB := Lib.hid (show Sl wf _ _ _ _ _ _ by first | exact HSB.out.below hb_wf | exact (HSB.out.below (grew1 (Below.refl _ _))).below hb_wf | exact (HSB.out.below (grew2 (Below.refl _ _))).below hb_wf | exact (HSB.out.below (grew3 (Below.refl _ _))).below hb_wf)
  go_wp2_with fail
  refine (join_to h6.out (by first | exact HSA.out | exact HSA.out.below (grew1 (Below.refl _ _)) | exact HSA.out.below (grew2 (Below.refl _ _)) | exact HSA.out.below (grew3 (Below.refl _ _))) (by first | exact HSB.out | exact HSB.out.below (grew1 (Below.refl _ _)) | exact HSB.out.below (grew2 (Below.refl _ _)) | exact HSB.out.below (grew3 (Below.refl _ _)))).mono ?_
  rintro e wg ⟨ao5, n5, cap5, rfl, hl, hb_wg⟩
  have HB_wg : Below w.heap.size w wg := by first | exact after0 HB_wf hb_wg | exact after1 HB_wf hb_wg | exact after2 HB_wf hb_wg | exact after3 HB_wf hb_wg | exact after4 HB_wf hb_wg | exact after5 HB_wf hb_wg
  try clear q_a_0 q_a_1
  have H_a := Lib.hid (Box.below (by first | exact H_a.out | exact H_a.out.alloc _ | exact (H_a.out.alloc _).alloc _ | exact ((H_a.out.alloc _).alloc _).alloc _) hb_wg)
  obtain ⟨q_a_0, q_a_1⟩ := H_a.out.c2
  try clear q_b_0 q_b_1
  have H_b := Lib.hid (Box.below (by first | exact H_b.out | exact H_b.out.alloc _ | exact (H_b.out.alloc _).alloc _ | exact ((H_b.out.alloc _).alloc _).alloc _) hb_wg)
  obtain ⟨q_b_0, q_b_1⟩ := H_b.out.c2
  replace HSA := Lib.hid (show Sl wg _ _ _ _ _ _ by first | exact HSA.out.below hb_wg | exact (HSA.out.below (grew1 (Below.refl _ _))).below hb_wg | exact (HSA.out.below (grew2 (Below.refl _ _))).below hb_wg | exact (HSA.out.below (grew3 (Below.refl _ _))).below hb_wg)
  replace HSB := Lib.hid (show Sl wg _ _ _ _ _ _ by first | exact HSB.out.below hb_wg | exact (HSB.out.below (grew1 (Below.refl _ _))).below hb_wg | exact (HSB.out.below (grew2 (Below.refl _ _))).below hb_wg | exact (HSB.out.below (grew3 (Below.refl _ _))).below hb_wg)
  have HSL := Lib.hid hl
  clear hl
  obtain ⟨W3, hW3, hB_W3, hZ_W3, hb_W3⟩ := boxes1 wg [.int .i64 oc, .slice ao5 n5 cap5] 24
  have H_c := Lib.hid hb_W3
  have HB_W3 : Below w.heap.size w W3 := after0 HB_wg hB_W3
  replace H_a := Lib.hid (H_a.out.below hB_W3)
  replace H_b := Lib.hid (H_b.out.below hB_W3)
  try (have H_m2 := Lib.hid (H_m.out.below hB_W3); clear H_m; have H_m := H_m2; clear H_m2)
  try (have H_c2 := Lib.hid (H_c.out.below hB_W3); clear H_c; have H_c := H_c2; clear H_c2)
  replace HSA := Lib.hid (HSA.out.below hB_W3)
  replace HSB := Lib.hid (HSB.out.below hB_W3)
  clear hb_W3 hZ_W3
  replace HSL := Lib.hid (HSL.out.below hB_W3)
  obtain ⟨q_a_0, q_a_1⟩ := H_a.out.c2
  obtain ⟨q_b_0, q_b_1⟩ := H_b.out.c2
  go_wp2_with fail
  refine (rjoin_to h6.out (by first | exact HSA.out | exact HSA.out.below (grew1 (Below.refl _ _)) | exact HSA.out.below (grew2 (Below.refl _ _)) | exact HSA.out.below (grew3 (Below.refl _ _))) (by first | exact HSB.out | exact HSB.out.below (grew1 (Below.refl _ _)) | exact HSB.out.below (grew2 (Below.refl _ _)) | exact HSB.out.below (grew3 (Below.refl _ _)))).mono ?_
  rintro e wh ⟨ao6, n6, cap6, rfl, hl, hb_wh⟩
  have HB_wh : Below w.heap.size w wh := by first | exact after0 HB_W3 hb_wh | exact after1 HB_W3 hb_wh | exact after2 HB_W3 hb_wh | exact after3 HB_W3 hb_wh | exact after4 HB_W3 hb_wh | exact after5 HB_W3 hb_wh
  try clear q_a_0 q_a_1
  have H_a := Lib.hid (Box.below (by first | exact H_a.out | exact H_a.out.alloc _ | exact (H_a.out.alloc _).alloc _ | exact ((H_a.out.alloc _).alloc _).alloc _) hb_wh)
  obtain ⟨q_a_0, q_a_1⟩ := H_a.out.c2
  try clear q_b_0 q_b_1
  have H_b := Lib.hid (Box.below (by first | exact H_b.out | exact H_b.out.alloc _ | exact (H_b.out.alloc _).alloc _ | exact ((H_b.out.alloc _).alloc _).alloc _) hb_wh)
  obtain ⟨q_b_0, q_b_1⟩ := H_b.out.c2
  try clear q_c_0 q_c_1
  have H_c := Lib.hid (Box.below (by first | exact H_c.out | exact H_c.out.alloc _ | exact (H_c.out.alloc _).alloc _ | exact ((H_c.out.alloc _).alloc _).alloc _) hb_wh)
  obtain ⟨q_c_0, q_c_1⟩ := H_c.out.c2
  replace HSA := Lib.hid (show Sl wh _ _ _ _ _ _ by first | exact HSA.out.below hb_wh | exact (HSA.out.below (grew1 (Below.refl _ _))).below hb_wh | exact (HSA.out.below (grew2 (Below.refl _ _))).below hb_wh | exact (HSA.out.below (grew3 (Below.refl _ _))).below hb_wh)
  replace HSB := Lib.hid (show Sl wh _ _ _ _ _ _ by first | exact HSB.out.below hb_wh | exact (HSB.out.below (grew1 (Below.refl _ _))).below hb_wh | exact (HSB.out.below (grew2 (Below.refl _ _))).below hb_wh | exact (HSB.out.below (grew3 (Below.refl _ _))).below hb_wh)
  replace HSL := Lib.hid (show Sl wh _ _ _ _ _ _ by first | exact HSL.out.below hb_wh | exact (HSL.out.below (grew1 (Below.refl _ _))).below hb_wh | exact (HSL.out.below (grew2 (Below.refl _ _))).below hb_wh | exact (HSL.out.below (grew3 (Below.refl _ _))).below hb_wh)
  clear hW3
  have HSC := Lib.hid hl
  clear hl
  obtain ⟨W4, hW4, hB_W4, hZ_W4, hb_W4⟩ := boxes1 wh [.int .i64 oc, .slice ao6 n6 cap6] 24
  have H_d := Lib.hid hb_W4
  have HB_W4 : Below w.heap.size w W4 := after0 HB_wh hB_W4
  replace H_a := Lib.hid (H_a.out.below hB_W4)
  replace H_b := Lib.hid (H_b.out.below hB_W4)
  try (have H_m2 := Lib.hid (H_m.out.below hB_W4); clear H_m; have H_m := H_m2; clear H_m2)
  try (have H_c2 := Lib.hid (H_c.out.below hB_W4); clear H_c; have H_c := H_c2; clear H_c2)
  replace HSA := Lib.hid (HSA.out.below hB_W4)
  replace HSB := Lib.hid (HSB.out.below hB_W4)
  clear hb_W4 hZ_W4
  replace HSL := Lib.hid (HSL.out.below hB_W4)
  replace HSC := Lib.hid (HSC.out.below hB_W4)
  obtain ⟨q_a_0, q_a_1⟩ := H_a.out.c2
  obtain ⟨q_b_0, q_b_1⟩ := H_b.out.c2
  obtain ⟨q_c_0, q_c_1⟩ := H_c.out.c2
  obtain ⟨q_d_0, q_d_1⟩ := H_d.out.c2
  go_wp2_with fail
  clear hW4
  refine (rsame_same (by first | exact HSL.out | exact HSL.out.below (grew1 (Below.refl _ _)) | exact HSL.out.below (grew2 (Below.refl _ _)) | exact HSL.out.below (grew3 (Below.refl _ _))) (by first | exact HSC.out | exact HSC.out.below (grew1 (Below.refl _ _)) | exact HSC.out.below (grew2 (Below.refl _ _)) | exact HSC.out.below (grew3 (Below.refl _ _)))).mono ?_
  rintro e wi ⟨rfl, hb_wi⟩
  have HB_wi : Below w.heap.size w wi := by first | exact after0 HB_W4 hb_wi | exact after1 HB_W4 hb_wi | exact after2 HB_W4 hb_wi | exact after3 HB_W4 hb_wi | exact after4 HB_W4 hb_wi | exact after5 HB_W4 hb_wi
  try clear q_a_0 q_a_1
  have H_a := Lib.hid (Box.below (by first | exact H_a.out | exact H_a.out.alloc _ | exact (H_a.out.alloc _).alloc _ | exact ((H_a.out.alloc _).alloc _).alloc _) hb_wi)
  obtain ⟨q_a_0, q_a_1⟩ := H_a.out.c2
  go_wp2_with fail
  go_ret
  exact ⟨rfl, HB_wi⟩
end Go.Proofs.Ytmnlkndbdcdngaa
