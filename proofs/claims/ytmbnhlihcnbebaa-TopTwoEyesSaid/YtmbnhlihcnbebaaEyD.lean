/-
  Walks of the layer 'eyes': what acts do (the four deeds).
-/
import Derived.Test.YtmbnhlihcnbebaaEyC
import Derived.Test.YtmbnhlihcnbebaaCls
import Derived.Test.YtmbnhlihcnbebaaRow
set_option linter.unusedVariables false
namespace Go.Proofs.Ytmbnhlihcnbebaa
open Go Go.RowKit Ey Sk
theorem size_danger : (Try.prog.info? 33).map (·.size) = some 12 := by kernel_rfl
theorem below_set {B : Nat} {w W : World} {b : Nat} (h : Below B w W) (hb : B ≤ b) (o : Nat) (v : Value) : Below B w (W.setCell ⟨b, o, none⟩ v) := h.setCell (p := ⟨b, o, none⟩) hb v
abbrev eR (p : Dg × Bool × Int) : Value := .tuple #[.agg #[.int .i64 p.1.id, .bool p.1.told, .int .i64 p.1.area.a, .int .i64 p.1.area.b, .int .i64 p.1.area.c, .int .i64 p.1.area.d, .int .i64 p.1.prop, .bool p.1.drop, .int .i64 p.1.next.a, .int .i64 p.1.next.b, .int .i64 p.1.next.c, .int .i64 p.1.next.d], .bool p.2.1, .int .i64 p.2.2]
def DD (N : Nat) (d : Dg) (W : World) : Prop := Box W N 33 (cD d)
def AA (N : Nat) (a : Ac) (W : World) : Prop := Box W N 37 (cA a)

set_option maxRecDepth 100000 in
set_option maxHeartbeats 8000000 in
theorem deeds2_any (d : Dg) (a : Ac) (w : World) (hk : a.kind = 2) : Calls Try.prog 83 #[eD d, eA a] w (Ret w (eR (eff d a))) := by
  have HE := Lib.hid (show eff d a = (if d.told = false then (d, true, 4) else if d.prop ≠ 0 then (d, true, 6) else (⟨d.id, d.told, d.area, a.person, true, d.next⟩, true, 0)) by unfold eff; rw [if_neg (by omega), if_pos hk])
  generalize eff d a = p at *
  obtain ⟨d0, told, ⟨d2, d3, d4, d5⟩, d6, drop, ⟨d8, d9, d10, d11⟩⟩ := d
  obtain ⟨a0, a1, a2, a3, ⟨a4, a5, a6, a7⟩⟩ := a
  dsimp only at hk
  subst hk
  dsimp only [eA, eD, eR] at *
  have HB_w : Below w.heap.size w w := Below.refl _ _
  go_enter Try.func83, Try.ntmps83
  cases told
  · have HP := Lib.hid (HE.out.trans (if_pos rfl))
    clear HE
    go_wp2_with fail
    refine bodyPost_ret (v := .tuple #[.agg #[.int .i64 d0, .bool false, .int .i64 d2, .int .i64 d3, .int .i64 d4, .int .i64 d5, .int .i64 d6, .bool drop, .int .i64 d8, .int .i64 d9, .int .i64 d10, .int .i64 d11], .bool true, .int .i64 4]) (by simp [results, Try.results83, go_sem]) rfl ?_
    refine ⟨by rw [HP.out], ?_⟩
    first | exact grew3 HB_w | exact (grew3 HB_w).drew | trace_state
  by_cases hp : d6 = 0
  · have HP := Lib.hid (show p = (⟨d0, true, ⟨d2, d3, d4, d5⟩, a2, true, ⟨d8, d9, d10, d11⟩⟩, true, 0) by rw [HE.out]; simp [hp])
    subst hp
    clear HE
    go_wp2_with fail
    refine bodyPost_ret (v := .tuple #[.agg #[.int .i64 d0, .bool true, .int .i64 d2, .int .i64 d3, .int .i64 d4, .int .i64 d5, .int .i64 a2, .bool true, .int .i64 d8, .int .i64 d9, .int .i64 d10, .int .i64 d11], .bool true, .int .i64 0]) (by simp [results, Try.results83, go_sem]) rfl ?_
    refine ⟨by rw [HP.out], ?_⟩
    first | exact grew3 HB_w | exact (grew3 HB_w).drew | trace_state
  · have HP := Lib.hid (show p = (⟨d0, true, ⟨d2, d3, d4, d5⟩, d6, drop, ⟨d8, d9, d10, d11⟩⟩, true, 6) by rw [HE.out]; simp [hp])
    have hp2 : (d6 != 0) = true := bne_iff_ne.2 hp
    clear hp HE
    go_wp2_with fail
    refine bodyPost_ret (v := .tuple #[.agg #[.int .i64 d0, .bool true, .int .i64 d2, .int .i64 d3, .int .i64 d4, .int .i64 d5, .int .i64 d6, .bool drop, .int .i64 d8, .int .i64 d9, .int .i64 d10, .int .i64 d11], .bool true, .int .i64 6]) (by simp [results, Try.results83, go_sem]) rfl ?_
    refine ⟨by rw [HP.out], ?_⟩
    first | exact grew3 HB_w | exact (grew3 HB_w).drew | trace_state

set_option maxRecDepth 100000 in
set_option maxHeartbeats 8000000 in
theorem deeds4_any (d : Dg) (a : Ac) (w : World) (hk : a.kind = 4) : Calls Try.prog 85 #[eD d, eA a] w (Ret w (eR (eff d a))) := by
  have HE := Lib.hid (show eff d a = (if d.prop = 0 then (d, true, 4) else (⟨d.id, d.told, d.area, 0, false, bx0⟩, d.told, 0)) by unfold eff; rw [if_neg (by omega), if_neg (by omega), if_neg (by omega)])
  generalize eff d a = p at *
  obtain ⟨d0, told, ⟨d2, d3, d4, d5⟩, d6, drop, ⟨d8, d9, d10, d11⟩⟩ := d
  obtain ⟨a0, a1, a2, a3, ⟨a4, a5, a6, a7⟩⟩ := a
  dsimp only at hk
  subst hk
  dsimp only [eA, eD, eR] at *
  have HB_w : Below w.heap.size w w := Below.refl _ _
  by_cases hp : d6 = 0
  · have HP := Lib.hid (HE.out.trans (if_pos hp))
    subst hp
    go_enter Try.func85, Try.ntmps85
    go_wp2_with fail
    refine bodyPost_ret (v := .tuple #[.agg #[.int .i64 d0, .bool told, .int .i64 d2, .int .i64 d3, .int .i64 d4, .int .i64 d5, .int .i64 0, .bool drop, .int .i64 d8, .int .i64 d9, .int .i64 d10, .int .i64 d11], .bool true, .int .i64 4]) (by simp [results, Try.results85, go_sem]) rfl ?_
    refine ⟨by rw [HP.out], ?_⟩
    first | exact grew3 HB_w | exact (grew3 HB_w).drew | trace_state
  · have HP := Lib.hid (HE.out.trans (if_neg hp))
    have hp2 : (d6 == 0) = false := beq_eq_false_iff_ne.2 hp
    clear hp HE
    obtain ⟨_, rfl, HB_0, -, hn, hm, hr⟩ := boxes3 w [.int .i64 d0, .bool told, .int .i64 d2, .int .i64 d3, .int .i64 d4, .int .i64 d5, .int .i64 d6, .bool drop, .int .i64 d8, .int .i64 d9, .int .i64 d10, .int .i64 d11] [.int .i64 (4), .int .i64 a1, .int .i64 a2, .int .i64 a3, .int .i64 a4, .int .i64 a5, .int .i64 a6, .int .i64 a7] [.int .i64 0, .bool false, .int .i64 0, .int .i64 0, .int .i64 0, .int .i64 0, .int .i64 0, .bool false, .int .i64 0, .int .i64 0, .int .i64 0, .int .i64 0] 33 37 33
    have HND := Lib.hid (show DD w.heap.size ⟨d0, told, ⟨d2, d3, d4, d5⟩, d6, drop, ⟨d8, d9, d10, d11⟩⟩ _ from hn.drew)
    have HRR := Lib.hid hr.drew
    have HMM := Lib.hid (show AA (w.heap.size + 1) ⟨4, a1, a2, a3, ⟨a4, a5, a6, a7⟩⟩ _ from hm.drew)
    have HB_D := Lib.hid HB_0.drew
    clear hn hm hr HB_0
    go_enter Try.func85, Try.ntmps85
    go_wp2_with fail
    have y_n : Nonempty (Wc (DD w.heap.size ⟨d0, told, ⟨d2, d3, d4, d5⟩, d6, drop, ⟨d8, d9, d10, d11⟩⟩)) := ⟨⟨_, HND.out⟩⟩
    have y_0 := fun p : Wc (DD w.heap.size ⟨d0, told, ⟨d2, d3, d4, d5⟩, d6, drop, ⟨d8, d9, d10, d11⟩⟩) => (Box.c12 p.h).1
    have y_1 := fun p : Wc (DD w.heap.size ⟨d0, told, ⟨d2, d3, d4, d5⟩, d6, drop, ⟨d8, d9, d10, d11⟩⟩) => (Box.c12 p.h).2.1
    have y_2 := fun p : Wc (DD w.heap.size ⟨d0, told, ⟨d2, d3, d4, d5⟩, d6, drop, ⟨d8, d9, d10, d11⟩⟩) => (Box.c12 p.h).2.2.1
    have y_3 := fun p : Wc (DD w.heap.size ⟨d0, told, ⟨d2, d3, d4, d5⟩, d6, drop, ⟨d8, d9, d10, d11⟩⟩) => (Box.c12 p.h).2.2.2.1
    have y_4 := fun p : Wc (DD w.heap.size ⟨d0, told, ⟨d2, d3, d4, d5⟩, d6, drop, ⟨d8, d9, d10, d11⟩⟩) => (Box.c12 p.h).2.2.2.2.1
    have y_5 := fun p : Wc (DD w.heap.size ⟨d0, told, ⟨d2, d3, d4, d5⟩, d6, drop, ⟨d8, d9, d10, d11⟩⟩) => (Box.c12 p.h).2.2.2.2.2.1
    have y_6 := fun p : Wc (DD w.heap.size ⟨d0, told, ⟨d2, d3, d4, d5⟩, d6, drop, ⟨d8, d9, d10, d11⟩⟩) => (Box.c12 p.h).2.2.2.2.2.2.1
    have y_7 := fun p : Wc (DD w.heap.size ⟨d0, told, ⟨d2, d3, d4, d5⟩, d6, drop, ⟨d8, d9, d10, d11⟩⟩) => (Box.c12 p.h).2.2.2.2.2.2.2.1
    have y_8 := fun p : Wc (DD w.heap.size ⟨d0, told, ⟨d2, d3, d4, d5⟩, d6, drop, ⟨d8, d9, d10, d11⟩⟩) => (Box.c12 p.h).2.2.2.2.2.2.2.2.1
    have y_9 := fun p : Wc (DD w.heap.size ⟨d0, told, ⟨d2, d3, d4, d5⟩, d6, drop, ⟨d8, d9, d10, d11⟩⟩) => (Box.c12 p.h).2.2.2.2.2.2.2.2.2.1
    have y_10 := fun p : Wc (DD w.heap.size ⟨d0, told, ⟨d2, d3, d4, d5⟩, d6, drop, ⟨d8, d9, d10, d11⟩⟩) => (Box.c12 p.h).2.2.2.2.2.2.2.2.2.2.1
    have y_11 := fun p : Wc (DD w.heap.size ⟨d0, told, ⟨d2, d3, d4, d5⟩, d6, drop, ⟨d8, d9, d10, d11⟩⟩) => (Box.c12 p.h).2.2.2.2.2.2.2.2.2.2.2
    refine wp_region_plan (C := fun w' => ∃ p : Wc (fun W => DD w.heap.size ⟨d0, told, ⟨d2, d3, d4, d5⟩, d6, drop, ⟨d8, d9, d10, d11⟩⟩ W), w' = p.w) (.q 0 (.q 1 (.q 2 (.q 3 (.q 4 (.q 5 (.q 6 (.q 7 (.q 8 (.e 9 (.q 10 (.q 11 (.done))))))))))))) 12 (by kernel_rfl) (by kernel_rfl) ⟨⟨_, ?_⟩, rfl⟩ ?_
    · exact HND.out
    repeat (any_goals (first | (go_big_quiet_skip; refine wpQuiet_nil ?_) | (go_big_quiet_want; go_big_quiet_op; go_big_quiet_on; refine wpQuiet_nil ?_) | ((with_reducible apply q_split); exact rfl; intro q hq; cases q <;> (rw [hq]; (try first | replace hq := bnot_t hq | replace hq := bnot_f hq); (try first | replace hq := of_decide_eq_true hq | replace hq := of_decide_eq_false hq | replace hq := eq_of_beq hq); (try first | replace hq := Int.not_lt.1 hq | replace hq := Int.not_le.1 hq | replace hq := Nat.not_lt.1 hq | replace hq := Nat.not_le.1 hq); try (exfalso; omega))) | (refine plan_q rfl rfl ?_)))
    refine plan_e rfl ?_
    refine wpList_store_box rfl 33 _ _ rfl (w.heap.size + 1 + 1) 33 _ [.int .i64 d0, .bool told, .int .i64 d2, .int .i64 d3, .int .i64 d4, .int .i64 d5, .int .i64 0, .bool false, .int .i64 0, .int .i64 0, .int .i64 0, .int .i64 0] rfl rfl HRR.out size_danger rfl rfl ?_
    intro W5 hb5 hl5 ho5 hz5
    have HND5 := ho5 _ _ _ (by omega) HND.out
    have HB_5 : Below w.heap.size w W5 := HB_D.out.trans (hl5 _ (by omega))
    clear hl5 ho5 hz5 HND HRR
    go_wp2_with fail
    refine MixPost.intro ⟨⟨W5, HND5⟩, rfl⟩ ?_
    repeat (any_goals (first | (go_big_quiet_skip; refine wpQuiet_nil ?_) | (go_big_quiet_want; go_big_quiet_op; go_big_quiet_on; refine wpQuiet_nil ?_) | ((with_reducible apply q_split); exact rfl; intro q hq; cases q <;> (rw [hq]; (try first | replace hq := bnot_t hq | replace hq := bnot_f hq); (try first | replace hq := of_decide_eq_true hq | replace hq := of_decide_eq_false hq | replace hq := eq_of_beq hq); (try first | replace hq := Int.not_lt.1 hq | replace hq := Int.not_le.1 hq | replace hq := Nat.not_lt.1 hq | replace hq := Nat.not_le.1 hq); try (exfalso; omega))) | (refine plan_q rfl rfl ?_)))
    refine plan_done ?_
    try simp only [List.drop_succ_cons, List.drop_zero]
    try go_wp2_with fail
    refine NoPanic.normal ?_
    try go_wp2_with fail
    obtain ⟨s0, s1, s2, s3, s4, s5, s6, s7, s8, s9, s10, s11⟩ := hb5.c12
    refine bodyPost_ret (v := .tuple #[.agg #[.int .i64 d0, .bool told, .int .i64 d2, .int .i64 d3, .int .i64 d4, .int .i64 d5, .int .i64 0, .bool false, .int .i64 0, .int .i64 0, .int .i64 0, .int .i64 0], .bool told, .int .i64 0]) (by simp [results, Try.results85, go_sem, s0, s1, s2, s3, s4, s5, s6, s7, s8, s9, s10, s11]) rfl ?_
    exact ⟨by rw [HP.out]; rfl, HB_5⟩

set_option maxRecDepth 100000 in
set_option maxHeartbeats 8000000 in
theorem deeds3_any (d : Dg) (a : Ac) (w : World) (hk : a.kind = 3) : Calls Try.prog 84 #[eD d, eA a] w (Ret w (eR (eff d a))) := by
  have HE := Lib.hid (show eff d a = (if d.prop = 0 then (d, true, 4) else if d.prop = a.person then (d, true, 21) else (⟨d.id, true, d.next, 0, false, bx0⟩, !d.drop, 0)) by unfold eff; rw [if_neg (by omega), if_neg (by omega), if_pos hk])
  generalize eff d a = p at *
  obtain ⟨d0, told, ⟨d2, d3, d4, d5⟩, d6, drop, ⟨d8, d9, d10, d11⟩⟩ := d
  obtain ⟨a0, a1, a2, a3, ⟨a4, a5, a6, a7⟩⟩ := a
  dsimp only at hk
  subst hk
  dsimp only [eA, eD, eR] at *
  have HB_w : Below w.heap.size w w := Below.refl _ _
  by_cases hp : d6 = 0
  · have HP := Lib.hid (HE.out.trans (if_pos hp))
    subst hp
    go_enter Try.func84, Try.ntmps84
    go_wp2_with fail
    refine bodyPost_ret (v := .tuple #[.agg #[.int .i64 d0, .bool told, .int .i64 d2, .int .i64 d3, .int .i64 d4, .int .i64 d5, .int .i64 0, .bool drop, .int .i64 d8, .int .i64 d9, .int .i64 d10, .int .i64 d11], .bool true, .int .i64 4]) (by simp [results, Try.results84, go_sem]) rfl ?_
    refine ⟨by rw [HP.out], ?_⟩
    first | exact grew3 HB_w | exact (grew3 HB_w).drew | trace_state
  have hp2 : (d6 == 0) = false := beq_eq_false_iff_ne.2 hp
  by_cases hr : d6 = a2
  · have HP := Lib.hid (HE.out.trans ((if_neg hp).trans (if_pos hr)))
    subst hr
    clear hp
    go_enter Try.func84, Try.ntmps84
    go_wp2_with fail
    refine bodyPost_ret (v := .tuple #[.agg #[.int .i64 d0, .bool told, .int .i64 d2, .int .i64 d3, .int .i64 d4, .int .i64 d5, .int .i64 d6, .bool drop, .int .i64 d8, .int .i64 d9, .int .i64 d10, .int .i64 d11], .bool true, .int .i64 21]) (by simp [results, Try.results84, go_sem]) rfl ?_
    refine ⟨by rw [HP.out], ?_⟩
    first | exact grew3 HB_w | exact (grew3 HB_w).drew | trace_state
  · have HP := Lib.hid (HE.out.trans ((if_neg hp).trans (if_neg hr)))
    have hr2 : (d6 == a2) = false := beq_eq_false_iff_ne.2 hr
    clear hp hr HE
    obtain ⟨_, rfl, HB_0, -, hn, hm, hr⟩ := boxes3 w [.int .i64 d0, .bool told, .int .i64 d2, .int .i64 d3, .int .i64 d4, .int .i64 d5, .int .i64 d6, .bool drop, .int .i64 d8, .int .i64 d9, .int .i64 d10, .int .i64 d11] [.int .i64 (3), .int .i64 a1, .int .i64 a2, .int .i64 a3, .int .i64 a4, .int .i64 a5, .int .i64 a6, .int .i64 a7] [.int .i64 0, .bool false, .int .i64 0, .int .i64 0, .int .i64 0, .int .i64 0, .int .i64 0, .bool false, .int .i64 0, .int .i64 0, .int .i64 0, .int .i64 0] 33 37 33
    have HND := Lib.hid (show DD w.heap.size ⟨d0, told, ⟨d2, d3, d4, d5⟩, d6, drop, ⟨d8, d9, d10, d11⟩⟩ _ from hn.drew)
    have HRR := Lib.hid hr.drew
    have HMM := Lib.hid (show AA (w.heap.size + 1) ⟨3, a1, a2, a3, ⟨a4, a5, a6, a7⟩⟩ _ from hm.drew)
    have HB_D := Lib.hid HB_0.drew
    clear hn hm hr HB_0
    go_enter Try.func84, Try.ntmps84
    go_wp2_with fail
    have y_n : Nonempty (Wc (DD w.heap.size ⟨d0, told, ⟨d2, d3, d4, d5⟩, d6, drop, ⟨d8, d9, d10, d11⟩⟩)) := ⟨⟨_, HND.out⟩⟩
    have y_0 := fun p : Wc (DD w.heap.size ⟨d0, told, ⟨d2, d3, d4, d5⟩, d6, drop, ⟨d8, d9, d10, d11⟩⟩) => (Box.c12 p.h).1
    have y_1 := fun p : Wc (DD w.heap.size ⟨d0, told, ⟨d2, d3, d4, d5⟩, d6, drop, ⟨d8, d9, d10, d11⟩⟩) => (Box.c12 p.h).2.1
    have y_2 := fun p : Wc (DD w.heap.size ⟨d0, told, ⟨d2, d3, d4, d5⟩, d6, drop, ⟨d8, d9, d10, d11⟩⟩) => (Box.c12 p.h).2.2.1
    have y_3 := fun p : Wc (DD w.heap.size ⟨d0, told, ⟨d2, d3, d4, d5⟩, d6, drop, ⟨d8, d9, d10, d11⟩⟩) => (Box.c12 p.h).2.2.2.1
    have y_4 := fun p : Wc (DD w.heap.size ⟨d0, told, ⟨d2, d3, d4, d5⟩, d6, drop, ⟨d8, d9, d10, d11⟩⟩) => (Box.c12 p.h).2.2.2.2.1
    have y_5 := fun p : Wc (DD w.heap.size ⟨d0, told, ⟨d2, d3, d4, d5⟩, d6, drop, ⟨d8, d9, d10, d11⟩⟩) => (Box.c12 p.h).2.2.2.2.2.1
    have y_6 := fun p : Wc (DD w.heap.size ⟨d0, told, ⟨d2, d3, d4, d5⟩, d6, drop, ⟨d8, d9, d10, d11⟩⟩) => (Box.c12 p.h).2.2.2.2.2.2.1
    have y_7 := fun p : Wc (DD w.heap.size ⟨d0, told, ⟨d2, d3, d4, d5⟩, d6, drop, ⟨d8, d9, d10, d11⟩⟩) => (Box.c12 p.h).2.2.2.2.2.2.2.1
    have y_8 := fun p : Wc (DD w.heap.size ⟨d0, told, ⟨d2, d3, d4, d5⟩, d6, drop, ⟨d8, d9, d10, d11⟩⟩) => (Box.c12 p.h).2.2.2.2.2.2.2.2.1
    have y_9 := fun p : Wc (DD w.heap.size ⟨d0, told, ⟨d2, d3, d4, d5⟩, d6, drop, ⟨d8, d9, d10, d11⟩⟩) => (Box.c12 p.h).2.2.2.2.2.2.2.2.2.1
    have y_10 := fun p : Wc (DD w.heap.size ⟨d0, told, ⟨d2, d3, d4, d5⟩, d6, drop, ⟨d8, d9, d10, d11⟩⟩) => (Box.c12 p.h).2.2.2.2.2.2.2.2.2.2.1
    have y_11 := fun p : Wc (DD w.heap.size ⟨d0, told, ⟨d2, d3, d4, d5⟩, d6, drop, ⟨d8, d9, d10, d11⟩⟩) => (Box.c12 p.h).2.2.2.2.2.2.2.2.2.2.2
    refine wp_region_plan (C := fun w' => ∃ p : Wc (fun W => DD w.heap.size ⟨d0, told, ⟨d2, d3, d4, d5⟩, d6, drop, ⟨d8, d9, d10, d11⟩⟩ W), w' = p.w) (.q 0 (.q 1 (.q 2 (.q 3 (.q 4 (.q 5 (.q 6 (.q 7 (.e 8 (.q 9 (.q 10 (.done)))))))))))) 11 (by kernel_rfl) (by kernel_rfl) ⟨⟨_, ?_⟩, rfl⟩ ?_
    · exact HND.out
    repeat (any_goals (first | (go_big_quiet_skip; refine wpQuiet_nil ?_) | (go_big_quiet_want; go_big_quiet_op; go_big_quiet_on; refine wpQuiet_nil ?_) | ((with_reducible apply q_split); exact rfl; intro q hq; cases q <;> (rw [hq]; (try first | replace hq := bnot_t hq | replace hq := bnot_f hq); (try first | replace hq := of_decide_eq_true hq | replace hq := of_decide_eq_false hq | replace hq := eq_of_beq hq); (try first | replace hq := Int.not_lt.1 hq | replace hq := Int.not_le.1 hq | replace hq := Nat.not_lt.1 hq | replace hq := Nat.not_le.1 hq); try (exfalso; omega))) | (refine plan_q rfl rfl ?_)))
    refine plan_e rfl ?_
    refine wpList_store_box rfl 33 _ _ rfl (w.heap.size + 1 + 1) 33 _ [.int .i64 d0, .bool true, .int .i64 d8, .int .i64 d9, .int .i64 d10, .int .i64 d11, .int .i64 0, .bool false, .int .i64 0, .int .i64 0, .int .i64 0, .int .i64 0] rfl rfl HRR.out size_danger rfl rfl ?_
    intro W5 hb5 hl5 ho5 hz5
    have HND5 := ho5 _ _ _ (by omega) HND.out
    have HB_5 : Below w.heap.size w W5 := HB_D.out.trans (hl5 _ (by omega))
    clear hl5 ho5 hz5 HND HRR
    go_wp2_with fail
    refine MixPost.intro ⟨⟨W5, HND5⟩, rfl⟩ ?_
    repeat (any_goals (first | (go_big_quiet_skip; refine wpQuiet_nil ?_) | (go_big_quiet_want; go_big_quiet_op; go_big_quiet_on; refine wpQuiet_nil ?_) | ((with_reducible apply q_split); exact rfl; intro q hq; cases q <;> (rw [hq]; (try first | replace hq := bnot_t hq | replace hq := bnot_f hq); (try first | replace hq := of_decide_eq_true hq | replace hq := of_decide_eq_false hq | replace hq := eq_of_beq hq); (try first | replace hq := Int.not_lt.1 hq | replace hq := Int.not_le.1 hq | replace hq := Nat.not_lt.1 hq | replace hq := Nat.not_le.1 hq); try (exfalso; omega))) | (refine plan_q rfl rfl ?_)))
    refine plan_done ?_
    try simp only [List.drop_succ_cons, List.drop_zero]
    try go_wp2_with fail
    refine NoPanic.normal ?_
    try go_wp2_with fail
    obtain ⟨s0, s1, s2, s3, s4, s5, s6, s7, s8, s9, s10, s11⟩ := hb5.c12
    refine bodyPost_ret (v := .tuple #[.agg #[.int .i64 d0, .bool true, .int .i64 d8, .int .i64 d9, .int .i64 d10, .int .i64 d11, .int .i64 0, .bool false, .int .i64 0, .int .i64 0, .int .i64 0, .int .i64 0], .bool (!drop), .int .i64 0]) (by simp [results, Try.results84, go_sem, s0, s1, s2, s3, s4, s5, s6, s7, s8, s9, s10, s11]) rfl ?_
    exact ⟨by rw [HP.out]; rfl, HB_5⟩
end Go.Proofs.Ytmbnhlihcnbebaa
