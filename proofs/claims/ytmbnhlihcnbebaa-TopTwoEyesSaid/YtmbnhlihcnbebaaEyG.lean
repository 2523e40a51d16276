/-
  Walks of the layer 'eyes': act.
-/
import Derived.Test.YtmbnhlihcnbebaaEyF
set_option linter.unusedVariables false
namespace Go.Proofs.Ytmbnhlihcnbebaa
open Go Go.RowKit Ey Sk
theorem grown_below {w w' : World} {row : Option Nat} (h : Below w.heap.size w w') : w.grownBy w' row := ⟨h.os, h.tape, h.output, h.size, fun i hi _ => h.block i hi⟩
theorem act_err {L : List Dg} {a : Ac} {d : Dg} {s : Bool} {q : Int} (h : eff (gt L a.danger) a = (d, s, q)) (hq : q ≠ 0) : actS L a = (L, q) := by unfold actS; rw [h, if_pos hq]
theorem act_put {L : List Dg} {a : Ac} {d : Dg} (h : eff (gt L a.danger) a = (d, true, 0)) : actS L a = (pt L d, 0) ∧ d.id = a.danger := ⟨by unfold actS; rw [h, if_neg (by simp), if_pos rfl], by have := eff_id (L := L) (a := a) (by rw [h]); rwa [h] at this⟩
theorem act_del {L : List Dg} {a : Ac} {d : Dg} (h : eff (gt L a.danger) a = (d, false, 0)) : actS L a = (dl L a.danger, 0) := by unfold actS; rw [h, if_neg (by simp), if_neg (by simp)]
theorem valid_act {a : Ac} (h : validA a = true) : I64 a.danger ∧ (a.kind = 1 ∨ a.kind = 2 ∨ a.kind = 3 ∨ a.kind = 4) := by
  unfold validA at h
  simp only [Bool.and_eq_true] at h
  refine ⟨I64.num h.1.1.1, ?_⟩
  have h4 := h.2
  split at h4
  · omega
  · split at h4
    · omega
    · cases h4
theorem deed_of {a : Ac} (h : validA a = true) : ∃ fk, (a.kind, fk) ∈ [((1 : Int), 82), (2, 83), (3, 84), (4, 85)] ∧ (∀ d W, Calls Try.prog fk #[eD d, eA a] W (Ret W (eR (eff d a)))) ∧ (∀ args w, (callFunc fk args).run Try.prog w = .ok (.enter fk args) w) := by
  rcases (valid_act h).2 with h | h | h | h
  · exact ⟨82, by simp [h], fun d W => deeds1_any d a W h, fun args w => by kernel_rfl⟩
  · exact ⟨83, by simp [h], fun d W => deeds2_any d a W h, fun args w => by kernel_rfl⟩
  · exact ⟨84, by simp [h], fun d W => deeds3_any d a W h, fun args w => by kernel_rfl⟩
  · exact ⟨85, by simp [h], fun d W => deeds4_any d a W h, fun args w => by kernel_rfl⟩

theorem Deeds.below {W W' : World} {g : Nat} (h : Deeds W g) (hb : Below W.heap.size W W') : Deeds W' g := fun W2 h2 => h W2 (hb.trans (h2.mono hb.size))

set_option maxRecDepth 100000 in
set_option maxHeartbeats 8000000 in
theorem act_any (b n : Nat) (L : List Dg) (a : Ac) (w : World) (hst : StOf w b n L) (hn : n ≤ 100000) (hv : validA a = true) :
    Calls Try.prog 37 #[.map (some b), eA a] w (fun e w' => e = .returned (.int .i64 (actS L a).2) ∧ StOf w' b (n + 1) (actS L a).1 ∧ w.grownBy w' (some b)) := by
  obtain ⟨fk, hfk, hdo, heg⟩ := deed_of hv
  have hx := (valid_act hv).1
  obtain ⟨p, hp⟩ : ∃ p, eff (gt L a.danger) a = p := ⟨_, rfl⟩
  obtain ⟨⟨p0, p1, ⟨p2, p3, p4, p5⟩, p6, p7, ⟨p8, p9, p10, p11⟩⟩, stay, q⟩ := p
  have HDO := Lib.hid (show ∀ W, Calls Try.prog fk #[eD (gt L a.danger), eA a] W (Ret W (eR (⟨p0, p1, ⟨p2, p3, p4, p5⟩, p6, p7, ⟨p8, p9, p10, p11⟩⟩, stay, q))) from fun W => by have := hdo (gt L a.danger) W; rwa [hp] at this)
  have HERR := Lib.hid (act_err hp)
  have HPUT := Lib.hid (fun (h1 : stay = true) (h2 : q = 0) => act_put (L := L) (a := a) (d := ⟨p0, p1, ⟨p2, p3, p4, p5⟩, p6, p7, ⟨p8, p9, p10, p11⟩⟩) (by rw [hp, h1, h2]))
  have HDEL := Lib.hid (fun (h1 : stay = false) (h2 : q = 0) => act_del (L := L) (a := a) (d := ⟨p0, p1, ⟨p2, p3, p4, p5⟩, p6, p7, ⟨p8, p9, p10, p11⟩⟩) (by rw [hp, h1, h2]))
  have HFK := Lib.hid hfk
  have HEG := Lib.hid heg
  have HX := Lib.hid hx
  clear hdo hp hv hfk
  generalize actS L a = act at *
  generalize hd : gt L a.danger = d at *
  have HD := Lib.hid hd
  have hff : ∀ W, (Instr.field 103 (.agg #[.func (.func fk) #[] #[]]) 0).run Try.prog W = .ok (.func (.func fk) #[] #[]) W := fun W => by kernel_rfl
  have HB_w : Below w.heap.size w w := Below.refl _ _
  obtain ⟨a0, a1, a2, a3, ⟨a4, a5, a6, a7⟩⟩ := a
  dsimp only at HD HPUT HDEL HFK HX hx hd
  obtain ⟨W0, hW0, HB_W0, hZ, hn0⟩ := boxes1 w [.int .i64 a0, .int .i64 a1, .int .i64 a2, .int .i64 a3, .int .i64 a4, .int .i64 a5, .int .i64 a6, .int .i64 a7] 37
  have HAA := Lib.hid (show AA w.heap.size ⟨a0, a1, a2, a3, ⟨a4, a5, a6, a7⟩⟩ W0 from hn0)
  have HST := Lib.hid (hst.below HB_W0)
  have hblt := hst.lt
  have hlk := fun p : Wc (fun W => AA w.heap.size ⟨a0, a1, a2, a3, ⟨a4, a5, a6, a7⟩⟩ W ∧ StOf W b n L) => hd ▸ p.h.2.look hx
  clear hst hn0 hd hx
  have y_n : Nonempty (Wc (fun W => AA w.heap.size ⟨a0, a1, a2, a3, ⟨a4, a5, a6, a7⟩⟩ W ∧ StOf W b n L)) := ⟨⟨W0, HAA.out, HST.out⟩⟩
  have HYL := Lib.hid hlk
  have HYN := Lib.hid y_n
  clear hlk y_n
  go_enter Try.func37, Try.ntmps37
  go_wp2_with fail
  clear hW0
  have hlk := HYL.out
  have y_n := HYN.out
  have y_0 := fun p : Wc (fun W => AA w.heap.size ⟨a0, a1, a2, a3, ⟨a4, a5, a6, a7⟩⟩ W ∧ StOf W b n L) => (Box.c8 p.h.1).1
  have y_1 := fun p : Wc (fun W => AA w.heap.size ⟨a0, a1, a2, a3, ⟨a4, a5, a6, a7⟩⟩ W ∧ StOf W b n L) => (Box.c8 p.h.1).2.1
  have y_2 := fun p : Wc (fun W => AA w.heap.size ⟨a0, a1, a2, a3, ⟨a4, a5, a6, a7⟩⟩ W ∧ StOf W b n L) => (Box.c8 p.h.1).2.2.1
  have y_3 := fun p : Wc (fun W => AA w.heap.size ⟨a0, a1, a2, a3, ⟨a4, a5, a6, a7⟩⟩ W ∧ StOf W b n L) => (Box.c8 p.h.1).2.2.2.1
  have y_4 := fun p : Wc (fun W => AA w.heap.size ⟨a0, a1, a2, a3, ⟨a4, a5, a6, a7⟩⟩ W ∧ StOf W b n L) => (Box.c8 p.h.1).2.2.2.2.1
  have y_5 := fun p : Wc (fun W => AA w.heap.size ⟨a0, a1, a2, a3, ⟨a4, a5, a6, a7⟩⟩ W ∧ StOf W b n L) => (Box.c8 p.h.1).2.2.2.2.2.1
  have y_6 := fun p : Wc (fun W => AA w.heap.size ⟨a0, a1, a2, a3, ⟨a4, a5, a6, a7⟩⟩ W ∧ StOf W b n L) => (Box.c8 p.h.1).2.2.2.2.2.2.1
  have y_7 := fun p : Wc (fun W => AA w.heap.size ⟨a0, a1, a2, a3, ⟨a4, a5, a6, a7⟩⟩ W ∧ StOf W b n L) => (Box.c8 p.h.1).2.2.2.2.2.2.2
  refine wp_region_plan (C := fun w' => ∃ p : Wc (fun W => AA w.heap.size ⟨a0, a1, a2, a3, ⟨a4, a5, a6, a7⟩⟩ W ∧ StOf W b n L), w' = p.w) (.q 1 (.q 2 (.q 5 (.q 6 (.q 7 (.q 8 (.q 9 (.two 0 (.two 3 (.q 4 (.two 10 (.q 11 (.q 12 (.q 13 (.q 14 (.e 15 (.e 16 (.q 17 (.q 18 (.done))))))))) 15 (.e 10 (.q 11 (.q 12 (.q 13 (.q 14 (.e 16 (.q 17 (.q 18 (.done))))))))))) 15 (.e 3 (.q 4 (.e 10 (.q 11 (.q 12 (.q 13 (.q 14 (.e 16 (.q 17 (.q 18 (.done)))))))))))) 15 (.e 0 (.e 3 (.q 4 (.e 10 (.q 11 (.q 12 (.q 13 (.q 14 (.e 16 (.q 17 (.q 18 (.done)))))))))))))))))))) 19 (by kernel_rfl) (by kernel_rfl) ⟨⟨_, ?_⟩, rfl⟩ ?_
  · exact ⟨HAA.out.drew, HST.out.drew⟩
  repeat (any_goals (first | (go_big_quiet_skip; refine wpQuiet_nil ?_) | (go_big_quiet_want; go_big_quiet_op; go_big_quiet_on; refine wpQuiet_nil ?_) | ((with_reducible apply q_split); exact rfl; intro q hq; cases q <;> (rw [hq]; (try first | replace hq := bnot_t hq | replace hq := bnot_f hq); (try first | replace hq := of_decide_eq_true hq | replace hq := of_decide_eq_false hq | replace hq := eq_of_beq hq); (try first | replace hq := Int.not_lt.1 hq | replace hq := Int.not_le.1 hq | replace hq := Nat.not_lt.1 hq | replace hq := Nat.not_le.1 hq); try (exfalso; omega))) | (refine plan_q rfl rfl ?_)))
  obtain ⟨V, hV⟩ : ∃ V, W0.drew = V := ⟨_, rfl⟩
  have HB_V : Below w.heap.size w V := hV ▸ HB_W0.drew
  have HA_V := Lib.hid (show AA w.heap.size ⟨a0, a1, a2, a3, ⟨a4, a5, a6, a7⟩⟩ V from hV ▸ HAA.out.drew)
  have HS_V := Lib.hid (show StOf V b n L from hV ▸ HST.out.drew)
  have HV0_V := Lib.hid (show W0.heap.size ≤ V.heap.size from hV ▸ Nat.le_refl _)
  have HZ0 := Lib.hid hZ
  rw [show { heap := W0.heap, tape := W0.tape, drawn := W0.drawn + 1, os := W0.os, output := W0.output } = V from hV]
  clear hV hZ HYL HYN
  refine plan_two rfl rfl ?_ ?_
  ·
    go_wp2_with fail
    refine (deeds_any _).mono ?_
    rintro e w1 ⟨g, rfl, hdd, hb⟩
    have HB_w1 := after0 HB_V hb
    have HA_w1 := Lib.hid (show AA w.heap.size ⟨a0, a1, a2, a3, ⟨a4, a5, a6, a7⟩⟩ w1 from Box.below HA_V.out hb)
    have HS_w1 := Lib.hid (HS_V.out.below hb)
    have HG_w1 := Lib.hid hdd
    have hb_w1 := Lib.hid hb
    clear hdd hb
    go_wp2_with fail
    refine MixPost.intro ⟨⟨w1, HA_w1.out, HS_w1.out⟩, rfl⟩ ?_
    repeat (any_goals (first | (go_big_quiet_skip; refine wpQuiet_nil ?_) | (go_big_quiet_want; go_big_quiet_op; go_big_quiet_on; refine wpQuiet_nil ?_) | ((with_reducible apply q_split); exact rfl; intro q hq; cases q <;> (rw [hq]; (try first | replace hq := bnot_t hq | replace hq := bnot_f hq); (try first | replace hq := of_decide_eq_true hq | replace hq := of_decide_eq_false hq | replace hq := eq_of_beq hq); (try first | replace hq := Int.not_lt.1 hq | replace hq := Int.not_le.1 hq | replace hq := Nat.not_lt.1 hq | replace hq := Nat.not_le.1 hq); try (exfalso; omega))) | (refine plan_q rfl rfl ?_)))
    have HV0_w1 := Lib.hid (Nat.le_trans HV0_V.out hb_w1.out.size)
    refine plan_two rfl rfl ?_ ?_
    ·
      have hlf := HG_w1.out w1 (Below.refl _ _) _ _ HFK.out
      simp only [eF] at hlf
      go_wp2_with fail
      clear hlf
      refine MixPost.intro ⟨⟨w1, HA_w1.out, HS_w1.out⟩, rfl⟩ ?_
      repeat (any_goals (first | (go_big_quiet_skip; refine wpQuiet_nil ?_) | (go_big_quiet_want; go_big_quiet_op; go_big_quiet_on; refine wpQuiet_nil ?_) | ((with_reducible apply q_split); exact rfl; intro q hq; cases q <;> (rw [hq]; (try first | replace hq := bnot_t hq | replace hq := bnot_f hq); (try first | replace hq := of_decide_eq_true hq | replace hq := of_decide_eq_false hq | replace hq := eq_of_beq hq); (try first | replace hq := Int.not_lt.1 hq | replace hq := Int.not_le.1 hq | replace hq := Nat.not_lt.1 hq | replace hq := Nat.not_le.1 hq); try (exfalso; omega))) | (refine plan_q rfl rfl ?_)))
      refine plan_two rfl rfl ?_ ?_
      ·
        go_wp2_with fail
        refine (HDO.out _).mono ?_
        rintro e w2 ⟨rfl, hb⟩
        have HB_w2 := after0 HB_w1 hb
        have HA_w2 := Lib.hid (show AA w.heap.size ⟨a0, a1, a2, a3, ⟨a4, a5, a6, a7⟩⟩ w2 from Box.below HA_w1.out hb)
        have HS_w2 := Lib.hid (HS_w1.out.below hb)
        have hb_w2 := Lib.hid hb
        clear hb
        go_wp2_with fail
        refine MixPost.intro ⟨⟨w2, HA_w2.out, HS_w2.out⟩, rfl⟩ ?_
        repeat (any_goals (first | (go_big_quiet_skip; refine wpQuiet_nil ?_) | (go_big_quiet_want; go_big_quiet_op; go_big_quiet_on; refine wpQuiet_nil ?_) | ((with_reducible apply q_split); exact rfl; intro q hq; cases q <;> (rw [hq]; (try first | replace hq := bnot_t hq | replace hq := bnot_f hq); (try first | replace hq := of_decide_eq_true hq | replace hq := of_decide_eq_false hq | replace hq := eq_of_beq hq); (try first | replace hq := Int.not_lt.1 hq | replace hq := Int.not_le.1 hq | replace hq := Nat.not_lt.1 hq | replace hq := Nat.not_le.1 hq); try (exfalso; omega))) | (refine plan_q rfl rfl ?_)))
        have HV0_w2 := Lib.hid (Nat.le_trans HV0_w1.out hb_w2.out.size)
        refine plan_e rfl ?_
        go_wp2_with fail
        obtain ⟨R, hR⟩ : ∃ R, w2.heap.size = R := ⟨_, rfl⟩
        obtain ⟨w3, hw3⟩ : ∃ X, w2.alloc (.cells #[.int .i64 0, .bool false, .int .i64 0, .int .i64 0, .int .i64 0, .int .i64 0, .int .i64 0, .bool false, .int .i64 0, .int .i64 0, .int .i64 0, .int .i64 0] 33) = X := ⟨_, rfl⟩
        have hb : Below w2.heap.size w2 w3 := hw3 ▸ grew1 (Below.refl _ _)
        have HB_w3 := after0 HB_w2 hb
        have HA_w3 := Lib.hid (show AA w.heap.size ⟨a0, a1, a2, a3, ⟨a4, a5, a6, a7⟩⟩ w3 from Box.below HA_w2.out hb)
        have HS_w3 := Lib.hid (HS_w2.out.below hb)
        have hbR : Box w3 w2.heap.size 33 [.int .i64 0, .bool false, .int .i64 0, .int .i64 0, .int .i64 0, .int .i64 0, .int .i64 0, .bool false, .int .i64 0, .int .i64 0, .int .i64 0, .int .i64 0] := hw3 ▸ Box.new w2 [.int .i64 0, .bool false, .int .i64 0, .int .i64 0, .int .i64 0, .int .i64 0, .int .i64 0, .bool false, .int .i64 0, .int .i64 0, .int .i64 0, .int .i64 0] 33
        have hRw : w.heap.size + 1 ≤ R := by have := HZ0.out; have := HV0_w2.out; omega
        rw [hw3, hR]
        rw [hR] at hbR
        have HR_w3 := Lib.hid hbR
        have hb_w3 := Lib.hid hb
        clear hw3 hR hb hbR
        try go_wp2_with fail
        refine MixPost.intro ⟨⟨w3, HA_w3.out, HS_w3.out⟩, rfl⟩ ?_
        repeat (any_goals (first | (go_big_quiet_skip; refine wpQuiet_nil ?_) | (go_big_quiet_want; go_big_quiet_op; go_big_quiet_on; refine wpQuiet_nil ?_) | ((with_reducible apply q_split); exact rfl; intro q hq; cases q <;> (rw [hq]; (try first | replace hq := bnot_t hq | replace hq := bnot_f hq); (try first | replace hq := of_decide_eq_true hq | replace hq := of_decide_eq_false hq | replace hq := eq_of_beq hq); (try first | replace hq := Int.not_lt.1 hq | replace hq := Int.not_le.1 hq | replace hq := Nat.not_lt.1 hq | replace hq := Nat.not_le.1 hq); try (exfalso; omega))) | (refine plan_q rfl rfl ?_)))
        refine plan_e rfl ?_
        refine wpList_store_box rfl 33 _ _ rfl R 33 _ [.int .i64 p0, .bool p1, .int .i64 p2, .int .i64 p3, .int .i64 p4, .int .i64 p5, .int .i64 p6, .bool p7, .int .i64 p8, .int .i64 p9, .int .i64 p10, .int .i64 p11] rfl rfl HR_w3.out size_danger rfl rfl ?_
        intro w4 hb5 hl5 ho5 hz5
        have HB_w4 : Below w.heap.size w w4 := HB_w3.trans (hl5 _ (by omega))
        have HA_w4 := Lib.hid (show AA w.heap.size ⟨a0, a1, a2, a3, ⟨a4, a5, a6, a7⟩⟩ w4 from ho5 _ _ _ (by omega) HA_w3.out)
        have HS_w4 := Lib.hid (HS_w3.out.low (hl5 R (Nat.le_refl _)) (by omega))
        have HR_w4 := Lib.hid hb5
        clear hb5 hl5 ho5 hz5
        go_wp2_with fail
        refine MixPost.intro ⟨⟨w4, HA_w4.out, HS_w4.out⟩, rfl⟩ ?_
        repeat (any_goals (first | (go_big_quiet_skip; refine wpQuiet_nil ?_) | (go_big_quiet_want; go_big_quiet_op; go_big_quiet_on; refine wpQuiet_nil ?_) | ((with_reducible apply q_split); exact rfl; intro q hq; cases q <;> (rw [hq]; (try first | replace hq := bnot_t hq | replace hq := bnot_f hq); (try first | replace hq := of_decide_eq_true hq | replace hq := of_decide_eq_false hq | replace hq := eq_of_beq hq); (try first | replace hq := Int.not_lt.1 hq | replace hq := Int.not_le.1 hq | replace hq := Nat.not_lt.1 hq | replace hq := Nat.not_le.1 hq); try (exfalso; omega))) | (refine plan_q rfl rfl ?_)))
        refine plan_done ?_
        try simp only [List.drop_succ_cons, List.drop_zero]
        try go_wp2_with fail
        refine NoPanic.normal ?_
        clear hlk y_n y_0 y_1 y_2 y_3 y_4 y_5 y_6 y_7
        obtain ⟨r0, r1, r2, r3, r4, r5, r6, r7, r8, r9, r10, r11⟩ := HR_w4.out.c12
        obtain ⟨q0, q1, q2, q3, q4, q5, q6, q7⟩ := Box.c8 HA_w4.out
        by_cases hq : q = 0
        case neg =>
          have HP := Lib.hid (HERR.out hq)
          have hq2 : (q != 0) = true := bne_iff_ne.2 hq
          clear hq
          go_wp2_with fail
          go_ret
          exact ⟨by rw [HP.out]; rfl, by rw [HP.out]; exact HS_w4.out.mono (Nat.le_succ _), grown_below HB_w4⟩
        cases stay
        case true =>
          obtain ⟨hp1, hp2⟩ := HPUT.out rfl hq
          have HP := Lib.hid hp1
          have HID := Lib.hid hp2
          subst hq
          clear hp1 hp2 HERR HPUT HDEL
          go_wp2_with (at_mapUpdate; refine wpList_put_st rfl _ _ _ rfl b n L rfl HS_w4.out (by unfold maxLen; omega) a1 ⟨p0, p1, ⟨p2, p3, p4, p5⟩, p6, p7, ⟨p8, p9, p10, p11⟩⟩ rfl rfl HX.out HID.out ?_; intro W9 hst9 hg9)
          have HST9 := Lib.hid hst9
          have HG9 := Lib.hid hg9
          clear hst9 hg9
          go_wp2_with fail
          go_ret
          exact ⟨by rw [HP.out]; rfl, by rw [HP.out]; exact HST9.out, (grown_below HB_w4).trans HG9.out⟩
        case false =>
          have HP := Lib.hid (HDEL.out rfl hq)
          subst hq
          clear HERR HPUT HDEL
          go_wp2_with (refine wpList_del_st rfl _ _ rfl b n L rfl HS_w4.out a1 rfl HX.out ?_; intro W9 hst9 hg9)
          have HST9 := Lib.hid hst9
          have HG9 := Lib.hid hg9
          clear hst9 hg9
          go_wp2_with fail
          go_ret
          exact ⟨by rw [HP.out]; rfl, by rw [HP.out]; exact HST9.out.mono (Nat.le_succ _), (grown_below HB_w4).trans HG9.out⟩
      ·
        go_wp2_with fail
        obtain ⟨R, hR⟩ : ∃ R, w1.heap.size = R := ⟨_, rfl⟩
        obtain ⟨w2, hw2⟩ : ∃ X, w1.alloc (.cells #[.int .i64 0, .bool false, .int .i64 0, .int .i64 0, .int .i64 0, .int .i64 0, .int .i64 0, .bool false, .int .i64 0, .int .i64 0, .int .i64 0, .int .i64 0] 33) = X := ⟨_, rfl⟩
        have hb : Below w1.heap.size w1 w2 := hw2 ▸ grew1 (Below.refl _ _)
        have HB_w2 := after0 HB_w1 hb
        have HA_w2 := Lib.hid (show AA w.heap.size ⟨a0, a1, a2, a3, ⟨a4, a5, a6, a7⟩⟩ w2 from Box.below HA_w1.out hb)
        have HS_w2 := Lib.hid (HS_w1.out.below hb)
        have hbR : Box w2 w1.heap.size 33 [.int .i64 0, .bool false, .int .i64 0, .int .i64 0, .int .i64 0, .int .i64 0, .int .i64 0, .bool false, .int .i64 0, .int .i64 0, .int .i64 0, .int .i64 0] := hw2 ▸ Box.new w1 [.int .i64 0, .bool false, .int .i64 0, .int .i64 0, .int .i64 0, .int .i64 0, .int .i64 0, .bool false, .int .i64 0, .int .i64 0, .int .i64 0, .int .i64 0] 33
        have hRw : w.heap.size + 1 ≤ R := by have := HZ0.out; have := HV0_w1.out; omega
        rw [hw2, hR]
        rw [hR] at hbR
        have HR_w2 := Lib.hid hbR
        have hb_w2 := Lib.hid hb
        clear hw2 hR hb hbR
        try go_wp2_with fail
        refine MixPost.intro ⟨⟨w2, HA_w2.out, HS_w2.out⟩, rfl⟩ ?_
        repeat (any_goals (first | (go_big_quiet_skip; refine wpQuiet_nil ?_) | (go_big_quiet_want; go_big_quiet_op; go_big_quiet_on; refine wpQuiet_nil ?_) | ((with_reducible apply q_split); exact rfl; intro q hq; cases q <;> (rw [hq]; (try first | replace hq := bnot_t hq | replace hq := bnot_f hq); (try first | replace hq := of_decide_eq_true hq | replace hq := of_decide_eq_false hq | replace hq := eq_of_beq hq); (try first | replace hq := Int.not_lt.1 hq | replace hq := Int.not_le.1 hq | replace hq := Nat.not_lt.1 hq | replace hq := Nat.not_le.1 hq); try (exfalso; omega))) | (refine plan_q rfl rfl ?_)))
        refine plan_e rfl ?_
        go_wp2_with fail
        refine (HDO.out _).mono ?_
        rintro e w3 ⟨rfl, hb⟩
        have HB_w3 := after0 HB_w2 hb
        have HA_w3 := Lib.hid (show AA w.heap.size ⟨a0, a1, a2, a3, ⟨a4, a5, a6, a7⟩⟩ w3 from Box.below HA_w2.out hb)
        have HS_w3 := Lib.hid (HS_w2.out.below hb)
        have hb_w3 := Lib.hid hb
        clear hb
        go_wp2_with fail
        refine MixPost.intro ⟨⟨w3, HA_w3.out, HS_w3.out⟩, rfl⟩ ?_
        repeat (any_goals (first | (go_big_quiet_skip; refine wpQuiet_nil ?_) | (go_big_quiet_want; go_big_quiet_op; go_big_quiet_on; refine wpQuiet_nil ?_) | ((with_reducible apply q_split); exact rfl; intro q hq; cases q <;> (rw [hq]; (try first | replace hq := bnot_t hq | replace hq := bnot_f hq); (try first | replace hq := of_decide_eq_true hq | replace hq := of_decide_eq_false hq | replace hq := eq_of_beq hq); (try first | replace hq := Int.not_lt.1 hq | replace hq := Int.not_le.1 hq | replace hq := Nat.not_lt.1 hq | replace hq := Nat.not_le.1 hq); try (exfalso; omega))) | (refine plan_q rfl rfl ?_)))
        have HR_w3 := Lib.hid (HR_w2.out.below hb_w3.out)
        refine plan_e rfl ?_
        refine wpList_store_box rfl 33 _ _ rfl R 33 _ [.int .i64 p0, .bool p1, .int .i64 p2, .int .i64 p3, .int .i64 p4, .int .i64 p5, .int .i64 p6, .bool p7, .int .i64 p8, .int .i64 p9, .int .i64 p10, .int .i64 p11] rfl rfl HR_w3.out size_danger rfl rfl ?_
        intro w4 hb5 hl5 ho5 hz5
        have HB_w4 : Below w.heap.size w w4 := HB_w3.trans (hl5 _ (by omega))
        have HA_w4 := Lib.hid (show AA w.heap.size ⟨a0, a1, a2, a3, ⟨a4, a5, a6, a7⟩⟩ w4 from ho5 _ _ _ (by omega) HA_w3.out)
        have HS_w4 := Lib.hid (HS_w3.out.low (hl5 R (Nat.le_refl _)) (by omega))
        have HR_w4 := Lib.hid hb5
        clear hb5 hl5 ho5 hz5
        go_wp2_with fail
        refine MixPost.intro ⟨⟨w4, HA_w4.out, HS_w4.out⟩, rfl⟩ ?_
        repeat (any_goals (first | (go_big_quiet_skip; refine wpQuiet_nil ?_) | (go_big_quiet_want; go_big_quiet_op; go_big_quiet_on; refine wpQuiet_nil ?_) | ((with_reducible apply q_split); exact rfl; intro q hq; cases q <;> (rw [hq]; (try first | replace hq := bnot_t hq | replace hq := bnot_f hq); (try first | replace hq := of_decide_eq_true hq | replace hq := of_decide_eq_false hq | replace hq := eq_of_beq hq); (try first | replace hq := Int.not_lt.1 hq | replace hq := Int.not_le.1 hq | replace hq := Nat.not_lt.1 hq | replace hq := Nat.not_le.1 hq); try (exfalso; omega))) | (refine plan_q rfl rfl ?_)))
        refine plan_done ?_
        try simp only [List.drop_succ_cons, List.drop_zero]
        try go_wp2_with fail
        refine NoPanic.normal ?_
        clear hlk y_n y_0 y_1 y_2 y_3 y_4 y_5 y_6 y_7
        obtain ⟨r0, r1, r2, r3, r4, r5, r6, r7, r8, r9, r10, r11⟩ := HR_w4.out.c12
        obtain ⟨q0, q1, q2, q3, q4, q5, q6, q7⟩ := Box.c8 HA_w4.out
        by_cases hq : q = 0
        case neg =>
          have HP := Lib.hid (HERR.out hq)
          have hq2 : (q != 0) = true := bne_iff_ne.2 hq
          clear hq
          go_wp2_with fail
          go_ret
          exact ⟨by rw [HP.out]; rfl, by rw [HP.out]; exact HS_w4.out.mono (Nat.le_succ _), grown_below HB_w4⟩
        cases stay
        case true =>
          obtain ⟨hp1, hp2⟩ := HPUT.out rfl hq
          have HP := Lib.hid hp1
          have HID := Lib.hid hp2
          subst hq
          clear hp1 hp2 HERR HPUT HDEL
          go_wp2_with (at_mapUpdate; refine wpList_put_st rfl _ _ _ rfl b n L rfl HS_w4.out (by unfold maxLen; omega) a1 ⟨p0, p1, ⟨p2, p3, p4, p5⟩, p6, p7, ⟨p8, p9, p10, p11⟩⟩ rfl rfl HX.out HID.out ?_; intro W9 hst9 hg9)
          have HST9 := Lib.hid hst9
          have HG9 := Lib.hid hg9
          clear hst9 hg9
          go_wp2_with fail
          go_ret
          exact ⟨by rw [HP.out]; rfl, by rw [HP.out]; exact HST9.out, (grown_below HB_w4).trans HG9.out⟩
        case false =>
          have HP := Lib.hid (HDEL.out rfl hq)
          subst hq
          clear HERR HPUT HDEL
          go_wp2_with (refine wpList_del_st rfl _ _ rfl b n L rfl HS_w4.out a1 rfl HX.out ?_; intro W9 hst9 hg9)
          have HST9 := Lib.hid hst9
          have HG9 := Lib.hid hg9
          clear hst9 hg9
          go_wp2_with fail
          go_ret
          exact ⟨by rw [HP.out]; rfl, by rw [HP.out]; exact HST9.out.mono (Nat.le_succ _), (grown_below HB_w4).trans HG9.out⟩
    ·
      go_wp2_with fail
      obtain ⟨R, hR⟩ : ∃ R, w1.heap.size = R := ⟨_, rfl⟩
      obtain ⟨w2, hw2⟩ : ∃ X, w1.alloc (.cells #[.int .i64 0, .bool false, .int .i64 0, .int .i64 0, .int .i64 0, .int .i64 0, .int .i64 0, .bool false, .int .i64 0, .int .i64 0, .int .i64 0, .int .i64 0] 33) = X := ⟨_, rfl⟩
      have hb : Below w1.heap.size w1 w2 := hw2 ▸ grew1 (Below.refl _ _)
      have HB_w2 := after0 HB_w1 hb
      have HA_w2 := Lib.hid (show AA w.heap.size ⟨a0, a1, a2, a3, ⟨a4, a5, a6, a7⟩⟩ w2 from Box.below HA_w1.out hb)
      have HS_w2 := Lib.hid (HS_w1.out.below hb)
      have hbR : Box w2 w1.heap.size 33 [.int .i64 0, .bool false, .int .i64 0, .int .i64 0, .int .i64 0, .int .i64 0, .int .i64 0, .bool false, .int .i64 0, .int .i64 0, .int .i64 0, .int .i64 0] := hw2 ▸ Box.new w1 [.int .i64 0, .bool false, .int .i64 0, .int .i64 0, .int .i64 0, .int .i64 0, .int .i64 0, .bool false, .int .i64 0, .int .i64 0, .int .i64 0, .int .i64 0] 33
      have hRw : w.heap.size + 1 ≤ R := by have := HZ0.out; have := HV0_w1.out; omega
      rw [hw2, hR]
      rw [hR] at hbR
      have HR_w2 := Lib.hid hbR
      have hb_w2 := Lib.hid hb
      clear hw2 hR hb hbR
      try go_wp2_with fail
      refine MixPost.intro ⟨⟨w2, HA_w2.out, HS_w2.out⟩, rfl⟩ ?_
      repeat (any_goals (first | (go_big_quiet_skip; refine wpQuiet_nil ?_) | (go_big_quiet_want; go_big_quiet_op; go_big_quiet_on; refine wpQuiet_nil ?_) | ((with_reducible apply q_split); exact rfl; intro q hq; cases q <;> (rw [hq]; (try first | replace hq := bnot_t hq | replace hq := bnot_f hq); (try first | replace hq := of_decide_eq_true hq | replace hq := of_decide_eq_false hq | replace hq := eq_of_beq hq); (try first | replace hq := Int.not_lt.1 hq | replace hq := Int.not_le.1 hq | replace hq := Nat.not_lt.1 hq | replace hq := Nat.not_le.1 hq); try (exfalso; omega))) | (refine plan_q rfl rfl ?_)))
      have HG_w2 := Lib.hid (HG_w1.out.below hb_w2.out)
      refine plan_e rfl ?_
      have hlf := HG_w2.out w2 (Below.refl _ _) _ _ HFK.out
      simp only [eF] at hlf
      go_wp2_with fail
      clear hlf
      refine MixPost.intro ⟨⟨w2, HA_w2.out, HS_w2.out⟩, rfl⟩ ?_
      repeat (any_goals (first | (go_big_quiet_skip; refine wpQuiet_nil ?_) | (go_big_quiet_want; go_big_quiet_op; go_big_quiet_on; refine wpQuiet_nil ?_) | ((with_reducible apply q_split); exact rfl; intro q hq; cases q <;> (rw [hq]; (try first | replace hq := bnot_t hq | replace hq := bnot_f hq); (try first | replace hq := of_decide_eq_true hq | replace hq := of_decide_eq_false hq | replace hq := eq_of_beq hq); (try first | replace hq := Int.not_lt.1 hq | replace hq := Int.not_le.1 hq | replace hq := Nat.not_lt.1 hq | replace hq := Nat.not_le.1 hq); try (exfalso; omega))) | (refine plan_q rfl rfl ?_)))
      refine plan_e rfl ?_
      go_wp2_with fail
      refine (HDO.out _).mono ?_
      rintro e w3 ⟨rfl, hb⟩
      have HB_w3 := after0 HB_w2 hb
      have HA_w3 := Lib.hid (show AA w.heap.size ⟨a0, a1, a2, a3, ⟨a4, a5, a6, a7⟩⟩ w3 from Box.below HA_w2.out hb)
      have HS_w3 := Lib.hid (HS_w2.out.below hb)
      have hb_w3 := Lib.hid hb
      clear hb
      go_wp2_with fail
      refine MixPost.intro ⟨⟨w3, HA_w3.out, HS_w3.out⟩, rfl⟩ ?_
      repeat (any_goals (first | (go_big_quiet_skip; refine wpQuiet_nil ?_) | (go_big_quiet_want; go_big_quiet_op; go_big_quiet_on; refine wpQuiet_nil ?_) | ((with_reducible apply q_split); exact rfl; intro q hq; cases q <;> (rw [hq]; (try first | replace hq := bnot_t hq | replace hq := bnot_f hq); (try first | replace hq := of_decide_eq_true hq | replace hq := of_decide_eq_false hq | replace hq := eq_of_beq hq); (try first | replace hq := Int.not_lt.1 hq | replace hq := Int.not_le.1 hq | replace hq := Nat.not_lt.1 hq | replace hq := Nat.not_le.1 hq); try (exfalso; omega))) | (refine plan_q rfl rfl ?_)))
      have HR_w3 := Lib.hid (HR_w2.out.below hb_w3.out)
      refine plan_e rfl ?_
      refine wpList_store_box rfl 33 _ _ rfl R 33 _ [.int .i64 p0, .bool p1, .int .i64 p2, .int .i64 p3, .int .i64 p4, .int .i64 p5, .int .i64 p6, .bool p7, .int .i64 p8, .int .i64 p9, .int .i64 p10, .int .i64 p11] rfl rfl HR_w3.out size_danger rfl rfl ?_
      intro w4 hb5 hl5 ho5 hz5
      have HB_w4 : Below w.heap.size w w4 := HB_w3.trans (hl5 _ (by omega))
      have HA_w4 := Lib.hid (show AA w.heap.size ⟨a0, a1, a2, a3, ⟨a4, a5, a6, a7⟩⟩ w4 from ho5 _ _ _ (by omega) HA_w3.out)
      have HS_w4 := Lib.hid (HS_w3.out.low (hl5 R (Nat.le_refl _)) (by omega))
      have HR_w4 := Lib.hid hb5
      clear hb5 hl5 ho5 hz5
      go_wp2_with fail
      refine MixPost.intro ⟨⟨w4, HA_w4.out, HS_w4.out⟩, rfl⟩ ?_
      repeat (any_goals (first | (go_big_quiet_skip; refine wpQuiet_nil ?_) | (go_big_quiet_want; go_big_quiet_op; go_big_quiet_on; refine wpQuiet_nil ?_) | ((with_reducible apply q_split); exact rfl; intro q hq; cases q <;> (rw [hq]; (try first | replace hq := bnot_t hq | replace hq := bnot_f hq); (try first | replace hq := of_decide_eq_true hq | replace hq := of_decide_eq_false hq | replace hq := eq_of_beq hq); (try first | replace hq := Int.not_lt.1 hq | replace hq := Int.not_le.1 hq | replace hq := Nat.not_lt.1 hq | replace hq := Nat.not_le.1 hq); try (exfalso; omega))) | (refine plan_q rfl rfl ?_)))
      refine plan_done ?_
      try simp only [List.drop_succ_cons, List.drop_zero]
      try go_wp2_with fail
      refine NoPanic.normal ?_
      clear hlk y_n y_0 y_1 y_2 y_3 y_4 y_5 y_6 y_7
      obtain ⟨r0, r1, r2, r3, r4, r5, r6, r7, r8, r9, r10, r11⟩ := HR_w4.out.c12
      obtain ⟨q0, q1, q2, q3, q4, q5, q6, q7⟩ := Box.c8 HA_w4.out
      by_cases hq : q = 0
      case neg =>
        have HP := Lib.hid (HERR.out hq)
        have hq2 : (q != 0) = true := bne_iff_ne.2 hq
        clear hq
        go_wp2_with fail
        go_ret
        exact ⟨by rw [HP.out]; rfl, by rw [HP.out]; exact HS_w4.out.mono (Nat.le_succ _), grown_below HB_w4⟩
      cases stay
      case true =>
        obtain ⟨hp1, hp2⟩ := HPUT.out rfl hq
        have HP := Lib.hid hp1
        have HID := Lib.hid hp2
        subst hq
        clear hp1 hp2 HERR HPUT HDEL
        go_wp2_with (at_mapUpdate; refine wpList_put_st rfl _ _ _ rfl b n L rfl HS_w4.out (by unfold maxLen; omega) a1 ⟨p0, p1, ⟨p2, p3, p4, p5⟩, p6, p7, ⟨p8, p9, p10, p11⟩⟩ rfl rfl HX.out HID.out ?_; intro W9 hst9 hg9)
        have HST9 := Lib.hid hst9
        have HG9 := Lib.hid hg9
        clear hst9 hg9
        go_wp2_with fail
        go_ret
        exact ⟨by rw [HP.out]; rfl, by rw [HP.out]; exact HST9.out, (grown_below HB_w4).trans HG9.out⟩
      case false =>
        have HP := Lib.hid (HDEL.out rfl hq)
        subst hq
        clear HERR HPUT HDEL
        go_wp2_with (refine wpList_del_st rfl _ _ rfl b n L rfl HS_w4.out a1 rfl HX.out ?_; intro W9 hst9 hg9)
        have HST9 := Lib.hid hst9
        have HG9 := Lib.hid hg9
        clear hst9 hg9
        go_wp2_with fail
        go_ret
        exact ⟨by rw [HP.out]; rfl, by rw [HP.out]; exact HST9.out.mono (Nat.le_succ _), (grown_below HB_w4).trans HG9.out⟩
  ·
    go_wp2_with fail
    obtain ⟨R, hR⟩ : ∃ R, V.heap.size = R := ⟨_, rfl⟩
    obtain ⟨w1, hw1⟩ : ∃ X, V.alloc (.cells #[.int .i64 0, .bool false, .int .i64 0, .int .i64 0, .int .i64 0, .int .i64 0, .int .i64 0, .bool false, .int .i64 0, .int .i64 0, .int .i64 0, .int .i64 0] 33) = X := ⟨_, rfl⟩
    have hb : Below V.heap.size V w1 := hw1 ▸ grew1 (Below.refl _ _)
    have HB_w1 := after0 HB_V hb
    have HA_w1 := Lib.hid (show AA w.heap.size ⟨a0, a1, a2, a3, ⟨a4, a5, a6, a7⟩⟩ w1 from Box.below HA_V.out hb)
    have HS_w1 := Lib.hid (HS_V.out.below hb)
    have hbR : Box w1 V.heap.size 33 [.int .i64 0, .bool false, .int .i64 0, .int .i64 0, .int .i64 0, .int .i64 0, .int .i64 0, .bool false, .int .i64 0, .int .i64 0, .int .i64 0, .int .i64 0] := hw1 ▸ Box.new V [.int .i64 0, .bool false, .int .i64 0, .int .i64 0, .int .i64 0, .int .i64 0, .int .i64 0, .bool false, .int .i64 0, .int .i64 0, .int .i64 0, .int .i64 0] 33
    have hRw : w.heap.size + 1 ≤ R := by have := HZ0.out; have := HV0_V.out; omega
    rw [hw1, hR]
    rw [hR] at hbR
    have HR_w1 := Lib.hid hbR
    have hb_w1 := Lib.hid hb
    clear hw1 hR hb hbR
    try go_wp2_with fail
    refine MixPost.intro ⟨⟨w1, HA_w1.out, HS_w1.out⟩, rfl⟩ ?_
    repeat (any_goals (first | (go_big_quiet_skip; refine wpQuiet_nil ?_) | (go_big_quiet_want; go_big_quiet_op; go_big_quiet_on; refine wpQuiet_nil ?_) | ((with_reducible apply q_split); exact rfl; intro q hq; cases q <;> (rw [hq]; (try first | replace hq := bnot_t hq | replace hq := bnot_f hq); (try first | replace hq := of_decide_eq_true hq | replace hq := of_decide_eq_false hq | replace hq := eq_of_beq hq); (try first | replace hq := Int.not_lt.1 hq | replace hq := Int.not_le.1 hq | replace hq := Nat.not_lt.1 hq | replace hq := Nat.not_le.1 hq); try (exfalso; omega))) | (refine plan_q rfl rfl ?_)))
    refine plan_e rfl ?_
    go_wp2_with fail
    refine (deeds_any _).mono ?_
    rintro e w2 ⟨g, rfl, hdd, hb⟩
    have HB_w2 := after0 HB_w1 hb
    have HA_w2 := Lib.hid (show AA w.heap.size ⟨a0, a1, a2, a3, ⟨a4, a5, a6, a7⟩⟩ w2 from Box.below HA_w1.out hb)
    have HS_w2 := Lib.hid (HS_w1.out.below hb)
    have HG_w2 := Lib.hid hdd
    have hb_w2 := Lib.hid hb
    clear hdd hb
    go_wp2_with fail
    refine MixPost.intro ⟨⟨w2, HA_w2.out, HS_w2.out⟩, rfl⟩ ?_
    repeat (any_goals (first | (go_big_quiet_skip; refine wpQuiet_nil ?_) | (go_big_quiet_want; go_big_quiet_op; go_big_quiet_on; refine wpQuiet_nil ?_) | ((with_reducible apply q_split); exact rfl; intro q hq; cases q <;> (rw [hq]; (try first | replace hq := bnot_t hq | replace hq := bnot_f hq); (try first | replace hq := of_decide_eq_true hq | replace hq := of_decide_eq_false hq | replace hq := eq_of_beq hq); (try first | replace hq := Int.not_lt.1 hq | replace hq := Int.not_le.1 hq | replace hq := Nat.not_lt.1 hq | replace hq := Nat.not_le.1 hq); try (exfalso; omega))) | (refine plan_q rfl rfl ?_)))
    have HR_w2 := Lib.hid (HR_w1.out.below hb_w2.out)
    refine plan_e rfl ?_
    have hlf := HG_w2.out w2 (Below.refl _ _) _ _ HFK.out
    simp only [eF] at hlf
    go_wp2_with fail
    clear hlf
    refine MixPost.intro ⟨⟨w2, HA_w2.out, HS_w2.out⟩, rfl⟩ ?_
    repeat (any_goals (first | (go_big_quiet_skip; refine wpQuiet_nil ?_) | (go_big_quiet_want; go_big_quiet_op; go_big_quiet_on; refine wpQuiet_nil ?_) | ((with_reducible apply q_split); exact rfl; intro q hq; cases q <;> (rw [hq]; (try first | replace hq := bnot_t hq | replace hq := bnot_f hq); (try first | replace hq := of_decide_eq_true hq | replace hq := of_decide_eq_false hq | replace hq := eq_of_beq hq); (try first | replace hq := Int.not_lt.1 hq | replace hq := Int.not_le.1 hq | replace hq := Nat.not_lt.1 hq | replace hq := Nat.not_le.1 hq); try (exfalso; omega))) | (refine plan_q rfl rfl ?_)))
    refine plan_e rfl ?_
    go_wp2_with fail
    refine (HDO.out _).mono ?_
    rintro e w3 ⟨rfl, hb⟩
    have HB_w3 := after0 HB_w2 hb
    have HA_w3 := Lib.hid (show AA w.heap.size ⟨a0, a1, a2, a3, ⟨a4, a5, a6, a7⟩⟩ w3 from Box.below HA_w2.out hb)
    have HS_w3 := Lib.hid (HS_w2.out.below hb)
    have hb_w3 := Lib.hid hb
    clear hb
    go_wp2_with fail
    refine MixPost.intro ⟨⟨w3, HA_w3.out, HS_w3.out⟩, rfl⟩ ?_
    repeat (any_goals (first | (go_big_quiet_skip; refine wpQuiet_nil ?_) | (go_big_quiet_want; go_big_quiet_op; go_big_quiet_on; refine wpQuiet_nil ?_) | ((with_reducible apply q_split); exact rfl; intro q hq; cases q <;> (rw [hq]; (try first | replace hq := bnot_t hq | replace hq := bnot_f hq); (try first | replace hq := of_decide_eq_true hq | replace hq := of_decide_eq_false hq | replace hq := eq_of_beq hq); (try first | replace hq := Int.not_lt.1 hq | replace hq := Int.not_le.1 hq | replace hq := Nat.not_lt.1 hq | replace hq := Nat.not_le.1 hq); try (exfalso; omega))) | (refine plan_q rfl rfl ?_)))
    have HR_w3 := Lib.hid (HR_w2.out.below hb_w3.out)
    refine plan_e rfl ?_
    refine wpList_store_box rfl 33 _ _ rfl R 33 _ [.int .i64 p0, .bool p1, .int .i64 p2, .int .i64 p3, .int .i64 p4, .int .i64 p5, .int .i64 p6, .bool p7, .int .i64 p8, .int .i64 p9, .int .i64 p10, .int .i64 p11] rfl rfl HR_w3.out size_danger rfl rfl ?_
    intro w4 hb5 hl5 ho5 hz5
    have HB_w4 : Below w.heap.size w w4 := HB_w3.trans (hl5 _ (by omega))
    have HA_w4 := Lib.hid (show AA w.heap.size ⟨a0, a1, a2, a3, ⟨a4, a5, a6, a7⟩⟩ w4 from ho5 _ _ _ (by omega) HA_w3.out)
    have HS_w4 := Lib.hid (HS_w3.out.low (hl5 R (Nat.le_refl _)) (by omega))
    have HR_w4 := Lib.hid hb5
    clear hb5 hl5 ho5 hz5
    go_wp2_with fail
    refine MixPost.intro ⟨⟨w4, HA_w4.out, HS_w4.out⟩, rfl⟩ ?_
    repeat (any_goals (first | (go_big_quiet_skip; refine wpQuiet_nil ?_) | (go_big_quiet_want; go_big_quiet_op; go_big_quiet_on; refine wpQuiet_nil ?_) | ((with_reducible apply q_split); exact rfl; intro q hq; cases q <;> (rw [hq]; (try first | replace hq := bnot_t hq | replace hq := bnot_f hq); (try first | replace hq := of_decide_eq_true hq | replace hq := of_decide_eq_false hq | replace hq := eq_of_beq hq); (try first | replace hq := Int.not_lt.1 hq | replace hq := Int.not_le.1 hq | replace hq := Nat.not_lt.1 hq | replace hq := Nat.not_le.1 hq); try (exfalso; omega))) | (refine plan_q rfl rfl ?_)))
    refine plan_done ?_
    try simp only [List.drop_succ_cons, List.drop_zero]
    try go_wp2_with fail
    refine NoPanic.normal ?_
    clear hlk y_n y_0 y_1 y_2 y_3 y_4 y_5 y_6 y_7
    obtain ⟨r0, r1, r2, r3, r4, r5, r6, r7, r8, r9, r10, r11⟩ := HR_w4.out.c12
    obtain ⟨q0, q1, q2, q3, q4, q5, q6, q7⟩ := Box.c8 HA_w4.out
    by_cases hq : q = 0
    case neg =>
      have HP := Lib.hid (HERR.out hq)
      have hq2 : (q != 0) = true := bne_iff_ne.2 hq
      clear hq
      go_wp2_with fail
      go_ret
      exact ⟨by rw [HP.out]; rfl, by rw [HP.out]; exact HS_w4.out.mono (Nat.le_succ _), grown_below HB_w4⟩
    cases stay
    case true =>
      obtain ⟨hp1, hp2⟩ := HPUT.out rfl hq
      have HP := Lib.hid hp1
      have HID := Lib.hid hp2
      subst hq
      clear hp1 hp2 HERR HPUT HDEL
      go_wp2_with (at_mapUpdate; refine wpList_put_st rfl _ _ _ rfl b n L rfl HS_w4.out (by unfold maxLen; omega) a1 ⟨p0, p1, ⟨p2, p3, p4, p5⟩, p6, p7, ⟨p8, p9, p10, p11⟩⟩ rfl rfl HX.out HID.out ?_; intro W9 hst9 hg9)
      have HST9 := Lib.hid hst9
      have HG9 := Lib.hid hg9
      clear hst9 hg9
      go_wp2_with fail
      go_ret
      exact ⟨by rw [HP.out]; rfl, by rw [HP.out]; exact HST9.out, (grown_below HB_w4).trans HG9.out⟩
    case false =>
      have HP := Lib.hid (HDEL.out rfl hq)
      subst hq
      clear HERR HPUT HDEL
      go_wp2_with (refine wpList_del_st rfl _ _ rfl b n L rfl HS_w4.out a1 rfl HX.out ?_; intro W9 hst9 hg9)
      have HST9 := Lib.hid hst9
      have HG9 := Lib.hid hg9
      clear hst9 hg9
      go_wp2_with fail
      go_ret
      exact ⟨by rw [HP.out]; rfl, by rw [HP.out]; exact HST9.out.mono (Nat.le_succ _), (grown_below HB_w4).trans HG9.out⟩
end Go.Proofs.Ytmbnhlihcnbebaa
