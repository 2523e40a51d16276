/-
  Walks of the reference of the layer 'eyes': Eyes, Told.
-/
import Derived.Test.YtmbnhlihcnbebaaEyRG
import Derived.Test.YtmbnhlihcnbebaaEyO
import Derived.Test.YtmbnhlihcnbebaaEyTs
set_option linter.unusedVariables false
namespace Ey
def hasB (a b x : Int) : Bool := decide (a ≤ x ∧ x ≤ b)
def holdB (b : Bx) (x y : Int) : Bool := hasB b.a b.b x && hasB b.c b.d y
theorem inB_hold {b : Bx} (h : boxB b = true) (x y : Int) : inB b x y = holdB b x y := by
  unfold inB holdB hasB
  rw [h, Bool.true_and, ← Bool.decide_and]
  congr 1
  exact propext (by omega)
theorem eyes_take {x : Int} {l : List Ac} {k : Nat} (h : k < l.length) : eyesS x (l.take (k + 1)) = estep x (eyesS x (l.take k)) l[k] := by
  rw [List.take_add_one, List.getElem?_eq_getElem h, Option.toList_some, eyesS_snoc]
/-- a step of Eyes, as the reference takes it -/
theorem estep_ref {x : Int} {s : ES} {a : Ac} (hs : stateB s.L = true) (hv : validA a = true) : (∃ e : Int, doR s.L a = ([], e) ∧ e ≠ 0 ∧ estep x s a = s) ∨
    (∃ N, doR s.L a = (N, 0) ∧ stateB N = true ∧ estep x s a = if a.danger = x ∧ a.kind = 3 then ⟨N, (gt s.L x).prop, a.person⟩ else ⟨N, s.one, s.two⟩) := by
  by_cases h3 : (actS s.L a).2 = 0
  · refine .inr ⟨_, doR_ok hs hv h3, act_sound hs hv, ?_⟩
    by_cases h : a.danger = x ∧ a.kind = 3
    · rw [if_pos h, estep_yes ⟨h3, h.2, h.1⟩, h.1]
    · rw [if_neg h, estep_no (fun e => h ⟨e.2.2, e.2.1⟩)]
  · refine .inl ⟨_, doR_err hs hv h3, h3, ?_⟩
    rw [estep_no (fun e => h3 e.1), actS_err h3]
end Ey
namespace Go.Proofs.Ytmbnhlihcnbebaa
open Go Go.RowKit Ey Sk Go.Sort
theorem rhas_any (a b x : Int) (w : World) : Calls Try.prog 72 #[.agg #[.int .i64 a, .int .i64 b], .int .i64 x] w (Ret w (.bool (hasB a b x))) := by
  go_enter Try.func72, Try.ntmps72
  go_wp2
  all_goals
    go_ret
    refine ⟨ret_bool ?_, grew1 (Below.refl _ _)⟩
    simp [hasB]; try omega
theorem rplace_any (x y : Int) (w : World) : Calls Try.prog 54 #[.agg #[.int .i64 x, .int .i64 y]] w (Ret w (.bool (boxB ⟨x, x, y, y⟩))) := by
  go_enter Try.func54, Try.ntmps54
  go_wp2
  all_goals
    go_ret
    refine ⟨ret_bool ?_, grew1 (Below.refl _ _)⟩
    simp [boxB]; try omega
set_option maxRecDepth 100000 in
set_option maxHeartbeats 4000000 in
theorem rholds_any (b : Bx) (x y : Int) (w : World) : Calls Try.prog 55 #[eB b, .agg #[.int .i64 x, .int .i64 y]] w (Ret w (.bool (holdB b x y))) := by
  have HS := Lib.hid (show holdB b x y = (hasB b.a b.b x && hasB b.c b.d y) from rfl)
  obtain ⟨a0, a1, a2, a3⟩ := b
  dsimp only at HS
  generalize holdB ⟨a0, a1, a2, a3⟩ x y = p at *
  obtain ⟨W0, hW0, HB_W0, hZ, hn, hm⟩ := boxes2 w [.int .i64 a0, .int .i64 a1, .int .i64 a2, .int .i64 a3] [.int .i64 x, .int .i64 y] 31 49
  have H_n := Lib.hid hn
  have H_m := Lib.hid hm
  dsimp only [eB]
  clear hn hm hZ
  obtain ⟨q_n_0, q_n_1, q_n_2, q_n_3⟩ := H_n.out.c4
  obtain ⟨q_m_0, q_m_1⟩ := H_m.out.c2
  go_enter Try.func55, Try.ntmps55
  go_wp2_with fail
  refine (rhas_any a0 a1 x _).mono ?_
  rintro e wa ⟨rfl, hb_wa⟩
  have HB_wa : Below w.heap.size w wa := by first | exact after0 HB_W0 hb_wa | exact after1 HB_W0 hb_wa | exact after2 HB_W0 hb_wa | exact after3 HB_W0 hb_wa | exact after4 HB_W0 hb_wa | exact after5 HB_W0 hb_wa
  try clear q_n_0 q_n_1 q_n_2 q_n_3
  have H_n := Lib.hid (Box.below (by first | exact H_n.out | exact H_n.out.alloc _ | exact (H_n.out.alloc _).alloc _ | exact ((H_n.out.alloc _).alloc _).alloc _) hb_wa)
  obtain ⟨q_n_0, q_n_1, q_n_2, q_n_3⟩ := H_n.out.c4
  try clear q_m_0 q_m_1
  have H_m := Lib.hid (Box.below (by first | exact H_m.out | exact H_m.out.alloc _ | exact (H_m.out.alloc _).alloc _ | exact ((H_m.out.alloc _).alloc _).alloc _) hb_wa)
  obtain ⟨q_m_0, q_m_1⟩ := H_m.out.c2
  clear hW0
  go_wp2_with fail
  refine (rhas_any a2 a3 y _).mono ?_
  rintro e wb ⟨rfl, hb_wb⟩
  have HB_wb : Below w.heap.size w wb := by first | exact after0 HB_wa hb_wb | exact after1 HB_wa hb_wb | exact after2 HB_wa hb_wb | exact after3 HB_wa hb_wb | exact after4 HB_wa hb_wb | exact after5 HB_wa hb_wb
  generalize hasB a0 a1 x = q at *
  generalize hasB a2 a3 y = r at *
  cases q
  · have HP := Lib.hid (show p = false by rw [HS.out]; rfl)
    go_wp2_with fail
    all_goals try (exfalso; omega)
    go_ret
    exact ⟨ret_bool' HP.out.symm, HB_wb⟩
  · have HP := Lib.hid (show p = r by rw [HS.out]; rfl)
    go_wp2_with fail
    all_goals try (exfalso; omega)
    go_ret
    exact ⟨ret_bool' HP.out.symm, HB_wb⟩

set_option maxRecDepth 100000 in
set_option maxHeartbeats 8000000 in
theorem rtold_any (ao : Option Addr) (n cap : Nat) (l : List Dg) (x y : Int) (w : World) (hs : Sl w 12 cD ao n cap l) : Calls Try.prog 26 #[.slice ao n cap, .agg #[.int .i64 x, .int .i64 y]] w (IntsE w (toldR l x y)) := by
  obtain rfl := hs.len
  have hcap := hs.max
  have hle := hs.le
  unfold maxLen at hcap
  have HS := Lib.hid hs
  have HBAD := Lib.hid (@toldR_bad l x y)
  have HOK := Lib.hid (@toldR_ok l x y)
  have HRS := Lib.hid (fun W hW => rstate_any ao l.length cap l W (HS.out.below hW))
  have HSI := Lib.hid (@stateB_iff l)
  have HSE := Lib.hid (@state_len l)
  obtain ⟨i0, hi, hz0, hz1, hz2⟩ := info_parts info_int
  have HI := Lib.hid hi
  have HZ0 := Lib.hid hz0
  have HZ1 := Lib.hid hz1
  have HZ2 := Lib.hid hz2
  clear hs hi hz0 hz1 hz2
  unfold IntsE
  generalize toldR l x y = r at *
  obtain ⟨W0, hW0, HB_W0, hZ, hn⟩ := boxes1 w [.int .i64 x, .int .i64 y] 49
  have H_n := Lib.hid hn
  clear hn hZ
  obtain ⟨q_n_0, q_n_1⟩ := H_n.out.c2
  go_enter Try.func26, Try.ntmps26
  go_wp2_with fail
  refine (HRS.out _ HB_W0).mono ?_
  rintro e wa ⟨rfl, hb_wa⟩
  have HB_wa : Below w.heap.size w wa := by first | exact after0 HB_W0 hb_wa | exact after1 HB_W0 hb_wa | exact after2 HB_W0 hb_wa | exact after3 HB_W0 hb_wa | exact after4 HB_W0 hb_wa | exact after5 HB_W0 hb_wa
  try clear q_n_0 q_n_1
  have H_n := Lib.hid (Box.below (by first | exact H_n.out | exact H_n.out.alloc _ | exact (H_n.out.alloc _).alloc _ | exact ((H_n.out.alloc _).alloc _).alloc _) hb_wa)
  obtain ⟨q_n_0, q_n_1⟩ := H_n.out.c2
  clear hW0
  go_wp2_with fail
  refine (rplace_any x y _).mono ?_
  rintro e wb ⟨rfl, hb_wb⟩
  have HB_wb : Below w.heap.size w wb := by first | exact after0 HB_wa hb_wb | exact after1 HB_wa hb_wb | exact after2 HB_wa hb_wb | exact after3 HB_wa hb_wb | exact after4 HB_wa hb_wb | exact after5 HB_wa hb_wb
  try clear q_n_0 q_n_1
  have H_n := Lib.hid (Box.below (by first | exact H_n.out | exact H_n.out.alloc _ | exact (H_n.out.alloc _).alloc _ | exact ((H_n.out.alloc _).alloc _).alloc _) hb_wb)
  obtain ⟨q_n_0, q_n_1⟩ := H_n.out.c2
  cases h1 : stateB l
  · have HP := Lib.hid (HBAD.out (.inl h1))
    clear h1 HBAD HOK HRS HSI
    generalize boxB ⟨x, x, y, y⟩ = q at *
    go_wp2_with fail
    all_goals try (exfalso; omega)
    go_ret2
    exact ⟨none, 0, by rw [HP.out]; rfl, by rw [HP.out]; exact Sl.nil, HB_wb⟩
  cases h2 : boxB ⟨x, x, y, y⟩
  · have HP := Lib.hid (HBAD.out (.inr h2))
    clear h1 h2 HBAD HOK HRS HSI
    go_wp2_with fail
    all_goals try (exfalso; omega)
    go_ret2
    exact ⟨none, 0, by rw [HP.out]; rfl, by rw [HP.out]; exact Sl.nil, HB_wb⟩
  have HP := Lib.hid (HOK.out h1 h2)
  have hl50 := HSE.out h1
  have HSND := Lib.hid ((HSI.out.1 h1).1)
  clear h1 h2 HBAD HOK HRS HSI HSE
  go_wp2_with fail
  all_goals try (exfalso; omega)
  go_loopw [8, 9] (fun o i wr => ∃ k : Nat, k ≤ l.length ∧ i = .int .i64 k ∧ Below w.heap.size w wr ∧ Hid (Below wb.heap.size wb wr) ∧ Hid (OwnL wr wb.heap.size 3 1 cI o (toldF (l.take k) x y))) (fun _ i _ => l.length - (intOf i).toNat)
  case atStart => exact ⟨0, by omega, rfl, HB_wb, Below.refl _ _, OwnL.nil⟩
  case round =>
    obtain ⟨k, hk, rfl, HB_wr, HBB, HO⟩ := hrel
    replace H_n := Lib.hid (H_n.out.below HBB.out)
    by_cases hlt : k < l.length
    · obtain ⟨b', off, rfl, hb, hrow⟩ := HS.out.get hlt
      obtain ⟨g_0, e_0, e_1, e_2, e_3, e_4, -⟩ := ((hrow k hlt).below HB_wr hb).c12
      have HROW := Lib.hid (hrow k hlt)
      have HYES := Lib.hid (@toldF_yes l k x y hlt)
      have HNO := Lib.hid (@toldF_no l k x y hlt)
      have HBX := Lib.hid (@sound_told l[k] (HSND.out _ (List.getElem_mem hlt)))
      have HRH := Lib.hid (fun W => rholds_any l[k].area x y W)
      have hyl := toldF_len (l.take k) x y
      rw [List.length_take] at hyl
      replace hyl : (toldF (l.take k) x y).length ≤ 50 := by omega
      clear hrow e_0 g_0
      generalize l[k] = d at *
      generalize toldF (l.take k) x y = ys at *
      obtain ⟨d0, told, ⟨d2, d3, d4, d5⟩, d6, drop, ⟨d8, d9, d10, d11⟩⟩ := d
      dsimp only at e_1 e_2 e_3 e_4 HYES HNO HBX HRH
      dsimp only [eB] at HRH
      have HIH := Lib.hid (fun h => @inB_hold ⟨d2, d3, d4, d5⟩ h x y)
      obtain ⟨q0, q1⟩ := H_n.out.c2
      have f_0 := e_1
      have f_1 := e_2
      have f_2 := e_3
      have f_3 := e_4
      have f_4 := q0
      have f_5 := q1
      clear e_1 e_2 e_3 e_4 q0 q1
      go_wp2_with fail
      try clear q_n_0 q_n_1
      have y_f_0 := cell_regrown f_0
      have y_f_1 := cell_regrown f_1
      have y_f_2 := cell_regrown f_2
      have y_f_3 := cell_regrown f_3
      have y_f_4 := cell_regrown f_4
      have y_f_5 := cell_regrown f_5
      clear f_0 f_1 f_2 f_3 f_4 f_5
      refine wp_region_plan (C := fun w' => ∃ p : Regrown, w' = grow (redrawn wr p.d) p.os) (.q 0 (.q 1 (.q 2 (.q 3 (.q 4 (.q 5 (.e 6 (.q 7 (.done))))))))) 8 (by kernel_rfl) (by kernel_rfl) (grew_drew _) ?_
      repeat (any_goals (first | (go_big_quiet_skip; refine wpQuiet_nil ?_) | (go_big_quiet_want; go_big_quiet_op; go_big_quiet_on; refine wpQuiet_nil ?_) | ((with_reducible apply q_split); exact rfl; intro q hq; cases q <;> (rw [hq]; (try first | replace hq := bnot_t hq | replace hq := bnot_f hq); (try first | replace hq := of_decide_eq_true hq | replace hq := of_decide_eq_false hq | replace hq := eq_of_beq hq); (try first | replace hq := Int.not_lt.1 hq | replace hq := Int.not_le.1 hq | replace hq := Nat.not_lt.1 hq | replace hq := Nat.not_le.1 hq); try (exfalso; omega))) | (refine plan_q rfl rfl ?_)))
      refine plan_e rfl ?_
      go_wp2_with fail
      refine (HRH.out _).mono ?_
      rintro e wc ⟨rfl, hb_wc⟩
      have HW_wc : Below wr.heap.size wr wc := below_undrew hb_wc
      clear hb_wc
      go_wp2_with fail
      refine MixPost.intro (grew_of_below HW_wc) ?_
      repeat (any_goals (first | (go_big_quiet_skip; refine wpQuiet_nil ?_) | (go_big_quiet_want; go_big_quiet_op; go_big_quiet_on; refine wpQuiet_nil ?_) | ((with_reducible apply q_split); exact rfl; intro q hq; cases q <;> (rw [hq]; (try first | replace hq := bnot_t hq | replace hq := bnot_f hq); (try first | replace hq := of_decide_eq_true hq | replace hq := of_decide_eq_false hq | replace hq := eq_of_beq hq); (try first | replace hq := Int.not_lt.1 hq | replace hq := Int.not_le.1 hq | replace hq := Nat.not_lt.1 hq | replace hq := Nat.not_le.1 hq); try (exfalso; omega))) | (refine plan_q rfl rfl ?_)))
      clear y_f_0 y_f_1 y_f_2 y_f_3 y_f_4 y_f_5
      have HB_wc := after0 HB_wr HW_wc
      obtain ⟨f_0, f_1, -⟩ := (HROW.out.below HB_wc hb).c12
      dsimp only at f_0 f_1
      have HO2 := Lib.hid (HO.out.below HW_wc)
      have HBB2 := Lib.hid (HBB.out.trans (HW_wc.mono HBB.out.size))
      replace H_n := Lib.hid (H_n.out.below HW_wc)
      clear HROW HO HRH
      generalize holdB ⟨d2, d3, d4, d5⟩ x y = hb2 at *
      generalize inB ⟨d2, d3, d4, d5⟩ x y = ib at *
      cases told
      · have HNX := Lib.hid (HNO.out (.inr rfl))
        clear HNO HYES HIH HBX
        all_goals refine plan_done ?_
        all_goals (try simp only [List.drop_succ_cons, List.drop_zero])
        all_goals (try go_wp2_with fail)
        all_goals refine NoPanic.normal ?_
        all_goals (try go_wp2_with fail)
        go_roundw
        case rel => exact ⟨k + 1, hlt, by go_num, HB_wc, HBB2.out, by rw [HNX.out]; exact HO2.out⟩
        case measure => simp [intOf] <;> omega
      obtain rfl := HIH.out (HBX.out rfl)
      cases ib
      · have HNX := Lib.hid (HNO.out (.inl rfl))
        clear HNO HYES HIH HBX
        all_goals refine plan_done ?_
        all_goals (try simp only [List.drop_succ_cons, List.drop_zero])
        all_goals (try go_wp2_with fail)
        all_goals refine NoPanic.normal ?_
        all_goals (try go_wp2_with fail)
        go_roundw
        case rel => exact ⟨k + 1, hlt, by go_num, HB_wc, HBB2.out, by rw [HNX.out]; exact HO2.out⟩
        case measure => simp [intOf] <;> omega
      have HNX := Lib.hid (HYES.out rfl rfl)
      clear HNO HYES HIH HBX
      have HOX := Lib.hid (HO2.out.alloc (.cells #[.int .i64 d0] 3))
      have HSX : Hid (Sl (wc.alloc (.cells #[.int .i64 d0] 3)) 1 cI (some ⟨wc.heap.size, 0, none⟩) 1 1 [d0]) := Sl.one (x := d0) cI_len (Box.new wc (cI d0) 3)
      have hszx : wb.heap.size ≤ (wc.alloc (.cells #[.int .i64 d0] 3)).heap.size := by have := HBB2.out.size; simp; omega
      refine plan_done ?_
      try simp only [List.drop_succ_cons, List.drop_zero]
      go_wp2_with fail
      refine NoPanic.normal ?_
      go_wp2_with (at_builtin; refine wpList_append_sl rfl _ _ 51 rfl wb.heap.size 3 i0 _ 1 8 Try.underlying51 HI.out HZ0.out HZ1.out HZ2.out rfl (by decide) cI_len cI_one _ ys rfl HOX.out (some ⟨wc.heap.size, 0, none⟩) 1 1 [d0] rfl HSX.out (by unfold maxLen; omega) (by omega) hszx ?_)
      rintro v' w6 ho6 hg6 hgr6
      have HBB6 := Lib.hid ((grew1 HBB2.out).trans (hg6 _ (Nat.le_refl _)))
      have HB_6 : Below w.heap.size w w6 := after0 HB_wb HBB6.out
      have HO6 := Lib.hid ho6
      clear ho6 hg6 hgr6 HOX HSX hszx HO2 f_0 f_1
      go_wp2_with fail
      go_roundw
      case rel => exact ⟨k + 1, hlt, by go_num, HB_6, HBB6.out, by rw [HNX.out]; exact HO6.out⟩
      case measure => simp [intOf] <;> omega
    · obtain rfl : k = l.length := by omega
      rw [List.take_length] at HO
      obtain ⟨o1, c1, rfl, hs1⟩ := HO.out.sl cI_len
      have H1 := Lib.hid hs1
      clear hs1 HO
      go_wp2_with fail
      go_ret2
      exact ⟨_, _, by rw [HP.out]; rfl, by rw [HP.out]; exact H1.out, HB_wr⟩
end Go.Proofs.Ytmbnhlihcnbebaa
