/-
  Walks of the layer 'eyes': Valid (a list of acts).
-/
import Derived.Test.YtmbnhlihcnbebaaEyJ
set_option linter.unusedVariables false
namespace Ey
def cmpI (a b : Int) : Int := if a < b then -1 else if b < a then 1 else 0
def TimeUp (l : List Ac) : Prop := l.Pairwise (fun a b => a.time ≤ b.time)
instance (l : List Ac) : Decidable (TimeUp l) := inferInstanceAs (Decidable (l.Pairwise _))
theorem timeUp_adj : ∀ (l : List Ac), (∀ (i : Nat) (h : i + 1 < l.length), l[i].time ≤ l[i + 1].time) → TimeUp l
  | [], _ => .nil
  | [_], _ => by unfold TimeUp; simp
  | a :: b :: l, h => by
    have ih := timeUp_adj (b :: l) (fun i hi => by have := h (i + 1) (by simpa using hi); simpa using this)
    have hab : a.time ≤ b.time := by have := h 0 (by simp); simpa using this
    refine .cons ?_ ih
    intro c hc
    rcases List.mem_cons.1 hc with rfl | hc
    · exact hab
    · have := (List.pairwise_cons.1 ih).1 c hc
      omega
theorem timeUp_false {l : List Ac} {i : Nat} (h : i + 1 < l.length) (hlt : l[i + 1].time < l[i].time) : decide (TimeUp l) = false := by
  refine decide_eq_false fun hp => ?_
  have := List.pairwise_iff_getElem.1 hp i (i + 1) (by omega) h (by omega)
  omega
theorem validL_eq (l : List Ac) : validL l = (decide (l.length ≤ 200) && decide (TimeUp l) && !l.any (fun a => !validA a)) := by
  unfold validL TimeUp
  rw [List.any_eq_not_all_not, Bool.not_not]
  simp only [Bool.not_not]
  cases decide (l.length ≤ 200) <;> cases l.all validA <;> first | rfl | (simp; done) | (simp; rfl)
end Ey
namespace Go.Proofs.Ytmbnhlihcnbebaa
open Go Go.RowKit Ey Sk Go.Sort
theorem isNaN_any (a : Int) (w : World) : Calls Try.prog 67 #[.int .i64 a] w (Ret w (.bool false)) := by
  go_enter Try.func67, Try.ntmps67
  go_wp2
  all_goals
    go_ret
    exact ⟨ret_bool (by simp), Below.refl _ _⟩
theorem compare_any (a b : Int) (w : World) : Calls Try.prog 42 #[.int .i64 a, .int .i64 b] w (Ret w (.int .i64 (cmpI a b))) := by
  have HB_w : Below w.heap.size w w := Below.refl _ _
  have HC := Lib.hid (show cmpI a b = if a < b then -1 else if b < a then 1 else 0 from rfl)
  generalize cmpI a b = c at *
  go_enter Try.func42, Try.ntmps42
  go_wp2_with fail
  refine (isNaN_any _ _).mono ?_
  rintro e wa ⟨rfl, hb_wa⟩
  have HB_wa : Below w.heap.size w wa := by first | exact after0 HB_w hb_wa | exact after1 HB_w hb_wa | exact after2 HB_w hb_wa | exact after3 HB_w hb_wa | exact after4 HB_w hb_wa | exact after5 HB_w hb_wa
  go_wp2_with fail
  refine (isNaN_any _ _).mono ?_
  rintro e wb ⟨rfl, hb_wb⟩
  have HB_wb : Below w.heap.size w wb := by first | exact after0 HB_wa hb_wb | exact after1 HB_wa hb_wb | exact after2 HB_wa hb_wb | exact after3 HB_wa hb_wb | exact after4 HB_wa hb_wb | exact after5 HB_wa hb_wb
  by_cases h1 : a < b
  · have HP := Lib.hid (HC.out.trans (if_pos h1))
    go_wp2_with fail
    go_ret
    exact ⟨ret_int HP.out.symm, HB_wb⟩
  have HP := Lib.hid (HC.out.trans (if_neg h1))
  replace h1 := Int.not_lt.1 h1
  by_cases h2 : b < a
  · have HP2 := Lib.hid (HP.out.trans (if_pos h2))
    go_wp2_with fail
    go_ret
    exact ⟨ret_int HP2.out.symm, HB_wb⟩
  · have HP2 := Lib.hid (HP.out.trans (if_neg h2))
    replace h2 := Int.not_lt.1 h2
    go_wp2_with fail
    go_ret
    exact ⟨ret_int HP2.out.symm, HB_wb⟩
theorem valid1_any (a b : Ac) (w : World) : Calls Try.prog 41 #[eA a, eA b] w (Ret w (.int .i64 (cmpI a.time b.time))) := by
  obtain ⟨a0, a1, a2, a3, ⟨a4, a5, a6, a7⟩⟩ := a
  obtain ⟨b0, b1, b2, b3, ⟨b4, b5, b6, b7⟩⟩ := b
  dsimp only [eA]
  have HB_w : Below w.heap.size w w := Below.refl _ _
  go_enter Try.func41, Try.ntmps41
  go_wp2_with fail
  refine (compare_any a3 b3 _).mono ?_
  rintro e wa ⟨rfl, hb_wa⟩
  have HB_wa : Below w.heap.size w wa := by first | exact after0 HB_w hb_wa | exact after1 HB_w hb_wa | exact after2 HB_w hb_wa | exact after3 HB_w hb_wa | exact after4 HB_w hb_wa | exact after5 HB_w hb_wa
  go_wp2_with fail
  go_ret
  exact ⟨rfl, HB_wa⟩
theorem valid2_any (a : Ac) (w : World) : Calls Try.prog 45 #[eA a] w (Ret w (.bool (!validA a))) := by
  have HV := Lib.hid (fun W => valid_any a W)
  generalize validA a = p at *
  obtain ⟨a0, a1, a2, a3, ⟨a4, a5, a6, a7⟩⟩ := a
  dsimp only [eA] at HV ⊢
  have HB_w : Below w.heap.size w w := Below.refl _ _
  go_enter Try.func45, Try.ntmps45
  go_wp2_with fail
  refine (HV.out _).mono ?_
  rintro e wa ⟨rfl, hb_wa⟩
  have HB_wa : Below w.heap.size w wa := by first | exact after0 HB_w hb_wa | exact after1 HB_w hb_wa | exact after2 HB_w hb_wa | exact after3 HB_w hb_wa | exact after4 HB_w hb_wa | exact after5 HB_w hb_wa
  go_wp2_with fail
  go_ret
  exact ⟨rfl, HB_wa⟩

set_option maxRecDepth 100000 in
set_option maxHeartbeats 1000000 in
theorem index_any (ao : Option Addr) (n cap : Nat) (l : List Ac) (g : Nat) (lb : Array Value) (p : Ac → Bool) (w : World) (hs : Sl w 8 cA ao n cap l) (hp : Asks Try.prog g lb eA p l w)
    (eg : ∀ args w, (callFunc g args).run Try.prog w = .ok (.enter g args) w) :
    Calls Try.prog 68 #[.slice ao n cap, .func (.func g) #[] lb] w (Ret w (.int .i64 (fIdx p l))) := by
  obtain rfl := hs.len
  have hcap := hs.max
  have hle := hs.le
  unfold maxLen at hcap
  have HS : Hid (Sl w 8 cA ao l.length cap l) := hs
  have HP : Hid (Asks Try.prog g lb eA p l w) := hp
  clear hs hp
  go_enter Try.func68, Try.ntmps68
  go_wp2
  go_loopw [5, 8] (fun _ i wr => ∃ k : Nat, k ≤ l.length ∧ i = .int .i64 k ∧ Below w.heap.size w wr ∧ Hid (∀ j (h : j < l.length), j < k → p l[j] = false)) (fun _ i _ => l.length - (intOf i).toNat)
  case atStart => exact ⟨0, Nat.zero_le _, rfl, Below.refl _ _, fun j _ h => absurd h (Nat.not_lt_zero _)⟩
  case round =>
    obtain ⟨k, hk, rfl, hbel, HN⟩ := hrel
    by_cases hlt : k < l.length
    · obtain ⟨b, off, rfl, hb, hrow⟩ := HS.out.get hlt
      obtain ⟨h0, h1, h2, h3, h4, h5, h6, h7⟩ := ((hrow k hlt).below hbel hb).c8
      have hcall := HP.out wr l[k] hbel (List.getElem_mem hlt)
      clear hrow
      by_cases hpk : p l[k] = true
      · have HR : Hid (fIdx p l = k) := fIdx_hit hlt hpk HN.out
        go_wp2_with fail
        refine hcall.mono ?_
        rintro e w' ⟨rfl, hb2⟩
        clear hcall h0 h1 h2 h3 h4 h5 h6 h7
        go_wp2
        go_ret
        exact ⟨ret_int HR.out.symm, hbel.trans (hb2.mono hbel.size)⟩
      · have HR : Hid (∀ j (h : j < l.length), j < k + 1 → p l[j] = false) := fun j h hj => by
          by_cases hjk : j = k
          · subst hjk; simpa using hpk
          · exact HN.out j h (by omega)
        go_wp2_with fail
        refine hcall.mono ?_
        rintro e w' ⟨rfl, hb2⟩
        clear hcall h0 h1 h2 h3 h4 h5 h6 h7
        go_wp2
        go_roundw
        case rel => exact ⟨k + 1, by omega, by go_num, hbel.trans (hb2.mono hbel.size), HR⟩
        case measure => simp [intOf]; omega
    · have HR : Hid (fIdx p l = -1) := fIdx_miss fun j hj => HN.out j hj (by omega)
      go_wp2
      go_ret
      exact ⟨ret_int HR.out.symm, hbel⟩

theorem contains_any (ao : Option Addr) (n cap : Nat) (l : List Ac) (g : Nat) (lb : Array Value) (p : Ac → Bool) (w : World) (hs : Sl w 8 cA ao n cap l) (hp : Asks Try.prog g lb eA p l w)
    (eg : ∀ args w, (callFunc g args).run Try.prog w = .ok (.enter g args) w) :
    Calls Try.prog 44 #[.slice ao n cap, .func (.func g) #[] lb] w (Ret w (.bool (l.any p))) := by
  have hc := index_any ao n cap l g lb p w hs hp eg
  have HA : Hid (l.any p = true ↔ 0 ≤ fIdx p l) := any_fIdx
  clear hs hp
  generalize l.any p = q at *
  generalize fIdx p l = r at *
  go_enter Try.func44, Try.ntmps44
  go_wp2_with fail
  refine hc.mono ?_
  rintro e w' ⟨rfl, hb2⟩
  go_wp2
  go_ret
  exact ⟨ret_bool (by rw [HA.out]; simp), hb2⟩

set_option maxRecDepth 100000 in
set_option maxHeartbeats 4000000 in
theorem isSorted_any (ao : Option Addr) (n cap : Nat) (l : List Ac) (w : World) (hs : Sl w 8 cA ao n cap l) : Calls Try.prog 43 #[.slice ao n cap, .func (.func 41) #[] #[]] w (Ret w (.bool (decide (TimeUp l)))) := by
  obtain rfl := hs.len
  have hcap := hs.max
  have hle := hs.le
  unfold maxLen at hcap
  have HS := Lib.hid hs
  have HB_w : Below w.heap.size w w := Below.refl _ _
  have HF := Lib.hid (fun i => @timeUp_false l i)
  have HT := Lib.hid (timeUp_adj l)
  clear hs
  obtain ⟨v, hv⟩ : ∃ v, decide (TimeUp l) = v := ⟨_, rfl⟩
  rw [hv]
  have HV := Lib.hid hv
  clear hv
  go_enter Try.func43, Try.ntmps43
  go_wp2_with fail
  go_loopw [5] (fun i wr => ∃ (k : Nat) (z : Int), (k = 0 ∨ k < l.length) ∧ i = .int .i64 z ∧ ((z = k ∧ k < l.length) ∨ (z = -1 ∧ l.length = 0 ∧ k = 0)) ∧ Below w.heap.size w wr ∧ Hid (∀ (i : Nat) (h : i + 1 < l.length), k ≤ i → l[i].time ≤ l[i + 1].time)) (fun i _ => (intOf i).toNat)
  case atStart =>
    rcases Nat.eq_zero_or_pos l.length with h0 | h0
    · exact ⟨0, -1, .inl rfl, by go_num, .inr ⟨rfl, h0, rfl⟩, HB_w, fun i h _ => by omega⟩
    · exact ⟨l.length - 1, _, .inr (by omega), rfl, .inl ⟨by omega, by omega⟩, HB_w, fun i h hi => by omega⟩
  case round =>
    obtain ⟨k, z, hk, rfl, hz, HB_wr, HN⟩ := hrel
    rcases k with _ | k
    · have hz0 : z ≤ 0 := by omega
      have HP := Lib.hid (show true = v by rw [← HV.out]; exact (decide_eq_true (HT.out (fun i h => HN.out i h (Nat.zero_le _)))).symm)
      clear hz hk HN
      go_wp2_with fail
      all_goals try (exfalso; omega)
      go_ret
      exact ⟨ret_bool' HP.out, HB_wr⟩
    · obtain rfl : z = ((k + 1 : Nat) : Int) := by omega
      have hkl : k + 1 < l.length := by omega
      clear hz hk
      obtain ⟨b, off, rfl, hb, hrow⟩ := HS.out.get hkl
      obtain ⟨e_0, e_1, e_2, e_3, e_4, e_5, e_6, e_7⟩ := ((hrow (k + 1) hkl).below HB_wr hb).c8
      obtain ⟨f_0, f_1, f_2, f_3, f_4, f_5, f_6, f_7⟩ := ((hrow k (by omega)).below HB_wr hb).c8
      have HC := Lib.hid (fun W => valid1_any l[k + 1] l[k] W)
      have HFK := Lib.hid (HF.out k hkl)
      have HNN := Lib.hid (show l[k].time ≤ l[k + 1].time → ∀ (i : Nat) (h : i + 1 < l.length), k ≤ i → l[i].time ≤ l[i + 1].time from fun h1 i h hi => by
        rcases Nat.eq_or_lt_of_le hi with rfl | h2
        · exact h1
        · exact HN.out i h h2)
      clear hrow HN
      generalize l[k + 1] = x at *
      generalize l[k] = y at *
      obtain ⟨x0, x1, x2, x3, ⟨x4, x5, x6, x7⟩⟩ := x
      obtain ⟨y0, y1, y2, y3, ⟨y4, y5, y6, y7⟩⟩ := y
      dsimp only [eA] at e_0 e_1 e_2 e_3 e_4 e_5 e_6 e_7 f_0 f_1 f_2 f_3 f_4 f_5 f_6 f_7 HC HFK HNN
      by_cases hxy : x3 < y3
      · have HP := Lib.hid (show false = v by rw [← HV.out]; exact (HFK.out hxy).symm)
        rw [show cmpI x3 y3 = -1 by unfold cmpI; rw [if_pos hxy]] at HC
        clear HFK HNN hxy
        go_wp2_with fail
        all_goals try (exfalso; omega)
        have y_e_0 := cell_regrown e_0
        have y_e_1 := cell_regrown e_1
        have y_e_2 := cell_regrown e_2
        have y_e_3 := cell_regrown e_3
        have y_e_4 := cell_regrown e_4
        have y_e_5 := cell_regrown e_5
        have y_e_6 := cell_regrown e_6
        have y_e_7 := cell_regrown e_7
        clear e_0 e_1 e_2 e_3 e_4 e_5 e_6 e_7
        have y_f_0 := cell_regrown f_0
        have y_f_1 := cell_regrown f_1
        have y_f_2 := cell_regrown f_2
        have y_f_3 := cell_regrown f_3
        have y_f_4 := cell_regrown f_4
        have y_f_5 := cell_regrown f_5
        have y_f_6 := cell_regrown f_6
        have y_f_7 := cell_regrown f_7
        clear f_0 f_1 f_2 f_3 f_4 f_5 f_6 f_7
        refine wp_region_plan (C := fun w' => ∃ p : Regrown, w' = grow (redrawn wr p.d) p.os) (.q 0 (.q 1 (.q 2 (.q 3 (.q 4 (.q 5 (.q 6 (.q 7 (.q 8 (.q 9 (.e 10 (.q 11 (.done))))))))))))) 12 (by kernel_rfl) (by kernel_rfl) (grew_drew _) ?_
        repeat (any_goals (first | (go_big_quiet_skip; refine wpQuiet_nil ?_) | (go_big_quiet_want; go_big_quiet_op; go_big_quiet_on; refine wpQuiet_nil ?_) | ((with_reducible apply q_split); exact rfl; intro q hq; cases q <;> (rw [hq]; (try first | replace hq := bnot_t hq | replace hq := bnot_f hq); (try first | replace hq := of_decide_eq_true hq | replace hq := of_decide_eq_false hq | replace hq := eq_of_beq hq); (try first | replace hq := Int.not_lt.1 hq | replace hq := Int.not_le.1 hq | replace hq := Nat.not_lt.1 hq | replace hq := Nat.not_le.1 hq); try (exfalso; omega))) | (refine plan_q rfl rfl ?_)))
        refine plan_e rfl ?_
        go_wp2_with fail
        refine (HC.out _).mono ?_
        rintro e wa ⟨rfl, hb_wa⟩
        have HW_wa : Below wr.heap.size wr wa := below_undrew hb_wa
        clear hb_wa
        go_wp2_with fail
        refine MixPost.intro (grew_of_below HW_wa) ?_
        repeat (any_goals (first | (go_big_quiet_skip; refine wpQuiet_nil ?_) | (go_big_quiet_want; go_big_quiet_op; go_big_quiet_on; refine wpQuiet_nil ?_) | ((with_reducible apply q_split); exact rfl; intro q hq; cases q <;> (rw [hq]; (try first | replace hq := bnot_t hq | replace hq := bnot_f hq); (try first | replace hq := of_decide_eq_true hq | replace hq := of_decide_eq_false hq | replace hq := eq_of_beq hq); (try first | replace hq := Int.not_lt.1 hq | replace hq := Int.not_le.1 hq | replace hq := Nat.not_lt.1 hq | replace hq := Nat.not_le.1 hq); try (exfalso; omega))) | (refine plan_q rfl rfl ?_)))
        clear y_e_0 y_e_1 y_e_2 y_e_3 y_e_4 y_e_5 y_e_6 y_e_7
        clear y_f_0 y_f_1 y_f_2 y_f_3 y_f_4 y_f_5 y_f_6 y_f_7
        all_goals refine plan_done ?_
        all_goals (try simp only [List.drop_succ_cons, List.drop_zero])
        all_goals (try go_wp2_with fail)
        all_goals refine NoPanic.normal ?_
        all_goals (try go_wp2_with fail)
        have HB_wa := after0 HB_wr HW_wa
        go_ret
        exact ⟨ret_bool' HP.out, HB_wa⟩
      · have HNX := Lib.hid (HNN.out (by omega))
        have hc0 : 0 ≤ cmpI x3 y3 := by unfold cmpI; rw [if_neg hxy]; split <;> omega
        generalize cmpI x3 y3 = c at *
        clear HFK HNN hxy
        go_wp2_with fail
        all_goals try (exfalso; omega)
        have y_e_0 := cell_regrown e_0
        have y_e_1 := cell_regrown e_1
        have y_e_2 := cell_regrown e_2
        have y_e_3 := cell_regrown e_3
        have y_e_4 := cell_regrown e_4
        have y_e_5 := cell_regrown e_5
        have y_e_6 := cell_regrown e_6
        have y_e_7 := cell_regrown e_7
        clear e_0 e_1 e_2 e_3 e_4 e_5 e_6 e_7
        have y_f_0 := cell_regrown f_0
        have y_f_1 := cell_regrown f_1
        have y_f_2 := cell_regrown f_2
        have y_f_3 := cell_regrown f_3
        have y_f_4 := cell_regrown f_4
        have y_f_5 := cell_regrown f_5
        have y_f_6 := cell_regrown f_6
        have y_f_7 := cell_regrown f_7
        clear f_0 f_1 f_2 f_3 f_4 f_5 f_6 f_7
        refine wp_region_plan (C := fun w' => ∃ p : Regrown, w' = grow (redrawn wr p.d) p.os) (.q 0 (.q 1 (.q 2 (.q 3 (.q 4 (.q 5 (.q 6 (.q 7 (.q 8 (.q 9 (.e 10 (.q 11 (.done))))))))))))) 12 (by kernel_rfl) (by kernel_rfl) (grew_drew _) ?_
        repeat (any_goals (first | (go_big_quiet_skip; refine wpQuiet_nil ?_) | (go_big_quiet_want; go_big_quiet_op; go_big_quiet_on; refine wpQuiet_nil ?_) | ((with_reducible apply q_split); exact rfl; intro q hq; cases q <;> (rw [hq]; (try first | replace hq := bnot_t hq | replace hq := bnot_f hq); (try first | replace hq := of_decide_eq_true hq | replace hq := of_decide_eq_false hq | replace hq := eq_of_beq hq); (try first | replace hq := Int.not_lt.1 hq | replace hq := Int.not_le.1 hq | replace hq := Nat.not_lt.1 hq | replace hq := Nat.not_le.1 hq); try (exfalso; omega))) | (refine plan_q rfl rfl ?_)))
        refine plan_e rfl ?_
        go_wp2_with fail
        refine (HC.out _).mono ?_
        rintro e wa ⟨rfl, hb_wa⟩
        have HW_wa : Below wr.heap.size wr wa := below_undrew hb_wa
        clear hb_wa
        go_wp2_with fail
        refine MixPost.intro (grew_of_below HW_wa) ?_
        repeat (any_goals (first | (go_big_quiet_skip; refine wpQuiet_nil ?_) | (go_big_quiet_want; go_big_quiet_op; go_big_quiet_on; refine wpQuiet_nil ?_) | ((with_reducible apply q_split); exact rfl; intro q hq; cases q <;> (rw [hq]; (try first | replace hq := bnot_t hq | replace hq := bnot_f hq); (try first | replace hq := of_decide_eq_true hq | replace hq := of_decide_eq_false hq | replace hq := eq_of_beq hq); (try first | replace hq := Int.not_lt.1 hq | replace hq := Int.not_le.1 hq | replace hq := Nat.not_lt.1 hq | replace hq := Nat.not_le.1 hq); try (exfalso; omega))) | (refine plan_q rfl rfl ?_)))
        clear y_e_0 y_e_1 y_e_2 y_e_3 y_e_4 y_e_5 y_e_6 y_e_7
        clear y_f_0 y_f_1 y_f_2 y_f_3 y_f_4 y_f_5 y_f_6 y_f_7
        all_goals refine plan_done ?_
        all_goals (try simp only [List.drop_succ_cons, List.drop_zero])
        all_goals (try go_wp2_with fail)
        all_goals refine NoPanic.normal ?_
        all_goals (try go_wp2_with fail)
        have HB_wa := after0 HB_wr HW_wa
        go_roundw
        case rel => exact ⟨k, (k : Int), .inr (by omega), by go_num, .inl ⟨rfl, by omega⟩, HB_wa, HNX.out⟩
        case measure => simp [intOf] <;> omega

set_option maxRecDepth 100000 in
set_option maxHeartbeats 4000000 in
theorem Valid_any (ao : Option Addr) (n cap : Nat) (l : List Ac) (w : World) (hs : Sl w 8 cA ao n cap l) : Calls Try.prog 18 #[.slice ao n cap] w (Ret w (.bool (validL l))) := by
  obtain rfl := hs.len
  have hcap := hs.max
  have hle := hs.le
  unfold maxLen at hcap
  have HS := Lib.hid hs
  have HB_w : Below w.heap.size w w := Below.refl _ _
  have HE := Lib.hid (validL_eq l)
  clear hs
  generalize validL l = v at *
  go_enter Try.func18, Try.ntmps18
  by_cases h9 : 200 < l.length
  · have HP := Lib.hid (show v = false by rw [HE.out, show decide (l.length ≤ 200) = false from decide_eq_false (by omega)]; rfl)
    have h9i : 200 < (l.length : Int) := by omega
    go_wp2_with fail
    all_goals try (exfalso; omega)
    go_ret
    exact ⟨ret_bool' HP.out.symm, HB_w⟩
  have HE2 := Lib.hid (show v = (decide (TimeUp l) && !l.any (fun a => !validA a)) by rw [HE.out, show decide (l.length ≤ 200) = true from decide_eq_true (by omega)]; rfl)
  have h9i : (l.length : Int) ≤ 200 := by omega
  clear HE
  go_wp2_with fail
  all_goals try (exfalso; omega)
  refine (isSorted_any _ _ _ l _ HS.out).mono ?_
  rintro e wa ⟨rfl, hb_wa⟩
  have HB_wa : Below w.heap.size w wa := by first | exact after0 HB_w hb_wa | exact after1 HB_w hb_wa | exact after2 HB_w hb_wa | exact after3 HB_w hb_wa | exact after4 HB_w hb_wa | exact after5 HB_w hb_wa
  have HC := Lib.hid (contains_any _ _ _ l 45 #[] (fun a => !validA a) wa (HS.out.below HB_wa) (fun W x _ _ => valid2_any x W) (fun args w => by kernel_rfl))
  generalize decide (TimeUp l) = t at *
  generalize l.any (fun a => !validA a) = u at *
  cases t
  · have HP := Lib.hid (show v = false by rw [HE2.out]; rfl)
    go_wp2_with fail
    all_goals try (exfalso; omega)
    go_ret
    exact ⟨ret_bool' HP.out.symm, HB_wa⟩
  · have HP := Lib.hid (show v = !u by rw [HE2.out]; rfl)
    go_wp2_with fail
    all_goals try (exfalso; omega)
    refine (HC.out).mono ?_
    rintro e wb ⟨rfl, hb_wb⟩
    have HB_wb : Below w.heap.size w wb := by first | exact after0 HB_wa hb_wb | exact after1 HB_wa hb_wb | exact after2 HB_wa hb_wb | exact after3 HB_wa hb_wb | exact after4 HB_wa hb_wb | exact after5 HB_wa hb_wb
    go_wp2_with fail
    go_ret
    exact ⟨ret_bool' HP.out.symm, HB_wb⟩
end Go.Proofs.Ytmbnhlihcnbebaa
