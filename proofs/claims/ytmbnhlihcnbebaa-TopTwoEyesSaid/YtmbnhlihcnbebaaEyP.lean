/-
  Walks of the layer 'eyes': comparisons of the reference's.
-/
import Derived.Test.YtmbnhlihcnbebaaEyO
set_option linter.unusedVariables false
namespace Ey
theorem same_step {α : Type} {l k : List α} {j : Nat} (hE : ∀ x (h1 : x < l.length) (h2 : x < k.length), x < j → l[x] = k[x]) (hj : j < l.length) (hk : j < k.length) (h : l[j] = k[j]) :
    ∀ x (h1 : x < l.length) (h2 : x < k.length), x < j + 1 → l[x] = k[x] := fun x h1 h2 hx => by
  rcases Nat.lt_succ_iff_lt_or_eq.1 hx with h3 | rfl
  · exact hE x h1 h2 h3
  · exact h
end Ey
namespace Go.Proofs.Ytmbnhlihcnbebaa
open Go Go.RowKit Ey Sk Go.Sort

set_option maxRecDepth 100000 in
set_option maxHeartbeats 4000000 in
theorem neq_dg (a0 a2 a3 a4 a5 a6 a8 a9 a10 a11 b0 b2 b3 b4 b5 b6 b8 b9 b10 b11 : Int) (a1 a7 b1 b7 : Bool) (w : World) : (binOp .neq 33 (.agg #[.int .i64 a0, .bool a1, .int .i64 a2, .int .i64 a3, .int .i64 a4, .int .i64 a5, .int .i64 a6, .bool a7, .int .i64 a8, .int .i64 a9, .int .i64 a10, .int .i64 a11]) (.agg #[.int .i64 b0, .bool b1, .int .i64 b2, .int .i64 b3, .int .i64 b4, .int .i64 b5, .int .i64 b6, .bool b7, .int .i64 b8, .int .i64 b9, .int .i64 b10, .int .i64 b11])).run Try.prog w = .ok (.bool (!decide ((⟨a0, a1, ⟨a2, a3, a4, a5⟩, a6, a7, ⟨a8, a9, a10, a11⟩⟩ : Dg) = ⟨b0, b1, ⟨b2, b3, b4, b5⟩, b6, b7, ⟨b8, b9, b10, b11⟩⟩))) w := by
  by_cases h0 : a0 = b0
  case neg => simp [go_sem, *]
  by_cases h1 : a1 = b1
  case neg => simp [go_sem, *]
  by_cases h2 : a2 = b2
  case neg => simp [go_sem, *]
  by_cases h3 : a3 = b3
  case neg => simp [go_sem, *]
  by_cases h4 : a4 = b4
  case neg => simp [go_sem, *]
  by_cases h5 : a5 = b5
  case neg => simp [go_sem, *]
  by_cases h6 : a6 = b6
  case neg => simp [go_sem, *]
  by_cases h7 : a7 = b7
  case neg => simp [go_sem, *]
  by_cases h8 : a8 = b8
  case neg => simp [go_sem, *]
  by_cases h9 : a9 = b9
  case neg => simp [go_sem, *]
  by_cases h10 : a10 = b10
  case neg => simp [go_sem, *]
  by_cases h11 : a11 = b11
  case neg => simp [go_sem, *]
  simp [go_sem, *]
theorem eql_dg (a0 a2 a3 a4 a5 a6 a8 a9 a10 a11 b0 b2 b3 b4 b5 b6 b8 b9 b10 b11 : Int) (a1 a7 b1 b7 : Bool) (w : World) : (binOp .eql 33 (.agg #[.int .i64 a0, .bool a1, .int .i64 a2, .int .i64 a3, .int .i64 a4, .int .i64 a5, .int .i64 a6, .bool a7, .int .i64 a8, .int .i64 a9, .int .i64 a10, .int .i64 a11]) (.agg #[.int .i64 b0, .bool b1, .int .i64 b2, .int .i64 b3, .int .i64 b4, .int .i64 b5, .int .i64 b6, .bool b7, .int .i64 b8, .int .i64 b9, .int .i64 b10, .int .i64 b11])).run Try.prog w = .ok (.bool (decide ((⟨a0, a1, ⟨a2, a3, a4, a5⟩, a6, a7, ⟨a8, a9, a10, a11⟩⟩ : Dg) = ⟨b0, b1, ⟨b2, b3, b4, b5⟩, b6, b7, ⟨b8, b9, b10, b11⟩⟩))) w := by
  by_cases h0 : a0 = b0
  case neg => simp [go_sem, *]
  by_cases h1 : a1 = b1
  case neg => simp [go_sem, *]
  by_cases h2 : a2 = b2
  case neg => simp [go_sem, *]
  by_cases h3 : a3 = b3
  case neg => simp [go_sem, *]
  by_cases h4 : a4 = b4
  case neg => simp [go_sem, *]
  by_cases h5 : a5 = b5
  case neg => simp [go_sem, *]
  by_cases h6 : a6 = b6
  case neg => simp [go_sem, *]
  by_cases h7 : a7 = b7
  case neg => simp [go_sem, *]
  by_cases h8 : a8 = b8
  case neg => simp [go_sem, *]
  by_cases h9 : a9 = b9
  case neg => simp [go_sem, *]
  by_cases h10 : a10 = b10
  case neg => simp [go_sem, *]
  by_cases h11 : a11 = b11
  case neg => simp [go_sem, *]
  simp [go_sem, *]

set_option maxRecDepth 100000 in
set_option maxHeartbeats 4000000 in
theorem rints_any (ao bo : Option Addr) (n cap m capb : Nat) (l k : List Int) (w : World) (hs : Sl w 1 cI ao n cap l) (ht : Sl w 1 cI bo m capb k) :
    Calls Try.prog 27 #[.slice ao n cap, .slice bo m capb] w (Ret w (.bool (decide (l = k)))) := by
  obtain rfl := hs.len
  obtain rfl := ht.len
  have hcap := hs.max
  have hle := hs.le
  have hcapb := ht.max
  have hleb := ht.le
  unfold maxLen at hcap hcapb
  have HL := Lib.hid hs
  have HK := Lib.hid ht
  clear hs ht
  by_cases hlen : l.length = k.length
  case neg =>
    have HX : Hid (l ≠ k) := fun e => hlen (by rw [e])
    go_enter Try.func27, Try.ntmps27
    go_wp2_with fail
    go_ret
    exact ⟨ret_bool' (decide_eq_false HX.out).symm, Below.refl _ _⟩
  have HLN := Lib.hid hlen
  go_enter Try.func27, Try.ntmps27
  go_wp2_with fail
  clear hlen
  go_loopw [5] (fun i wr => ∃ j : Nat, j ≤ l.length ∧ i = .int .i64 j ∧ Below w.heap.size w wr ∧ Hid (∀ x (h1 : x < l.length) (h2 : x < k.length), x < j → l[x] = k[x])) (fun i _ => l.length - (intOf i).toNat)
  case atStart => exact ⟨0, by omega, rfl, Below.refl _ _, fun x _ _ h => absurd h (Nat.not_lt_zero _)⟩
  case round =>
    obtain ⟨j, hj, rfl, HB_wr, HE⟩ := hrel
    by_cases hjl : j < l.length
    · have hjk : j < k.length := by have := HLN.out; omega
      obtain ⟨b, off, rfl, hb, hrow⟩ := HL.out.get hjl
      obtain ⟨b', off', rfl, hb', hrow'⟩ := HK.out.get hjk
      have e_0 := ((hrow j hjl).below HB_wr hb).c1
      have f_0 := ((hrow' j hjk).below HB_wr hb').c1
      rw [Nat.mul_one] at e_0 f_0
      clear hrow hrow'
      by_cases hq : l[j] = k[j]
      · have HX := Lib.hid (same_step HE.out hjl hjk hq)
        rw [hq] at e_0
        clear HE hq
        generalize k[j] = v at *
        
        
        
        go_wp2_with fail
        have y_e_0 := cell_regrown e_0
        clear e_0
        have y_f_0 := cell_regrown f_0
        clear f_0
        refine wp_region_plan (C := fun w' => ∃ p : Regrown, w' = grow (redrawn wr p.d) p.os) (.q 0 (.q 1 (.q 2 (.q 3 (.q 4 (.q 5 (.q 6 (.q 7 (.q 8 (.done)))))))))) 9 (by kernel_rfl) (by kernel_rfl) (grew_drew _) ?_
        repeat (any_goals (first | (go_big_quiet_skip; refine wpQuiet_nil ?_) | (go_big_quiet_want; go_big_quiet_op; go_big_quiet_on; refine wpQuiet_nil ?_) | ((with_reducible apply q_split); exact rfl; intro q hq; cases q <;> (rw [hq]; (try first | replace hq := bnot_t hq | replace hq := bnot_f hq); (try first | replace hq := of_decide_eq_true hq | replace hq := of_decide_eq_false hq | replace hq := eq_of_beq hq); (try first | replace hq := Int.not_lt.1 hq | replace hq := Int.not_le.1 hq | replace hq := Nat.not_lt.1 hq | replace hq := Nat.not_le.1 hq); try (exfalso; omega))) | (refine plan_q rfl rfl ?_)))
        clear y_e_0
        clear y_f_0
        all_goals refine plan_done ?_
        all_goals (try simp only [List.drop_succ_cons, List.drop_zero])
        all_goals (try go_wp2_with fail)
        all_goals refine NoPanic.normal ?_
        all_goals (try go_wp2_with fail)
        go_roundw
        case rel => exact ⟨j + 1, by omega, by go_num, HB_wr.drew, HX⟩
        case measure => simp [intOf]; omega
      · have HX : Hid (l ≠ k) := fun e => hq (by subst e; rfl)
        have hq' : (l[j] != k[j]) = true := bne_iff_ne.2 hq
        have hq2 : (l[j] == k[j]) = false := beq_eq_false_iff_ne.2 hq
        
        clear HE hq
        generalize l[j] = u at *
        generalize k[j] = v at *
        
        
        
        
        
        go_wp2_with fail
        have y_e_0 := cell_regrown e_0
        clear e_0
        have y_f_0 := cell_regrown f_0
        clear f_0
        refine wp_region_plan (C := fun w' => ∃ p : Regrown, w' = grow (redrawn wr p.d) p.os) (.q 0 (.q 1 (.q 2 (.q 3 (.q 4 (.q 5 (.q 6 (.q 7 (.q 8 (.done)))))))))) 9 (by kernel_rfl) (by kernel_rfl) (grew_drew _) ?_
        repeat (any_goals (first | (go_big_quiet_skip; refine wpQuiet_nil ?_) | (go_big_quiet_want; go_big_quiet_op; go_big_quiet_on; refine wpQuiet_nil ?_) | ((with_reducible apply q_split); exact rfl; intro q hq; cases q <;> (rw [hq]; (try first | replace hq := bnot_t hq | replace hq := bnot_f hq); (try first | replace hq := of_decide_eq_true hq | replace hq := of_decide_eq_false hq | replace hq := eq_of_beq hq); (try first | replace hq := Int.not_lt.1 hq | replace hq := Int.not_le.1 hq | replace hq := Nat.not_lt.1 hq | replace hq := Nat.not_le.1 hq); try (exfalso; omega))) | (refine plan_q rfl rfl ?_)))
        clear y_e_0
        clear y_f_0
        all_goals refine plan_done ?_
        all_goals (try simp only [List.drop_succ_cons, List.drop_zero])
        all_goals (try go_wp2_with fail)
        all_goals refine NoPanic.normal ?_
        all_goals (try go_wp2_with fail)
        go_ret
        exact ⟨ret_bool' (decide_eq_false HX.out).symm, HB_wr.drew⟩
    · have HX : Hid (l = k) := List.ext_getElem HLN.out fun x h1 h2 => HE.out x h1 h2 (by omega)
      clear HE
      go_wp2_with fail
      go_ret
      exact ⟨ret_bool' (decide_eq_true HX.out).symm, HB_wr⟩

set_option maxRecDepth 100000 in
set_option maxHeartbeats 4000000 in
theorem rerrors_any (ao bo : Option Addr) (n cap m capb : Nat) (l k : List Int) (w : World) (hs : Sl w 1 cI ao n cap l) (ht : Sl w 1 cI bo m capb k) :
    Calls Try.prog 17 #[.slice ao n cap, .slice bo m capb] w (Ret w (.bool (decide (l = k)))) := by
  obtain rfl := hs.len
  obtain rfl := ht.len
  have hcap := hs.max
  have hle := hs.le
  have hcapb := ht.max
  have hleb := ht.le
  unfold maxLen at hcap hcapb
  have HL := Lib.hid hs
  have HK := Lib.hid ht
  clear hs ht
  by_cases hlen : l.length = k.length
  case neg =>
    have HX : Hid (l ≠ k) := fun e => hlen (by rw [e])
    go_enter Try.func17, Try.ntmps17
    go_wp2_with fail
    go_ret
    exact ⟨ret_bool' (decide_eq_false HX.out).symm, Below.refl _ _⟩
  have HLN := Lib.hid hlen
  go_enter Try.func17, Try.ntmps17
  go_wp2_with fail
  clear hlen
  go_loopw [5] (fun i wr => ∃ j : Nat, j ≤ l.length ∧ i = .int .i64 j ∧ Below w.heap.size w wr ∧ Hid (∀ x (h1 : x < l.length) (h2 : x < k.length), x < j → l[x] = k[x])) (fun i _ => l.length - (intOf i).toNat)
  case atStart => exact ⟨0, by omega, rfl, Below.refl _ _, fun x _ _ h => absurd h (Nat.not_lt_zero _)⟩
  case round =>
    obtain ⟨j, hj, rfl, HB_wr, HE⟩ := hrel
    by_cases hjl : j < l.length
    · have hjk : j < k.length := by have := HLN.out; omega
      obtain ⟨b, off, rfl, hb, hrow⟩ := HL.out.get hjl
      obtain ⟨b', off', rfl, hb', hrow'⟩ := HK.out.get hjk
      have e_0 := ((hrow j hjl).below HB_wr hb).c1
      have f_0 := ((hrow' j hjk).below HB_wr hb').c1
      rw [Nat.mul_one] at e_0 f_0
      clear hrow hrow'
      by_cases hq : l[j] = k[j]
      · have HX := Lib.hid (same_step HE.out hjl hjk hq)
        rw [hq] at e_0
        clear HE hq
        generalize k[j] = v at *
        
        
        
        go_wp2_with fail
        have y_e_0 := cell_regrown e_0
        clear e_0
        have y_f_0 := cell_regrown f_0
        clear f_0
        refine wp_region_plan (C := fun w' => ∃ p : Regrown, w' = grow (redrawn wr p.d) p.os) (.q 0 (.q 1 (.q 2 (.q 3 (.q 4 (.q 5 (.q 6 (.q 7 (.q 8 (.done)))))))))) 9 (by kernel_rfl) (by kernel_rfl) (grew_drew _) ?_
        repeat (any_goals (first | (go_big_quiet_skip; refine wpQuiet_nil ?_) | (go_big_quiet_want; go_big_quiet_op; go_big_quiet_on; refine wpQuiet_nil ?_) | ((with_reducible apply q_split); exact rfl; intro q hq; cases q <;> (rw [hq]; (try first | replace hq := bnot_t hq | replace hq := bnot_f hq); (try first | replace hq := of_decide_eq_true hq | replace hq := of_decide_eq_false hq | replace hq := eq_of_beq hq); (try first | replace hq := Int.not_lt.1 hq | replace hq := Int.not_le.1 hq | replace hq := Nat.not_lt.1 hq | replace hq := Nat.not_le.1 hq); try (exfalso; omega))) | (refine plan_q rfl rfl ?_)))
        clear y_e_0
        clear y_f_0
        all_goals refine plan_done ?_
        all_goals (try simp only [List.drop_succ_cons, List.drop_zero])
        all_goals (try go_wp2_with fail)
        all_goals refine NoPanic.normal ?_
        all_goals (try go_wp2_with fail)
        go_roundw
        case rel => exact ⟨j + 1, by omega, by go_num, HB_wr.drew, HX⟩
        case measure => simp [intOf]; omega
      · have HX : Hid (l ≠ k) := fun e => hq (by subst e; rfl)
        have hq' : (l[j] != k[j]) = true := bne_iff_ne.2 hq
        have hq2 : (l[j] == k[j]) = false := beq_eq_false_iff_ne.2 hq
        
        clear HE hq
        generalize l[j] = u at *
        generalize k[j] = v at *
        
        
        
        
        
        go_wp2_with fail
        have y_e_0 := cell_regrown e_0
        clear e_0
        have y_f_0 := cell_regrown f_0
        clear f_0
        refine wp_region_plan (C := fun w' => ∃ p : Regrown, w' = grow (redrawn wr p.d) p.os) (.q 0 (.q 1 (.q 2 (.q 3 (.q 4 (.q 5 (.q 6 (.q 7 (.q 8 (.done)))))))))) 9 (by kernel_rfl) (by kernel_rfl) (grew_drew _) ?_
        repeat (any_goals (first | (go_big_quiet_skip; refine wpQuiet_nil ?_) | (go_big_quiet_want; go_big_quiet_op; go_big_quiet_on; refine wpQuiet_nil ?_) | ((with_reducible apply q_split); exact rfl; intro q hq; cases q <;> (rw [hq]; (try first | replace hq := bnot_t hq | replace hq := bnot_f hq); (try first | replace hq := of_decide_eq_true hq | replace hq := of_decide_eq_false hq | replace hq := eq_of_beq hq); (try first | replace hq := Int.not_lt.1 hq | replace hq := Int.not_le.1 hq | replace hq := Nat.not_lt.1 hq | replace hq := Nat.not_le.1 hq); try (exfalso; omega))) | (refine plan_q rfl rfl ?_)))
        clear y_e_0
        clear y_f_0
        all_goals refine plan_done ?_
        all_goals (try simp only [List.drop_succ_cons, List.drop_zero])
        all_goals (try go_wp2_with fail)
        all_goals refine NoPanic.normal ?_
        all_goals (try go_wp2_with fail)
        go_ret
        exact ⟨ret_bool' (decide_eq_false HX.out).symm, HB_wr.drew⟩
    · have HX : Hid (l = k) := List.ext_getElem HLN.out fun x h1 h2 => HE.out x h1 h2 (by omega)
      clear HE
      go_wp2_with fail
      go_ret
      exact ⟨ret_bool' (decide_eq_true HX.out).symm, HB_wr⟩

set_option maxRecDepth 100000 in
set_option maxHeartbeats 4000000 in
theorem rsame_any (ao bo : Option Addr) (n cap m capb : Nat) (l k : List Dg) (w : World) (hs : Sl w 12 cD ao n cap l) (ht : Sl w 12 cD bo m capb k) :
    Calls Try.prog 16 #[.slice ao n cap, .slice bo m capb] w (Ret w (.bool (decide (l = k)))) := by
  obtain rfl := hs.len
  obtain rfl := ht.len
  have hcap := hs.max
  have hle := hs.le
  have hcapb := ht.max
  have hleb := ht.le
  unfold maxLen at hcap hcapb
  have HL := Lib.hid hs
  have HK := Lib.hid ht
  clear hs ht
  by_cases hlen : l.length = k.length
  case neg =>
    have HX : Hid (l ≠ k) := fun e => hlen (by rw [e])
    go_enter Try.func16, Try.ntmps16
    go_wp2_with fail
    go_ret
    exact ⟨ret_bool' (decide_eq_false HX.out).symm, Below.refl _ _⟩
  have HLN := Lib.hid hlen
  go_enter Try.func16, Try.ntmps16
  go_wp2_with fail
  clear hlen
  go_loopw [5] (fun i wr => ∃ j : Nat, j ≤ l.length ∧ i = .int .i64 j ∧ Below w.heap.size w wr ∧ Hid (∀ x (h1 : x < l.length) (h2 : x < k.length), x < j → l[x] = k[x])) (fun i _ => l.length - (intOf i).toNat)
  case atStart => exact ⟨0, by omega, rfl, Below.refl _ _, fun x _ _ h => absurd h (Nat.not_lt_zero _)⟩
  case round =>
    obtain ⟨j, hj, rfl, HB_wr, HE⟩ := hrel
    by_cases hjl : j < l.length
    · have hjk : j < k.length := by have := HLN.out; omega
      obtain ⟨b, off, rfl, hb, hrow⟩ := HL.out.get hjl
      obtain ⟨b', off', rfl, hb', hrow'⟩ := HK.out.get hjk
      obtain ⟨e_0, e_1, e_2, e_3, e_4, e_5, e_6, e_7, e_8, e_9, e_10, e_11⟩ := ((hrow j hjl).below HB_wr hb).c12
      obtain ⟨f_0, f_1, f_2, f_3, f_4, f_5, f_6, f_7, f_8, f_9, f_10, f_11⟩ := ((hrow' j hjk).below HB_wr hb').c12
      
      clear hrow hrow'
      by_cases hq : l[j] = k[j]
      · have HX := Lib.hid (same_step HE.out hjl hjk hq)
        rw [hq] at e_0 e_1 e_2 e_3 e_4 e_5 e_6 e_7 e_8 e_9 e_10 e_11
        clear HE hq
        generalize k[j] = v at *
        obtain ⟨b0, b1, ⟨b2, b3, b4, b5⟩, b6, b7, ⟨b8, b9, b10, b11⟩⟩ := v
        dsimp only at *
        have hne := neq_dg b0 b2 b3 b4 b5 b6 b8 b9 b10 b11 b0 b2 b3 b4 b5 b6 b8 b9 b10 b11 b1 b7 b1 b7
        rw [decide_eq_true rfl] at hne
        go_wp2_with fail
        have y_e_0 := cell_regrown e_0
        have y_e_1 := cell_regrown e_1
        have y_e_2 := cell_regrown e_2
        have y_e_3 := cell_regrown e_3
        have y_e_4 := cell_regrown e_4
        have y_e_5 := cell_regrown e_5
        have y_e_6 := cell_regrown e_6
        have y_e_7 := cell_regrown e_7
        have y_e_8 := cell_regrown e_8
        have y_e_9 := cell_regrown e_9
        have y_e_10 := cell_regrown e_10
        have y_e_11 := cell_regrown e_11
        clear e_0 e_1 e_2 e_3 e_4 e_5 e_6 e_7 e_8 e_9 e_10 e_11
        have y_f_0 := cell_regrown f_0
        have y_f_1 := cell_regrown f_1
        have y_f_2 := cell_regrown f_2
        have y_f_3 := cell_regrown f_3
        have y_f_4 := cell_regrown f_4
        have y_f_5 := cell_regrown f_5
        have y_f_6 := cell_regrown f_6
        have y_f_7 := cell_regrown f_7
        have y_f_8 := cell_regrown f_8
        have y_f_9 := cell_regrown f_9
        have y_f_10 := cell_regrown f_10
        have y_f_11 := cell_regrown f_11
        clear f_0 f_1 f_2 f_3 f_4 f_5 f_6 f_7 f_8 f_9 f_10 f_11
        refine wp_region_plan (C := fun w' => ∃ p : Regrown, w' = grow (redrawn wr p.d) p.os) (.q 0 (.q 1 (.q 2 (.q 3 (.q 4 (.q 5 (.q 6 (.q 7 (.q 8 (.done)))))))))) 9 (by kernel_rfl) (by kernel_rfl) (grew_drew _) ?_
        repeat (any_goals (first | (go_big_quiet_skip; refine wpQuiet_nil ?_) | (go_big_quiet_want; go_big_quiet_op; go_big_quiet_on; refine wpQuiet_nil ?_) | ((with_reducible apply q_split); exact rfl; intro q hq; cases q <;> (rw [hq]; (try first | replace hq := bnot_t hq | replace hq := bnot_f hq); (try first | replace hq := of_decide_eq_true hq | replace hq := of_decide_eq_false hq | replace hq := eq_of_beq hq); (try first | replace hq := Int.not_lt.1 hq | replace hq := Int.not_le.1 hq | replace hq := Nat.not_lt.1 hq | replace hq := Nat.not_le.1 hq); try (exfalso; omega))) | (refine plan_q rfl rfl ?_)))
        clear y_e_0 y_e_1 y_e_2 y_e_3 y_e_4 y_e_5 y_e_6 y_e_7 y_e_8 y_e_9 y_e_10 y_e_11
        clear y_f_0 y_f_1 y_f_2 y_f_3 y_f_4 y_f_5 y_f_6 y_f_7 y_f_8 y_f_9 y_f_10 y_f_11
        all_goals refine plan_done ?_
        all_goals (try simp only [List.drop_succ_cons, List.drop_zero])
        all_goals (try go_wp2_with fail)
        all_goals refine NoPanic.normal ?_
        all_goals (try go_wp2_with fail)
        go_roundw
        case rel => exact ⟨j + 1, by omega, by go_num, HB_wr.drew, HX⟩
        case measure => simp [intOf]; omega
      · have HX : Hid (l ≠ k) := fun e => hq (by subst e; rfl)
        
        
        have hqd := decide_eq_false hq
        clear HE hq
        generalize l[j] = u at *
        generalize k[j] = v at *
        obtain ⟨a0, a1, ⟨a2, a3, a4, a5⟩, a6, a7, ⟨a8, a9, a10, a11⟩⟩ := u
        dsimp only at *
        obtain ⟨b0, b1, ⟨b2, b3, b4, b5⟩, b6, b7, ⟨b8, b9, b10, b11⟩⟩ := v
        dsimp only at *
        have hne := neq_dg a0 a2 a3 a4 a5 a6 a8 a9 a10 a11 b0 b2 b3 b4 b5 b6 b8 b9 b10 b11 a1 a7 b1 b7
        rw [hqd] at hne
        clear hqd
        go_wp2_with fail
        have y_e_0 := cell_regrown e_0
        have y_e_1 := cell_regrown e_1
        have y_e_2 := cell_regrown e_2
        have y_e_3 := cell_regrown e_3
        have y_e_4 := cell_regrown e_4
        have y_e_5 := cell_regrown e_5
        have y_e_6 := cell_regrown e_6
        have y_e_7 := cell_regrown e_7
        have y_e_8 := cell_regrown e_8
        have y_e_9 := cell_regrown e_9
        have y_e_10 := cell_regrown e_10
        have y_e_11 := cell_regrown e_11
        clear e_0 e_1 e_2 e_3 e_4 e_5 e_6 e_7 e_8 e_9 e_10 e_11
        have y_f_0 := cell_regrown f_0
        have y_f_1 := cell_regrown f_1
        have y_f_2 := cell_regrown f_2
        have y_f_3 := cell_regrown f_3
        have y_f_4 := cell_regrown f_4
        have y_f_5 := cell_regrown f_5
        have y_f_6 := cell_regrown f_6
        have y_f_7 := cell_regrown f_7
        have y_f_8 := cell_regrown f_8
        have y_f_9 := cell_regrown f_9
        have y_f_10 := cell_regrown f_10
        have y_f_11 := cell_regrown f_11
        clear f_0 f_1 f_2 f_3 f_4 f_5 f_6 f_7 f_8 f_9 f_10 f_11
        refine wp_region_plan (C := fun w' => ∃ p : Regrown, w' = grow (redrawn wr p.d) p.os) (.q 0 (.q 1 (.q 2 (.q 3 (.q 4 (.q 5 (.q 6 (.q 7 (.q 8 (.done)))))))))) 9 (by kernel_rfl) (by kernel_rfl) (grew_drew _) ?_
        repeat (any_goals (first | (go_big_quiet_skip; refine wpQuiet_nil ?_) | (go_big_quiet_want; go_big_quiet_op; go_big_quiet_on; refine wpQuiet_nil ?_) | ((with_reducible apply q_split); exact rfl; intro q hq; cases q <;> (rw [hq]; (try first | replace hq := bnot_t hq | replace hq := bnot_f hq); (try first | replace hq := of_decide_eq_true hq | replace hq := of_decide_eq_false hq | replace hq := eq_of_beq hq); (try first | replace hq := Int.not_lt.1 hq | replace hq := Int.not_le.1 hq | replace hq := Nat.not_lt.1 hq | replace hq := Nat.not_le.1 hq); try (exfalso; omega))) | (refine plan_q rfl rfl ?_)))
        clear y_e_0 y_e_1 y_e_2 y_e_3 y_e_4 y_e_5 y_e_6 y_e_7 y_e_8 y_e_9 y_e_10 y_e_11
        clear y_f_0 y_f_1 y_f_2 y_f_3 y_f_4 y_f_5 y_f_6 y_f_7 y_f_8 y_f_9 y_f_10 y_f_11
        all_goals refine plan_done ?_
        all_goals (try simp only [List.drop_succ_cons, List.drop_zero])
        all_goals (try go_wp2_with fail)
        all_goals refine NoPanic.normal ?_
        all_goals (try go_wp2_with fail)
        go_ret
        exact ⟨ret_bool' (decide_eq_false HX.out).symm, HB_wr.drew⟩
    · have HX : Hid (l = k) := List.ext_getElem HLN.out fun x h1 h2 => HE.out x h1 h2 (by omega)
      clear HE
      go_wp2_with fail
      go_ret
      exact ⟨ret_bool' (decide_eq_true HX.out).symm, HB_wr⟩
end Go.Proofs.Ytmbnhlihcnbebaa
