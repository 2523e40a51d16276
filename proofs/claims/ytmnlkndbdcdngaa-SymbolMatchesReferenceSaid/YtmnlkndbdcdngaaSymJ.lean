/-
  The reference functions of 'symbol': Ints, Same.
-/
import Derived.Test.YtmnlkndbdcdngaaSymA
namespace Go.Proofs.Ytmnlkndbdcdngaa
open Go.RowKit Sb Sk Go.Sort
set_option linter.unusedVariables false

set_option maxRecDepth 100000 in
theorem neq_mark (a b c a' b' c' : Int) (w : World) : (binOp .neq 29 (.agg #[.int .i64 a, .int .i64 b, .int .i64 c]) (.agg #[.int .i64 a', .int .i64 b', .int .i64 c'])).run Try.prog w = .ok (.bool (!decide ((⟨a, b, c⟩ : Mk) = ⟨a', b', c'⟩))) w := by
  by_cases h1 : a = a'
  · by_cases h2 : b = b'
    · by_cases h3 : c = c' <;> simp [go_sem, *]
    · simp [go_sem, *]
  · simp [go_sem, *]

theorem same_step {α : Type} {l k : List α} {j : Nat} (hE : ∀ x (h1 : x < l.length) (h2 : x < k.length), x < j → l[x] = k[x]) (hj : j < l.length) (hk : j < k.length) (h : l[j] = k[j]) :
    ∀ x (h1 : x < l.length) (h2 : x < k.length), x < j + 1 → l[x] = k[x] := fun x h1 h2 hx => by
  rcases Nat.lt_succ_iff_lt_or_eq.1 hx with h3 | rfl
  · exact hE x h1 h2 h3
  · exact h

set_option maxRecDepth 100000 in
set_option maxHeartbeats 1000000 in
theorem rints_any (ao bo : Option Addr) (n cap m capb : Nat) (l k : List Int) (w : World) (hs : Sl w 1 (fun n : Int => [.int .i64 n]) ao n cap l) (ht : Sl w 1 (fun n : Int => [.int .i64 n]) bo m capb k) :
    Calls Try.prog 20 #[.slice ao n cap, .slice bo m capb] w (Ret w (.bool (decide (l = k)))) := by
  obtain rfl := hs.len
  obtain rfl := ht.len
  have hcap := hs.max
  have hle := hs.le
  have hcapb := ht.max
  have hleb := ht.le
  unfold maxLen at hcap hcapb
  have HL := Lib.hid hs
  have HK := Lib.hid ht
  clear hs ht
  by_cases hlen : l.length = k.length
  case neg =>
    have HX : Hid (l ≠ k) := fun e => hlen (by rw [e])
    go_enter Try.func20, Try.ntmps20
    go_wp2_with fail
    go_ret
    exact ⟨ret_bool' (decide_eq_false HX.out).symm, Below.refl _ _⟩
  have HLN := Lib.hid hlen
  go_enter Try.func20, Try.ntmps20
  go_wp2_with fail
  clear hlen
  go_loopw [5] (fun i wr => ∃ j : Nat, j ≤ l.length ∧ i = .int .i64 j ∧ Below w.heap.size w wr ∧ Hid (∀ x (h1 : x < l.length) (h2 : x < k.length), x < j → l[x] = k[x])) (fun i _ => l.length - (intOf i).toNat)
  case atStart => exact ⟨0, by omega, rfl, Below.refl _ _, fun x _ _ h => absurd h (Nat.not_lt_zero _)⟩
  case round =>
    obtain ⟨j, hj, rfl, HB_wr, HE⟩ := hrel
    by_cases hjl : j < l.length
    · have hjk : j < k.length := by have := HLN.out; omega
      obtain ⟨b, off, rfl, hb, hrow⟩ := HL.out.get hjl
      obtain ⟨b', off', rfl, hb', hrow'⟩ := HK.out.get hjk
      have e_0 := ((hrow j hjl).below HB_wr hb).c1
      have f_0 := ((hrow' j hjk).below HB_wr hb').c1
      rw [Nat.mul_one] at e_0 f_0
      clear hrow hrow'
      by_cases hq : l[j] = k[j]
      · have HX := Lib.hid (same_step HE.out hjl hjk hq)
        rw [hq] at e_0
        clear HE hq
        generalize k[j] = v at *
        go_wp2_with fail
        have y_e_0 := cell_regrown e_0
        clear e_0
        have y_f_0 := cell_regrown f_0
        clear f_0
        refine wp_region_plan (C := fun w' => ∃ p : Regrown, w' = grow (redrawn wr p.d) p.os) (.q 0 (.q 1 (.q 2 (.q 3 (.q 4 (.q 5 (.q 6 (.q 7 (.q 8 (.done)))))))))) 9 (by kernel_rfl) (by kernel_rfl) (grew_drew _) ?_
        repeat (any_goals (first | (go_big_quiet_skip; refine wpQuiet_nil ?_) | (go_big_quiet_want; go_big_quiet_op; go_big_quiet_on; refine wpQuiet_nil ?_) | ((with_reducible apply q_split); exact rfl; intro q hq; cases q <;> (rw [hq]; (try first | replace hq := bnot_t hq | replace hq := bnot_f hq); (try first | replace hq := of_decide_eq_true hq | replace hq := of_decide_eq_false hq | replace hq := eq_of_beq hq); (try first | replace hq := Int.not_lt.1 hq | replace hq := Int.not_le.1 hq | replace hq := Nat.not_lt.1 hq | replace hq := Nat.not_le.1 hq); try (exfalso; omega))) | (refine plan_q rfl rfl ?_)))
        clear y_e_0
        clear y_f_0
        all_goals refine plan_done ?_
        all_goals (try simp only [List.drop_succ_cons, List.drop_zero])
        all_goals (try go_wp2_with fail)
        all_goals refine NoPanic.normal ?_
        all_goals (try go_wp2_with fail)
        go_roundw
        case rel => exact ⟨j + 1, by omega, by go_num, HB_wr.drew, HX⟩
        case measure => simp [intOf]; omega
      · have HX : Hid (l ≠ k) := fun e => hq (by subst e; rfl)
        have hq' : (l[j] != k[j]) = true := bne_iff_ne.2 hq
        have hq2 : (l[j] == k[j]) = false := beq_eq_false_iff_ne.2 hq
        clear HE hq
        generalize l[j] = u at *
        generalize k[j] = v at *
        go_wp2_with fail
        have y_e_0 := cell_regrown e_0
        clear e_0
        have y_f_0 := cell_regrown f_0
        clear f_0
        refine wp_region_plan (C := fun w' => ∃ p : Regrown, w' = grow (redrawn wr p.d) p.os) (.q 0 (.q 1 (.q 2 (.q 3 (.q 4 (.q 5 (.q 6 (.q 7 (.q 8 (.done)))))))))) 9 (by kernel_rfl) (by kernel_rfl) (grew_drew _) ?_
        repeat (any_goals (first | (go_big_quiet_skip; refine wpQuiet_nil ?_) | (go_big_quiet_want; go_big_quiet_op; go_big_quiet_on; refine wpQuiet_nil ?_) | ((with_reducible apply q_split); exact rfl; intro q hq; cases q <;> (rw [hq]; (try first | replace hq := bnot_t hq | replace hq := bnot_f hq); (try first | replace hq := of_decide_eq_true hq | replace hq := of_decide_eq_false hq | replace hq := eq_of_beq hq); (try first | replace hq := Int.not_lt.1 hq | replace hq := Int.not_le.1 hq | replace hq := Nat.not_lt.1 hq | replace hq := Nat.not_le.1 hq); try (exfalso; omega))) | (refine plan_q rfl rfl ?_)))
        clear y_e_0
        clear y_f_0
        all_goals refine plan_done ?_
        all_goals (try simp only [List.drop_succ_cons, List.drop_zero])
        all_goals (try go_wp2_with fail)
        all_goals refine NoPanic.normal ?_
        all_goals (try go_wp2_with fail)
        go_ret
        exact ⟨ret_bool' (decide_eq_false HX.out).symm, HB_wr.drew⟩
    · have HX : Hid (l = k) := List.ext_getElem HLN.out fun x h1 h2 => HE.out x h1 h2 (by omega)
      clear HE
      go_wp2_with fail
      go_ret
      exact ⟨ret_bool' (decide_eq_true HX.out).symm, HB_wr⟩

set_option maxRecDepth 100000 in
set_option maxHeartbeats 1000000 in
theorem rsame_any (oa : Int) (ao : Option Addr) (n cap : Nat) (l : List Mk) (ob : Int) (bo : Option Addr) (m capb : Nat) (k : List Mk) (w : World) (hs : Sl w 3 cM ao n cap l) (ht : Sl w 3 cM bo m capb k) :
    Calls Try.prog 27 #[.agg #[.int .i64 oa, .slice ao n cap], .agg #[.int .i64 ob, .slice bo m capb]] w (Ret w (.bool (decide (oa = ob ∧ l = k)))) := by
  obtain rfl := hs.len
  obtain rfl := ht.len
  have hcap := hs.max
  have hle := hs.le
  have hcapb := ht.max
  have hleb := ht.le
  unfold maxLen at hcap hcapb
  obtain ⟨W0, hW0, HB_W0, hZ, hn, hm⟩ := boxes2 w [.int .i64 oa, .slice ao l.length cap] [.int .i64 ob, .slice bo k.length capb] 24 24
  have H_n := Lib.hid hn
  have H_m := Lib.hid hm
  have HL := Lib.hid hs
  have HK := Lib.hid ht
  clear hs ht hn hm hZ
  obtain ⟨p, hp⟩ : ∃ p, decide (oa = ob ∧ l = k) = p := ⟨_, rfl⟩
  have HT := Lib.hid (show oa = ob → l = k → p = true from fun h1 h2 => by rw [← hp]; exact decide_eq_true ⟨h1, h2⟩)
  have HF := Lib.hid (show ¬ (oa = ob ∧ l = k) → p = false from fun h => by rw [← hp]; exact decide_eq_false h)
  rw [hp]
  clear hp
  obtain ⟨q_n_0, q_n_1⟩ := H_n.out.c2
  obtain ⟨q_m_0, q_m_1⟩ := H_m.out.c2
  by_cases ho : oa = ob
  case neg =>
    have HX := Lib.hid (HF.out (fun e => ho e.1))
    have ho' : (oa != ob) = true := bne_iff_ne.2 ho
    have ho2 : (oa == ob) = false := beq_eq_false_iff_ne.2 ho
    clear ho
    go_enter Try.func27, Try.ntmps27
    go_wp2_with fail
    go_ret
    exact ⟨ret_bool' HX.out.symm, HB_W0⟩
  subst ho
  by_cases hlen : l.length = k.length
  case neg =>
    have HX := Lib.hid (HF.out (fun e => hlen (by rw [e.2])))
    have ho' : ((l.length : Int) != (k.length : Int)) = true := bne_iff_ne.2 (by omega)
    have ho2 : ((l.length : Int) == (k.length : Int)) = false := beq_eq_false_iff_ne.2 (by omega)
    clear hlen
    go_enter Try.func27, Try.ntmps27
    go_wp2_with fail
    all_goals
      go_ret
      exact ⟨ret_bool' HX.out.symm, HB_W0⟩
  have HLN := Lib.hid hlen
  have hq1 : ((l.length : Int) != (k.length : Int)) = false := by simp [hlen]
  have hq2 : ((l.length : Int) == (k.length : Int)) = true := by simp [hlen]
  clear hlen
  go_enter Try.func27, Try.ntmps27
  go_wp2_with fail
  clear hq1 hq2 hW0 q_n_0 q_n_1 q_m_0 q_m_1
  go_loopw [5] (fun i wr => ∃ j : Nat, j ≤ l.length ∧ i = .int .i64 j ∧ Below w.heap.size w wr ∧ Hid (Box wr w.heap.size 24 [.int .i64 oa, .slice ao l.length cap]) ∧ Hid (Box wr (w.heap.size + 1) 24 [.int .i64 oa, .slice bo k.length capb]) ∧ Hid (∀ x (h1 : x < l.length) (h2 : x < k.length), x < j → l[x] = k[x])) (fun i _ => l.length - (intOf i).toNat)
  case atStart => exact ⟨0, by omega, rfl, HB_W0, H_n, H_m, fun x _ _ h => absurd h (Nat.not_lt_zero _)⟩
  case round =>
    clear H_n H_m
    obtain ⟨j, hj, rfl, HB_wr, H_n, H_m, HE⟩ := hrel
    obtain ⟨q_n_0, q_n_1⟩ := H_n.out.c2
    obtain ⟨q_m_0, q_m_1⟩ := H_m.out.c2
    by_cases hjl : j < l.length
    · have hjk : j < k.length := by have := HLN.out; omega
      obtain ⟨b, off, rfl, hb, hrow⟩ := HL.out.get hjl
      obtain ⟨b', off', rfl, hb', hrow'⟩ := HK.out.get hjk
      obtain ⟨e_0, e_1, e_2⟩ := ((hrow j hjl).below HB_wr hb).c3
      obtain ⟨f_0, f_1, f_2⟩ := ((hrow' j hjk).below HB_wr hb').c3
      clear hrow hrow'
      have HX : Hid (∀ q : Bool, decide (l[j] = k[j]) = q → (q = true → ∀ x (h1 : x < l.length) (h2 : x < k.length), x < j + 1 → l[x] = k[x]) ∧ (q = false → l ≠ k)) := fun q hq =>
        ⟨fun hq' => same_step HE.out hjl hjk (by subst hq'; exact of_decide_eq_true hq), fun hq' he => by subst hq'; subst he; exact absurd rfl (of_decide_eq_false hq)⟩
      clear HE
      generalize l[j] = u at *
      generalize k[j] = v at *
      obtain ⟨a, b1, c⟩ := u
      obtain ⟨a', b1', c'⟩ := v
      dsimp only at e_0 e_1 e_2 f_0 f_1 f_2
      have hq := neq_mark a b1 c a' b1' c'
      generalize decide ((⟨a, b1, c⟩ : Mk) = ⟨a', b1', c'⟩) = q at *
      have HX2 := Lib.hid (HX.out q rfl)
      clear HX
      go_wp2_with fail
      have y_e_0 := cell_regrown e_0
      have y_e_1 := cell_regrown e_1
      have y_e_2 := cell_regrown e_2
      clear e_0 e_1 e_2
      have y_f_0 := cell_regrown f_0
      have y_f_1 := cell_regrown f_1
      have y_f_2 := cell_regrown f_2
      clear f_0 f_1 f_2
      have y_q_n_0 := cell_regrown q_n_0
      have y_q_n_1 := cell_regrown q_n_1
      clear q_n_0 q_n_1
      have y_q_m_0 := cell_regrown q_m_0
      have y_q_m_1 := cell_regrown q_m_1
      clear q_m_0 q_m_1
      refine wp_region_plan (C := fun w' => ∃ p : Regrown, w' = grow (redrawn wr p.d) p.os) (.q 0 (.q 1 (.q 2 (.q 3 (.q 4 (.q 5 (.q 6 (.q 7 (.q 8 (.q 9 (.q 10 (.done)))))))))))) 11 (by kernel_rfl) (by kernel_rfl) (grew_drew _) ?_
      repeat (any_goals (first | (go_big_quiet_skip; refine wpQuiet_nil ?_) | (go_big_quiet_want; go_big_quiet_op; go_big_quiet_on; refine wpQuiet_nil ?_) | ((with_reducible apply q_split); exact rfl; intro q hq; cases q <;> (rw [hq]; (try first | replace hq := bnot_t hq | replace hq := bnot_f hq); (try first | replace hq := of_decide_eq_true hq | replace hq := of_decide_eq_false hq | replace hq := eq_of_beq hq); (try first | replace hq := Int.not_lt.1 hq | replace hq := Int.not_le.1 hq | replace hq := Nat.not_lt.1 hq | replace hq := Nat.not_le.1 hq); try (exfalso; omega))) | (refine plan_q rfl rfl ?_)))
      clear y_e_0 y_e_1 y_e_2
      clear y_f_0 y_f_1 y_f_2
      clear y_q_n_0 y_q_n_1
      clear y_q_m_0 y_q_m_1
      clear hq
      cases q
      · have HX3 := Lib.hid (HF.out (fun e => HX2.out.2 rfl e.2))
        clear HX2
        all_goals refine plan_done ?_
        all_goals (try simp only [List.drop_succ_cons, List.drop_zero])
        all_goals (try go_wp2_with fail)
        all_goals refine NoPanic.normal ?_
        all_goals (try go_wp2_with fail)
        go_ret
        exact ⟨ret_bool' HX3.out.symm, HB_wr.drew⟩
      · have HX3 := Lib.hid (HX2.out.1 rfl)
        clear HX2
        all_goals refine plan_done ?_
        all_goals (try simp only [List.drop_succ_cons, List.drop_zero])
        all_goals (try go_wp2_with fail)
        all_goals refine NoPanic.normal ?_
        all_goals (try go_wp2_with fail)
        go_roundw
        case rel => exact ⟨j + 1, by omega, by go_num, HB_wr.drew, Lib.hid H_n.out.drew, Lib.hid H_m.out.drew, HX3⟩
        case measure => simp [intOf]; omega
    · have HX := Lib.hid (HT.out (by trivial) (List.ext_getElem HLN.out fun x h1 h2 => HE.out x h1 h2 (by omega)))
      have hkl : (k.length : Int) ≤ j := by have := HLN.out; omega
      clear HE
      go_wp2_with fail
      go_ret
      exact ⟨ret_bool' HX.out.symm, HB_wr⟩
end Go.Proofs.Ytmnlkndbdcdngaa
