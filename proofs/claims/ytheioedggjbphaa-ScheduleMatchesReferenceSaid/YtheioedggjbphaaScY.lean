/-
  Walks of the layer 'schedule': the reference functions that the laws use (Few, Ints, Same); the examples' jobs.
-/
import Derived.Test.YtheioedggjbphaaScW
import Derived.Test.YtheioedggjbphaaScQ
set_option linter.unusedVariables false
namespace Go.Proofs.Ytheioedggjbphaa
open Go Go.RowKit Sc Sk Go.Sort
set_option maxRecDepth 100000 in
theorem neq_sent (a b c a' b' c' : Int) (w : World) : (binOp .neq 46 (.agg #[.int .i64 a, .int .i64 b, .int .i64 c]) (.agg #[.int .i64 a', .int .i64 b', .int .i64 c'])).run Try.prog w = .ok (.bool (!decide ((⟨a, b, c⟩ : Sn) = ⟨a', b', c'⟩))) w := by
  by_cases h1 : a = a'
  · by_cases h2 : b = b'
    · by_cases h3 : c = c' <;> simp [go_sem, *]
    · simp [go_sem, *]
  · simp [go_sem, *]
set_option maxRecDepth 100000 in
theorem eql_span (a b a' b' : Int) (w : World) : (binOp .eql 37 (.agg #[.int .i64 a, .int .i64 b]) (.agg #[.int .i64 a', .int .i64 b'])).run Try.prog w = .ok (.bool (decide ((a, b) = (a', b')))) w := by
  by_cases h1 : a = a'
  · by_cases h2 : b = b' <;> simp [go_sem, *]
  · simp [go_sem, *]
theorem same_step {α : Type} {l k : List α} {j : Nat} (hE : ∀ x (h1 : x < l.length) (h2 : x < k.length), x < j → l[x] = k[x]) (hj : j < l.length) (hk : j < k.length) (h : l[j] = k[j]) :
    ∀ x (h1 : x < l.length) (h2 : x < k.length), x < j + 1 → l[x] = k[x] := fun x h1 h2 hx => by
  rcases Nat.lt_succ_iff_lt_or_eq.1 hx with h3 | rfl
  · exact hE x h1 h2 h3
  · exact h

set_option maxRecDepth 100000 in
set_option maxHeartbeats 1000000 in
theorem rints_any (ao bo : Option Addr) (n cap m capb : Nat) (l k : List Int) (w : World) (hs : Sl w 1 cI ao n cap l) (ht : Sl w 1 cI bo m capb k) :
    Calls Try.prog 20 #[.slice ao n cap, .slice bo m capb] w (Ret w (.bool (decide (l = k)))) := by
  obtain rfl := hs.len
  obtain rfl := ht.len
  have hcap := hs.max
  have hle := hs.le
  have hcapb := ht.max
  have hleb := ht.le
  unfold maxLen at hcap hcapb
  have HL := Lib.hid hs
  have HK := Lib.hid ht
  clear hs ht
  by_cases hlen : l.length = k.length
  case neg =>
    have HX : Hid (l ≠ k) := fun e => hlen (by rw [e])
    go_enter Try.func20, Try.ntmps20
    go_wp2_with fail
    go_ret
    exact ⟨ret_bool' (decide_eq_false HX.out).symm, Below.refl _ _⟩
  have HLN := Lib.hid hlen
  go_enter Try.func20, Try.ntmps20
  go_wp2_with fail
  clear hlen
  go_loopw [5] (fun i wr => ∃ j : Nat, j ≤ l.length ∧ i = .int .i64 j ∧ Below w.heap.size w wr ∧ Hid (∀ x (h1 : x < l.length) (h2 : x < k.length), x < j → l[x] = k[x])) (fun i _ => l.length - (intOf i).toNat)
  case atStart => exact ⟨0, by omega, rfl, Below.refl _ _, fun x _ _ h => absurd h (Nat.not_lt_zero _)⟩
  case round =>
    obtain ⟨j, hj, rfl, HB_wr, HE⟩ := hrel
    by_cases hjl : j < l.length
    · have hjk : j < k.length := by have := HLN.out; omega
      obtain ⟨b, off, rfl, hb, hrow⟩ := HL.out.get hjl
      obtain ⟨b', off', rfl, hb', hrow'⟩ := HK.out.get hjk
      have e_0 := ((hrow j hjl).below HB_wr hb).c1
      have f_0 := ((hrow' j hjk).below HB_wr hb').c1
      rw [Nat.mul_one] at e_0 f_0
      clear hrow hrow'
      by_cases hq : l[j] = k[j]
      · have HX := Lib.hid (same_step HE.out hjl hjk hq)
        rw [hq] at e_0
        clear HE hq
        generalize k[j] = v at *
        go_wp2_with fail
        have y_e_0 := cell_regrown e_0
        clear e_0
        have y_f_0 := cell_regrown f_0
        clear f_0
        refine wp_region_plan (C := fun w' => ∃ p : Regrown, w' = grow (redrawn wr p.d) p.os) (.q 0 (.q 1 (.q 2 (.q 3 (.q 4 (.q 5 (.q 6 (.q 7 (.q 8 (.done)))))))))) 9 (by kernel_rfl) (by kernel_rfl) (grew_drew _) ?_
        repeat (any_goals (first | (go_big_quiet_skip; refine wpQuiet_nil ?_) | (go_big_quiet_want; go_big_quiet_op; go_big_quiet_on; refine wpQuiet_nil ?_) | ((with_reducible apply q_split); exact rfl; intro q hq; cases q <;> (rw [hq]; (try first | replace hq := bnot_t hq | replace hq := bnot_f hq); (try first | replace hq := of_decide_eq_true hq | replace hq := of_decide_eq_false hq | replace hq := eq_of_beq hq); (try first | replace hq := Int.not_lt.1 hq | replace hq := Int.not_le.1 hq | replace hq := Nat.not_lt.1 hq | replace hq := Nat.not_le.1 hq); try (exfalso; omega))) | (refine plan_q rfl rfl ?_)))
        clear y_e_0
        clear y_f_0
        all_goals refine plan_done ?_
        all_goals (try simp only [List.drop_succ_cons, List.drop_zero])
        all_goals (try go_wp2_with fail)
        all_goals refine NoPanic.normal ?_
        all_goals (try go_wp2_with fail)
        go_roundw
        case rel => exact ⟨j + 1, by omega, by go_num, HB_wr.drew, HX⟩
        case measure => simp [intOf]; omega
      · have HX : Hid (l ≠ k) := fun e => hq (by subst e; rfl)
        have hq' : (l[j] != k[j]) = true := bne_iff_ne.2 hq
        have hq2 : (l[j] == k[j]) = false := beq_eq_false_iff_ne.2 hq
        clear HE hq
        generalize l[j] = u at *
        generalize k[j] = v at *
        go_wp2_with fail
        have y_e_0 := cell_regrown e_0
        clear e_0
        have y_f_0 := cell_regrown f_0
        clear f_0
        refine wp_region_plan (C := fun w' => ∃ p : Regrown, w' = grow (redrawn wr p.d) p.os) (.q 0 (.q 1 (.q 2 (.q 3 (.q 4 (.q 5 (.q 6 (.q 7 (.q 8 (.done)))))))))) 9 (by kernel_rfl) (by kernel_rfl) (grew_drew _) ?_
        repeat (any_goals (first | (go_big_quiet_skip; refine wpQuiet_nil ?_) | (go_big_quiet_want; go_big_quiet_op; go_big_quiet_on; refine wpQuiet_nil ?_) | ((with_reducible apply q_split); exact rfl; intro q hq; cases q <;> (rw [hq]; (try first | replace hq := bnot_t hq | replace hq := bnot_f hq); (try first | replace hq := of_decide_eq_true hq | replace hq := of_decide_eq_false hq | replace hq := eq_of_beq hq); (try first | replace hq := Int.not_lt.1 hq | replace hq := Int.not_le.1 hq | replace hq := Nat.not_lt.1 hq | replace hq := Nat.not_le.1 hq); try (exfalso; omega))) | (refine plan_q rfl rfl ?_)))
        clear y_e_0
        clear y_f_0
        all_goals refine plan_done ?_
        all_goals (try simp only [List.drop_succ_cons, List.drop_zero])
        all_goals (try go_wp2_with fail)
        all_goals refine NoPanic.normal ?_
        all_goals (try go_wp2_with fail)
        go_ret
        exact ⟨ret_bool' (decide_eq_false HX.out).symm, HB_wr.drew⟩
    · have HX : Hid (l = k) := List.ext_getElem HLN.out fun x h1 h2 => HE.out x h1 h2 (by omega)
      clear HE
      go_wp2_with fail
      go_ret
      exact ⟨ret_bool' (decide_eq_true HX.out).symm, HB_wr⟩

set_option maxRecDepth 100000 in
set_option maxHeartbeats 1000000 in
theorem rsame_any (ao bo : Option Addr) (n cap m capb : Nat) (l k : List Sn) (w : World) (hs : Sl w 3 cS ao n cap l) (ht : Sl w 3 cS bo m capb k) :
    Calls Try.prog 17 #[.slice ao n cap, .slice bo m capb] w (Ret w (.bool (decide (l = k)))) := by
  obtain rfl := hs.len
  obtain rfl := ht.len
  have hcap := hs.max
  have hle := hs.le
  have hcapb := ht.max
  have hleb := ht.le
  unfold maxLen at hcap hcapb
  have HL := Lib.hid hs
  have HK := Lib.hid ht
  clear hs ht
  by_cases hlen : l.length = k.length
  case neg =>
    have HX : Hid (l ≠ k) := fun e => hlen (by rw [e])
    go_enter Try.func17, Try.ntmps17
    go_wp2_with fail
    go_ret
    exact ⟨ret_bool' (decide_eq_false HX.out).symm, Below.refl _ _⟩
  have HLN := Lib.hid hlen
  go_enter Try.func17, Try.ntmps17
  go_wp2_with fail
  clear hlen
  go_loopw [5] (fun i wr => ∃ j : Nat, j ≤ l.length ∧ i = .int .i64 j ∧ Below w.heap.size w wr ∧ Hid (∀ x (h1 : x < l.length) (h2 : x < k.length), x < j → l[x] = k[x])) (fun i _ => l.length - (intOf i).toNat)
  case atStart => exact ⟨0, by omega, rfl, Below.refl _ _, fun x _ _ h => absurd h (Nat.not_lt_zero _)⟩
  case round =>
    obtain ⟨j, hj, rfl, HB_wr, HE⟩ := hrel
    by_cases hjl : j < l.length
    · have hjk : j < k.length := by have := HLN.out; omega
      obtain ⟨b, off, rfl, hb, hrow⟩ := HL.out.get hjl
      obtain ⟨b', off', rfl, hb', hrow'⟩ := HK.out.get hjk
      obtain ⟨e_0, e_1, e_2⟩ := ((hrow j hjl).below HB_wr hb).c3
      obtain ⟨f_0, f_1, f_2⟩ := ((hrow' j hjk).below HB_wr hb').c3
      clear hrow hrow'
      have HX : Hid (∀ q : Bool, decide (l[j] = k[j]) = q → (q = true → ∀ x (h1 : x < l.length) (h2 : x < k.length), x < j + 1 → l[x] = k[x]) ∧ (q = false → l ≠ k)) := fun q hq =>
        ⟨fun hq' => same_step HE.out hjl hjk (by subst hq'; exact of_decide_eq_true hq), fun hq' he => by subst hq'; subst he; exact absurd rfl (of_decide_eq_false hq)⟩
      clear HE
      generalize l[j] = u at *
      generalize k[j] = v at *
      obtain ⟨a, b1, d1⟩ := u
      obtain ⟨a', b1', d1'⟩ := v
      dsimp only at e_0 e_1 e_2 f_0 f_1 f_2
      have hq := neq_sent a b1 d1 a' b1' d1'
      generalize decide ((⟨a, b1, d1⟩ : Sn) = ⟨a', b1', d1'⟩) = q at *
      have HX2 := Lib.hid (HX.out q rfl)
      clear HX
      go_wp2_with fail
      have y_e_0 := cell_regrown e_0
      have y_e_1 := cell_regrown e_1
      have y_e_2 := cell_regrown e_2
      clear e_0 e_1 e_2
      have y_f_0 := cell_regrown f_0
      have y_f_1 := cell_regrown f_1
      have y_f_2 := cell_regrown f_2
      clear f_0 f_1 f_2
      refine wp_region_plan (C := fun w' => ∃ p : Regrown, w' = grow (redrawn wr p.d) p.os) (.q 0 (.q 1 (.q 2 (.q 3 (.q 4 (.q 5 (.q 6 (.q 7 (.q 8 (.done)))))))))) 9 (by kernel_rfl) (by kernel_rfl) (grew_drew _) ?_
      repeat (any_goals (first | (go_big_quiet_skip; refine wpQuiet_nil ?_) | (go_big_quiet_want; go_big_quiet_op; go_big_quiet_on; refine wpQuiet_nil ?_) | ((with_reducible apply q_split); exact rfl; intro q hq; cases q <;> (rw [hq]; (try first | replace hq := bnot_t hq | replace hq := bnot_f hq); (try first | replace hq := of_decide_eq_true hq | replace hq := of_decide_eq_false hq | replace hq := eq_of_beq hq); (try first | replace hq := Int.not_lt.1 hq | replace hq := Int.not_le.1 hq | replace hq := Nat.not_lt.1 hq | replace hq := Nat.not_le.1 hq); try (exfalso; omega))) | (refine plan_q rfl rfl ?_)))
      clear y_e_0 y_e_1 y_e_2
      clear y_f_0 y_f_1 y_f_2
      clear hq
      cases q
      · have HX3 := Lib.hid (HX2.out.2 rfl)
        clear HX2
        all_goals refine plan_done ?_
        all_goals (try simp only [List.drop_succ_cons, List.drop_zero])
        all_goals (try go_wp2_with fail)
        all_goals refine NoPanic.normal ?_
        all_goals (try go_wp2_with fail)
        go_ret
        exact ⟨ret_bool' (decide_eq_false HX3.out).symm, HB_wr.drew⟩
      · have HX3 := Lib.hid (HX2.out.1 rfl)
        clear HX2
        all_goals refine plan_done ?_
        all_goals (try simp only [List.drop_succ_cons, List.drop_zero])
        all_goals (try go_wp2_with fail)
        all_goals refine NoPanic.normal ?_
        all_goals (try go_wp2_with fail)
        go_roundw
        case rel => exact ⟨j + 1, by omega, by go_num, HB_wr.drew, HX3⟩
        case measure => simp [intOf]; omega
    · have HX : Hid (l = k) := List.ext_getElem HLN.out fun x h1 h2 => HE.out x h1 h2 (by omega)
      clear HE
      go_wp2_with fail
      go_ret
      exact ⟨ret_bool' (decide_eq_true HX.out).symm, HB_wr⟩

theorem rfew_any (ao : Option Addr) (n cap : Nat) (w : World) (h : n ≤ cap) (hc : cap ≤ maxLen) : Calls Try.prog 12 #[.slice ao n cap] w (Ret w (.bool (decide (n ≤ 12)))) := by
  unfold maxLen at hc
  by_cases h12 : n ≤ 12
  · have hi : decide ((n : Int) ≤ 12) = true := decide_eq_true (by omega)
    have HD := Lib.hid (decide_eq_true h12)
    clear h12
    go_enter Try.func12, Try.ntmps12
    go_wp2_with fail
    go_ret
    exact ⟨ret_bool' HD.out.symm, Below.refl _ _⟩
  · have hi : decide ((n : Int) ≤ 12) = false := decide_eq_false (by omega)
    have HD := Lib.hid (decide_eq_false h12)
    clear h12
    go_enter Try.func12, Try.ntmps12
    go_wp2_with fail
    go_ret
    exact ⟨ret_bool' HD.out.symm, Below.refl _ _⟩
/-- the jobs of the examples -/
def kJ : List Jb := [⟨0, 5, 2, 1⟩, ⟨1, 2, 2, 0⟩, ⟨2, 3, 2, 5⟩]
def JobsK (w : World) (e : Ending) (w' : World) : Prop := ∃ b, e = .returned (.slice (some ⟨b, 0, none⟩) 3 3) ∧ Sl w' 4 cJ (some ⟨b, 0, none⟩) 3 3 kJ ∧ Below w.heap.size w w'
theorem jobs_any (w : World) : Calls Try.prog 31 #[] w (JobsK w) := by
  obtain ⟨W0, hW0, HB_W0, hZ, h1⟩ := boxes1 w [.int .i64 0, .int .i64 5, .int .i64 2, .int .i64 1, .int .i64 1, .int .i64 2, .int .i64 2, .int .i64 0, .int .i64 2, .int .i64 3, .int .i64 2, .int .i64 5] 44
  have HS := Lib.hid (show Sl W0 4 cJ (some ⟨w.heap.size, 0, none⟩) 3 3 kJ from Sl.lit (l := kJ) cJ_len h1 (by unfold maxLen; simp [kJ]))
  clear hZ h1
  go_enter Try.func31, Try.ntmps31
  go_wp2_with fail
  go_ret
  exact ⟨_, rfl, HS.out, HB_W0⟩
end Go.Proofs.Ytheioedggjbphaa
