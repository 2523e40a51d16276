/-
  Walks of the layer 'follow': the reference functions that the laws use (Few, Has, Ints, Pairs, Done) and 'sorted'.
-/
import Derived.ChangeKeysEq
import Derived.Test.YtofilkphaelceaaFoO
set_option linter.unusedVariables false
namespace Fo
theorem same_len {α : Type} {l k : List α} (h : l = k) : l.length = k.length := by rw [h]
/-- up to 30 steps with up to 30 numbers each -/
def fewB (l : List St) : Bool := decide (l.length ≤ 30) && l.all fun s => decide (s.af.length ≤ 30)
theorem fewB_iff {l : List St} : fewB l = true ↔ l.length ≤ 30 ∧ ∀ s ∈ l, s.af.length ≤ 30 := by simp [fewB]
end Fo
namespace Go.Proofs.Ytofilkphaelceaa
open Go Go.RowKit Fo Sk Go.Sort

set_option maxRecDepth 100000 in
theorem equal_pair (a b a' b' : Int) (w : World) : (Op.equalIn 10000 46 (.agg #[.int .i64 a, .int .i64 b]) (.agg #[.int .i64 a', .int .i64 b'])).run Try.prog w = .ok (decide ((a, b) = (a', b'))) w := by
  obtain ⟨i0, hi, hz0, hz1, hz2⟩ := info_parts info_int
  have hp : ∀ (x y : Int) (w : World), (part 3 #[.int .i64 x, .int .i64 y] 0).run Try.prog w = .ok (.int .i64 x) w := fun x y w => by kernel_rfl
  have hp2 : ∀ (x y : Int) (w : World), (part 3 #[.int .i64 x, .int .i64 y] 1).run Try.prog w = .ok (.int .i64 y) w := fun x y w => by kernel_rfl
  rw [run_equalIn_array w 9999 (e := 3) (n := 2) _ _ Try.underlying46 hi, show Try.prog.cellsOf 3 = 1 from by kernel_rfl]
  simp only [show List.range 2 = [0, 1] from rfl, Op.eqItems, Sem.run_bind, Nat.zero_mul, Nat.one_mul, hp, Result.andThen_ok]
  by_cases h1 : a = a'
  · by_cases h2 : b = b' <;> simp [go_sem, *]
  · simp [go_sem, *]
theorem neq_pair (a b a' b' : Int) (w : World) : (binOp .neq 46 (.agg #[.int .i64 a, .int .i64 b]) (.agg #[.int .i64 a', .int .i64 b'])).run Try.prog w = .ok (.bool (!decide ((a, b) = (a', b')))) w := by
  rw [run_neq_struct, equal_pair]; rfl
theorem eql_pair (a b a' b' : Int) (w : World) : (binOp .eql 46 (.agg #[.int .i64 a, .int .i64 b]) (.agg #[.int .i64 a', .int .i64 b'])).run Try.prog w = .ok (.bool (decide ((a, b) = (a', b')))) w := by
  rw [run_eql_struct, equal_pair]; rfl
theorem same_step {α : Type} {l k : List α} {j : Nat} (hE : ∀ x (h1 : x < l.length) (h2 : x < k.length), x < j → l[x] = k[x]) (hj : j < l.length) (hk : j < k.length) (h : l[j] = k[j]) :
    ∀ x (h1 : x < l.length) (h2 : x < k.length), x < j + 1 → l[x] = k[x] := fun x h1 h2 hx => by
  rcases Nat.lt_succ_iff_lt_or_eq.1 hx with h3 | rfl
  · exact hE x h1 h2 h3
  · exact h

set_option maxRecDepth 100000 in
set_option maxHeartbeats 1000000 in
theorem rints_any (ao bo : Option Addr) (n cap m capb : Nat) (l k : List Int) (w : World) (hs : Sl w 1 cI ao n cap l) (ht : Sl w 1 cI bo m capb k) :
    Calls Try.prog 17 #[.slice ao n cap, .slice bo m capb] w (Ret w (.bool (decide (l = k)))) := by
  obtain rfl := hs.len
  obtain rfl := ht.len
  have hcap := hs.max
  have hle := hs.le
  have hcapb := ht.max
  have hleb := ht.le
  unfold maxLen at hcap hcapb
  have HL := Lib.hid hs
  have HK := Lib.hid ht
  clear hs ht
  by_cases hlen : l.length = k.length
  case neg =>
    have HX : Hid (l ≠ k) := fun e => hlen (by rw [e])
    go_enter Try.func17, Try.ntmps17
    go_wp2_with fail
    go_ret
    exact ⟨ret_bool' (decide_eq_false HX.out).symm, Below.refl _ _⟩
  have HLN := Lib.hid hlen
  go_enter Try.func17, Try.ntmps17
  go_wp2_with fail
  clear hlen
  go_loopw [5] (fun i wr => ∃ j : Nat, j ≤ l.length ∧ i = .int .i64 j ∧ Below w.heap.size w wr ∧ Hid (∀ x (h1 : x < l.length) (h2 : x < k.length), x < j → l[x] = k[x])) (fun i _ => l.length - (intOf i).toNat)
  case atStart => exact ⟨0, by omega, rfl, Below.refl _ _, fun x _ _ h => absurd h (Nat.not_lt_zero _)⟩
  case round =>
    obtain ⟨j, hj, rfl, HB_wr, HE⟩ := hrel
    by_cases hjl : j < l.length
    · have hjk : j < k.length := by have := HLN.out; omega
      obtain ⟨b, off, rfl, hb, hrow⟩ := HL.out.get hjl
      obtain ⟨b', off', rfl, hb', hrow'⟩ := HK.out.get hjk
      have e_0 := ((hrow j hjl).below HB_wr hb).c1
      have f_0 := ((hrow' j hjk).below HB_wr hb').c1
      rw [Nat.mul_one] at e_0 f_0
      clear hrow hrow'
      by_cases hq : l[j] = k[j]
      · have HX := Lib.hid (same_step HE.out hjl hjk hq)
        rw [hq] at e_0
        clear HE hq
        generalize k[j] = v at *
        go_wp2_with fail
        have y_e_0 := cell_regrown e_0
        clear e_0
        have y_f_0 := cell_regrown f_0
        clear f_0
        refine wp_region_plan (C := fun w' => ∃ p : Regrown, w' = grow (redrawn wr p.d) p.os) (.q 0 (.q 1 (.q 2 (.q 3 (.q 4 (.q 5 (.q 6 (.q 7 (.q 8 (.done)))))))))) 9 (by kernel_rfl) (by kernel_rfl) (grew_drew _) ?_
        repeat (any_goals (first | (go_big_quiet_skip; refine wpQuiet_nil ?_) | (go_big_quiet_want; go_big_quiet_op; go_big_quiet_on; refine wpQuiet_nil ?_) | ((with_reducible apply q_split); exact rfl; intro q hq; cases q <;> (rw [hq]; (try first | replace hq := bnot_t hq | replace hq := bnot_f hq); (try first | replace hq := of_decide_eq_true hq | replace hq := of_decide_eq_false hq | replace hq := eq_of_beq hq); (try first | replace hq := Int.not_lt.1 hq | replace hq := Int.not_le.1 hq | replace hq := Nat.not_lt.1 hq | replace hq := Nat.not_le.1 hq); try (exfalso; omega))) | (refine plan_q rfl rfl ?_)))
        clear y_e_0
        clear y_f_0
        all_goals refine plan_done ?_
        all_goals (try simp only [List.drop_succ_cons, List.drop_zero])
        all_goals (try go_wp2_with fail)
        all_goals refine NoPanic.normal ?_
        all_goals (try go_wp2_with fail)
        go_roundw
        case rel => exact ⟨j + 1, by omega, by go_num, HB_wr.drew, HX⟩
        case measure => simp [intOf]; omega
      · have HX : Hid (l ≠ k) := fun e => hq (by subst e; rfl)
        have hq' : (l[j] != k[j]) = true := bne_iff_ne.2 hq
        have hq2 : (l[j] == k[j]) = false := beq_eq_false_iff_ne.2 hq
        clear HE hq
        generalize l[j] = u at *
        generalize k[j] = v at *
        go_wp2_with fail
        have y_e_0 := cell_regrown e_0
        clear e_0
        have y_f_0 := cell_regrown f_0
        clear f_0
        refine wp_region_plan (C := fun w' => ∃ p : Regrown, w' = grow (redrawn wr p.d) p.os) (.q 0 (.q 1 (.q 2 (.q 3 (.q 4 (.q 5 (.q 6 (.q 7 (.q 8 (.done)))))))))) 9 (by kernel_rfl) (by kernel_rfl) (grew_drew _) ?_
        repeat (any_goals (first | (go_big_quiet_skip; refine wpQuiet_nil ?_) | (go_big_quiet_want; go_big_quiet_op; go_big_quiet_on; refine wpQuiet_nil ?_) | ((with_reducible apply q_split); exact rfl; intro q hq; cases q <;> (rw [hq]; (try first | replace hq := bnot_t hq | replace hq := bnot_f hq); (try first | replace hq := of_decide_eq_true hq | replace hq := of_decide_eq_false hq | replace hq := eq_of_beq hq); (try first | replace hq := Int.not_lt.1 hq | replace hq := Int.not_le.1 hq | replace hq := Nat.not_lt.1 hq | replace hq := Nat.not_le.1 hq); try (exfalso; omega))) | (refine plan_q rfl rfl ?_)))
        clear y_e_0
        clear y_f_0
        all_goals refine plan_done ?_
        all_goals (try simp only [List.drop_succ_cons, List.drop_zero])
        all_goals (try go_wp2_with fail)
        all_goals refine NoPanic.normal ?_
        all_goals (try go_wp2_with fail)
        go_ret
        exact ⟨ret_bool' (decide_eq_false HX.out).symm, HB_wr.drew⟩
    · have HX : Hid (l = k) := List.ext_getElem HLN.out fun x h1 h2 => HE.out x h1 h2 (by omega)
      clear HE
      go_wp2_with fail
      go_ret
      exact ⟨ret_bool' (decide_eq_true HX.out).symm, HB_wr⟩

set_option maxRecDepth 100000 in
set_option maxHeartbeats 1000000 in
theorem rpairs_any (ao bo : Option Addr) (n cap m capb : Nat) (l k : List (Int × Int)) (w : World) (hs : Sl w 2 cP ao n cap l) (ht : Sl w 2 cP bo m capb k) :
    Calls Try.prog 28 #[.slice ao n cap, .slice bo m capb] w (Ret w (.bool (decide (l = k)))) := by
  obtain rfl := hs.len
  obtain rfl := ht.len
  have hcap := hs.max
  have hle := hs.le
  have hcapb := ht.max
  have hleb := ht.le
  unfold maxLen at hcap hcapb
  have HL := Lib.hid hs
  have HK := Lib.hid ht
  clear hs ht
  by_cases hlen : l.length = k.length
  case neg =>
    have HX : Hid (l ≠ k) := fun e => hlen (by rw [e])
    go_enter Try.func28, Try.ntmps28
    go_wp2_with fail
    go_ret
    exact ⟨ret_bool' (decide_eq_false HX.out).symm, Below.refl _ _⟩
  have HLN := Lib.hid hlen
  go_enter Try.func28, Try.ntmps28
  go_wp2_with fail
  clear hlen
  go_loopw [5] (fun i wr => ∃ j : Nat, j ≤ l.length ∧ i = .int .i64 j ∧ Below w.heap.size w wr ∧ Hid (∀ x (h1 : x < l.length) (h2 : x < k.length), x < j → l[x] = k[x])) (fun i _ => l.length - (intOf i).toNat)
  case atStart => exact ⟨0, by omega, rfl, Below.refl _ _, fun x _ _ h => absurd h (Nat.not_lt_zero _)⟩
  case round =>
    obtain ⟨j, hj, rfl, HB_wr, HE⟩ := hrel
    by_cases hjl : j < l.length
    · have hjk : j < k.length := by have := HLN.out; omega
      obtain ⟨b, off, rfl, hb, hrow⟩ := HL.out.get hjl
      obtain ⟨b', off', rfl, hb', hrow'⟩ := HK.out.get hjk
      obtain ⟨e_0, e_1⟩ := ((hrow j hjl).below HB_wr hb).c2
      obtain ⟨f_0, f_1⟩ := ((hrow' j hjk).below HB_wr hb').c2
      clear hrow hrow'
      have HX : Hid (∀ q : Bool, decide (l[j] = k[j]) = q → (q = true → ∀ x (h1 : x < l.length) (h2 : x < k.length), x < j + 1 → l[x] = k[x]) ∧ (q = false → l ≠ k)) := fun q hq =>
        ⟨fun hq' => same_step HE.out hjl hjk (by subst hq'; exact of_decide_eq_true hq), fun hq' he => by subst hq'; subst he; exact absurd rfl (of_decide_eq_false hq)⟩
      clear HE
      generalize l[j] = u at *
      generalize k[j] = v at *
      obtain ⟨a, b1⟩ := u
      obtain ⟨a', b1'⟩ := v
      dsimp only at e_0 e_1 f_0 f_1
      have hq := neq_pair a b1 a' b1'
      generalize decide ((a, b1) = (a', b1')) = q at *
      have HX2 := Lib.hid (HX.out q rfl)
      clear HX
      go_wp2_with fail
      have y_e_0 := cell_regrown e_0
      have y_e_1 := cell_regrown e_1
      clear e_0 e_1
      have y_f_0 := cell_regrown f_0
      have y_f_1 := cell_regrown f_1
      clear f_0 f_1
      refine wp_region_plan (C := fun w' => ∃ p : Regrown, w' = grow (redrawn wr p.d) p.os) (.q 0 (.q 1 (.q 2 (.q 3 (.q 4 (.q 5 (.q 6 (.q 7 (.q 8 (.done)))))))))) 9 (by kernel_rfl) (by kernel_rfl) (grew_drew _) ?_
      repeat (any_goals (first | (go_big_quiet_skip; refine wpQuiet_nil ?_) | (go_big_quiet_want; go_big_quiet_op; go_big_quiet_on; refine wpQuiet_nil ?_) | ((with_reducible apply q_split); exact rfl; intro q hq; cases q <;> (rw [hq]; (try first | replace hq := bnot_t hq | replace hq := bnot_f hq); (try first | replace hq := of_decide_eq_true hq | replace hq := of_decide_eq_false hq | replace hq := eq_of_beq hq); (try first | replace hq := Int.not_lt.1 hq | replace hq := Int.not_le.1 hq | replace hq := Nat.not_lt.1 hq | replace hq := Nat.not_le.1 hq); try (exfalso; omega))) | (refine plan_q rfl rfl ?_)))
      clear y_e_0 y_e_1
      clear y_f_0 y_f_1
      clear hq
      cases q
      · have HX3 := Lib.hid (HX2.out.2 rfl)
        clear HX2
        all_goals refine plan_done ?_
        all_goals (try simp only [List.drop_succ_cons, List.drop_zero])
        all_goals (try go_wp2_with fail)
        all_goals refine NoPanic.normal ?_
        all_goals (try go_wp2_with fail)
        go_ret
        exact ⟨ret_bool' (decide_eq_false HX3.out).symm, HB_wr.drew⟩
      · have HX3 := Lib.hid (HX2.out.1 rfl)
        clear HX2
        all_goals refine plan_done ?_
        all_goals (try simp only [List.drop_succ_cons, List.drop_zero])
        all_goals (try go_wp2_with fail)
        all_goals refine NoPanic.normal ?_
        all_goals (try go_wp2_with fail)
        go_roundw
        case rel => exact ⟨j + 1, by omega, by go_num, HB_wr.drew, HX3⟩
        case measure => simp [intOf]; omega
    · have HX : Hid (l = k) := List.ext_getElem HLN.out fun x h1 h2 => HE.out x h1 h2 (by omega)
      clear HE
      go_wp2_with fail
      go_ret
      exact ⟨ret_bool' (decide_eq_true HX.out).symm, HB_wr⟩


set_option maxRecDepth 100000 in
set_option maxHeartbeats 1000000 in
theorem rfew_any (ao : Option Addr) (n cap : Nat) (l : List St) (w : World) (hs : SlS w ao n cap l) : Calls Try.prog 12 #[.slice ao n cap] w (Ret w (.bool (fewB l))) := by
  obtain rfl := hs.1.len
  have hcap := hs.1.max
  have hle := hs.1.le
  unfold maxLen at hcap
  have HS0 := Lib.hid hs
  have HB_w : Below w.heap.size w w := Below.refl _ _
  have HF := Lib.hid (show (¬ (l.length ≤ 30 ∧ ∀ s ∈ l, s.af.length ≤ 30)) → fewB l = false from fun h => Bool.eq_false_iff.2 fun e => h (fewB_iff.1 e))
  have HT := Lib.hid (@fewB_iff l).2
  clear hs
  generalize fewB l = p at *
  go_enter Try.func12, Try.ntmps12
  by_cases h9 : 30 < l.length
  · have HP := Lib.hid (HF.out (fun h => by omega))
    have h9i : 30 < (l.length : Int) := by omega
    go_wp2_with fail
    all_goals try (exfalso; omega)
    go_ret
    exact ⟨ret_bool' HP.out.symm, HB_w⟩
  have h9i : (l.length : Int) ≤ 30 := by omega
  go_wp2_with fail
  all_goals try (exfalso; omega)
  go_loopw [3] (fun i wr => ∃ j : Nat, j ≤ l.length ∧ i = .int .i64 j ∧ Below w.heap.size w wr ∧ Hid (∀ x (h : x < l.length), x < j → l[x].af.length ≤ 30)) (fun i _ => l.length - (intOf i).toNat)
  case atStart => exact ⟨0, by omega, rfl, HB_w, fun x _ h => absurd h (Nat.not_lt_zero _)⟩
  case round =>
    obtain ⟨j, hj, rfl, HB_wr, HJ⟩ := hrel
    by_cases hlt : j < l.length
    · have HS := Lib.hid (HS0.out.below HB_wr)
      obtain ⟨b', off, rfl, hb, hrow⟩ := HS.out.1.get hlt
      obtain ⟨e_0, e_1⟩ := (hrow j hlt).c2
      have hk := (HS.out.2 _ (List.getElem_mem hlt)).1.len
      by_cases hq : 30 < l[j].af.length
      · have HP := Lib.hid (HF.out (fun h => by have := h.2 _ (List.getElem_mem hlt); omega))
        clear hrow HJ
        generalize l[j] = s at *
        obtain ⟨s0, s1, s2, s3, s4⟩ := s
        dsimp only at e_0 e_1 hk hq
        have hqi : 30 < (s2 : Int) := by omega
        go_wp2_with fail
        all_goals try (exfalso; omega)
        go_ret
        exact ⟨ret_bool' HP.out.symm, HB_wr⟩
      · have HN : Hid (∀ x (h : x < l.length), x < j + 1 → l[x].af.length ≤ 30) := fun x h hx => by
          rcases Nat.lt_succ_iff_lt_or_eq.1 hx with h1 | rfl
          · exact HJ.out x h h1
          · omega
        clear hrow HJ
        generalize l[j] = s at *
        obtain ⟨s0, s1, s2, s3, s4⟩ := s
        dsimp only at e_0 e_1 hk hq
        have hqi : (s2 : Int) ≤ 30 := by omega
        go_wp2_with fail
        all_goals try (exfalso; omega)
        go_roundw
        case rel => exact ⟨j + 1, by omega, by go_num, HB_wr, HN⟩
        case measure => simp [intOf]; omega
    · have HP := Lib.hid (HT.out ⟨by omega, fun s hs => by obtain ⟨x, hx, rfl⟩ := List.getElem_of_mem hs; exact HJ.out x hx (by omega)⟩)
      clear HJ
      go_wp2_with fail
      all_goals try (exfalso; omega)
      go_ret
      exact ⟨ret_bool' HP.out.symm, HB_wr⟩

set_option maxRecDepth 100000 in
set_option maxHeartbeats 1000000 in
theorem rhas_any (ao : Option Addr) (n cap : Nat) (l : List Int) (t : Int) (w : World) (hs : Sl w 1 cI ao n cap l) : Calls Try.prog 32 #[.slice ao n cap, .int .i64 t] w (Ret w (.bool (l.contains t))) := by
  obtain rfl := hs.len
  have hcap := hs.max
  have hle := hs.le
  unfold maxLen at hcap
  have HS0 := Lib.hid hs
  have HB_w : Below w.heap.size w w := Below.refl _ _
  have HF := Lib.hid (show (∀ x (h : x < l.length), l[x] ≠ t) → l.contains t = false from fun h => by
    rw [List.contains_eq_mem]
    exact decide_eq_false fun hm => by obtain ⟨x, hx, e⟩ := List.getElem_of_mem hm; exact h x hx e)
  have HT := Lib.hid (show ∀ x (h : x < l.length), l[x] = t → l.contains t = true from fun x h e => by
    rw [List.contains_eq_mem]
    exact decide_eq_true (e ▸ List.getElem_mem h))
  clear hs
  generalize l.contains t = p at *
  go_enter Try.func32, Try.ntmps32
  go_wp2_with fail
  go_loopw [5] (fun i wr => ∃ j : Nat, j ≤ l.length ∧ i = .int .i64 j ∧ Below w.heap.size w wr ∧ Hid (∀ x (h : x < l.length), x < j → l[x] ≠ t)) (fun i _ => l.length - (intOf i).toNat)
  case atStart => exact ⟨0, by omega, rfl, HB_w, fun x _ h => absurd h (Nat.not_lt_zero _)⟩
  case round =>
    obtain ⟨j, hj, rfl, HB_wr, HJ⟩ := hrel
    by_cases hlt : j < l.length
    · obtain ⟨b', off, rfl, hb, hrow⟩ := (HS0.out.below HB_wr).get hlt
      have e_0 := (hrow j hlt).c1
      rw [Nat.mul_one] at e_0
      by_cases hq : l[j] = t
      · have HP := Lib.hid (HT.out j hlt hq)
        clear hrow HJ
        rw [hq] at e_0
        clear hq
        go_wp2_with fail
        go_ret
        exact ⟨ret_bool' HP.out.symm, HB_wr⟩
      · have HN : Hid (∀ x (h : x < l.length), x < j + 1 → l[x] ≠ t) := fun x h hx => by
          rcases Nat.lt_succ_iff_lt_or_eq.1 hx with h1 | rfl
          · exact HJ.out x h h1
          · exact hq
        have hq2 : (l[j] == t) = false := beq_eq_false_iff_ne.2 hq
        clear hrow HJ hq
        generalize l[j] = s at *
        go_wp2_with fail
        go_roundw
        case rel => exact ⟨j + 1, by omega, by go_num, HB_wr, HN⟩
        case measure => simp [intOf]; omega
    · have HP := Lib.hid (HF.out (fun x h => HJ.out x h (by omega)))
      clear HJ
      go_wp2_with fail
      go_ret
      exact ⟨ret_bool' HP.out.symm, HB_wr⟩
end Go.Proofs.Ytofilkphaelceaa
