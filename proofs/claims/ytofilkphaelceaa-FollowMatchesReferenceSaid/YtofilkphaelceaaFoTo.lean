/-
  Plain laws of the layer 'follow': the canonical order; and done numbers, walked.
-/
import Derived.Test.YtofilkphaelceaaFoLp
set_option linter.unusedVariables false
namespace Fo
section
variable {l : List St} {d : List Int} {x : Int}
theorem order_split : ∀ (l : List St) (d : List Int) (i : Nat) (h : i < (orderF l d).length), ∃ A s B, l = A ++ s :: B ∧ orderF A d = (orderF l d).take i ∧ s.n = (orderF l d)[i] ∧ d.contains s.n = false
  | [], d, i, h => absurd h (Nat.not_lt_zero _)
  | t :: l, d, i, h => by
    cases hc : d.contains t.n with
    | true =>
      have he : orderF (t :: l) d = orderF l d := by unfold orderF; rw [List.filter_cons, hc]; rfl
      obtain ⟨A, s, B, h1, h2, h3, h4⟩ := order_split l d i (by rw [← he]; exact h)
      refine ⟨t :: A, s, B, by rw [h1]; rfl, ?_, by simp only [he]; exact h3, h4⟩
      rw [he, ← h2]
      unfold orderF
      rw [List.filter_cons, hc]
      rfl
    | false =>
      have he : orderF (t :: l) d = t.n :: orderF l d := by unfold orderF; rw [List.filter_cons, hc]; rfl
      cases i with
      | zero => exact ⟨[], t, l, rfl, by rw [List.take_zero]; rfl, by simp only [he]; rfl, hc⟩
      | succ i =>
        obtain ⟨A, s, B, h1, h2, h3, h4⟩ := order_split l d i (by rw [he] at h; simpa using h)
        refine ⟨t :: A, s, B, by rw [h1]; rfl, ?_, by simp only [he]; exact h3, h4⟩
        rw [he, List.take_succ_cons, ← h2]
        unfold orderF
        rw [List.filter_cons, hc]
        rfl
theorem order_mem : x ∈ orderF l d ↔ (∃ s ∈ l, s.n = x) ∧ x ∉ d := by
  unfold orderF
  simp only [List.mem_map, List.mem_filter, Bool.not_eq_true', List.contains_eq_mem, decide_eq_false_iff_not]
  constructor
  · rintro ⟨s, ⟨h1, h2⟩, rfl⟩; exact ⟨⟨s, h1, rfl⟩, h2⟩
  · rintro ⟨⟨s, h1, rfl⟩, h2⟩; exact ⟨s, ⟨h1, h2⟩, rfl⟩
theorem pre_of {A B : List St} {s : St} (hv : VOk (A ++ s :: B)) {a : Int} (ha : a ∈ s.af) : ∃ t ∈ A, t.n = a := by
  have h : A.length < (A ++ s :: B).length := by simp
  have := hv.pre A.length h a (by simpa using ha)
  obtain ⟨j, hj, hlt, rfl⟩ := this
  exact ⟨A[j], List.getElem_mem _, by rw [List.getElem_append_left hlt]⟩
/-- what comes first among what is ready -/
theorem order_ready (hv : VOk l) {D : List Int} {i : Nat} (h : i < (orderF l d).length) (hD : ∀ x, x ∈ D ↔ (x ∈ d ∨ x ∈ (orderF l d).take i)) : ∃ r, readyF l D = (orderF l d)[i] :: r := by
  obtain ⟨A, s, B, h1, h2, h3, h4⟩ := order_split l d i h
  rw [← h3]
  rw [← h2] at hD
  have hA : ∀ t ∈ A, t.n ∈ D := fun t ht => by
    rw [hD, order_mem]
    by_cases hc : t.n ∈ d
    · exact .inl hc
    · exact .inr ⟨⟨t, ht, rfl⟩, hc⟩
  have hs : s.n ∉ D := fun hm => by
    rw [List.contains_eq_mem, decide_eq_false_iff_not] at h4
    rcases (hD _).1 hm with hm | hm
    · exact h4 hm
    · obtain ⟨⟨t, ht, he⟩, _⟩ := order_mem.1 hm
      have := hv.inc
      rw [h1, List.pairwise_append] at this
      have := this.2.2 t ht s (by simp)
      omega
  have hf : (A.filter fun s => !D.contains s.n && s.af.all D.contains) = [] := by
    rw [List.filter_eq_nil_iff]
    intro t ht
    have := hA t ht
    simp [this]
  have hc : (!D.contains s.n && s.af.all D.contains) = true := by
    have hsa : s.af.all D.contains = true := List.all_eq_true.2 fun a ha => by
      obtain ⟨t, ht, rfl⟩ := pre_of (h1 ▸ hv) ha
      rw [List.contains_eq_mem]
      exact decide_eq_true (hA t ht)
    rw [hsa, List.contains_eq_mem, decide_eq_false hs]
    rfl
  refine ⟨(B.filter fun s => !D.contains s.n && s.af.all D.contains).map St.n, ?_⟩
  unfold readyF
  rw [h1, List.filter_append, hf, List.nil_append, List.filter_cons, hc]
  rfl
theorem order_inc (hv : VOk l) : (orderF l d).Pairwise (· < ·) := filt_inc hv _
theorem order_perm (hv : VOk l) : PermP l (orderF l []) := by
  intro i hi
  obtain ⟨A, s, B, h1, h2, h3, h4⟩ := order_split l [] i hi
  have he : (orderF l []) = (orderF l []).take i ++ (orderF l [])[i] :: (orderF l []).drop (i + 1) := by
    rw [← List.drop_eq_getElem_cons hi, List.take_append_drop]
  have hlen : ((orderF l []).take i).length = i := by rw [List.length_take]; omega
  have : permAt l (orderF l []) i = nxt l ((orderF l []).take i) (orderF l [])[i] := by
    conv => lhs; rw [he]
    have h := permAt_end (l := l) (o := (orderF l []).take i) (x := (orderF l [])[i]) (r := (orderF l []).drop (i + 1))
    rw [hlen] at h
    exact h
  rw [this, nxt_iff hv, ← h3, ← h2]
  have hk : A.length < l.length := by rw [h1]; simp
  have hs : l[A.length] = s := by simp only [h1]; simp
  refine ⟨s, ?_, ?_, fun a ha => ?_⟩
  · have := find_mem hv hk
    rwa [hs] at this
  · intro hm
    obtain ⟨⟨t, ht, he⟩, _⟩ := order_mem.1 hm
    have := hv.inc
    rw [h1, List.pairwise_append] at this
    have := this.2.2 t ht s (by simp)
    omega
  · obtain ⟨t, ht, rfl⟩ := pre_of (h1 ▸ hv) ha
    exact order_mem.2 ⟨⟨t, ht, rfl⟩, by simp⟩
theorem order_has : (orderF l d).contains x = (inN l x && !d.contains x) := by
  rw [Bool.eq_iff_iff, List.contains_eq_mem, decide_eq_true_eq, order_mem, Bool.and_eq_true, inN_iff]
  simp [List.contains_eq_mem]
theorem done_bad {d : List Int} {i : Nat} (h : i < d.length) (hb : isNum d[i] = false ∨ ∃ j y, i = j + 1 ∧ d[j]? = some y ∧ d[i] ≤ y) : isDone d = false := by
  cases hv : isDone d with
  | false => rfl
  | true =>
    obtain ⟨h1, h2, h3⟩ := isDone_iff.1 hv
    rcases hb with hb | ⟨j, y, rfl, hj, hle⟩
    · rw [isNum_iff.2 (h3 _ (List.getElem_mem h))] at hb; cases hb
    · rw [List.getElem?_eq_getElem (by omega)] at hj
      have hj := Option.some.inj hj
      have := List.pairwise_iff_getElem.1 h2 j (j + 1) (by omega) h (by omega)
      omega
theorem done_good {d : List Int} (hl : d.length ≤ 200) (h : ∀ i (h : i < d.length), isNum d[i] = true ∧ ∀ j y, i = j + 1 → d[j]? = some y → y < d[i]) : isDone d = true := by
  refine isDone_iff.2 ⟨hl, pair_adj (f := fun x => x) d (fun i hi => (h (i + 1) hi).2 i _ rfl (List.getElem?_eq_getElem (by omega))), fun x hx => ?_⟩
  obtain ⟨i, hi, rfl⟩ := List.getElem_of_mem hx
  exact isNum_iff.1 (h i hi).1
end
end Fo
namespace Go.Proofs.Ytofilkphaelceaa
open Go Go.RowKit Fo Sk Go.Sort

theorem rnumber_any (n : Int) (w : World) : Calls Try.prog 38 #[.int .i64 n] w (Ret w (.bool (isNum n))) := by
  go_enter Try.func38, Try.ntmps38
  go_wp2
  all_goals
    go_ret
    refine ⟨ret_bool ?_, (Below.refl _ _)⟩
    simp [isNum]; omega

set_option maxRecDepth 100000 in
set_option maxHeartbeats 4000000 in
theorem rdone_any (ao : Option Addr) (n cap : Nat) (d : List Int) (w : World) (hs : Sl w 1 cI ao n cap d) : Calls Try.prog 33 #[.slice ao n cap] w (Ret w (.bool (isDone d))) := by
  obtain rfl := hs.len
  have hcap := hs.max
  have hle := hs.le
  unfold maxLen at hcap
  have HS0 := Lib.hid hs
  have HB_w : Below w.heap.size w w := Below.refl _ _
  have HF := Lib.hid (fun i h => @done_bad d i h)
  have HL := Lib.hid (show 200 < d.length → isDone d = false from fun h => by
    cases hv : isDone d with
    | false => rfl
    | true => have := (isDone_iff.1 hv).1; omega)
  have HT := Lib.hid (@done_good d)
  clear hs
  generalize isDone d = v at *
  go_enter Try.func33, Try.ntmps33
  by_cases h9 : 200 < d.length
  · have HP := Lib.hid (HL.out h9)
    have h9i : 200 < (d.length : Int) := by omega
    go_wp2_with fail
    all_goals try (exfalso; omega)
    go_ret
    exact ⟨ret_bool' HP.out.symm, HB_w⟩
  have h9i : (d.length : Int) ≤ 200 := by omega
  go_wp2_with fail
  all_goals try (exfalso; omega)
  go_loopw [3] (fun i wr => ∃ k : Nat, k ≤ d.length ∧ i = .int .i64 k ∧ Below w.heap.size w wr ∧ Hid (∀ i (h : i < d.length), i < k → isNum d[i] = true ∧ ∀ j y, i = j + 1 → d[j]? = some y → y < d[i])) (fun i _ => d.length - (intOf i).toNat)
  case atStart => exact ⟨0, Nat.zero_le _, rfl, HB_w, fun i _ h => absurd h (Nat.not_lt_zero _)⟩
  case round =>
    obtain ⟨k, hk, rfl, HB_wr, HJ⟩ := hrel
    by_cases hlt : k < d.length
    · obtain ⟨b', off, rfl, hb, hrow⟩ := (HS0.out.below HB_wr).get hlt
      have e_0 := (hrow k hlt).c1
      rw [Nat.mul_one] at e_0
      have HBD := Lib.hid (HF.out k hlt)
      have HNX := Lib.hid (show isNum d[k] = true → (∀ j y, k = j + 1 → d[j]? = some y → y < d[k]) → (∀ i (h : i < d.length), i < k + 1 → isNum d[i] = true ∧ ∀ j y, i = j + 1 → d[j]? = some y → y < d[i]) from fun h1 h2 i hi hik => by
        rcases Nat.lt_succ_iff_lt_or_eq.1 hik with h | rfl
        · exact HJ.out i hi h
        · exact ⟨h1, h2⟩)
      have HCL := Lib.hid (fun j (hj : j < d.length) => (hrow j hj).c1)
      clear hrow HJ
      generalize hx : d[k] = x at *
      have HX := Lib.hid hx
      clear hx
      go_wp2_with fail
      refine (rnumber_any x _).mono ?_
      rintro e wa ⟨rfl, hb_wa⟩
      have HB_wa : Below w.heap.size w wa := by first | exact after0 HB_wr hb_wa | exact after1 HB_wr hb_wa | exact after2 HB_wr hb_wa | exact after3 HB_wr hb_wa | exact after4 HB_wr hb_wa | exact after5 HB_wr hb_wa
      have HCA := Lib.hid (fun j (hj : j < d.length) => (hb_wa.cell (p := ⟨b', off + j * 1, none⟩) hb).trans (HCL.out j hj))
      have e_1 := (hb_wa.cell (p := ⟨b', off + k, none⟩) hb).trans e_0
      clear e_0 HCL
      cases hn : isNum x
      · have HP := Lib.hid (HBD.out (.inl hn))
        clear hn HNX HBD
        go_wp2_with fail
        refine wp_region_plan (C := fun w' => ∃ p : Regrown, w' = grow (redrawn wa p.d) p.os) (.q 0 (.q 1 (.q 2 (.q 3 (.q 4 (.q 5 (.q 6 (.q 7 (.q 8 (.q 9 (.q 10 (.q 11 (.q 12 (.q 13 (.q 14 (.q 15 (.q 16 (.q 17 (.done))))))))))))))))))) 18 (by kernel_rfl) (by kernel_rfl) (grew_drew _) ?_
        repeat (any_goals (first | (go_big_quiet_skip; refine wpQuiet_nil ?_) | (go_big_quiet_want; go_big_quiet_op; go_big_quiet_on; refine wpQuiet_nil ?_) | ((with_reducible apply q_split); exact rfl; intro q hq; cases q <;> (rw [hq]; (try first | replace hq := bnot_t hq | replace hq := bnot_f hq); (try first | replace hq := of_decide_eq_true hq | replace hq := of_decide_eq_false hq | replace hq := eq_of_beq hq); (try first | replace hq := Int.not_lt.1 hq | replace hq := Int.not_le.1 hq | replace hq := Nat.not_lt.1 hq | replace hq := Nat.not_le.1 hq); try (exfalso; omega))) | (refine plan_q rfl rfl ?_)))
        all_goals refine plan_done ?_
        all_goals (try simp only [List.drop_succ_cons, List.drop_zero])
        all_goals (try go_wp2_with fail)
        all_goals refine NoPanic.normal ?_
        all_goals (try go_wp2_with fail)
        go_ret
        exact ⟨ret_bool' HP.out.symm, HB_wa.drew⟩
      rcases k with _ | j
      · have HN := Lib.hid (HNX.out hn (fun j y h => by omega))
        clear hn HNX HBD
        go_wp2_with fail
        refine wp_region_plan (C := fun w' => ∃ p : Regrown, w' = grow (redrawn wa p.d) p.os) (.q 0 (.q 1 (.q 2 (.q 3 (.q 4 (.q 5 (.q 6 (.q 7 (.q 8 (.q 9 (.q 10 (.q 11 (.q 12 (.q 13 (.q 14 (.q 15 (.q 16 (.q 17 (.done))))))))))))))))))) 18 (by kernel_rfl) (by kernel_rfl) (grew_drew _) ?_
        repeat (any_goals (first | (go_big_quiet_skip; refine wpQuiet_nil ?_) | (go_big_quiet_want; go_big_quiet_op; go_big_quiet_on; refine wpQuiet_nil ?_) | ((with_reducible apply q_split); exact rfl; intro q hq; cases q <;> (rw [hq]; (try first | replace hq := bnot_t hq | replace hq := bnot_f hq); (try first | replace hq := of_decide_eq_true hq | replace hq := of_decide_eq_false hq | replace hq := eq_of_beq hq); (try first | replace hq := Int.not_lt.1 hq | replace hq := Int.not_le.1 hq | replace hq := Nat.not_lt.1 hq | replace hq := Nat.not_le.1 hq); try (exfalso; omega))) | (refine plan_q rfl rfl ?_)))
        all_goals refine plan_done ?_
        all_goals (try simp only [List.drop_succ_cons, List.drop_zero])
        all_goals (try go_wp2_with fail)
        all_goals refine NoPanic.normal ?_
        all_goals (try go_wp2_with fail)
        go_roundw
        case rel => exact ⟨1, hlt, by go_num, HB_wa.drew, HN⟩
        case measure => simp [intOf] <;> omega
      · have hj : j < d.length := by omega
        have d_0 := HCA.out j hj
        rw [Nat.mul_one] at d_0
        have HYJ := Lib.hid (List.getElem?_eq_getElem hj)
        generalize d[j] = y at *
        by_cases hxy : x ≤ y
        · have HP := Lib.hid (HBD.out (.inr ⟨j, y, rfl, HYJ.out, hxy⟩))
          clear hn HNX HBD
          go_wp2_with fail
          have e_0 := e_1
          clear e_1
          have y_e_0 := cell_regrown e_0
          clear e_0
          have y_d_0 := cell_regrown d_0
          clear d_0
          refine wp_region_plan (C := fun w' => ∃ p : Regrown, w' = grow (redrawn wa p.d) p.os) (.q 0 (.q 1 (.q 2 (.q 3 (.q 4 (.q 5 (.q 6 (.q 7 (.q 8 (.q 9 (.q 10 (.q 11 (.q 12 (.q 13 (.q 14 (.q 15 (.q 16 (.q 17 (.done))))))))))))))))))) 18 (by kernel_rfl) (by kernel_rfl) (grew_drew _) ?_
          repeat (any_goals (first | (go_big_quiet_skip; refine wpQuiet_nil ?_) | (go_big_quiet_want; go_big_quiet_op; go_big_quiet_on; refine wpQuiet_nil ?_) | ((with_reducible apply q_split); exact rfl; intro q hq; cases q <;> (rw [hq]; (try first | replace hq := bnot_t hq | replace hq := bnot_f hq); (try first | replace hq := of_decide_eq_true hq | replace hq := of_decide_eq_false hq | replace hq := eq_of_beq hq); (try first | replace hq := Int.not_lt.1 hq | replace hq := Int.not_le.1 hq | replace hq := Nat.not_lt.1 hq | replace hq := Nat.not_le.1 hq); try (exfalso; omega))) | (refine plan_q rfl rfl ?_)))
          clear y_e_0
          clear y_d_0
          all_goals refine plan_done ?_
          all_goals (try simp only [List.drop_succ_cons, List.drop_zero])
          all_goals (try go_wp2_with fail)
          all_goals refine NoPanic.normal ?_
          all_goals (try go_wp2_with fail)
          go_ret
          exact ⟨ret_bool' HP.out.symm, HB_wa.drew⟩
        · have hxy2 : y < x := by omega
          have HN := Lib.hid (HNX.out hn (fun j' y' h1 h2 => by
            obtain rfl : j' = j := by omega
            rw [HYJ.out] at h2
            cases h2
            exact hxy2))
          clear hn HNX HBD hxy
          go_wp2_with fail
          have e_0 := e_1
          clear e_1
          have y_e_0 := cell_regrown e_0
          clear e_0
          have y_d_0 := cell_regrown d_0
          clear d_0
          refine wp_region_plan (C := fun w' => ∃ p : Regrown, w' = grow (redrawn wa p.d) p.os) (.q 0 (.q 1 (.q 2 (.q 3 (.q 4 (.q 5 (.q 6 (.q 7 (.q 8 (.q 9 (.q 10 (.q 11 (.q 12 (.q 13 (.q 14 (.q 15 (.q 16 (.q 17 (.done))))))))))))))))))) 18 (by kernel_rfl) (by kernel_rfl) (grew_drew _) ?_
          repeat (any_goals (first | (go_big_quiet_skip; refine wpQuiet_nil ?_) | (go_big_quiet_want; go_big_quiet_op; go_big_quiet_on; refine wpQuiet_nil ?_) | ((with_reducible apply q_split); exact rfl; intro q hq; cases q <;> (rw [hq]; (try first | replace hq := bnot_t hq | replace hq := bnot_f hq); (try first | replace hq := of_decide_eq_true hq | replace hq := of_decide_eq_false hq | replace hq := eq_of_beq hq); (try first | replace hq := Int.not_lt.1 hq | replace hq := Int.not_le.1 hq | replace hq := Nat.not_lt.1 hq | replace hq := Nat.not_le.1 hq); try (exfalso; omega))) | (refine plan_q rfl rfl ?_)))
          clear y_e_0
          clear y_d_0
          all_goals refine plan_done ?_
          all_goals (try simp only [List.drop_succ_cons, List.drop_zero])
          all_goals (try go_wp2_with fail)
          all_goals refine NoPanic.normal ?_
          all_goals (try go_wp2_with fail)
          go_roundw
          case rel => exact ⟨j + 1 + 1, hlt, by go_num, HB_wa.drew, HN⟩
          case measure => simp [intOf] <;> omega
    · have HP := Lib.hid (HT.out (by omega) (fun i h => HJ.out i h (by omega)))
      clear HJ
      go_wp2_with fail
      all_goals try (exfalso; omega)
      go_ret
      exact ⟨ret_bool' HP.out.symm, HB_wr⟩
end Go.Proofs.Ytofilkphaelceaa
