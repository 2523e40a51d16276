/-
  Walks of the reference of the layer 'eyes': State, Find.
-/
import Derived.Test.YtmbnhlihcnbebaaEyRA
import Derived.Test.YtmbnhlihcnbebaaEyI
set_option linter.unusedVariables false
namespace Ey
theorem gt_first {l : List Dg} {x : Int} {k : Nat} (h : ∀ d ∈ l.take k, d.id ≠ x) (hk : k < l.length) (hx : l[k].id = x) : gt l x = l[k] := by
  have e : l = l.take k ++ l[k] :: l.drop (k + 1) := by
    conv => lhs; rw [← List.take_append_drop k l, List.drop_eq_getElem_cons hk]
  have : fnd l x = some l[k] := by
    unfold fnd
    conv => lhs; rw [e]
    rw [List.find?_append, List.find?_eq_none.2 (fun d hd => by simpa using h d hd), List.find?_cons]
    simp [hx]
  unfold gt
  rw [this]
  rfl
theorem gt_none {l : List Dg} {x : Int} (h : ∀ d ∈ l, d.id ≠ x) : gt l x = dg0 := by
  unfold gt fnd
  rw [List.find?_eq_none.2 (fun d hd => by simpa using h d hd)]
  rfl
end Ey
namespace Go.Proofs.Ytmbnhlihcnbebaa
open Go Go.RowKit Ey Sk Go.Sort

set_option maxRecDepth 100000 in
set_option maxHeartbeats 8000000 in
theorem rstate_any (ao : Option Addr) (n cap : Nat) (l : List Dg) (w : World) (hs : Sl w 12 cD ao n cap l) : Calls Try.prog 28 #[.slice ao n cap] w (Ret w (.bool (stateB l))) := by
  obtain rfl := hs.len
  have hcap := hs.max
  have hle := hs.le
  unfold maxLen at hcap
  have HS := Lib.hid hs
  have HF := Lib.hid (fun k => @state_bad l k)
  have HN := Lib.hid (fun k => @state_step l k)
  have HT := Lib.hid (@stateB_iff l).2
  clear hs
  generalize stateB l = v at *
  go_enter Try.func28, Try.ntmps28
  go_wp2_with fail
  go_loopw [3] (fun i wr => ∃ k : Nat, k ≤ l.length ∧ i = .int .i64 k ∧ Below w.heap.size w wr ∧ Hid (Sor (l.take k)) ∧ Hid (∀ d ∈ l.take k, soundD d = true)) (fun i _ => l.length - (intOf i).toNat)
  case atStart => exact ⟨0, by omega, rfl, Below.refl _ _, List.Pairwise.nil, fun d h => (by simp at h)⟩
  case round =>
    obtain ⟨k, hk, rfl, HB_wr, HSO, HAL⟩ := hrel
    by_cases hlt : k < l.length
    · obtain ⟨b', off, rfl, hb, hrow⟩ := HS.out.get hlt
      obtain ⟨e_0, e_1, e_2, e_3, e_4, e_5, e_6, e_7, e_8, e_9, e_10, e_11⟩ := ((hrow k hlt).below HB_wr hb).c12
      have HFK := Lib.hid (fun h => HF.out k hlt h)
      have HNK := Lib.hid (HN.out k hlt HSO.out HAL.out)
      have HR := Lib.hid (fun j hj => hrow j hj)
      have HSC := Lib.hid (fun W => rdanger_any l[k] W)
      dsimp only [eD] at HSC
      clear hrow
      have HRK := Lib.hid (HR.out k hlt)
      generalize l[k] = d at *
      obtain ⟨d0, told, ⟨d2, d3, d4, d5⟩, d6, drop, ⟨d8, d9, d10, d11⟩⟩ := d
      dsimp only at e_0 e_1 e_2 e_3 e_4 e_5 e_6 e_7 e_8 e_9 e_10 e_11 HNK HFK HSC
      go_wp2_with fail
      refine (HSC.out _).mono ?_
      rintro e wa ⟨rfl, hb_wa⟩
      have HB_wa : Below w.heap.size w wa := by first | exact after0 HB_wr hb_wa | exact after1 HB_wr hb_wa | exact after2 HB_wr hb_wa | exact after3 HB_wr hb_wa | exact after4 HB_wr hb_wa | exact after5 HB_wr hb_wa
      clear e_0 e_1 e_2 e_3 e_4 e_5 e_6 e_7 e_8 e_9 e_10 e_11
      obtain ⟨e_0, -⟩ := (HRK.out.below HB_wa hb).c12
      dsimp only at e_0
      clear HSC HRK
      cases h1 : soundD ⟨d0, told, ⟨d2, d3, d4, d5⟩, d6, drop, ⟨d8, d9, d10, d11⟩⟩
      · have HP := Lib.hid (HFK.out (.inl h1))
        clear h1
        go_wp2_with fail
        refine wp_region_plan (C := fun w' => ∃ p : Regrown, w' = grow (redrawn wa p.d) p.os) (.q 0 (.q 1 (.q 2 (.q 3 (.q 4 (.q 5 (.q 6 (.q 7 (.q 8 (.q 9 (.q 10 (.q 11 (.q 12 (.q 13 (.q 14 (.q 15 (.q 16 (.q 17 (.q 18 (.q 19 (.done))))))))))))))))))))) 20 (by kernel_rfl) (by kernel_rfl) (grew_drew _) ?_
        repeat (any_goals (first | (go_big_quiet_skip; refine wpQuiet_nil ?_) | (go_big_quiet_want; go_big_quiet_op; go_big_quiet_on; refine wpQuiet_nil ?_) | ((with_reducible apply q_split); exact rfl; intro q hq; cases q <;> (rw [hq]; (try first | replace hq := bnot_t hq | replace hq := bnot_f hq); (try first | replace hq := of_decide_eq_true hq | replace hq := of_decide_eq_false hq | replace hq := eq_of_beq hq); (try first | replace hq := Int.not_lt.1 hq | replace hq := Int.not_le.1 hq | replace hq := Nat.not_lt.1 hq | replace hq := Nat.not_le.1 hq); try (exfalso; omega))) | (refine plan_q rfl rfl ?_)))
        all_goals refine plan_done ?_
        all_goals (try simp only [List.drop_succ_cons, List.drop_zero])
        all_goals (try go_wp2_with fail)
        all_goals refine NoPanic.normal ?_
        all_goals (try go_wp2_with fail)
        go_ret
        exact ⟨ret_bool' HP.out.symm, HB_wa.drew⟩
      cases k with
      | zero =>
        have h2 : lastI l 0 < d0 := by
          have := sound_id h1
          simp only at this
          rw [show lastI l 0 = 0 by simp [lastI]]
          omega
        obtain ⟨n1, n2, n3⟩ := HNK.out h1 h2
        have N1 := Lib.hid n1
        have N2 := Lib.hid n2
        clear h1 n1 n2 n3 HNK HFK h2 HR
        go_wp2_with fail
        refine wp_region_plan (C := fun w' => ∃ p : Regrown, w' = grow (redrawn wa p.d) p.os) (.q 0 (.q 1 (.q 2 (.q 3 (.q 4 (.q 5 (.q 6 (.q 7 (.q 8 (.q 9 (.q 10 (.q 11 (.q 12 (.q 13 (.q 14 (.q 15 (.q 16 (.q 17 (.q 18 (.q 19 (.done))))))))))))))))))))) 20 (by kernel_rfl) (by kernel_rfl) (grew_drew _) ?_
        repeat (any_goals (first | (go_big_quiet_skip; refine wpQuiet_nil ?_) | (go_big_quiet_want; go_big_quiet_op; go_big_quiet_on; refine wpQuiet_nil ?_) | ((with_reducible apply q_split); exact rfl; intro q hq; cases q <;> (rw [hq]; (try first | replace hq := bnot_t hq | replace hq := bnot_f hq); (try first | replace hq := of_decide_eq_true hq | replace hq := of_decide_eq_false hq | replace hq := eq_of_beq hq); (try first | replace hq := Int.not_lt.1 hq | replace hq := Int.not_le.1 hq | replace hq := Nat.not_lt.1 hq | replace hq := Nat.not_le.1 hq); try (exfalso; omega))) | (refine plan_q rfl rfl ?_)))
        all_goals refine plan_done ?_
        all_goals (try simp only [List.drop_succ_cons, List.drop_zero])
        all_goals (try go_wp2_with fail)
        all_goals refine NoPanic.normal ?_
        all_goals (try go_wp2_with fail)
        go_roundw
        case rel => exact ⟨1, hlt, by go_num, HB_wa.drew, N1.out, N2.out⟩
        case measure => simp [intOf] <;> omega
      | succ k =>
        have hk' : k < l.length := by omega
        obtain ⟨f_0, -⟩ := ((HR.out k hk').below HB_wa hb).c12
        have hla := lastI_succ hk'
        generalize l[k].id = c at *
        have hk1 : (0 : Int) < ((k + 1 : Nat) : Int) := by omega
        have hix : ((k + 1 : Nat) : Int) - 1 = (k : Int) := by omega
        by_cases h2 : d0 ≤ c
        · have HP := Lib.hid (HFK.out (.inr ⟨HSO.out, HAL.out, by rw [hla]; exact h2⟩))
          clear h1 hla
          go_wp2_with fail
          have y_e_0 := cell_regrown e_0
          clear e_0
          have y_f_0 := cell_regrown f_0
          clear f_0
          refine wp_region_plan (C := fun w' => ∃ p : Regrown, w' = grow (redrawn wa p.d) p.os) (.q 0 (.q 1 (.q 2 (.q 3 (.q 4 (.q 5 (.q 6 (.q 7 (.q 8 (.q 9 (.q 10 (.q 11 (.q 12 (.q 13 (.q 14 (.q 15 (.q 16 (.q 17 (.q 18 (.q 19 (.done))))))))))))))))))))) 20 (by kernel_rfl) (by kernel_rfl) (grew_drew _) ?_
          repeat (any_goals (first | (go_big_quiet_skip; refine wpQuiet_nil ?_) | (go_big_quiet_want; go_big_quiet_op; go_big_quiet_on; refine wpQuiet_nil ?_) | ((with_reducible apply q_split); exact rfl; intro q hq; cases q <;> (rw [hq]; (try first | replace hq := bnot_t hq | replace hq := bnot_f hq); (try first | replace hq := of_decide_eq_true hq | replace hq := of_decide_eq_false hq | replace hq := eq_of_beq hq); (try first | replace hq := Int.not_lt.1 hq | replace hq := Int.not_le.1 hq | replace hq := Nat.not_lt.1 hq | replace hq := Nat.not_le.1 hq); try (exfalso; omega))) | (refine plan_q rfl rfl ?_)))
          clear y_e_0
          clear y_f_0
          all_goals refine plan_done ?_
          all_goals (try simp only [List.drop_succ_cons, List.drop_zero])
          all_goals (try go_wp2_with fail)
          all_goals refine NoPanic.normal ?_
          all_goals (try go_wp2_with fail)
          go_ret
          exact ⟨ret_bool' HP.out.symm, HB_wa.drew⟩
        replace h2 := Int.not_le.1 h2
        obtain ⟨n1, n2, n3⟩ := HNK.out h1 (by rw [hla]; exact h2)
        have N1 := Lib.hid n1
        have N2 := Lib.hid n2
        clear h1 n1 n2 n3 HNK HFK hla HR
        go_wp2_with fail
        have y_e_0 := cell_regrown e_0
        clear e_0
        have y_f_0 := cell_regrown f_0
        clear f_0
        refine wp_region_plan (C := fun w' => ∃ p : Regrown, w' = grow (redrawn wa p.d) p.os) (.q 0 (.q 1 (.q 2 (.q 3 (.q 4 (.q 5 (.q 6 (.q 7 (.q 8 (.q 9 (.q 10 (.q 11 (.q 12 (.q 13 (.q 14 (.q 15 (.q 16 (.q 17 (.q 18 (.q 19 (.done))))))))))))))))))))) 20 (by kernel_rfl) (by kernel_rfl) (grew_drew _) ?_
        repeat (any_goals (first | (go_big_quiet_skip; refine wpQuiet_nil ?_) | (go_big_quiet_want; go_big_quiet_op; go_big_quiet_on; refine wpQuiet_nil ?_) | ((with_reducible apply q_split); exact rfl; intro q hq; cases q <;> (rw [hq]; (try first | replace hq := bnot_t hq | replace hq := bnot_f hq); (try first | replace hq := of_decide_eq_true hq | replace hq := of_decide_eq_false hq | replace hq := eq_of_beq hq); (try first | replace hq := Int.not_lt.1 hq | replace hq := Int.not_le.1 hq | replace hq := Nat.not_lt.1 hq | replace hq := Nat.not_le.1 hq); try (exfalso; omega))) | (refine plan_q rfl rfl ?_)))
        clear y_e_0
        clear y_f_0
        all_goals refine plan_done ?_
        all_goals (try simp only [List.drop_succ_cons, List.drop_zero])
        all_goals (try go_wp2_with fail)
        all_goals refine NoPanic.normal ?_
        all_goals (try go_wp2_with fail)
        go_roundw
        case rel => exact ⟨k + 1 + 1, hlt, by go_num, HB_wa.drew, N1.out, N2.out⟩
        case measure => simp [intOf] <;> omega
    · obtain rfl : k = l.length := by omega
      rw [List.take_length] at HSO HAL
      have HP := Lib.hid (HT.out ⟨HAL.out, HSO.out⟩)
      go_wp2_with fail
      go_ret
      exact ⟨ret_bool' HP.out.symm, HB_wr⟩

set_option maxRecDepth 100000 in
set_option maxHeartbeats 8000000 in
theorem rfind_any (ao : Option Addr) (n cap : Nat) (l : List Dg) (x : Int) (w : World) (hs : Sl w 12 cD ao n cap l) : Calls Try.prog 30 #[.slice ao n cap, .int .i64 x] w (Ret w (eD (gt l x))) := by
  obtain rfl := hs.len
  have hcap := hs.max
  have hle := hs.le
  unfold maxLen at hcap
  have HS := Lib.hid hs
  have HG := Lib.hid (fun k => @gt_first l x k)
  have HN := Lib.hid (@gt_none l x)
  clear hs
  generalize gt l x = p at *
  go_enter Try.func30, Try.ntmps30
  go_wp2_with fail
  go_loopw [5] (fun i wr => ∃ k : Nat, k ≤ l.length ∧ i = .int .i64 k ∧ Below w.heap.size w wr ∧ Hid (Box wr w.heap.size 33 (cD dg0)) ∧ Hid (∀ d ∈ l.take k, d.id ≠ x)) (fun i _ => l.length - (intOf i).toNat)
  case atStart => exact ⟨0, by omega, rfl, grew1 (Below.refl _ _), Box.new _ _ _, fun d h => (by simp at h)⟩
  case round =>
    obtain ⟨k, hk, rfl, HB_wr, HR, HO⟩ := hrel
    by_cases hlt : k < l.length
    · obtain ⟨b', off, rfl, hb, hrow⟩ := HS.out.get hlt
      obtain ⟨e_0, e_1, e_2, e_3, e_4, e_5, e_6, e_7, e_8, e_9, e_10, e_11⟩ := ((hrow k hlt).below HB_wr hb).c12
      have HGK := Lib.hid (HG.out k HO.out hlt)
      have HNX : Hid (l[k].id ≠ x → ∀ d ∈ l.take (k + 1), d.id ≠ x) := fun h0 d hd => by
        rw [List.take_add_one, List.getElem?_eq_getElem hlt, Option.toList_some, List.mem_append, List.mem_singleton] at hd
        rcases hd with hd | rfl
        · exact HO.out d hd
        · exact h0
      clear hrow HO
      generalize l[k] = d at *
      obtain ⟨d0, told, ⟨d2, d3, d4, d5⟩, d6, drop, ⟨d8, d9, d10, d11⟩⟩ := d
      dsimp only at e_0 e_1 e_2 e_3 e_4 e_5 e_6 e_7 e_8 e_9 e_10 e_11 HGK HNX
      by_cases hx : d0 = x
      · have HP := Lib.hid (HGK.out hx)
        subst hx
        dsimp only [eD] at HR ⊢
        go_wp2_with (refine wpList_store_box rfl 33 _ _ rfl w.heap.size 33 _ [.int .i64 d0, .bool told, .int .i64 d2, .int .i64 d3, .int .i64 d4, .int .i64 d5, .int .i64 d6, .bool drop, .int .i64 d8, .int .i64 d9, .int .i64 d10, .int .i64 d11] rfl rfl HR.out size_danger rfl rfl ?_; intro W5 hb5 hl5 ho5 hz5)
        have HB_5 : Below w.heap.size w W5 := HB_wr.trans (hl5 _ (Nat.le_refl _))
        try go_wp2_with fail
        obtain ⟨s0, s1, s2, s3, s4, s5, s6, s7, s8, s9, s10, s11⟩ := hb5.c12
        refine bodyPost_ret (v := .agg #[.int .i64 d0, .bool told, .int .i64 d2, .int .i64 d3, .int .i64 d4, .int .i64 d5, .int .i64 d6, .bool drop, .int .i64 d8, .int .i64 d9, .int .i64 d10, .int .i64 d11]) (by simp [results, Try.results30, go_sem, s0, s1, s2, s3, s4, s5, s6, s7, s8, s9, s10, s11]) rfl ?_
        exact ⟨by rw [HP.out], HB_5⟩
      have hx2 : (d0 == x) = false := beq_eq_false_iff_ne.2 hx
      have HNY := Lib.hid (HNX.out hx)
      clear hx HNX HGK
      go_wp2_with fail
      all_goals try (exfalso; omega)
      go_roundw
      case rel => exact ⟨k + 1, hlt, by go_num, HB_wr, HR.out, HNY.out⟩
      case measure => simp [intOf] <;> omega
    · obtain rfl : k = l.length := by omega
      rw [List.take_length] at HO
      have HP := Lib.hid (HN.out HO.out)
      dsimp only [cD, dg0, bx0] at HR
      dsimp only [eD]
      go_wp2_with (refine wpList_store_box rfl 33 _ _ rfl w.heap.size 33 _ [.int .i64 0, .bool false, .int .i64 0, .int .i64 0, .int .i64 0, .int .i64 0, .int .i64 0, .bool false, .int .i64 0, .int .i64 0, .int .i64 0, .int .i64 0] rfl rfl HR.out size_danger rfl rfl ?_; intro W5 hb5 hl5 ho5 hz5)
      have HB_5 : Below w.heap.size w W5 := HB_wr.trans (hl5 _ (Nat.le_refl _))
      try go_wp2_with fail
      obtain ⟨s0, s1, s2, s3, s4, s5, s6, s7, s8, s9, s10, s11⟩ := hb5.c12
      refine bodyPost_ret (v := .agg #[.int .i64 0, .bool false, .int .i64 0, .int .i64 0, .int .i64 0, .int .i64 0, .int .i64 0, .bool false, .int .i64 0, .int .i64 0, .int .i64 0, .int .i64 0]) (by simp [results, Try.results30, go_sem, s0, s1, s2, s3, s4, s5, s6, s7, s8, s9, s10, s11]) rfl ?_
      exact ⟨by rw [HP.out]; rfl, HB_5⟩
end Go.Proofs.Ytmbnhlihcnbebaa
