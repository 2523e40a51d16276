/-
  Walks of the layer 'follow': 'sorted', a law's insertion sort.
-/
import Derived.Laws.OwnMore
import Derived.Test.YtofilkphaelceaaFoP
set_option linter.unusedVariables false
namespace Go.Proofs.Ytofilkphaelceaa
open Go Go.RowKit Fo Sk Go.Sort

theorem srt_unique {l L : List Int} (hp : L.Perm l) (hs : L.Pairwise (· ≤ ·)) : srt l = L := by
  refine List.Perm.eq_of_pairwise (le := fun x y : Int => x ≤ y) (fun a b _ _ h1 h2 => by omega) (srt_sorted l) hs ?_
  exact (List.mergeSort_perm l _).trans hp.symm
theorem srt_len (l : List Int) : (srt l).length = l.length := (List.mergeSort_perm l _).length_eq
theorem srt_of {l : List Int} (h : l.Pairwise (· ≤ ·)) : srt l = l := srt_unique (.refl _) h
/-- one integer more, at its place -/
theorem srt_ins {l : List Int} {k i : Nat} (h : k < l.length) (hi : i ≤ (srt (l.take k)).length) (hgt : ∀ y ∈ (srt (l.take k)).drop i, l[k] < y) (hle : ∀ j y, i = j + 1 → (srt (l.take k))[j]? = some y → y ≤ l[k]) :
    srt (l.take (k + 1)) = (srt (l.take k)).take i ++ l[k] :: (srt (l.take k)).drop i := by
  have hS := srt_sorted (l.take k)
  have hP := List.mergeSort_perm (l.take k) fun x y => decide (x ≤ y)
  change (srt (l.take k)).Perm (l.take k) at hP
  generalize srt (l.take k) = P at *
  refine srt_unique ?_ ?_
  · rw [List.take_add_one, List.getElem?_eq_getElem h, Option.toList_some]
    refine (List.perm_middle).trans ?_
    rw [List.take_append_drop]
    exact ((List.Perm.cons _ hP).trans (List.perm_append_singleton _ _).symm)
  · rw [List.pairwise_append, List.pairwise_cons]
    refine ⟨hS.sublist (List.take_sublist _ _), ⟨fun y hy => by have := hgt y hy; omega, hS.sublist (List.drop_sublist _ _)⟩, fun a ha b hb => ?_⟩
    obtain ⟨j, hj, rfl⟩ := List.getElem_of_mem ha
    rw [List.length_take] at hj
    rw [List.getElem_take]
    have hle' := hle (i - 1) P[i - 1] (by omega) (List.getElem?_eq_getElem _)
    have h1 : P[j] ≤ P[i - 1] := by
      by_cases e : j = i - 1
      · subst e; exact Int.le_refl _
      · exact List.pairwise_iff_getElem.1 hS j (i - 1) (by omega) (by omega) (by omega)
    rcases List.mem_cons.1 hb with rfl | hb
    · omega
    · have := hgt b hb; omega
theorem ins_step {P : List Int} {x : Int} {j : Nat} (h : j + 1 ≤ P.length) : ((P.take (j + 1) ++ x :: P.drop (j + 1)).set (j + 1) P[j]).set j x = P.take j ++ x :: P.drop j := by
  have h1 : P.take (j + 1) = P.take j ++ [P[j]] := by rw [List.take_add_one, List.getElem?_eq_getElem (by omega), Option.toList_some]
  have h2 : P.drop j = P[j] :: P.drop (j + 1) := List.drop_eq_getElem_cons (by omega)
  have hl : (P.take j).length = j := by rw [List.length_take]; omega
  rw [h1, h2, List.append_assoc, List.singleton_append]
  rw [List.set_append_right _ _ (by omega), hl, show j + 1 - j = 1 from by omega]
  simp only [List.set_cons_succ, List.set_cons_zero]
  rw [List.set_append_right _ _ (by omega), hl, Nat.sub_self, List.set_cons_zero]
theorem ins_at {P : List Int} {x : Int} {j : Nat} (h : j + 1 ≤ P.length) : (P.take (j + 1) ++ x :: P.drop (j + 1))[j + 1]? = some x ∧ (P.take (j + 1) ++ x :: P.drop (j + 1))[j]? = some P[j] := by
  constructor
  · rw [List.getElem?_append_right (by rw [List.length_take]; omega), List.length_take]
    simp [Nat.min_eq_left h]
  · rw [List.getElem?_append_left (by rw [List.length_take]; omega), List.getElem?_take, if_pos (by omega), List.getElem?_eq_getElem]
theorem ins_gt {P : List Int} {x : Int} {j : Nat} (h : j + 1 ≤ P.length) (hlt : x < P[j]) (hgt : ∀ y ∈ P.drop (j + 1), x < y) : ∀ y ∈ P.drop j, x < y := by
  rw [List.drop_eq_getElem_cons (show j < P.length by omega)]
  intro y hy
  rcases List.mem_cons.1 hy with rfl | hy
  · exact hlt
  · exact hgt y hy

section
variable {w : World} {base g n cap : Nat} {ys : List Int}
theorem OwnL.form {v : Value} (h : OwnL w base 3 1 cI v ys) (hn : 0 < ys.length) : ∃ g cap, v = .slice (some ⟨g, 0, none⟩) ys.length cap ∧ base ≤ g ∧ g < w.heap.size := by
  rcases h.2 with ⟨_, h0⟩ | ⟨g, cap, cur, hv, hb, hg, _⟩
  · omega
  · exact ⟨g, cap, hv, hb, (Array.getElem?_eq_some_iff.1 hg).1⟩
theorem OwnL.cellI (h : OwnL w base 3 1 cI (.slice (some ⟨g, 0, none⟩) ys.length cap) ys) {j : Nat} {x : Int} (hx : ys[j]? = some x) : w.cell? ⟨g, j, none⟩ = some (.int .i64 x) := by
  have hj := (List.getElem?_eq_some_iff.1 hx).1
  have := World.ownsRow.cellAt h j (by omega)
  rw [this, flat_cI, List.getElem?_map, hx]; rfl
theorem OwnL.frozenI (h : OwnL w base 3 1 cI (.slice (some ⟨g, 0, none⟩) n cap) ys) (j : Nat) : w.frozen? ⟨g, j, none⟩ = false := by
  have hn : ys.length = n := by
    rcases h.2 with ⟨h', _⟩ | ⟨g', cap', cur, h', _⟩
    · simp at h'
    · simp only [Value.slice.injEq] at h'; omega
  subst hn
  exact World.ownsRow.frozenAt h j
theorem OwnL.setI (h : OwnL w base 3 1 cI (.slice (some ⟨g, 0, none⟩) n cap) ys) (j : Nat) (x : Int) : OwnL (w.setCell ⟨g, j, none⟩ (.int .i64 x)) base 3 1 cI (.slice (some ⟨g, 0, none⟩) n cap) (ys.set j x) := by
  have hn : ys.length = n := by
    rcases h.2 with ⟨h', _⟩ | ⟨g', cap', cur, h', _⟩
    · simp at h'
    · simp only [Value.slice.injEq] at h'; omega
  subst hn
  have := (World.ownsRow.stored h j (.int .i64 x)).1
  unfold OwnL
  rw [flat_cI] at this ⊢
  rw [List.length_set, List.map_set]
  exact this
end

set_option maxRecDepth 100000 in
set_option maxHeartbeats 4000000 in
theorem sorted_any (ao : Option Addr) (n cap : Nat) (l : List Int) (w : World) (hs : Sl w 1 cI ao n cap l) (hn : l.length ≤ 100000) :
    Calls Try.prog 31 #[.slice ao n cap] w (fun e w' => ∃ v, e = .returned v ∧ OwnL w' w.heap.size 3 1 cI v (srt l) ∧ Below w.heap.size w w') := by
  obtain rfl := hs.len
  have hcap := hs.max
  have hle := hs.le
  unfold maxLen at hcap
  have HS0 := Lib.hid hs
  have HB_w : Below w.heap.size w w := Below.refl _ _
  obtain ⟨i0, hi, hz0, hz1, hz2⟩ := info_parts info_int
  have HI := Lib.hid hi
  have HZ0 := Lib.hid hz0
  have HZ1 := Lib.hid hz1
  have HZ2 := Lib.hid hz2
  clear hs hi hz0 hz1 hz2
  go_enter Try.func31, Try.ntmps31
  go_wp2_with fail
  go_loopw [3, 9] (fun o i wr => ∃ k : Nat, k ≤ l.length ∧ i = .int .i64 k ∧ Below w.heap.size w wr ∧ Hid (OwnL wr w.heap.size 3 1 cI o (srt (l.take k)))) (fun _ i _ => l.length - (intOf i).toNat)
  case atStart => exact ⟨0, Nat.zero_le _, rfl, HB_w, by rw [List.take_zero, show srt [] = [] from srt_of List.Pairwise.nil]; exact OwnL.nil⟩
  case round =>
    obtain ⟨k, hk, rfl, HB_wr, HO⟩ := hrel
    by_cases hlt : k < l.length
    · obtain ⟨b', off, rfl, hb, hrow⟩ := (HS0.out.below HB_wr).get hlt
      have e_0 := (hrow k hlt).c1
      rw [Nat.mul_one] at e_0
      have HINS := Lib.hid (fun i => srt_ins (i := i) hlt)
      have hPl : (srt (l.take k)).length = k := by rw [srt_len, List.length_take]; omega
      clear hrow
      generalize srt (l.take k) = P at *
      generalize l[k] = x at *
      have HOX := Lib.hid (HO.out.alloc (.cells #[.int .i64 x] 3))
      have HSX : Hid (Sl (wr.alloc (.cells #[.int .i64 x] 3)) 1 cI (some ⟨wr.heap.size, 0, none⟩) 1 1 [x]) := Sl.one (x := x) cI_len (Box.new wr (cI x) 3)
      have hsz : w.heap.size ≤ (wr.alloc (.cells #[.int .i64 x] 3)).heap.size := by have := HB_wr.size; simp; omega
      go_wp2_with (at_builtin; refine wpList_append_sl rfl _ _ 23 rfl w.heap.size 3 i0 _ 1 8 Try.underlying23 HI.out HZ0.out HZ1.out HZ2.out rfl (by decide) cI_len cI_one _ P rfl HOX.out (some ⟨wr.heap.size, 0, none⟩) 1 1 [x] rfl HSX.out (by unfold maxLen; omega) (by omega) hsz ?_)
      rintro v' w6 ho6 hg6 hgr6
      have HB_6 : Below w.heap.size w w6 := (grew1 HB_wr).trans (hg6 _ (Nat.le_refl _))
      obtain ⟨g, cap6, rfl, hbg, hgl⟩ := OwnL.form ho6 (by simp)
      have hlen6 : (P ++ [x]).length = k + 1 := by simp [hPl]
      rw [hlen6] at ho6 ⊢
      have HO6 := Lib.hid ho6
      have hb6 := w6.heap.size
      clear hg6 hgr6 ho6 HOX HSX hsz e_0 HO
      go_wp2_with fail
      go_loopw [6] (fun i wv => ∃ j : Nat, j ≤ P.length ∧ i = .int .i64 j ∧ Below w.heap.size w wv ∧ Hid (OwnL wv w.heap.size 3 1 cI (.slice (some ⟨g, 0, none⟩) (k + 1) cap6) (P.take j ++ x :: P.drop j)) ∧ Hid (∀ y ∈ P.drop j, x < y)) (fun i _ => (intOf i).toNat)
      case atStart => exact ⟨P.length, Nat.le_refl _, by rw [hPl], HB_6, by rw [List.take_length, List.drop_length]; exact HO6.out, by rw [List.drop_length]; intro y hy; cases hy⟩
      case round =>
        clear HO6 HB_wr
        obtain ⟨j, hj, rfl, HB_wr, HO, HG⟩ := hrel
        rcases j with _ | j
        · have HE := Lib.hid (HINS.out 0 (Nat.zero_le _) HG.out (fun j y h => by omega))
          go_wp2_with fail
          refine wp_region_plan (C := fun w' => ∃ p : Regrown, w' = grow (redrawn wr p.d) p.os) (.q 0 (.q 1 (.q 2 (.q 3 (.q 4 (.q 5 (.q 6 (.q 7 (.q 8 (.q 9 (.q 10 (.q 11 (.q 12 (.q 13 (.done))))))))))))))) 14 (by kernel_rfl) (by kernel_rfl) (grew_drew _) ?_
          repeat (any_goals (first | (go_big_quiet_skip; refine wpQuiet_nil ?_) | (go_big_quiet_want; go_big_quiet_op; go_big_quiet_on; refine wpQuiet_nil ?_) | ((with_reducible apply q_split); exact rfl; intro q hq; cases q <;> (rw [hq]; (try first | replace hq := bnot_t hq | replace hq := bnot_f hq); (try first | replace hq := of_decide_eq_true hq | replace hq := of_decide_eq_false hq | replace hq := eq_of_beq hq); (try first | replace hq := Int.not_lt.1 hq | replace hq := Int.not_le.1 hq | replace hq := Nat.not_lt.1 hq | replace hq := Nat.not_le.1 hq); try (exfalso; omega))) | (refine plan_q rfl rfl ?_)))
          all_goals refine plan_done ?_
          all_goals (try simp only [List.drop_succ_cons, List.drop_zero])
          all_goals (try go_wp2_with fail)
          all_goals refine NoPanic.normal ?_
          all_goals (try go_wp2_with fail)
          go_roundw
          case rel => exact ⟨k + 1, hlt, by go_num, HB_wr.drew, by rw [HE.out]; exact HO.out.drew⟩
          case measure => simp [intOf] <;> omega
        · obtain ⟨hi1, hi2⟩ := ins_at (x := x) hj
          have hlen : (P.take (j + 1) ++ x :: P.drop (j + 1)).length = k + 1 := by
            rw [List.length_append, List.length_cons, List.length_take, List.length_drop]; omega
          have HO1 := HO.out
          rw [← hlen] at HO1
          have e_0 := OwnL.cellI HO1 hi1
          have d_0 := OwnL.cellI HO1 hi2
          have hpj : j < P.length := by omega
          have HPJ := Lib.hid (List.getElem?_eq_getElem hpj)
          clear hi1 hi2 HO1
          by_cases hxy : x < P[j]
          · have HG2 := Lib.hid (ins_gt hj hxy HG.out)
            have HST := Lib.hid (ins_step (x := x) hj)
            generalize P[j] = y at *
            have HE0 := Lib.hid e_0
            have HD0 := Lib.hid d_0
            go_wp2_with fail
            have y_e_0 := cell_regrown e_0
            clear e_0
            have y_d_0 := cell_regrown d_0
            clear d_0
            refine wp_region_plan (C := fun w' => ∃ p : Regrown, w' = grow (redrawn wr p.d) p.os) (.q 0 (.q 1 (.q 2 (.q 3 (.q 4 (.q 5 (.q 6 (.q 7 (.q 8 (.q 9 (.q 10 (.q 11 (.q 12 (.q 13 (.done))))))))))))))) 14 (by kernel_rfl) (by kernel_rfl) (grew_drew _) ?_
            repeat (any_goals (first | (go_big_quiet_skip; refine wpQuiet_nil ?_) | (go_big_quiet_want; go_big_quiet_op; go_big_quiet_on; refine wpQuiet_nil ?_) | ((with_reducible apply q_split); exact rfl; intro q hq; cases q <;> (rw [hq]; (try first | replace hq := bnot_t hq | replace hq := bnot_f hq); (try first | replace hq := of_decide_eq_true hq | replace hq := of_decide_eq_false hq | replace hq := eq_of_beq hq); (try first | replace hq := Int.not_lt.1 hq | replace hq := Int.not_le.1 hq | replace hq := Nat.not_lt.1 hq | replace hq := Nat.not_le.1 hq); try (exfalso; omega))) | (refine plan_q rfl rfl ?_)))
            clear y_e_0
            clear y_d_0
            all_goals refine plan_done ?_
            all_goals (try simp only [List.drop_succ_cons, List.drop_zero])
            all_goals (try go_wp2_with fail)
            all_goals refine NoPanic.normal ?_
            all_goals (try go_wp2_with fail)
            obtain ⟨W, hW⟩ : ∃ W, wr.drew.drew = W := ⟨_, rfl⟩
            have HB_W : Below w.heap.size w W := hW ▸ HB_wr.drew.drew
            have HOW : Hid (OwnL W w.heap.size 3 1 cI (.slice (some ⟨g, 0, none⟩) (k + 1) cap6) (P.take (j + 1) ++ x :: P.drop (j + 1))) := hW ▸ HO.out.drew.drew
            have HO9 := Lib.hid (show OwnL ((W.setCell ⟨g, j + 1, none⟩ (.int .i64 y)).setCell ⟨g, j, none⟩ (.int .i64 x)) w.heap.size 3 1 cI (.slice (some ⟨g, 0, none⟩) (k + 1) cap6) (P.take j ++ x :: P.drop j) from HST.out ▸ OwnL.setI (OwnL.setI HOW.out (j + 1) y) j x)
            have HB_9 : Below w.heap.size w ((W.setCell ⟨g, j + 1, none⟩ (.int .i64 y)).setCell ⟨g, j, none⟩ (.int .i64 x)) := (HB_W.setCell (p := ⟨g, j + 1, none⟩) hbg _).setCell (p := ⟨g, j, none⟩) hbg _
            have f_1 := OwnL.frozenI HOW.out (j + 1)
            have f_2 := OwnL.frozenI HOW.out j
            have d_1 : W.cell? ⟨g, j, none⟩ = some (.int .i64 y) := hW ▸ HD0.out
            have e_1 : W.cell? ⟨g, j + 1, none⟩ = some (.int .i64 x) := hW ▸ HE0.out
            clear HOW HST
            have y_n : Nonempty (Wc (fun W => True)) := ⟨⟨W, trivial⟩⟩
            refine wp_region_plan (C := fun w' => ∃ p : Wc (fun W => True), w' = p.w) (.q 0 (.q 1 (.q 2 (.q 3 (.q 4 (.q 5 (.q 6 (.q 7 (.q 8 (.q 10 (.q 11 (.q 12 (.two 9 (.e 13 (.q 14 (.e 15 (.q 16 (.e 17 (.done)))))) 13 (.e 9 (.q 14 (.e 15 (.q 16 (.e 17 (.done))))))))))))))))))) 18 (by kernel_rfl) (by kernel_rfl) ⟨⟨_, ?_⟩, rfl⟩ ?_
            · trivial
            repeat (any_goals (first | (go_big_quiet_skip; refine wpQuiet_nil ?_) | (go_big_quiet_want; go_big_quiet_op; go_big_quiet_on; refine wpQuiet_nil ?_) | ((with_reducible apply q_split); exact rfl; intro q hq; cases q <;> (rw [hq]; (try first | replace hq := bnot_t hq | replace hq := bnot_f hq); (try first | replace hq := of_decide_eq_true hq | replace hq := of_decide_eq_false hq | replace hq := eq_of_beq hq); (try first | replace hq := Int.not_lt.1 hq | replace hq := Int.not_le.1 hq | replace hq := Nat.not_lt.1 hq | replace hq := Nat.not_le.1 hq); try (exfalso; omega))) | (refine plan_q rfl rfl ?_)))
            rw [show { heap := wr.heap, tape := wr.tape, drawn := wr.drawn + 1 + 1, os := wr.os, output := wr.output } = W from hW]
            clear hW
            refine plan_two rfl rfl ?_ ?_
            all_goals
              go_wp2_with fail
              refine MixPost.intro ⟨⟨_, trivial⟩, rfl⟩ ?_
              repeat (any_goals (first | (go_big_quiet_skip; refine wpQuiet_nil ?_) | (go_big_quiet_want; go_big_quiet_op; go_big_quiet_on; refine wpQuiet_nil ?_) | ((with_reducible apply q_split); exact rfl; intro q hq; cases q <;> (rw [hq]; (try first | replace hq := bnot_t hq | replace hq := bnot_f hq); (try first | replace hq := of_decide_eq_true hq | replace hq := of_decide_eq_false hq | replace hq := eq_of_beq hq); (try first | replace hq := Int.not_lt.1 hq | replace hq := Int.not_le.1 hq | replace hq := Nat.not_lt.1 hq | replace hq := Nat.not_le.1 hq); try (exfalso; omega))) | (refine plan_q rfl rfl ?_)))
              refine plan_e rfl ?_
              go_wp2_with fail
              refine MixPost.intro ⟨⟨_, trivial⟩, rfl⟩ ?_
              repeat (any_goals (first | (go_big_quiet_skip; refine wpQuiet_nil ?_) | (go_big_quiet_want; go_big_quiet_op; go_big_quiet_on; refine wpQuiet_nil ?_) | ((with_reducible apply q_split); exact rfl; intro q hq; cases q <;> (rw [hq]; (try first | replace hq := bnot_t hq | replace hq := bnot_f hq); (try first | replace hq := of_decide_eq_true hq | replace hq := of_decide_eq_false hq | replace hq := eq_of_beq hq); (try first | replace hq := Int.not_lt.1 hq | replace hq := Int.not_le.1 hq | replace hq := Nat.not_lt.1 hq | replace hq := Nat.not_le.1 hq); try (exfalso; omega))) | (refine plan_q rfl rfl ?_)))
              refine plan_e rfl ?_
              go_wp2_with fail
              refine MixPost.intro ⟨⟨_, trivial⟩, rfl⟩ ?_
              repeat (any_goals (first | (go_big_quiet_skip; refine wpQuiet_nil ?_) | (go_big_quiet_want; go_big_quiet_op; go_big_quiet_on; refine wpQuiet_nil ?_) | ((with_reducible apply q_split); exact rfl; intro q hq; cases q <;> (rw [hq]; (try first | replace hq := bnot_t hq | replace hq := bnot_f hq); (try first | replace hq := of_decide_eq_true hq | replace hq := of_decide_eq_false hq | replace hq := eq_of_beq hq); (try first | replace hq := Int.not_lt.1 hq | replace hq := Int.not_le.1 hq | replace hq := Nat.not_lt.1 hq | replace hq := Nat.not_le.1 hq); try (exfalso; omega))) | (refine plan_q rfl rfl ?_)))
              refine plan_e rfl ?_
              go_wp2_with fail
              refine MixPost.intro ⟨⟨_, trivial⟩, rfl⟩ ?_
              refine plan_done ?_
              try simp only [List.drop_succ_cons, List.drop_zero]
              go_wp2_with fail
              refine NoPanic.normal ?_
              go_wp2_with fail
              go_roundw
              case rel => exact ⟨j, by omega, by go_num, HB_9, HO9, HG2⟩
              case measure => simp [intOf] <;> omega
          · have hxy2 : P[j] ≤ x := by omega
            have HE := Lib.hid (HINS.out (j + 1) hj HG.out (fun j' y h1 h2 => by
              obtain rfl : j' = j := by omega
              rw [HPJ.out] at h2
              cases h2
              exact hxy2))
            clear HPJ hxy HG
            generalize P[j] = y at *
            go_wp2_with fail
            have y_e_0 := cell_regrown e_0
            clear e_0
            have y_d_0 := cell_regrown d_0
            clear d_0
            refine wp_region_plan (C := fun w' => ∃ p : Regrown, w' = grow (redrawn wr p.d) p.os) (.q 0 (.q 1 (.q 2 (.q 3 (.q 4 (.q 5 (.q 6 (.q 7 (.q 8 (.q 9 (.q 10 (.q 11 (.q 12 (.q 13 (.done))))))))))))))) 14 (by kernel_rfl) (by kernel_rfl) (grew_drew _) ?_
            repeat (any_goals (first | (go_big_quiet_skip; refine wpQuiet_nil ?_) | (go_big_quiet_want; go_big_quiet_op; go_big_quiet_on; refine wpQuiet_nil ?_) | ((with_reducible apply q_split); exact rfl; intro q hq; cases q <;> (rw [hq]; (try first | replace hq := bnot_t hq | replace hq := bnot_f hq); (try first | replace hq := of_decide_eq_true hq | replace hq := of_decide_eq_false hq | replace hq := eq_of_beq hq); (try first | replace hq := Int.not_lt.1 hq | replace hq := Int.not_le.1 hq | replace hq := Nat.not_lt.1 hq | replace hq := Nat.not_le.1 hq); try (exfalso; omega))) | (refine plan_q rfl rfl ?_)))
            clear y_e_0
            clear y_d_0
            all_goals refine plan_done ?_
            all_goals (try simp only [List.drop_succ_cons, List.drop_zero])
            all_goals (try go_wp2_with fail)
            all_goals refine NoPanic.normal ?_
            all_goals (try go_wp2_with fail)
            go_roundw
            case rel => exact ⟨k + 1, hlt, by go_num, HB_wr.drew, by rw [HE.out]; exact HO.out.drew⟩
            case measure => simp [intOf] <;> omega
    · obtain rfl : k = l.length := by omega
      rw [List.take_length] at HO
      go_wp2_with fail
      go_ret
      exact ⟨_, rfl, HO.out, HB_wr⟩
end Go.Proofs.Ytofilkphaelceaa
