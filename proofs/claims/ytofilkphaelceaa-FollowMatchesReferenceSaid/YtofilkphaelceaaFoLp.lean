/-
  The law FollowPermitted.
-/
import Derived.Test.YtofilkphaelceaaFoR
import Derived.Test.YtofilkphaelceaaFoTp
import Derived.Test.YtofilkphaelceaaLie
set_option linter.unusedVariables false
namespace Go.Proofs.Ytofilkphaelceaa
open Go Go.RowKit Fo Sk Go.Sort
theorem perm_ok {l : List St} {o : List Int} (hl : o.length ≤ 200) (h : permR l o = (-1, 0)) : valid l = true ∧ PermP l o := by
  have hv : valid l = true := by
    cases hq : valid l with
    | true => rfl
    | false => rw [permR_bad (.inl hq)] at h; cases h
  rw [permR_ok hv hl] at h
  exact ⟨hv, permF_iff.1 (Prod.mk.inj h).1⟩
theorem permR_of {l : List St} {o : List Int} (hv : valid l = true) (hl : o.length ≤ 200) (h : PermP l o) : permR l o = (-1, 0) := by
  rw [permR_ok hv hl, permF_iff.2 h]
theorem perm_pre (l : List St) (o : List Int) (K : Nat) (hl : o.length ≤ 200) (h : permR l o = (-1, 0)) : permR l (o.take K) = (-1, 0) := by
  obtain ⟨hv, hP⟩ := perm_ok hl h
  refine permR_of hv (by rw [List.length_take]; omega) ?_
  have : PermP l (o.take K ++ o.drop K) := by rw [List.take_append_drop]; exact hP
  exact PermP.pre this
theorem perm_ex (l : List St) (o : List Int) (j : Nat) (hj : j + 1 < o.length) (hl : o.length ≤ 200) (h : permR l o = (-1, 0)) :
    ∃ (k : Int) (b : Bool), permR l (swp j o) = (k, 0) ∧ besR l = (besP l l.length, 0) ∧ (besP l l.length).contains (min o[j] o[j + 1], max o[j] o[j + 1]) = b ∧ ((k = -1 ∧ b = true) ∨ ((k == -1) = false ∧ b = false)) := by
  obtain ⟨hv, hP⟩ := perm_ok hl h
  obtain ⟨h1, h2⟩ := swp_split j o hj
  have hs := swap_beside (vok hv) (p := o.take j) (q := o.drop (j + 2)) (x := o[j]) (y := o[j + 1]) (by rw [← h1]; exact hP)
  rw [← h2, ← permF_iff] at hs
  refine ⟨_, _, permR_ok hv (by rw [swp_len]; omega), besR_ok hv, rfl, ?_⟩
  rw [List.contains_eq_mem]
  by_cases hb : permF l (swp j o) = -1
  · exact .inl ⟨hb, decide_eq_true (hs.2 hb)⟩
  · exact .inr ⟨beq_eq_false_iff_ne.2 hb, decide_eq_false (fun e => hb (hs.1 e))⟩

theorem take_has {B : List (Int × Int)} {z : Int × Int} {q : Nat} (h : q < B.length) : (B.take (q + 1)).contains z = ((B.take q).contains z || B[q] == z) := by
  rw [List.take_add_one, List.getElem?_eq_getElem h, Option.toList_some, Bool.eq_iff_iff]
  simp only [List.contains_eq_mem, List.mem_append, List.mem_singleton, decide_eq_true_eq, Bool.or_eq_true, beq_iff_eq]
  exact or_congr_right eq_comm
theorem min_if (x y : Int) : min x y = if y < x then y else x := by rw [Int.min_def]; split <;> split <;> omega
theorem max_if (x y : Int) : max x y = if x < y then y else x := by rw [Int.max_def]; split <;> split <;> omega
theorem pr_f {p0 p1 x y : Int} (h : ¬ p0 = x) : (false || (p0, p1) == (x, y)) = false := by
  rw [Bool.false_or]
  exact beq_eq_false_iff_ne.2 (fun e => h (Prod.mk.inj e).1)
theorem pr_t {p0 p1 x y : Int} (h : p0 = x) : (false || (p0, p1) == (x, y)) = (p1 == y) := by
  rw [Bool.false_or, ← h, Bool.eq_iff_iff, beq_iff_eq, beq_iff_eq]
  exact ⟨fun e => (Prod.mk.inj e).2, fun e => by rw [e]⟩

set_option maxRecDepth 100000 in
set_option maxHeartbeats 8000000 in
theorem permitted_walk (hso : SortOk) (ao : Option Addr) (n cap : Nat) (l : List St) (bo : Option Addr) (m capb : Nat) (o : List Int) (t : Int) (w : World) (hs : SlS w ao n cap l) (hd : Sl w 1 cI bo m capb o) (ht : (Lit.int .u8 t).wf = true) :
    Calls Try.prog 6 #[.slice ao n cap, .slice bo m capb, .int .u8 t] w (Ret w (.bool true)) := by
  obtain rfl := hs.1.len
  have hle := hs.1.le
  have hcap := hs.1.max
  unfold maxLen at hcap
  have HS := Lib.hid hs
  have HSO := Lib.hid hso
  have HB_w : Below w.heap.size w w := Below.refl _ _
  obtain rfl := hd.len
  have hle2 := hd.le
  have hcap2 := hd.max
  unfold maxLen at hcap2
  have ht2 : 0 ≤ t ∧ t ≤ 255 := by simpa [Lit.wf, IntKind.min, IntKind.max, IntKind.bits, IntKind.signed] using ht
  have HD := Lib.hid hd
  have HPRE := Lib.hid (perm_pre l o)
  have HEX := Lib.hid (perm_ex l o)
  obtain ⟨i0, hi, hz0, hz1, hz2⟩ := info_parts info_int
  have HI := Lib.hid hi
  have HZ0 := Lib.hid hz0
  have HZ1 := Lib.hid hz1
  have HZ2 := Lib.hid hz2
  clear hs hd hso hi hz0 hz1 hz2 ht
  go_enter Try.func6, Try.ntmps6
  go_wp2_with fail
  refine (head_any HSO.out _).mono ?_
  rintro e wa ⟨rfl, hb_wa⟩
  have HB_wa : Below w.heap.size w wa := by first | exact after0 HB_w hb_wa | exact after1 HB_w hb_wa | exact after2 HB_w hb_wa | exact after3 HB_w hb_wa | exact after4 HB_w hb_wa | exact after5 HB_w hb_wa
  go_wp2_with fail
  refine (rfew_any _ _ _ l _ (HS.out.below HB_wa)).mono ?_
  rintro e wb ⟨rfl, hb_wb⟩
  have HB_wb : Below w.heap.size w wb := by first | exact after0 HB_wa hb_wb | exact after1 HB_wa hb_wb | exact after2 HB_wa hb_wb | exact after3 HB_wa hb_wb | exact after4 HB_wa hb_wb | exact after5 HB_wa hb_wb
  cases h1 : fewB l
  · clear h1
    go_wp2_with fail
    all_goals try (exfalso; omega)
    go_ret
    exact ⟨rfl, HB_wb⟩
  clear h1
  by_cases h30 : 30 < (o.length : Int)
  ·
    go_wp2_with fail
    all_goals try (exfalso; omega)
    go_ret
    exact ⟨rfl, HB_wb⟩
  have h30' : (o.length : Int) ≤ 30 := by omega
  clear h30
  by_cases h0 : o.length = 0
  · have hz : ((o.length : Int) == 0) = true := by rw [h0]; rfl
    clear h0
    go_wp2_with fail
    all_goals try (exfalso; omega)
    go_ret
    exact ⟨rfl, HB_wb⟩
  have hz : ((o.length : Int) == 0) = false := beq_eq_false_iff_ne.2 (by omega)
  go_wp2_with fail
  all_goals try (exfalso; omega)
  refine (Permitted_any _ _ _ l _ _ _ o _ (HS.out.below HB_wb) (HD.out.below HB_wb)).mono ?_
  rintro e wc ⟨rfl, hb_wc⟩
  have HB_wc : Below w.heap.size w wc := by first | exact after0 HB_wb hb_wc | exact after1 HB_wb hb_wc | exact after2 HB_wb hb_wc | exact after3 HB_wb hb_wc | exact after4 HB_wb hb_wc | exact after5 HB_wb hb_wc
  by_cases hp : permR l o = (-1, 0)
  case neg =>
    generalize permR l o = p at *
    obtain ⟨x, e⟩ := p
    by_cases he : e = 0
    · subst he
      have hx : (x != -1) = true := bne_iff_ne.2 (fun e => hp (by rw [e]))
      have hx2 : (x == -1) = false := beq_eq_false_iff_ne.2 (fun e => hp (by rw [e]))
      clear hp HEX HPRE
      go_wp2_with fail
      all_goals try (exfalso; omega)
      go_ret
      exact ⟨rfl, HB_wc⟩
    · have he1 : (e != 0) = true := bne_iff_ne.2 he
      have he2 : (e == 0) = false := beq_eq_false_iff_ne.2 he
      clear hp HEX HPRE he
      go_wp2_with fail
      all_goals try (exfalso; omega)
      go_ret
      exact ⟨rfl, HB_wc⟩
  have HPR := Lib.hid (fun K => HPRE.out K (by omega) hp)
  have HEX2 := Lib.hid (fun j hj => HEX.out j hj (by omega) hp)
  rw [hp]
  clear hp HEX HPRE
  obtain ⟨K, hK, hlt⟩ : ∃ K : Nat, t % (o.length : Int) = (K : Int) ∧ K < o.length := by
    have k1 := Int.emod_nonneg t (show ((o.length : Int)) ≠ 0 by omega)
    have k2 := Int.emod_lt_of_pos t (show (0 : Int) < o.length by omega)
    exact ⟨(t % (o.length : Int)).toNat, by omega, by omega⟩
  have hnz : ¬ ((o.length : Int) = 0) := by omega
  have hst := slice_head (P := Try.prog) (t := 23) (by kernel_rfl) (fun W => by kernel_rfl) HD.out K (by omega)
  have HSH := Lib.hid (HD.out.take (n := K) (by omega))
  have HPC := Lib.hid (Permitted_any _ _ _ l _ _ _ (o.take K) _ (HS.out.below HB_wc) (HSH.out.below HB_wc))
  rw [HPR.out K] at HPC
  go_wp2_with fail
  all_goals try (exfalso; omega)
  clear hst
  refine (HPC.out).mono ?_
  rintro e wd ⟨rfl, hb_wd⟩
  have HB_wd : Below w.heap.size w wd := by first | exact after0 HB_wc hb_wd | exact after1 HB_wc hb_wd | exact after2 HB_wc hb_wd | exact after3 HB_wc hb_wd | exact after4 HB_wc hb_wd | exact after5 HB_wc hb_wd
  clear HPC HPR HSH
  rcases K with _ | j
  ·
    go_wp2_with fail
    all_goals try (exfalso; omega)
    go_ret
    exact ⟨rfl, HB_wd⟩
  obtain ⟨k, bb, e1, e2, e3, HQ⟩ := HEX2.out j hlt
  have HE1 := Lib.hid e1
  have HE2 := Lib.hid e2
  have HE3 := Lib.hid e3
  have HSWP := Lib.hid (swp_set j o hlt)
  obtain ⟨b, off, rfl, hb, hrow⟩ := HD.out.get hlt
  have HGX := Lib.hid (List.getElem?_eq_getElem (show j < o.length by omega))
  have HGY := Lib.hid (List.getElem?_eq_getElem hlt)
  have HCX := Lib.hid ((hrow j (by omega)).c1)
  have HCY := Lib.hid ((hrow (j + 1) hlt).c1)
  rw [Nat.mul_one] at HCX HCY
  clear e1 e2 e3 HEX2 hrow
  generalize o[j] = x at *
  generalize o[j + 1] = y at *
  have HO0 := Lib.hid (show OwnL (wd.alloc (.cells #[] 3)) wd.heap.size 3 1 cI (.slice (some ⟨wd.heap.size, 0, none⟩) 0 0) [] from OwnL.made (Nat.le_refl _))
  go_wp2_with (at_builtin; refine wpList_append_sl rfl _ _ 23 rfl wd.heap.size 3 i0 _ 1 8 Try.underlying23 HI.out HZ0.out HZ1.out HZ2.out rfl (by decide) cI_len cI_one _ [] rfl HO0.out (some ⟨b, off, none⟩) o.length capb o rfl (by first | exact HD.out.below (grew1 HB_wd) | exact HD.out.below (grew1 (Below.refl _ _))) (by unfold maxLen; simp; omega) (by simp; omega) (by simp) ?_)
  rintro v_w1 w1 ho hg hgr
  have HO_w1 := Lib.hid ho
  have HB_w1 : Below w.heap.size w w1 := (grew1 HB_wd).trans (hg _ HB_wd.size)
  have hb_w1 := Lib.hid (show Below wd.heap.size wd w1 from (grew1 (Below.refl _ _)).trans (hg _ (Nat.le_refl _)))
  have hz_w1 : wd.heap.size ≤ w1.heap.size := hb_w1.out.size
  clear ho hg hgr HO0
  obtain ⟨g, cg, rfl, hg1, hg2⟩ := OwnL.form HO_w1.out (by omega)
  go_wp2_with fail
  obtain ⟨W, hW⟩ : ∃ W, w1.drew = W := ⟨_, rfl⟩
  have HB_W : Below w.heap.size w W := hW ▸ HB_w1.drew
  have HOW := Lib.hid (show OwnL W wd.heap.size 3 1 cI (.slice (some ⟨g, 0, none⟩) o.length cg) o from hW ▸ HO_w1.out.drew)
  have HO9 := Lib.hid (show OwnL ((W.setCell ⟨g, j, none⟩ (.int .i64 y)).setCell ⟨g, j + 1, none⟩ (.int .i64 x)) wd.heap.size 3 1 cI (.slice (some ⟨g, 0, none⟩) o.length cg) (swp j o) from HSWP.out ▸ OwnL.setI (OwnL.setI HOW.out j y) (j + 1) x)
  have hwg : w.heap.size ≤ g := Nat.le_trans HB_wd.size hg1
  have HB_9 : Below w.heap.size w ((W.setCell ⟨g, j, none⟩ (.int .i64 y)).setCell ⟨g, j + 1, none⟩ (.int .i64 x)) := (HB_W.setCell (p := ⟨g, j, none⟩) hwg _).setCell (p := ⟨g, j + 1, none⟩) hwg _
  have g_1 := OwnL.cellI HOW.out HGX.out
  have g_2 := OwnL.cellI HOW.out HGY.out
  have f_1 := OwnL.frozenI HOW.out (j + 1)
  have f_2 := OwnL.frozenI HOW.out j
  have d_1 : W.cell? ⟨b, off + j, none⟩ = some (.int .i64 x) := (HB_W.cell (p := ⟨b, off + j, none⟩) hb).trans HCX.out
  have e_1 : W.cell? ⟨b, off + (j + 1), none⟩ = some (.int .i64 y) := (HB_W.cell (p := ⟨b, off + (j + 1), none⟩) hb).trans HCY.out
  have y_n : Nonempty (Wc (fun W => True)) := ⟨⟨W, trivial⟩⟩
  have hgl : j + 1 < o.length := hlt
  clear HOW HSWP HO_w1
  refine wp_region_plan (C := fun w' => ∃ p : Wc (fun W => True), w' = p.w) (.q 0 (.q 1 (.q 2 (.q 3 (.q 4 (.q 5 (.q 6 (.q 7 (.q 9 (.q 10 (.q 11 (.q 12 (.two 8 (.e 13 (.q 14 (.e 15 (.q 16 (.e 17 (.done)))))) 13 (.e 8 (.q 14 (.e 15 (.q 16 (.e 17 (.done))))))))))))))))))) 18 (by kernel_rfl) (by kernel_rfl) ⟨⟨_, ?_⟩, rfl⟩ ?_
  · trivial
  repeat (any_goals (first | (go_big_quiet_skip; refine wpQuiet_nil ?_) | (go_big_quiet_want; go_big_quiet_op; go_big_quiet_on; refine wpQuiet_nil ?_) | ((with_reducible apply q_split); exact rfl; intro q hq; cases q <;> (rw [hq]; (try first | replace hq := bnot_t hq | replace hq := bnot_f hq); (try first | replace hq := of_decide_eq_true hq | replace hq := of_decide_eq_false hq | replace hq := eq_of_beq hq); (try first | replace hq := Int.not_lt.1 hq | replace hq := Int.not_le.1 hq | replace hq := Nat.not_lt.1 hq | replace hq := Nat.not_le.1 hq); try (exfalso; omega))) | (refine plan_q rfl rfl ?_)))
  rw [show { heap := w1.heap, tape := w1.tape, drawn := w1.drawn + 1, os := w1.os, output := w1.output } = W from hW]
  clear hW
  obtain ⟨W9, hW9⟩ : ∃ X, (W.setCell ⟨g, j, none⟩ (.int .i64 y)).setCell ⟨g, j + 1, none⟩ (.int .i64 x) = X := ⟨_, rfl⟩
  rw [hW9] at HO9 HB_9
  have HB_W9 := HB_9
  have HW9 := Lib.hid hW9
  clear hW9 HB_9
  refine plan_two rfl rfl ?_ ?_
  all_goals
    go_wp2_with fail
    refine MixPost.intro ⟨⟨_, trivial⟩, rfl⟩ ?_
    repeat (any_goals (first | (go_big_quiet_skip; refine wpQuiet_nil ?_) | (go_big_quiet_want; go_big_quiet_op; go_big_quiet_on; refine wpQuiet_nil ?_) | ((with_reducible apply q_split); exact rfl; intro q hq; cases q <;> (rw [hq]; (try first | replace hq := bnot_t hq | replace hq := bnot_f hq); (try first | replace hq := of_decide_eq_true hq | replace hq := of_decide_eq_false hq | replace hq := eq_of_beq hq); (try first | replace hq := Int.not_lt.1 hq | replace hq := Int.not_le.1 hq | replace hq := Nat.not_lt.1 hq | replace hq := Nat.not_le.1 hq); try (exfalso; omega))) | (refine plan_q rfl rfl ?_)))
    refine plan_e rfl ?_
    go_wp2_with fail
    refine MixPost.intro ⟨⟨_, trivial⟩, rfl⟩ ?_
    repeat (any_goals (first | (go_big_quiet_skip; refine wpQuiet_nil ?_) | (go_big_quiet_want; go_big_quiet_op; go_big_quiet_on; refine wpQuiet_nil ?_) | ((with_reducible apply q_split); exact rfl; intro q hq; cases q <;> (rw [hq]; (try first | replace hq := bnot_t hq | replace hq := bnot_f hq); (try first | replace hq := of_decide_eq_true hq | replace hq := of_decide_eq_false hq | replace hq := eq_of_beq hq); (try first | replace hq := Int.not_lt.1 hq | replace hq := Int.not_le.1 hq | replace hq := Nat.not_lt.1 hq | replace hq := Nat.not_le.1 hq); try (exfalso; omega))) | (refine plan_q rfl rfl ?_)))
    refine plan_e rfl ?_
    go_wp2_with fail
    refine MixPost.intro ⟨⟨_, trivial⟩, rfl⟩ ?_
    repeat (any_goals (first | (go_big_quiet_skip; refine wpQuiet_nil ?_) | (go_big_quiet_want; go_big_quiet_op; go_big_quiet_on; refine wpQuiet_nil ?_) | ((with_reducible apply q_split); exact rfl; intro q hq; cases q <;> (rw [hq]; (try first | replace hq := bnot_t hq | replace hq := bnot_f hq); (try first | replace hq := of_decide_eq_true hq | replace hq := of_decide_eq_false hq | replace hq := eq_of_beq hq); (try first | replace hq := Int.not_lt.1 hq | replace hq := Int.not_le.1 hq | replace hq := Nat.not_lt.1 hq | replace hq := Nat.not_le.1 hq); try (exfalso; omega))) | (refine plan_q rfl rfl ?_)))
    refine plan_e rfl ?_
    go_wp2_with fail
    refine MixPost.intro ⟨⟨_, trivial⟩, rfl⟩ ?_
    refine plan_done ?_
    try simp only [List.drop_succ_cons, List.drop_zero]
    rw [HW9.out]
    clear HW9 d_1 e_1 f_1 f_2 g_1 g_2 y_n HB_W
    go_wp2_with fail
    refine NoPanic.normal ?_
    obtain ⟨vo, vc, hve, hss⟩ := HO9.out.sl cI_len
    rw [swp_len] at hve hss
    cases hve
    have HP9 := Lib.hid (Permitted_any _ _ _ l _ _ _ (swp j o) _ (HS.out.below HB_W9) hss)
    rw [HE1.out] at HP9
    clear hss
    go_wp2_with fail
    refine (HP9.out).mono ?_
    rintro e we ⟨rfl, hb_we⟩
    have HB_we : Below w.heap.size w we := by first | exact after0 HB_W9 hb_we | exact after1 HB_W9 hb_we | exact after2 HB_W9 hb_we | exact after3 HB_W9 hb_we | exact after4 HB_W9 hb_we | exact after5 HB_W9 hb_we
    clear HP9 HO9
    go_wp2_with fail
    have HBB := Lib.hid (Beside_any _ _ _ l _ (HS.out.below HB_we))
    rw [HE2.out] at HBB
    refine (HBB.out).mono ?_
    rintro e wf ⟨po, pn, pc, rfl, hpp, hb_wf⟩
    have HB_wf : Below w.heap.size w wf := by first | exact after0 HB_we hb_wf | exact after1 HB_we hb_wf | exact after2 HB_we hb_wf | exact after3 HB_we hb_wf | exact after4 HB_we hb_wf | exact after5 HB_we hb_wf
    obtain rfl := hpp.len
    have HPP := Lib.hid hpp
    clear hpp HBB
    generalize besP l l.length = B0 at *
    obtain ⟨mn, hmn⟩ : ∃ z, (if y < x then y else x) = z := ⟨_, rfl⟩
    obtain ⟨mx, hmx⟩ : ∃ z, (if x < y then y else x) = z := ⟨_, rfl⟩
    have HMM := Lib.hid (show (min x y, max x y) = (mn, mx) by rw [min_if, max_if, hmn, hmx])
    rw [HMM.out] at HE3
    have hpm := HPP.out.max
    have hpe := HPP.out.le
    unfold maxLen at hpm
    clear HE2
    go_wp2_with fail
    go_loopw [14, 102] (fun be i wr => ∃ (q : Nat), q ≤ B0.length ∧ be = .bool ((B0.take q).contains (mn, mx)) ∧ i = .int .i64 q ∧ Hid (Below wf.heap.size wf wr)) (fun _ i _ => B0.length - (intOf i).toNat)
    case atStart => exact ⟨0, Nat.zero_le _, rfl, rfl, Below.refl _ _⟩
    case round =>
      obtain ⟨q, hq, rfl, rfl, HB5⟩ := hrel
      have HB_wr := after0 HB_wf HB5.out
      by_cases hlq : q < B0.length
      · obtain ⟨b3, off3, rfl, hb3, hrow3⟩ := (HPP.out.below HB5.out).get hlq
        obtain ⟨d_0, d_1⟩ := (hrow3 q hlq).c2
        have HTQ := Lib.hid (take_has (z := (mn, mx)) hlq)
        clear hrow3
        generalize B0[q] = p at *
        obtain ⟨p0, p1⟩ := p
        dsimp only at d_0 d_1
        obtain ⟨NP, hNP⟩ : ∃ N, wr.heap.size = N := ⟨_, rfl⟩
        obtain ⟨W2, hW2, hB2, hZ2, hb2⟩ := boxes1 wr [.int .i64 p0, .int .i64 p1] 46
        rw [hNP] at hb2
        have H_p := Lib.hid hb2
        have HB_W2 : Below w.heap.size w W2 := after0 HB_wr hB2
        have HB52 := Lib.hid (after0 HB5.out hB2)
        have e_0 : W2.cell? ⟨b, off + j, none⟩ = some (.int .i64 x) := (HB_W2.cell (p := ⟨b, off + j, none⟩) hb).trans HCX.out
        have e_1 : W2.cell? ⟨b, off + (j + 1), none⟩ = some (.int .i64 y) := (HB_W2.cell (p := ⟨b, off + (j + 1), none⟩) hb).trans HCY.out
        clear hb2 hB2 hZ2
        obtain ⟨q_p_0, q_p_1⟩ := H_p.out.c2
        generalize (B0.take q).contains (mn, mx) = be at *
        cases be
        · go_wp2_with fail
          clear hW2
          have y_e_0 := cell_regrown e_0
          have y_e_1 := cell_regrown e_1
          clear e_0 e_1
          have y_q_p_0 := cell_regrown q_p_0
          have y_q_p_1 := cell_regrown q_p_1
          clear q_p_0 q_p_1
          refine wp_region_plan (C := fun w' => ∃ p : Regrown, w' = grow (redrawn W2 p.d) p.os) (.q 0 (.q 1 (.q 2 (.q 3 (.q 4 (.q 5 (.q 6 (.q 7 (.q 8 (.q 9 (.q 10 (.q 11 (.q 12 (.q 13 (.q 14 (.q 15 (.q 16 (.q 17 (.q 18 (.q 19 (.q 20 (.q 21 (.q 22 (.q 23 (.q 24 (.q 25 (.q 26 (.q 27 (.q 28 (.q 29 (.q 30 (.q 31 (.done))))))))))))))))))))))))))))))))) 32 (by kernel_rfl) (by kernel_rfl) (grew_drew _) ?_
          repeat (any_goals (first | (go_big_quiet_skip; refine wpQuiet_nil ?_) | (go_big_quiet_want; go_big_quiet_op; go_big_quiet_on; refine wpQuiet_nil ?_) | ((with_reducible apply q_split); exact rfl; intro q hq; cases q <;> (rw [hq]; (try first | replace hq := bnot_t hq | replace hq := bnot_f hq); (try first | replace hq := of_decide_eq_true hq | replace hq := of_decide_eq_false hq | replace hq := eq_of_beq hq); (try first | replace hq := Int.not_lt.1 hq | replace hq := Int.not_le.1 hq | replace hq := Nat.not_lt.1 hq | replace hq := Nat.not_le.1 hq); try (exfalso; omega))) | (refine plan_q rfl rfl ?_)))
          all_goals
            clear y_e_0 y_e_1
            clear y_q_p_0 y_q_p_1
            all_goals refine plan_done ?_
            all_goals (try simp only [List.drop_succ_cons, List.drop_zero])
            all_goals (try go_wp2_with fail)
            all_goals refine NoPanic.normal ?_
            all_goals (try go_wp2_with fail)
            go_roundw
            case rel => exact ⟨q + 1, hlq, by rw [HTQ.out]; first | (rw [pr_f (by assumption)]; done) | (rw [pr_t (by assumption)]; done), by go_num, HB52.out.drew⟩
            case measure => simp [intOf] <;> omega
        · go_wp2_with fail
          clear hW2
          have y_e_0 := cell_regrown e_0
          have y_e_1 := cell_regrown e_1
          clear e_0 e_1
          have y_q_p_0 := cell_regrown q_p_0
          have y_q_p_1 := cell_regrown q_p_1
          clear q_p_0 q_p_1
          refine wp_region_plan (C := fun w' => ∃ p : Regrown, w' = grow (redrawn W2 p.d) p.os) (.q 0 (.q 1 (.q 2 (.q 3 (.q 4 (.q 5 (.q 6 (.q 7 (.q 8 (.q 9 (.q 10 (.q 11 (.q 12 (.q 13 (.q 14 (.q 15 (.q 16 (.q 17 (.q 18 (.q 19 (.q 20 (.q 21 (.q 22 (.q 23 (.q 24 (.q 25 (.q 26 (.q 27 (.q 28 (.q 29 (.q 30 (.q 31 (.done))))))))))))))))))))))))))))))))) 32 (by kernel_rfl) (by kernel_rfl) (grew_drew _) ?_
          repeat (any_goals (first | (go_big_quiet_skip; refine wpQuiet_nil ?_) | (go_big_quiet_want; go_big_quiet_op; go_big_quiet_on; refine wpQuiet_nil ?_) | ((with_reducible apply q_split); exact rfl; intro q hq; cases q <;> (rw [hq]; (try first | replace hq := bnot_t hq | replace hq := bnot_f hq); (try first | replace hq := of_decide_eq_true hq | replace hq := of_decide_eq_false hq | replace hq := eq_of_beq hq); (try first | replace hq := Int.not_lt.1 hq | replace hq := Int.not_le.1 hq | replace hq := Nat.not_lt.1 hq | replace hq := Nat.not_le.1 hq); try (exfalso; omega))) | (refine plan_q rfl rfl ?_)))
          all_goals
            clear y_e_0 y_e_1
            clear y_q_p_0 y_q_p_1
            all_goals refine plan_done ?_
            all_goals (try simp only [List.drop_succ_cons, List.drop_zero])
            all_goals (try go_wp2_with fail)
            all_goals refine NoPanic.normal ?_
            all_goals (try go_wp2_with fail)
            go_roundw
            case rel => exact ⟨q + 1, hlq, by rw [HTQ.out]; rfl, by go_num, HB52.out.drew⟩
            case measure => simp [intOf] <;> omega
      · obtain rfl : q = B0.length := by omega
        rw [List.take_length, HE3.out]
        rcases HQ with ⟨rfl, rfl⟩ | ⟨hk1, rfl⟩
        ·
          go_wp2_with fail
          all_goals try (exfalso; omega)
          go_ret
          exact ⟨rfl, HB_wr⟩
        ·
          go_wp2_with fail
          all_goals try (exfalso; omega)
          go_ret
          exact ⟨rfl, HB_wr⟩
end Go.Proofs.Ytofilkphaelceaa
