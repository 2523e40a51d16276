/-
  'SymbolMore': plain law and walk.
-/
import Derived.Test.YtmnlkndbdcdngaaSymN
import Derived.Test.YtmnlkndbdcdngaaTail
namespace Sb
theorem vok_sub {l m : List Mk} (h : VOk m) (hs : l.Sublist m) : VOk l := ⟨Nat.le_trans hs.length_le h.len, fun x hx => h.ok x (hs.subset hx), h.inc.sublist hs⟩
theorem more_law {oa ob s t e u f g h : Int} {a b c : List Mk} {x y : Mk} (hs : c.Sublist b) (h1 : translate oa a ob b s = (t, e)) (h2 : translate oa a ob c s = (u, f)) (h3 : findF ob b t = (x, g)) (h4 : findF ob c u = (y, h)) :
    (e = 1 ∧ t = 0) ∨ (e ≠ 1 ∧ f ≠ 0 ∧ (f = e ∨ e = 0 ∧ f = 4)) ∨ (e = 0 ∧ f = 0 ∧ g = 0 ∧ h = 0 ∧ x.cl ≤ y.cl) := by
  rcases translate_cases h1 with ⟨rfl, ha, hb, hn, m, hm, hms, hf, rfl⟩ | ⟨rfl, _, ha, hb, hn, m, hm, hms, hf⟩ | ⟨rfl, _, ha, hb, hn, hno⟩ | ⟨rfl, rfl, _⟩
  · have hc : okB ob c = true := okB_iff.2 ⟨(okB_iff.1 hb).1, vok_sub (vok hb) hs⟩
    obtain ⟨k1, k2, k3, k4⟩ := trans_found (vok hb) hf
    rcases translate_cases h2 with ⟨rfl, _, _, _, m', hm', hms', hf', rfl⟩ | ⟨rfl, _⟩ | ⟨rfl, _, _, _, _, hno⟩ | ⟨_, _, hbad⟩
    · obtain rfl := same_sy ha hm hm' (by omega)
      obtain ⟨l1, l2, l3, l4⟩ := trans_found (vok hc) hf'
      rw [find_mem hb k1] at h3
      rw [find_mem hc l1] at h4
      obtain ⟨rfl, rfl⟩ := Prod.mk.inj h3
      obtain ⟨rfl, rfl⟩ := Prod.mk.inj h4
      exact .inr (.inr ⟨rfl, rfl, rfl, rfl, k4 _ (hs.subset l1) l2 l3⟩)
    · exact .inr (.inl ⟨by decide, by decide, .inr ⟨rfl, rfl⟩⟩)
    · exact absurd hms (hno _ hm)
    · rw [ha, hc, hn] at hbad; cases hbad
  · have hc : okB ob c = true := okB_iff.2 ⟨(okB_iff.1 hb).1, vok_sub (vok hb) hs⟩
    rcases translate_cases h2 with ⟨_, _, _, _, m', hm', hms', hf', _⟩ | ⟨rfl, _⟩ | ⟨rfl, _, _, _, _, hno⟩ | ⟨_, _, hbad⟩
    · exfalso
      obtain rfl := same_sy ha hm hm' (by omega)
      obtain ⟨l1, l2, l3, l4⟩ := trans_found (vok hc) hf'
      rw [trans_there (vok hb) (hs.subset l1) l2 l3] at hf
      cases hf
    · exact .inr (.inl ⟨by decide, by decide, .inl rfl⟩)
    · exact absurd hms (hno _ hm)
    · rw [ha, hc, hn] at hbad; cases hbad
  · have hc : okB ob c = true := okB_iff.2 ⟨(okB_iff.1 hb).1, vok_sub (vok hb) hs⟩
    rcases translate_cases h2 with ⟨_, _, _, _, m', hm', hms', _⟩ | ⟨_, _, _, _, _, m', hm', hms', _⟩ | ⟨rfl, _⟩ | ⟨_, _, hbad⟩
    · exact absurd hms' (hno _ hm')
    · exact absurd hms' (hno _ hm')
    · exact .inr (.inl ⟨by decide, by decide, .inl rfl⟩)
    · rw [ha, hc, hn] at hbad; cases hbad
  · exact .inl ⟨rfl, rfl⟩
end Sb
namespace Go.Proofs.Ytmnlkndbdcdngaa
open Go.RowKit Sb Sk Go.Sort
set_option linter.unusedVariables false

theorem slice_head {α : Type} {P : Program} {t : TypeId} {k : Nat} {enc : α → List Value} {w : World} {ao : Option Addr} {n cap : Nat} {l : List α} (ht : P.underlying t = some (.slice (P.elem t))) (hs : ∀ W, (Go.sizeOf (P.elem t)).run P W = .ok k W)
    (h : Sl w k enc ao n cap l) (j : Nat) (hj : j ≤ n) : ∀ W, (Instr.sliceAt t (.slice ao n cap) none (some (.int .i64 (j : Int))) none).run P W = .ok (.slice ao j cap) W := by
  intro W
  have := h.le
  have := h.len
  rw [run_sliceAt_slice W t _ _ _ _ ht, run_slice_h W t ao n cap ht .i64 (j : Int) (by omega) (by omega), hs]
  cases ao <;> simp [Result.andThen, sliced, Addr.add]
theorem own_ne_box {α : Type} {w : World} {base e size : Nat} {enc : α → List Value} {v : Value} {ys : List α} (h : OwnL w base e size enc v ys) {N T : Nat} {cs : List Value} (hb : Box w N T cs) (hT : T ≠ e) : some N ≠ v.ownBlock := by
  intro he
  rcases h.2 with hn | ⟨g, cap, cur, rfl, hbg, hgg, rest⟩
  · rw [hn.1] at he; simp [Value.ownBlock] at he
  · simp [Value.ownBlock] at he
    subst he
    unfold Box at hb
    rw [hb] at hgg
    simp at hgg
    exact hT hgg.2

theorem drop_one {α : Type} (l : List α) (k : Nat) : (l.take k ++ l.drop (k + 1)).Sublist l := by
  have h : (l.take k ++ l.drop (k + 1)).Sublist (l.take k ++ l.drop k) := List.Sublist.append (List.Sublist.refl _) (by rw [show l.drop (k + 1) = (l.drop k).drop 1 by rw [List.drop_drop]]; exact List.drop_sublist _ _)
  rwa [List.take_append_drop] at h

set_option maxRecDepth 100000 in
set_option maxHeartbeats 16000000 in
theorem more_walk (oa : Int) (aa : Option Addr) (na ca : Nat) (a : List Mk) (ob : Int) (ab : Option Addr) (nb cb : Nat) (b : List Mk) (s v : Int) (w : World) (ha : Sl w 3 cM aa na ca a) (hb : Sl w 3 cM ab nb cb b) (hbytes : nb * 24 ≤ reachBytes) (hv : (Lit.int .u8 v).wf = true) :
    Calls Try.prog 8 #[.agg #[.int .i64 oa, .slice aa na ca], .agg #[.int .i64 ob, .slice ab nb cb], .int .i64 s, .int .u8 v] w (Ret w (.bool true)) := by
  obtain ⟨W0, hW0, HB_W0, hZ, hA, hB⟩ := boxes2 w [.int .i64 oa, .slice aa na ca] [.int .i64 ob, .slice ab nb cb] 24 24
  have H_a := Lib.hid hA
  have H_b := Lib.hid hB
  have HSA := Lib.hid (ha.below HB_W0)
  have HSB := Lib.hid (hb.below HB_W0)
  clear ha hb hA hB hZ
  have hv1 : 0 ≤ v ∧ v ≤ 255 := by
    simp [Lit.wf, IntKind.min, IntKind.max, IntKind.signed, IntKind.bits] at hv
    exact hv
  obtain ⟨hv2, hv3⟩ := hv1
  clear hv
  unfold reachBytes at hbytes
  go_enter Try.func8, Try.ntmps8
  go_wp2_with fail
  refine (head_any _).mono ?_
  rintro e w1 ⟨rfl, hb_w1⟩
  have HB_w1 : Below w.heap.size w w1 := by first | exact after0 HB_W0 hb_w1 | exact after1 HB_W0 hb_w1 | exact after2 HB_W0 hb_w1 | exact after3 HB_W0 hb_w1 | exact after4 HB_W0 hb_w1 | exact after5 HB_W0 hb_w1
  try clear q_a_0 q_a_1
  have H_a := Lib.hid (Box.below (by first | exact H_a.out | exact H_a.out.alloc _ | exact (H_a.out.alloc _).alloc _ | exact ((H_a.out.alloc _).alloc _).alloc _) hb_w1)
  obtain ⟨q_a_0, q_a_1⟩ := H_a.out.c2
  try clear q_b_0 q_b_1
  have H_b := Lib.hid (Box.below (by first | exact H_b.out | exact H_b.out.alloc _ | exact (H_b.out.alloc _).alloc _ | exact ((H_b.out.alloc _).alloc _).alloc _) hb_w1)
  obtain ⟨q_b_0, q_b_1⟩ := H_b.out.c2
  replace HSA := Lib.hid (show Sl w1 _ _ _ _ _ _ by first | exact HSA.out.below hb_w1 | exact (HSA.out.below (grew1 (Below.refl _ _))).below hb_w1 | exact (HSA.out.below (grew2 (Below.refl _ _))).below hb_w1 | exact (HSA.out.below (grew3 (Below.refl _ _))).below hb_w1)
  replace HSB := Lib.hid (show Sl w1 _ _ _ _ _ _ by first | exact HSB.out.below hb_w1 | exact (HSB.out.below (grew1 (Below.refl _ _))).below hb_w1 | exact (HSB.out.below (grew2 (Below.refl _ _))).below hb_w1 | exact (HSB.out.below (grew3 (Below.refl _ _))).below hb_w1)
  clear hW0
  obtain rfl := HSB.out.len
  have hcap := HSB.out.max
  have hle := HSB.out.le
  unfold maxLen at hcap
  by_cases h0 : b.length = 0
  · have hz : ((b.length : Int) == 0) = true := by rw [h0]; rfl
    clear h0
    go_wp2_with fail
    all_goals try (exfalso; omega)
    all_goals try (go_ret; first | exact ⟨rfl, HB_w1⟩ | (refine ⟨ret_bool ?_, HB_w1⟩; simp; omega))
  · have hz : ((b.length : Int) == 0) = false := beq_eq_false_iff_ne.2 (by omega)
    have hz' : ¬ ((b.length : Int) = 0) := by omega
    go_wp2_with fail
    obtain ⟨kk, hkk, hlt⟩ : ∃ kk : Nat, v % (b.length : Int) = (kk : Int) ∧ kk < b.length := by
      have k1 := Int.emod_nonneg v hz'
      have k2 := Int.emod_lt_of_pos v (show (0 : Int) < b.length by omega)
      exact ⟨(v % (b.length : Int)).toNat, by omega, by omega⟩
    rw [hkk]
    clear hkk
    obtain ⟨i0, hi, hz0, hz1, hz2⟩ := info_parts info_mark
    have hst := slice_head (P := Try.prog) (t := 22) (by kernel_rfl) (fun W => by kernel_rfl) HSB.out kk (by omega)
    obtain ⟨ta, htt, hsl⟩ := slice_tail (P := Try.prog) (t := 22) (by kernel_rfl) (fun W => by kernel_rfl) HSB.out (kk + 1) (by omega)
    rw [show ((kk + 1 : Nat) : Int) = (kk : Int) + 1 from rfl] at htt
    have HSH : Hid (Sl w1 3 cM ab kk cb (b.take kk)) := HSB.out.take (by omega)
    have HST : Hid (Sl w1 3 cM ta (b.length - (kk + 1)) (cb - (kk + 1)) (b.drop (kk + 1))) := hsl
    clear hsl h0 hz hz'
    have HRF : Below w1.heap.size w1 w1 := Below.refl _ _
    have y_q_b_0 := cell_regrown q_b_0
    have y_q_b_1 := cell_regrown q_b_1
    clear q_b_0 q_b_1
    clear q_a_0 q_a_1
    refine wp_region_plan (C := fun w' => ∃ p : Regrown, w' = grow (redrawn w1 p.d) p.os) (.q 0 (.q 1 (.q 3 (.q 4 (.q 5 (.q 6 (.q 8 (.q 9 (.q 10 (.q 11 (.q 12 (.two 2 (.two 7 (.two 13 (.q 14 (.e 15 (.done))) 15 (.e 13 (.q 14 (.done)))) 15 (.e 7 (.e 13 (.q 14 (.done))))) 15 (.e 2 (.e 7 (.e 13 (.q 14 (.done))))))))))))))))) 16 (by kernel_rfl) (by kernel_rfl) (grew_drew _) ?_
    repeat (any_goals (first | (go_big_quiet_skip; refine wpQuiet_nil ?_) | (go_big_quiet_want; go_big_quiet_op; go_big_quiet_on; refine wpQuiet_nil ?_) | ((with_reducible apply q_split); exact rfl; intro q hq; cases q <;> (rw [hq]; (try first | replace hq := bnot_t hq | replace hq := bnot_f hq); (try first | replace hq := of_decide_eq_true hq | replace hq := of_decide_eq_false hq | replace hq := eq_of_beq hq); (try first | replace hq := Int.not_lt.1 hq | replace hq := Int.not_le.1 hq | replace hq := Nat.not_lt.1 hq | replace hq := Nat.not_le.1 hq); try (exfalso; omega))) | (refine plan_q rfl rfl ?_)))
    clear hst htt
    refine plan_two rfl rfl ?_ ?_
    · go_wp2_with fail
      obtain ⟨W3, hW3⟩ : ∃ W3, (w1.alloc (.cells #[] 29)).drew = W3 := ⟨_, rfl⟩
      have HB_W3 : Below w1.heap.size w1 W3 := hW3 ▸ (grew1 (Below.refl _ _)).drew
      have HO_W3 : Hid (OwnL W3 w1.heap.size 29 3 cM (.slice (some ⟨w1.heap.size, 0, none⟩) 0 0) ([] : List Mk)) := hW3 ▸ (OwnL.made (Nat.le_refl _)).drew
      rw [hW3]
      clear hW3
      refine MixPost.intro (grew_of_below HB_W3) ?_
      refine plan_two rfl rfl ?_ ?_
      ·
        go_wp2_with (at_builtin; refine wpList_append_sl rfl _ _ 22 rfl w1.heap.size 29 i0 _ 3 24 Try.underlying22 hi hz0 hz1 hz2 rfl (by decide) cM_len cM_one _ ([] : List Mk) rfl HO_W3.out ab kk cb (b.take kk) rfl (HSH.out.below HB_W3) (by unfold maxLen; simp; omega) (by simp; omega) HB_W3.size ?_)
        rintro v4 w4 ho hg hgr
        have HB_w4 : Below w1.heap.size w1 w4 := HB_W3.trans (hg _ (Nat.le_refl _))
        have HO_w4 : Hid (OwnL w4 w1.heap.size 29 3 cM v4 (b.take kk)) := ho
        try have HX_w4 : Hid (Box w4 (N) 24 [.int .i64 0, .slice none 0 0]) := HX_W3.out.grown hgr (own_ne_box HO_W3.out HX_W3.out (by decide))
        clear ho hg hgr
        refine MixPost.intro (grew_of_below HB_w4) ?_
        refine plan_two rfl rfl ?_ ?_
        ·
          go_wp2_with (at_builtin; refine wpList_append_sl rfl _ _ 22 rfl w1.heap.size 29 i0 _ 3 24 Try.underlying22 hi hz0 hz1 hz2 rfl (by decide) cM_len cM_one v4 (b.take kk) rfl HO_w4.out ta (b.length - (kk + 1)) (cb - (kk + 1)) (b.drop (kk + 1)) rfl (HST.out.below HB_w4) (by unfold maxLen; simp; omega) (by simp; omega) HB_w4.size ?_)
          rintro v5 w5 ho hg hgr
          have HB_w5 : Below w1.heap.size w1 w5 := HB_w4.trans (hg _ (Nat.le_refl _))
          have HO_w5 : Hid (OwnL w5 w1.heap.size 29 3 cM v5 (b.take kk ++ b.drop (kk + 1))) := ho
          try have HX_w5 : Hid (Box w5 (N) 24 [.int .i64 0, .slice none 0 0]) := HX_w4.out.grown hgr (own_ne_box HO_w4.out HX_w4.out (by decide))
          clear ho hg hgr
          refine MixPost.intro (grew_of_below HB_w5) ?_
          obtain ⟨ao', cap', rfl, hsl⟩ := HO_w5.out.sl cM_len
          clear hsl
          generalize hys : b.take kk ++ b.drop (kk + 1) = ys at *
          replace hys := Lib.hid hys
          repeat (any_goals (first | (go_big_quiet_skip; refine wpQuiet_nil ?_) | (go_big_quiet_want; go_big_quiet_op; go_big_quiet_on; refine wpQuiet_nil ?_) | ((with_reducible apply q_split); exact rfl; intro q hq; cases q <;> (rw [hq]; (try first | replace hq := bnot_t hq | replace hq := bnot_f hq); (try first | replace hq := of_decide_eq_true hq | replace hq := of_decide_eq_false hq | replace hq := eq_of_beq hq); (try first | replace hq := Int.not_lt.1 hq | replace hq := Int.not_le.1 hq | replace hq := Nat.not_lt.1 hq | replace hq := Nat.not_le.1 hq); try (exfalso; omega))) | (refine plan_q rfl rfl ?_)))
          refine plan_e rfl ?_
          go_wp2_with fail
          have HO_w6 := Lib.hid (HO_w5.out.alloc (.cells #[.int .i64 0, .slice none 0 0] 24))
          have HB_w6 : Below w1.heap.size w1 (w5.alloc (.cells #[.int .i64 0, .slice none 0 0] 24)) := grew1 HB_w5
          have HX_w6 := Lib.hid (Box.new w5 [.int .i64 0, .slice none 0 0] 24)
          have hN1 : w1.heap.size ≤ w5.heap.size := HB_w5.size
          generalize w5.heap.size = N at *
          generalize w5.alloc (.cells #[.int .i64 0, .slice none 0 0] 24) = w6 at *
          refine MixPost.intro (grew_of_below HB_w6) ?_
          clear y_q_b_0 y_q_b_1
          have hNO := own_ne_box HO_w6.out HX_w6.out (by decide)
          obtain ⟨r0, r1⟩ := HX_w6.out.c2
          obtain ⟨W5, hW5, hB5, hX5, _⟩ := store2 w6 (N) (.int .i64 ob) (.slice ao' ys.length cap')
          have ho5 := ownL_setOther (b := N) (j := 1) (x := .slice ao' ys.length cap') (ownL_setOther (b := N) (j := 0) (x := .int .i64 ob) HO_w6.out (fun k e1 e2 => hNO (by rw [e1, e2]))) (fun k e1 e2 => hNO (by rw [e1, e2]))
          rw [hW5] at ho5
          have hf := HX_w6.out.frozen
          have HB_W5 : Below w1.heap.size w1 W5 := HB_w6.trans (hB5 _ hN1)
          have H_c := Lib.hid (hX5 _ _ _ HX_w6.out)
          obtain ⟨ao'', cap'', e1, hsl⟩ := ho5.sl cM_len
          simp only [Value.slice.injEq] at e1
          obtain ⟨rfl, _, rfl⟩ := e1
          have HSC := Lib.hid hsl
          replace H_a := Lib.hid (H_a.out.below HB_W5)
          replace H_b := Lib.hid (H_b.out.below HB_W5)
          replace HSA := Lib.hid (HSA.out.below HB_W5)
          replace HSB := Lib.hid (HSB.out.below HB_W5)
          replace HB_W5 := after0 HB_w1 HB_W5
          have HSUB : Hid (ys.Sublist b) := hys.out ▸ drop_one b kk
          clear hsl ho5 hB5 hX5 hNO
          obtain ⟨q_a_0, q_a_1⟩ := H_a.out.c2
          obtain ⟨q_b_0, q_b_1⟩ := H_b.out.c2
          obtain ⟨q_c_0, q_c_1⟩ := H_c.out.c2
          all_goals refine plan_done ?_
          all_goals (try simp only [List.drop_succ_cons, List.drop_zero])
          all_goals (try go_wp2_with fail)
          all_goals refine NoPanic.normal ?_
          all_goals (try go_wp2_with fail)
          obtain ⟨t, e, h1⟩ := translate_ex oa a ob b s
          obtain ⟨u, f, h2⟩ := translate_ex oa a ob ys s
          obtain ⟨x0, x1, x2, g, h3⟩ := find_ex ob b t
          obtain ⟨y0, y1, y2, h, h4⟩ := find_ex ob ys u
          have HLAW := more_law HSUB.out h1 h2 h3 h4
          replace h1 := Lib.hid h1
          replace h2 := Lib.hid h2
          replace h3 := Lib.hid h3
          replace h4 := Lib.hid h4
          clear hW5 hf r0 r1
          rcases HLAW with ⟨rfl, rfl⟩ | ⟨k1, k2, k3⟩ | ⟨rfl, rfl, rfl, rfl, k1⟩
          ·
            refine (translate_to h1.out (by first | exact HSA.out | exact HSA.out.below (grew1 (Below.refl _ _)) | exact HSA.out.below (grew2 (Below.refl _ _)) | exact HSA.out.below (grew3 (Below.refl _ _))) (by first | exact HSB.out | exact HSB.out.below (grew1 (Below.refl _ _)) | exact HSB.out.below (grew2 (Below.refl _ _)) | exact HSB.out.below (grew3 (Below.refl _ _)))).mono ?_
            rintro e w6 ⟨rfl, hb_w6⟩
            have HB_w6 : Below w.heap.size w w6 := by first | exact after0 HB_W5 hb_w6 | exact after1 HB_W5 hb_w6 | exact after2 HB_W5 hb_w6 | exact after3 HB_W5 hb_w6 | exact after4 HB_W5 hb_w6 | exact after5 HB_W5 hb_w6
            try clear q_a_0 q_a_1
            have H_a := Lib.hid (Box.below (by first | exact H_a.out | exact H_a.out.alloc _ | exact (H_a.out.alloc _).alloc _ | exact ((H_a.out.alloc _).alloc _).alloc _) hb_w6)
            obtain ⟨q_a_0, q_a_1⟩ := H_a.out.c2
            try clear q_b_0 q_b_1
            have H_b := Lib.hid (Box.below (by first | exact H_b.out | exact H_b.out.alloc _ | exact (H_b.out.alloc _).alloc _ | exact ((H_b.out.alloc _).alloc _).alloc _) hb_w6)
            obtain ⟨q_b_0, q_b_1⟩ := H_b.out.c2
            try clear q_c_0 q_c_1
            have H_c := Lib.hid (Box.below (by first | exact H_c.out | exact H_c.out.alloc _ | exact (H_c.out.alloc _).alloc _ | exact ((H_c.out.alloc _).alloc _).alloc _) hb_w6)
            obtain ⟨q_c_0, q_c_1⟩ := H_c.out.c2
            replace HSA := Lib.hid (show Sl w6 _ _ _ _ _ _ by first | exact HSA.out.below hb_w6 | exact (HSA.out.below (grew1 (Below.refl _ _))).below hb_w6 | exact (HSA.out.below (grew2 (Below.refl _ _))).below hb_w6 | exact (HSA.out.below (grew3 (Below.refl _ _))).below hb_w6)
            replace HSB := Lib.hid (show Sl w6 _ _ _ _ _ _ by first | exact HSB.out.below hb_w6 | exact (HSB.out.below (grew1 (Below.refl _ _))).below hb_w6 | exact (HSB.out.below (grew2 (Below.refl _ _))).below hb_w6 | exact (HSB.out.below (grew3 (Below.refl _ _))).below hb_w6)
            replace HSC := Lib.hid (show Sl w6 _ _ _ _ _ _ by first | exact HSC.out.below hb_w6 | exact (HSC.out.below (grew1 (Below.refl _ _))).below hb_w6 | exact (HSC.out.below (grew2 (Below.refl _ _))).below hb_w6 | exact (HSC.out.below (grew3 (Below.refl _ _))).below hb_w6)
            go_wp2_with fail
            refine (translate_to h2.out (by first | exact HSA.out | exact HSA.out.below (grew1 (Below.refl _ _)) | exact HSA.out.below (grew2 (Below.refl _ _)) | exact HSA.out.below (grew3 (Below.refl _ _))) (by first | exact HSC.out | exact HSC.out.below (grew1 (Below.refl _ _)) | exact HSC.out.below (grew2 (Below.refl _ _)) | exact HSC.out.below (grew3 (Below.refl _ _)))).mono ?_
            rintro e w7 ⟨rfl, hb_w7⟩
            have HB_w7 : Below w.heap.size w w7 := by first | exact after0 HB_w6 hb_w7 | exact after1 HB_w6 hb_w7 | exact after2 HB_w6 hb_w7 | exact after3 HB_w6 hb_w7 | exact after4 HB_w6 hb_w7 | exact after5 HB_w6 hb_w7
            go_wp2_with fail
            all_goals try (exfalso; omega)
            all_goals try (go_ret; first | exact ⟨rfl, HB_w7⟩ | (refine ⟨ret_bool ?_, HB_w7⟩; simp; omega))
          ·
            refine (translate_to h1.out (by first | exact HSA.out | exact HSA.out.below (grew1 (Below.refl _ _)) | exact HSA.out.below (grew2 (Below.refl _ _)) | exact HSA.out.below (grew3 (Below.refl _ _))) (by first | exact HSB.out | exact HSB.out.below (grew1 (Below.refl _ _)) | exact HSB.out.below (grew2 (Below.refl _ _)) | exact HSB.out.below (grew3 (Below.refl _ _)))).mono ?_
            rintro e w6 ⟨rfl, hb_w6⟩
            have HB_w6 : Below w.heap.size w w6 := by first | exact after0 HB_W5 hb_w6 | exact after1 HB_W5 hb_w6 | exact after2 HB_W5 hb_w6 | exact after3 HB_W5 hb_w6 | exact after4 HB_W5 hb_w6 | exact after5 HB_W5 hb_w6
            try clear q_a_0 q_a_1
            have H_a := Lib.hid (Box.below (by first | exact H_a.out | exact H_a.out.alloc _ | exact (H_a.out.alloc _).alloc _ | exact ((H_a.out.alloc _).alloc _).alloc _) hb_w6)
            obtain ⟨q_a_0, q_a_1⟩ := H_a.out.c2
            try clear q_b_0 q_b_1
            have H_b := Lib.hid (Box.below (by first | exact H_b.out | exact H_b.out.alloc _ | exact (H_b.out.alloc _).alloc _ | exact ((H_b.out.alloc _).alloc _).alloc _) hb_w6)
            obtain ⟨q_b_0, q_b_1⟩ := H_b.out.c2
            try clear q_c_0 q_c_1
            have H_c := Lib.hid (Box.below (by first | exact H_c.out | exact H_c.out.alloc _ | exact (H_c.out.alloc _).alloc _ | exact ((H_c.out.alloc _).alloc _).alloc _) hb_w6)
            obtain ⟨q_c_0, q_c_1⟩ := H_c.out.c2
            replace HSA := Lib.hid (show Sl w6 _ _ _ _ _ _ by first | exact HSA.out.below hb_w6 | exact (HSA.out.below (grew1 (Below.refl _ _))).below hb_w6 | exact (HSA.out.below (grew2 (Below.refl _ _))).below hb_w6 | exact (HSA.out.below (grew3 (Below.refl _ _))).below hb_w6)
            replace HSB := Lib.hid (show Sl w6 _ _ _ _ _ _ by first | exact HSB.out.below hb_w6 | exact (HSB.out.below (grew1 (Below.refl _ _))).below hb_w6 | exact (HSB.out.below (grew2 (Below.refl _ _))).below hb_w6 | exact (HSB.out.below (grew3 (Below.refl _ _))).below hb_w6)
            replace HSC := Lib.hid (show Sl w6 _ _ _ _ _ _ by first | exact HSC.out.below hb_w6 | exact (HSC.out.below (grew1 (Below.refl _ _))).below hb_w6 | exact (HSC.out.below (grew2 (Below.refl _ _))).below hb_w6 | exact (HSC.out.below (grew3 (Below.refl _ _))).below hb_w6)
            go_wp2_with fail
            refine (translate_to h2.out (by first | exact HSA.out | exact HSA.out.below (grew1 (Below.refl _ _)) | exact HSA.out.below (grew2 (Below.refl _ _)) | exact HSA.out.below (grew3 (Below.refl _ _))) (by first | exact HSC.out | exact HSC.out.below (grew1 (Below.refl _ _)) | exact HSC.out.below (grew2 (Below.refl _ _)) | exact HSC.out.below (grew3 (Below.refl _ _)))).mono ?_
            rintro e w7 ⟨rfl, hb_w7⟩
            have HB_w7 : Below w.heap.size w w7 := by first | exact after0 HB_w6 hb_w7 | exact after1 HB_w6 hb_w7 | exact after2 HB_w6 hb_w7 | exact after3 HB_w6 hb_w7 | exact after4 HB_w6 hb_w7 | exact after5 HB_w6 hb_w7
            go_wp2_with fail
            all_goals try (exfalso; omega)
            all_goals try (go_ret; first | exact ⟨rfl, HB_w7⟩ | (refine ⟨ret_bool ?_, HB_w7⟩; simp; omega))
          ·
            refine (translate_to h1.out (by first | exact HSA.out | exact HSA.out.below (grew1 (Below.refl _ _)) | exact HSA.out.below (grew2 (Below.refl _ _)) | exact HSA.out.below (grew3 (Below.refl _ _))) (by first | exact HSB.out | exact HSB.out.below (grew1 (Below.refl _ _)) | exact HSB.out.below (grew2 (Below.refl _ _)) | exact HSB.out.below (grew3 (Below.refl _ _)))).mono ?_
            rintro e w6 ⟨rfl, hb_w6⟩
            have HB_w6 : Below w.heap.size w w6 := by first | exact after0 HB_W5 hb_w6 | exact after1 HB_W5 hb_w6 | exact after2 HB_W5 hb_w6 | exact after3 HB_W5 hb_w6 | exact after4 HB_W5 hb_w6 | exact after5 HB_W5 hb_w6
            try clear q_a_0 q_a_1
            have H_a := Lib.hid (Box.below (by first | exact H_a.out | exact H_a.out.alloc _ | exact (H_a.out.alloc _).alloc _ | exact ((H_a.out.alloc _).alloc _).alloc _) hb_w6)
            obtain ⟨q_a_0, q_a_1⟩ := H_a.out.c2
            try clear q_b_0 q_b_1
            have H_b := Lib.hid (Box.below (by first | exact H_b.out | exact H_b.out.alloc _ | exact (H_b.out.alloc _).alloc _ | exact ((H_b.out.alloc _).alloc _).alloc _) hb_w6)
            obtain ⟨q_b_0, q_b_1⟩ := H_b.out.c2
            try clear q_c_0 q_c_1
            have H_c := Lib.hid (Box.below (by first | exact H_c.out | exact H_c.out.alloc _ | exact (H_c.out.alloc _).alloc _ | exact ((H_c.out.alloc _).alloc _).alloc _) hb_w6)
            obtain ⟨q_c_0, q_c_1⟩ := H_c.out.c2
            replace HSA := Lib.hid (show Sl w6 _ _ _ _ _ _ by first | exact HSA.out.below hb_w6 | exact (HSA.out.below (grew1 (Below.refl _ _))).below hb_w6 | exact (HSA.out.below (grew2 (Below.refl _ _))).below hb_w6 | exact (HSA.out.below (grew3 (Below.refl _ _))).below hb_w6)
            replace HSB := Lib.hid (show Sl w6 _ _ _ _ _ _ by first | exact HSB.out.below hb_w6 | exact (HSB.out.below (grew1 (Below.refl _ _))).below hb_w6 | exact (HSB.out.below (grew2 (Below.refl _ _))).below hb_w6 | exact (HSB.out.below (grew3 (Below.refl _ _))).below hb_w6)
            replace HSC := Lib.hid (show Sl w6 _ _ _ _ _ _ by first | exact HSC.out.below hb_w6 | exact (HSC.out.below (grew1 (Below.refl _ _))).below hb_w6 | exact (HSC.out.below (grew2 (Below.refl _ _))).below hb_w6 | exact (HSC.out.below (grew3 (Below.refl _ _))).below hb_w6)
            go_wp2_with fail
            refine (translate_to h2.out (by first | exact HSA.out | exact HSA.out.below (grew1 (Below.refl _ _)) | exact HSA.out.below (grew2 (Below.refl _ _)) | exact HSA.out.below (grew3 (Below.refl _ _))) (by first | exact HSC.out | exact HSC.out.below (grew1 (Below.refl _ _)) | exact HSC.out.below (grew2 (Below.refl _ _)) | exact HSC.out.below (grew3 (Below.refl _ _)))).mono ?_
            rintro e w7 ⟨rfl, hb_w7⟩
            have HB_w7 : Below w.heap.size w w7 := by first | exact after0 HB_w6 hb_w7 | exact after1 HB_w6 hb_w7 | exact after2 HB_w6 hb_w7 | exact after3 HB_w6 hb_w7 | exact after4 HB_w6 hb_w7 | exact after5 HB_w6 hb_w7
            try clear q_b_0 q_b_1
            have H_b := Lib.hid (Box.below (by first | exact H_b.out | exact H_b.out.alloc _ | exact (H_b.out.alloc _).alloc _ | exact ((H_b.out.alloc _).alloc _).alloc _) hb_w7)
            obtain ⟨q_b_0, q_b_1⟩ := H_b.out.c2
            try clear q_c_0 q_c_1
            have H_c := Lib.hid (Box.below (by first | exact H_c.out | exact H_c.out.alloc _ | exact (H_c.out.alloc _).alloc _ | exact ((H_c.out.alloc _).alloc _).alloc _) hb_w7)
            obtain ⟨q_c_0, q_c_1⟩ := H_c.out.c2
            replace HSB := Lib.hid (show Sl w7 _ _ _ _ _ _ by first | exact HSB.out.below hb_w7 | exact (HSB.out.below (grew1 (Below.refl _ _))).below hb_w7 | exact (HSB.out.below (grew2 (Below.refl _ _))).below hb_w7 | exact (HSB.out.below (grew3 (Below.refl _ _))).below hb_w7)
            replace HSC := Lib.hid (show Sl w7 _ _ _ _ _ _ by first | exact HSC.out.below hb_w7 | exact (HSC.out.below (grew1 (Below.refl _ _))).below hb_w7 | exact (HSC.out.below (grew2 (Below.refl _ _))).below hb_w7 | exact (HSC.out.below (grew3 (Below.refl _ _))).below hb_w7)
            go_wp2_with fail
            refine (find_to h3.out (by first | exact HSB.out | exact HSB.out.below (grew1 (Below.refl _ _)) | exact HSB.out.below (grew2 (Below.refl _ _)) | exact HSB.out.below (grew3 (Below.refl _ _)))).mono ?_
            rintro e w8 ⟨rfl, hb_w8⟩
            have HB_w8 : Below w.heap.size w w8 := by first | exact after0 HB_w7 hb_w8 | exact after1 HB_w7 hb_w8 | exact after2 HB_w7 hb_w8 | exact after3 HB_w7 hb_w8 | exact after4 HB_w7 hb_w8 | exact after5 HB_w7 hb_w8
            try clear q_b_0 q_b_1
            have H_b := Lib.hid (Box.below (by first | exact H_b.out | exact H_b.out.alloc _ | exact (H_b.out.alloc _).alloc _ | exact ((H_b.out.alloc _).alloc _).alloc _) hb_w8)
            obtain ⟨q_b_0, q_b_1⟩ := H_b.out.c2
            try clear q_c_0 q_c_1
            have H_c := Lib.hid (Box.below (by first | exact H_c.out | exact H_c.out.alloc _ | exact (H_c.out.alloc _).alloc _ | exact ((H_c.out.alloc _).alloc _).alloc _) hb_w8)
            obtain ⟨q_c_0, q_c_1⟩ := H_c.out.c2
            replace HSB := Lib.hid (show Sl w8 _ _ _ _ _ _ by first | exact HSB.out.below hb_w8 | exact (HSB.out.below (grew1 (Below.refl _ _))).below hb_w8 | exact (HSB.out.below (grew2 (Below.refl _ _))).below hb_w8 | exact (HSB.out.below (grew3 (Below.refl _ _))).below hb_w8)
            replace HSC := Lib.hid (show Sl w8 _ _ _ _ _ _ by first | exact HSC.out.below hb_w8 | exact (HSC.out.below (grew1 (Below.refl _ _))).below hb_w8 | exact (HSC.out.below (grew2 (Below.refl _ _))).below hb_w8 | exact (HSC.out.below (grew3 (Below.refl _ _))).below hb_w8)
            have H_x := Lib.hid (Box.new w8 [.int .i64 x0, .int .i64 x1, .int .i64 x2] 29)
            obtain ⟨z0, z1⟩ := (H_c.out.alloc (.cells #[.int .i64 x0, .int .i64 x1, .int .i64 x2] 29)).c2
            go_wp2_with fail
            clear z0 z1
            refine (find_to h4.out (by first | exact HSC.out | exact HSC.out.below (grew1 (Below.refl _ _)) | exact HSC.out.below (grew2 (Below.refl _ _)) | exact HSC.out.below (grew3 (Below.refl _ _)))).mono ?_
            rintro e w9 ⟨rfl, hb_w9⟩
            have HB_w9 : Below w.heap.size w w9 := by first | exact after0 HB_w8 hb_w9 | exact after1 HB_w8 hb_w9 | exact after2 HB_w8 hb_w9 | exact after3 HB_w8 hb_w9 | exact after4 HB_w8 hb_w9 | exact after5 HB_w8 hb_w9
            try clear q_x_0 q_x_1 q_x_2
            have H_x := Lib.hid (Box.below (by first | exact H_x.out | exact H_x.out.alloc _ | exact (H_x.out.alloc _).alloc _ | exact ((H_x.out.alloc _).alloc _).alloc _) hb_w9)
            obtain ⟨q_x_0, q_x_1, q_x_2⟩ := H_x.out.c3
            clear q_x_0 q_x_1 q_x_2 q_b_0 q_b_1 q_c_0 q_c_1
            obtain ⟨W6, hW6, HB_W6, hZ, hY⟩ := boxes1 w9 [.int .i64 y0, .int .i64 y1, .int .i64 y2] 29
            have H_y := Lib.hid hY
            replace H_x := Lib.hid (H_x.out.below HB_W6)
            replace HB_W6 := after0 HB_w9 HB_W6
            clear hY hZ
            obtain ⟨q_x_0, q_x_1, q_x_2⟩ := H_x.out.c3
            obtain ⟨q_y_0, q_y_1, q_y_2⟩ := H_y.out.c3
            go_wp2_with fail
            all_goals try (exfalso; omega)
            all_goals try (go_ret; first | exact ⟨rfl, HB_W6⟩ | (refine ⟨ret_bool ?_, HB_W6⟩; simp; omega))
        ·
          go_wp2_with fail
          have HO_w5 := Lib.hid (HO_w4.out.alloc (.cells #[.int .i64 0, .slice none 0 0] 24))
          have HB_w5 : Below w1.heap.size w1 (w4.alloc (.cells #[.int .i64 0, .slice none 0 0] 24)) := grew1 HB_w4
          have HX_w5 := Lib.hid (Box.new w4 [.int .i64 0, .slice none 0 0] 24)
          have hN1 : w1.heap.size ≤ w4.heap.size := HB_w4.size
          generalize w4.heap.size = N at *
          generalize w4.alloc (.cells #[.int .i64 0, .slice none 0 0] 24) = w5 at *
          refine MixPost.intro (grew_of_below HB_w5) ?_
          refine plan_e rfl ?_
          go_wp2_with (at_builtin; refine wpList_append_sl rfl _ _ 22 rfl w1.heap.size 29 i0 _ 3 24 Try.underlying22 hi hz0 hz1 hz2 rfl (by decide) cM_len cM_one v4 (b.take kk) rfl HO_w5.out ta (b.length - (kk + 1)) (cb - (kk + 1)) (b.drop (kk + 1)) rfl (HST.out.below HB_w5) (by unfold maxLen; simp; omega) (by simp; omega) HB_w5.size ?_)
          rintro v5 w6 ho hg hgr
          have HB_w6 : Below w1.heap.size w1 w6 := HB_w5.trans (hg _ (Nat.le_refl _))
          have HO_w6 : Hid (OwnL w6 w1.heap.size 29 3 cM v5 (b.take kk ++ b.drop (kk + 1))) := ho
          try have HX_w6 : Hid (Box w6 (N) 24 [.int .i64 0, .slice none 0 0]) := HX_w5.out.grown hgr (own_ne_box HO_w5.out HX_w5.out (by decide))
          clear ho hg hgr
          refine MixPost.intro (grew_of_below HB_w6) ?_
          obtain ⟨ao', cap', rfl, hsl⟩ := HO_w6.out.sl cM_len
          clear hsl
          generalize hys : b.take kk ++ b.drop (kk + 1) = ys at *
          replace hys := Lib.hid hys
          repeat (any_goals (first | (go_big_quiet_skip; refine wpQuiet_nil ?_) | (go_big_quiet_want; go_big_quiet_op; go_big_quiet_on; refine wpQuiet_nil ?_) | ((with_reducible apply q_split); exact rfl; intro q hq; cases q <;> (rw [hq]; (try first | replace hq := bnot_t hq | replace hq := bnot_f hq); (try first | replace hq := of_decide_eq_true hq | replace hq := of_decide_eq_false hq | replace hq := eq_of_beq hq); (try first | replace hq := Int.not_lt.1 hq | replace hq := Int.not_le.1 hq | replace hq := Nat.not_lt.1 hq | replace hq := Nat.not_le.1 hq); try (exfalso; omega))) | (refine plan_q rfl rfl ?_)))
          clear y_q_b_0 y_q_b_1
          have hNO := own_ne_box HO_w6.out HX_w6.out (by decide)
          obtain ⟨r0, r1⟩ := HX_w6.out.c2
          obtain ⟨W5, hW5, hB5, hX5, _⟩ := store2 w6 (N) (.int .i64 ob) (.slice ao' ys.length cap')
          have ho5 := ownL_setOther (b := N) (j := 1) (x := .slice ao' ys.length cap') (ownL_setOther (b := N) (j := 0) (x := .int .i64 ob) HO_w6.out (fun k e1 e2 => hNO (by rw [e1, e2]))) (fun k e1 e2 => hNO (by rw [e1, e2]))
          rw [hW5] at ho5
          have hf := HX_w6.out.frozen
          have HB_W5 : Below w1.heap.size w1 W5 := HB_w6.trans (hB5 _ hN1)
          have H_c := Lib.hid (hX5 _ _ _ HX_w6.out)
          obtain ⟨ao'', cap'', e1, hsl⟩ := ho5.sl cM_len
          simp only [Value.slice.injEq] at e1
          obtain ⟨rfl, _, rfl⟩ := e1
          have HSC := Lib.hid hsl
          replace H_a := Lib.hid (H_a.out.below HB_W5)
          replace H_b := Lib.hid (H_b.out.below HB_W5)
          replace HSA := Lib.hid (HSA.out.below HB_W5)
          replace HSB := Lib.hid (HSB.out.below HB_W5)
          replace HB_W5 := after0 HB_w1 HB_W5
          have HSUB : Hid (ys.Sublist b) := hys.out ▸ drop_one b kk
          clear hsl ho5 hB5 hX5 hNO
          obtain ⟨q_a_0, q_a_1⟩ := H_a.out.c2
          obtain ⟨q_b_0, q_b_1⟩ := H_b.out.c2
          obtain ⟨q_c_0, q_c_1⟩ := H_c.out.c2
          all_goals refine plan_done ?_
          all_goals (try simp only [List.drop_succ_cons, List.drop_zero])
          all_goals (try go_wp2_with fail)
          all_goals refine NoPanic.normal ?_
          all_goals (try go_wp2_with fail)
          obtain ⟨t, e, h1⟩ := translate_ex oa a ob b s
          obtain ⟨u, f, h2⟩ := translate_ex oa a ob ys s
          obtain ⟨x0, x1, x2, g, h3⟩ := find_ex ob b t
          obtain ⟨y0, y1, y2, h, h4⟩ := find_ex ob ys u
          have HLAW := more_law HSUB.out h1 h2 h3 h4
          replace h1 := Lib.hid h1
          replace h2 := Lib.hid h2
          replace h3 := Lib.hid h3
          replace h4 := Lib.hid h4
          clear hW5 hf r0 r1
          rcases HLAW with ⟨rfl, rfl⟩ | ⟨k1, k2, k3⟩ | ⟨rfl, rfl, rfl, rfl, k1⟩
          ·
            refine (translate_to h1.out (by first | exact HSA.out | exact HSA.out.below (grew1 (Below.refl _ _)) | exact HSA.out.below (grew2 (Below.refl _ _)) | exact HSA.out.below (grew3 (Below.refl _ _))) (by first | exact HSB.out | exact HSB.out.below (grew1 (Below.refl _ _)) | exact HSB.out.below (grew2 (Below.refl _ _)) | exact HSB.out.below (grew3 (Below.refl _ _)))).mono ?_
            rintro e w6 ⟨rfl, hb_w6⟩
            have HB_w6 : Below w.heap.size w w6 := by first | exact after0 HB_W5 hb_w6 | exact after1 HB_W5 hb_w6 | exact after2 HB_W5 hb_w6 | exact after3 HB_W5 hb_w6 | exact after4 HB_W5 hb_w6 | exact after5 HB_W5 hb_w6
            try clear q_a_0 q_a_1
            have H_a := Lib.hid (Box.below (by first | exact H_a.out | exact H_a.out.alloc _ | exact (H_a.out.alloc _).alloc _ | exact ((H_a.out.alloc _).alloc _).alloc _) hb_w6)
            obtain ⟨q_a_0, q_a_1⟩ := H_a.out.c2
            try clear q_b_0 q_b_1
            have H_b := Lib.hid (Box.below (by first | exact H_b.out | exact H_b.out.alloc _ | exact (H_b.out.alloc _).alloc _ | exact ((H_b.out.alloc _).alloc _).alloc _) hb_w6)
            obtain ⟨q_b_0, q_b_1⟩ := H_b.out.c2
            try clear q_c_0 q_c_1
            have H_c := Lib.hid (Box.below (by first | exact H_c.out | exact H_c.out.alloc _ | exact (H_c.out.alloc _).alloc _ | exact ((H_c.out.alloc _).alloc _).alloc _) hb_w6)
            obtain ⟨q_c_0, q_c_1⟩ := H_c.out.c2
            replace HSA := Lib.hid (show Sl w6 _ _ _ _ _ _ by first | exact HSA.out.below hb_w6 | exact (HSA.out.below (grew1 (Below.refl _ _))).below hb_w6 | exact (HSA.out.below (grew2 (Below.refl _ _))).below hb_w6 | exact (HSA.out.below (grew3 (Below.refl _ _))).below hb_w6)
            replace HSB := Lib.hid (show Sl w6 _ _ _ _ _ _ by first | exact HSB.out.below hb_w6 | exact (HSB.out.below (grew1 (Below.refl _ _))).below hb_w6 | exact (HSB.out.below (grew2 (Below.refl _ _))).below hb_w6 | exact (HSB.out.below (grew3 (Below.refl _ _))).below hb_w6)
            replace HSC := Lib.hid (show Sl w6 _ _ _ _ _ _ by first | exact HSC.out.below hb_w6 | exact (HSC.out.below (grew1 (Below.refl _ _))).below hb_w6 | exact (HSC.out.below (grew2 (Below.refl _ _))).below hb_w6 | exact (HSC.out.below (grew3 (Below.refl _ _))).below hb_w6)
            go_wp2_with fail
            refine (translate_to h2.out (by first | exact HSA.out | exact HSA.out.below (grew1 (Below.refl _ _)) | exact HSA.out.below (grew2 (Below.refl _ _)) | exact HSA.out.below (grew3 (Below.refl _ _))) (by first | exact HSC.out | exact HSC.out.below (grew1 (Below.refl _ _)) | exact HSC.out.below (grew2 (Below.refl _ _)) | exact HSC.out.below (grew3 (Below.refl _ _)))).mono ?_
            rintro e w7 ⟨rfl, hb_w7⟩
            have HB_w7 : Below w.heap.size w w7 := by first | exact after0 HB_w6 hb_w7 | exact after1 HB_w6 hb_w7 | exact after2 HB_w6 hb_w7 | exact after3 HB_w6 hb_w7 | exact after4 HB_w6 hb_w7 | exact after5 HB_w6 hb_w7
            go_wp2_with fail
            all_goals try (exfalso; omega)
            all_goals try (go_ret; first | exact ⟨rfl, HB_w7⟩ | (refine ⟨ret_bool ?_, HB_w7⟩; simp; omega))
          ·
            refine (translate_to h1.out (by first | exact HSA.out | exact HSA.out.below (grew1 (Below.refl _ _)) | exact HSA.out.below (grew2 (Below.refl _ _)) | exact HSA.out.below (grew3 (Below.refl _ _))) (by first | exact HSB.out | exact HSB.out.below (grew1 (Below.refl _ _)) | exact HSB.out.below (grew2 (Below.refl _ _)) | exact HSB.out.below (grew3 (Below.refl _ _)))).mono ?_
            rintro e w6 ⟨rfl, hb_w6⟩
            have HB_w6 : Below w.heap.size w w6 := by first | exact after0 HB_W5 hb_w6 | exact after1 HB_W5 hb_w6 | exact after2 HB_W5 hb_w6 | exact after3 HB_W5 hb_w6 | exact after4 HB_W5 hb_w6 | exact after5 HB_W5 hb_w6
            try clear q_a_0 q_a_1
            have H_a := Lib.hid (Box.below (by first | exact H_a.out | exact H_a.out.alloc _ | exact (H_a.out.alloc _).alloc _ | exact ((H_a.out.alloc _).alloc _).alloc _) hb_w6)
            obtain ⟨q_a_0, q_a_1⟩ := H_a.out.c2
            try clear q_b_0 q_b_1
            have H_b := Lib.hid (Box.below (by first | exact H_b.out | exact H_b.out.alloc _ | exact (H_b.out.alloc _).alloc _ | exact ((H_b.out.alloc _).alloc _).alloc _) hb_w6)
            obtain ⟨q_b_0, q_b_1⟩ := H_b.out.c2
            try clear q_c_0 q_c_1
            have H_c := Lib.hid (Box.below (by first | exact H_c.out | exact H_c.out.alloc _ | exact (H_c.out.alloc _).alloc _ | exact ((H_c.out.alloc _).alloc _).alloc _) hb_w6)
            obtain ⟨q_c_0, q_c_1⟩ := H_c.out.c2
            replace HSA := Lib.hid (show Sl w6 _ _ _ _ _ _ by first | exact HSA.out.below hb_w6 | exact (HSA.out.below (grew1 (Below.refl _ _))).below hb_w6 | exact (HSA.out.below (grew2 (Below.refl _ _))).below hb_w6 | exact (HSA.out.below (grew3 (Below.refl _ _))).below hb_w6)
            replace HSB := Lib.hid (show Sl w6 _ _ _ _ _ _ by first | exact HSB.out.below hb_w6 | exact (HSB.out.below (grew1 (Below.refl _ _))).below hb_w6 | exact (HSB.out.below (grew2 (Below.refl _ _))).below hb_w6 | exact (HSB.out.below (grew3 (Below.refl _ _))).below hb_w6)
            replace HSC := Lib.hid (show Sl w6 _ _ _ _ _ _ by first | exact HSC.out.below hb_w6 | exact (HSC.out.below (grew1 (Below.refl _ _))).below hb_w6 | exact (HSC.out.below (grew2 (Below.refl _ _))).below hb_w6 | exact (HSC.out.below (grew3 (Below.refl _ _))).below hb_w6)
            go_wp2_with fail
            refine (translate_to h2.out (by first | exact HSA.out | exact HSA.out.below (grew1 (Below.refl _ _)) | exact HSA.out.below (grew2 (Below.refl _ _)) | exact HSA.out.below (grew3 (Below.refl _ _))) (by first | exact HSC.out | exact HSC.out.below (grew1 (Below.refl _ _)) | exact HSC.out.below (grew2 (Below.refl _ _)) | exact HSC.out.below (grew3 (Below.refl _ _)))).mono ?_
            rintro e w7 ⟨rfl, hb_w7⟩
            have HB_w7 : Below w.heap.size w w7 := by first | exact after0 HB_w6 hb_w7 | exact after1 HB_w6 hb_w7 | exact after2 HB_w6 hb_w7 | exact after3 HB_w6 hb_w7 | exact after4 HB_w6 hb_w7 | exact after5 HB_w6 hb_w7
            go_wp2_with fail
            all_goals try (exfalso; omega)
            all_goals try (go_ret; first | exact ⟨rfl, HB_w7⟩ | (refine ⟨ret_bool ?_, HB_w7⟩; simp; omega))
          ·
            refine (translate_to h1.out (by first | exact HSA.out | exact HSA.out.below (grew1 (Below.refl _ _)) | exact HSA.out.below (grew2 (Below.refl _ _)) | exact HSA.out.below (grew3 (Below.refl _ _))) (by first | exact HSB.out | exact HSB.out.below (grew1 (Below.refl _ _)) | exact HSB.out.below (grew2 (Below.refl _ _)) | exact HSB.out.below (grew3 (Below.refl _ _)))).mono ?_
            rintro e w6 ⟨rfl, hb_w6⟩
            have HB_w6 : Below w.heap.size w w6 := by first | exact after0 HB_W5 hb_w6 | exact after1 HB_W5 hb_w6 | exact after2 HB_W5 hb_w6 | exact after3 HB_W5 hb_w6 | exact after4 HB_W5 hb_w6 | exact after5 HB_W5 hb_w6
            try clear q_a_0 q_a_1
            have H_a := Lib.hid (Box.below (by first | exact H_a.out | exact H_a.out.alloc _ | exact (H_a.out.alloc _).alloc _ | exact ((H_a.out.alloc _).alloc _).alloc _) hb_w6)
            obtain ⟨q_a_0, q_a_1⟩ := H_a.out.c2
            try clear q_b_0 q_b_1
            have H_b := Lib.hid (Box.below (by first | exact H_b.out | exact H_b.out.alloc _ | exact (H_b.out.alloc _).alloc _ | exact ((H_b.out.alloc _).alloc _).alloc _) hb_w6)
            obtain ⟨q_b_0, q_b_1⟩ := H_b.out.c2
            try clear q_c_0 q_c_1
            have H_c := Lib.hid (Box.below (by first | exact H_c.out | exact H_c.out.alloc _ | exact (H_c.out.alloc _).alloc _ | exact ((H_c.out.alloc _).alloc _).alloc _) hb_w6)
            obtain ⟨q_c_0, q_c_1⟩ := H_c.out.c2
            replace HSA := Lib.hid (show Sl w6 _ _ _ _ _ _ by first | exact HSA.out.below hb_w6 | exact (HSA.out.below (grew1 (Below.refl _ _))).below hb_w6 | exact (HSA.out.below (grew2 (Below.refl _ _))).below hb_w6 | exact (HSA.out.below (grew3 (Below.refl _ _))).below hb_w6)
            replace HSB := Lib.hid (show Sl w6 _ _ _ _ _ _ by first | exact HSB.out.below hb_w6 | exact (HSB.out.below (grew1 (Below.refl _ _))).below hb_w6 | exact (HSB.out.below (grew2 (Below.refl _ _))).below hb_w6 | exact (HSB.out.below (grew3 (Below.refl _ _))).below hb_w6)
            replace HSC := Lib.hid (show Sl w6 _ _ _ _ _ _ by first | exact HSC.out.below hb_w6 | exact (HSC.out.below (grew1 (Below.refl _ _))).below hb_w6 | exact (HSC.out.below (grew2 (Below.refl _ _))).below hb_w6 | exact (HSC.out.below (grew3 (Below.refl _ _))).below hb_w6)
            go_wp2_with fail
            refine (translate_to h2.out (by first | exact HSA.out | exact HSA.out.below (grew1 (Below.refl _ _)) | exact HSA.out.below (grew2 (Below.refl _ _)) | exact HSA.out.below (grew3 (Below.refl _ _))) (by first | exact HSC.out | exact HSC.out.below (grew1 (Below.refl _ _)) | exact HSC.out.below (grew2 (Below.refl _ _)) | exact HSC.out.below (grew3 (Below.refl _ _)))).mono ?_
            rintro e w7 ⟨rfl, hb_w7⟩
            have HB_w7 : Below w.heap.size w w7 := by first | exact after0 HB_w6 hb_w7 | exact after1 HB_w6 hb_w7 | exact after2 HB_w6 hb_w7 | exact after3 HB_w6 hb_w7 | exact after4 HB_w6 hb_w7 | exact after5 HB_w6 hb_w7
            try clear q_b_0 q_b_1
            have H_b := Lib.hid (Box.below (by first | exact H_b.out | exact H_b.out.alloc _ | exact (H_b.out.alloc _).alloc _ | exact ((H_b.out.alloc _).alloc _).alloc _) hb_w7)
            obtain ⟨q_b_0, q_b_1⟩ := H_b.out.c2
            try clear q_c_0 q_c_1
            have H_c := Lib.hid (Box.below (by first | exact H_c.out | exact H_c.out.alloc _ | exact (H_c.out.alloc _).alloc _ | exact ((H_c.out.alloc _).alloc _).alloc _) hb_w7)
            obtain ⟨q_c_0, q_c_1⟩ := H_c.out.c2
            replace HSB := Lib.hid (show Sl w7 _ _ _ _ _ _ by first | exact HSB.out.below hb_w7 | exact (HSB.out.below (grew1 (Below.refl _ _))).below hb_w7 | exact (HSB.out.below (grew2 (Below.refl _ _))).below hb_w7 | exact (HSB.out.below (grew3 (Below.refl _ _))).below hb_w7)
            replace HSC := Lib.hid (show Sl w7 _ _ _ _ _ _ by first | exact HSC.out.below hb_w7 | exact (HSC.out.below (grew1 (Below.refl _ _))).below hb_w7 | exact (HSC.out.below (grew2 (Below.refl _ _))).below hb_w7 | exact (HSC.out.below (grew3 (Below.refl _ _))).below hb_w7)
            go_wp2_with fail
            refine (find_to h3.out (by first | exact HSB.out | exact HSB.out.below (grew1 (Below.refl _ _)) | exact HSB.out.below (grew2 (Below.refl _ _)) | exact HSB.out.below (grew3 (Below.refl _ _)))).mono ?_
            rintro e w8 ⟨rfl, hb_w8⟩
            have HB_w8 : Below w.heap.size w w8 := by first | exact after0 HB_w7 hb_w8 | exact after1 HB_w7 hb_w8 | exact after2 HB_w7 hb_w8 | exact after3 HB_w7 hb_w8 | exact after4 HB_w7 hb_w8 | exact after5 HB_w7 hb_w8
            try clear q_b_0 q_b_1
            have H_b := Lib.hid (Box.below (by first | exact H_b.out | exact H_b.out.alloc _ | exact (H_b.out.alloc _).alloc _ | exact ((H_b.out.alloc _).alloc _).alloc _) hb_w8)
            obtain ⟨q_b_0, q_b_1⟩ := H_b.out.c2
            try clear q_c_0 q_c_1
            have H_c := Lib.hid (Box.below (by first | exact H_c.out | exact H_c.out.alloc _ | exact (H_c.out.alloc _).alloc _ | exact ((H_c.out.alloc _).alloc _).alloc _) hb_w8)
            obtain ⟨q_c_0, q_c_1⟩ := H_c.out.c2
            replace HSB := Lib.hid (show Sl w8 _ _ _ _ _ _ by first | exact HSB.out.below hb_w8 | exact (HSB.out.below (grew1 (Below.refl _ _))).below hb_w8 | exact (HSB.out.below (grew2 (Below.refl _ _))).below hb_w8 | exact (HSB.out.below (grew3 (Below.refl _ _))).below hb_w8)
            replace HSC := Lib.hid (show Sl w8 _ _ _ _ _ _ by first | exact HSC.out.below hb_w8 | exact (HSC.out.below (grew1 (Below.refl _ _))).below hb_w8 | exact (HSC.out.below (grew2 (Below.refl _ _))).below hb_w8 | exact (HSC.out.below (grew3 (Below.refl _ _))).below hb_w8)
            have H_x := Lib.hid (Box.new w8 [.int .i64 x0, .int .i64 x1, .int .i64 x2] 29)
            obtain ⟨z0, z1⟩ := (H_c.out.alloc (.cells #[.int .i64 x0, .int .i64 x1, .int .i64 x2] 29)).c2
            go_wp2_with fail
            clear z0 z1
            refine (find_to h4.out (by first | exact HSC.out | exact HSC.out.below (grew1 (Below.refl _ _)) | exact HSC.out.below (grew2 (Below.refl _ _)) | exact HSC.out.below (grew3 (Below.refl _ _)))).mono ?_
            rintro e w9 ⟨rfl, hb_w9⟩
            have HB_w9 : Below w.heap.size w w9 := by first | exact after0 HB_w8 hb_w9 | exact after1 HB_w8 hb_w9 | exact after2 HB_w8 hb_w9 | exact after3 HB_w8 hb_w9 | exact after4 HB_w8 hb_w9 | exact after5 HB_w8 hb_w9
            try clear q_x_0 q_x_1 q_x_2
            have H_x := Lib.hid (Box.below (by first | exact H_x.out | exact H_x.out.alloc _ | exact (H_x.out.alloc _).alloc _ | exact ((H_x.out.alloc _).alloc _).alloc _) hb_w9)
            obtain ⟨q_x_0, q_x_1, q_x_2⟩ := H_x.out.c3
            clear q_x_0 q_x_1 q_x_2 q_b_0 q_b_1 q_c_0 q_c_1
            obtain ⟨W6, hW6, HB_W6, hZ, hY⟩ := boxes1 w9 [.int .i64 y0, .int .i64 y1, .int .i64 y2] 29
            have H_y := Lib.hid hY
            replace H_x := Lib.hid (H_x.out.below HB_W6)
            replace HB_W6 := after0 HB_w9 HB_W6
            clear hY hZ
            obtain ⟨q_x_0, q_x_1, q_x_2⟩ := H_x.out.c3
            obtain ⟨q_y_0, q_y_1, q_y_2⟩ := H_y.out.c3
            go_wp2_with fail
            all_goals try (exfalso; omega)
            all_goals try (go_ret; first | exact ⟨rfl, HB_W6⟩ | (refine ⟨ret_bool ?_, HB_W6⟩; simp; omega))
      ·
        go_wp2_with fail
        have HO_w4 := Lib.hid (HO_W3.out.alloc (.cells #[.int .i64 0, .slice none 0 0] 24))
        have HB_w4 : Below w1.heap.size w1 (W3.alloc (.cells #[.int .i64 0, .slice none 0 0] 24)) := grew1 HB_W3
        have HX_w4 := Lib.hid (Box.new W3 [.int .i64 0, .slice none 0 0] 24)
        have hN1 : w1.heap.size ≤ W3.heap.size := HB_W3.size
        generalize W3.heap.size = N at *
        generalize W3.alloc (.cells #[.int .i64 0, .slice none 0 0] 24) = w4 at *
        refine MixPost.intro (grew_of_below HB_w4) ?_
        refine plan_e rfl ?_
        go_wp2_with (at_builtin; refine wpList_append_sl rfl _ _ 22 rfl w1.heap.size 29 i0 _ 3 24 Try.underlying22 hi hz0 hz1 hz2 rfl (by decide) cM_len cM_one _ ([] : List Mk) rfl HO_w4.out ab kk cb (b.take kk) rfl (HSH.out.below HB_w4) (by unfold maxLen; simp; omega) (by simp; omega) HB_w4.size ?_)
        rintro v4 w5 ho hg hgr
        have HB_w5 : Below w1.heap.size w1 w5 := HB_w4.trans (hg _ (Nat.le_refl _))
        have HO_w5 : Hid (OwnL w5 w1.heap.size 29 3 cM v4 (b.take kk)) := ho
        try have HX_w5 : Hid (Box w5 (N) 24 [.int .i64 0, .slice none 0 0]) := HX_w4.out.grown hgr (own_ne_box HO_w4.out HX_w4.out (by decide))
        clear ho hg hgr
        refine MixPost.intro (grew_of_below HB_w5) ?_
        refine plan_e rfl ?_
        go_wp2_with (at_builtin; refine wpList_append_sl rfl _ _ 22 rfl w1.heap.size 29 i0 _ 3 24 Try.underlying22 hi hz0 hz1 hz2 rfl (by decide) cM_len cM_one v4 (b.take kk) rfl HO_w5.out ta (b.length - (kk + 1)) (cb - (kk + 1)) (b.drop (kk + 1)) rfl (HST.out.below HB_w5) (by unfold maxLen; simp; omega) (by simp; omega) HB_w5.size ?_)
        rintro v5 w6 ho hg hgr
        have HB_w6 : Below w1.heap.size w1 w6 := HB_w5.trans (hg _ (Nat.le_refl _))
        have HO_w6 : Hid (OwnL w6 w1.heap.size 29 3 cM v5 (b.take kk ++ b.drop (kk + 1))) := ho
        try have HX_w6 : Hid (Box w6 (N) 24 [.int .i64 0, .slice none 0 0]) := HX_w5.out.grown hgr (own_ne_box HO_w5.out HX_w5.out (by decide))
        clear ho hg hgr
        refine MixPost.intro (grew_of_below HB_w6) ?_
        obtain ⟨ao', cap', rfl, hsl⟩ := HO_w6.out.sl cM_len
        clear hsl
        generalize hys : b.take kk ++ b.drop (kk + 1) = ys at *
        replace hys := Lib.hid hys
        repeat (any_goals (first | (go_big_quiet_skip; refine wpQuiet_nil ?_) | (go_big_quiet_want; go_big_quiet_op; go_big_quiet_on; refine wpQuiet_nil ?_) | ((with_reducible apply q_split); exact rfl; intro q hq; cases q <;> (rw [hq]; (try first | replace hq := bnot_t hq | replace hq := bnot_f hq); (try first | replace hq := of_decide_eq_true hq | replace hq := of_decide_eq_false hq | replace hq := eq_of_beq hq); (try first | replace hq := Int.not_lt.1 hq | replace hq := Int.not_le.1 hq | replace hq := Nat.not_lt.1 hq | replace hq := Nat.not_le.1 hq); try (exfalso; omega))) | (refine plan_q rfl rfl ?_)))
        clear y_q_b_0 y_q_b_1
        have hNO := own_ne_box HO_w6.out HX_w6.out (by decide)
        obtain ⟨r0, r1⟩ := HX_w6.out.c2
        obtain ⟨W5, hW5, hB5, hX5, _⟩ := store2 w6 (N) (.int .i64 ob) (.slice ao' ys.length cap')
        have ho5 := ownL_setOther (b := N) (j := 1) (x := .slice ao' ys.length cap') (ownL_setOther (b := N) (j := 0) (x := .int .i64 ob) HO_w6.out (fun k e1 e2 => hNO (by rw [e1, e2]))) (fun k e1 e2 => hNO (by rw [e1, e2]))
        rw [hW5] at ho5
        have hf := HX_w6.out.frozen
        have HB_W5 : Below w1.heap.size w1 W5 := HB_w6.trans (hB5 _ hN1)
        have H_c := Lib.hid (hX5 _ _ _ HX_w6.out)
        obtain ⟨ao'', cap'', e1, hsl⟩ := ho5.sl cM_len
        simp only [Value.slice.injEq] at e1
        obtain ⟨rfl, _, rfl⟩ := e1
        have HSC := Lib.hid hsl
        replace H_a := Lib.hid (H_a.out.below HB_W5)
        replace H_b := Lib.hid (H_b.out.below HB_W5)
        replace HSA := Lib.hid (HSA.out.below HB_W5)
        replace HSB := Lib.hid (HSB.out.below HB_W5)
        replace HB_W5 := after0 HB_w1 HB_W5
        have HSUB : Hid (ys.Sublist b) := hys.out ▸ drop_one b kk
        clear hsl ho5 hB5 hX5 hNO
        obtain ⟨q_a_0, q_a_1⟩ := H_a.out.c2
        obtain ⟨q_b_0, q_b_1⟩ := H_b.out.c2
        obtain ⟨q_c_0, q_c_1⟩ := H_c.out.c2
        all_goals refine plan_done ?_
        all_goals (try simp only [List.drop_succ_cons, List.drop_zero])
        all_goals (try go_wp2_with fail)
        all_goals refine NoPanic.normal ?_
        all_goals (try go_wp2_with fail)
        obtain ⟨t, e, h1⟩ := translate_ex oa a ob b s
        obtain ⟨u, f, h2⟩ := translate_ex oa a ob ys s
        obtain ⟨x0, x1, x2, g, h3⟩ := find_ex ob b t
        obtain ⟨y0, y1, y2, h, h4⟩ := find_ex ob ys u
        have HLAW := more_law HSUB.out h1 h2 h3 h4
        replace h1 := Lib.hid h1
        replace h2 := Lib.hid h2
        replace h3 := Lib.hid h3
        replace h4 := Lib.hid h4
        clear hW5 hf r0 r1
        rcases HLAW with ⟨rfl, rfl⟩ | ⟨k1, k2, k3⟩ | ⟨rfl, rfl, rfl, rfl, k1⟩
        ·
          refine (translate_to h1.out (by first | exact HSA.out | exact HSA.out.below (grew1 (Below.refl _ _)) | exact HSA.out.below (grew2 (Below.refl _ _)) | exact HSA.out.below (grew3 (Below.refl _ _))) (by first | exact HSB.out | exact HSB.out.below (grew1 (Below.refl _ _)) | exact HSB.out.below (grew2 (Below.refl _ _)) | exact HSB.out.below (grew3 (Below.refl _ _)))).mono ?_
          rintro e w6 ⟨rfl, hb_w6⟩
          have HB_w6 : Below w.heap.size w w6 := by first | exact after0 HB_W5 hb_w6 | exact after1 HB_W5 hb_w6 | exact after2 HB_W5 hb_w6 | exact after3 HB_W5 hb_w6 | exact after4 HB_W5 hb_w6 | exact after5 HB_W5 hb_w6
          try clear q_a_0 q_a_1
          have H_a := Lib.hid (Box.below (by first | exact H_a.out | exact H_a.out.alloc _ | exact (H_a.out.alloc _).alloc _ | exact ((H_a.out.alloc _).alloc _).alloc _) hb_w6)
          obtain ⟨q_a_0, q_a_1⟩ := H_a.out.c2
          try clear q_b_0 q_b_1
          have H_b := Lib.hid (Box.below (by first | exact H_b.out | exact H_b.out.alloc _ | exact (H_b.out.alloc _).alloc _ | exact ((H_b.out.alloc _).alloc _).alloc _) hb_w6)
          obtain ⟨q_b_0, q_b_1⟩ := H_b.out.c2
          try clear q_c_0 q_c_1
          have H_c := Lib.hid (Box.below (by first | exact H_c.out | exact H_c.out.alloc _ | exact (H_c.out.alloc _).alloc _ | exact ((H_c.out.alloc _).alloc _).alloc _) hb_w6)
          obtain ⟨q_c_0, q_c_1⟩ := H_c.out.c2
          replace HSA := Lib.hid (show Sl w6 _ _ _ _ _ _ by first | exact HSA.out.below hb_w6 | exact (HSA.out.below (grew1 (Below.refl _ _))).below hb_w6 | exact (HSA.out.below (grew2 (Below.refl _ _))).below hb_w6 | exact (HSA.out.below (grew3 (Below.refl _ _))).below hb_w6)
          replace HSB := Lib.hid (show Sl w6 _ _ _ _ _ _ by first | exact HSB.out.below hb_w6 | exact (HSB.out.below (grew1 (Below.refl _ _))).below hb_w6 | exact (HSB.out.below (grew2 (Below.refl _ _))).below hb_w6 | exact (HSB.out.below (grew3 (Below.refl _ _))).below hb_w6)
          replace HSC := Lib.hid (show Sl w6 _ _ _ _ _ _ by first | exact HSC.out.below hb_w6 | exact (HSC.out.below (grew1 (Below.refl _ _))).below hb_w6 | exact (HSC.out.below (grew2 (Below.refl _ _))).below hb_w6 | exact (HSC.out.below (grew3 (Below.refl _ _))).below hb_w6)
          go_wp2_with fail
          refine (translate_to h2.out (by first | exact HSA.out | exact HSA.out.below (grew1 (Below.refl _ _)) | exact HSA.out.below (grew2 (Below.refl _ _)) | exact HSA.out.below (grew3 (Below.refl _ _))) (by first | exact HSC.out | exact HSC.out.below (grew1 (Below.refl _ _)) | exact HSC.out.below (grew2 (Below.refl _ _)) | exact HSC.out.below (grew3 (Below.refl _ _)))).mono ?_
          rintro e w7 ⟨rfl, hb_w7⟩
          have HB_w7 : Below w.heap.size w w7 := by first | exact after0 HB_w6 hb_w7 | exact after1 HB_w6 hb_w7 | exact after2 HB_w6 hb_w7 | exact after3 HB_w6 hb_w7 | exact after4 HB_w6 hb_w7 | exact after5 HB_w6 hb_w7
          go_wp2_with fail
          all_goals try (exfalso; omega)
          all_goals try (go_ret; first | exact ⟨rfl, HB_w7⟩ | (refine ⟨ret_bool ?_, HB_w7⟩; simp; omega))
        ·
          refine (translate_to h1.out (by first | exact HSA.out | exact HSA.out.below (grew1 (Below.refl _ _)) | exact HSA.out.below (grew2 (Below.refl _ _)) | exact HSA.out.below (grew3 (Below.refl _ _))) (by first | exact HSB.out | exact HSB.out.below (grew1 (Below.refl _ _)) | exact HSB.out.below (grew2 (Below.refl _ _)) | exact HSB.out.below (grew3 (Below.refl _ _)))).mono ?_
          rintro e w6 ⟨rfl, hb_w6⟩
          have HB_w6 : Below w.heap.size w w6 := by first | exact after0 HB_W5 hb_w6 | exact after1 HB_W5 hb_w6 | exact after2 HB_W5 hb_w6 | exact after3 HB_W5 hb_w6 | exact after4 HB_W5 hb_w6 | exact after5 HB_W5 hb_w6
          try clear q_a_0 q_a_1
          have H_a := Lib.hid (Box.below (by first | exact H_a.out | exact H_a.out.alloc _ | exact (H_a.out.alloc _).alloc _ | exact ((H_a.out.alloc _).alloc _).alloc _) hb_w6)
          obtain ⟨q_a_0, q_a_1⟩ := H_a.out.c2
          try clear q_b_0 q_b_1
          have H_b := Lib.hid (Box.below (by first | exact H_b.out | exact H_b.out.alloc _ | exact (H_b.out.alloc _).alloc _ | exact ((H_b.out.alloc _).alloc _).alloc _) hb_w6)
          obtain ⟨q_b_0, q_b_1⟩ := H_b.out.c2
          try clear q_c_0 q_c_1
          have H_c := Lib.hid (Box.below (by first | exact H_c.out | exact H_c.out.alloc _ | exact (H_c.out.alloc _).alloc _ | exact ((H_c.out.alloc _).alloc _).alloc _) hb_w6)
          obtain ⟨q_c_0, q_c_1⟩ := H_c.out.c2
          replace HSA := Lib.hid (show Sl w6 _ _ _ _ _ _ by first | exact HSA.out.below hb_w6 | exact (HSA.out.below (grew1 (Below.refl _ _))).below hb_w6 | exact (HSA.out.below (grew2 (Below.refl _ _))).below hb_w6 | exact (HSA.out.below (grew3 (Below.refl _ _))).below hb_w6)
          replace HSB := Lib.hid (show Sl w6 _ _ _ _ _ _ by first | exact HSB.out.below hb_w6 | exact (HSB.out.below (grew1 (Below.refl _ _))).below hb_w6 | exact (HSB.out.below (grew2 (Below.refl _ _))).below hb_w6 | exact (HSB.out.below (grew3 (Below.refl _ _))).below hb_w6)
          replace HSC := Lib.hid (show Sl w6 _ _ _ _ _ _ by first | exact HSC.out.below hb_w6 | exact (HSC.out.below (grew1 (Below.refl _ _))).below hb_w6 | exact (HSC.out.below (grew2 (Below.refl _ _))).below hb_w6 | exact (HSC.out.below (grew3 (Below.refl _ _))).below hb_w6)
          go_wp2_with fail
          refine (translate_to h2.out (by first | exact HSA.out | exact HSA.out.below (grew1 (Below.refl _ _)) | exact HSA.out.below (grew2 (Below.refl _ _)) | exact HSA.out.below (grew3 (Below.refl _ _))) (by first | exact HSC.out | exact HSC.out.below (grew1 (Below.refl _ _)) | exact HSC.out.below (grew2 (Below.refl _ _)) | exact HSC.out.below (grew3 (Below.refl _ _)))).mono ?_
          rintro e w7 ⟨rfl, hb_w7⟩
          have HB_w7 : Below w.heap.size w w7 := by first | exact after0 HB_w6 hb_w7 | exact after1 HB_w6 hb_w7 | exact after2 HB_w6 hb_w7 | exact after3 HB_w6 hb_w7 | exact after4 HB_w6 hb_w7 | exact after5 HB_w6 hb_w7
          go_wp2_with fail
          all_goals try (exfalso; omega)
          all_goals try (go_ret; first | exact ⟨rfl, HB_w7⟩ | (refine ⟨ret_bool ?_, HB_w7⟩; simp; omega))
        ·
          refine (translate_to h1.out (by first | exact HSA.out | exact HSA.out.below (grew1 (Below.refl _ _)) | exact HSA.out.below (grew2 (Below.refl _ _)) | exact HSA.out.below (grew3 (Below.refl _ _))) (by first | exact HSB.out | exact HSB.out.below (grew1 (Below.refl _ _)) | exact HSB.out.below (grew2 (Below.refl _ _)) | exact HSB.out.below (grew3 (Below.refl _ _)))).mono ?_
          rintro e w6 ⟨rfl, hb_w6⟩
          have HB_w6 : Below w.heap.size w w6 := by first | exact after0 HB_W5 hb_w6 | exact after1 HB_W5 hb_w6 | exact after2 HB_W5 hb_w6 | exact after3 HB_W5 hb_w6 | exact after4 HB_W5 hb_w6 | exact after5 HB_W5 hb_w6
          try clear q_a_0 q_a_1
          have H_a := Lib.hid (Box.below (by first | exact H_a.out | exact H_a.out.alloc _ | exact (H_a.out.alloc _).alloc _ | exact ((H_a.out.alloc _).alloc _).alloc _) hb_w6)
          obtain ⟨q_a_0, q_a_1⟩ := H_a.out.c2
          try clear q_b_0 q_b_1
          have H_b := Lib.hid (Box.below (by first | exact H_b.out | exact H_b.out.alloc _ | exact (H_b.out.alloc _).alloc _ | exact ((H_b.out.alloc _).alloc _).alloc _) hb_w6)
          obtain ⟨q_b_0, q_b_1⟩ := H_b.out.c2
          try clear q_c_0 q_c_1
          have H_c := Lib.hid (Box.below (by first | exact H_c.out | exact H_c.out.alloc _ | exact (H_c.out.alloc _).alloc _ | exact ((H_c.out.alloc _).alloc _).alloc _) hb_w6)
          obtain ⟨q_c_0, q_c_1⟩ := H_c.out.c2
          replace HSA := Lib.hid (show Sl w6 _ _ _ _ _ _ by first | exact HSA.out.below hb_w6 | exact (HSA.out.below (grew1 (Below.refl _ _))).below hb_w6 | exact (HSA.out.below (grew2 (Below.refl _ _))).below hb_w6 | exact (HSA.out.below (grew3 (Below.refl _ _))).below hb_w6)
          replace HSB := Lib.hid (show Sl w6 _ _ _ _ _ _ by first | exact HSB.out.below hb_w6 | exact (HSB.out.below (grew1 (Below.refl _ _))).below hb_w6 | exact (HSB.out.below (grew2 (Below.refl _ _))).below hb_w6 | exact (HSB.out.below (grew3 (Below.refl _ _))).below hb_w6)
          replace HSC := Lib.hid (show Sl w6 _ _ _ _ _ _ by first | exact HSC.out.below hb_w6 | exact (HSC.out.below (grew1 (Below.refl _ _))).below hb_w6 | exact (HSC.out.below (grew2 (Below.refl _ _))).below hb_w6 | exact (HSC.out.below (grew3 (Below.refl _ _))).below hb_w6)
          go_wp2_with fail
          refine (translate_to h2.out (by first | exact HSA.out | exact HSA.out.below (grew1 (Below.refl _ _)) | exact HSA.out.below (grew2 (Below.refl _ _)) | exact HSA.out.below (grew3 (Below.refl _ _))) (by first | exact HSC.out | exact HSC.out.below (grew1 (Below.refl _ _)) | exact HSC.out.below (grew2 (Below.refl _ _)) | exact HSC.out.below (grew3 (Below.refl _ _)))).mono ?_
          rintro e w7 ⟨rfl, hb_w7⟩
          have HB_w7 : Below w.heap.size w w7 := by first | exact after0 HB_w6 hb_w7 | exact after1 HB_w6 hb_w7 | exact after2 HB_w6 hb_w7 | exact after3 HB_w6 hb_w7 | exact after4 HB_w6 hb_w7 | exact after5 HB_w6 hb_w7
          try clear q_b_0 q_b_1
          have H_b := Lib.hid (Box.below (by first | exact H_b.out | exact H_b.out.alloc _ | exact (H_b.out.alloc _).alloc _ | exact ((H_b.out.alloc _).alloc _).alloc _) hb_w7)
          obtain ⟨q_b_0, q_b_1⟩ := H_b.out.c2
          try clear q_c_0 q_c_1
          have H_c := Lib.hid (Box.below (by first | exact H_c.out | exact H_c.out.alloc _ | exact (H_c.out.alloc _).alloc _ | exact ((H_c.out.alloc _).alloc _).alloc _) hb_w7)
          obtain ⟨q_c_0, q_c_1⟩ := H_c.out.c2
          replace HSB := Lib.hid (show Sl w7 _ _ _ _ _ _ by first | exact HSB.out.below hb_w7 | exact (HSB.out.below (grew1 (Below.refl _ _))).below hb_w7 | exact (HSB.out.below (grew2 (Below.refl _ _))).below hb_w7 | exact (HSB.out.below (grew3 (Below.refl _ _))).below hb_w7)
          replace HSC := Lib.hid (show Sl w7 _ _ _ _ _ _ by first | exact HSC.out.below hb_w7 | exact (HSC.out.below (grew1 (Below.refl _ _))).below hb_w7 | exact (HSC.out.below (grew2 (Below.refl _ _))).below hb_w7 | exact (HSC.out.below (grew3 (Below.refl _ _))).below hb_w7)
          go_wp2_with fail
          refine (find_to h3.out (by first | exact HSB.out | exact HSB.out.below (grew1 (Below.refl _ _)) | exact HSB.out.below (grew2 (Below.refl _ _)) | exact HSB.out.below (grew3 (Below.refl _ _)))).mono ?_
          rintro e w8 ⟨rfl, hb_w8⟩
          have HB_w8 : Below w.heap.size w w8 := by first | exact after0 HB_w7 hb_w8 | exact after1 HB_w7 hb_w8 | exact after2 HB_w7 hb_w8 | exact after3 HB_w7 hb_w8 | exact after4 HB_w7 hb_w8 | exact after5 HB_w7 hb_w8
          try clear q_b_0 q_b_1
          have H_b := Lib.hid (Box.below (by first | exact H_b.out | exact H_b.out.alloc _ | exact (H_b.out.alloc _).alloc _ | exact ((H_b.out.alloc _).alloc _).alloc _) hb_w8)
          obtain ⟨q_b_0, q_b_1⟩ := H_b.out.c2
          try clear q_c_0 q_c_1
          have H_c := Lib.hid (Box.below (by first | exact H_c.out | exact H_c.out.alloc _ | exact (H_c.out.alloc _).alloc _ | exact ((H_c.out.alloc _).alloc _).alloc _) hb_w8)
          obtain ⟨q_c_0, q_c_1⟩ := H_c.out.c2
          replace HSB := Lib.hid (show Sl w8 _ _ _ _ _ _ by first | exact HSB.out.below hb_w8 | exact (HSB.out.below (grew1 (Below.refl _ _))).below hb_w8 | exact (HSB.out.below (grew2 (Below.refl _ _))).below hb_w8 | exact (HSB.out.below (grew3 (Below.refl _ _))).below hb_w8)
          replace HSC := Lib.hid (show Sl w8 _ _ _ _ _ _ by first | exact HSC.out.below hb_w8 | exact (HSC.out.below (grew1 (Below.refl _ _))).below hb_w8 | exact (HSC.out.below (grew2 (Below.refl _ _))).below hb_w8 | exact (HSC.out.below (grew3 (Below.refl _ _))).below hb_w8)
          have H_x := Lib.hid (Box.new w8 [.int .i64 x0, .int .i64 x1, .int .i64 x2] 29)
          obtain ⟨z0, z1⟩ := (H_c.out.alloc (.cells #[.int .i64 x0, .int .i64 x1, .int .i64 x2] 29)).c2
          go_wp2_with fail
          clear z0 z1
          refine (find_to h4.out (by first | exact HSC.out | exact HSC.out.below (grew1 (Below.refl _ _)) | exact HSC.out.below (grew2 (Below.refl _ _)) | exact HSC.out.below (grew3 (Below.refl _ _)))).mono ?_
          rintro e w9 ⟨rfl, hb_w9⟩
          have HB_w9 : Below w.heap.size w w9 := by first | exact after0 HB_w8 hb_w9 | exact after1 HB_w8 hb_w9 | exact after2 HB_w8 hb_w9 | exact after3 HB_w8 hb_w9 | exact after4 HB_w8 hb_w9 | exact after5 HB_w8 hb_w9
          try clear q_x_0 q_x_1 q_x_2
          have H_x := Lib.hid (Box.below (by first | exact H_x.out | exact H_x.out.alloc _ | exact (H_x.out.alloc _).alloc _ | exact ((H_x.out.alloc _).alloc _).alloc _) hb_w9)
          obtain ⟨q_x_0, q_x_1, q_x_2⟩ := H_x.out.c3
          clear q_x_0 q_x_1 q_x_2 q_b_0 q_b_1 q_c_0 q_c_1
          obtain ⟨W6, hW6, HB_W6, hZ, hY⟩ := boxes1 w9 [.int .i64 y0, .int .i64 y1, .int .i64 y2] 29
          have H_y := Lib.hid hY
          replace H_x := Lib.hid (H_x.out.below HB_W6)
          replace HB_W6 := after0 HB_w9 HB_W6
          clear hY hZ
          obtain ⟨q_x_0, q_x_1, q_x_2⟩ := H_x.out.c3
          obtain ⟨q_y_0, q_y_1, q_y_2⟩ := H_y.out.c3
          go_wp2_with fail
          all_goals try (exfalso; omega)
          all_goals try (go_ret; first | exact ⟨rfl, HB_W6⟩ | (refine ⟨ret_bool ?_, HB_W6⟩; simp; omega))
    · go_wp2_with fail
      obtain ⟨W3, hW3⟩ : ∃ W3, (w1.alloc (.cells #[.int .i64 0, .slice none 0 0] 24)).drew = W3 := ⟨_, rfl⟩
      have HB_W3 : Below w1.heap.size w1 W3 := hW3 ▸ (grew1 (Below.refl _ _)).drew
      have HX_W3 : Hid (Box W3 w1.heap.size 24 [.int .i64 0, .slice none 0 0]) := hW3 ▸ Box.new w1 _ _
      rw [hW3]
      clear hW3
      refine MixPost.intro (grew_of_below HB_W3) ?_
      refine plan_e rfl ?_
      go_wp2_with fail
      have HB_w4 : Below w1.heap.size w1 (W3.alloc (.cells #[] 29)) := grew1 HB_W3
      have HO_w4 : Hid (OwnL (W3.alloc (.cells #[] 29)) w1.heap.size 29 3 cM (.slice (some ⟨W3.heap.size, 0, none⟩) 0 0) ([] : List Mk)) := (OwnL.made (Nat.le_refl _)).mono HB_W3.size
      have HX_w4 := Lib.hid (HX_W3.out.alloc (.cells #[] 29))
      generalize W3.heap.size = NB at *
      generalize W3.alloc (.cells #[] 29) = w4 at *
      have hN1 : w1.heap.size ≤ w1.heap.size := Nat.le_refl _
      refine MixPost.intro (grew_of_below HB_w4) ?_
      refine plan_e rfl ?_
      go_wp2_with (at_builtin; refine wpList_append_sl rfl _ _ 22 rfl w1.heap.size 29 i0 _ 3 24 Try.underlying22 hi hz0 hz1 hz2 rfl (by decide) cM_len cM_one _ ([] : List Mk) rfl HO_w4.out ab kk cb (b.take kk) rfl (HSH.out.below HB_w4) (by unfold maxLen; simp; omega) (by simp; omega) HB_w4.size ?_)
      rintro v4 w5 ho hg hgr
      have HB_w5 : Below w1.heap.size w1 w5 := HB_w4.trans (hg _ (Nat.le_refl _))
      have HO_w5 : Hid (OwnL w5 w1.heap.size 29 3 cM v4 (b.take kk)) := ho
      try have HX_w5 : Hid (Box w5 (w1.heap.size) 24 [.int .i64 0, .slice none 0 0]) := HX_w4.out.grown hgr (own_ne_box HO_w4.out HX_w4.out (by decide))
      clear ho hg hgr
      refine MixPost.intro (grew_of_below HB_w5) ?_
      refine plan_e rfl ?_
      go_wp2_with (at_builtin; refine wpList_append_sl rfl _ _ 22 rfl w1.heap.size 29 i0 _ 3 24 Try.underlying22 hi hz0 hz1 hz2 rfl (by decide) cM_len cM_one v4 (b.take kk) rfl HO_w5.out ta (b.length - (kk + 1)) (cb - (kk + 1)) (b.drop (kk + 1)) rfl (HST.out.below HB_w5) (by unfold maxLen; simp; omega) (by simp; omega) HB_w5.size ?_)
      rintro v5 w6 ho hg hgr
      have HB_w6 : Below w1.heap.size w1 w6 := HB_w5.trans (hg _ (Nat.le_refl _))
      have HO_w6 : Hid (OwnL w6 w1.heap.size 29 3 cM v5 (b.take kk ++ b.drop (kk + 1))) := ho
      try have HX_w6 : Hid (Box w6 (w1.heap.size) 24 [.int .i64 0, .slice none 0 0]) := HX_w5.out.grown hgr (own_ne_box HO_w5.out HX_w5.out (by decide))
      clear ho hg hgr
      refine MixPost.intro (grew_of_below HB_w6) ?_
      obtain ⟨ao', cap', rfl, hsl⟩ := HO_w6.out.sl cM_len
      clear hsl
      generalize hys : b.take kk ++ b.drop (kk + 1) = ys at *
      replace hys := Lib.hid hys
      repeat (any_goals (first | (go_big_quiet_skip; refine wpQuiet_nil ?_) | (go_big_quiet_want; go_big_quiet_op; go_big_quiet_on; refine wpQuiet_nil ?_) | ((with_reducible apply q_split); exact rfl; intro q hq; cases q <;> (rw [hq]; (try first | replace hq := bnot_t hq | replace hq := bnot_f hq); (try first | replace hq := of_decide_eq_true hq | replace hq := of_decide_eq_false hq | replace hq := eq_of_beq hq); (try first | replace hq := Int.not_lt.1 hq | replace hq := Int.not_le.1 hq | replace hq := Nat.not_lt.1 hq | replace hq := Nat.not_le.1 hq); try (exfalso; omega))) | (refine plan_q rfl rfl ?_)))
      clear y_q_b_0 y_q_b_1
      have hNO := own_ne_box HO_w6.out HX_w6.out (by decide)
      obtain ⟨r0, r1⟩ := HX_w6.out.c2
      obtain ⟨W5, hW5, hB5, hX5, _⟩ := store2 w6 (w1.heap.size) (.int .i64 ob) (.slice ao' ys.length cap')
      have ho5 := ownL_setOther (b := w1.heap.size) (j := 1) (x := .slice ao' ys.length cap') (ownL_setOther (b := w1.heap.size) (j := 0) (x := .int .i64 ob) HO_w6.out (fun k e1 e2 => hNO (by rw [e1, e2]))) (fun k e1 e2 => hNO (by rw [e1, e2]))
      rw [hW5] at ho5
      have hf := HX_w6.out.frozen
      have HB_W5 : Below w1.heap.size w1 W5 := HB_w6.trans (hB5 _ hN1)
      have H_c := Lib.hid (hX5 _ _ _ HX_w6.out)
      obtain ⟨ao'', cap'', e1, hsl⟩ := ho5.sl cM_len
      simp only [Value.slice.injEq] at e1
      obtain ⟨rfl, _, rfl⟩ := e1
      have HSC := Lib.hid hsl
      replace H_a := Lib.hid (H_a.out.below HB_W5)
      replace H_b := Lib.hid (H_b.out.below HB_W5)
      replace HSA := Lib.hid (HSA.out.below HB_W5)
      replace HSB := Lib.hid (HSB.out.below HB_W5)
      replace HB_W5 := after0 HB_w1 HB_W5
      have HSUB : Hid (ys.Sublist b) := hys.out ▸ drop_one b kk
      clear hsl ho5 hB5 hX5 hNO
      obtain ⟨q_a_0, q_a_1⟩ := H_a.out.c2
      obtain ⟨q_b_0, q_b_1⟩ := H_b.out.c2
      obtain ⟨q_c_0, q_c_1⟩ := H_c.out.c2
      all_goals refine plan_done ?_
      all_goals (try simp only [List.drop_succ_cons, List.drop_zero])
      all_goals (try go_wp2_with fail)
      all_goals refine NoPanic.normal ?_
      all_goals (try go_wp2_with fail)
      obtain ⟨t, e, h1⟩ := translate_ex oa a ob b s
      obtain ⟨u, f, h2⟩ := translate_ex oa a ob ys s
      obtain ⟨x0, x1, x2, g, h3⟩ := find_ex ob b t
      obtain ⟨y0, y1, y2, h, h4⟩ := find_ex ob ys u
      have HLAW := more_law HSUB.out h1 h2 h3 h4
      replace h1 := Lib.hid h1
      replace h2 := Lib.hid h2
      replace h3 := Lib.hid h3
      replace h4 := Lib.hid h4
      clear hW5 hf r0 r1
      rcases HLAW with ⟨rfl, rfl⟩ | ⟨k1, k2, k3⟩ | ⟨rfl, rfl, rfl, rfl, k1⟩
      ·
        refine (translate_to h1.out (by first | exact HSA.out | exact HSA.out.below (grew1 (Below.refl _ _)) | exact HSA.out.below (grew2 (Below.refl _ _)) | exact HSA.out.below (grew3 (Below.refl _ _))) (by first | exact HSB.out | exact HSB.out.below (grew1 (Below.refl _ _)) | exact HSB.out.below (grew2 (Below.refl _ _)) | exact HSB.out.below (grew3 (Below.refl _ _)))).mono ?_
        rintro e w6 ⟨rfl, hb_w6⟩
        have HB_w6 : Below w.heap.size w w6 := by first | exact after0 HB_W5 hb_w6 | exact after1 HB_W5 hb_w6 | exact after2 HB_W5 hb_w6 | exact after3 HB_W5 hb_w6 | exact after4 HB_W5 hb_w6 | exact after5 HB_W5 hb_w6
        try clear q_a_0 q_a_1
        have H_a := Lib.hid (Box.below (by first | exact H_a.out | exact H_a.out.alloc _ | exact (H_a.out.alloc _).alloc _ | exact ((H_a.out.alloc _).alloc _).alloc _) hb_w6)
        obtain ⟨q_a_0, q_a_1⟩ := H_a.out.c2
        try clear q_b_0 q_b_1
        have H_b := Lib.hid (Box.below (by first | exact H_b.out | exact H_b.out.alloc _ | exact (H_b.out.alloc _).alloc _ | exact ((H_b.out.alloc _).alloc _).alloc _) hb_w6)
        obtain ⟨q_b_0, q_b_1⟩ := H_b.out.c2
        try clear q_c_0 q_c_1
        have H_c := Lib.hid (Box.below (by first | exact H_c.out | exact H_c.out.alloc _ | exact (H_c.out.alloc _).alloc _ | exact ((H_c.out.alloc _).alloc _).alloc _) hb_w6)
        obtain ⟨q_c_0, q_c_1⟩ := H_c.out.c2
        replace HSA := Lib.hid (show Sl w6 _ _ _ _ _ _ by first | exact HSA.out.below hb_w6 | exact (HSA.out.below (grew1 (Below.refl _ _))).below hb_w6 | exact (HSA.out.below (grew2 (Below.refl _ _))).below hb_w6 | exact (HSA.out.below (grew3 (Below.refl _ _))).below hb_w6)
        replace HSB := Lib.hid (show Sl w6 _ _ _ _ _ _ by first | exact HSB.out.below hb_w6 | exact (HSB.out.below (grew1 (Below.refl _ _))).below hb_w6 | exact (HSB.out.below (grew2 (Below.refl _ _))).below hb_w6 | exact (HSB.out.below (grew3 (Below.refl _ _))).below hb_w6)
        replace HSC := Lib.hid (show Sl w6 _ _ _ _ _ _ by first | exact HSC.out.below hb_w6 | exact (HSC.out.below (grew1 (Below.refl _ _))).below hb_w6 | exact (HSC.out.below (grew2 (Below.refl _ _))).below hb_w6 | exact (HSC.out.below (grew3 (Below.refl _ _))).below hb_w6)
        go_wp2_with fail
        refine (translate_to h2.out (by first | exact HSA.out | exact HSA.out.below (grew1 (Below.refl _ _)) | exact HSA.out.below (grew2 (Below.refl _ _)) | exact HSA.out.below (grew3 (Below.refl _ _))) (by first | exact HSC.out | exact HSC.out.below (grew1 (Below.refl _ _)) | exact HSC.out.below (grew2 (Below.refl _ _)) | exact HSC.out.below (grew3 (Below.refl _ _)))).mono ?_
        rintro e w7 ⟨rfl, hb_w7⟩
        have HB_w7 : Below w.heap.size w w7 := by first | exact after0 HB_w6 hb_w7 | exact after1 HB_w6 hb_w7 | exact after2 HB_w6 hb_w7 | exact after3 HB_w6 hb_w7 | exact after4 HB_w6 hb_w7 | exact after5 HB_w6 hb_w7
        go_wp2_with fail
        all_goals try (exfalso; omega)
        all_goals try (go_ret; first | exact ⟨rfl, HB_w7⟩ | (refine ⟨ret_bool ?_, HB_w7⟩; simp; omega))
      ·
        refine (translate_to h1.out (by first | exact HSA.out | exact HSA.out.below (grew1 (Below.refl _ _)) | exact HSA.out.below (grew2 (Below.refl _ _)) | exact HSA.out.below (grew3 (Below.refl _ _))) (by first | exact HSB.out | exact HSB.out.below (grew1 (Below.refl _ _)) | exact HSB.out.below (grew2 (Below.refl _ _)) | exact HSB.out.below (grew3 (Below.refl _ _)))).mono ?_
        rintro e w6 ⟨rfl, hb_w6⟩
        have HB_w6 : Below w.heap.size w w6 := by first | exact after0 HB_W5 hb_w6 | exact after1 HB_W5 hb_w6 | exact after2 HB_W5 hb_w6 | exact after3 HB_W5 hb_w6 | exact after4 HB_W5 hb_w6 | exact after5 HB_W5 hb_w6
        try clear q_a_0 q_a_1
        have H_a := Lib.hid (Box.below (by first | exact H_a.out | exact H_a.out.alloc _ | exact (H_a.out.alloc _).alloc _ | exact ((H_a.out.alloc _).alloc _).alloc _) hb_w6)
        obtain ⟨q_a_0, q_a_1⟩ := H_a.out.c2
        try clear q_b_0 q_b_1
        have H_b := Lib.hid (Box.below (by first | exact H_b.out | exact H_b.out.alloc _ | exact (H_b.out.alloc _).alloc _ | exact ((H_b.out.alloc _).alloc _).alloc _) hb_w6)
        obtain ⟨q_b_0, q_b_1⟩ := H_b.out.c2
        try clear q_c_0 q_c_1
        have H_c := Lib.hid (Box.below (by first | exact H_c.out | exact H_c.out.alloc _ | exact (H_c.out.alloc _).alloc _ | exact ((H_c.out.alloc _).alloc _).alloc _) hb_w6)
        obtain ⟨q_c_0, q_c_1⟩ := H_c.out.c2
        replace HSA := Lib.hid (show Sl w6 _ _ _ _ _ _ by first | exact HSA.out.below hb_w6 | exact (HSA.out.below (grew1 (Below.refl _ _))).below hb_w6 | exact (HSA.out.below (grew2 (Below.refl _ _))).below hb_w6 | exact (HSA.out.below (grew3 (Below.refl _ _))).below hb_w6)
        replace HSB := Lib.hid (show Sl w6 _ _ _ _ _ _ by first | exact HSB.out.below hb_w6 | exact (HSB.out.below (grew1 (Below.refl _ _))).below hb_w6 | exact (HSB.out.below (grew2 (Below.refl _ _))).below hb_w6 | exact (HSB.out.below (grew3 (Below.refl _ _))).below hb_w6)
        replace HSC := Lib.hid (show Sl w6 _ _ _ _ _ _ by first | exact HSC.out.below hb_w6 | exact (HSC.out.below (grew1 (Below.refl _ _))).below hb_w6 | exact (HSC.out.below (grew2 (Below.refl _ _))).below hb_w6 | exact (HSC.out.below (grew3 (Below.refl _ _))).below hb_w6)
        go_wp2_with fail
        refine (translate_to h2.out (by first | exact HSA.out | exact HSA.out.below (grew1 (Below.refl _ _)) | exact HSA.out.below (grew2 (Below.refl _ _)) | exact HSA.out.below (grew3 (Below.refl _ _))) (by first | exact HSC.out | exact HSC.out.below (grew1 (Below.refl _ _)) | exact HSC.out.below (grew2 (Below.refl _ _)) | exact HSC.out.below (grew3 (Below.refl _ _)))).mono ?_
        rintro e w7 ⟨rfl, hb_w7⟩
        have HB_w7 : Below w.heap.size w w7 := by first | exact after0 HB_w6 hb_w7 | exact after1 HB_w6 hb_w7 | exact after2 HB_w6 hb_w7 | exact after3 HB_w6 hb_w7 | exact after4 HB_w6 hb_w7 | exact after5 HB_w6 hb_w7
        go_wp2_with fail
        all_goals try (exfalso; omega)
        all_goals try (go_ret; first | exact ⟨rfl, HB_w7⟩ | (refine ⟨ret_bool ?_, HB_w7⟩; simp; omega))
      ·
        refine (translate_to h1.out (by first | exact HSA.out | exact HSA.out.below (grew1 (Below.refl _ _)) | exact HSA.out.below (grew2 (Below.refl _ _)) | exact HSA.out.below (grew3 (Below.refl _ _))) (by first | exact HSB.out | exact HSB.out.below (grew1 (Below.refl _ _)) | exact HSB.out.below (grew2 (Below.refl _ _)) | exact HSB.out.below (grew3 (Below.refl _ _)))).mono ?_
        rintro e w6 ⟨rfl, hb_w6⟩
        have HB_w6 : Below w.heap.size w w6 := by first | exact after0 HB_W5 hb_w6 | exact after1 HB_W5 hb_w6 | exact after2 HB_W5 hb_w6 | exact after3 HB_W5 hb_w6 | exact after4 HB_W5 hb_w6 | exact after5 HB_W5 hb_w6
        try clear q_a_0 q_a_1
        have H_a := Lib.hid (Box.below (by first | exact H_a.out | exact H_a.out.alloc _ | exact (H_a.out.alloc _).alloc _ | exact ((H_a.out.alloc _).alloc _).alloc _) hb_w6)
        obtain ⟨q_a_0, q_a_1⟩ := H_a.out.c2
        try clear q_b_0 q_b_1
        have H_b := Lib.hid (Box.below (by first | exact H_b.out | exact H_b.out.alloc _ | exact (H_b.out.alloc _).alloc _ | exact ((H_b.out.alloc _).alloc _).alloc _) hb_w6)
        obtain ⟨q_b_0, q_b_1⟩ := H_b.out.c2
        try clear q_c_0 q_c_1
        have H_c := Lib.hid (Box.below (by first | exact H_c.out | exact H_c.out.alloc _ | exact (H_c.out.alloc _).alloc _ | exact ((H_c.out.alloc _).alloc _).alloc _) hb_w6)
        obtain ⟨q_c_0, q_c_1⟩ := H_c.out.c2
        replace HSA := Lib.hid (show Sl w6 _ _ _ _ _ _ by first | exact HSA.out.below hb_w6 | exact (HSA.out.below (grew1 (Below.refl _ _))).below hb_w6 | exact (HSA.out.below (grew2 (Below.refl _ _))).below hb_w6 | exact (HSA.out.below (grew3 (Below.refl _ _))).below hb_w6)
        replace HSB := Lib.hid (show Sl w6 _ _ _ _ _ _ by first | exact HSB.out.below hb_w6 | exact (HSB.out.below (grew1 (Below.refl _ _))).below hb_w6 | exact (HSB.out.below (grew2 (Below.refl _ _))).below hb_w6 | exact (HSB.out.below (grew3 (Below.refl _ _))).below hb_w6)
        replace HSC := Lib.hid (show Sl w6 _ _ _ _ _ _ by first | exact HSC.out.below hb_w6 | exact (HSC.out.below (grew1 (Below.refl _ _))).below hb_w6 | exact (HSC.out.below (grew2 (Below.refl _ _))).below hb_w6 | exact (HSC.out.below (grew3 (Below.refl _ _))).below hb_w6)
        go_wp2_with fail
        refine (translate_to h2.out (by first | exact HSA.out | exact HSA.out.below (grew1 (Below.refl _ _)) | exact HSA.out.below (grew2 (Below.refl _ _)) | exact HSA.out.below (grew3 (Below.refl _ _))) (by first | exact HSC.out | exact HSC.out.below (grew1 (Below.refl _ _)) | exact HSC.out.below (grew2 (Below.refl _ _)) | exact HSC.out.below (grew3 (Below.refl _ _)))).mono ?_
        rintro e w7 ⟨rfl, hb_w7⟩
        have HB_w7 : Below w.heap.size w w7 := by first | exact after0 HB_w6 hb_w7 | exact after1 HB_w6 hb_w7 | exact after2 HB_w6 hb_w7 | exact after3 HB_w6 hb_w7 | exact after4 HB_w6 hb_w7 | exact after5 HB_w6 hb_w7
        try clear q_b_0 q_b_1
        have H_b := Lib.hid (Box.below (by first | exact H_b.out | exact H_b.out.alloc _ | exact (H_b.out.alloc _).alloc _ | exact ((H_b.out.alloc _).alloc _).alloc _) hb_w7)
        obtain ⟨q_b_0, q_b_1⟩ := H_b.out.c2
        try clear q_c_0 q_c_1
        have H_c := Lib.hid (Box.below (by first | exact H_c.out | exact H_c.out.alloc _ | exact (H_c.out.alloc _).alloc _ | exact ((H_c.out.alloc _).alloc _).alloc _) hb_w7)
        obtain ⟨q_c_0, q_c_1⟩ := H_c.out.c2
        replace HSB := Lib.hid (show Sl w7 _ _ _ _ _ _ by first | exact HSB.out.below hb_w7 | exact (HSB.out.below (grew1 (Below.refl _ _))).below hb_w7 | exact (HSB.out.below (grew2 (Below.refl _ _))).below hb_w7 | exact (HSB.out.below (grew3 (Below.refl _ _))).below hb_w7)
        replace HSC := Lib.hid (show Sl w7 _ _ _ _ _ _ by first | exact HSC.out.below hb_w7 | exact (HSC.out.below (grew1 (Below.refl _ _))).below hb_w7 | exact (HSC.out.below (grew2 (Below.refl _ _))).below hb_w7 | exact (HSC.out.below (grew3 (Below.refl _ _))).below hb_w7)
        go_wp2_with fail
        refine (find_to h3.out (by first | exact HSB.out | exact HSB.out.below (grew1 (Below.refl _ _)) | exact HSB.out.below (grew2 (Below.refl _ _)) | exact HSB.out.below (grew3 (Below.refl _ _)))).mono ?_
        rintro e w8 ⟨rfl, hb_w8⟩
        have HB_w8 : Below w.heap.size w w8 := by first | exact after0 HB_w7 hb_w8 | exact after1 HB_w7 hb_w8 | exact after2 HB_w7 hb_w8 | exact after3 HB_w7 hb_w8 | exact after4 HB_w7 hb_w8 | exact after5 HB_w7 hb_w8
        try clear q_b_0 q_b_1
        have H_b := Lib.hid (Box.below (by first | exact H_b.out | exact H_b.out.alloc _ | exact (H_b.out.alloc _).alloc _ | exact ((H_b.out.alloc _).alloc _).alloc _) hb_w8)
        obtain ⟨q_b_0, q_b_1⟩ := H_b.out.c2
        try clear q_c_0 q_c_1
        have H_c := Lib.hid (Box.below (by first | exact H_c.out | exact H_c.out.alloc _ | exact (H_c.out.alloc _).alloc _ | exact ((H_c.out.alloc _).alloc _).alloc _) hb_w8)
        obtain ⟨q_c_0, q_c_1⟩ := H_c.out.c2
        replace HSB := Lib.hid (show Sl w8 _ _ _ _ _ _ by first | exact HSB.out.below hb_w8 | exact (HSB.out.below (grew1 (Below.refl _ _))).below hb_w8 | exact (HSB.out.below (grew2 (Below.refl _ _))).below hb_w8 | exact (HSB.out.below (grew3 (Below.refl _ _))).below hb_w8)
        replace HSC := Lib.hid (show Sl w8 _ _ _ _ _ _ by first | exact HSC.out.below hb_w8 | exact (HSC.out.below (grew1 (Below.refl _ _))).below hb_w8 | exact (HSC.out.below (grew2 (Below.refl _ _))).below hb_w8 | exact (HSC.out.below (grew3 (Below.refl _ _))).below hb_w8)
        have H_x := Lib.hid (Box.new w8 [.int .i64 x0, .int .i64 x1, .int .i64 x2] 29)
        obtain ⟨z0, z1⟩ := (H_c.out.alloc (.cells #[.int .i64 x0, .int .i64 x1, .int .i64 x2] 29)).c2
        go_wp2_with fail
        clear z0 z1
        refine (find_to h4.out (by first | exact HSC.out | exact HSC.out.below (grew1 (Below.refl _ _)) | exact HSC.out.below (grew2 (Below.refl _ _)) | exact HSC.out.below (grew3 (Below.refl _ _)))).mono ?_
        rintro e w9 ⟨rfl, hb_w9⟩
        have HB_w9 : Below w.heap.size w w9 := by first | exact after0 HB_w8 hb_w9 | exact after1 HB_w8 hb_w9 | exact after2 HB_w8 hb_w9 | exact after3 HB_w8 hb_w9 | exact after4 HB_w8 hb_w9 | exact after5 HB_w8 hb_w9
        try clear q_x_0 q_x_1 q_x_2
        have H_x := Lib.hid (Box.below (by first | exact H_x.out | exact H_x.out.alloc _ | exact (H_x.out.alloc _).alloc _ | exact ((H_x.out.alloc _).alloc _).alloc _) hb_w9)
        obtain ⟨q_x_0, q_x_1, q_x_2⟩ := H_x.out.c3
        clear q_x_0 q_x_1 q_x_2 q_b_0 q_b_1 q_c_0 q_c_1
        obtain ⟨W6, hW6, HB_W6, hZ, hY⟩ := boxes1 w9 [.int .i64 y0, .int .i64 y1, .int .i64 y2] 29
        have H_y := Lib.hid hY
        replace H_x := Lib.hid (H_x.out.below HB_W6)
        replace HB_W6 := after0 HB_w9 HB_W6
        clear hY hZ
        obtain ⟨q_x_0, q_x_1, q_x_2⟩ := H_x.out.c3
        obtain ⟨q_y_0, q_y_1, q_y_2⟩ := H_y.out.c3
        go_wp2_with fail
        all_goals try (exfalso; omega)
        all_goals try (go_ret; first | exact ⟨rfl, HB_W6⟩ | (refine ⟨ret_bool ?_, HB_W6⟩; simp; omega))
end Go.Proofs.Ytmnlkndbdcdngaa
