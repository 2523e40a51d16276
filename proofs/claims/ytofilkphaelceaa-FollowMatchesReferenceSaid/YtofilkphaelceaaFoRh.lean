/-
  The reference functions of the layer 'follow', walked: first, Exchanges.
-/
import Derived.Test.YtofilkphaelceaaFoRg
import Derived.Test.YtofilkphaelceaaFoTe
set_option linter.unusedVariables false
namespace Fo
open Go
def fstI (l : List Int) : Int := match firstD l with | some k => (k : Int) | none => -1
theorem firstD_hit {l : List Int} {k : Nat} (hk : k + 1 < l.length) (h : l[k + 1] < l[k]) (hn : ∀ (j : Nat) (hj : j + 1 < l.length), j < k → l[j] ≤ l[j + 1]) : firstD l = some k := by
  unfold firstD
  rw [List.find?_eq_some_iff_getElem]
  refine ⟨by rw [List.getD_eq_getElem?_getD, List.getD_eq_getElem?_getD, List.getElem?_eq_getElem hk, List.getElem?_eq_getElem (by omega)]; simpa using h, k, by simp; omega, by simp, fun j hj => ?_⟩
  have := hn j (by omega) hj
  simp only [List.getElem_range]
  rw [List.getD_eq_getElem?_getD, List.getD_eq_getElem?_getD, List.getElem?_eq_getElem (by omega), List.getElem?_eq_getElem (by omega)]
  simp; omega
theorem firstD_miss {l : List Int} (hn : ∀ (j : Nat) (hj : j + 1 < l.length), l[j] ≤ l[j + 1]) : firstD l = none := by
  unfold firstD
  rw [List.find?_eq_none]
  intro j hj
  have h1 := List.mem_range.1 hj
  have := hn j (by omega)
  rw [List.getD_eq_getElem?_getD, List.getD_eq_getElem?_getD, List.getElem?_eq_getElem (by omega), List.getElem?_eq_getElem (by omega)]
  simp; omega
theorem fstI_hit {l : List Int} {k : Nat} (hk : k + 1 < l.length) (h : l[k + 1] < l[k]) (hn : ∀ (j : Nat) (hj : j + 1 < l.length), j < k → l[j] ≤ l[j + 1]) : fstI l = k := by unfold fstI; rw [firstD_hit hk h hn]
theorem fstI_miss {l : List Int} (hn : ∀ (j : Nat) (hj : j + 1 < l.length), l[j] ≤ l[j + 1]) : fstI l = -1 := by unfold fstI; rw [firstD_miss hn]
/-- a state of the reference's exchanging -/
def XSt (o out cur : List Int) : Prop := out ++ exN (inv cur) cur = exchF o ∧ cur.length = o.length ∧ out.length + inv cur = inv o
theorem XSt.start (o : List Int) : XSt o [] o := ⟨rfl, rfl, by simp⟩
theorem XSt.step {o out cur : List Int} {k : Nat} (h : XSt o out cur) (hf : firstD cur = some k) : XSt o (out ++ [(k : Int)]) (swp k cur) ∧ out.length + 1 ≤ inv o := by
  obtain ⟨hk, hlt⟩ := firstD_get hf
  have h1 := inv_swp k cur hk hlt
  refine ⟨⟨?_, by rw [swp_len]; exact h.2.1, ?_⟩, ?_⟩
  · rw [← h.1, ← h1, exN, hf]
    dsimp only
    rw [swapAt_eq k cur hk, List.append_assoc]
    rfl
  · have := h.2.2; simp; omega
  · have := h.2.2; omega
theorem XSt.end_ {o out cur : List Int} (h : XSt o out cur) (hf : firstD cur = none) : out = exchF o := by
  have := h.1
  rwa [exN_none hf, List.append_nil] at this
theorem swp_sets {l : List Int} {k : Nat} (hk : k + 1 < l.length) : swp k l = (l.set k l[k + 1]).set (k + 1) l[k] := by
  rw [← swapAt_eq k l hk]
  unfold swapAt
  rw [List.getD_eq_getElem?_getD, List.getD_eq_getElem?_getD, List.getElem?_eq_getElem hk, List.getElem?_eq_getElem (by omega)]
  rfl
def lenV : Value → Nat
  | .slice _ n _ => n
  | _ => 0
end Fo
namespace Go.Proofs.Ytofilkphaelceaa
open Go Go.RowKit Fo Sk Go.Sort
theorem OwnL.grI {w : World} {base g n cap : Nat} {ys : List Int} (h : OwnL w base 3 1 cI (.slice (some ⟨g, 0, none⟩) n cap) ys) (j : Nat) (x : Int) : w.grownBy (w.setCell ⟨g, j, none⟩ (.int .i64 x)) (some g) := by
  have hn : ys.length = n := by
    rcases h.2 with ⟨h', _⟩ | ⟨g', cap', cur, h', _⟩
    · simp at h'
    · simp only [Value.slice.injEq] at h'; omega
  subst hn
  exact (World.ownsRow.stored h j (.int .i64 x)).2

set_option maxRecDepth 100000 in
set_option maxHeartbeats 1000000 in
theorem rfirst_any (ao : Option Addr) (n cap : Nat) (l : List Int) (w : World) (hs : Sl w 1 cI ao n cap l) : Calls Try.prog 52 #[.slice ao n cap] w (Ret w (.int .i64 (fstI l))) := by
  obtain rfl := hs.len
  have hcap := hs.max
  have hle := hs.le
  unfold maxLen at hcap
  have HS0 := Lib.hid hs
  have HB_w : Below w.heap.size w w := Below.refl _ _
  have HF := Lib.hid (@fstI_miss l)
  have HT := Lib.hid (fun k => @fstI_hit l k)
  clear hs
  generalize fstI l = p at *
  go_enter Try.func52, Try.ntmps52
  go_wp2_with fail
  go_loopw [3] (fun i wr => ∃ j : Nat, (j = 0 ∨ j + 1 ≤ l.length) ∧ i = .int .i64 j ∧ Below w.heap.size w wr ∧ Hid (∀ x (h : x + 1 < l.length), x < j → l[x] ≤ l[x + 1])) (fun i _ => l.length - (intOf i).toNat)
  case atStart => exact ⟨0, .inl rfl, rfl, HB_w, fun x _ h => absurd h (Nat.not_lt_zero _)⟩
  case round =>
    obtain ⟨j, hj, rfl, HB_wr, HJ⟩ := hrel
    by_cases hlt : j + 1 < l.length
    · obtain ⟨b', off, rfl, hb, hrow⟩ := (HS0.out.below HB_wr).get hlt
      have e_0 := (hrow j (by omega)).c1
      have f_0 := (hrow (j + 1) hlt).c1
      rw [Nat.mul_one] at e_0 f_0
      by_cases hq : l[j + 1] < l[j]
      · have HP := Lib.hid (HT.out j hlt hq HJ.out)
        clear hrow HJ HT
        generalize l[j] = u at *
        generalize l[j + 1] = v at *
        go_wp2_with fail
        have y_e_0 := cell_regrown e_0
        clear e_0
        have y_f_0 := cell_regrown f_0
        clear f_0
        refine wp_region_plan (C := fun w' => ∃ p : Regrown, w' = grow (redrawn wr p.d) p.os) (.q 0 (.q 1 (.q 2 (.q 3 (.q 4 (.q 5 (.q 6 (.q 7 (.q 8 (.q 9 (.done))))))))))) 10 (by kernel_rfl) (by kernel_rfl) (grew_drew _) ?_
        repeat (any_goals (first | (go_big_quiet_skip; refine wpQuiet_nil ?_) | (go_big_quiet_want; go_big_quiet_op; go_big_quiet_on; refine wpQuiet_nil ?_) | ((with_reducible apply q_split); exact rfl; intro q hq; cases q <;> (rw [hq]; (try first | replace hq := bnot_t hq | replace hq := bnot_f hq); (try first | replace hq := of_decide_eq_true hq | replace hq := of_decide_eq_false hq | replace hq := eq_of_beq hq); (try first | replace hq := Int.not_lt.1 hq | replace hq := Int.not_le.1 hq | replace hq := Nat.not_lt.1 hq | replace hq := Nat.not_le.1 hq); try (exfalso; omega))) | (refine plan_q rfl rfl ?_)))
        clear y_e_0
        clear y_f_0
        all_goals refine plan_done ?_
        all_goals (try simp only [List.drop_succ_cons, List.drop_zero])
        all_goals (try go_wp2_with fail)
        all_goals refine NoPanic.normal ?_
        all_goals (try go_wp2_with fail)
        go_ret
        exact ⟨ret_int HP.out.symm, HB_wr.drew⟩
      · have HN : Hid (∀ x (h : x + 1 < l.length), x < j + 1 → l[x] ≤ l[x + 1]) := fun x h hx => by
          rcases Nat.lt_succ_iff_lt_or_eq.1 hx with h1 | rfl
          · exact HJ.out x h h1
          · omega
        replace hq := Int.not_lt.1 hq
        clear hrow HJ
        generalize l[j] = u at *
        generalize l[j + 1] = v at *
        go_wp2_with fail
        have y_e_0 := cell_regrown e_0
        clear e_0
        have y_f_0 := cell_regrown f_0
        clear f_0
        refine wp_region_plan (C := fun w' => ∃ p : Regrown, w' = grow (redrawn wr p.d) p.os) (.q 0 (.q 1 (.q 2 (.q 3 (.q 4 (.q 5 (.q 6 (.q 7 (.q 8 (.q 9 (.done))))))))))) 10 (by kernel_rfl) (by kernel_rfl) (grew_drew _) ?_
        repeat (any_goals (first | (go_big_quiet_skip; refine wpQuiet_nil ?_) | (go_big_quiet_want; go_big_quiet_op; go_big_quiet_on; refine wpQuiet_nil ?_) | ((with_reducible apply q_split); exact rfl; intro q hq; cases q <;> (rw [hq]; (try first | replace hq := bnot_t hq | replace hq := bnot_f hq); (try first | replace hq := of_decide_eq_true hq | replace hq := of_decide_eq_false hq | replace hq := eq_of_beq hq); (try first | replace hq := Int.not_lt.1 hq | replace hq := Int.not_le.1 hq | replace hq := Nat.not_lt.1 hq | replace hq := Nat.not_le.1 hq); try (exfalso; omega))) | (refine plan_q rfl rfl ?_)))
        clear y_e_0
        clear y_f_0
        all_goals refine plan_done ?_
        all_goals (try simp only [List.drop_succ_cons, List.drop_zero])
        all_goals (try go_wp2_with fail)
        all_goals refine NoPanic.normal ?_
        all_goals (try go_wp2_with fail)
        go_roundw
        case rel => exact ⟨j + 1, .inr (by omega), by go_num, HB_wr.drew, HN⟩
        case measure => simp [intOf]; omega
    · have HP := Lib.hid (HF.out (fun x h => HJ.out x h (by omega)))
      have hj2 : j ≤ 9223372036854775806 := by omega
      have hjl : l.length ≤ j + 1 := by omega
      clear HJ
      go_wp2_with fail
      all_goals try (exfalso; omega)
      go_ret
      exact ⟨ret_int HP.out.symm, HB_wr⟩

set_option maxRecDepth 100000 in
set_option maxHeartbeats 8000000 in
theorem rexchanges_any (ao : Option Addr) (n cap : Nat) (l : List St) (bo : Option Addr) (m capb : Nat) (o : List Int) (w : World) (hs : SlS w ao n cap l) (hd : Sl w 1 cI bo m capb o) :
    Calls Try.prog 30 #[.slice ao n cap, .slice bo m capb] w (IntsE w (exchR l o)) := by
  obtain rfl := hd.len
  have HD := Lib.hid hd
  have HB_w : Below w.heap.size w w := Below.refl _ _
  obtain ⟨⟨x, q⟩, hp⟩ : ∃ p, permR l o = p := ⟨_, rfl⟩
  have HERR := Lib.hid (@exchR_err l o x q hp)
  have HNO := Lib.hid (fun hq : q = 0 => @exchR_no l o x (by rw [hp, hq]))
  have HOK := Lib.hid (fun hq : q = 0 => @exchR_ok l o x (by rw [hp, hq]))
  have HPM := Lib.hid (show Calls Try.prog 21 #[.slice ao n cap, .slice bo o.length capb] w (Ret w (eI (x, q))) by have := rpermitted_any ao n cap l bo o.length capb o w hs hd; rwa [hp] at this)
  obtain ⟨i0, hi, hz0, hz1, hz2⟩ := info_parts info_int
  have HI := Lib.hid hi
  have HZ0 := Lib.hid hz0
  have HZ1 := Lib.hid hz1
  have HZ2 := Lib.hid hz2
  clear hs hd hp hi hz0 hz1 hz2
  generalize exchR l o = p at *
  go_enter Try.func30, Try.ntmps30
  go_wp2_with fail
  refine (HPM.out).mono ?_
  rintro e wa ⟨rfl, hb_wa⟩
  have HB_wa : Below w.heap.size w wa := by first | exact after0 HB_w hb_wa | exact after1 HB_w hb_wa | exact after2 HB_w hb_wa | exact after3 HB_w hb_wa | exact after4 HB_w hb_wa | exact after5 HB_w hb_wa
  by_cases hq : q = 0
  case neg =>
    have HP := Lib.hid (HERR.out hq)
    have hq1 : (q != 0) = true := bne_iff_ne.2 hq
    clear hq
    go_wp2_with fail
    go_ret2
    exact ⟨none, 0, 0, by rw [HP.out]; rfl, by rw [HP.out]; exact Sl.nil, HB_wa⟩
  by_cases hx : 0 ≤ x
  · have HP := Lib.hid (HNO.out hq hx)
    subst hq
    go_wp2_with fail
    go_ret2
    exact ⟨none, 0, 0, by rw [HP.out]; rfl, by rw [HP.out]; exact Sl.nil, HB_wa⟩
  obtain ⟨hp1, hnd, hl200⟩ := HOK.out hq (by omega)
  have HP := Lib.hid hp1
  subst hq
  replace hx := Int.not_le.1 hx
  clear hp1 hnd HERR HNO HOK HPM
  have hiv : inv o ≤ 40000 := by
    have h2 := inv_le o
    have h3 : o.length * o.length ≤ 200 * 200 := Nat.mul_le_mul hl200 hl200
    omega
  go_wp2_with fail
  refine (rcopied_any _ _ _ o _ (HD.out.below HB_wa) hl200).mono ?_
  rintro e wb ⟨v, rfl, ho, hb_wb⟩
  have HB_wb : Below w.heap.size w wb := by first | exact after0 HB_wa hb_wb | exact after1 HB_wa hb_wb | exact after2 HB_wa hb_wb | exact after3 HB_wa hb_wb | exact after4 HB_wa hb_wb | exact after5 HB_wa hb_wb
  have HO0 := Lib.hid (ho.mono (base' := w.heap.size) HB_wa.size)
  obtain ⟨co, cc, rfl, hsl⟩ := ho.sl cI_len
  have hcle := hsl.le
  have hccap := hsl.max
  unfold maxLen at hccap
  have HF0 := Lib.hid (rfirst_any _ _ _ o wb hsl)
  clear ho hsl
  go_wp2_with fail
  refine (HF0.out).mono ?_
  rintro e wc ⟨rfl, hb_wc⟩
  have HB_wc : Below w.heap.size w wc := by first | exact after0 HB_wb hb_wc | exact after1 HB_wb hb_wc | exact after2 HB_wb hb_wc | exact after3 HB_wb hb_wc | exact after4 HB_wb hb_wc | exact after5 HB_wb hb_wc
  have HO1 := Lib.hid (HO0.out.below hb_wc)
  clear HO0 HF0
  go_wp2_with fail
  go_loopw [9, 10] (fun vo i wr => ∃ out cur : List Int, i = .int .i64 (fstI cur) ∧ lenV vo = out.length ∧ Below w.heap.size w wr ∧ Hid (XSt o out cur) ∧ Hid (OwnL wr w.heap.size 3 1 cI (.slice co o.length cc) cur) ∧ Hid (OwnL wr w.heap.size 3 1 cI vo out) ∧ Hid (Apart vo (.slice co o.length cc))) (fun vo _ _ => inv o - lenV vo)
  case atStart => exact ⟨[], o, rfl, rfl, HB_wc, XSt.start o, HO1.out, OwnL.nil, apart_nil _⟩
  case round =>
    clear HO1
    obtain ⟨out, cur, rfl, hlv, HB_wr, HST, HL, HO, HAP⟩ := hrel
    cases hf : firstD cur with
    | none =>
      have hfi : fstI cur = -1 := by unfold fstI; rw [hf]
      have HE := Lib.hid (HST.out.end_ hf)
      obtain ⟨vo, vc, rfl, hss⟩ := HO.out.sl cI_len
      have HSS := Lib.hid hss
      rw [hfi]
      clear hf hfi hss HO
      go_wp2_with fail
      all_goals try (exfalso; omega)
      go_ret2
      exact ⟨_, _, _, by rw [HP.out]; rfl, by rw [HP.out]; dsimp only; rw [← HE.out]; exact HSS.out, HB_wr⟩
    | some k =>
      have hfi : fstI cur = k := by unfold fstI; rw [hf]
      obtain ⟨hk, hlt⟩ := firstD_get hf
      obtain ⟨hst2, hle2⟩ := HST.out.step hf
      have HST2 := Lib.hid hst2
      have hcl := HST.out.2.1
      have HSW := Lib.hid (swp_sets hk)
      obtain ⟨g, cap', e, hbg, hgl⟩ := OwnL.form HL.out (by omega)
      simp only [Value.slice.injEq] at e
      obtain ⟨rfl, -, -⟩ := e
      have hL0 := HL.out
      rw [← hcl] at hL0
      have e_0 := OwnL.cellI hL0 (List.getElem?_eq_getElem (by omega : k < cur.length))
      have f_0 := OwnL.cellI hL0 (List.getElem?_eq_getElem hk)
      have HF0 := Lib.hid f_0
      have hki : ¬ (k : Int) < 0 := by omega
      have hko : k + 1 < o.length := by omega
      rw [hfi]
      clear hf hfi hst2 hL0 hlt HST
      generalize hu : cur[k] = u at *
      generalize hv : cur[k + 1] = v at *
      have HL1 := Lib.hid (OwnL.setI HL.out k v)
      have HL2 := Lib.hid (OwnL.setI HL1.out (k + 1) u)
      have hgr1 := OwnL.grI HL.out k v
      have hgr2 := OwnL.grI HL1.out (k + 1) u
      have f_1 := OwnL.frozenI HL.out k
      have hl1 := HL1.out
      rw [← hcl, show cur.length = (cur.set k (v : Int)).length from (List.length_set ..).symm] at hl1
      have e_1 := OwnL.cellI hl1 (j := k + 1) (x := v) (by rw [List.getElem?_set_ne (by omega), List.getElem?_eq_getElem hk, hv])
      have f_2 := OwnL.frozenI HL1.out (k + 1)
      rw [← HSW.out] at HL2
      have HO1 := Lib.hid (OwnL.far (u := .slice (some ⟨g, 0, none⟩) o.length cc) HO.out hgr1 HAP.out)
      have HO2 := Lib.hid (OwnL.far (u := .slice (some ⟨g, 0, none⟩) o.length cc) HO1.out hgr2 HAP.out)
      have HB_1 : Below w.heap.size w (wr.setCell ⟨g, k, none⟩ (.int .i64 v)) := HB_wr.setCell (p := ⟨g, k, none⟩) hbg _
      have HB_2 : Below w.heap.size w ((wr.setCell ⟨g, k, none⟩ (.int .i64 v)).setCell ⟨g, k + 1, none⟩ (.int .i64 u)) := HB_1.setCell (p := ⟨g, k + 1, none⟩) hbg _
      clear hl1 hgr1 hgr2 hu hv HF0 HL HL1 HO HO1 HB_1 HSW hcl
      obtain ⟨W1, hW1⟩ : ∃ X, wr.setCell ⟨g, k, none⟩ (.int .i64 v) = X := ⟨_, rfl⟩
      rw [hW1] at e_1 f_2 HL2 HO2 HB_2
      obtain ⟨W2, hW2⟩ : ∃ X, W1.setCell ⟨g, k + 1, none⟩ (.int .i64 u) = X := ⟨_, rfl⟩
      rw [hW2] at HL2 HO2 HB_2
      have hcl2 : (swp k cur).length = o.length := HST2.out.2.1
      generalize swp k cur = cur2 at *
      have HOX := Lib.hid (HO2.out.alloc (.cells #[.int .i64 (k : Int)] 3))
      have HLX := Lib.hid (HL2.out.alloc (.cells #[.int .i64 (k : Int)] 3))
      have HSX : Hid (Sl (W2.alloc (.cells #[.int .i64 (k : Int)] 3)) 1 cI (some ⟨W2.heap.size, 0, none⟩) 1 1 [(k : Int)]) := Sl.one (x := (k : Int)) cI_len (Box.new W2 (cI (k : Int)) 3)
      have hsz : w.heap.size ≤ (W2.alloc (.cells #[.int .i64 (k : Int)] 3)).heap.size := by have := HB_2.size; simp; omega
      go_wp2_with (at_builtin; refine wpList_append_lie rfl _ _ 23 rfl w.heap.size 3 i0 _ 1 8 Try.underlying23 HI.out HZ0.out HZ1.out HZ2.out rfl (by decide) cI_len cI_one _ out rfl HOX.out (some ⟨W2.heap.size, 0, none⟩) 1 1 [(k : Int)] rfl HSX.out (by decide) (by unfold maxLen; omega) (by omega) hsz ?_)
      rintro g6 cap6 w6 ho6 hg6 hgr6 hat6 hgl6
      have HB_w6 : Below w.heap.size w w6 := (grew1 HB_2).trans (hg6 _ (Nat.le_refl _))
      have HO6 := Lib.hid ho6
      have HL6 := Lib.hid (OwnL.far HLX.out hgr6 HAP.out.symm)
      have HAP6 := Lib.hid (Apart.lie (n := out.length + 1) (cap := cap6) HAP.out (fun k e => (World.ownsRow.lt HLX.out k e).2) (by simpa using hat6))
      clear ho6 hg6 hgr6 hat6 hsz HSX HLX HOX HL2 HO2 HAP hW1 hW2 e_0 f_0 e_1 f_1 f_2 HB_2
      obtain ⟨_, _, hq1, hsl6⟩ := HL6.out.sl cI_len
      rw [hcl2] at hq1 hsl6
      simp only [Value.slice.injEq] at hq1
      obtain ⟨rfl, -, rfl⟩ := hq1
      have HF6 := Lib.hid (rfirst_any _ _ _ cur2 w6 hsl6)
      clear hsl6
      go_wp2_with fail
      refine (HF6.out).mono ?_
      rintro e w7 ⟨rfl, hb_w7⟩
      have HB_w7 : Below w.heap.size w w7 := by first | exact after0 HB_w6 hb_w7 | exact after1 HB_w6 hb_w7 | exact after2 HB_w6 hb_w7 | exact after3 HB_w6 hb_w7 | exact after4 HB_w6 hb_w7 | exact after5 HB_w6 hb_w7
      have HL7 := Lib.hid (HL6.out.below hb_w7)
      have HO7 := Lib.hid (HO6.out.below hb_w7)
      clear HF6 HL6 HO6 hb_w7
      go_wp2_with fail
      go_roundw
      case rel => exact ⟨out ++ [(k : Int)], cur2, rfl, by simp [lenV], HB_w7, HST2.out, HL7.out, HO7.out, HAP6.out⟩
      case measure =>
        show inv o - lenV (.slice _ (out.length + 1) _) < inv o - lenV _
        rw [hlv]
        show inv o - (out.length + 1) < inv o - out.length
        omega
end Go.Proofs.Ytofilkphaelceaa
