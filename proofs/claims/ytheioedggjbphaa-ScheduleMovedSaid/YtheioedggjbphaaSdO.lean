/-
  The law ScheduleMoved.
-/
import Derived.Test.YtheioedggjbphaaSdL
import Derived.Test.YtheioedggjbphaaSdQ
set_option linter.unusedVariables false
namespace Sc
def upTo {α : Type} (g : α → α) (l : List α) (k : Nat) : List α := (l.take k).map g ++ l.drop k
theorem upTo_zero {α : Type} (g : α → α) (l : List α) : upTo g l 0 = l := by unfold upTo; simp
theorem upTo_len {α : Type} (g : α → α) (l : List α) (k : Nat) : (upTo g l k).length = l.length := by
  unfold upTo
  simp only [List.length_append, List.length_map, List.length_take, List.length_drop]
  omega
theorem upTo_at {α : Type} {g : α → α} {l : List α} {k : Nat} (hk : k < l.length) : (upTo g l k)[k]? = some l[k] := by
  unfold upTo
  rw [List.getElem?_append_right (by rw [List.length_map]; exact List.length_take_le _ _), List.length_map, List.length_take_of_le (Nat.le_of_lt hk), Nat.sub_self, List.drop_eq_getElem_cons hk]
  rfl
theorem upTo_set {α : Type} {g : α → α} {l : List α} {k : Nat} (hk : k < l.length) : (upTo g l k).set k (g l[k]) = upTo g l (k + 1) := by
  unfold upTo
  rw [List.set_append_right _ _ (by rw [List.length_map]; exact List.length_take_le _ _), List.length_map, List.length_take_of_le (Nat.le_of_lt hk), Nat.sub_self, List.drop_eq_getElem_cons hk, List.set_cons_zero, List.take_add_one, List.getElem?_eq_getElem hk, Option.toList_some, List.map_append, List.append_assoc]
  rfl
theorem plan_slots {J : List Jb} {f : Int} (h4 : f < 400) : ∀ s ∈ planF J f, f ≤ s.slot ∧ s.slot < 400 := by
  intro s hs
  obtain ⟨m, b, h1, h2, rfl⟩ := mem_out.1 hs
  dsimp only
  omega
theorem planR_cs (J : List Jb) (f : Int) : (validJ J = true ∧ slotB f = true ∧ planR J f = (planF J f, 0)) ∨ (validJ J = false ∧ planR J f = ([], 1)) ∨ (validJ J = true ∧ slotB f = false ∧ planR J f = ([], 1)) := by
  unfold planR
  cases h1 : validJ J <;> cases h2 : slotB f <;> simp
theorem upTo_all {α : Type} (g : α → α) (l : List α) : upTo g l l.length = l.map g := by unfold upTo; simp
end Sc
namespace Go.Proofs.Ytheioedggjbphaa
open Go Go.RowKit Sc Sk Go.Sort
theorem OwnL.slA {α : Type} {enc : α → List Value} {w : World} {base e k n c : Nat} {o : Option Addr} {ys : List α} (hk : ∀ x, (enc x).length = k) (h : OwnL w base e k enc (.slice o n c) ys) : Sl w k enc o n c ys := by
  obtain ⟨ao, cap, he, hs⟩ := h.sl hk
  simp only [Value.slice.injEq] at he
  obtain ⟨rfl, rfl, rfl⟩ := he
  exact hs
set_option maxRecDepth 100000 in
set_option maxHeartbeats 16000000 in
theorem moved_walk (hso : SortOk) (ao : Option Addr) (n cap : Nat) (l : List Jb) (f x : Int) (w : World) (hs : Sl w 4 cJ ao n cap l) (hx : (Lit.int .u8 x).wf = true) :
    Calls Try.prog 9 #[.slice ao n cap, .int .i64 f, .int .u8 x] w (Ret w (.bool true)) := by
  obtain rfl := hs.len
  have hle := hs.le
  have hcap := hs.max
  have HCAP := Lib.hid hcap
  have hcap2 := hcap
  unfold maxLen at hcap2
  have HS := Lib.hid hs
  have HSO := Lib.hid hso
  clear hs hso hcap
  have HP1 := Lib.hid (planR_cases l f)
  have HB_w : Below w.heap.size w w := Below.refl _ _
  have hx2 : 0 ≤ x ∧ x ≤ 255 := by simpa [Lit.wf, IntKind.min, IntKind.max, IntKind.bits, IntKind.signed] using hx
  clear hx
  obtain ⟨i0, hi, hz0, hz1, hz2⟩ := info_parts info_job
  have HI := Lib.hid hi
  have HZ0 := Lib.hid hz0
  have HZ1 := Lib.hid hz1
  have HZ2 := Lib.hid hz2
  obtain ⟨i1, hy, hy0, hy1, hy2⟩ := info_parts info_sent
  have HY := Lib.hid hy
  have HY0 := Lib.hid hy0
  have HY1 := Lib.hid hy1
  have HY2 := Lib.hid hy2
  clear hi hz0 hz1 hz2 hy hy0 hy1 hy2
  go_enter Try.func9, Try.ntmps9
  go_wp2_with fail
  refine (head_any HSO.out _).mono ?_
  rintro e wa ⟨rfl, hb_wa⟩
  have HB_wa : Below w.heap.size w wa := by first | exact after0 HB_w hb_wa | exact after1 HB_w hb_wa | exact after2 HB_w hb_wa | exact after3 HB_w hb_wa | exact after4 HB_w hb_wa | exact after5 HB_w hb_wa
  go_wp2_with fail
  refine (rfew_any ao l.length cap _ hle HCAP.out).mono ?_
  rintro e wb ⟨rfl, hb_wb⟩
  have HB_wb : Below w.heap.size w wb := by first | exact after0 HB_wa hb_wb | exact after1 HB_wa hb_wb | exact after2 HB_wa hb_wb | exact after3 HB_wa hb_wb | exact after4 HB_wa hb_wb | exact after5 HB_wa hb_wb
  by_cases h12 : l.length ≤ 12
  case neg =>
    rw [decide_eq_false h12]
    go_wp2_with fail
    all_goals try (exfalso; omega)
    go_ret
    exact ⟨rfl, HB_wb⟩
  rw [decide_eq_true h12]
  go_wp2_with fail
  all_goals try (exfalso; omega)
  refine (Plan_k ao l.length cap l f _ (HS.out.below HB_wb)).mono ?_
  rintro e wc ⟨o1, n1, c1, rfl, hl, hb_wc⟩
  have HB_wc : Below w.heap.size w wc := by first | exact after0 HB_wb hb_wc | exact after1 HB_wb hb_wc | exact after2 HB_wb hb_wc | exact after3 HB_wb hb_wc | exact after4 HB_wb hb_wc | exact after5 HB_wb hb_wc
  obtain rfl := hl.len
  have HL1 := Lib.hid hl
  clear hl
  rcases HP1.out with ⟨v1, s1, e1⟩ | ⟨_, e1⟩
  case inr =>
    rw [e1]
    go_wp2_with fail
    all_goals try (exfalso; omega)
    go_ret
    exact ⟨rfl, HB_wc⟩
  rw [e1]
  rw [e1] at HL1
  have HV := Lib.hid v1
  have HF := Lib.hid (slotB_iff.1 s1)
  obtain ⟨hf0, hf4⟩ := slotB_iff.1 s1
  clear e1 s1 v1 HP1
  have HSC := Lib.hid (HS.out.below HB_wc)
  have HO0 := Lib.hid (show OwnL (wc.alloc (.cells #[] 44)) wc.heap.size 44 4 cJ (.slice (some ⟨wc.heap.size, 0, none⟩) 0 0) [] from OwnL.made (Nat.le_refl _))
  go_wp2_with (at_builtin; refine wpList_append_sl rfl _ _ 22 rfl wc.heap.size 44 i0 _ 4 32 Try.underlying22 HI.out HZ0.out HZ1.out HZ2.out rfl (by decide) cJ_len cJ_one _ [] rfl HO0.out ao l.length cap l rfl (by first | exact HSC.out.below (grew1 HB_wc) | exact HSC.out.below (grew1 (Below.refl _ _))) (by unfold maxLen; simp; omega) (by simp; omega) (by simp) ?_)
  rintro v_w1 w1 ho hg hgr
  have HO_w1 := Lib.hid ho
  have HB_w1 : Below w.heap.size w w1 := (grew1 HB_wc).trans (hg _ HB_wc.size)
  have hb_w1 := Lib.hid (show Below wc.heap.size wc w1 from (grew1 (Below.refl _ _)).trans (hg _ (Nat.le_refl _)))
  have hz_w1 : wc.heap.size ≤ w1.heap.size := hb_w1.out.size
  clear ho hg hgr HO0
  obtain ⟨oo, cc, rfl, -⟩ := OwnL.sl cJ_len (show OwnL w1 wc.heap.size 44 4 cJ v_w1 l from HO_w1.out)
  replace HO_w1 := Lib.hid (show OwnL w1 wc.heap.size 44 4 cJ (.slice oo l.length cc) (upTo (mvJ x) l 0) by rw [upTo_zero]; exact HO_w1.out)
  clear HSC
  go_wp2_with fail
  go_loopw [12] (fun i wr => ∃ k : Nat, k ≤ l.length ∧ i = .int .i64 k ∧ Below w.heap.size w wr ∧ Hid (Below wc.heap.size wc wr) ∧ Hid (OwnL wr wc.heap.size 44 4 cJ (.slice oo l.length cc) (upTo (mvJ x) l k))) (fun i _ => l.length - (intOf i).toNat)
  case atStart => exact ⟨0, by omega, rfl, HB_w1, hb_w1, HO_w1⟩
  case round =>
    clear HO_w1 HB_w1 hb_w1 hz_w1
    obtain ⟨k, hk, rfl, HB_wr, HBB, HO⟩ := hrel
    have hwl := upTo_len (mvJ x) l k
    by_cases hlt : k < l.length
    · obtain ⟨g, cg, hv, hg1, hg2⟩ := OwnL.form' HO.out (by omega)
      simp only [Value.slice.injEq] at hv
      obtain ⟨rfl, -, rfl⟩ := hv
      have hwg : w.heap.size ≤ g := Nat.le_trans HB_wc.size hg1
      have hka := upTo_at (g := mvJ x) hlt
      have hjp := jobB_iff.1 ((validJ_iff.1 HV.out).2 _ (List.getElem_mem hlt))
      have hp0 := hjp.1
      have hp1 := hjp.2.1
      have hp2 := hjp.2.2.1
      have g_0 := HO.out.cellG cJ_len hka (i := 0) rfl
      have g_f := HO.out.frozenG
      have hst := OwnL.setG cJ_len HO.out (j := k) (by omega) (i := 0) (by decide) (u := .int .i64 (l[k].ready + x)) (a := { l[k] with ready := l[k].ready + x }) (by rw [(List.getElem?_eq_some_iff.1 hka).2]; rfl)
      rw [Nat.add_zero] at g_0 hst
      obtain ⟨W1, hW1⟩ : ∃ X, wr.setCell ⟨g, k * 4, none⟩ (.int .i64 (l[k].ready + x)) = X := ⟨_, rfl⟩
      rw [hW1] at hst
      have hkb : ((upTo (mvJ x) l k).set k { l[k] with ready := l[k].ready + x })[k]? = some { l[k] with ready := l[k].ready + x } := by rw [List.getElem?_set_self (by omega)]
      have g_1 := hst.1.cellG cJ_len hkb (i := 1) rfl
      have g_f1 := hst.1.frozenG
      have hst2 := OwnL.setG cJ_len hst.1 (j := k) (by rw [List.length_set]; omega) (i := 1) (by decide) (u := .int .i64 (l[k].due + x)) (a := mvJ x l[k]) (by rw [(List.getElem?_eq_some_iff.1 hkb).2]; rfl)
      rw [List.set_set, upTo_set hlt] at hst2
      obtain ⟨W2, hW2⟩ : ∃ X, W1.setCell ⟨g, k * 4 + 1, none⟩ (.int .i64 (l[k].due + x)) = X := ⟨_, rfl⟩
      rw [hW2] at hst2
      have HB_W1 : Below w.heap.size w W1 := HB_wr.grown hst.2 HB_wr.size (fun j hj => by cases hj; exact hwg)
      have HBB1 := Lib.hid (HBB.out.grown hst.2 HBB.out.size (fun j hj => by cases hj; exact hg1))
      have HB_W2 : Below w.heap.size w W2 := HB_W1.grown hst2.2 HB_W1.size (fun j hj => by cases hj; exact hwg)
      have HBB2 := Lib.hid (HBB1.out.grown hst2.2 HBB1.out.size (fun j hj => by cases hj; exact hg1))
      have HO2 := Lib.hid hst2.1
      clear hst hst2 hka hkb hjp HO
      generalize l[k] = jb at *
      obtain ⟨y0, y1, y2, y3⟩ := jb
      dsimp only at g_0 g_1 hp0 hp1 hp2 hW1 hW2
      go_wp2_with fail
      all_goals try (exfalso; omega)
      go_roundw
      case rel => exact ⟨k + 1, hlt, by go_num, HB_W2, HBB2.out, HO2.out⟩
      case measure => simp [intOf] <;> omega
    · obtain rfl : k = l.length := by omega
      rw [upTo_all] at HO
      have HSM := Lib.hid (OwnL.slA cJ_len HO.out)
      have HPM := Lib.hid (planR_cs (l.map (mvJ x)) (f + x))
      have hml : (l.map (mvJ x)).length = l.length := by rw [List.length_map]
      clear hk hlt hwl HO
      go_wp2_with fail
      refine (Plan_k _ l.length cc (l.map (mvJ x)) (f + x) _ HSM.out).mono ?_
      rintro e we ⟨o3, n3, c3, rfl, hl, hb_we⟩
      have HB_we : Below w.heap.size w we := by first | exact after0 HB_wr hb_we | exact after1 HB_wr hb_we | exact after2 HB_wr hb_we | exact after3 HB_wr hb_we | exact after4 HB_wr hb_we | exact after5 HB_wr hb_we
      replace HSM := Lib.hid (HSM.out.below hb_we)
      rcases HPM.out with ⟨v2, s2, e2⟩ | ⟨v2, e2⟩ | ⟨v2, s2, e2⟩
      · rw [e2]
        rw [e2] at hl
        have HMV := Lib.hid (show planF (l.map (mvJ x)) (f + x) = (planF l f).map (mvS x) from plan_mv (by omega) (validJ_iff.1 v2).2)
        rw [HMV.out] at hl
        have hn3 : n3 = (planF l f).length := by have := hl.len; simpa using this.symm
        subst hn3
        have HQ := Lib.hid (show Sl we 3 cS o3 (planF l f).length c3 ((planF l f).map (mvS x)) from hl)
        replace HL1 := Lib.hid (HL1.out.below (HBB.out.trans (hb_we.mono HBB.out.size)))
        have HPS := Lib.hid (plan_slots (J := l) (f := f) HF.out.2)
        have hpl : (planF l f).length ≤ 400 := by have := planS_len l f (400 - f).toNat; unfold planF; omega
        clear hl e2 v2 s2 HMV HPM HSM hml
        dsimp only
        generalize planF l f = P at *
        have HO0 := Lib.hid (show OwnL (we.alloc (.cells #[] 46)) we.heap.size 46 3 cS (.slice (some ⟨we.heap.size, 0, none⟩) 0 0) [] from OwnL.made (Nat.le_refl _))
        go_wp2_with (at_builtin; refine wpList_append_sl rfl _ _ 23 rfl we.heap.size 46 i1 _ 3 24 Try.underlying23 HY.out HY0.out HY1.out HY2.out rfl (by decide) cS_len cS_one _ [] rfl HO0.out o1 P.length c1 P rfl (by first | exact HL1.out.below (grew1 HB_we) | exact HL1.out.below (grew1 (Below.refl _ _))) (by unfold maxLen; simp; omega) (by simp; omega) (by simp) ?_)
        rintro v_w3 w3 ho hg hgr
        have HO_w3 := Lib.hid ho
        have HB_w3 : Below w.heap.size w w3 := (grew1 HB_we).trans (hg _ HB_we.size)
        have hb_w3 := Lib.hid (show Below we.heap.size we w3 from (grew1 (Below.refl _ _)).trans (hg _ (Nat.le_refl _)))
        have hz_w3 : we.heap.size ≤ w3.heap.size := hb_w3.out.size
        clear ho hg hgr HO0
        obtain ⟨op, cp, rfl, -⟩ := OwnL.sl cS_len (show OwnL w3 we.heap.size 46 3 cS v_w3 P from HO_w3.out)
        replace HO_w3 := Lib.hid (show OwnL w3 we.heap.size 46 3 cS (.slice op P.length cp) (upTo (mvS x) P 0) by rw [upTo_zero]; exact HO_w3.out)
        have hwe := HB_we.size
        clear HL1 hb_we HB_wc HB_wb HB_wa hb_wc hb_wb hb_wa HBB HB_wr
        go_wp2_with fail
        go_loopw [16] (fun i wr => ∃ k : Nat, k ≤ P.length ∧ i = .int .i64 k ∧ Below w.heap.size w wr ∧ Hid (Below we.heap.size we wr) ∧ Hid (OwnL wr we.heap.size 46 3 cS (.slice op P.length cp) (upTo (mvS x) P k))) (fun i _ => P.length - (intOf i).toNat)
        case atStart => exact ⟨0, by omega, rfl, HB_w3, hb_w3, HO_w3⟩
        case round =>
          clear HO_w3 HB_w3 hb_w3 hz_w3
          obtain ⟨k, hk, rfl, HB_wr, HBB, HO⟩ := hrel
          have hwl := upTo_len (mvS x) P k
          by_cases hlt : k < P.length
          · obtain ⟨g, cg, hv, hg1, hg2⟩ := OwnL.form' HO.out (by omega)
            simp only [Value.slice.injEq] at hv
            obtain ⟨rfl, -, rfl⟩ := hv
            have hwg : w.heap.size ≤ g := Nat.le_trans hwe hg1
            have hka := upTo_at (g := mvS x) hlt
            have hps := HPS.out _ (List.getElem_mem hlt)
            have g_0 := HO.out.cellG cS_len hka (i := 0) rfl
            have g_f := HO.out.frozenG
            have hst := OwnL.setG cS_len HO.out (j := k) (by omega) (i := 0) (by decide) (u := .int .i64 (P[k].slot + x)) (a := mvS x P[k]) (by rw [(List.getElem?_eq_some_iff.1 hka).2]; rfl)
            rw [upTo_set hlt] at hst
            rw [Nat.add_zero] at g_0 hst
            obtain ⟨W1, hW1⟩ : ∃ X, wr.setCell ⟨g, k * 3, none⟩ (.int .i64 (P[k].slot + x)) = X := ⟨_, rfl⟩
            rw [hW1] at hst
            have HB_W1 : Below w.heap.size w W1 := HB_wr.grown hst.2 HB_wr.size (fun j hj => by cases hj; exact hwg)
            have HBB1 := Lib.hid (HBB.out.grown hst.2 HBB.out.size (fun j hj => by cases hj; exact hg1))
            have HO1 := Lib.hid hst.1
            clear hst hka HO
            generalize P[k] = s at *
            obtain ⟨y0, y1, y2⟩ := s
            dsimp only at g_0 hps hW1
            go_wp2_with fail
            all_goals try (exfalso; omega)
            go_roundw
            case rel => exact ⟨k + 1, hlt, by go_num, HB_W1, HBB1, HO1⟩
            case measure => simp [intOf] <;> omega
          · obtain rfl : k = P.length := by omega
            rw [upTo_all] at HO
            have HSA := Lib.hid (OwnL.slA cS_len HO.out)
            have HSB := Lib.hid (HQ.out.below HBB.out)
            clear HO hk hlt hwl HQ
            go_wp2_with fail
            refine (h_same _ HSB.out HSA.out).mono ?_
            rintro e wg ⟨rfl, hb_wg⟩
            have HB_wg : Below w.heap.size w wg := by first | exact after0 HB_wr hb_wg | exact after1 HB_wr hb_wg | exact after2 HB_wr hb_wg | exact after3 HB_wr hb_wg | exact after4 HB_wr hb_wg | exact after5 HB_wr hb_wg
            go_wp2_with fail
            all_goals try (exfalso; omega)
            go_ret
            exact ⟨rfl, HB_wg⟩
      · rw [e2]
        clear hl
        by_cases hbig : 400 ≤ f + x
        ·
          go_wp2_with fail
          all_goals try (exfalso; omega)
          go_ret
          exact ⟨rfl, HB_we⟩
        · replace hbig := Int.not_le.1 hbig
          have HVA := Lib.hid (Valid_any _ l.length cc (l.map (mvJ x)) we HSM.out)
          rw [v2] at HVA
          go_wp2_with fail
          all_goals try (exfalso; omega)
          refine (HVA.out).mono ?_
          rintro e wf ⟨rfl, hb_wf⟩
          have HB_wf : Below w.heap.size w wf := by first | exact after0 HB_we hb_wf | exact after1 HB_we hb_wf | exact after2 HB_we hb_wf | exact after3 HB_we hb_wf | exact after4 HB_we hb_wf | exact after5 HB_we hb_wf
          go_wp2_with fail
          all_goals try (exfalso; omega)
          go_ret
          exact ⟨rfl, HB_wf⟩
      · rw [e2]
        clear hl
        have hbig : 400 ≤ f + x := by
          have h1 : ¬ (0 ≤ f + x ∧ f + x < 400) := fun h => by rw [slotB_iff.2 h] at s2; cases s2
          omega
        go_wp2_with fail
        all_goals try (exfalso; omega)
        go_ret
        exact ⟨rfl, HB_we⟩
end Go.Proofs.Ytheioedggjbphaa
