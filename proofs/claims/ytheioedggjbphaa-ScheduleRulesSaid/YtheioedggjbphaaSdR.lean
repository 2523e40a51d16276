/-
  The law ScheduleRules.
-/
import Derived.Test.YtheioedggjbphaaSdL
import Derived.Test.YtheioedggjbphaaSdQ
set_option linter.unusedVariables false
namespace Sc
/-- what is left, as far as it is known, at the loop's start -/
def leftI (J : List Jb) (k : Nat) : List Int := (J.take k).map Jb.pieces ++ List.replicate (J.length - k) 0
theorem leftI_len {J : List Jb} {k : Nat} (h : k ≤ J.length) : (leftI J k).length = J.length := by
  unfold leftI
  simp only [List.length_append, List.length_map, List.length_take, List.length_replicate]
  omega
theorem leftI_set {J : List Jb} {k : Nat} (h : k < J.length) : (leftI J k).set k J[k].pieces = leftI J (k + 1) := by
  unfold leftI
  have hl : ((J.take k).map Jb.pieces).length = k := by rw [List.length_map, List.length_take_of_le (Nat.le_of_lt h)]
  rw [List.set_append_right _ _ (by omega), hl, Nat.sub_self, show J.length - k = (J.length - (k + 1)) + 1 by omega, List.replicate_succ, List.set_cons_zero, List.take_add_one, List.getElem?_eq_getElem h, Option.toList_some, List.map_append, List.append_assoc]
  rfl
theorem leftI_all (J : List Jb) (f : Int) : leftI J J.length = leftL J f 0 := by
  rw [left_zero]
  unfold leftI
  simp
theorem leftI_get {J : List Jb} {k : Nat} (h : k < J.length) : (leftI J k)[k]? = some 0 := by
  unfold leftI
  have hl : ((J.take k).map Jb.pieces).length = k := by rw [List.length_map, List.length_take_of_le (Nat.le_of_lt h)]
  rw [List.getElem?_append_right (by omega), hl, Nat.sub_self, List.getElem?_replicate, if_pos (by omega)]
theorem leftI_zero (J : List Jb) : leftI J 0 = List.replicate J.length 0 := by unfold leftI; simp
end Sc
namespace Go.Proofs.Ytheioedggjbphaa
open Go Go.RowKit Sc Sk Go.Sort
theorem flat_repl2 : ∀ n : Nat, (List.replicate n 0).flatMap cI = List.replicate n (Value.int .i64 0)
  | 0 => rfl
  | n + 1 => by rw [List.replicate_succ, List.flatMap_cons, flat_repl2 n]; rfl
set_option maxRecDepth 100000 in
set_option maxHeartbeats 16000000 in
theorem rules_walk (hso : SortOk) (ao : Option Addr) (n cap : Nat) (l : List Jb) (f : Int) (w : World) (hs : Sl w 4 cJ ao n cap l) :
    Calls Try.prog 4 #[.slice ao n cap, .int .i64 f] w (Ret w (.bool true)) := by
  obtain rfl := hs.len
  have hle := hs.le
  have hcap := hs.max
  have HCAP := Lib.hid hcap
  have hcap2 := hcap
  unfold maxLen at hcap2
  have HS := Lib.hid hs
  have HSO := Lib.hid hso
  clear hs hso hcap
  have HP1 := Lib.hid (planR_cases l f)
  have HB_w : Below w.heap.size w w := Below.refl _ _
  obtain ⟨i0, hi, hz0, hz1, hz2⟩ := info_parts info_int
  have HI := Lib.hid hi
  have HZ0 := Lib.hid hz0
  have HZ1 := Lib.hid hz1
  have HZ2 := Lib.hid hz2
  clear hi hz0 hz1 hz2
  go_enter Try.func4, Try.ntmps4
  go_wp2_with fail
  refine (head_any HSO.out _).mono ?_
  rintro e wa ⟨rfl, hb_wa⟩
  have HB_wa : Below w.heap.size w wa := by first | exact after0 HB_w hb_wa | exact after1 HB_w hb_wa | exact after2 HB_w hb_wa | exact after3 HB_w hb_wa | exact after4 HB_w hb_wa | exact after5 HB_w hb_wa
  go_wp2_with fail
  refine (rfew_any ao l.length cap _ hle HCAP.out).mono ?_
  rintro e wb ⟨rfl, hb_wb⟩
  have HB_wb : Below w.heap.size w wb := by first | exact after0 HB_wa hb_wb | exact after1 HB_wa hb_wb | exact after2 HB_wa hb_wb | exact after3 HB_wa hb_wb | exact after4 HB_wa hb_wb | exact after5 HB_wa hb_wb
  by_cases h12 : l.length ≤ 12
  case neg =>
    rw [decide_eq_false h12]
    go_wp2_with fail
    all_goals try (exfalso; omega)
    go_ret
    exact ⟨rfl, HB_wb⟩
  rw [decide_eq_true h12]
  go_wp2_with fail
  all_goals try (exfalso; omega)
  refine (Plan_k ao l.length cap l f _ (HS.out.below HB_wb)).mono ?_
  rintro e wc ⟨o1, n1, c1, rfl, hl, hb_wc⟩
  have HB_wc : Below w.heap.size w wc := by first | exact after0 HB_wb hb_wc | exact after1 HB_wb hb_wc | exact after2 HB_wb hb_wc | exact after3 HB_wb hb_wc | exact after4 HB_wb hb_wc | exact after5 HB_wb hb_wc
  obtain rfl := hl.len
  have HL1 := Lib.hid hl
  clear hl
  rcases HP1.out with ⟨v1, s1, e1⟩ | ⟨_, e1⟩
  case inr =>
    rw [e1]
    go_wp2_with fail
    all_goals try (exfalso; omega)
    go_ret
    exact ⟨rfl, HB_wc⟩
  rw [e1]
  rw [e1] at HL1
  have HV := Lib.hid v1
  have HF := Lib.hid (slotB_iff.1 s1)
  obtain ⟨hf0, hf4⟩ := slotB_iff.1 s1
  clear e1 s1 v1 HP1
  have hCK : checkR l (planF l f) = (true, 0) := by rw [checkR_ok HV.out (plan_names hf0), plan_check]
  have HCK := Lib.hid (Check_any ao l.length cap l o1 _ c1 (planF l f) wc (HS.out.below HB_wc) HL1.out)
  rw [hCK] at HCK
  clear hCK
  have hpl : (planF l f).length ≤ 400 := by have := planS_len l f (400 - f).toNat; unfold planF; omega
  have HC1 := HL1.out.max
  have HC2 := HL1.out.le
  unfold maxLen at HC1
  go_wp2_with fail
  refine (HCK.out).mono ?_
  rintro e wd ⟨rfl, hb_wd⟩
  have HB_wd : Below w.heap.size w wd := by first | exact after0 HB_wc hb_wd | exact after1 HB_wc hb_wd | exact after2 HB_wc hb_wd | exact after3 HB_wc hb_wd | exact after4 HB_wc hb_wd | exact after5 HB_wc hb_wd
  replace HL1 := Lib.hid (HL1.out.below hb_wd)
  replace HS := Lib.hid (HS.out.below HB_wd)
  clear hb_wd HCK HB_wc HB_wb HB_wa
  have hwD : w.heap.size ≤ wd.heap.size := HB_wd.size
  go_wp2_with (refine wpList_make_full _ rfl _ _ 30 rfl wd.heap.size 3 i0 (.int .i64 0) 1 Try.underlying30 HI.out HZ0.out HZ1.out .i64 .i64 _ _ l.length rfl rfl rfl rfl (by rw [HZ2.out]; omega) (by unfold maxLen; omega) (Nat.le_refl _) ?_; intro W1 ho1 hg1)
  have hB1 := below_grown (OwnL.nil (w := wd) (base := wd.heap.size) (e := 3) (size := 1) (enc := cI)) (Nat.le_refl _) (Nat.le_refl _) hg1
  have HO1 := Lib.hid (show OwnL W1 wd.heap.size 3 1 cI (.slice (some ⟨wd.heap.size, 0, none⟩) l.length l.length) (leftI l 0) by
    rw [leftI_zero]
    unfold OwnL
    rw [flat_repl2, List.length_replicate]
    rw [show (Value.int .i64 0).cells = #[Value.int .i64 0] from rfl, made_one, Nat.mul_one] at ho1
    exact ho1)
  clear ho1 hg1
  have HB_W1 : Below w.heap.size w W1 := HB_wd.trans (hB1.mono hwD)
  have HBD_W1 := Lib.hid hB1
  clear hB1
  go_loopw [11] (fun i wr => ∃ k : Nat, k ≤ l.length ∧ i = .int .i64 k ∧ Below w.heap.size w wr ∧ Hid (Below wd.heap.size wd wr) ∧ Hid (OwnL wr wd.heap.size 3 1 cI (.slice (some ⟨wd.heap.size, 0, none⟩) l.length l.length) (leftI l k))) (fun i _ => l.length - (intOf i).toNat)
  case atStart => exact ⟨0, by omega, rfl, HB_W1, HBD_W1, HO1⟩
  case round =>
    clear HO1 HB_W1 HBD_W1
    obtain ⟨k, hk, rfl, HB_wr, HBB, HO⟩ := hrel
    by_cases hlt : k < l.length
    · obtain ⟨b, off, rfl, hbb, hrow⟩ := (HS.out.below HBB.out).get hlt
      obtain ⟨e_0, e_1, e_2, e_3⟩ := (hrow k hlt).c4
      have hln := leftI_len hk
      have g_0 := HO.out.cellG cI_len (leftI_get hlt) (i := 0) rfl
      have g_f := HO.out.frozenG
      have hst := OwnL.setG cI_len HO.out (j := k) (by omega) (i := 0) (by decide) (u := .int .i64 l[k].pieces) (a := l[k].pieces) rfl
      rw [leftI_set hlt] at hst
      rw [Nat.add_zero, Nat.mul_one] at g_0 hst
      obtain ⟨W2, hW2⟩ : ∃ X, wr.setCell ⟨wd.heap.size, k, none⟩ (.int .i64 l[k].pieces) = X := ⟨_, rfl⟩
      rw [hW2] at hst
      have HB_W2 : Below w.heap.size w W2 := HB_wr.grown hst.2 HB_wr.size (fun j hj => by cases hj; exact hwD)
      have HBB2 := Lib.hid (HBB.out.grown hst.2 HBB.out.size (fun j hj => by cases hj; exact Nat.le_refl _))
      have HO2 := Lib.hid hst.1
      clear hst hrow HO
      generalize l[k] = jb at *
      obtain ⟨y0, y1, y2, y3⟩ := jb
      dsimp only at e_0 e_1 e_2 e_3 hW2
      go_wp2_with fail
      all_goals try (exfalso; omega)
      go_roundw
      case rel => exact ⟨k + 1, hlt, by go_num, HB_W2, HBB2, HO2⟩
      case measure => simp [intOf] <;> omega
    · obtain rfl : k = l.length := by omega
      rw [leftI_all l f] at HO
      clear hlt hk
      go_wp2_with fail
      go_loopw [5, 12, 13] (fun up kk t wr => ∃ m : Nat, f + m ≤ 400 ∧ up = .bool true ∧ kk = .int .i64 ((planS l f m).2.length : Nat) ∧ t = .int .i64 (f + m) ∧ Below w.heap.size w wr ∧ Hid (Below wd.heap.size wd wr) ∧ Hid (OwnL wr wd.heap.size 3 1 cI (.slice (some ⟨wd.heap.size, 0, none⟩) l.length l.length) (leftL l f m))) (fun _ _ t _ => (400 - intOf t).toNat)
      case atStart => exact ⟨0, by omega, rfl, rfl, by go_num, HB_wr, HBB, HO⟩
      case round =>
        clear HO HBB HB_wr
        obtain ⟨m, hm, rfl, rfl, rfl, HB_wr, HBB, HO⟩ := hrel
        have hol := planS_len l f m
        by_cases hlt : f + (m : Int) < 400
        case neg =>
          have hpf : (planS l f m).2 = planF l f := by unfold planF; rw [show (400 - f).toNat = m by omega]
          rw [hpf]
          clear hpf hol HO
          generalize (planF l f).length = pl at *
          go_wp2_with fail
          all_goals try (exfalso; omega)
          go_ret
          exact ⟨rfl, HB_wr⟩
        have hmK : m < KK f := by unfold KK; omega
        have ht0 : 0 ≤ f + (m : Int) := by omega
        cases has : asg l f m with
        | some b =>
          have hr := rule_some hmK has
          obtain ⟨hb1, hb2, hb3, hb4⟩ := asg_some has
          have hlv := job_facts (validJ_iff.1 HV.out).2 hb1
          have hl32 : (jat l b).pieces ≤ 32 := by rw [jat_get hb1]; exact (jobB_iff.1 ((validJ_iff.1 HV.out).2 _ (List.getElem_mem hb1))).2.2.2.2.1
          have HNX := Lib.hid (left_yes has)
          have HOY := Lib.hid (show (planS l f (m + 1)).2.length = (planS l f m).2.length + 1 by rw [out_yes has]; simp)
          have hlg := left_get (f := f) (m := m) hb1
          obtain ⟨hkl, hke⟩ := List.getElem?_eq_some_iff.1 hr
          obtain ⟨bp, offp, rfl, hbp, hrow⟩ := (HL1.out.below HBB.out).get hkl
          obtain ⟨p_0, p_1, p_2⟩ := (hrow _ hkl).c3
          rw [hke] at p_0 p_1 p_2
          dsimp only at p_0 p_1 p_2
          have hlen := left_len l f m
          have hlv1 : 1 ≤ (jat l b).pieces - (cntS l f m b : Int) ∧ (jat l b).pieces - (cntS l f m b : Int) ≤ 32 := by omega
          generalize (jat l b).pieces - (cntS l f m b : Int) = lv at *
          have g_0 := HO.out.cellG cI_len hlg (i := 0) rfl
          have g_f := HO.out.frozenG
          have hst := OwnL.setG cI_len HO.out (j := b) (by omega) (i := 0) (by decide) (u := .int .i64 (lv - 1)) (a := lv - 1) rfl
          rw [← HNX.out] at hst
          rw [Nat.add_zero, Nat.mul_one] at g_0 hst
          obtain ⟨W2, hW2⟩ : ∃ X, wr.setCell ⟨wd.heap.size, b, none⟩ (.int .i64 (lv - 1)) = X := ⟨_, rfl⟩
          rw [hW2] at hst
          have HB_W2 : Below w.heap.size w W2 := HB_wr.grown hst.2 HB_wr.size (fun j hj => by cases hj; exact hwD)
          have HBB2 := Lib.hid (HBB.out.grown hst.2 HBB.out.size (fun j hj => by cases hj; exact Nat.le_refl _))
          have HO2 := Lib.hid hst.1
          obtain ⟨hlv1, hlv2⟩ := hlv1
          have HM := Lib.hid hm
          have HLT := Lib.hid hlt
          have hbi : (b : Int) < (l.length : Int) := by omega
          have hki : ((planS l f m).2.length : Int) < ((planF l f).length : Int) := by omega
          clear hst hrow HO has hr hke hlg HNX hlv hl32 hb2 hb3 hb4 hkl
          generalize (planS l f m).2.length = kl at *
          generalize (planF l f).length = pl at *
          generalize hT : f + (m : Int) = t at *
          have HT := Lib.hid hT
          clear hT
          go_wp2_with fail
          all_goals try (exfalso; omega)
          go_roundw
          case rel => exact ⟨m + 1, by have := HT.out; omega, rfl, by (rw [HOY.out]; go_num), by have := HT.out; go_num, HB_W2, HBB2, HO2⟩
          case measure => have := HT.out; simp [intOf] <;> omega
        | none =>
          have HNX := Lib.hid (left_no has)
          have HOY := Lib.hid (show (planS l f (m + 1)).2.length = (planS l f m).2.length by rw [out_no has])
          have HID := Lib.hid (fun i hi => @rule_idle l f m has i hi)
          have HRN := Lib.hid (fun s hs => @rule_none l f m hmK has s hs)
          by_cases hkl : (planS l f m).2.length < (planF l f).length
          · obtain ⟨bp, offp, rfl, hbp, hrow⟩ := (HL1.out.below HBB.out).get hkl
            obtain ⟨p_0, p_1, p_2⟩ := (hrow _ hkl).c3
            have hne := HRN.out _ (List.getElem?_eq_getElem hkl)
            have hki : ((planS l f m).2.length : Int) < ((planF l f).length : Int) := by omega
            clear hrow p_1 p_2 HRN has
            generalize (planF l f)[(planS l f m).2.length].slot = ps at *
            clear hkl
            generalize (planS l f m).2.length = kl at *
            generalize (planF l f).length = pl at *
            generalize hT : f + (m : Int) = t at *
            have HT := Lib.hid hT
            have hq : (ps == t) = false := beq_eq_false_iff_ne.2 hne
            clear hT hne
            obtain ⟨V, rfl⟩ : ∃ V, V = wr := ⟨_, rfl⟩
            go_wp2_with fail
            all_goals try (exfalso; omega)
            go_loopw [5, 14] (fun up i wr => ∃ i' : Nat, i' ≤ l.length ∧ i = .int .i64 i' ∧ up = .bool true ∧ Below w.heap.size w wr ∧ Hid (Below V.heap.size V wr)) (fun _ i _ => l.length - (intOf i).toNat)
            case atStart => exact ⟨0, Nat.zero_le _, rfl, rfl, HB_wr, Below.refl _ _⟩
            case round =>
              clear HB_wr
              obtain ⟨i, hi, rfl, rfl, HB_wr, HBV⟩ := hrel
              by_cases hil : i < l.length
              · obtain ⟨bb, off, rfl, hbb, hrow⟩ := (HS.out.below (HBB.out.trans (HBV.out.mono HBB.out.size))).get hil
                obtain ⟨e_0, e_1, e_2, e_3⟩ := (hrow i hil).c4
                have g_0 := (HO.out.below HBV.out).cellG cI_len (left_get (f := f) (m := m) hil) (i := 0) rfl
                rw [Nat.add_zero, Nat.mul_one] at g_0
                have hid := HID.out i hil
                rw [jat_get hil] at hid g_0
                generalize l[i].pieces - (cntS l f m i : Int) = lv at *
                clear hrow
                generalize l[i] = x at *
                obtain ⟨x0, x1, x2, x3⟩ := x
                dsimp only at e_0 e_1 e_2 e_3 hid
                have hii : (i : Int) < (l.length : Int) := by omega
                by_cases c1 : t < x0
                · clear hid
                  go_wp2_with fail
                  all_goals try (exfalso; omega)
                  go_roundw
                  case rel => exact ⟨i + 1, hil, by go_num, rfl, HB_wr, HBV⟩
                  case measure => simp [intOf] <;> omega
                · replace c1 := Int.not_lt.1 c1
                  by_cases c2 : x1 < t
                  · clear hid
                    go_wp2_with fail
                    all_goals try (exfalso; omega)
                    go_roundw
                    case rel => exact ⟨i + 1, hil, by go_num, rfl, HB_wr, HBV⟩
                    case measure => simp [intOf] <;> omega
                  · replace c2 := Int.not_lt.1 c2
                    have c3 : lv ≤ 0 := by omega
                    clear hid
                    go_wp2_with fail
                    all_goals try (exfalso; omega)
                    go_roundw
                    case rel => exact ⟨i + 1, hil, by go_num, rfl, HB_wr, HBV⟩
                    case measure => simp [intOf] <;> omega
              · obtain rfl : i = l.length := by omega
                have HB3 := Lib.hid (HBB.out.trans (HBV.out.mono HBB.out.size))
                have HO3 := Lib.hid (HO.out.below HBV.out)
                clear HBV HO HBB HID
                go_wp2_with fail
                all_goals try (exfalso; omega)
                go_roundw
                case rel => exact ⟨m + 1, by have := HT.out; omega, rfl, by rw [HOY.out], by have := HT.out; go_num, HB_wr, HB3, by rw [HNX.out]; exact HO3.out⟩
                case measure => have := HT.out; simp [intOf] <;> omega
          · have hki : ((planF l f).length : Int) ≤ ((planS l f m).2.length : Int) := by omega
            clear HRN has hkl
            generalize (planS l f m).2.length = kl at *
            generalize (planF l f).length = pl at *
            generalize hT : f + (m : Int) = t at *
            have HT := Lib.hid hT
            clear hT
            obtain ⟨V, rfl⟩ : ∃ V, V = wr := ⟨_, rfl⟩
            go_wp2_with fail
            all_goals try (exfalso; omega)
            go_loopw [5, 14] (fun up i wr => ∃ i' : Nat, i' ≤ l.length ∧ i = .int .i64 i' ∧ up = .bool true ∧ Below w.heap.size w wr ∧ Hid (Below V.heap.size V wr)) (fun _ i _ => l.length - (intOf i).toNat)
            case atStart => exact ⟨0, Nat.zero_le _, rfl, rfl, HB_wr, Below.refl _ _⟩
            case round =>
              clear HB_wr
              obtain ⟨i, hi, rfl, rfl, HB_wr, HBV⟩ := hrel
              by_cases hil : i < l.length
              · obtain ⟨bb, off, rfl, hbb, hrow⟩ := (HS.out.below (HBB.out.trans (HBV.out.mono HBB.out.size))).get hil
                obtain ⟨e_0, e_1, e_2, e_3⟩ := (hrow i hil).c4
                have g_0 := (HO.out.below HBV.out).cellG cI_len (left_get (f := f) (m := m) hil) (i := 0) rfl
                rw [Nat.add_zero, Nat.mul_one] at g_0
                have hid := HID.out i hil
                rw [jat_get hil] at hid g_0
                generalize l[i].pieces - (cntS l f m i : Int) = lv at *
                clear hrow
                generalize l[i] = x at *
                obtain ⟨x0, x1, x2, x3⟩ := x
                dsimp only at e_0 e_1 e_2 e_3 hid
                have hii : (i : Int) < (l.length : Int) := by omega
                by_cases c1 : t < x0
                · clear hid
                  go_wp2_with fail
                  all_goals try (exfalso; omega)
                  go_roundw
                  case rel => exact ⟨i + 1, hil, by go_num, rfl, HB_wr, HBV⟩
                  case measure => simp [intOf] <;> omega
                · replace c1 := Int.not_lt.1 c1
                  by_cases c2 : x1 < t
                  · clear hid
                    go_wp2_with fail
                    all_goals try (exfalso; omega)
                    go_roundw
                    case rel => exact ⟨i + 1, hil, by go_num, rfl, HB_wr, HBV⟩
                    case measure => simp [intOf] <;> omega
                  · replace c2 := Int.not_lt.1 c2
                    have c3 : lv ≤ 0 := by omega
                    clear hid
                    go_wp2_with fail
                    all_goals try (exfalso; omega)
                    go_roundw
                    case rel => exact ⟨i + 1, hil, by go_num, rfl, HB_wr, HBV⟩
                    case measure => simp [intOf] <;> omega
              · obtain rfl : i = l.length := by omega
                have HB3 := Lib.hid (HBB.out.trans (HBV.out.mono HBB.out.size))
                have HO3 := Lib.hid (HO.out.below HBV.out)
                clear HBV HO HBB HID
                go_wp2_with fail
                all_goals try (exfalso; omega)
                go_roundw
                case rel => exact ⟨m + 1, by have := HT.out; omega, rfl, by rw [HOY.out], by have := HT.out; go_num, HB_wr, HB3, by rw [HNX.out]; exact HO3.out⟩
                case measure => have := HT.out; simp [intOf] <;> omega
end Go.Proofs.Ytheioedggjbphaa
