/-
  The law ScheduleProof.
-/
import Derived.Test.YtheioedggjbphaaSdL
import Derived.Test.YtheioedggjbphaaSdU
set_option linter.unusedVariables false
namespace Sc
/-- what Core tells of a plan -/
theorem core_late {J : List Jb} {f lo hi er : Int} (h1 : validJ J = true) (h2 : slotB f = true) (h : CoreSp J f lo hi er) :
    er = 6 ∨ (er = 0 ∧ lateF J (planF J f) ≠ [] ∧ f ≤ lo ∧ lo ≤ hi ∧ hi < 400 ∧ over J f lo hi) ∨ (er = 4 ∧ lateF J (planF J f) = [] ∧ ∀ a b, f ≤ a → a ≤ b → b < 400 → ¬ over J f a b) := by
  unfold CoreSp at h
  rw [if_pos ⟨h1, h2⟩] at h
  have hv := (validJ_iff.1 h1).2
  have h0 := (slotB_iff.1 h2).1
  by_cases hd : ∃ j ∈ J, j.due < f
  · rw [if_pos hd] at h; exact .inl h.2.2
  · rw [if_neg hd] at h
    have hp := proof_law hv h0 (fun i hi => by
      by_cases e : f ≤ (jat J i).due
      · exact e
      · exact absurd ⟨jat J i, by rw [jat_get hi]; exact List.getElem_mem hi, by omega⟩ hd)
    rcases h with ⟨c1, c2, c3, c4, c5, c6⟩ | ⟨c1, c2, c3, c4⟩
    · exact .inr (.inl ⟨c1, hp.2 ⟨lo, hi, c2, c3, c4, c5⟩, c2, c3, c4, c5⟩)
    · refine .inr (.inr ⟨c1, ?_, c4⟩)
      by_cases e : lateF J (planF J f) = []
      · exact e
      · obtain ⟨a, b, d1, d2, d3, d4⟩ := hp.1 e
        exact absurd d4 (c4 a b d1 d2 d3)
theorem core_bad {J : List Jb} {f lo hi er : Int} (h1 : validJ J = false ∨ slotB f = false) (h : CoreSp J f lo hi er) : er = 1 := by
  unfold CoreSp at h
  rw [if_neg (by rintro ⟨a, b⟩; rcases h1 with h1 | h1 <;> simp_all)] at h
  exact h.2.2
end Sc
namespace Go.Proofs.Ytheioedggjbphaa
open Go Go.RowKit Sc Sk Go.Sort
set_option maxRecDepth 100000 in
set_option maxHeartbeats 16000000 in
theorem proof_walk (hso : SortOk) (ao : Option Addr) (n cap : Nat) (l : List Jb) (f a b : Int) (w : World) (hs : Sl w 4 cJ ao n cap l) :
    Calls Try.prog 6 #[.slice ao n cap, .int .i64 f, .int .i64 a, .int .i64 b] w (Ret w (.bool true)) := by
  obtain rfl := hs.len
  have hle := hs.le
  have hcap := hs.max
  have HCAP := Lib.hid hcap
  have hcap2 := hcap
  unfold maxLen at hcap2
  have HS := Lib.hid hs
  have HSO := Lib.hid hso
  clear hs hso hcap
  have HP1 := Lib.hid (planR_cases l f)
  have HB_w : Below w.heap.size w w := Below.refl _ _
  go_enter Try.func6, Try.ntmps6
  go_wp2_with fail
  refine (head_any HSO.out _).mono ?_
  rintro e wa ⟨rfl, hb_wa⟩
  have HB_wa : Below w.heap.size w wa := by first | exact after0 HB_w hb_wa | exact after1 HB_w hb_wa | exact after2 HB_w hb_wa | exact after3 HB_w hb_wa | exact after4 HB_w hb_wa | exact after5 HB_w hb_wa
  go_wp2_with fail
  refine (rfew_any ao l.length cap _ hle HCAP.out).mono ?_
  rintro e wb ⟨rfl, hb_wb⟩
  have HB_wb : Below w.heap.size w wb := by first | exact after0 HB_wa hb_wb | exact after1 HB_wa hb_wb | exact after2 HB_wa hb_wb | exact after3 HB_wa hb_wb | exact after4 HB_wa hb_wb | exact after5 HB_wa hb_wb
  by_cases h12 : l.length ≤ 12
  case neg =>
    rw [decide_eq_false h12]
    go_wp2_with fail
    all_goals try (exfalso; omega)
    go_ret
    exact ⟨rfl, HB_wb⟩
  rw [decide_eq_true h12]
  go_wp2_with fail
  all_goals try (exfalso; omega)
  refine (Plan_k ao l.length cap l f _ (HS.out.below HB_wb)).mono ?_
  rintro e wc ⟨o1, n1, c1, rfl, hl, hb_wc⟩
  have HB_wc : Below w.heap.size w wc := by first | exact after0 HB_wb hb_wc | exact after1 HB_wb hb_wc | exact after2 HB_wb hb_wc | exact after3 HB_wb hb_wc | exact after4 HB_wb hb_wc | exact after5 HB_wb hb_wc
  have HL1 := Lib.hid hl
  clear hl
  go_wp2_with fail
  refine (Core_any ao l.length cap l f _ (HS.out.below HB_wc)).mono ?_
  rintro e wd ⟨lo, hi, er, rfl, hcs, hb_wd⟩
  have HB_wd : Below w.heap.size w wd := by first | exact after0 HB_wc hb_wd | exact after1 HB_wc hb_wd | exact after2 HB_wc hb_wd | exact after3 HB_wc hb_wd | exact after4 HB_wc hb_wd | exact after5 HB_wc hb_wd
  replace HL1 := Lib.hid (show Sl wd _ _ _ _ _ _ by first | exact HL1.out.below hb_wd | exact (HL1.out.below (grew1 (Below.refl _ _))).below hb_wd | exact (HL1.out.below (grew2 (Below.refl _ _))).below hb_wd | exact (HL1.out.below (grew3 (Below.refl _ _))).below hb_wd)
  obtain ⟨We, hWe, hb_We, hZe, hbc⟩ := boxes1 wd [.int .i64 lo, .int .i64 hi] 37
  have HB_We := after0 HB_wd hb_We
  have H_c := Lib.hid hbc
  replace HL1 := Lib.hid (HL1.out.below hb_We)
  have HCS := Lib.hid hcs
  obtain ⟨C, hC⟩ : ∃ C, wd.heap.size = C := ⟨_, rfl⟩
  rw [hC] at H_c
  clear hbc hZe hb_We hcs
  rcases HP1.out with ⟨v1, s1, e1⟩ | ⟨hbad, e1⟩
  case inr =>
    rw [e1]
    obtain rfl := core_bad hbad HCS.out
    clear HCS hbad
    go_wp2_with fail
    all_goals try (exfalso; omega)
    go_ret
    exact ⟨rfl, HB_We⟩
  rw [e1]
  rw [e1] at HL1
  have HV := Lib.hid v1
  have h0 := (slotB_iff.1 s1).1
  have HN1 := Lib.hid (plan_names (J := l) h0)
  have HCL := Lib.hid (core_late v1 s1 HCS.out)
  clear e1 s1 v1 HP1 HCS
  rcases HCL.out with rfl | ⟨rfl, hne, c1, c2, c3, c4⟩ | ⟨rfl, hnil, c4⟩
  · clear HCL
    go_wp2_with fail
    all_goals try (exfalso; omega)
    go_ret
    exact ⟨rfl, HB_We⟩
  · have HNE := Lib.hid hne
    have HOV := Lib.hid c4
    clear HCL hne c4
    go_wp2_with fail
    all_goals try (exfalso; omega)
    clear hWe
    refine (Late_k _ (HS.out.below HB_We) HL1.out HV.out HN1.out).mono ?_
    rintro e we ⟨o3, n3, c3, rfl, hl, hb_we⟩
    have HB_we : Below w.heap.size w we := by first | exact after0 HB_We hb_we | exact after1 HB_We hb_we | exact after2 HB_We hb_we | exact after3 HB_We hb_we | exact after4 HB_We hb_we | exact after5 HB_We hb_we
    try clear q_c_0 q_c_1
    have H_c := Lib.hid (Box.below (by first | exact H_c.out | exact H_c.out.alloc _ | exact (H_c.out.alloc _).alloc _ | exact ((H_c.out.alloc _).alloc _).alloc _) hb_we)
    obtain ⟨q_c_0, q_c_1⟩ := H_c.out.c2
    obtain rfl := hl.len
    clear hl HL1
    have hla : 0 < ((lateF l (planF l f)).length : Int) := by have := List.length_pos_iff.2 HNE.out; omega
    generalize (lateF l (planF l f)).length = la at *
    go_wp2_with fail
    all_goals try (exfalso; omega)
    go_loopw [16, 17] (fun s i wr => ∃ k : Nat, k ≤ l.length ∧ i = .int .i64 k ∧ s = .int .i64 (loadP f lo hi (l.take k)) ∧ Below w.heap.size w wr) (fun _ i _ => l.length - (intOf i).toNat)
    case atStart => exact ⟨0, by omega, rfl, rfl, HB_we⟩
    case round =>
      obtain ⟨k, hk, rfl, rfl, HB_wr⟩ := hrel
      have hlb := load_bound (f := f) (a := lo) (b := hi) (l := l.take k) (fun j hj => (validJ_iff.1 HV.out).2 j (List.mem_of_mem_take hj))
      have hlk : (l.take k).length ≤ 12 := by rw [List.length_take]; omega
      by_cases hlt : k < l.length
      · obtain ⟨bb, off, rfl, hbb, hrow⟩ := (HS.out.below HB_wr).get hlt
        obtain ⟨e_0, e_1, e_2, e_3⟩ := (hrow k hlt).c4
        have HYES := Lib.hid (fun m hm h1 h2 => @load_yes f lo hi l k hlt m hm h1 h2)
        have HNO := Lib.hid (fun m hm h1 => @load_no f lo hi l k hlt m hm h1)
        have hjp := jobB_iff.1 ((validJ_iff.1 HV.out).2 _ (List.getElem_mem hlt))
        have hp1 := hjp.2.2.2.1
        have hp2 := hjp.2.2.2.2.1
        clear hrow hjp
        generalize l[k] = x at *
        generalize loadP f lo hi (l.take k) = ld at *
        rcases Int.lt_or_le x.ready f with hmx | hmx
        ·
          have hm : max x.ready f = f := by omega
          by_cases ha : lo ≤ f
          · by_cases hb : x.due ≤ hi
            · have HN := Lib.hid (HYES.out _ hm ha hb)
              obtain ⟨x0, x1, x2, x3⟩ := x
              dsimp only at *
              clear HYES HNO hm
              go_wp2_with fail
              all_goals try (exfalso; omega)
              go_roundw
              case rel => exact ⟨k + 1, by omega, by go_num, by rw [HN.out], HB_wr⟩
              case measure => simp [intOf] <;> omega
            · have HN := Lib.hid (HNO.out _ hm (fun h => hb h.2))
              obtain ⟨x0, x1, x2, x3⟩ := x
              dsimp only at *
              replace hb := Int.not_le.1 hb
              clear HYES HNO hm
              go_wp2_with fail
              all_goals try (exfalso; omega)
              go_roundw
              case rel => exact ⟨k + 1, by omega, by go_num, by rw [HN.out], HB_wr⟩
              case measure => simp [intOf] <;> omega
          · have HN := Lib.hid (HNO.out _ hm (fun h => ha h.1))
            obtain ⟨x0, x1, x2, x3⟩ := x
            dsimp only at *
            replace ha := Int.not_le.1 ha
            clear HYES HNO hm
            go_wp2_with fail
            all_goals try (exfalso; omega)
            go_roundw
            case rel => exact ⟨k + 1, by omega, by go_num, by rw [HN.out], HB_wr⟩
            case measure => simp [intOf] <;> omega
        ·
          have hm : max x.ready f = x.ready := by omega
          by_cases ha : lo ≤ x.ready
          · by_cases hb : x.due ≤ hi
            · have HN := Lib.hid (HYES.out _ hm ha hb)
              obtain ⟨x0, x1, x2, x3⟩ := x
              dsimp only at *
              clear HYES HNO hm
              go_wp2_with fail
              all_goals try (exfalso; omega)
              go_roundw
              case rel => exact ⟨k + 1, by omega, by go_num, by rw [HN.out], HB_wr⟩
              case measure => simp [intOf] <;> omega
            · have HN := Lib.hid (HNO.out _ hm (fun h => hb h.2))
              obtain ⟨x0, x1, x2, x3⟩ := x
              dsimp only at *
              replace hb := Int.not_le.1 hb
              clear HYES HNO hm
              go_wp2_with fail
              all_goals try (exfalso; omega)
              go_roundw
              case rel => exact ⟨k + 1, by omega, by go_num, by rw [HN.out], HB_wr⟩
              case measure => simp [intOf] <;> omega
          · have HN := Lib.hid (HNO.out _ hm (fun h => ha h.1))
            obtain ⟨x0, x1, x2, x3⟩ := x
            dsimp only at *
            replace ha := Int.not_le.1 ha
            clear HYES HNO hm
            go_wp2_with fail
            all_goals try (exfalso; omega)
            go_roundw
            case rel => exact ⟨k + 1, by omega, by go_num, by rw [HN.out], HB_wr⟩
            case measure => simp [intOf] <;> omega
      · obtain rfl : k = l.length := by omega
        rw [List.take_length] at hlb
        rw [List.take_length]
        have HOVD := Lib.hid (show over l f lo hi ↔ hi - lo + 1 < loadP f lo hi l from Iff.rfl)
        generalize loadP f lo hi l = ld at *
        first | have hfin := HOVD.out.1 HOV.out | have hfin := Int.not_lt.1 (fun h => HNO2.out (HOVD.out.2 h))
        clear HOVD
        go_wp2_with fail
        all_goals try (exfalso; omega)
        go_ret
        first | exact ⟨rfl, HB_wr⟩ | exact ⟨ret_bool (by simp; omega), HB_wr⟩
  · have HNOV := Lib.hid (c4 a b)
    have HNIL := Lib.hid hnil
    clear HCL c4 hnil
    go_wp2_with fail
    all_goals try (exfalso; omega)
    clear hWe
    refine (Late_k _ (HS.out.below HB_We) HL1.out HV.out HN1.out).mono ?_
    rintro e we ⟨o3, n3, c3, rfl, hl, hb_we⟩
    have HB_we : Below w.heap.size w we := by first | exact after0 HB_We hb_we | exact after1 HB_We hb_we | exact after2 HB_We hb_we | exact after3 HB_We hb_we | exact after4 HB_We hb_we | exact after5 HB_We hb_we
    try clear q_c_0 q_c_1
    have H_c := Lib.hid (Box.below (by first | exact H_c.out | exact H_c.out.alloc _ | exact (H_c.out.alloc _).alloc _ | exact ((H_c.out.alloc _).alloc _).alloc _) hb_we)
    obtain ⟨q_c_0, q_c_1⟩ := H_c.out.c2
    rw [HNIL.out] at hl
    obtain rfl := hl.len
    clear hl HL1
    simp only [List.length_nil]
    by_cases ca : a < f
    ·
      go_wp2_with fail
      all_goals try (exfalso; omega)
      go_ret
      exact ⟨rfl, HB_we⟩
    by_cases cb : b < a
    · replace ca := Int.not_lt.1 ca
      go_wp2_with fail
      all_goals try (exfalso; omega)
      go_ret
      exact ⟨rfl, HB_we⟩
    by_cases cc : 400 ≤ b
    · replace ca := Int.not_lt.1 ca
      replace cb := Int.not_lt.1 cb
      go_wp2_with fail
      all_goals try (exfalso; omega)
      go_ret
      exact ⟨rfl, HB_we⟩
    replace ca := Int.not_lt.1 ca
    replace cb := Int.not_lt.1 cb
    replace cc := Int.not_le.1 cc
    have HNO2 := Lib.hid (HNOV.out ca cb cc)
    clear HNOV
    go_wp2_with fail
    all_goals try (exfalso; omega)
    go_loopw [16, 17] (fun s i wr => ∃ k : Nat, k ≤ l.length ∧ i = .int .i64 k ∧ s = .int .i64 (loadP f a b (l.take k)) ∧ Below w.heap.size w wr) (fun _ i _ => l.length - (intOf i).toNat)
    case atStart => exact ⟨0, by omega, rfl, rfl, HB_we⟩
    case round =>
      obtain ⟨k, hk, rfl, rfl, HB_wr⟩ := hrel
      have hlb := load_bound (f := f) (a := a) (b := b) (l := l.take k) (fun j hj => (validJ_iff.1 HV.out).2 j (List.mem_of_mem_take hj))
      have hlk : (l.take k).length ≤ 12 := by rw [List.length_take]; omega
      by_cases hlt : k < l.length
      · obtain ⟨bb, off, rfl, hbb, hrow⟩ := (HS.out.below HB_wr).get hlt
        obtain ⟨e_0, e_1, e_2, e_3⟩ := (hrow k hlt).c4
        have HYES := Lib.hid (fun m hm h1 h2 => @load_yes f a b l k hlt m hm h1 h2)
        have HNO := Lib.hid (fun m hm h1 => @load_no f a b l k hlt m hm h1)
        have hjp := jobB_iff.1 ((validJ_iff.1 HV.out).2 _ (List.getElem_mem hlt))
        have hp1 := hjp.2.2.2.1
        have hp2 := hjp.2.2.2.2.1
        clear hrow hjp
        generalize l[k] = x at *
        generalize loadP f a b (l.take k) = ld at *
        rcases Int.lt_or_le x.ready f with hmx | hmx
        ·
          have hm : max x.ready f = f := by omega
          by_cases ha : a ≤ f
          · by_cases hb : x.due ≤ b
            · have HN := Lib.hid (HYES.out _ hm ha hb)
              obtain ⟨x0, x1, x2, x3⟩ := x
              dsimp only at *
              clear HYES HNO hm
              go_wp2_with fail
              all_goals try (exfalso; omega)
              go_roundw
              case rel => exact ⟨k + 1, by omega, by go_num, by rw [HN.out], HB_wr⟩
              case measure => simp [intOf] <;> omega
            · have HN := Lib.hid (HNO.out _ hm (fun h => hb h.2))
              obtain ⟨x0, x1, x2, x3⟩ := x
              dsimp only at *
              replace hb := Int.not_le.1 hb
              clear HYES HNO hm
              go_wp2_with fail
              all_goals try (exfalso; omega)
              go_roundw
              case rel => exact ⟨k + 1, by omega, by go_num, by rw [HN.out], HB_wr⟩
              case measure => simp [intOf] <;> omega
          · have HN := Lib.hid (HNO.out _ hm (fun h => ha h.1))
            obtain ⟨x0, x1, x2, x3⟩ := x
            dsimp only at *
            replace ha := Int.not_le.1 ha
            clear HYES HNO hm
            go_wp2_with fail
            all_goals try (exfalso; omega)
            go_roundw
            case rel => exact ⟨k + 1, by omega, by go_num, by rw [HN.out], HB_wr⟩
            case measure => simp [intOf] <;> omega
        ·
          have hm : max x.ready f = x.ready := by omega
          by_cases ha : a ≤ x.ready
          · by_cases hb : x.due ≤ b
            · have HN := Lib.hid (HYES.out _ hm ha hb)
              obtain ⟨x0, x1, x2, x3⟩ := x
              dsimp only at *
              clear HYES HNO hm
              go_wp2_with fail
              all_goals try (exfalso; omega)
              go_roundw
              case rel => exact ⟨k + 1, by omega, by go_num, by rw [HN.out], HB_wr⟩
              case measure => simp [intOf] <;> omega
            · have HN := Lib.hid (HNO.out _ hm (fun h => hb h.2))
              obtain ⟨x0, x1, x2, x3⟩ := x
              dsimp only at *
              replace hb := Int.not_le.1 hb
              clear HYES HNO hm
              go_wp2_with fail
              all_goals try (exfalso; omega)
              go_roundw
              case rel => exact ⟨k + 1, by omega, by go_num, by rw [HN.out], HB_wr⟩
              case measure => simp [intOf] <;> omega
          · have HN := Lib.hid (HNO.out _ hm (fun h => ha h.1))
            obtain ⟨x0, x1, x2, x3⟩ := x
            dsimp only at *
            replace ha := Int.not_le.1 ha
            clear HYES HNO hm
            go_wp2_with fail
            all_goals try (exfalso; omega)
            go_roundw
            case rel => exact ⟨k + 1, by omega, by go_num, by rw [HN.out], HB_wr⟩
            case measure => simp [intOf] <;> omega
      · obtain rfl : k = l.length := by omega
        rw [List.take_length] at hlb
        rw [List.take_length]
        have HOVD := Lib.hid (show over l f a b ↔ b - a + 1 < loadP f a b l from Iff.rfl)
        generalize loadP f a b l = ld at *
        first | have hfin := HOVD.out.1 HOV.out | have hfin := Int.not_lt.1 (fun h => HNO2.out (HOVD.out.2 h))
        clear HOVD
        go_wp2_with fail
        all_goals try (exfalso; omega)
        go_ret
        first | exact ⟨rfl, HB_wr⟩ | exact ⟨ret_bool (by simp; omega), HB_wr⟩
end Go.Proofs.Ytheioedggjbphaa
