/-
  The laws ScheduleLost, ScheduleBest.
-/
import Derived.Test.YtheioedggjbphaaSdH
import Derived.Test.YtheioedggjbphaaSdP
set_option linter.unusedVariables false
namespace Sc
theorem planR_cases (J : List Jb) (f : Int) : (validJ J = true ∧ slotB f = true ∧ planR J f = (planF J f, 0)) ∨ ((validJ J = false ∨ slotB f = false) ∧ planR J f = ([], 1)) := by
  unfold planR
  cases h1 : validJ J <;> cases h2 : slotB f <;> simp
theorem slotB_iff {f : Int} : slotB f = true ↔ 0 ≤ f ∧ f < 400 := by unfold slotB; simp
theorem lateR_ok {J : List Jb} {l : List Sn} (h1 : validJ J = true) (h2 : namesB J l = true) : lateR J l = (lateF J l, 0) := by unfold lateR; rw [h1, h2]; rfl
theorem checkR_ok {J : List Jb} {l : List Sn} (h1 : validJ J = true) (h2 : namesB J l = true) : checkR J l = (checkB J l, 0) := by unfold checkR; rw [h1, h2]; rfl
end Sc
namespace Go.Proofs.Ytheioedggjbphaa
open Go Go.RowKit Sc Sk Go.Sort
theorem Plan_k (ao : Option Addr) (n cap : Nat) (l : List Jb) (f : Int) (w : World) (hs : Sl w 4 cJ ao n cap l) : Calls Try.prog 15 #[.slice ao n cap, .int .i64 f] w (SnsK w (planR l f).1 (planR l f).2) := (Plan_any ao n cap l f w hs).mono fun _ _ h => h.K
theorem Late_k {jo : Option Addr} {n cap : Nat} {J : List Jb} {ao : Option Addr} {m capa : Nat} {l : List Sn} (w : World) (hj : Sl w 4 cJ jo n cap J) (hs : Sl w 3 cS ao m capa l) (h1 : validJ J = true) (h2 : namesB J l = true) :
    Calls Try.prog 18 #[.slice jo n cap, .slice ao m capa] w (IntsK w (lateF J l) 0) := (Late_any jo n cap J ao m capa l w hj hs).mono fun _ _ h => by have := h.K; rwa [lateR_ok h1 h2] at this
set_option maxRecDepth 100000 in
set_option maxHeartbeats 8000000 in
theorem lost_walk (hso : SortOk) (ao : Option Addr) (n cap : Nat) (l : List Jb) (f g : Int) (w : World) (hs : Sl w 4 cJ ao n cap l) :
    Calls Try.prog 10 #[.slice ao n cap, .int .i64 f, .int .i64 g] w (Ret w (.bool true)) := by
  obtain rfl := hs.len
  have hle := hs.le
  have hcap := hs.max
  have HCAP := Lib.hid hcap
  have hcap2 := hcap
  unfold maxLen at hcap2
  have HS := Lib.hid hs
  have HSO := Lib.hid hso
  clear hs hso hcap
  have HP1 := Lib.hid (planR_cases l f)
  have HP2 := Lib.hid (planR_cases l g)
  have HB_w : Below w.heap.size w w := Below.refl _ _
  go_enter Try.func10, Try.ntmps10
  go_wp2_with fail
  refine (head_any HSO.out _).mono ?_
  rintro e wa ⟨rfl, hb_wa⟩
  have HB_wa : Below w.heap.size w wa := by first | exact after0 HB_w hb_wa | exact after1 HB_w hb_wa | exact after2 HB_w hb_wa | exact after3 HB_w hb_wa | exact after4 HB_w hb_wa | exact after5 HB_w hb_wa
  go_wp2_with fail
  refine (rfew_any ao l.length cap _ hle HCAP.out).mono ?_
  rintro e wb ⟨rfl, hb_wb⟩
  have HB_wb : Below w.heap.size w wb := by first | exact after0 HB_wa hb_wb | exact after1 HB_wa hb_wb | exact after2 HB_wa hb_wb | exact after3 HB_wa hb_wb | exact after4 HB_wa hb_wb | exact after5 HB_wa hb_wb
  by_cases h12 : l.length ≤ 12
  case neg =>
    rw [decide_eq_false h12]
    go_wp2_with fail
    all_goals try (exfalso; omega)
    go_ret
    exact ⟨rfl, HB_wb⟩
  rw [decide_eq_true h12]
  by_cases hfg : g < f
  ·
    go_wp2_with fail
    all_goals try (exfalso; omega)
    go_ret
    exact ⟨rfl, HB_wb⟩
  have HFG := Lib.hid (show f ≤ g by omega)
  replace hfg := Int.not_lt.1 hfg
  go_wp2_with fail
  all_goals try (exfalso; omega)
  refine (Plan_k ao l.length cap l f _ (HS.out.below HB_wb)).mono ?_
  rintro e wc ⟨o1, n1, c1, rfl, hl, hb_wc⟩
  have HB_wc : Below w.heap.size w wc := by first | exact after0 HB_wb hb_wc | exact after1 HB_wb hb_wc | exact after2 HB_wb hb_wc | exact after3 HB_wb hb_wc | exact after4 HB_wb hb_wc | exact after5 HB_wb hb_wc
  have HL1 := Lib.hid hl
  clear hl
  go_wp2_with fail
  refine (Plan_k ao l.length cap l g _ (HS.out.below HB_wc)).mono ?_
  rintro e wd ⟨o2, n2, c2, rfl, hl, hb_wd⟩
  have HB_wd : Below w.heap.size w wd := by first | exact after0 HB_wc hb_wd | exact after1 HB_wc hb_wd | exact after2 HB_wc hb_wd | exact after3 HB_wc hb_wd | exact after4 HB_wc hb_wd | exact after5 HB_wc hb_wd
  replace HL1 := Lib.hid (show Sl wd _ _ _ _ _ _ by first | exact HL1.out.below hb_wd | exact (HL1.out.below (grew1 (Below.refl _ _))).below hb_wd | exact (HL1.out.below (grew2 (Below.refl _ _))).below hb_wd | exact (HL1.out.below (grew3 (Below.refl _ _))).below hb_wd)
  have HL2 := Lib.hid hl
  clear hl
  rcases HP1.out with ⟨v1, s1, e1⟩ | ⟨_, e1⟩
  case inr =>
    rw [e1]
    generalize (planR l g).2 = y at *
    go_wp2_with fail
    all_goals try (exfalso; omega)
    go_ret
    exact ⟨rfl, HB_wd⟩
  rcases HP2.out with ⟨_, s2, e2⟩ | ⟨_, e2⟩
  case inr =>
    rw [e1, e2]
    go_wp2_with fail
    all_goals try (exfalso; omega)
    go_ret
    exact ⟨rfl, HB_wd⟩
  rw [e1, e2]
  rw [e1] at HL1
  rw [e2] at HL2
  have HV := Lib.hid v1
  have h0 := (slotB_iff.1 s1).1
  have h02 := (slotB_iff.1 s2).1
  have HBST := Lib.hid (show lateF l (planF l g) = [] → lateF l (planF l f) = [] from fun h => best_law (validJ_iff.1 v1).2 h0 (plan_names h02) (fun s hs => Int.le_trans HFG.out (plan_from s hs)) h)
  have HN1 := Lib.hid (plan_names (J := l) h0)
  have HN2 := Lib.hid (plan_names (J := l) h02)
  clear e1 e2 s1 s2 v1 h0 h02 HP1 HP2
  go_wp2_with fail
  refine (Late_k _ (HS.out.below HB_wd) HL1.out HV.out HN1.out).mono ?_
  rintro e we ⟨o3, n3, c3, rfl, hl, hb_we⟩
  have HB_we : Below w.heap.size w we := by first | exact after0 HB_wd hb_we | exact after1 HB_wd hb_we | exact after2 HB_wd hb_we | exact after3 HB_wd hb_we | exact after4 HB_wd hb_we | exact after5 HB_wd hb_we
  replace HL2 := Lib.hid (show Sl we _ _ _ _ _ _ by first | exact HL2.out.below hb_we | exact (HL2.out.below (grew1 (Below.refl _ _))).below hb_we | exact (HL2.out.below (grew2 (Below.refl _ _))).below hb_we | exact (HL2.out.below (grew3 (Below.refl _ _))).below hb_we)
  obtain rfl := hl.len
  clear hl HL1
  go_wp2_with fail
  refine (Late_k _ (HS.out.below HB_we) HL2.out HV.out HN2.out).mono ?_
  rintro e wf ⟨o4, n4, c4, rfl, hl, hb_wf⟩
  have HB_wf : Below w.heap.size w wf := by first | exact after0 HB_we hb_wf | exact after1 HB_we hb_wf | exact after2 HB_we hb_wf | exact after3 HB_we hb_wf | exact after4 HB_we hb_wf | exact after5 HB_we hb_wf
  obtain rfl := hl.len
  clear hl HL2
  generalize lateF l (planF l f) = A at *
  generalize lateF l (planF l g) = B at *
  have HX := Lib.hid (show B.length = 0 → A.length = 0 from fun h => by rw [HBST.out (List.eq_nil_of_length_eq_zero h)]; rfl)
  generalize A.length = la at *
  generalize B.length = lb at *
  by_cases hb : lb = 0
  · have ha := HX.out hb
    subst hb
    subst ha
    go_wp2_with fail
    all_goals try (exfalso; omega)
    go_ret
    exact ⟨rfl, HB_wf⟩
  · have hb2 : 0 < (lb : Int) := by omega
    clear hb
    go_wp2_with fail
    all_goals try (exfalso; omega)
    go_ret
    exact ⟨rfl, HB_wf⟩
end Go.Proofs.Ytheioedggjbphaa
