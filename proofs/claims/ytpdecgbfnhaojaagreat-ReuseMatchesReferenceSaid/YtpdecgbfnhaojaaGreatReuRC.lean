/-
  The reference functions of the layer 'reuse' (R35), all but Free, Take and Wait.
-/
import Derived.Test.YtpdecgbfnhaojaaGreatReuRB
import Derived.Test.YtpdecgbfnhaojaaGreatReuC
import Derived.Test.YtpdecgbfnhaojaaGreatNumX
import Derived.Test.YtpdecgbfnhaojaaGreatNumV
set_option linter.unusedVariables false
namespace Go.Proofs.YtpdecgbfnhaojaaGreat
open Go.RowKit Nb Sk Ck Ru Go.Sort

theorem rkept_any (u k : Int) (w : World) : Calls Tryz.prog 25 #[.int .i64 u, .int .i64 k] w (Ret w (.bool (kept u k))) := by
  have HS := Lib.hid (show kept u k = (tm u && decide (0 ≤ k ∧ k ≤ 100000)) from rfl)
  have HB_w : Below w.heap.size w w := Below.refl _ _
  generalize kept u k = v at *
  go_enter Tryz.func25, Tryz.ntmps25
  go_wp2_with fail
  refine (r34time_any _ _).mono ?_
  rintro e wa ⟨rfl, hb_wa⟩
  have HB_wa : Below w.heap.size w wa := by first | exact after0 HB_w hb_wa | exact after1 HB_w hb_wa | exact after2 HB_w hb_wa | exact after3 HB_w hb_wa | exact after4 HB_w hb_wa | exact after5 HB_w hb_wa
  cases h1 : tm u
  all_goals
    rw [h1] at HS
    clear h1
    go_wp2_with fail
  all_goals
    go_ret
    refine ⟨ret_bool ?_, HB_wa⟩
    rw [HS.out]
    simp; try omega

/-- are all clocks valid, and not too many -/
def clocksB (cs : List Clk) : Bool := decide (cs.length ≤ 8) && cs.all okC

set_option maxRecDepth 100000 in
set_option maxHeartbeats 1000000 in
theorem rclocks_any (ao : Option Addr) (n cap : Nat) (l : List Clk) (w : World) (hs : Sl w 4 cC ao n cap l) : Calls Tryz.prog 26 #[.slice ao n cap] w (Ret w (.bool (clocksB l))) := by
  obtain rfl := hs.len
  have hcap := hs.max
  have hle := hs.le
  unfold maxLen at hcap
  have HS := Lib.hid hs
  have HF := Lib.hid (show ∀ (i : Nat) (h : i < l.length), okC l[i] = false → clocksB l = false from fun i h hb => by
    unfold clocksB
    rw [Bool.and_eq_false_iff]
    right
    rw [List.all_eq_false]
    exact ⟨l[i], List.getElem_mem h, by rw [hb]; simp⟩)
  have HL := Lib.hid (show 8 < l.length → clocksB l = false from fun h => by unfold clocksB; rw [decide_eq_false (by omega)]; rfl)
  have HT := Lib.hid (show l.length ≤ 8 → (∀ (i : Nat) (h : i < l.length), okC l[i] = true) → clocksB l = true from fun h hb => by
    unfold clocksB
    rw [decide_eq_true h, Bool.true_and, List.all_eq_true]
    intro c hc
    obtain ⟨i, hi, rfl⟩ := List.getElem_of_mem hc
    exact hb i hi)
  clear hs
  generalize clocksB l = v at *
  go_enter Tryz.func26, Tryz.ntmps26
  by_cases h2 : 8 < l.length
  · have HP := Lib.hid (HL.out h2)
    have h2i : 8 < (l.length : Int) := by omega
    go_wp2_with fail
    all_goals try (exfalso; omega)
    go_ret
    exact ⟨ret_bool' HP.out.symm, Below.refl _ _⟩
  replace h2 := Nat.not_lt.1 h2
  have h2i : (l.length : Int) ≤ 8 := by omega
  replace HT := Lib.hid (HT.out h2)
  go_wp2_with fail
  go_loopw [3] (fun i wr => ∃ k : Nat, k ≤ l.length ∧ i = .int .i64 k ∧ Below w.heap.size w wr ∧ Hid (∀ (i : Nat) (h : i < l.length), i < k → okC l[i] = true)) (fun i _ => l.length - (intOf i).toNat)
  case atStart => exact ⟨0, by omega, rfl, Below.refl _ _, fun i h hi => absurd hi (by omega)⟩
  case round =>
    obtain ⟨k, hk, rfl, HB_wr, HJ⟩ := hrel
    by_cases hlt : k < l.length
    · obtain ⟨b, off, rfl, hb, hrow⟩ := HS.out.get hlt
      obtain ⟨e_0, e_1, e_2, e_3⟩ := ((hrow k hlt).below HB_wr hb).c4
      have HN := Lib.hid (show okC l[k] = true → ∀ (i : Nat) (h : i < l.length), i < k + 1 → okC l[i] = true from fun h0 i h hi => by
        rcases Nat.lt_succ_iff_lt_or_eq.1 hi with h1 | rfl
        · exact HJ.out i h h1
        · exact h0)
      have HFK := Lib.hid (HF.out k hlt)
      have HC := Lib.hid (fun W => r34valid_any l[k] W)
      clear hrow
      generalize l[k] = c at *
      obtain ⟨c0, c1, c2, c3⟩ := c
      dsimp only at e_0 e_1 e_2 e_3 HC HFK HN
      generalize okC ⟨c0, c1, c2, c3⟩ = ok at *
      go_wp2_with fail
      refine (HC.out _).mono ?_
      rintro e w5 ⟨rfl, hb5⟩
      have HB_w5 := after0 HB_wr hb5
      clear hb5 e_0 e_1 e_2 e_3
      cases ok
      · have HP := Lib.hid (HFK.out rfl)
        go_wp2_with fail
        go_ret
        exact ⟨ret_bool' HP.out.symm, HB_w5⟩
      · have HN2 := Lib.hid (HN.out rfl)
        go_wp2_with fail
        go_roundw
        case rel => exact ⟨k + 1, by omega, by go_num, HB_w5, HN2⟩
        case measure => simp [intOf]; omega
    · have HP := Lib.hid (HT.out (fun i h => HJ.out i h (by omega)))
      go_wp2_with fail
      go_ret
      exact ⟨ret_bool' HP.out.symm, HB_wr⟩

theorem freeC_v (c : Clk) (x : Int) : freeC c x - 1 = if min x 10000000 < c.at_ ∨ 10000000 < low c c.at_ ∨ high c (min x 10000000) < 0 then -1 else min 10000000 (high c (min x 10000000)) := by
  unfold freeC
  split
  · rfl
  · omega


set_option maxRecDepth 100000 in
set_option maxHeartbeats 4000000 in
theorem rlast_any (c : Clk) (x : Int) (w : World) (h : okC c = true) (hx0 : 0 ≤ x) (hx1 : x ≤ 20000000) : Calls Tryz.prog 27 #[eC c, .int .i64 x] w (Ret w (.int .i64 (freeC c x - 1))) := by
  have HV := Lib.hid (freeC_v c x)
  have ho := okC_iff.1 h
  have HL := Lib.hid (fun W => r34low_any c c.at_ W h (Int.le_refl _) (by omega))
  have HH := Lib.hid (fun r W h1 h2 => r34high_any c r W h h1 h2)
  have HHB := Lib.hid (show ∀ r, c.at_ ≤ r → r ≤ 10000001 → -100000 ≤ high c r ∧ high c r ≤ 30100001 from fun r h1 h2 => by
    have := slip_bd h h1 h2
    unfold high
    omega)
  generalize freeC c x - 1 = p at *
  obtain ⟨a, b, d, e⟩ := c
  dsimp only at *
  generalize low ⟨a, b, d, e⟩ a = lo at *
  obtain ⟨H, hH⟩ : ∃ H, high ⟨a, b, d, e⟩ = H := ⟨_, rfl⟩
  rw [hH] at HV HH HHB
  obtain ⟨ho1, ho2, _⟩ := ho
  clear hH h
  obtain ⟨W0, hW0, HB_W0, hZ, hn⟩ := boxes1 w [.int .i64 a, .int .i64 b, .int .i64 d, .int .i64 e] 27
  have H_c := Lib.hid hn
  clear hn hZ
  obtain ⟨q_c_0, q_c_1, q_c_2, q_c_3⟩ := H_c.out.c4
  go_enter Tryz.func27, Tryz.ntmps27
  rcases (by omega : x < 10000000 ∨ 10000000 < x ∨ x = 10000000) with hx | hx | hx
  ·
    have HP := Lib.hid (show p = if x < a ∨ 10000000 < lo ∨ H x < 0 then -1 else min 10000000 (H x) by rw [HV.out, show min x 10000000 = x by omega])
    clear HV
    replace HH := Lib.hid (fun h W => HH.out x W h (by omega))
    replace HHB := Lib.hid (fun h => HHB.out x h (by omega))
    generalize H x = hi at *
    by_cases hma : x < a
    · have HP2 := Lib.hid (HP.out.trans (if_pos (.inl hma)))
      clear HP HH HHB HL
      go_wp2_with fail
      go_ret
      exact ⟨ret_int HP2.out.symm, HB_W0⟩
    replace hma := Int.not_lt.1 hma
    have hhb := HHB.out hma
    obtain ⟨hh0, hh1⟩ := hhb
    replace HH := Lib.hid (HH.out hma)
    clear HHB
    go_wp2_with fail
    all_goals try (exfalso; omega)
    refine (HL.out _).mono ?_
    rintro e wa ⟨rfl, hb_wa⟩
    have HB_wa : Below w.heap.size w wa := by first | exact after0 HB_W0 hb_wa | exact after1 HB_W0 hb_wa | exact after2 HB_W0 hb_wa | exact after3 HB_W0 hb_wa | exact after4 HB_W0 hb_wa | exact after5 HB_W0 hb_wa
    try clear q_c_0 q_c_1 q_c_2 q_c_3
    have H_c := Lib.hid (Box.below (by first | exact H_c.out | exact H_c.out.alloc _ | exact (H_c.out.alloc _).alloc _ | exact ((H_c.out.alloc _).alloc _).alloc _) hb_wa)
    obtain ⟨q_c_0, q_c_1, q_c_2, q_c_3⟩ := H_c.out.c4
    clear hW0
    by_cases hlo : 10000000 < lo
    · have HP2 := Lib.hid (HP.out.trans (if_pos (.inr (.inl hlo))))
      clear HP
      go_wp2_with fail
      go_ret
      exact ⟨ret_int HP2.out.symm, HB_wa⟩
    replace hlo := Int.not_lt.1 hlo
    go_wp2_with fail
    all_goals try (exfalso; omega)
    refine (HH.out _).mono ?_
    rintro e wb ⟨rfl, hb_wb⟩
    have HB_wb : Below w.heap.size w wb := by first | exact after0 HB_wa hb_wb | exact after1 HB_wa hb_wb | exact after2 HB_wa hb_wb | exact after3 HB_wa hb_wb | exact after4 HB_wa hb_wb | exact after5 HB_wa hb_wb
    try clear q_c_0 q_c_1 q_c_2 q_c_3
    have H_c := Lib.hid (Box.below (by first | exact H_c.out | exact H_c.out.alloc _ | exact (H_c.out.alloc _).alloc _ | exact ((H_c.out.alloc _).alloc _).alloc _) hb_wb)
    obtain ⟨q_c_0, q_c_1, q_c_2, q_c_3⟩ := H_c.out.c4
    by_cases hhi : hi < 0
    · have HP2 := Lib.hid (HP.out.trans (if_pos (.inr (.inr hhi))))
      clear HP
      go_wp2_with fail
      go_ret
      exact ⟨ret_int HP2.out.symm, HB_wb⟩
    replace hhi := Int.not_lt.1 hhi
    have HP2 := Lib.hid (HP.out.trans (if_neg (by omega)))
    clear HP
    go_wp2_with fail
    all_goals try (exfalso; omega)
    refine (HH.out _).mono ?_
    rintro e wc ⟨rfl, hb_wc⟩
    have HB_wc : Below w.heap.size w wc := by first | exact after0 HB_wb hb_wc | exact after1 HB_wb hb_wc | exact after2 HB_wb hb_wc | exact after3 HB_wb hb_wc | exact after4 HB_wb hb_wc | exact after5 HB_wb hb_wc
    try clear q_c_0 q_c_1 q_c_2 q_c_3
    have H_c := Lib.hid (Box.below (by first | exact H_c.out | exact H_c.out.alloc _ | exact (H_c.out.alloc _).alloc _ | exact ((H_c.out.alloc _).alloc _).alloc _) hb_wc)
    obtain ⟨q_c_0, q_c_1, q_c_2, q_c_3⟩ := H_c.out.c4
    rcases (by omega : hi < 10000000 ∨ 10000000 < hi ∨ hi = 10000000) with hy | hy | hy
    · have HP3 := Lib.hid (show p = hi by rw [HP2.out]; omega)
      go_wp2_with fail
      go_ret
      exact ⟨ret_int HP3.out.symm, HB_wc⟩
    · have HP3 := Lib.hid (show p = 10000000 by rw [HP2.out]; omega)
      go_wp2_with fail
      go_ret
      exact ⟨ret_int HP3.out.symm, HB_wc⟩
    · subst hy
      have HP3 := Lib.hid (show p = 10000000 by rw [HP2.out]; omega)
      go_wp2_with fail
      go_ret
      exact ⟨ret_int HP3.out.symm, HB_wc⟩
  ·
    have HP := Lib.hid (show p = if 10000000 < a ∨ 10000000 < lo ∨ H 10000000 < 0 then -1 else min 10000000 (H 10000000) by rw [HV.out, show min x 10000000 = 10000000 by omega])
    clear HV
    have hma : a ≤ 10000000 := ho2
    replace HH := Lib.hid (fun h W => HH.out 10000000 W h (by omega))
    replace HHB := Lib.hid (fun h => HHB.out 10000000 h (by omega))
    generalize H 10000000 = hi at *
    have hhb := HHB.out hma
    obtain ⟨hh0, hh1⟩ := hhb
    replace HH := Lib.hid (HH.out hma)
    clear HHB
    go_wp2_with fail
    all_goals try (exfalso; omega)
    refine (HL.out _).mono ?_
    rintro e wa ⟨rfl, hb_wa⟩
    have HB_wa : Below w.heap.size w wa := by first | exact after0 HB_W0 hb_wa | exact after1 HB_W0 hb_wa | exact after2 HB_W0 hb_wa | exact after3 HB_W0 hb_wa | exact after4 HB_W0 hb_wa | exact after5 HB_W0 hb_wa
    try clear q_c_0 q_c_1 q_c_2 q_c_3
    have H_c := Lib.hid (Box.below (by first | exact H_c.out | exact H_c.out.alloc _ | exact (H_c.out.alloc _).alloc _ | exact ((H_c.out.alloc _).alloc _).alloc _) hb_wa)
    obtain ⟨q_c_0, q_c_1, q_c_2, q_c_3⟩ := H_c.out.c4
    clear hW0
    by_cases hlo : 10000000 < lo
    · have HP2 := Lib.hid (HP.out.trans (if_pos (.inr (.inl hlo))))
      clear HP
      go_wp2_with fail
      go_ret
      exact ⟨ret_int HP2.out.symm, HB_wa⟩
    replace hlo := Int.not_lt.1 hlo
    go_wp2_with fail
    all_goals try (exfalso; omega)
    refine (HH.out _).mono ?_
    rintro e wb ⟨rfl, hb_wb⟩
    have HB_wb : Below w.heap.size w wb := by first | exact after0 HB_wa hb_wb | exact after1 HB_wa hb_wb | exact after2 HB_wa hb_wb | exact after3 HB_wa hb_wb | exact after4 HB_wa hb_wb | exact after5 HB_wa hb_wb
    try clear q_c_0 q_c_1 q_c_2 q_c_3
    have H_c := Lib.hid (Box.below (by first | exact H_c.out | exact H_c.out.alloc _ | exact (H_c.out.alloc _).alloc _ | exact ((H_c.out.alloc _).alloc _).alloc _) hb_wb)
    obtain ⟨q_c_0, q_c_1, q_c_2, q_c_3⟩ := H_c.out.c4
    by_cases hhi : hi < 0
    · have HP2 := Lib.hid (HP.out.trans (if_pos (.inr (.inr hhi))))
      clear HP
      go_wp2_with fail
      go_ret
      exact ⟨ret_int HP2.out.symm, HB_wb⟩
    replace hhi := Int.not_lt.1 hhi
    have HP2 := Lib.hid (HP.out.trans (if_neg (by omega)))
    clear HP
    go_wp2_with fail
    all_goals try (exfalso; omega)
    refine (HH.out _).mono ?_
    rintro e wc ⟨rfl, hb_wc⟩
    have HB_wc : Below w.heap.size w wc := by first | exact after0 HB_wb hb_wc | exact after1 HB_wb hb_wc | exact after2 HB_wb hb_wc | exact after3 HB_wb hb_wc | exact after4 HB_wb hb_wc | exact after5 HB_wb hb_wc
    try clear q_c_0 q_c_1 q_c_2 q_c_3
    have H_c := Lib.hid (Box.below (by first | exact H_c.out | exact H_c.out.alloc _ | exact (H_c.out.alloc _).alloc _ | exact ((H_c.out.alloc _).alloc _).alloc _) hb_wc)
    obtain ⟨q_c_0, q_c_1, q_c_2, q_c_3⟩ := H_c.out.c4
    rcases (by omega : hi < 10000000 ∨ 10000000 < hi ∨ hi = 10000000) with hy | hy | hy
    · have HP3 := Lib.hid (show p = hi by rw [HP2.out]; omega)
      go_wp2_with fail
      go_ret
      exact ⟨ret_int HP3.out.symm, HB_wc⟩
    · have HP3 := Lib.hid (show p = 10000000 by rw [HP2.out]; omega)
      go_wp2_with fail
      go_ret
      exact ⟨ret_int HP3.out.symm, HB_wc⟩
    · subst hy
      have HP3 := Lib.hid (show p = 10000000 by rw [HP2.out]; omega)
      go_wp2_with fail
      go_ret
      exact ⟨ret_int HP3.out.symm, HB_wc⟩
  ·
    have HP := Lib.hid (show p = if 10000000 < a ∨ 10000000 < lo ∨ H 10000000 < 0 then -1 else min 10000000 (H 10000000) by rw [HV.out, show min x 10000000 = 10000000 by omega])
    clear HV
    have hma : a ≤ 10000000 := ho2
    subst hx
    replace HH := Lib.hid (fun h W => HH.out 10000000 W h (by omega))
    replace HHB := Lib.hid (fun h => HHB.out 10000000 h (by omega))
    generalize H 10000000 = hi at *
    have hhb := HHB.out hma
    obtain ⟨hh0, hh1⟩ := hhb
    replace HH := Lib.hid (HH.out hma)
    clear HHB
    go_wp2_with fail
    all_goals try (exfalso; omega)
    refine (HL.out _).mono ?_
    rintro e wa ⟨rfl, hb_wa⟩
    have HB_wa : Below w.heap.size w wa := by first | exact after0 HB_W0 hb_wa | exact after1 HB_W0 hb_wa | exact after2 HB_W0 hb_wa | exact after3 HB_W0 hb_wa | exact after4 HB_W0 hb_wa | exact after5 HB_W0 hb_wa
    try clear q_c_0 q_c_1 q_c_2 q_c_3
    have H_c := Lib.hid (Box.below (by first | exact H_c.out | exact H_c.out.alloc _ | exact (H_c.out.alloc _).alloc _ | exact ((H_c.out.alloc _).alloc _).alloc _) hb_wa)
    obtain ⟨q_c_0, q_c_1, q_c_2, q_c_3⟩ := H_c.out.c4
    clear hW0
    by_cases hlo : 10000000 < lo
    · have HP2 := Lib.hid (HP.out.trans (if_pos (.inr (.inl hlo))))
      clear HP
      go_wp2_with fail
      go_ret
      exact ⟨ret_int HP2.out.symm, HB_wa⟩
    replace hlo := Int.not_lt.1 hlo
    go_wp2_with fail
    all_goals try (exfalso; omega)
    refine (HH.out _).mono ?_
    rintro e wb ⟨rfl, hb_wb⟩
    have HB_wb : Below w.heap.size w wb := by first | exact after0 HB_wa hb_wb | exact after1 HB_wa hb_wb | exact after2 HB_wa hb_wb | exact after3 HB_wa hb_wb | exact after4 HB_wa hb_wb | exact after5 HB_wa hb_wb
    try clear q_c_0 q_c_1 q_c_2 q_c_3
    have H_c := Lib.hid (Box.below (by first | exact H_c.out | exact H_c.out.alloc _ | exact (H_c.out.alloc _).alloc _ | exact ((H_c.out.alloc _).alloc _).alloc _) hb_wb)
    obtain ⟨q_c_0, q_c_1, q_c_2, q_c_3⟩ := H_c.out.c4
    by_cases hhi : hi < 0
    · have HP2 := Lib.hid (HP.out.trans (if_pos (.inr (.inr hhi))))
      clear HP
      go_wp2_with fail
      go_ret
      exact ⟨ret_int HP2.out.symm, HB_wb⟩
    replace hhi := Int.not_lt.1 hhi
    have HP2 := Lib.hid (HP.out.trans (if_neg (by omega)))
    clear HP
    go_wp2_with fail
    all_goals try (exfalso; omega)
    refine (HH.out _).mono ?_
    rintro e wc ⟨rfl, hb_wc⟩
    have HB_wc : Below w.heap.size w wc := by first | exact after0 HB_wb hb_wc | exact after1 HB_wb hb_wc | exact after2 HB_wb hb_wc | exact after3 HB_wb hb_wc | exact after4 HB_wb hb_wc | exact after5 HB_wb hb_wc
    try clear q_c_0 q_c_1 q_c_2 q_c_3
    have H_c := Lib.hid (Box.below (by first | exact H_c.out | exact H_c.out.alloc _ | exact (H_c.out.alloc _).alloc _ | exact ((H_c.out.alloc _).alloc _).alloc _) hb_wc)
    obtain ⟨q_c_0, q_c_1, q_c_2, q_c_3⟩ := H_c.out.c4
    rcases (by omega : hi < 10000000 ∨ 10000000 < hi ∨ hi = 10000000) with hy | hy | hy
    · have HP3 := Lib.hid (show p = hi by rw [HP2.out]; omega)
      go_wp2_with fail
      go_ret
      exact ⟨ret_int HP3.out.symm, HB_wc⟩
    · have HP3 := Lib.hid (show p = 10000000 by rw [HP2.out]; omega)
      go_wp2_with fail
      go_ret
      exact ⟨ret_int HP3.out.symm, HB_wc⟩
    · subst hy
      have HP3 := Lib.hid (show p = 10000000 by rw [HP2.out]; omega)
      go_wp2_with fail
      go_ret
      exact ⟨ret_int HP3.out.symm, HB_wc⟩

set_option maxRecDepth 100000 in
set_option maxHeartbeats 4000000 in
theorem rholds_any (c : Clk) (u k t : Int) (w : World) : Calls Tryz.prog 9 #[eC c, .int .i64 u, .int .i64 k, .int .i64 t] w (Ret w (eI (holds c u k t))) := by
  have HC := Lib.hid (fun W => r34shows_any c t W)
  have HBAD := Lib.hid (@holds_bad c u k t)
  obtain ⟨⟨⟨x, y⟩, q⟩, hs⟩ : ∃ s, shows c t = s := ⟨_, rfl⟩
  have HV := Lib.hid (fun h => @holds_v c u k t x y q h hs)
  rw [hs] at HC
  clear hs
  generalize holds c u k t = p at *
  obtain ⟨a, b, d, e⟩ := c
  obtain ⟨W0, hW0, HB_W0, hZ, hn⟩ := boxes1 w [.int .i64 a, .int .i64 b, .int .i64 d, .int .i64 e] 27
  have H_c := Lib.hid hn
  clear hn hZ
  obtain ⟨q_c_0, q_c_1, q_c_2, q_c_3⟩ := H_c.out.c4
  go_enter Tryz.func9, Tryz.ntmps9
  go_wp2_with fail
  refine (rkept_any _ _ _).mono ?_
  rintro e wa ⟨rfl, hb_wa⟩
  have HB_wa : Below w.heap.size w wa := by first | exact after0 HB_W0 hb_wa | exact after1 HB_W0 hb_wa | exact after2 HB_W0 hb_wa | exact after3 HB_W0 hb_wa | exact after4 HB_W0 hb_wa | exact after5 HB_W0 hb_wa
  try clear q_c_0 q_c_1 q_c_2 q_c_3
  have H_c := Lib.hid (Box.below (by first | exact H_c.out | exact H_c.out.alloc _ | exact (H_c.out.alloc _).alloc _ | exact ((H_c.out.alloc _).alloc _).alloc _) hb_wa)
  obtain ⟨q_c_0, q_c_1, q_c_2, q_c_3⟩ := H_c.out.c4
  clear hW0
  cases h1 : kept u k
  · have HP := Lib.hid (HBAD.out h1)
    clear h1
    go_wp2_with fail
    go_ret2
    exact ⟨ret_pair HP.out, HB_wa⟩
  have HP := Lib.hid (HV.out h1)
  have hk := kept_iff.1 h1
  obtain ⟨k1, k2, k3, k4⟩ := hk
  clear h1 HV HBAD
  go_wp2_with fail
  refine (HC.out _).mono ?_
  rintro e wb ⟨rfl, hb_wb⟩
  have HB_wb : Below w.heap.size w wb := by first | exact after0 HB_wa hb_wb | exact after1 HB_wa hb_wb | exact after2 HB_wa hb_wb | exact after3 HB_wa hb_wb | exact after4 HB_wa hb_wb | exact after5 HB_wa hb_wb
  clear q_c_0 q_c_1 q_c_2 q_c_3
  obtain ⟨W1, hW1, hB1, hZ1, hb1⟩ := boxes1 wb [.int .i64 x, .int .i64 y] 25
  have H_s := Lib.hid hb1
  have HB_W1 : Below w.heap.size w W1 := after0 HB_wb hB1
  clear hb1 hZ1 hB1
  obtain ⟨q_s_0, q_s_1⟩ := H_s.out.c2
  by_cases hq : q = 0
  case neg =>
    have HP2 := Lib.hid (HP.out.trans (if_pos hq))
    have hq1 : (q != 0) = true := bne_iff_ne.2 hq
    clear hq
    go_wp2_with fail
    go_ret2
    exact ⟨ret_pair HP2.out, HB_W1⟩
  subst hq
  have HP2 := Lib.hid (HP.out.trans (if_neg (by simp)))
  by_cases h2 : y ≤ u + k
  · have HP3 := Lib.hid (HP2.out.trans (if_pos h2))
    go_wp2_with fail
    go_ret2
    exact ⟨ret_pair HP3.out, HB_W1⟩
  have HP3 := Lib.hid (HP2.out.trans (if_neg h2))
  replace h2 := Int.not_le.1 h2
  by_cases h3 : u + k < x
  · have HP4 := Lib.hid (HP3.out.trans (if_pos h3))
    go_wp2_with fail
    go_ret2
    exact ⟨ret_pair HP4.out, HB_W1⟩
  · have HP4 := Lib.hid (HP3.out.trans (if_neg h3))
    replace h3 := Int.not_lt.1 h3
    go_wp2_with fail
    go_ret2
    exact ⟨ret_pair HP4.out, HB_W1⟩

set_option maxRecDepth 100000 in
theorem rasked35_any (ao : Option Addr) (n cap : Nat) (l : List Us) (st kd now : Int) (w : World) (hs : Sl w 5 cU ao n cap l) : Calls Tryz.prog 32 #[.slice ao n cap, .int .i64 st, .int .i64 kd, .int .i64 now] w (Ret w (.bool (askedR l st kd now))) := by
  have HS := Lib.hid hs
  have HQ := Lib.hid (show askedR l st kd now = (rows l && okN ⟨st, kd, 1⟩ && tm now) from rfl)
  have HB_w : Below w.heap.size w w := Below.refl _ _
  clear hs
  generalize askedR l st kd now = v at *
  go_enter Tryz.func32, Tryz.ntmps32
  go_wp2_with fail
  refine (rrows_any _ _ _ l _ HS.out).mono ?_
  rintro e wa ⟨rfl, hb_wa⟩
  have HB_wa : Below w.heap.size w wa := by first | exact after0 HB_w hb_wa | exact after1 HB_w hb_wa | exact after2 HB_w hb_wa | exact after3 HB_w hb_wa | exact after4 HB_w hb_wa | exact after5 HB_w hb_wa
  generalize rows l = x at *
  go_wp2_with fail
  refine (rvalid_any _ _ _ _).mono ?_
  rintro e wb ⟨rfl, hb_wb⟩
  have HB_wb : Below w.heap.size w wb := by first | exact after0 HB_wa hb_wb | exact after1 HB_wa hb_wb | exact after2 HB_wa hb_wb | exact after3 HB_wa hb_wb | exact after4 HB_wa hb_wb | exact after5 HB_wa hb_wb
  generalize okN ⟨st, kd, 1⟩ = y at *
  go_wp2_with fail
  refine (r34time_any _ _).mono ?_
  rintro e wc ⟨rfl, hb_wc⟩
  have HB_wc : Below w.heap.size w wc := by first | exact after0 HB_wb hb_wc | exact after1 HB_wb hb_wc | exact after2 HB_wb hb_wc | exact after3 HB_wb hb_wc | exact after4 HB_wb hb_wc | exact after5 HB_wb hb_wc
  generalize tm now = z at *
  have HP := HQ.out
  subst HP
  cases x <;> cases y <;> cases z
  all_goals
    go_wp2_with fail
    go_ret
    exact ⟨rfl, HB_wc⟩

set_option maxRecDepth 100000 in
set_option maxHeartbeats 2000000 in
theorem rold_any (ao : Option Addr) (n cap : Nat) (l : List Us) (n1 n2 n3 : Int) (c : Clk) (r : Int) (w : World) (hs : Sl w 5 cU ao n cap l) :
    Calls Tryz.prog 16 #[.slice ao n cap, .agg #[.int .i64 n1, .int .i64 n2, .int .i64 n3], eC c, .int .i64 r] w (Ret w (eI (oldR l ⟨n1, n2, n3⟩ c r))) := by
  have HBAD := Lib.hid (@old_bad l ⟨n1, n2, n3⟩ c r)
  have HT := Lib.hid (fun W => r34true_any c r W)
  obtain ⟨⟨⟨x, y⟩, q⟩, hs0⟩ : ∃ s, true_ c r = s := ⟨_, rfl⟩
  have HV := Lib.hid (fun h1 h2 => @old_v l ⟨n1, n2, n3⟩ c r x y q h1 h2 hs0)
  rw [hs0] at HT
  clear hs0
  generalize oldR l ⟨n1, n2, n3⟩ c r = p at *
  obtain ⟨a, b, d, e⟩ := c
  obtain ⟨W0, hW0, HB_W0, hZ, hn, hc⟩ := boxes2 w [.int .i64 n1, .int .i64 n2, .int .i64 n3] [.int .i64 a, .int .i64 b, .int .i64 d, .int .i64 e] 29 27
  have H_n := Lib.hid hn
  have H_c := Lib.hid hc
  have HS := Lib.hid (hs.below HB_W0)
  clear hn hc hZ hs
  obtain ⟨q_n_0, q_n_1, q_n_2⟩ := H_n.out.c3
  obtain ⟨q_c_0, q_c_1, q_c_2, q_c_3⟩ := H_c.out.c4
  go_enter Tryz.func16, Tryz.ntmps16
  go_wp2_with fail
  refine (rrows_any _ _ _ l _ HS.out).mono ?_
  rintro e wa ⟨rfl, hb_wa⟩
  have HB_wa : Below w.heap.size w wa := by first | exact after0 HB_W0 hb_wa | exact after1 HB_W0 hb_wa | exact after2 HB_W0 hb_wa | exact after3 HB_W0 hb_wa | exact after4 HB_W0 hb_wa | exact after5 HB_W0 hb_wa
  try clear q_n_0 q_n_1 q_n_2
  have H_n := Lib.hid (Box.below (by first | exact H_n.out | exact H_n.out.alloc _ | exact (H_n.out.alloc _).alloc _ | exact ((H_n.out.alloc _).alloc _).alloc _) hb_wa)
  obtain ⟨q_n_0, q_n_1, q_n_2⟩ := H_n.out.c3
  try clear q_c_0 q_c_1 q_c_2 q_c_3
  have H_c := Lib.hid (Box.below (by first | exact H_c.out | exact H_c.out.alloc _ | exact (H_c.out.alloc _).alloc _ | exact ((H_c.out.alloc _).alloc _).alloc _) hb_wa)
  obtain ⟨q_c_0, q_c_1, q_c_2, q_c_3⟩ := H_c.out.c4
  replace HS := Lib.hid (show Sl wa _ _ _ _ _ _ by first | exact HS.out.below hb_wa | exact (HS.out.below (grew1 (Below.refl _ _))).below hb_wa | exact (HS.out.below (grew2 (Below.refl _ _))).below hb_wa | exact (HS.out.below (grew3 (Below.refl _ _))).below hb_wa)
  clear hW0
  obtain ⟨v1, h1⟩ : ∃ v, rows l = v := ⟨_, rfl⟩
  rw [h1]
  replace h1 := Lib.hid h1
  go_wp2_with fail
  refine (rvalid_any _ _ _ _).mono ?_
  rintro e wb ⟨rfl, hb_wb⟩
  have HB_wb : Below w.heap.size w wb := by first | exact after0 HB_wa hb_wb | exact after1 HB_wa hb_wb | exact after2 HB_wa hb_wb | exact after3 HB_wa hb_wb | exact after4 HB_wa hb_wb | exact after5 HB_wa hb_wb
  try clear q_n_0 q_n_1 q_n_2
  have H_n := Lib.hid (Box.below (by first | exact H_n.out | exact H_n.out.alloc _ | exact (H_n.out.alloc _).alloc _ | exact ((H_n.out.alloc _).alloc _).alloc _) hb_wb)
  obtain ⟨q_n_0, q_n_1, q_n_2⟩ := H_n.out.c3
  try clear q_c_0 q_c_1 q_c_2 q_c_3
  have H_c := Lib.hid (Box.below (by first | exact H_c.out | exact H_c.out.alloc _ | exact (H_c.out.alloc _).alloc _ | exact ((H_c.out.alloc _).alloc _).alloc _) hb_wb)
  obtain ⟨q_c_0, q_c_1, q_c_2, q_c_3⟩ := H_c.out.c4
  replace HS := Lib.hid (show Sl wb _ _ _ _ _ _ by first | exact HS.out.below hb_wb | exact (HS.out.below (grew1 (Below.refl _ _))).below hb_wb | exact (HS.out.below (grew2 (Below.refl _ _))).below hb_wb | exact (HS.out.below (grew3 (Below.refl _ _))).below hb_wb)
  obtain ⟨v2, h2⟩ : ∃ v, okN ⟨n1, n2, n3⟩ = v := ⟨_, rfl⟩
  rw [h2]
  replace h2 := Lib.hid h2
  go_wp2_with fail
  refine (HT.out _).mono ?_
  rintro e wc ⟨rfl, hb_wc⟩
  have HB_wc : Below w.heap.size w wc := by first | exact after0 HB_wb hb_wc | exact after1 HB_wb hb_wc | exact after2 HB_wb hb_wc | exact after3 HB_wb hb_wc | exact after4 HB_wb hb_wc | exact after5 HB_wb hb_wc
  try clear q_n_0 q_n_1 q_n_2
  have H_n := Lib.hid (Box.below (by first | exact H_n.out | exact H_n.out.alloc _ | exact (H_n.out.alloc _).alloc _ | exact ((H_n.out.alloc _).alloc _).alloc _) hb_wc)
  obtain ⟨q_n_0, q_n_1, q_n_2⟩ := H_n.out.c3
  replace HS := Lib.hid (show Sl wc _ _ _ _ _ _ by first | exact HS.out.below hb_wc | exact (HS.out.below (grew1 (Below.refl _ _))).below hb_wc | exact (HS.out.below (grew2 (Below.refl _ _))).below hb_wc | exact (HS.out.below (grew3 (Below.refl _ _))).below hb_wc)
  obtain ⟨W1, hW1, hB1, hZ1, hb1⟩ := boxes1 wc [.int .i64 x, .int .i64 y] 25
  have H_s := Lib.hid hb1
  have HB_W1 : Below w.heap.size w W1 := after0 HB_wc hB1
  replace H_n := Lib.hid (H_n.out.below hB1)
  replace HS := Lib.hid (HS.out.below hB1)
  clear hb1 hZ1 hB1 q_n_0 q_n_1 q_n_2
  obtain ⟨q_s_0, q_s_1⟩ := H_s.out.c2
  obtain ⟨q_n_0, q_n_1, q_n_2⟩ := H_n.out.c3
  cases v1
  · have HP := Lib.hid (HBAD.out (.inl h1.out))
    clear h1 h2
    go_wp2_with fail
    go_ret2
    exact ⟨ret_pair HP.out, HB_W1⟩
  cases v2
  · have HP := Lib.hid (HBAD.out (.inr h2.out))
    clear h1 h2
    go_wp2_with fail
    go_ret2
    exact ⟨ret_pair HP.out, HB_W1⟩
  have HP := Lib.hid (HV.out h1.out h2.out)
  clear h1 h2 HBAD HV
  by_cases hq1 : q = 1
  · have HP2 := Lib.hid (HP.out.trans (if_pos (by omega)))
    subst hq1
    go_wp2_with fail
    go_ret2
    exact ⟨ret_pair HP2.out, HB_W1⟩
  have hq1' : (q == 1) = false := beq_eq_false_iff_ne.2 hq1
  clear hq1
  by_cases hq : q = 0
  case neg =>
    have HP2 := Lib.hid (HP.out.trans (if_pos hq))
    have hq2 : (q != 0) = true := bne_iff_ne.2 hq
    clear hq
    go_wp2_with fail
    go_ret2
    exact ⟨ret_pair HP2.out, HB_W1⟩
  subst hq
  have HP2 := Lib.hid (HP.out.trans (if_neg (by simp)))
  clear hq1'
  go_wp2_with fail
  refine (rsure_any _ _ _ l _ _ _ _ _ _ HS.out).mono ?_
  rintro e wd ⟨rfl, hb_wd⟩
  have HB_wd : Below w.heap.size w wd := by first | exact after0 HB_W1 hb_wd | exact after1 HB_W1 hb_wd | exact after2 HB_W1 hb_wd | exact after3 HB_W1 hb_wd | exact after4 HB_W1 hb_wd | exact after5 HB_W1 hb_wd
  clear hW1
  rw [← HP2.out]
  go_wp2_with fail
  go_ret2
  exact ⟨rfl, HB_wd⟩
end Go.Proofs.YtpdecgbfnhaojaaGreat
