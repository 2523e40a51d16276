/-
  Walks of the layer 'reuse': kept, possible, can, free (of one clock).
-/
import Derived.Test.YtpdecgbfnhaojaaGreatClkB
set_option linter.unusedVariables false
namespace Ck
open Nb (tm)
/-- is a time possible at some reading: -1 too early, 1 too late -/
def poss (c : Clk) (t : Int) : Int := if t < low c c.at_ then -1 else if high c 10000000 < t then 1 else 0
def kB (c : Clk) : Int := max 0 (min (low c c.at_) 10000001)
def kE (c : Clk) : Int := min (high c 10000000 + 1) 10000001
theorem low_bd {c : Clk} (h : okC c = true) : -100000 ≤ low c c.at_ ∧ low c c.at_ ≤ 10100000 ∧ low c c.at_ = c.at_ + c.lo := by
  have h0 := slip_zero c
  have h1 := okC_iff.1 h
  unfold low; omega
theorem poss_begin {c : Clk} (h : okC c = true) {x : Int} (h0 : 0 ≤ x) (h1 : x < 10000001) : decide (0 ≤ poss c x) = decide (kB c ≤ x) := by
  rw [decide_eq_decide]
  have := low_bd h
  unfold poss kB
  split
  · omega
  · split <;> omega
theorem poss_end {c : Clk} (h : okC c = true) {x : Int} (h0 : 0 ≤ x) (h1 : x < 10000001) : decide (0 < poss c x) = decide (kE c ≤ x) := by
  rw [decide_eq_decide]
  have h2 := okC_iff.1 h
  have h3 := low_high h (Int.le_refl c.at_)
  have h4 := high_mono h (Int.le_refl c.at_) (s := 10000000) (by omega)
  unfold poss kE
  split
  · omega
  · split <;> omega
theorem free_le {c : Clk} (h : okC c = true) (x : Int) : freeC c x ≤ kE c ∧ kE c ≤ 10000001 ∧ 0 ≤ kB c ∧ 0 ≤ kE c ∧ kB c ≤ 10000001 := by
  have h2 := okC_iff.1 h
  have h5 := high_most h
  have hb := freeC_bd c x
  refine ⟨?_, by unfold kE; omega, by unfold kB; omega, by unfold kE; omega, by unfold kB; omega⟩
  unfold freeC kE at *
  split
  · omega
  · have := high_mono h (r := min x 10000000) (s := 10000000) (by omega) (by omega)
    omega
/-- the cases of 'free' -/
theorem free_same {c : Clk} (h : okC c = true) (x : Int) (he : kB c = kE c) : freeC c x = 0 := by
  have h2 := okC_iff.1 h
  have h3 := low_high h (Int.le_refl c.at_)
  have h4 := high_mono h (Int.le_refl c.at_) (s := 10000000) (by omega)
  have h5 := high_most h
  unfold kB kE at he
  unfold freeC
  rw [if_pos (by omega)]
theorem free_no {c : Clk} (h : okC c = true) {x : Int} (he : kB c ≠ kE c) (hn : ¬ (low c c.at_ ≤ kB c ∧ kB c < freeC c x)) : freeC c x = 0 := by
  have hb := freeC_bd c x
  rcases Int.lt_or_le 0 (freeC c x) with hp | hp
  · exfalso
    obtain ⟨b1, b2⟩ := freeC_last h hp
    have h1 := Nb.tm_iff.1 b1
    have h2 := free_le h x
    apply hn
    unfold kB at *
    omega
  · omega
theorem free_yes {c : Clk} (h : okC c = true) {x : Int} (hn : low c c.at_ ≤ kB c ∧ kB c < freeC c x) (n : Int) (h0 : 0 ≤ n) (h1 : n < kE c - kB c) :
    decide (low c c.at_ ≤ kB c + n ∧ kB c + n < freeC c x) = !decide (freeC c x - kB c ≤ n) := by
  rw [← decide_not, decide_eq_decide]
  omega
theorem free_ne {c : Clk} (h : okC c = true) (he : kB c ≠ kE c) : kB c ≤ 10000000 := by
  have h2 := okC_iff.1 h
  have h3 := low_high h (Int.le_refl c.at_)
  have h4 := high_mono h (Int.le_refl c.at_) (s := 10000000) (by omega)
  have h5 := high_most h
  unfold kB kE at *
  omega
end Ck
namespace Go.Proofs.YtpdecgbfnhaojaaGreat
open Go.RowKit Nb Sk Ck Go.Sort

theorem time_any (t : Int) (w : World) : Calls Tryz.prog 47 #[.int .i64 t] w (Ret w (.bool (tm t))) := by
  go_enter Tryz.func47, Tryz.ntmps47
  go_wp2
  all_goals
    go_ret
    refine ⟨ret_bool ?_, (Below.refl _ _)⟩
    simp [tm]; omega

theorem kept_any (u k : Int) (w : World) : Calls Tryz.prog 19 #[.int .i64 u, .int .i64 k] w (Ret w (.bool (kept u k))) := by
  have HS := Lib.hid (show kept u k = (tm u && decide (0 ≤ k ∧ k ≤ 100000)) from rfl)
  have HB_w : Below w.heap.size w w := Below.refl _ _
  generalize kept u k = v at *
  go_enter Tryz.func19, Tryz.ntmps19
  go_wp2_with fail
  refine (time_any _ _).mono ?_
  rintro e wa ⟨rfl, hb_wa⟩
  have HB_wa : Below w.heap.size w wa := by first | exact after0 HB_w hb_wa | exact after1 HB_w hb_wa | exact after2 HB_w hb_wa | exact after3 HB_w hb_wa | exact after4 HB_w hb_wa | exact after5 HB_w hb_wa
  cases h1 : tm u
  all_goals
    rw [h1] at HS
    clear h1
    go_wp2_with fail
  all_goals
    go_ret
    refine ⟨ret_bool ?_, HB_wa⟩
    rw [HS.out]
    simp; try omega

set_option maxRecDepth 100000 in
set_option maxHeartbeats 2000000 in
theorem possible_any (c : Clk) (t : Int) (w : World) (h : okC c = true) (ht : tm t = true) : Calls Tryz.prog 51 #[eC c, .int .i64 t] w (Ret w (.int .i64 (poss c t))) := by
  have HC := Lib.hid (fun W => shows_any c t W)
  have HP := Lib.hid (show poss c t = if t < low c c.at_ then -1 else if high c 10000000 < t then 1 else 0 from rfl)
  have hS := shows_cases h ht
  have hlb := low_bd h
  have ho := okC_iff.1 h
  have htm := tm_iff.1 ht
  generalize poss c t = p at *
  generalize shows c t = s at *
  obtain ⟨⟨s0, s1⟩, s2⟩ := s
  obtain ⟨a, b, d, e⟩ := c
  dsimp only at *
  obtain ⟨W0, hW0, HB_W0, hZ, hn⟩ := boxes1 w [.int .i64 a, .int .i64 b, .int .i64 d, .int .i64 e] 27
  have H_c := Lib.hid hn
  clear hn hZ
  rcases hS with ⟨h1, h2, h3, h4, h5⟩ | ⟨h1, h3⟩
  · have HP2 := Lib.hid (show p = 0 by rw [HP.out, if_neg (by omega), if_neg (by omega)])
    simp only [Prod.mk.injEq] at h3
    obtain ⟨⟨rfl, rfl⟩, rfl⟩ := h3
    clear h1 h2 h4 h5 HP hlb ho h ht htm
    obtain ⟨q_c_0, q_c_1, q_c_2, q_c_3⟩ := H_c.out.c4
    go_enter Tryz.func51, Tryz.ntmps51
    go_wp2_with fail
    refine (HC.out _).mono ?_
    rintro e wa ⟨rfl, hb_wa⟩
    have HB_wa : Below w.heap.size w wa := by first | exact after0 HB_W0 hb_wa | exact after1 HB_W0 hb_wa | exact after2 HB_W0 hb_wa | exact after3 HB_W0 hb_wa | exact after4 HB_W0 hb_wa | exact after5 HB_W0 hb_wa
    try clear q_c_0 q_c_1 q_c_2 q_c_3
    have H_c := Lib.hid (Box.below (by first | exact H_c.out | exact H_c.out.alloc _ | exact (H_c.out.alloc _).alloc _ | exact ((H_c.out.alloc _).alloc _).alloc _) hb_wa)
    obtain ⟨q_c_0, q_c_1, q_c_2, q_c_3⟩ := H_c.out.c4
    clear hW0
    go_wp2_with fail
    go_ret
    exact ⟨ret_int HP2.out.symm, grew1 HB_wa⟩
  · simp only [Prod.mk.injEq] at h3
    obtain ⟨⟨rfl, rfl⟩, rfl⟩ := h3
    obtain ⟨hl1, hl2, hl3⟩ := hlb
    rw [hl3] at h1 HP
    have hab : -100000 ≤ a + b ∧ a + b ≤ 10100000 := by omega
    clear hl1 hl2 hl3 h ht ho
    by_cases hlt : t < a + b
    · have HP2 := Lib.hid (show p = -1 by rw [HP.out, if_pos hlt])
      clear h1 HP
      obtain ⟨q_c_0, q_c_1, q_c_2, q_c_3⟩ := H_c.out.c4
      go_enter Tryz.func51, Tryz.ntmps51
      go_wp2_with fail
      refine (HC.out _).mono ?_
      rintro e wa ⟨rfl, hb_wa⟩
      have HB_wa : Below w.heap.size w wa := by first | exact after0 HB_W0 hb_wa | exact after1 HB_W0 hb_wa | exact after2 HB_W0 hb_wa | exact after3 HB_W0 hb_wa | exact after4 HB_W0 hb_wa | exact after5 HB_W0 hb_wa
      try clear q_c_0 q_c_1 q_c_2 q_c_3
      have H_c := Lib.hid (Box.below (by first | exact H_c.out | exact H_c.out.alloc _ | exact (H_c.out.alloc _).alloc _ | exact ((H_c.out.alloc _).alloc _).alloc _) hb_wa)
      obtain ⟨q_c_0, q_c_1, q_c_2, q_c_3⟩ := H_c.out.c4
      clear hW0
      clear q_c_0 q_c_1 q_c_2 q_c_3
      obtain ⟨q0, q1, q2, q3⟩ := (H_c.out.alloc (.cells #[.int .i64 0, .int .i64 0] 25)).c4
      go_wp2_with fail
      go_ret
      exact ⟨ret_int HP2.out.symm, grew1 HB_wa⟩
    · have HP2 := Lib.hid (show p = 1 by rw [HP.out, if_neg hlt, if_pos (by omega)])
      replace hlt := Int.not_lt.1 hlt
      clear h1 HP
      obtain ⟨q_c_0, q_c_1, q_c_2, q_c_3⟩ := H_c.out.c4
      go_enter Tryz.func51, Tryz.ntmps51
      go_wp2_with fail
      refine (HC.out _).mono ?_
      rintro e wa ⟨rfl, hb_wa⟩
      have HB_wa : Below w.heap.size w wa := by first | exact after0 HB_W0 hb_wa | exact after1 HB_W0 hb_wa | exact after2 HB_W0 hb_wa | exact after3 HB_W0 hb_wa | exact after4 HB_W0 hb_wa | exact after5 HB_W0 hb_wa
      try clear q_c_0 q_c_1 q_c_2 q_c_3
      have H_c := Lib.hid (Box.below (by first | exact H_c.out | exact H_c.out.alloc _ | exact (H_c.out.alloc _).alloc _ | exact ((H_c.out.alloc _).alloc _).alloc _) hb_wa)
      obtain ⟨q_c_0, q_c_1, q_c_2, q_c_3⟩ := H_c.out.c4
      clear hW0
      clear q_c_0 q_c_1 q_c_2 q_c_3
      obtain ⟨q0, q1, q2, q3⟩ := (H_c.out.alloc (.cells #[.int .i64 0, .int .i64 0] 25)).c4
      go_wp2_with fail
      go_ret
      exact ⟨ret_int HP2.out.symm, grew1 HB_wa⟩

/-- can, as a plain test -/
def canB (c : Clk) (x t : Int) : Bool := decide (low c c.at_ ≤ t ∧ t < freeC c x)

set_option maxRecDepth 100000 in
set_option maxHeartbeats 2000000 in
theorem can_any (c : Clk) (u k t : Int) (w : World) (h : okC c = true) (ht : tm t = true) (hk : kept u k = true) : Calls Tryz.prog 53 #[eC c, .int .i64 u, .int .i64 k, .int .i64 t] w (Ret w (.bool (canB c (u + k) t))) := by
  have HC := Lib.hid (fun W => shows_any c t W)
  have hkp := kept_iff.1 hk
  obtain ⟨k1, k2, k3, k4⟩ := hkp
  have HP := Lib.hid (can_iff h ht (x := u + k) (by omega))
  have HB := Lib.hid (show canB c (u + k) t = true ↔ (low c c.at_ ≤ t ∧ t < freeC c (u + k)) by simp [canB])
  generalize canB c (u + k) t = p at *
  generalize shows c t = s at *
  obtain ⟨⟨s0, s1⟩, s2⟩ := s
  obtain ⟨a, b, d, e⟩ := c
  dsimp only at *
  obtain ⟨W0, hW0, HB_W0, hZ, hn⟩ := boxes1 w [.int .i64 a, .int .i64 b, .int .i64 d, .int .i64 e] 27
  have H_c := Lib.hid hn
  clear hn hZ h ht hk
  obtain ⟨q_c_0, q_c_1, q_c_2, q_c_3⟩ := H_c.out.c4
  go_enter Tryz.func53, Tryz.ntmps53
  go_wp2_with fail
  refine (HC.out _).mono ?_
  rintro e wa ⟨rfl, hb_wa⟩
  have HB_wa : Below w.heap.size w wa := by first | exact after0 HB_W0 hb_wa | exact after1 HB_W0 hb_wa | exact after2 HB_W0 hb_wa | exact after3 HB_W0 hb_wa | exact after4 HB_W0 hb_wa | exact after5 HB_W0 hb_wa
  try clear q_c_0 q_c_1 q_c_2 q_c_3
  have H_c := Lib.hid (Box.below (by first | exact H_c.out | exact H_c.out.alloc _ | exact (H_c.out.alloc _).alloc _ | exact ((H_c.out.alloc _).alloc _).alloc _) hb_wa)
  obtain ⟨q_c_0, q_c_1, q_c_2, q_c_3⟩ := H_c.out.c4
  clear hW0 q_c_0 q_c_1 q_c_2 q_c_3
  obtain ⟨W1, hW1, hB1, hZ1, hb1⟩ := boxes1 wa [.int .i64 s0, .int .i64 s1] 25
  have H_s := Lib.hid hb1
  have HB_W1 : Below w.heap.size w W1 := after0 HB_wa hB1
  clear hb1 hZ1 hB1
  obtain ⟨q_s_0, q_s_1⟩ := H_s.out.c2
  by_cases h2 : s2 = 0
  · subst h2
    go_wp2_with fail
    go_ret
    refine ⟨ret_bool ?_, HB_W1⟩
    rw [HB.out, ← HP.out]
    simp
  · have h3 : (s2 == 0) = false := beq_eq_false_iff_ne.2 h2
    have HN := Lib.hid h2
    clear h2
    go_wp2_with fail
    go_ret
    refine ⟨ret_bool ?_, HB_W1⟩
    rw [HB.out, ← HP.out]
    have := HN.out
    simp [this]
set_option maxRecDepth 100000 in
theorem free1_any (c : Clk) (x : Int) (N T : Nat) (w : World) (h : okC c = true) (hx : tm x = true) (hc : Box w N T (cC c)) : Calls Tryz.prog 50 #[.int .i64 x, .pointer (some ⟨N, 0, none⟩)] w (Ret w (.bool (decide (0 ≤ poss c x)))) := by
  have HC := Lib.hid (fun W => possible_any c x W h hx)
  have H_c := Lib.hid hc
  have HB_w : Below w.heap.size w w := Below.refl _ _
  obtain ⟨a, b, d, e⟩ := c
  generalize poss ⟨a, b, d, e⟩ x = v at *
  clear hc h hx
  obtain ⟨q_c_0, q_c_1, q_c_2, q_c_3⟩ := H_c.out.c4
  go_enter Tryz.func50, Tryz.ntmps50
  go_wp2_with fail
  refine (HC.out _).mono ?_
  rintro e wa ⟨rfl, hb_wa⟩
  have HB_wa : Below w.heap.size w wa := by first | exact after0 HB_w hb_wa | exact after1 HB_w hb_wa | exact after2 HB_w hb_wa | exact after3 HB_w hb_wa | exact after4 HB_w hb_wa | exact after5 HB_w hb_wa
  go_wp2_with fail
  go_ret
  exact ⟨rfl, HB_wa⟩
set_option maxRecDepth 100000 in
theorem free2_any (c : Clk) (x : Int) (N T : Nat) (w : World) (h : okC c = true) (hx : tm x = true) (hc : Box w N T (cC c)) : Calls Tryz.prog 52 #[.int .i64 x, .pointer (some ⟨N, 0, none⟩)] w (Ret w (.bool (decide (0 < poss c x)))) := by
  have HC := Lib.hid (fun W => possible_any c x W h hx)
  have H_c := Lib.hid hc
  have HB_w : Below w.heap.size w w := Below.refl _ _
  obtain ⟨a, b, d, e⟩ := c
  generalize poss ⟨a, b, d, e⟩ x = v at *
  clear hc h hx
  obtain ⟨q_c_0, q_c_1, q_c_2, q_c_3⟩ := H_c.out.c4
  go_enter Tryz.func52, Tryz.ntmps52
  go_wp2_with fail
  refine (HC.out _).mono ?_
  rintro e wa ⟨rfl, hb_wa⟩
  have HB_wa : Below w.heap.size w wa := by first | exact after0 HB_w hb_wa | exact after1 HB_w hb_wa | exact after2 HB_w hb_wa | exact after3 HB_w hb_wa | exact after4 HB_w hb_wa | exact after5 HB_w hb_wa
  go_wp2_with fail
  go_ret
  exact ⟨rfl, HB_wa⟩

set_option maxRecDepth 100000 in
theorem free3_any (c : Clk) (u k t x : Int) (NC NU NK NT TC TU TK TT : Nat) (w : World) (h : okC c = true) (hk : kept u k = true) (ht : 0 ≤ t) (hx : 0 ≤ x) (htx : t + x ≤ 10000000) (hc : Box w NC TC (cC c)) (h1 : Box w NU TU [.int .i64 u]) (h2 : Box w NK TK [.int .i64 k]) (h3 : Box w NT TT [.int .i64 t]) :
    Calls Tryz.prog 54 #[.int .i64 x, .pointer (some ⟨NC, 0, none⟩), .pointer (some ⟨NU, 0, none⟩), .pointer (some ⟨NK, 0, none⟩), .pointer (some ⟨NT, 0, none⟩)] w (Ret w (.bool (!canB c (u + k) (t + x)))) := by
  have HC := Lib.hid (fun W => can_any c u k (t + x) W h (tm_iff.2 ⟨by omega, htx⟩) hk)
  have H_c := Lib.hid hc
  have H_u := Lib.hid h1
  have H_k := Lib.hid h2
  have H_t := Lib.hid h3
  have HB_w : Below w.heap.size w w := Below.refl _ _
  obtain ⟨a, b, d, e⟩ := c
  generalize canB ⟨a, b, d, e⟩ (u + k) (t + x) = v at *
  clear hc h h1 h2 h3 hk
  obtain ⟨q_c_0, q_c_1, q_c_2, q_c_3⟩ := H_c.out.c4
  have q_u_0 := H_u.out.c1
  have q_k_0 := H_k.out.c1
  have q_t_0 := H_t.out.c1
  go_enter Tryz.func54, Tryz.ntmps54
  go_wp2_with fail
  refine (HC.out _).mono ?_
  rintro e wa ⟨rfl, hb_wa⟩
  have HB_wa : Below w.heap.size w wa := by first | exact after0 HB_w hb_wa | exact after1 HB_w hb_wa | exact after2 HB_w hb_wa | exact after3 HB_w hb_wa | exact after4 HB_w hb_wa | exact after5 HB_w hb_wa
  go_wp2_with fail
  go_ret
  exact ⟨rfl, HB_wa⟩

set_option maxRecDepth 100000 in
set_option maxHeartbeats 4000000 in
theorem freec_any (c : Clk) (u k : Int) (w : World) (h : okC c = true) (hk : kept u k = true) : Calls Tryz.prog 24 #[eC c, .int .i64 u, .int .i64 k] w (Ret w (.int .i64 (freeC c (u + k)))) := by
  obtain ⟨l1, l2, l3, l4, l5⟩ := free_le h (u + k)
  have hPB := @poss_begin c h
  have hPE := @poss_end c h
  have hSM := free_same h (u + k)
  have hNE := free_ne h
  have hNO := @free_no c h (u + k)
  have hYE := @free_yes c h (u + k)
  have hCA := fun t W (ht : tm t = true) => can_any c u k t W h ht hk
  have hF1 := fun x N T W hx hb => free1_any c x N T W h hx hb
  have hF2 := fun x N T W hx hb => free2_any c x N T W h hx hb
  have hF3 := fun t x NC NU NK NT TC TU TK TT W a1 a2 a3 a4 a5 a6 a7 => free3_any c u k t x NC NU NK NT TC TU TK TT W h hk a1 a2 a3 a4 a5 a6 a7
  have hfb := freeC_bd c (u + k)
  have HLB := Lib.hid (show canB c (u + k) (kB c) = decide (low c c.at_ ≤ kB c ∧ kB c < freeC c (u + k)) from rfl)
  have HCV := Lib.hid (show ∀ t, canB c (u + k) t = decide (low c c.at_ ≤ t ∧ t < freeC c (u + k)) from fun t => rfl)
  generalize freeC c (u + k) = p at *
  obtain ⟨a, b, d, e⟩ := c
  generalize hb : kB ⟨a, b, d, e⟩ = B at *
  generalize he : kE ⟨a, b, d, e⟩ = E at *
  obtain ⟨W0, hW0, HB_W0, hZ, hn, hf, ht⟩ := boxes3 w [.int .i64 a, .int .i64 b, .int .i64 d, .int .i64 e] [.int .i64 u] [.int .i64 k] 27 3 3
  have H_c := Lib.hid hn
  have H_u := Lib.hid hf
  have H_k : Hid (Box W0 (w.heap.size + 1 + 1) 3 [.int .i64 k]) := ht
  have HS1 := Lib.hid (show ∀ W, Below W0.heap.size W0 W → Calls Tryz.prog 49 #[.int .i64 10000001, .func (.func 50) #[] #[.pointer (some ⟨w.heap.size, 0, none⟩)]] W (Ret W (.int .i64 B)) from fun W hW => by
    refine search_any 10000001 B 50 #[] _ W (by omega) (by omega) (by omega) (fun W' x hW' hx1 hx2 => ?_) (by intro args w; kernel_rfl)
    have h := hF1 x _ _ W' (tm_iff.2 (by omega)) ((H_c.out.below hW).below hW')
    rw [hPB hx1 hx2] at h
    exact h)
  have HS2 := Lib.hid (show ∀ W, Below W0.heap.size W0 W → Calls Tryz.prog 49 #[.int .i64 10000001, .func (.func 52) #[] #[.pointer (some ⟨w.heap.size, 0, none⟩)]] W (Ret W (.int .i64 E)) from fun W hW => by
    refine search_any 10000001 E 52 #[] _ W (by omega) (by omega) (by omega) (fun W' x hW' hx1 hx2 => ?_) (by intro args w; kernel_rfl)
    have h := hF2 x _ _ W' (tm_iff.2 (by omega)) ((H_c.out.below hW).below hW')
    rw [hPE hx1 hx2] at h
    exact h)
  have HSM := Lib.hid hSM
  have HNE := Lib.hid hNE
  have HNO := Lib.hid hNO
  have HYE := Lib.hid hYE
  have HCA := Lib.hid hCA
  have HF3 := Lib.hid hF3
  obtain ⟨hfb1, hfb2⟩ := hfb
  clear hn hf ht hZ h hk hPB hPE hSM hNE hNO hYE hF1 hF2 hF3 hCA hb he
  go_enter Tryz.func24, Tryz.ntmps24
  go_wp2_with fail
  refine (HS1.out _ (Below.refl _ _)).mono ?_
  rintro e wa ⟨rfl, hb_wa⟩
  have HB_wa : Below w.heap.size w wa := by first | exact after0 HB_W0 hb_wa | exact after1 HB_W0 hb_wa | exact after2 HB_W0 hb_wa | exact after3 HB_W0 hb_wa | exact after4 HB_W0 hb_wa | exact after5 HB_W0 hb_wa
  try clear q_c_0 q_c_1 q_c_2 q_c_3
  have H_c := Lib.hid (Box.below (by first | exact H_c.out | exact H_c.out.alloc _ | exact (H_c.out.alloc _).alloc _ | exact ((H_c.out.alloc _).alloc _).alloc _) hb_wa)
  obtain ⟨q_c_0, q_c_1, q_c_2, q_c_3⟩ := H_c.out.c4
  try clear q_u_0
  have H_u := Lib.hid (Box.below (by first | exact H_u.out | exact H_u.out.alloc _ | exact (H_u.out.alloc _).alloc _ | exact ((H_u.out.alloc _).alloc _).alloc _) hb_wa)
  have q_u_0 := H_u.out.c1
  try clear q_k_0
  have H_k := Lib.hid (Box.below (by first | exact H_k.out | exact H_k.out.alloc _ | exact (H_k.out.alloc _).alloc _ | exact ((H_k.out.alloc _).alloc _).alloc _) hb_wa)
  have q_k_0 := H_k.out.c1
  clear hW0
  obtain ⟨W1, hW1, hB1, hZ1, hb1⟩ := boxes1 wa [.int .i64 B] 3
  have H_b := Lib.hid hb1
  have HB_W1 : Below w.heap.size w W1 := after0 HB_wa hB1
  have HBW : Hid (Below W0.heap.size W0 W1) := hb_wa.trans (hB1.mono hb_wa.size)
  replace H_c := Lib.hid (H_c.out.below hB1)
  replace H_u := Lib.hid (H_u.out.below hB1)
  replace H_k := Lib.hid (H_k.out.below hB1)
  clear hb1 hZ1 hB1 hb_wa q_c_0 q_c_1 q_c_2 q_c_3 q_u_0 q_k_0
  obtain ⟨q_c_0, q_c_1, q_c_2, q_c_3⟩ := H_c.out.c4
  have q_u_0 := H_u.out.c1
  have q_k_0 := H_k.out.c1
  have q_b_0 := H_b.out.c1
  go_wp2_with fail
  refine (HS2.out _ HBW.out).mono ?_
  rintro e wb ⟨rfl, hb_wb⟩
  have HB_wb : Below w.heap.size w wb := by first | exact after0 HB_W1 hb_wb | exact after1 HB_W1 hb_wb | exact after2 HB_W1 hb_wb | exact after3 HB_W1 hb_wb | exact after4 HB_W1 hb_wb | exact after5 HB_W1 hb_wb
  try clear q_c_0 q_c_1 q_c_2 q_c_3
  have H_c := Lib.hid (Box.below (by first | exact H_c.out | exact H_c.out.alloc _ | exact (H_c.out.alloc _).alloc _ | exact ((H_c.out.alloc _).alloc _).alloc _) hb_wb)
  obtain ⟨q_c_0, q_c_1, q_c_2, q_c_3⟩ := H_c.out.c4
  try clear q_u_0
  have H_u := Lib.hid (Box.below (by first | exact H_u.out | exact H_u.out.alloc _ | exact (H_u.out.alloc _).alloc _ | exact ((H_u.out.alloc _).alloc _).alloc _) hb_wb)
  have q_u_0 := H_u.out.c1
  try clear q_k_0
  have H_k := Lib.hid (Box.below (by first | exact H_k.out | exact H_k.out.alloc _ | exact (H_k.out.alloc _).alloc _ | exact ((H_k.out.alloc _).alloc _).alloc _) hb_wb)
  have q_k_0 := H_k.out.c1
  try clear q_b_0
  have H_b := Lib.hid (Box.below (by first | exact H_b.out | exact H_b.out.alloc _ | exact (H_b.out.alloc _).alloc _ | exact ((H_b.out.alloc _).alloc _).alloc _) hb_wb)
  have q_b_0 := H_b.out.c1
  clear hW1
  by_cases hBE : B = E
  · have HP := Lib.hid (HSM.out hBE)
    subst hBE
    go_wp2_with fail
    go_ret
    exact ⟨ret_int HP.out.symm, HB_wb⟩
  have hne : (B == E) = false := beq_eq_false_iff_ne.2 hBE
  replace HNO := Lib.hid (HNO.out hBE)
  have hB7 := HNE.out hBE
  clear HNE
  replace hBE := Lib.hid hBE
  go_wp2_with fail
  refine (HCA.out _ _ (tm_iff.2 ⟨l3, hB7⟩)).mono ?_
  rintro e wc ⟨rfl, hb_wc⟩
  have HB_wc : Below w.heap.size w wc := by first | exact after0 HB_wb hb_wc | exact after1 HB_wb hb_wc | exact after2 HB_wb hb_wc | exact after3 HB_wb hb_wc | exact after4 HB_wb hb_wc | exact after5 HB_wb hb_wc
  try clear q_c_0 q_c_1 q_c_2 q_c_3
  have H_c := Lib.hid (Box.below (by first | exact H_c.out | exact H_c.out.alloc _ | exact (H_c.out.alloc _).alloc _ | exact ((H_c.out.alloc _).alloc _).alloc _) hb_wc)
  obtain ⟨q_c_0, q_c_1, q_c_2, q_c_3⟩ := H_c.out.c4
  try clear q_u_0
  have H_u := Lib.hid (Box.below (by first | exact H_u.out | exact H_u.out.alloc _ | exact (H_u.out.alloc _).alloc _ | exact ((H_u.out.alloc _).alloc _).alloc _) hb_wc)
  have q_u_0 := H_u.out.c1
  try clear q_k_0
  have H_k := Lib.hid (Box.below (by first | exact H_k.out | exact H_k.out.alloc _ | exact (H_k.out.alloc _).alloc _ | exact ((H_k.out.alloc _).alloc _).alloc _) hb_wc)
  have q_k_0 := H_k.out.c1
  try clear q_b_0
  have H_b := Lib.hid (Box.below (by first | exact H_b.out | exact H_b.out.alloc _ | exact (H_b.out.alloc _).alloc _ | exact ((H_b.out.alloc _).alloc _).alloc _) hb_wc)
  have q_b_0 := H_b.out.c1
  rw [HLB.out]
  by_cases hc1 : low ⟨a, b, d, e⟩ a ≤ B ∧ B < p
  case neg =>
    have hd : decide (low ⟨a, b, d, e⟩ a ≤ B ∧ B < p) = false := decide_eq_false hc1
    have HP := Lib.hid (HNO.out hc1)
    rw [hd]
    clear hd hc1
    go_wp2_with fail
    go_ret
    exact ⟨ret_int HP.out.symm, HB_wc⟩
  have hd : decide (low ⟨a, b, d, e⟩ a ≤ B ∧ B < p) = true := decide_eq_true hc1
  rw [hd]
  have HY := Lib.hid (HYE.out hc1)
  obtain ⟨hc2, hc3⟩ := hc1
  clear hd HYE HNO HSM HLB hc2 hne
  have HS3 := Lib.hid (show ∀ W, Below wc.heap.size wc W → Calls Tryz.prog 49 #[.int .i64 (E - B), .func (.func 54) #[] #[.pointer (some ⟨w.heap.size, 0, none⟩), .pointer (some ⟨w.heap.size + 1, 0, none⟩), .pointer (some ⟨w.heap.size + 1 + 1, 0, none⟩), .pointer (some ⟨wa.heap.size, 0, none⟩)]] W (Ret W (.int .i64 (p - B))) from fun W hW => by
    refine search_any (E - B) (p - B) 54 #[] _ W (by omega) (by omega) (by omega) (fun W' x hW' hx1 hx2 => ?_) (by intro args w; kernel_rfl)
    have h := HF3.out B x _ _ _ _ _ _ _ _ W' l3 hx1 (by omega) ((H_c.out.below hW).below hW') ((H_u.out.below hW).below hW') ((H_k.out.below hW).below hW') ((H_b.out.below hW).below hW')
    rw [show canB ⟨a, b, d, e⟩ (u + k) (B + x) = !decide (p - B ≤ x) from by
      rw [HCV.out]; exact HY.out x hx1 hx2] at h
    simpa using h)
  go_wp2_with fail
  have y_q_b_0 := cell_regrown q_b_0
  clear q_b_0
  refine wp_region_plan (C := fun w' => ∃ p : Regrown, w' = grow (redrawn wc p.d) p.os) (.q 0 (.q 1 (.q 2 (.q 3 (.q 4 (.e 5 (.q 6 (.q 7 (.done))))))))) 8 (by kernel_rfl) (by kernel_rfl) (grew_drew _) ?_
  repeat (any_goals (first | (go_big_quiet_skip; refine wpQuiet_nil ?_) | (go_big_quiet_want; go_big_quiet_op; go_big_quiet_on; refine wpQuiet_nil ?_) | ((with_reducible apply q_split); exact rfl; intro q hq; cases q <;> (rw [hq]; (try first | replace hq := bnot_t hq | replace hq := bnot_f hq); (try first | replace hq := of_decide_eq_true hq | replace hq := of_decide_eq_false hq | replace hq := eq_of_beq hq); (try first | replace hq := Int.not_lt.1 hq | replace hq := Int.not_le.1 hq | replace hq := Nat.not_lt.1 hq | replace hq := Nat.not_le.1 hq); try (exfalso; omega))) | (refine plan_q rfl rfl ?_)))
  refine plan_e rfl ?_
  go_wp2_with fail
  refine (HS3.out _ below_drew).mono ?_
  rintro e w5 ⟨rfl, hb_w5⟩
  have HW_w5 : Below wc.heap.size wc w5 := below_undrew hb_w5
  clear hb_w5
  go_wp2_with fail
  refine MixPost.intro (grew_of_below HW_w5) ?_
  repeat (any_goals (first | (go_big_quiet_skip; refine wpQuiet_nil ?_) | (go_big_quiet_want; go_big_quiet_op; go_big_quiet_on; refine wpQuiet_nil ?_) | ((with_reducible apply q_split); exact rfl; intro q hq; cases q <;> (rw [hq]; (try first | replace hq := bnot_t hq | replace hq := bnot_f hq); (try first | replace hq := of_decide_eq_true hq | replace hq := of_decide_eq_false hq | replace hq := eq_of_beq hq); (try first | replace hq := Int.not_lt.1 hq | replace hq := Int.not_le.1 hq | replace hq := Nat.not_lt.1 hq | replace hq := Nat.not_le.1 hq); try (exfalso; omega))) | (refine plan_q rfl rfl ?_)))
  clear y_q_b_0
  all_goals refine plan_done ?_
  all_goals (try simp only [List.drop_succ_cons, List.drop_zero])
  all_goals (try go_wp2_with fail)
  all_goals refine NoPanic.normal ?_
  all_goals (try go_wp2_with fail)
  go_ret
  exact ⟨ret_int (by omega), after0 HB_wc HW_w5⟩
end Go.Proofs.YtpdecgbfnhaojaaGreat
