/-
  Walks of the layer 'symbol': number, valid, Valid, fits, Compare, BinarySearchFunc, find, marks.
-/
import Derived.Test.YtmnlkndbdcdngaaProg
import Derived.WalkKit
import Derived.WalkLawsBesides
import Derived.WalkSpells
import Derived.BigGuardPart
import Derived.Test.YtmnlkndbdcdngaaPlan
import Derived.Test.YtmnlkndbdcdngaaApp
import Derived.Test.YtmnlkndbdcdngaaStore
import Derived.Test.YtmnlkndbdcdngaaSb
namespace Go.Proofs.Ytmnlkndbdcdngaa
open Go.RowKit Sb Sk Go.Sort
set_option linter.unusedVariables false

abbrev cM (m : Mk) : List Value := [.int .i64 m.sy, .int .i64 m.kd, .int .i64 m.cl]
abbrev eM (m : Mk) : Value := .agg #[.int .i64 m.sy, .int .i64 m.kd, .int .i64 m.cl]
theorem cM_len (m : Mk) : (cM m).length = 3 := rfl


theorem number_any (n : Int) (w : World) : Calls Try.prog 30 #[.int .i64 n] w (Ret w (.bool (okS n))) := by
  go_enter Try.func30, Try.ntmps30
  go_wp2
  all_goals
    go_ret
    refine ⟨ret_bool ?_, Below.refl _ _⟩
    simp [okS]; omega

theorem valid_any (a b c : Int) (w : World) : Calls Try.prog 28 #[.agg #[.int .i64 a, .int .i64 b, .int .i64 c]] w (Ret w (.bool (okM ⟨a, b, c⟩))) := by
  obtain ⟨W0, hW0, HB_W0, hZ, hn⟩ := boxes1 w [.int .i64 a, .int .i64 b, .int .i64 c] 29
  have H_n := Lib.hid hn
  clear hn
  obtain ⟨q_n_0, q_n_1, q_n_2⟩ := H_n.out.c3
  go_enter Try.func28, Try.ntmps28
  go_wp2_with fail
  refine (number_any _ _).mono ?_
  rintro e wa ⟨rfl, hb_wa⟩
  have HB_wa : Below w.heap.size w wa := by first | exact after0 HB_W0 hb_wa | exact after1 HB_W0 hb_wa | exact after2 HB_W0 hb_wa | exact after3 HB_W0 hb_wa | exact after4 HB_W0 hb_wa | exact after5 HB_W0 hb_wa
  try clear q_n_0 q_n_1 q_n_2
  have H_n := Lib.hid (Box.below (by first | exact H_n.out | exact H_n.out.alloc _ | exact (H_n.out.alloc _).alloc _ | exact ((H_n.out.alloc _).alloc _).alloc _) hb_wa)
  obtain ⟨q_n_0, q_n_1, q_n_2⟩ := H_n.out.c3
  clear hW0
  cases h1 : okS a
  · go_wp2_with fail
    go_ret
    refine ⟨ret_bool ?_, HB_wa⟩
    unfold okS at h1
    have := of_decide_eq_false h1
    simp [okM]; omega
  · have h2 := okS_iff.1 h1
    go_wp2_with fail
    all_goals
      go_ret
      refine ⟨ret_bool ?_, HB_wa⟩
      simp [okM]; omega

theorem fits_any (a b c a' b' c' : Int) (w : World) : Calls Try.prog 43 #[.agg #[.int .i64 a, .int .i64 b, .int .i64 c], .agg #[.int .i64 a', .int .i64 b', .int .i64 c']] w (Ret w (.bool (fitB ⟨a, b, c⟩ ⟨a', b', c'⟩))) := by
  go_enter Try.func43, Try.ntmps43
  go_wp2
  all_goals
    go_ret
    refine ⟨ret_bool ?_, grew2 (Below.refl _ _)⟩
    simp [fitB, *]
  all_goals omega

set_option maxHeartbeats 1000000 in
theorem bvalid_any (of : Int) (ao : Option Addr) (n cap : Nat) (ms : List Mk) (w : World) (hs : Sl w 3 cM ao n cap ms) :
    Calls Try.prog 12 #[.agg #[.int .i64 of, .slice ao n cap]] w (Ret w (.bool (okB of ms))) := by
  obtain rfl := hs.len
  have hcap := hs.max
  have hle := hs.le
  unfold maxLen at hcap
  have HS := Lib.hid hs
  clear hs
  obtain ⟨W0, hW0, HB_W0, hZ, hn⟩ := boxes1 w [.int .i64 of, .slice ao ms.length cap] 24
  have H_n := Lib.hid hn
  clear hn
  obtain ⟨q_n_0, q_n_1⟩ := H_n.out.c2
  by_cases h1 : 1 ≤ of ∧ of ≤ 20 ∧ ms.length ≤ 100
  case neg =>
    have HF : Hid (okB of ms = false) := by
      show _ = _
      rw [Bool.eq_false_iff]
      intro h
      have := okB_iff.1 h
      exact h1 ⟨this.1.1, this.1.2, this.2.len⟩
    have h2 : of < 1 ∨ (1 ≤ of ∧ 20 < of) ∨ (1 ≤ of ∧ of ≤ 20 ∧ 100 < ms.length) := by omega
    clear h1
    rcases h2 with h | ⟨h, h'⟩ | ⟨h, h', h''⟩
    all_goals
      go_enter Try.func12, Try.ntmps12
      go_wp2
      all_goals first
        | (exfalso; omega)
        | (go_ret
           exact ⟨ret_bool' HF.out.symm, HB_W0⟩)
  obtain ⟨g1, g2, g3⟩ := h1
  have HG : Hid (okB of ms = vgo (-1) (ms.drop 0)) := by
    show _ = _
    simp [okB, g1, g2, g3]
  generalize okB of ms = res at *
  go_enter Try.func12, Try.ntmps12
  go_wp2_with fail
  all_goals try (exfalso; omega)
  clear hW0 q_n_0 q_n_1
  go_loopw [3, 23] (fun la i wr => ∃ (k : Nat) (last : Int), k ≤ ms.length ∧ i = .int .i64 k ∧ la = .int .i64 last ∧ Below w.heap.size w wr ∧ Hid (res = vgo last (ms.drop k))) (fun _ i _ => ms.length - (intOf i).toNat)
  case atStart => exact ⟨0, -1, by omega, rfl, rfl, HB_W0, HG⟩
  case round =>
    obtain ⟨k, last, hk, rfl, rfl, HB_wr, HR⟩ := hrel
    by_cases hkl : k < ms.length
    · have HST := Lib.hid (show res = (okM ms[k] && decide (last < ms[k].sy) && vgo ms[k].sy (ms.drop (k + 1))) by rw [HR.out, List.drop_eq_getElem_cons hkl]; rfl)
      obtain ⟨bb, off, rfl, hbb, hrow⟩ := HS.out.get hkl
      obtain ⟨e0, e1, e2⟩ := ((hrow k hkl).below HB_wr hbb).c3
      clear hrow
      generalize ms[k] = m at *
      obtain ⟨a, b, c⟩ := m
      dsimp only at e0 e1 e2 HST
      obtain ⟨W1, hW1, hB_W1, hZ_W1, hb_W1⟩ := boxes1 wr [.int .i64 a, .int .i64 b, .int .i64 c] 29
      obtain ⟨Nx, hNx⟩ : ∃ N, wr.heap.size = N := ⟨_, rfl⟩
      rw [hNx] at hb_W1
      have H_x := Lib.hid hb_W1
      have HB_W1 : Below w.heap.size w W1 := after0 HB_wr hB_W1
      have HN_x : w.heap.size ≤ Nx := hNx ▸ HB_wr.size
      clear hb_W1 hZ_W1
      obtain ⟨q_x_0, q_x_1, q_x_2⟩ := H_x.out.c3
      go_wp2_with fail
      refine (valid_any a b c _).mono ?_
      rintro e w2 ⟨rfl, hb_w2⟩
      have HB_w2 : Below w.heap.size w w2 := by first | exact after0 HB_W1 hb_w2 | exact after1 HB_W1 hb_w2 | exact after2 HB_W1 hb_w2 | exact after3 HB_W1 hb_w2 | exact after4 HB_W1 hb_w2 | exact after5 HB_W1 hb_w2
      try clear q_x_0 q_x_1 q_x_2
      have H_x := Lib.hid (Box.below (by first | exact H_x.out | exact H_x.out.alloc _ | exact (H_x.out.alloc _).alloc _ | exact ((H_x.out.alloc _).alloc _).alloc _) hb_w2)
      obtain ⟨q_x_0, q_x_1, q_x_2⟩ := H_x.out.c3
      clear hW1 hNx e0 e1 e2
      cases hv : okM ⟨a, b, c⟩
      · have HF := Lib.hid (show res = false by rw [HST.out, hv]; rfl)
        go_wp2_with fail
        go_ret
        exact ⟨ret_bool' HF.out.symm, HB_w2⟩
      · by_cases hlt : last < a
        · have HF := Lib.hid (show res = vgo a (ms.drop (k + 1)) by rw [HST.out, hv]; simp [hlt])
          go_wp2_with fail
          go_roundw
          case rel => exact ⟨k + 1, a, by omega, by go_num, rfl, HB_w2, HF⟩
          case measure => simp [intOf]; omega
        · have HF := Lib.hid (show res = false by rw [HST.out, hv]; simp [hlt])
          have hle2 : a ≤ last := by omega
          go_wp2_with fail
          go_ret
          exact ⟨ret_bool' HF.out.symm, HB_w2⟩
    · have HF := Lib.hid (show res = true by rw [HR.out, List.drop_eq_nil_of_le (by omega)]; rfl)
      go_wp2_with fail
      go_ret
      exact ⟨ret_bool' HF.out.symm, HB_wr⟩

theorem isNaN_any (n : Int) (w : World) : Calls Try.prog 45 #[.int .i64 n] w (Ret w (.bool false)) := by
  go_enter Try.func45, Try.ntmps45
  go_wp2
  go_ret
  exact ⟨rfl, Below.refl _ _⟩
def cmp3 (a b : Int) : Int := if a < b then -1 else if b < a then 1 else 0
theorem compare_any (a b : Int) (w : World) : Calls Try.prog 41 #[.int .i64 a, .int .i64 b] w (Ret w (.int .i64 (cmp3 a b))) := by
  have HC : Hid (cmp3 a b = if a < b then -1 else if b < a then 1 else 0) := rfl
  generalize cmp3 a b = r at *
  have HB_w : Below w.heap.size w w := Below.refl _ _
  go_enter Try.func41, Try.ntmps41
  go_wp2_with fail
  refine (isNaN_any _ _).mono ?_
  rintro e wa ⟨rfl, hb_wa⟩
  have HB_wa : Below w.heap.size w wa := by first | exact after0 HB_w hb_wa | exact after1 HB_w hb_wa | exact after2 HB_w hb_wa | exact after3 HB_w hb_wa | exact after4 HB_w hb_wa | exact after5 HB_w hb_wa
  go_wp2_with fail
  refine (isNaN_any _ _).mono ?_
  rintro e wb ⟨rfl, hb_wb⟩
  have HB_wb : Below w.heap.size w wb := by first | exact after0 HB_wa hb_wb | exact after1 HB_wa hb_wb | exact after2 HB_wa hb_wb | exact after3 HB_wa hb_wb | exact after4 HB_wa hb_wb | exact after5 HB_wa hb_wb
  rcases Int.lt_trichotomy a b with h | h | h
  · have HD := Lib.hid (HC.out.trans (if_pos h))
    go_wp2_with fail
    go_ret
    exact ⟨ret_int HD.out.symm, HB_wb⟩
  · have HD := Lib.hid (HC.out.trans ((if_neg (by omega)).trans (if_neg (by omega))))
    subst h
    go_wp2_with fail
    go_ret
    exact ⟨ret_int HD.out.symm, HB_wb⟩
  · have HD := Lib.hid (HC.out.trans ((if_neg (by omega)).trans (if_pos h)))
    have h' : ¬ a < b := by omega
    go_wp2_with fail
    go_ret
    exact ⟨ret_int HD.out.symm, HB_wb⟩
theorem find1_any (a b c n : Int) (w : World) : Calls Try.prog 40 #[.agg #[.int .i64 a, .int .i64 b, .int .i64 c], .int .i64 n] w (Ret w (.int .i64 (cmp3 a n))) := by
  obtain ⟨W0, hW0, HB_W0, hZ, hn⟩ := boxes1 w [.int .i64 a, .int .i64 b, .int .i64 c] 29
  have H_n := Lib.hid hn
  clear hn
  obtain ⟨q_n_0, q_n_1, q_n_2⟩ := H_n.out.c3
  go_enter Try.func40, Try.ntmps40
  go_wp2_with fail
  refine (compare_any _ _ _).mono ?_
  rintro e wa ⟨rfl, hb_wa⟩
  have HB_wa : Below w.heap.size w wa := by first | exact after0 HB_W0 hb_wa | exact after1 HB_W0 hb_wa | exact after2 HB_W0 hb_wa | exact after3 HB_W0 hb_wa | exact after4 HB_W0 hb_wa | exact after5 HB_W0 hb_wa
  try clear q_n_0 q_n_1 q_n_2
  have H_n := Lib.hid (Box.below (by first | exact H_n.out | exact H_n.out.alloc _ | exact (H_n.out.alloc _).alloc _ | exact ((H_n.out.alloc _).alloc _).alloc _) hb_wa)
  obtain ⟨q_n_0, q_n_1, q_n_2⟩ := H_n.out.c3
  clear hW0
  go_wp2_with fail
  go_ret
  exact ⟨rfl, HB_wa⟩
end Go.Proofs.Ytmnlkndbdcdngaa
