/-
  Walks of the layer 'schedule': up, down, Push and Pop of the heap.
-/
import Derived.Test.YtheioedggjbphaaScD
set_option linter.unusedVariables false
namespace Go.Proofs.Ytheioedggjbphaa
open Go Go.RowKit Sc Sk Go.Sort
theorem hq_len {B base : Nat} {a v : Value} {q : List Nat} {w : World} (h : HQ w B base a v q) : Calls Try.prog 111 #[.pointer (some ⟨B, 0, none⟩)] w (Ret w (.int .i64 q.length)) := by
  obtain ⟨o, c, e, hs⟩ := h.own.sl cN_len
  subst e
  exact len_any B a o q.length c w h.box
theorem hq_first {B base : Nat} {a v : Value} {q : List Nat} {w : World} (h : HQ w B base a v q) (hq : 0 < q.length) : Calls Try.prog 110 #[.pointer (some ⟨B, 0, none⟩)] w (Ret w (.int .i64 (at_ q 0))) := by
  obtain ⟨o, c, e, hs⟩ := h.own.sl cN_len
  subst e
  exact first_any B a o q.length c q w h.box hs hq
theorem hq_less {B base : Nat} {v : Value} {q : List Nat} {w : World} {jo : Option Addr} {n cap : Nat} {J : List Jb} (h : HQ w B base (.slice jo n cap) v q) (hj : Sl w 4 cJ jo n cap J) {i k : Nat} (hi : i < q.length) (hk : k < q.length) (hq : ∀ x ∈ q, x < J.length) :
    Calls Try.prog 112 #[.pointer (some ⟨B, 0, none⟩), .int .i64 i, .int .i64 k] w (Ret w (.bool (less J (at_ q i) (at_ q k)))) := by
  obtain ⟨o, c, e, hs⟩ := h.own.sl cN_len
  subst e
  exact less_any B jo n cap J o q.length c q i k w h.box hj hs hi hk hq
set_option maxRecDepth 100000 in
set_option maxHeartbeats 4000000 in
theorem up_any (B base : Nat) (jo : Option Addr) (n cap : Nat) (J : List Jb) (v : Value) (q : List Nat) (j : Nat) (w : World) (h : HQ w B base (.slice jo n cap) v q) (hB : B < base) (hBs : B < w.heap.size) (hJ : ∀ W, Below B w W → Sl W 4 cJ jo n cap J)
    (hq : ∀ x ∈ q, x < J.length) (hl : q.length ≤ 1000) (hu : UpInv (le J) q q.length j) :
    Calls Try.prog 65 #[qw B, .int .i64 j] w (fun e w' => e = .returned (.tuple #[]) ∧ ∃ q', HQ w' B base (.slice jo n cap) v q' ∧ HK w w' B v v ∧ Heap (le J) q' q'.length ∧ q'.Perm q) := by
  have HH := Lib.hid h
  have HJ := Lib.hid hJ
  have HQX := Lib.hid hq
  have HU := Lib.hid hu
  have hl1 := fun x y w => m_less B x y w
  have hl2 := fun x y w => m_swap B x y w
  have hj := hu.lt
  clear h hJ hq hu
  go_enter Try.func65, Try.ntmps65
  go_wp2_with fail
  go_loopw [1] (fun i wr => ∃ (k : Nat) (q' : List Nat), k < q.length ∧ i = .int .i64 k ∧ q'.length = q.length ∧ Hid (HQ wr B base (.slice jo n cap) v q') ∧ Hid (HK w wr B v v) ∧ Hid (UpInv (le J) q' q.length k) ∧ Hid (q'.Perm q)) (fun i _ => (intOf i).toNat)
  case atStart => exact ⟨j, q, hj, rfl, rfl, HH, HK.refl _ _ _, HU, List.Perm.refl _⟩
  case round =>
    clear HH HU hj
    obtain ⟨k, q', hk, rfl, hlen, HH, HKK, HU, HP⟩ := hrel
    rcases Nat.eq_zero_or_pos k with h0 | h0
    · subst h0
      go_wp2_with fail
      go_end0
      exact ⟨rfl, q', HH.out, HKK.out, by rw [hlen]; exact HU.out.stop (.inl rfl), HP.out⟩
    obtain ⟨p, hp⟩ : ∃ p, (k - 1) / 2 = p := ⟨_, rfl⟩
    have hpk : p < k := by omega
    have hdiv : ((k : Int) - 1).tdiv 2 = (p : Int) := by rw [Int.tdiv_eq_ediv_of_nonneg (by omega)]; omega
    have hne : ((p : Int) == (k : Int)) = false := beq_eq_false_iff_ne.2 (by omega)
    have HLESS := Lib.hid (hq_less HH.out (HJ.out wr HKK.out.low) (i := k) (k := p) (by omega) (by omega) (fun x hx => HQX.out x (HP.out.mem_iff.1 hx)))
    have HSTOP := Lib.hid (fun hle => HU.out.stop (.inr hle))
    have HSTEP := Lib.hid (fun hle => HU.out.step (le_tot J) h0 hle)
    rw [hp] at HSTOP HSTEP
    cases hb : less J (at_ q' k) (at_ q' p) with
    | false =>
      rw [hb] at HLESS
      have HF := Lib.hid (HSTOP.out hb)
      clear HSTOP HSTEP hb
      go_wp2_with fail
      refine HLESS.out.mono ?_
      rintro e w1 ⟨rfl, hb1⟩
      have HB1 := Lib.hid hb1
      clear hb1 hdiv hne HLESS
      go_wp2_with fail
      go_end0
      exact ⟨rfl, q', HH.out.below HB1.out, HKK.out.trans (HK.of_below HB1.out (by have := HKK.out.size; omega)), by rw [hlen]; exact HF.out, HP.out⟩
    | true =>
      rw [hb] at HLESS
      have HF := Lib.hid (HSTEP.out (le_of_less hb))
      clear HSTOP HSTEP hb
      go_wp2_with fail
      refine HLESS.out.mono ?_
      rintro e w1 ⟨rfl, hb1⟩
      have HB1 := Lib.hid hb1
      clear hb1 hdiv hne HLESS
      have HSW := Lib.hid (swap_any B base _ _ q' p k w1 (HH.out.below HB1.out) hB (by omega) (by omega))
      go_wp2_with fail
      refine HSW.out.mono ?_
      rintro e w2 ⟨rfl, hh2, hk2⟩
      have HH2 := Lib.hid hh2
      have HK2 := Lib.hid ((HKK.out.trans (HK.of_below HB1.out (by have := HKK.out.size; omega))).trans hk2)
      have HP2 := Lib.hid ((swp_perm (L := q') (i := p) (j := k) (by omega) (by omega)).trans HP.out)
      clear hh2 hk2 HSW
      go_wp2_with fail
      go_roundw
      case rel => exact ⟨p, _, by omega, rfl, by rw [swp_len]; exact hlen, HH2, HK2, HF, HP2⟩
      case measure => simp [intOf] <;> omega
set_option maxRecDepth 100000 in
set_option maxHeartbeats 8000000 in
theorem down_any (B base : Nat) (jo : Option Addr) (nn cap : Nat) (J : List Jb) (v : Value) (q : List Nat) (n : Nat) (w : World) (h : HQ w B base (.slice jo nn cap) v q) (hB : B < base) (hBs : B < w.heap.size) (hJ : ∀ W, Below B w W → Sl W 4 cJ jo nn cap J)
    (hq : ∀ x ∈ q, x < J.length) (hl : q.length ≤ 1000) (hn : n < q.length) (hu : DownInv (le J) q n 0) :
    Calls Try.prog 66 #[qw B, .int .i64 0, .int .i64 n] w (fun e w' => ∃ r, e = .returned r ∧ ∃ q', HQ w' B base (.slice jo nn cap) v q' ∧ HK w w' B v v ∧ Heap (le J) q' n ∧ q'.Perm q ∧ at_ q' n = at_ q n ∧ q'.length = q.length) := by
  have HH := Lib.hid h
  have HJ := Lib.hid hJ
  have HQX := Lib.hid hq
  have HU := Lib.hid hu
  have hl1 := fun x y w => m_less B x y w
  have hl2 := fun x y w => m_swap B x y w
  clear h hJ hq hu
  go_enter Try.func66, Try.ntmps66
  go_wp2_with fail
  go_loopw [7] (fun i wr => ∃ (k : Nat) (q' : List Nat), k ≤ n ∧ i = .int .i64 k ∧ q'.length = q.length ∧ Hid (HQ wr B base (.slice jo nn cap) v q') ∧ Hid (HK w wr B v v) ∧ Hid (DownInv (le J) q' n k) ∧ Hid (q'.Perm q) ∧ Hid (at_ q' n = at_ q n)) (fun i _ => n - (intOf i).toNat)
  case atStart => exact ⟨0, q, by omega, rfl, rfl, HH, HK.refl _ _ _, HU, List.Perm.refl _, rfl⟩
  case round =>
    clear HH HU
    obtain ⟨i, q', hi, rfl, hlen, HH, HKK, HD, HP, HEN⟩ := hrel
    by_cases h1 : n ≤ 2 * i + 1
    · have h1i : (n : Int) ≤ 2 * (i : Int) + 1 := by omega
      have HF := Lib.hid (HD.out.stop0 h1)
      by_cases hi0 : 0 < i
      · have hi0i : 0 < (i : Int) := by omega
        go_wp2_with fail
        go_ret
        exact ⟨_, rfl, q', HH.out, HKK.out, HF.out, HP.out, HEN.out, hlen⟩
      · have hi0i : (i : Int) ≤ 0 := by omega
        go_wp2_with fail
        go_ret
        exact ⟨_, rfl, q', HH.out, HKK.out, HF.out, HP.out, HEN.out, hlen⟩
    have h1i : 2 * (i : Int) + 1 < (n : Int) := by omega
    have hqx : ∀ x ∈ q', x < J.length := fun x hx => HQX.out x (HP.out.mem_iff.1 hx)
    have HQY := Lib.hid hqx
    have HJW := Lib.hid (fun W (hW : Below wr.heap.size wr W) => HJ.out W (HKK.out.low.trans (hW.mono (by have := HKK.out.size; omega))))
    have hw1 : ((2 * i + 1 : Nat) : Int) = 2 * (i : Int) + 1 := by omega
    have hw2 : ((2 * i + 2 : Nat) : Int) = 2 * (i : Int) + 1 + 1 := by omega
    clear hqx
    by_cases h2 : 2 * i + 2 < n
    · have h2i : 2 * (i : Int) + 1 + 1 < (n : Int) := by omega
      have HL1 := Lib.hid (hq_less HH.out (HJW.out wr (Below.refl _ _)) (i := 2 * i + 2) (k := 2 * i + 1) (by omega) (by omega) HQY.out)
      rw [hw1, hw2] at HL1
      cases hb : less J (at_ q' (2 * i + 2)) (at_ q' (2 * i + 1)) with
      | true =>
        rw [hb] at HL1
        have HMIN := Lib.hid (show ∀ c, (c - 1) / 2 = i → 0 < c → c < n → le J (at_ q' (2 * i + 2)) (at_ q' c) from fun c h1 h2 h3 => by
          rcases (show c = 2 * i + 1 ∨ c = 2 * i + 2 by omega) with rfl | rfl
          · exact le_of_less hb
          · exact ((le_tot J).tot _ _).elim id id)
        clear hb
        go_wp2_with fail
        refine HL1.out.mono ?_
        rintro e w3 ⟨rfl, hb3⟩
        have HX := Lib.hid (show HQ w3 B base (.slice jo nn cap) v q' ∧ HK w w3 B v v from ⟨HH.out.below hb3, HKK.out.trans (HK.of_below hb3 (by have := HKK.out.size; omega))⟩)
        clear hb3 HH HKK HL1
        have HL2 := Lib.hid (hq_less HX.out.1 (HJ.out _ HX.out.2.low) (i := (2 * i + 2)) (k := i) (by omega) (by omega) HQY.out)
        rw [hw2] at HL2
        cases hb : less J (at_ q' ((2 * i + 2))) (at_ q' i) with
        | false =>
          rw [hb] at HL2
          have HF := Lib.hid (HD.out.stop (le_tot J) (j := (2 * i + 2)) (by omega) HMIN.out hb)
          clear hb
          go_wp2_with fail
          refine HL2.out.mono ?_
          rintro e w4 ⟨rfl, hb4⟩
          have HX4 := Lib.hid (show HQ w4 B base (.slice jo nn cap) v q' ∧ HK w w4 B v v from ⟨HX.out.1.below hb4, HX.out.2.trans (HK.of_below hb4 (by have := HX.out.2.size; omega))⟩)
          clear hb4 HX HL2
          by_cases hi0 : 0 < i
          · have hi0i : 0 < (i : Int) := by omega
            go_wp2_with fail
            go_ret
            exact ⟨_, rfl, q', HX4.out.1, HX4.out.2, HF.out, HP.out, HEN.out, hlen⟩
          · have hi0i : (i : Int) ≤ 0 := by omega
            go_wp2_with fail
            go_ret
            exact ⟨_, rfl, q', HX4.out.1, HX4.out.2, HF.out, HP.out, HEN.out, hlen⟩
        | true =>
          rw [hb] at HL2
          have HF := Lib.hid (HD.out.step (le_tot J) (j := (2 * i + 2)) (by omega) (by omega) HMIN.out (le_of_less hb))
          clear hb
          go_wp2_with fail
          refine HL2.out.mono ?_
          rintro e w4 ⟨rfl, hb4⟩
          have HX4 := Lib.hid (show HQ w4 B base (.slice jo nn cap) v q' ∧ HK w w4 B v v from ⟨HX.out.1.below hb4, HX.out.2.trans (HK.of_below hb4 (by have := HX.out.2.size; omega))⟩)
          clear hb4 HX HL2
          have HSW := Lib.hid (swap_any B base _ _ q' i ((2 * i + 2)) _ (HX4.out.1) hB (by omega) (by omega))
          rw [hw2] at HSW
          go_wp2_with fail
          refine HSW.out.mono ?_
          rintro e w5 ⟨rfl, hh5, hk5⟩
          have HH5 := Lib.hid hh5
          have HK5 := Lib.hid (HX4.out.2.trans hk5)
          have HP5 := Lib.hid ((swp_perm (L := q') (i := i) (j := (2 * i + 2)) (by omega) (by omega)).trans HP.out)
          have HE5 := Lib.hid (show at_ (Sc.swp q' i ((2 * i + 2))) n = at_ q n by rw [at_swp (by omega) (by omega), if_neg (by omega), if_neg (by omega)]; exact HEN.out)
          clear hh5 hk5 HSW
          go_wp2_with fail
          go_roundw
          case rel => exact ⟨(2 * i + 2), _, by omega, (by first | rw [hw2] | go_num), by rw [swp_len]; exact hlen, HH5, HK5, HF, HP5, HE5⟩
          case measure => simp [intOf] <;> omega
      | false =>
        rw [hb] at HL1
        have HMIN := Lib.hid (show ∀ c, (c - 1) / 2 = i → 0 < c → c < n → le J (at_ q' (2 * i + 1)) (at_ q' c) from fun c h1 h2 h3 => by
          rcases (show c = 2 * i + 1 ∨ c = 2 * i + 2 by omega) with rfl | rfl
          · exact ((le_tot J).tot _ _).elim id id
          · exact hb)
        clear hb
        go_wp2_with fail
        refine HL1.out.mono ?_
        rintro e w3 ⟨rfl, hb3⟩
        have HX := Lib.hid (show HQ w3 B base (.slice jo nn cap) v q' ∧ HK w w3 B v v from ⟨HH.out.below hb3, HKK.out.trans (HK.of_below hb3 (by have := HKK.out.size; omega))⟩)
        clear hb3 HH HKK HL1
        have HL2 := Lib.hid (hq_less HX.out.1 (HJ.out _ HX.out.2.low) (i := (2 * i + 1)) (k := i) (by omega) (by omega) HQY.out)
        rw [hw1] at HL2
        cases hb : less J (at_ q' ((2 * i + 1))) (at_ q' i) with
        | false =>
          rw [hb] at HL2
          have HF := Lib.hid (HD.out.stop (le_tot J) (j := (2 * i + 1)) (by omega) HMIN.out hb)
          clear hb
          go_wp2_with fail
          refine HL2.out.mono ?_
          rintro e w4 ⟨rfl, hb4⟩
          have HX4 := Lib.hid (show HQ w4 B base (.slice jo nn cap) v q' ∧ HK w w4 B v v from ⟨HX.out.1.below hb4, HX.out.2.trans (HK.of_below hb4 (by have := HX.out.2.size; omega))⟩)
          clear hb4 HX HL2
          by_cases hi0 : 0 < i
          · have hi0i : 0 < (i : Int) := by omega
            go_wp2_with fail
            go_ret
            exact ⟨_, rfl, q', HX4.out.1, HX4.out.2, HF.out, HP.out, HEN.out, hlen⟩
          · have hi0i : (i : Int) ≤ 0 := by omega
            go_wp2_with fail
            go_ret
            exact ⟨_, rfl, q', HX4.out.1, HX4.out.2, HF.out, HP.out, HEN.out, hlen⟩
        | true =>
          rw [hb] at HL2
          have HF := Lib.hid (HD.out.step (le_tot J) (j := (2 * i + 1)) (by omega) (by omega) HMIN.out (le_of_less hb))
          clear hb
          go_wp2_with fail
          refine HL2.out.mono ?_
          rintro e w4 ⟨rfl, hb4⟩
          have HX4 := Lib.hid (show HQ w4 B base (.slice jo nn cap) v q' ∧ HK w w4 B v v from ⟨HX.out.1.below hb4, HX.out.2.trans (HK.of_below hb4 (by have := HX.out.2.size; omega))⟩)
          clear hb4 HX HL2
          have HSW := Lib.hid (swap_any B base _ _ q' i ((2 * i + 1)) _ (HX4.out.1) hB (by omega) (by omega))
          rw [hw1] at HSW
          go_wp2_with fail
          refine HSW.out.mono ?_
          rintro e w5 ⟨rfl, hh5, hk5⟩
          have HH5 := Lib.hid hh5
          have HK5 := Lib.hid (HX4.out.2.trans hk5)
          have HP5 := Lib.hid ((swp_perm (L := q') (i := i) (j := (2 * i + 1)) (by omega) (by omega)).trans HP.out)
          have HE5 := Lib.hid (show at_ (Sc.swp q' i ((2 * i + 1))) n = at_ q n by rw [at_swp (by omega) (by omega), if_neg (by omega), if_neg (by omega)]; exact HEN.out)
          clear hh5 hk5 HSW
          go_wp2_with fail
          go_roundw
          case rel => exact ⟨(2 * i + 1), _, by omega, (by first | rw [hw1] | go_num), by rw [swp_len]; exact hlen, HH5, HK5, HF, HP5, HE5⟩
          case measure => simp [intOf] <;> omega
    · have h2i : (n : Int) ≤ 2 * (i : Int) + 1 + 1 := by omega
      have HMIN := Lib.hid (show ∀ c, (c - 1) / 2 = i → 0 < c → c < n → le J (at_ q' (2 * i + 1)) (at_ q' c) from fun c h1 h2 h3 => by
        obtain rfl : c = 2 * i + 1 := by omega
        exact ((le_tot J).tot _ _).elim id id)
      have HX := Lib.hid (show HQ wr B base (.slice jo nn cap) v q' ∧ HK w wr B v v from ⟨HH.out, HKK.out⟩)
      clear HH HKK
      have HL2 := Lib.hid (hq_less HX.out.1 (HJ.out _ HX.out.2.low) (i := (2 * i + 1)) (k := i) (by omega) (by omega) HQY.out)
      rw [hw1] at HL2
      cases hb : less J (at_ q' ((2 * i + 1))) (at_ q' i) with
      | false =>
        rw [hb] at HL2
        have HF := Lib.hid (HD.out.stop (le_tot J) (j := (2 * i + 1)) (by omega) HMIN.out hb)
        clear hb
        go_wp2_with fail
        refine HL2.out.mono ?_
        rintro e w4 ⟨rfl, hb4⟩
        have HX4 := Lib.hid (show HQ w4 B base (.slice jo nn cap) v q' ∧ HK w w4 B v v from ⟨HX.out.1.below hb4, HX.out.2.trans (HK.of_below hb4 (by have := HX.out.2.size; omega))⟩)
        clear hb4 HX HL2
        by_cases hi0 : 0 < i
        · have hi0i : 0 < (i : Int) := by omega
          go_wp2_with fail
          go_ret
          exact ⟨_, rfl, q', HX4.out.1, HX4.out.2, HF.out, HP.out, HEN.out, hlen⟩
        · have hi0i : (i : Int) ≤ 0 := by omega
          go_wp2_with fail
          go_ret
          exact ⟨_, rfl, q', HX4.out.1, HX4.out.2, HF.out, HP.out, HEN.out, hlen⟩
      | true =>
        rw [hb] at HL2
        have HF := Lib.hid (HD.out.step (le_tot J) (j := (2 * i + 1)) (by omega) (by omega) HMIN.out (le_of_less hb))
        clear hb
        go_wp2_with fail
        refine HL2.out.mono ?_
        rintro e w4 ⟨rfl, hb4⟩
        have HX4 := Lib.hid (show HQ w4 B base (.slice jo nn cap) v q' ∧ HK w w4 B v v from ⟨HX.out.1.below hb4, HX.out.2.trans (HK.of_below hb4 (by have := HX.out.2.size; omega))⟩)
        clear hb4 HX HL2
        have HSW := Lib.hid (swap_any B base _ _ q' i ((2 * i + 1)) _ (HX4.out.1) hB (by omega) (by omega))
        rw [hw1] at HSW
        go_wp2_with fail
        refine HSW.out.mono ?_
        rintro e w5 ⟨rfl, hh5, hk5⟩
        have HH5 := Lib.hid hh5
        have HK5 := Lib.hid (HX4.out.2.trans hk5)
        have HP5 := Lib.hid ((swp_perm (L := q') (i := i) (j := (2 * i + 1)) (by omega) (by omega)).trans HP.out)
        have HE5 := Lib.hid (show at_ (Sc.swp q' i ((2 * i + 1))) n = at_ q n by rw [at_swp (by omega) (by omega), if_neg (by omega), if_neg (by omega)]; exact HEN.out)
        clear hh5 hk5 HSW
        go_wp2_with fail
        go_roundw
        case rel => exact ⟨(2 * i + 1), _, by omega, (by first | rw [hw1] | go_num), by rw [swp_len]; exact hlen, HH5, HK5, HF, HP5, HE5⟩
        case measure => simp [intOf] <;> omega

set_option maxRecDepth 100000 in
set_option maxHeartbeats 4000000 in
theorem hpush_any (B base : Nat) (jo : Option Addr) (nn cap : Nat) (J : List Jb) (v : Value) (q : List Nat) (x : Nat) (w : World) (h : HQ w B base (.slice jo nn cap) v q) (hB : B < base) (hbs : base ≤ w.heap.size) (hJ : ∀ W, Below B w W → Sl W 4 cJ jo nn cap J)
    (hq : ∀ y ∈ q, y < J.length) (hx : x < J.length) (hl : q.length < 1000) (hh : Heap (le J) q q.length) :
    Calls Try.prog 54 #[qw B, .iface 3 (.int .i64 x)] w (fun e w' => e = .returned (.tuple #[]) ∧ ∃ v' q', HQ w' B base (.slice jo nn cap) v' q' ∧ HK w w' B v v' ∧ Heap (le J) q' q'.length ∧ q'.Perm (q ++ [x])) := by
  have HP := Lib.hid (wpush_any B base _ v q x w h hB hbs (by omega))
  have HJ := Lib.hid hJ
  have HS := Lib.hid (up_start hh x)
  have HQX := Lib.hid (show ∀ y ∈ q ++ [x], y < J.length from fun y hy => by
    rcases List.mem_append.1 hy with hy | hy
    · exact hq y hy
    · obtain rfl : y = x := by simpa using hy
      exact hx)
  have hm1 := fun x w => m_push B x w
  have hm2 := fun w => m_len B w
  have hlen : (q ++ [x]).length = q.length + 1 := by simp
  clear h hJ hq hx hh
  go_enter Try.func54, Try.ntmps54
  go_wp2_with fail
  refine HP.out.mono ?_
  rintro e w1 ⟨rfl, v1, hh1, hk1⟩
  have HH1 := Lib.hid hh1
  have HK1 := Lib.hid hk1
  clear hh1 hk1 HP
  have HL := Lib.hid (hq_len HH1.out)
  rw [hlen] at HL
  go_wp2_with fail
  refine HL.out.mono ?_
  rintro e w2 ⟨rfl, hb2⟩
  have HH2 := Lib.hid (HH1.out.below hb2)
  have HK2 := Lib.hid (HK1.out.trans (HK.of_below hb2 (by have := HK1.out.size; omega)))
  clear hb2 HL HH1 HK1
  have HU := Lib.hid (up_any B base jo nn cap J v1 (q ++ [x]) q.length w2 HH2.out hB (by have := HK2.out.size; omega) (fun W hW => HJ.out W (HK2.out.low.trans hW)) HQX.out (by omega) (by rw [hlen]; exact HS.out))
  go_wp2_with fail
  refine HU.out.mono ?_
  rintro e w3 ⟨rfl, q3, hh3, hk3, hf3, hp3⟩
  have HR := Lib.hid (show HQ w3 B base (.slice jo nn cap) v1 q3 ∧ HK w w3 B v v1 ∧ Heap (le J) q3 q3.length ∧ q3.Perm (q ++ [x]) from ⟨hh3, HK2.out.trans hk3, hf3, hp3⟩)
  clear hh3 hk3 hf3 hp3 HU
  go_wp2_with fail
  go_end0
  exact ⟨rfl, v1, q3, HR.out⟩
end Go.Proofs.Ytheioedggjbphaa
