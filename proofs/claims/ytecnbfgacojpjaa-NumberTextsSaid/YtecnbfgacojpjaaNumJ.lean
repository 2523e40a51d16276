/-
  Plain laws of texts; the walk of 'NumberTexts'.
-/
import Derived.Test.YtecnbfgacojpjaaNumI
namespace Go.Proofs.Ytecnbfgacojpjaa
open Go.RowKit Nb Sk Go.Sort

theorem bytes_ne {x y : ByteArray} (h : x ≠ y) : (x.toList == y.toList) = false := by
  rw [← beq_toListBytes]
  cases hb : (x == y) with
  | false => rfl
  | true =>
    exfalso; apply h
    have : x.beq y = true := hb
    unfold ByteArray.beq at this
    apply ByteArray.ext
    simpa using this

theorem txt_size (n : Nm) : (txt n).size = 4 := by simp [txt, strOfNums_size]
theorem byt_txt (n : Nm) (h : okN n = true) : byt (txt n) 0 = 65 + n.st - 1 ∧ byt (txt n) 1 = 65 + n.kd - 1 ∧ byt (txt n) 2 = 48 + n.nu / 10 ∧ byt (txt n) 3 = 48 + n.nu % 10 := by
  have h := okN_iff.1 h
  have key : ∀ i (hi : i < 4), byt (txt n) i = (([65 + n.st - 1, 65 + n.kd - 1, 48 + n.nu / 10, 48 + n.nu % 10] : List Int)[i]'hi) % 256 := by
    intro i hi
    unfold byt
    rw [dif_pos (by rw [txt_size]; exact hi)]
    have hb : ((txt n)[i]'(by rw [txt_size]; exact hi)) = UInt8.ofNat ((([65 + n.st - 1, 65 + n.kd - 1, 48 + n.nu / 10, 48 + n.nu % 10] : List Int)[i]'hi).toNat) := by
      rcases (by omega : i = 0 ∨ i = 1 ∨ i = 2 ∨ i = 3) with rfl | rfl | rfl | rfl <;> rfl
    rw [hb]
    have hnn : 0 ≤ (([65 + n.st - 1, 65 + n.kd - 1, 48 + n.nu / 10, 48 + n.nu % 10] : List Int)[i]'hi) := by
      rcases (by omega : i = 0 ∨ i = 1 ∨ i = 2 ∨ i = 3) with rfl | rfl | rfl | rfl <;> simp <;> omega
    generalize (([65 + n.st - 1, 65 + n.kd - 1, 48 + n.nu / 10, 48 + n.nu % 10] : List Int)[i]'hi) = z at *
    simp only [UInt8.toNat_ofNat']
    omega
  have k0 := key 0 (by omega)
  have k1 := key 1 (by omega)
  have k2 := key 2 (by omega)
  have k3 := key 3 (by omega)
  simp only [List.getElem_cons_zero, List.getElem_cons_succ] at k0 k1 k2 k3
  refine ⟨?_, ?_, ?_, ?_⟩ <;> omega

theorem parse_txt (n : Nm) (h : okN n = true) : parse (txt n) = (n, 0) := by
  have h' := okN_iff.1 h
  obtain ⟨b0, b1, b2, b3⟩ := byt_txt n h
  have e : (⟨byt (txt n) 0 - 64, byt (txt n) 1 - 64, 10 * (byt (txt n) 2 - 48) + (byt (txt n) 3 - 48)⟩ : Nm) = n := by
    obtain ⟨a, b, c⟩ := n
    simp only [Nm.mk.injEq]
    dsimp only at *
    refine ⟨by omega, by omega, by omega⟩
  unfold parse
  rw [if_pos ⟨txt_size n, by omega, by omega, by omega, by omega, by rw [e]; exact h⟩, e]

theorem parse_cases (s : ByteArray) : (∃ n, parse s = (n, 0) ∧ okN n = true ∧ txt n = s) ∨ (parse s = (zeroN, 1) ∧ ∀ n, okN n = true → txt n ≠ s) := by
  by_cases h : s.size = 4 ∧ (65 ≤ byt s 0 ∧ byt s 0 ≤ 90) ∧ (65 ≤ byt s 1 ∧ byt s 1 ≤ 90) ∧ (48 ≤ byt s 2 ∧ byt s 2 ≤ 57) ∧ (48 ≤ byt s 3 ∧ byt s 3 ≤ 57) ∧
      okN ⟨byt s 0 - 64, byt s 1 - 64, 10 * (byt s 2 - 48) + (byt s 3 - 48)⟩ = true
  · left
    have hp : parse s = (⟨byt s 0 - 64, byt s 1 - 64, 10 * (byt s 2 - 48) + (byt s 3 - 48)⟩, 0) := by unfold parse; rw [if_pos h]
    refine ⟨_, hp, h.2.2.2.2.2, ?_⟩
    obtain ⟨h4, h0, h1, h2, h3, hok⟩ := h
    obtain ⟨c0, c1, c2, c3⟩ := byt_txt _ hok
    dsimp only at c0 c1 c2 c3
    generalize hn : (⟨byt s 0 - 64, byt s 1 - 64, 10 * (byt s 2 - 48) + (byt s 3 - 48)⟩ : Nm) = n at *
    have hb : ∀ i, i < 4 → byt (txt n) i = byt s i := by
      intro i hi
      rcases (by omega : i = 0 ∨ i = 1 ∨ i = 2 ∨ i = 3) with rfl | rfl | rfl | rfl
      · rw [c0]; omega
      · rw [c1]; omega
      · rw [c2]; omega
      · rw [c3]; omega
    apply ByteArray.ext
    apply Array.ext
    · have := txt_size n; simp only [ByteArray.size] at this h4; omega
    · intro i h1 h2
      have hi : i < 4 := by have := txt_size n; simp only [ByteArray.size] at this; omega
      have := hb i hi
      unfold byt at this
      rw [dif_pos (by rw [txt_size]; exact hi), dif_pos (by rw [h4]; exact hi)] at this
      have h3 : (txt n)[i]'(by rw [txt_size]; exact hi) = s[i]'(by rw [h4]; exact hi) := UInt8.toNat.inj (by omega)
      exact h3
  · right
    have hp : parse s = (zeroN, 1) := by unfold parse; rw [if_neg h]
    refine ⟨hp, ?_⟩
    rintro n hn rfl
    rw [parse_txt n hn] at hp
    simp at hp

theorem txt_inj {a b : Nm} (ha : okN a = true) (hb : okN b = true) (h : txt a = txt b) : a = b := by
  have h1 := parse_txt a ha
  rw [h, parse_txt b hb] at h1
  exact (Prod.mk.inj h1).1.symm
theorem text_ok {n : Nm} (h : okN n = true) : text n = (txt n, 0) := by simp [text, h]
theorem text_bad {n : Nm} (h : okN n = false) : text n = (⟨#[]⟩, 1) := by simp [text, h]

set_option maxRecDepth 100000 in
set_option maxHeartbeats 4000000 in
theorem texts_walk (a1 a2 a3 b1 b2 b3 : Int) (s : ByteArray) (w : World) : Calls Try.prog 3 #[.agg #[.int .i64 a1, .int .i64 a2, .int .i64 a3], .agg #[.int .i64 b1, .int .i64 b2, .int .i64 b3], .string s] w (Ret w (.bool true)) := by
  obtain ⟨W0, hW0, HB_W0, hZ, ha, hb⟩ := boxes2 w [.int .i64 a1, .int .i64 a2, .int .i64 a3] [.int .i64 b1, .int .i64 b2, .int .i64 b3] 23 23
  have H_a := Lib.hid ha
  have H_b := Lib.hid hb
  clear ha hb
  obtain ⟨q_a_0, q_a_1, q_a_2⟩ := H_a.out.c3
  obtain ⟨q_b_0, q_b_1, q_b_2⟩ := H_b.out.c3
  go_enter Try.func3, Try.ntmps3
  go_wp2_with fail
  refine (head_any _).mono ?_
  rintro e wa ⟨rfl, hb_wa⟩
  have HB_wa : Below w.heap.size w wa := by first | exact after0 HB_W0 hb_wa | exact after1 HB_W0 hb_wa | exact after2 HB_W0 hb_wa | exact after3 HB_W0 hb_wa | exact after4 HB_W0 hb_wa | exact after5 HB_W0 hb_wa
  try clear q_a_0 q_a_1 q_a_2
  have H_a := Lib.hid (Box.below (by first | exact H_a.out | exact H_a.out.alloc _ | exact (H_a.out.alloc _).alloc _ | exact ((H_a.out.alloc _).alloc _).alloc _) hb_wa)
  obtain ⟨q_a_0, q_a_1, q_a_2⟩ := H_a.out.c3
  try clear q_b_0 q_b_1 q_b_2
  have H_b := Lib.hid (Box.below (by first | exact H_b.out | exact H_b.out.alloc _ | exact (H_b.out.alloc _).alloc _ | exact ((H_b.out.alloc _).alloc _).alloc _) hb_wa)
  obtain ⟨q_b_0, q_b_1, q_b_2⟩ := H_b.out.c3
  clear hW0
  go_wp2_with fail
  refine (text_any _ _ _ _).mono ?_
  rintro e wb ⟨rfl, hb_wb⟩
  have HB_wb : Below w.heap.size w wb := by first | exact after0 HB_wa hb_wb | exact after1 HB_wa hb_wb | exact after2 HB_wa hb_wb | exact after3 HB_wa hb_wb | exact after4 HB_wa hb_wb | exact after5 HB_wa hb_wb
  try clear q_a_0 q_a_1 q_a_2
  have H_a := Lib.hid (Box.below (by first | exact H_a.out | exact H_a.out.alloc _ | exact (H_a.out.alloc _).alloc _ | exact ((H_a.out.alloc _).alloc _).alloc _) hb_wb)
  obtain ⟨q_a_0, q_a_1, q_a_2⟩ := H_a.out.c3
  try clear q_b_0 q_b_1 q_b_2
  have H_b := Lib.hid (Box.below (by first | exact H_b.out | exact H_b.out.alloc _ | exact (H_b.out.alloc _).alloc _ | exact ((H_b.out.alloc _).alloc _).alloc _) hb_wb)
  obtain ⟨q_b_0, q_b_1, q_b_2⟩ := H_b.out.c3
  go_wp2_with fail
  refine (text_any _ _ _ _).mono ?_
  rintro e wc ⟨rfl, hb_wc⟩
  have HB_wc : Below w.heap.size w wc := by first | exact after0 HB_wb hb_wc | exact after1 HB_wb hb_wc | exact after2 HB_wb hb_wc | exact after3 HB_wb hb_wc | exact after4 HB_wb hb_wc | exact after5 HB_wb hb_wc
  try clear q_a_0 q_a_1 q_a_2
  have H_a := Lib.hid (Box.below (by first | exact H_a.out | exact H_a.out.alloc _ | exact (H_a.out.alloc _).alloc _ | exact ((H_a.out.alloc _).alloc _).alloc _) hb_wc)
  obtain ⟨q_a_0, q_a_1, q_a_2⟩ := H_a.out.c3
  try clear q_b_0 q_b_1 q_b_2
  have H_b := Lib.hid (Box.below (by first | exact H_b.out | exact H_b.out.alloc _ | exact (H_b.out.alloc _).alloc _ | exact ((H_b.out.alloc _).alloc _).alloc _) hb_wc)
  obtain ⟨q_b_0, q_b_1, q_b_2⟩ := H_b.out.c3
  obtain ⟨y, hy⟩ : ∃ y, text ⟨b1, b2, b3⟩ = y := ⟨_, rfl⟩
  have HY := Lib.hid hy
  rw [hy]
  clear hy
  obtain ⟨y1, y2⟩ := y
  by_cases ga : okN ⟨a1, a2, a3⟩ = true
  · have HGA := Lib.hid ga
    rw [text_ok ga]
    clear ga
    obtain ⟨x, hx⟩ : ∃ x, txt ⟨a1, a2, a3⟩ = x := ⟨_, rfl⟩
    have HX := Lib.hid hx
    have HPX : Hid (parse x = (⟨a1, a2, a3⟩, 0)) := by show _ = _; rw [← hx]; exact parse_txt _ HGA.out
    have HSX : Hid (x.size = 4) := by show _ = _; rw [← hx]; exact txt_size _
    rw [hx]
    clear hx
    dsimp only
    go_wp2_with fail
    refine (parse_any x _).mono ?_
    rintro e wd ⟨rfl, hb_wd⟩
    have HB_wd : Below w.heap.size w wd := by first | exact after0 HB_wc hb_wd | exact after1 HB_wc hb_wd | exact after2 HB_wc hb_wd | exact after3 HB_wc hb_wd | exact after4 HB_wc hb_wd | exact after5 HB_wc hb_wd
    try clear q_a_0 q_a_1 q_a_2
    have H_a := Lib.hid (Box.below (by first | exact H_a.out | exact H_a.out.alloc _ | exact (H_a.out.alloc _).alloc _ | exact ((H_a.out.alloc _).alloc _).alloc _) hb_wd)
    obtain ⟨q_a_0, q_a_1, q_a_2⟩ := H_a.out.c3
    try clear q_b_0 q_b_1 q_b_2
    have H_b := Lib.hid (Box.below (by first | exact H_b.out | exact H_b.out.alloc _ | exact (H_b.out.alloc _).alloc _ | exact ((H_b.out.alloc _).alloc _).alloc _) hb_wd)
    obtain ⟨q_b_0, q_b_1, q_b_2⟩ := H_b.out.c3
    rw [HPX.out]
    dsimp only
    have hsx := HSX.out
    obtain ⟨W5, hW5, hB5, hZ5, hn⟩ := boxes1 wd [.int .i64 a1, .int .i64 a2, .int .i64 a3] 23
    obtain ⟨NB, hNB⟩ : ∃ NB, wd.heap.size = NB := ⟨_, rfl⟩
    rw [hNB] at hn
    obtain ⟨n_0, n_1, n_2⟩ := hn.c3
    have HB_W5 : Below w.heap.size w W5 := after0 HB_wd hB5
    clear q_a_0 q_a_1 q_a_2 q_b_0 q_b_1 q_b_2
    replace H_a := Lib.hid (H_a.out.below hB5)
    replace H_b := Lib.hid (H_b.out.below hB5)
    obtain ⟨q_a_0, q_a_1, q_a_2⟩ := H_a.out.c3
    obtain ⟨q_b_0, q_b_1, q_b_2⟩ := H_b.out.c3
    clear hn hB5 hZ5
    by_cases gb : okN ⟨b1, b2, b3⟩ = true
    · have hy := HY.out
      rw [text_ok gb] at hy
      simp only [Prod.mk.injEq] at hy
      obtain ⟨rfl, rfl⟩ := hy
      by_cases g1 : a1 = b1
      · by_cases g2 : a2 = b2
        · by_cases g3 : a3 = b3
          · subst g1 g2 g3
            have hx := HX.out
            rw [hx]
            clear gb
            go_wp2_with fail
            refine (parse_any s _).mono ?_
            rintro e wt ⟨rfl, hb_wt⟩
            have HB_wt : Below w.heap.size w wt := by first | exact after0 HB_W5 hb_wt | exact after1 HB_W5 hb_wt | exact after2 HB_W5 hb_wt | exact after3 HB_W5 hb_wt | exact after4 HB_W5 hb_wt | exact after5 HB_W5 hb_wt
            rcases parse_cases s with hpc | hpc
            · obtain ⟨⟨n1, n2, n3⟩, hp, hn, ht⟩ := hpc
              rw [hp]
              dsimp only
              go_wp2_with fail
              refine (text_any _ _ _ _).mono ?_
              rintro e wz ⟨rfl, hb_wz⟩
              have HB_wz : Below w.heap.size w wz := by first | exact after0 HB_wt hb_wz | exact after1 HB_wt hb_wz | exact after2 HB_wt hb_wz | exact after3 HB_wt hb_wz | exact after4 HB_wt hb_wz | exact after5 HB_wt hb_wz
              rw [text_ok hn, ht]
              dsimp only
              go_wp2_with fail
              go_ret
              exact ⟨rfl, HB_wz⟩
            · obtain ⟨hp, hno⟩ := hpc
              rw [hp]
              dsimp only [zeroN]
              have hne : (x.toList == s.toList) = false := bytes_ne (fun e => hno _ HGA.out (HX.out.trans e))
              go_wp2_with fail
              go_ret
              exact ⟨rfl, after0 HB_wt (grew1 (Below.refl _ _))⟩
          · subst g1 g2
            have hne2 : (x.toList == (txt ⟨a1, a2, b3⟩).toList) = false := bytes_ne (fun e => by have := txt_inj HGA.out gb (HX.out.trans e); simp only [Nm.mk.injEq] at this; exact g3 (by simp [this]))
            have hq : (a3 == b3) = false := beq_eq_false_iff_ne.2 g3
            obtain ⟨z, hz⟩ : ∃ z, txt ⟨a1, a2, b3⟩ = z := ⟨_, rfl⟩
            rw [hz] at hne2 ⊢
            clear gb
            go_wp2_with fail

            refine (parse_any s _).mono ?_
            rintro e wt ⟨rfl, hb_wt⟩
            have HB_wt : Below w.heap.size w wt := by first | exact after0 HB_W5 hb_wt | exact after1 HB_W5 hb_wt | exact after2 HB_W5 hb_wt | exact after3 HB_W5 hb_wt | exact after4 HB_W5 hb_wt | exact after5 HB_W5 hb_wt
            rcases parse_cases s with hpc | hpc
            · obtain ⟨⟨n1, n2, n3⟩, hp, hn, ht⟩ := hpc
              rw [hp]
              dsimp only
              go_wp2_with fail
              refine (text_any _ _ _ _).mono ?_
              rintro e wz ⟨rfl, hb_wz⟩
              have HB_wz : Below w.heap.size w wz := by first | exact after0 HB_wt hb_wz | exact after1 HB_wt hb_wz | exact after2 HB_wt hb_wz | exact after3 HB_wt hb_wz | exact after4 HB_wt hb_wz | exact after5 HB_wt hb_wz
              rw [text_ok hn, ht]
              dsimp only
              go_wp2_with fail
              go_ret
              exact ⟨rfl, HB_wz⟩
            · obtain ⟨hp, hno⟩ := hpc
              rw [hp]
              dsimp only [zeroN]
              have hne : (x.toList == s.toList) = false := bytes_ne (fun e => hno _ HGA.out (HX.out.trans e))
              go_wp2_with fail
              go_ret
              exact ⟨rfl, after0 HB_wt (grew1 (Below.refl _ _))⟩
        · subst g1
          have hne2 : (x.toList == (txt ⟨a1, b2, b3⟩).toList) = false := bytes_ne (fun e => by have := txt_inj HGA.out gb (HX.out.trans e); simp only [Nm.mk.injEq] at this; exact g2 (by simp [this]))
          have hq : (a2 == b2) = false := beq_eq_false_iff_ne.2 g2
          obtain ⟨z, hz⟩ : ∃ z, txt ⟨a1, b2, b3⟩ = z := ⟨_, rfl⟩
          rw [hz] at hne2 ⊢
          clear gb
          go_wp2_with fail

          refine (parse_any s _).mono ?_
          rintro e wt ⟨rfl, hb_wt⟩
          have HB_wt : Below w.heap.size w wt := by first | exact after0 HB_W5 hb_wt | exact after1 HB_W5 hb_wt | exact after2 HB_W5 hb_wt | exact after3 HB_W5 hb_wt | exact after4 HB_W5 hb_wt | exact after5 HB_W5 hb_wt
          rcases parse_cases s with hpc | hpc
          · obtain ⟨⟨n1, n2, n3⟩, hp, hn, ht⟩ := hpc
            rw [hp]
            dsimp only
            go_wp2_with fail
            refine (text_any _ _ _ _).mono ?_
            rintro e wz ⟨rfl, hb_wz⟩
            have HB_wz : Below w.heap.size w wz := by first | exact after0 HB_wt hb_wz | exact after1 HB_wt hb_wz | exact after2 HB_wt hb_wz | exact after3 HB_wt hb_wz | exact after4 HB_wt hb_wz | exact after5 HB_wt hb_wz
            rw [text_ok hn, ht]
            dsimp only
            go_wp2_with fail
            go_ret
            exact ⟨rfl, HB_wz⟩
          · obtain ⟨hp, hno⟩ := hpc
            rw [hp]
            dsimp only [zeroN]
            have hne : (x.toList == s.toList) = false := bytes_ne (fun e => hno _ HGA.out (HX.out.trans e))
            go_wp2_with fail
            go_ret
            exact ⟨rfl, after0 HB_wt (grew1 (Below.refl _ _))⟩
      · have hne2 : (x.toList == (txt ⟨b1, b2, b3⟩).toList) = false := bytes_ne (fun e => by have := txt_inj HGA.out gb (HX.out.trans e); simp only [Nm.mk.injEq] at this; exact g1 (by simp [this]))
        have hq : (a1 == b1) = false := beq_eq_false_iff_ne.2 g1
        obtain ⟨z, hz⟩ : ∃ z, txt ⟨b1, b2, b3⟩ = z := ⟨_, rfl⟩
        rw [hz] at hne2 ⊢
        clear gb
        go_wp2_with fail

        refine (parse_any s _).mono ?_
        rintro e wt ⟨rfl, hb_wt⟩
        have HB_wt : Below w.heap.size w wt := by first | exact after0 HB_W5 hb_wt | exact after1 HB_W5 hb_wt | exact after2 HB_W5 hb_wt | exact after3 HB_W5 hb_wt | exact after4 HB_W5 hb_wt | exact after5 HB_W5 hb_wt
        rcases parse_cases s with hpc | hpc
        · obtain ⟨⟨n1, n2, n3⟩, hp, hn, ht⟩ := hpc
          rw [hp]
          dsimp only
          go_wp2_with fail
          refine (text_any _ _ _ _).mono ?_
          rintro e wz ⟨rfl, hb_wz⟩
          have HB_wz : Below w.heap.size w wz := by first | exact after0 HB_wt hb_wz | exact after1 HB_wt hb_wz | exact after2 HB_wt hb_wz | exact after3 HB_wt hb_wz | exact after4 HB_wt hb_wz | exact after5 HB_wt hb_wz
          rw [text_ok hn, ht]
          dsimp only
          go_wp2_with fail
          go_ret
          exact ⟨rfl, HB_wz⟩
        · obtain ⟨hp, hno⟩ := hpc
          rw [hp]
          dsimp only [zeroN]
          have hne : (x.toList == s.toList) = false := bytes_ne (fun e => hno _ HGA.out (HX.out.trans e))
          go_wp2_with fail
          go_ret
          exact ⟨rfl, after0 HB_wt (grew1 (Below.refl _ _))⟩
    · have gb' : okN ⟨b1, b2, b3⟩ = false := by simpa using gb
      have hy := HY.out
      rw [text_bad gb'] at hy
      simp only [Prod.mk.injEq] at hy
      obtain ⟨rfl, rfl⟩ := hy
      clear gb gb'
      go_wp2_with fail
      refine (parse_any s _).mono ?_
      rintro e wt ⟨rfl, hb_wt⟩
      have HB_wt : Below w.heap.size w wt := by first | exact after0 HB_W5 hb_wt | exact after1 HB_W5 hb_wt | exact after2 HB_W5 hb_wt | exact after3 HB_W5 hb_wt | exact after4 HB_W5 hb_wt | exact after5 HB_W5 hb_wt
      rcases parse_cases s with hpc | hpc
      · obtain ⟨⟨n1, n2, n3⟩, hp, hn, ht⟩ := hpc
        rw [hp]
        dsimp only
        go_wp2_with fail
        refine (text_any _ _ _ _).mono ?_
        rintro e wz ⟨rfl, hb_wz⟩
        have HB_wz : Below w.heap.size w wz := by first | exact after0 HB_wt hb_wz | exact after1 HB_wt hb_wz | exact after2 HB_wt hb_wz | exact after3 HB_wt hb_wz | exact after4 HB_wt hb_wz | exact after5 HB_wt hb_wz
        rw [text_ok hn, ht]
        dsimp only
        go_wp2_with fail
        go_ret
        exact ⟨rfl, HB_wz⟩
      · obtain ⟨hp, hno⟩ := hpc
        rw [hp]
        dsimp only [zeroN]
        have hne : (x.toList == s.toList) = false := bytes_ne (fun e => hno _ HGA.out (HX.out.trans e))
        go_wp2_with fail
        go_ret
        exact ⟨rfl, after0 HB_wt (grew1 (Below.refl _ _))⟩
  · have ga' : okN ⟨a1, a2, a3⟩ = false := by simpa using ga
    rw [text_bad ga']
    dsimp only
    go_wp2_with fail
    refine (valid_any _ _ _ _).mono ?_
    rintro e we ⟨rfl, hb_we⟩
    have HB_we : Below w.heap.size w we := by first | exact after0 HB_wc hb_we | exact after1 HB_wc hb_we | exact after2 HB_wc hb_we | exact after3 HB_wc hb_we | exact after4 HB_wc hb_we | exact after5 HB_wc hb_we
    try clear q_a_0 q_a_1 q_a_2
    have H_a := Lib.hid (Box.below (by first | exact H_a.out | exact H_a.out.alloc _ | exact (H_a.out.alloc _).alloc _ | exact ((H_a.out.alloc _).alloc _).alloc _) hb_we)
    obtain ⟨q_a_0, q_a_1, q_a_2⟩ := H_a.out.c3
    try clear q_b_0 q_b_1 q_b_2
    have H_b := Lib.hid (Box.below (by first | exact H_b.out | exact H_b.out.alloc _ | exact (H_b.out.alloc _).alloc _ | exact ((H_b.out.alloc _).alloc _).alloc _) hb_we)
    obtain ⟨q_b_0, q_b_1, q_b_2⟩ := H_b.out.c3
    rw [ga']
    clear ga ga'
    go_wp2_with fail
    refine (parse_any s _).mono ?_
    rintro e wt ⟨rfl, hb_wt⟩
    have HB_wt : Below w.heap.size w wt := by first | exact after0 HB_we hb_wt | exact after1 HB_we hb_wt | exact after2 HB_we hb_wt | exact after3 HB_we hb_wt | exact after4 HB_we hb_wt | exact after5 HB_we hb_wt
    rcases parse_cases s with hpc | hpc
    · obtain ⟨⟨n1, n2, n3⟩, hp, hn, ht⟩ := hpc
      rw [hp]
      dsimp only
      go_wp2_with fail
      refine (text_any _ _ _ _).mono ?_
      rintro e wz ⟨rfl, hb_wz⟩
      have HB_wz : Below w.heap.size w wz := by first | exact after0 HB_wt hb_wz | exact after1 HB_wt hb_wz | exact after2 HB_wt hb_wz | exact after3 HB_wt hb_wz | exact after4 HB_wt hb_wz | exact after5 HB_wt hb_wz
      rw [text_ok hn, ht]
      dsimp only
      go_wp2_with fail
      go_ret
      exact ⟨rfl, HB_wz⟩
    · obtain ⟨hp, hno⟩ := hpc
      rw [hp]
      dsimp only [zeroN]
      go_wp2_with fail
      go_ret
      exact ⟨rfl, after0 HB_wt (grew1 (Below.refl _ _))⟩
end Go.Proofs.Ytecnbfgacojpjaa
