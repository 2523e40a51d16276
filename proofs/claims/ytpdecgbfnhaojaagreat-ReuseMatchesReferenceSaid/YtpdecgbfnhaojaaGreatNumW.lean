/-
  The reference functions of 'number': Room, Next.
-/
import Derived.Test.YtpdecgbfnhaojaaGreatNumU
import Derived.Test.YtpdecgbfnhaojaaGreatNumP
namespace Go.Proofs.YtpdecgbfnhaojaaGreat
open Go.RowKit Nb Sk Go.Sort

/-- how many of the first m numbers are free -/
def cnt (l : List Us) (st kd now : Int) (m : Nat) : Nat := ((List.range m).filter fun (i : Nat) => !used l ⟨st, kd, (i : Int) + 1⟩ now).length
theorem cnt_le (l : List Us) (st kd now : Int) (m : Nat) : cnt l st kd now m ≤ m := by
  have := List.length_filter_le (fun (i : Nat) => !used l ⟨st, kd, (i : Int) + 1⟩ now) (List.range m)
  unfold cnt; simpa using this
theorem cnt_succ (l : List Us) (st kd now : Int) (m : Nat) : cnt l st kd now (m + 1) = cnt l st kd now m + if used l ⟨st, kd, (m : Int) + 1⟩ now then 0 else 1 := by
  unfold cnt
  rw [List.range_succ, List.filter_append, List.length_append]
  cases h : used l ⟨st, kd, (m : Int) + 1⟩ now <;> simp [h]
theorem cnt_all (l : List Us) (st kd now : Int) : cnt l st kd now 99 = freeN l st kd now := by
  unfold cnt freeN allNu
  rw [List.filter_map, List.length_map]
  rfl

set_option maxRecDepth 100000 in
set_option maxHeartbeats 2000000 in
theorem rroom_any (ao : Option Addr) (n cap : Nat) (l : List Us) (st kd now : Int) (w : World) (hs : Sl w 5 cU ao n cap l) :
    Calls Tryz.prog 36 #[.slice ao n cap, .int .i64 st, .int .i64 kd, .int .i64 now] w (Ret w (.tuple #[.int .i64 (room l st kd now).1, .int .i64 (room l st kd now).2])) := by
  obtain rfl := hs.len
  have HS := Lib.hid hs
  clear hs
  have HB_w : Below w.heap.size w w := Below.refl _ _
  have HR := Lib.hid (@room_freeN l st kd now)
  generalize room l st kd now = p at *
  go_enter Tryz.func36, Tryz.ntmps36
  go_wp2_with fail
  refine (rasked_any _ _ _ l _ _ _ _ HS.out).mono ?_
  rintro e wa ⟨rfl, hb_wa⟩
  have HB_wa : Below w.heap.size w wa := by first | exact after0 HB_w hb_wa | exact after1 HB_w hb_wa | exact after2 HB_w hb_wa | exact after3 HB_w hb_wa | exact after4 HB_w hb_wa | exact after5 HB_w hb_wa
  replace HS := Lib.hid (show Sl wa _ _ _ _ _ _ by first | exact HS.out.below hb_wa | exact (HS.out.below (grew1 (Below.refl _ _))).below hb_wa | exact (HS.out.below (grew2 (Below.refl _ _))).below hb_wa | exact (HS.out.below (grew3 (Below.refl _ _))).below hb_wa)
  by_cases h0 : asked l st kd now = 0
  · have HP := Lib.hid (show p = ((cnt l st kd now 99 : Int), 0) by rw [HR.out, if_pos h0, cnt_all])
    rw [h0]
    clear h0 HR
    go_wp2_with fail
    go_loopw [11, 12] (fun sm k wr => ∃ m : Nat, m ≤ 99 ∧ k = .int .i64 ((m : Int) + 1) ∧ sm = .int .i64 (cnt l st kd now m) ∧ Below w.heap.size w wr ∧ Hid (Sl wr 5 cU ao l.length cap l)) (fun _ k _ => 100 - (intOf k).toNat)
    case atStart => exact ⟨0, by omega, rfl, rfl, HB_wa, HS⟩
    case round =>
      clear HS
      obtain ⟨m, hm, rfl, rfl, HB_wr, HS⟩ := hrel
      by_cases hm9 : m < 99
      · have hc1 := cnt_le l st kd now m
        have HCS := Lib.hid (cnt_succ l st kd now m)
        have HC2 := Lib.hid (cnt_le l st kd now (m + 1))
        go_wp2_with fail
        refine (rfree_any _ _ _ l _ _ _ _ _ HS.out).mono ?_
        rintro e w2 ⟨rfl, hb_w2⟩
        have HB_w2 : Below w.heap.size w w2 := by first | exact after0 HB_wr hb_w2 | exact after1 HB_wr hb_w2 | exact after2 HB_wr hb_w2 | exact after3 HB_wr hb_w2 | exact after4 HB_wr hb_w2 | exact after5 HB_wr hb_w2
        replace HS := Lib.hid (show Sl w2 _ _ _ _ _ _ by first | exact HS.out.below hb_w2 | exact (HS.out.below (grew1 (Below.refl _ _))).below hb_w2 | exact (HS.out.below (grew2 (Below.refl _ _))).below hb_w2 | exact (HS.out.below (grew3 (Below.refl _ _))).below hb_w2)
        generalize cnt l st kd now m = c at *
        cases hu : used l ⟨st, kd, (m : Int) + 1⟩ now
        · have hcs := HCS.out
          rw [hu] at hcs
          simp only [Bool.false_eq_true, if_false] at hcs
          have HC := Lib.hid hcs
          clear hcs hu HCS
          go_wp2_with fail
          go_roundw
          case rel => exact ⟨m + 1, by omega, by go_num, by rw [HC.out]; go_num, HB_w2, HS⟩
          case measure => simp [intOf]; omega
        · have hcs := HCS.out
          rw [hu] at hcs
          simp only [if_true] at hcs
          have HC := Lib.hid hcs
          clear hcs hu HCS
          go_wp2_with fail
          go_roundw
          case rel => exact ⟨m + 1, by omega, by go_num, by rw [HC.out]; rfl, HB_w2, HS⟩
          case measure => simp [intOf]; omega
      · have hm9' : m = 99 := by omega
        subst hm9'
        generalize cnt l st kd now 99 = c at *
        go_wp2_with fail
        go_ret2
        exact ⟨ret_pair HP.out, HB_wr⟩
  · have HP := Lib.hid (HR.out.trans (if_neg h0))
    clear HR
    have h0' : (asked l st kd now == 0) = false := beq_eq_false_iff_ne.2 h0
    clear h0
    generalize asked l st kd now = q at *
    go_wp2_with fail
    go_ret2
    exact ⟨ret_pair HP.out, HB_wa⟩

/-- the first free number behind the last one -/
theorem frees_at (l : List Us) (st kd now : Int) : ∀ k : Nat, k ≤ 99 → (∀ j : Nat, j < k → used l ⟨st, kd, (lastNu l st kd + (j : Int)) % 99 + 1⟩ now = true) →
    frees l st kd now = ((((List.range' k (99 - k)).map fun (i : Nat) => (lastNu l st kd + (i : Int)) % 99 + 1).map fun n => (⟨st, kd, n⟩ : Nm)).filter fun n => !used l n now)
  | 0, _, _ => by unfold frees turn; rw [List.range_eq_range']
  | k + 1, hk, h => by
    rw [frees_at l st kd now k (by omega) (fun j hj => h j (by omega))]
    rw [show 99 - k = (99 - (k + 1)) + 1 by omega, List.range'_succ, List.map_cons, List.map_cons, List.filter_cons_of_neg (by simp [h k (by omega)])]
theorem frees_hit {l : List Us} {st kd now : Int} {k : Nat} (hk : k < 99) (h : ∀ j : Nat, j < k → used l ⟨st, kd, (lastNu l st kd + (j : Int)) % 99 + 1⟩ now = true)
    (hu : used l ⟨st, kd, (lastNu l st kd + (k : Int)) % 99 + 1⟩ now = false) : ∃ r, frees l st kd now = ⟨st, kd, (lastNu l st kd + (k : Int)) % 99 + 1⟩ :: r := by
  rw [frees_at l st kd now k (by omega) h, show 99 - k = (98 - k) + 1 by omega, List.range'_succ, List.map_cons, List.map_cons, List.filter_cons_of_pos (by simp [hu])]
  exact ⟨_, rfl⟩
theorem frees_none {l : List Us} {st kd now : Int} (h : ∀ j : Nat, j < 99 → used l ⟨st, kd, (lastNu l st kd + (j : Int)) % 99 + 1⟩ now = true) : frees l st kd now = [] := by
  rw [frees_at l st kd now 99 (by omega) h]; rfl

set_option maxRecDepth 100000 in
set_option maxHeartbeats 4000000 in
theorem rnext_any (ao : Option Addr) (n cap : Nat) (l : List Us) (st kd now : Int) (w : World) (hs : Sl w 5 cU ao n cap l) :
    Calls Tryz.prog 66 #[.slice ao n cap, .int .i64 st, .int .i64 kd, .int .i64 now] w
      (Ret w (.tuple #[.agg #[.int .i64 (next l st kd now).1.st, .int .i64 (next l st kd now).1.kd, .int .i64 (next l st kd now).1.nu], .int .i64 (next l st kd now).2])) := by
  obtain rfl := hs.len
  have hcap := hs.max
  have hle := hs.le
  unfold maxLen at hcap
  obtain ⟨W0, hW0, HB_W0, hZ, hn⟩ := boxes1 w [.int .i64 0, .int .i64 0, .int .i64 0] 29
  have H_r := Lib.hid hn
  have HS := Lib.hid (hs.below HB_W0)
  clear hs hn hZ
  have HERR := Lib.hid (@next_err l st kd now)
  have HSOME := Lib.hid (show asked l st kd now = 0 → ∀ k : Nat, k < 99 → (∀ j : Nat, j < k → used l ⟨st, kd, (lastNu l st kd + (j : Int)) % 99 + 1⟩ now = true) → used l ⟨st, kd, (lastNu l st kd + (k : Int)) % 99 + 1⟩ now = false →
      next l st kd now = (⟨st, kd, (lastNu l st kd + (k : Int)) % 99 + 1⟩, 0) from fun h k hk h1 h2 => by obtain ⟨r, hr⟩ := frees_hit hk h1 h2; exact next_some h hr)
  have HNONE := Lib.hid (show asked l st kd now = 0 → (∀ j : Nat, j < 99 → used l ⟨st, kd, (lastNu l st kd + (j : Int)) % 99 + 1⟩ now = true) → next l st kd now = (zeroN, 17) from fun h h1 => next_none h (frees_none h1))
  generalize next l st kd now = p at *
  go_enter Tryz.func66, Tryz.ntmps66
  go_wp2_with fail
  refine (rasked_any _ _ _ l _ _ _ _ HS.out).mono ?_
  rintro e wa ⟨rfl, hb_wa⟩
  have HB_wa : Below w.heap.size w wa := by first | exact after0 HB_W0 hb_wa | exact after1 HB_W0 hb_wa | exact after2 HB_W0 hb_wa | exact after3 HB_W0 hb_wa | exact after4 HB_W0 hb_wa | exact after5 HB_W0 hb_wa
  try clear q_r_0 q_r_1 q_r_2
  have H_r := Lib.hid (Box.below (by first | exact H_r.out | exact H_r.out.alloc _ | exact (H_r.out.alloc _).alloc _ | exact ((H_r.out.alloc _).alloc _).alloc _) hb_wa)
  obtain ⟨q_r_0, q_r_1, q_r_2⟩ := H_r.out.c3
  replace HS := Lib.hid (show Sl wa _ _ _ _ _ _ by first | exact HS.out.below hb_wa | exact (HS.out.below (grew1 (Below.refl _ _))).below hb_wa | exact (HS.out.below (grew2 (Below.refl _ _))).below hb_wa | exact (HS.out.below (grew3 (Below.refl _ _))).below hb_wa)
  clear hW0
  by_cases h0 : asked l st kd now = 0
  case neg =>
    have HP := Lib.hid (HERR.out h0)
    have h0' : (asked l st kd now == 0) = false := beq_eq_false_iff_ne.2 h0
    clear h0 HERR HSOME HNONE
    generalize asked l st kd now = q at *
    have f1 := H_r.out.frozen
    go_wp2_with fail
    obtain ⟨s0, s1, s2⟩ := (((H_r.out.set 0 (.int .i64 0)).set 1 (.int .i64 0)).set 2 (.int .i64 0)).c3
    refine bodyPost_ret (v := .tuple #[.agg #[.int .i64 0, .int .i64 0, .int .i64 0], .int .i64 q]) (by simp [results, Tryz.results66, go_sem, s0, s1, s2]) rfl ?_
    exact ⟨by rw [HP.out]; rfl, ((HB_wa.setCell (p := ⟨w.heap.size, 0, none⟩) (Nat.le_refl _) _).setCell (p := ⟨w.heap.size, 1, none⟩) (Nat.le_refl _) _).setCell (p := ⟨w.heap.size, 2, none⟩) (Nat.le_refl _) _⟩
  have HSO := Lib.hid (HSOME.out h0)
  have HNO := Lib.hid (HNONE.out h0)
  have HRO := Lib.hid (rows_iff.1 (asked_zero h0).1)
  rw [h0]
  clear HSOME HNONE HERR h0
  clear q_r_0 q_r_1 q_r_2
  go_wp2_with fail
  go_loopw [11, 12] (fun la i wr => ∃ k : Nat, k ≤ l.length ∧ i = .int .i64 k ∧ la = .int .i64 (lastNu (l.take k) st kd) ∧ Below w.heap.size w wr ∧ Hid (Sl wr 5 cU ao l.length cap l) ∧ Hid (Box wr w.heap.size 29 [.int .i64 0, .int .i64 0, .int .i64 0])) (fun _ i _ => l.length - (intOf i).toNat)
  case atStart => exact ⟨0, by omega, rfl, rfl, HB_wa, HS, H_r⟩
  case round =>
    clear HS H_r
    obtain ⟨k, hk, rfl, rfl, HB_wr, HS, H_r⟩ := hrel
    by_cases hkl : k < l.length
    · have HLA := Lib.hid (show lastNu (l.take (k + 1)) st kd = if l[k].nm.st = st ∧ l[k].nm.kd = kd then l[k].nm.nu else lastNu (l.take k) st kd by rw [List.take_succ_eq_append_getElem hkl, lastNu_snoc])
      generalize lastNu (l.take k) st kd = la at *
      obtain ⟨bb, off, rfl, hbb, hrow⟩ := HS.out.get hkl
      obtain ⟨e_0, e_1, e_2, e_3, e_4⟩ := (hrow k hkl).c5
      clear hrow
      generalize l[k] = u at *
      obtain ⟨⟨a, b, c⟩, f, g⟩ := u
      dsimp only at e_0 e_1 e_2 e_3 e_4 HLA
      by_cases c1 : a = st
      · by_cases c2 : b = kd
        · have HL2 := Lib.hid (HLA.out.trans (if_pos ⟨c1, c2⟩))
          subst c1 c2
          clear HLA
          go_wp2_with fail
          go_roundw
          case rel => exact ⟨k + 1, by omega, by go_num, by rw [HL2.out], HB_wr, HS, H_r⟩
          case measure => simp [intOf]; omega
        · have HL2 := Lib.hid (HLA.out.trans (if_neg (fun h => c2 h.2)))
          have c2' : (b == kd) = false := beq_eq_false_iff_ne.2 c2
          subst c1
          clear HLA c2
          go_wp2_with fail
          go_roundw
          case rel => exact ⟨k + 1, by omega, by go_num, by rw [HL2.out], HB_wr, HS, H_r⟩
          case measure => simp [intOf]; omega
      · have HL2 := Lib.hid (HLA.out.trans (if_neg (fun h => c1 h.1)))
        have c1' : (a == st) = false := beq_eq_false_iff_ne.2 c1
        clear HLA c1
        go_wp2_with fail
        go_roundw
        case rel => exact ⟨k + 1, by omega, by go_num, by rw [HL2.out], HB_wr, HS, H_r⟩
        case measure => simp [intOf]; omega
    · have hla := lastNu_range HRO.out st kd
      rw [List.take_of_length_le (by omega)]
      generalize lastNu l st kd = la at *
      obtain ⟨hla1, hla2⟩ := hla
      go_wp2_with fail
      go_loopw [13] (fun i wr => ∃ m : Nat, m ≤ 99 ∧ i = .int .i64 m ∧ Below w.heap.size w wr ∧ Hid (Sl wr 5 cU ao l.length cap l) ∧ Hid (Box wr w.heap.size 29 [.int .i64 0, .int .i64 0, .int .i64 0]) ∧ Hid (∀ j : Nat, j < m → used l ⟨st, kd, (la + (j : Int)) % 99 + 1⟩ now = true)) (fun i _ => 99 - (intOf i).toNat)
      case atStart => exact ⟨0, by omega, rfl, HB_wr, HS, H_r, fun j h => absurd h (Nat.not_lt_zero _)⟩
      case round =>
        clear HS H_r
        obtain ⟨m, hm, rfl, HB_wr, HS, H_r, HU⟩ := hrel
        by_cases hm9 : m < 99
        · have HS1 := Lib.hid (HSO.out m hm9 HU.out)
          have HUS := Lib.hid (show used l ⟨st, kd, (la + (m : Int)) % 99 + 1⟩ now = true → ∀ j : Nat, j < m + 1 → used l ⟨st, kd, (la + (j : Int)) % 99 + 1⟩ now = true from fun h j hj => by
            rcases Nat.lt_succ_iff_lt_or_eq.1 hj with h1 | rfl
            · exact HU.out j h1
            · exact h)
          obtain ⟨x, hx⟩ : ∃ x, (la + (m : Int)) % 99 + 1 = x := ⟨_, rfl⟩
          have hx1 : 1 ≤ x ∧ x ≤ 99 := by omega
          obtain ⟨W1, hW1, hB1, hZ1, hb1⟩ := boxes1 wr [.int .i64 st, .int .i64 kd, .int .i64 x] 29
          obtain ⟨NB, hNB⟩ : ∃ NB, wr.heap.size = NB := ⟨_, rfl⟩
          rw [hNB] at hb1
          have H_a := Lib.hid hb1
          have HB_W1 : Below w.heap.size w W1 := after0 HB_wr hB1
          replace HS := Lib.hid (HS.out.below hB1)
          replace H_r := Lib.hid (H_r.out.below hB1)
          clear hb1 hB1 hZ1
          rw [hx] at HS1 HUS
          obtain ⟨q_a_0, q_a_1, q_a_2⟩ := H_a.out.c3
          go_wp2_with fail
          refine (rfree_any _ _ _ l _ _ _ _ _ HS.out).mono ?_
          rintro e w2 ⟨rfl, hb_w2⟩
          have HB_w2 : Below w.heap.size w w2 := by first | exact after0 HB_W1 hb_w2 | exact after1 HB_W1 hb_w2 | exact after2 HB_W1 hb_w2 | exact after3 HB_W1 hb_w2 | exact after4 HB_W1 hb_w2 | exact after5 HB_W1 hb_w2
          try clear q_r_0 q_r_1 q_r_2
          have H_r := Lib.hid (Box.below (by first | exact H_r.out | exact H_r.out.alloc _ | exact (H_r.out.alloc _).alloc _ | exact ((H_r.out.alloc _).alloc _).alloc _) hb_w2)
          obtain ⟨q_r_0, q_r_1, q_r_2⟩ := H_r.out.c3
          try clear q_a_0 q_a_1 q_a_2
          have H_a := Lib.hid (Box.below (by first | exact H_a.out | exact H_a.out.alloc _ | exact (H_a.out.alloc _).alloc _ | exact ((H_a.out.alloc _).alloc _).alloc _) hb_w2)
          obtain ⟨q_a_0, q_a_1, q_a_2⟩ := H_a.out.c3
          replace HS := Lib.hid (show Sl w2 _ _ _ _ _ _ by first | exact HS.out.below hb_w2 | exact (HS.out.below (grew1 (Below.refl _ _))).below hb_w2 | exact (HS.out.below (grew2 (Below.refl _ _))).below hb_w2 | exact (HS.out.below (grew3 (Below.refl _ _))).below hb_w2)
          clear hW1 hNB
          cases hu : used l ⟨st, kd, x⟩ now
          · have HP := Lib.hid (HS1.out hu)
            have f1 := H_r.out.frozen
            clear hu HUS HSO HNO hx
            go_wp2_with fail
            obtain ⟨s0, s1, s2⟩ := (((H_r.out.set 0 (.int .i64 st)).set 1 (.int .i64 kd)).set 2 (.int .i64 x)).c3
            refine bodyPost_ret (v := .tuple #[.agg #[.int .i64 st, .int .i64 kd, .int .i64 x], .int .i64 0]) (by simp [results, Tryz.results66, go_sem, s0, s1, s2]) rfl ?_
            exact ⟨by rw [HP.out], ((HB_w2.setCell (p := ⟨w.heap.size, 0, none⟩) (Nat.le_refl _) _).setCell (p := ⟨w.heap.size, 1, none⟩) (Nat.le_refl _) _).setCell (p := ⟨w.heap.size, 2, none⟩) (Nat.le_refl _) _⟩
          · have HU2 := Lib.hid (HUS.out hu)
            clear hu
            go_wp2_with fail
            go_roundw
            case rel => exact ⟨m + 1, by omega, by go_num, HB_w2, HS, H_r, HU2⟩
            case measure => simp [intOf]; omega
        · have HP := Lib.hid (HNO.out fun j hj => HU.out j (by omega))
          have f1 := H_r.out.frozen
          obtain ⟨r0, r1, r2⟩ := H_r.out.c3
          go_wp2_with fail
          obtain ⟨s0, s1, s2⟩ := (((H_r.out.set 0 (.int .i64 0)).set 1 (.int .i64 0)).set 2 (.int .i64 0)).c3
          refine bodyPost_ret (v := .tuple #[.agg #[.int .i64 0, .int .i64 0, .int .i64 0], .int .i64 17]) (by simp [results, Tryz.results66, go_sem, s0, s1, s2]) rfl ?_
          exact ⟨by rw [HP.out]; rfl, ((HB_wr.setCell (p := ⟨w.heap.size, 0, none⟩) (Nat.le_refl _) _).setCell (p := ⟨w.heap.size, 1, none⟩) (Nat.le_refl _) _).setCell (p := ⟨w.heap.size, 2, none⟩) (Nat.le_refl _) _⟩
end Go.Proofs.YtpdecgbfnhaojaaGreat
