/-
  Walks of the layer 'number': Who, name, Text, Parse.
-/
import Derived.Test.YtecnbfgacojpjaaNumB
import Derived.Lib.OthersKept
import Derived.WalkSmall
namespace Go.Proofs.Ytecnbfgacojpjaa
open Go.RowKit Nb Sk

theorem who_any (ao : Option Addr) (n cap : Nat) (l : List Us) (us uk un t : Int) (w : World) (hs : Sl w 5 cU ao n cap l) :
    Calls Try.prog 17 #[.slice ao n cap, .agg #[.int .i64 us, .int .i64 uk, .int .i64 un], .int .i64 t] w
      (Ret w (.tuple #[.int .i64 (who l ⟨us, uk, un⟩ t).1, .int .i64 (who l ⟨us, uk, un⟩ t).2])) := by
  unfold who
  have HS := Lib.hid hs
  clear hs
  obtain ⟨p, hp⟩ : ∃ p, sure l ⟨us, uk, un⟩ t t = p := ⟨_, rfl⟩
  have HP := Lib.hid hp
  rw [hp]
  go_enter Try.func17, Try.ntmps17
  go_wp2_with fail
  have HB := (Below.refl w.heap.size w).alloc (Nat.le_refl _) (.cells #[.int .i64 us, .int .i64 uk, .int .i64 un] 23)
  refine (sure_any _ _ _ l _ _ _ _ _ _ (HS.out.below HB)).mono ?_
  rintro e wa ⟨rfl, hb⟩
  rw [hp]
  clear hp
  go_wp2
  go_ret2
  exact ⟨rfl, after0 HB hb⟩

theorem name_any (a b c : Int) (w : World) : Calls Try.prog 18 #[.int .i64 a, .int .i64 b, .int .i64 c] w (Ret w (.agg #[.int .i64 a, .int .i64 b, .int .i64 c])) := by
  go_enter Try.func18, Try.ntmps18
  go_wp2
  refine bodyPost_ret (v := .agg #[.int .i64 a, .int .i64 b, .int .i64 c]) (by simp [results, Try.results18, go_sem]) rfl ⟨rfl, grew1 (Below.refl _ _)⟩

/-- the text of a name, as bytes -/
def txt (n : Nm) : ByteArray := strOfNums [65 + n.st - 1, 65 + n.kd - 1, 48 + n.nu / 10, 48 + n.nu % 10]
/-- what Text returns -/
def text (n : Nm) : ByteArray × Int := if okN n then (txt n, 0) else (⟨#[]⟩, 1)

theorem text_any (a b c : Int) (w : World) : Calls Try.prog 12 #[.agg #[.int .i64 a, .int .i64 b, .int .i64 c]] w (Ret w (.tuple #[.string (text ⟨a, b, c⟩).1, .int .i64 (text ⟨a, b, c⟩).2])) := by
  obtain ⟨p, hp⟩ : ∃ p, text ⟨a, b, c⟩ = p := ⟨_, rfl⟩
  have HP := Lib.hid hp
  rw [hp]
  clear hp
  obtain ⟨W0, hW0, HB_W0, hZ, hn⟩ := boxes1 w [.int .i64 a, .int .i64 b, .int .i64 c] 23
  have H_n := Lib.hid hn
  clear hn
  obtain ⟨q_n_0, q_n_1, q_n_2⟩ := H_n.out.c3
  by_cases h : okN ⟨a, b, c⟩ = true
  · have HT : Hid (p = (txt ⟨a, b, c⟩, 0)) := by show _ = _; rw [← HP.out]; simp [text, h]
    have h' := okN_iff.1 h
    obtain ⟨g1, g2, g3, g4, g5, g6⟩ := h'
    dsimp only at *
    go_enter Try.func12, Try.ntmps12
    go_wp2_with fail
    refine (valid_any _ _ _ _).mono ?_
    rintro e wa ⟨rfl, hb_wa⟩
    have HB_wa : Below w.heap.size w wa := by first | exact after0 HB_W0 hb_wa | exact after1 HB_W0 hb_wa | exact after2 HB_W0 hb_wa | exact after3 HB_W0 hb_wa | exact after4 HB_W0 hb_wa | exact after5 HB_W0 hb_wa
    try clear q_n_0 q_n_1 q_n_2
    have H_n := Lib.hid (Box.below (by first | exact H_n.out | exact H_n.out.alloc _ | exact (H_n.out.alloc _).alloc _ | exact ((H_n.out.alloc _).alloc _).alloc _) hb_wa)
    obtain ⟨q_n_0, q_n_1, q_n_2⟩ := H_n.out.c3
    clear hW0
    rw [h]
    have hcv := run_convert_bytes_arg (P := Try.prog) (w := wa.alloc (.cells #[.int .u8 (65 + a - 1), .int .u8 (65 + b - 1), .int .u8 (48 + c / 10), .int .u8 (48 + c % 10)] 5)) 53 5 Try.underlying53 Try.underlying5 wa.heap.size 0 4 4 [65 + a - 1, 65 + b - 1, 48 + c / 10, 48 + c % 10] rfl
      (fun i hi => by rcases (by omega : i = 0 ∨ i = 1 ∨ i = 2 ∨ i = 3) with rfl | rfl | rfl | rfl <;> simp) 9 Try.underlying9
    go_wp2_with fail
    go_ret2
    exact ⟨by rw [HT.out]; rfl, grew1 HB_wa⟩
  · have h' : okN ⟨a, b, c⟩ = false := by simpa using h
    have HT : Hid (p = (⟨#[]⟩, 1)) := by show _ = _; rw [← HP.out]; simp [text, h]
    clear h
    go_enter Try.func12, Try.ntmps12
    go_wp2_with fail
    refine (valid_any _ _ _ _).mono ?_
    rintro e wa ⟨rfl, hb_wa⟩
    have HB_wa : Below w.heap.size w wa := by first | exact after0 HB_W0 hb_wa | exact after1 HB_W0 hb_wa | exact after2 HB_W0 hb_wa | exact after3 HB_W0 hb_wa | exact after4 HB_W0 hb_wa | exact after5 HB_W0 hb_wa
    try clear q_n_0 q_n_1 q_n_2
    have H_n := Lib.hid (Box.below (by first | exact H_n.out | exact H_n.out.alloc _ | exact (H_n.out.alloc _).alloc _ | exact ((H_n.out.alloc _).alloc _).alloc _) hb_wa)
    obtain ⟨q_n_0, q_n_1, q_n_2⟩ := H_n.out.c3
    clear hW0
    rw [h']
    go_wp2_with fail
    go_ret2
    exact ⟨by rw [HT.out]; rfl, HB_wa⟩

/-- a byte of a string, as a number -/
def byt (s : ByteArray) (i : Nat) : Int := if h : i < s.size then ((s[i]'h).toNat : Int) else 0
/-- what Parse returns -/
def parse (s : ByteArray) : Nm × Int :=
  if s.size = 4 ∧ (65 ≤ byt s 0 ∧ byt s 0 ≤ 90) ∧ (65 ≤ byt s 1 ∧ byt s 1 ≤ 90) ∧ (48 ≤ byt s 2 ∧ byt s 2 ≤ 57) ∧ (48 ≤ byt s 3 ∧ byt s 3 ≤ 57) ∧
      okN ⟨byt s 0 - 64, byt s 1 - 64, 10 * (byt s 2 - 48) + (byt s 3 - 48)⟩ = true then
    (⟨byt s 0 - 64, byt s 1 - 64, 10 * (byt s 2 - 48) + (byt s 3 - 48)⟩, 0)
  else (zeroN, 1)

/-- the bytes that Parse takes at a place -/
def good (s : ByteArray) (i : Nat) : Prop := if i < 2 then 65 ≤ byt s i ∧ byt s i ≤ 90 else 48 ≤ byt s i ∧ byt s i ≤ 57
/-- the name that has been read when the loop comes to place k -/
def sofar (s : ByteArray) : Nat → Nm
  | 0 => ⟨0, 0, 0⟩
  | 1 => ⟨byt s 0 - 64, 0, 0⟩
  | 2 => ⟨byt s 0 - 64, byt s 1 - 64, 0⟩
  | 3 => ⟨byt s 0 - 64, byt s 1 - 64, byt s 2 - 48⟩
  | _ => ⟨byt s 0 - 64, byt s 1 - 64, 10 * (byt s 2 - 48) + (byt s 3 - 48)⟩

/-- the rune at a place: the byte itself where it is below 128, else at least 128 -/
theorem rune_at (s : ByteArray) (i : Nat) (h : i < s.size) : (byt s i < 128 ∧ Utf8.decode s i = ((byt s i).toNat, 1) ∧ 0 ≤ byt s i) ∨ (128 ≤ byt s i ∧ 128 ≤ (Utf8.decode s i).1) := by
  unfold byt
  rw [dif_pos h]
  by_cases ha : (s[i]'h).toNat < 128
  · left; refine ⟨by omega, ?_, by omega⟩; rw [decode_ascii s i h ha]; simp
  · right; exact ⟨by omega, (decode_high s i h (by omega)).1⟩

theorem parse_good {s : ByteArray} (h4 : s.size = 4) (h : ∀ i, i < 4 → good s i) : parse s = if okN (sofar s 4) = true then (sofar s 4, 0) else (zeroN, 1) := by
  have h0 := h 0 (by omega); have h1 := h 1 (by omega); have h2 := h 2 (by omega); have h3 := h 3 (by omega)
  simp [good] at h0 h1 h2 h3
  by_cases hv : okN (sofar s 4) = true
  · rw [if_pos hv]; unfold parse; rw [if_pos]; · rfl
    exact ⟨h4, h0, h1, h2, h3, hv⟩
  · rw [if_neg hv]; unfold parse; rw [if_neg]
    rintro ⟨_, _, _, _, _, hv'⟩; exact hv hv'
theorem parse_bad {s : ByteArray} {i : Nat} (hi : i < 4) (h : ¬ good s i) : parse s = (zeroN, 1) := by
  unfold parse
  rw [if_neg]
  rintro ⟨_, h0, h1, h2, h3, _⟩
  apply h
  rcases (by omega : i = 0 ∨ i = 1 ∨ i = 2 ∨ i = 3) with rfl | rfl | rfl | rfl <;> simp [good] <;> assumption

set_option maxHeartbeats 2000000 in
theorem parse_any (s : ByteArray) (w : World) : Calls Try.prog 13 #[.string s] w (Ret w (.tuple #[.agg #[.int .i64 (parse s).1.st, .int .i64 (parse s).1.kd, .int .i64 (parse s).1.nu], .int .i64 (parse s).2])) := by
  obtain ⟨p, hp⟩ : ∃ p, parse s = p := ⟨_, rfl⟩
  have HP := Lib.hid hp
  rw [hp]
  clear hp
  by_cases h4 : s.size = 4
  · have H4 := Lib.hid h4
    go_enter Try.func13, Try.ntmps13
    go_wp2_with fail
    clear h4
    obtain ⟨W0, hW0⟩ : ∃ W0, w.alloc (.cells #[.int .i64 0, .int .i64 0, .int .i64 0] 23) = W0 := ⟨_, rfl⟩
    have B0 : Box W0 w.heap.size 23 [.int .i64 0, .int .i64 0, .int .i64 0] := hW0 ▸ Box.new w _ _
    have Z0 : W0.heap.size = w.heap.size + 1 := by rw [← hW0]; simp
    have L0 : Below w.heap.size w W0 := hW0 ▸ grew1 (Below.refl _ _)
    rw [hW0]
    obtain ⟨W1, hW1⟩ : ∃ W1, W0.alloc (.cells #[.int .i64 0, .int .i64 0, .int .i64 0] 23) = W1 := ⟨_, rfl⟩
    have B1 : Box W1 (w.heap.size + 1) 23 [.int .i64 0, .int .i64 0, .int .i64 0] := by have := Box.new W0 [.int .i64 0, .int .i64 0, .int .i64 0] 23; rw [Z0] at this; exact hW1 ▸ this
    have B0' : Box W1 w.heap.size 23 [.int .i64 0, .int .i64 0, .int .i64 0] := hW1 ▸ B0.alloc _
    have Z1 : W1.heap.size = w.heap.size + 2 := by rw [← hW1]; simp [Z0]
    have L1 : Below w.heap.size w W1 := hW1 ▸ grew1 L0
    rw [hW1]
    clear hW0 hW1 B0 L0 Z0
    have HB1 := Lib.hid B1
    have HB0 := Lib.hid B0'
    have HZ1 := Lib.hid Z1
    clear B1 B0' Z1
    go_loopw [3] (fun e wr => ∃ k : Nat, k ≤ 4 ∧ e = .int .i64 0 ∧ Hid (Box wr w.heap.size 23 [.int .i64 0, .int .i64 0, .int .i64 0]) ∧ Hid (Box wr (w.heap.size + 1) 23 [.int .i64 (sofar s k).st, .int .i64 (sofar s k).kd, .int .i64 (sofar s k).nu]) ∧
      Hid (wr.heap[w.heap.size + 2]? = some (.stringIter s k)) ∧ Below w.heap.size w wr ∧ Hid (∀ i, i < k → good s i)) (fun _ wr => 5 - wr.iterPos (w.heap.size + 2))
    case atStart =>
      refine ⟨0, by omega, rfl, (HB0.out.alloc _), (HB1.out.alloc _), ?_, L1.alloc (by have := HZ1.out; omega) _, fun i h => absurd h (Nat.not_lt_zero _)⟩
      have := World.iter_heap W1 s 0
      rw [HZ1.out] at this; exact this
    case round =>
      obtain ⟨k, hk, rfl, HA, HN, HI, HB, HG⟩ := hrel
      by_cases hk4 : k < 4
      · have hks : k < s.size := by have := H4.out; omega
        obtain ⟨r, hr⟩ : ∃ r, (Utf8.decode s k).1 = r := ⟨_, rfl⟩
        obtain ⟨wd, hwd⟩ : ∃ wd, (Utf8.decode s k).2 = wd := ⟨_, rfl⟩
        obtain ⟨W2, hW2⟩ : ∃ W2, wr.iterAt (w.heap.size + 2) s (k + wd) = W2 := ⟨_, rfl⟩
        have hnx : ∀ ty, (Instr.next (.pointer (some ⟨w.heap.size + 2, 0, none⟩)) true ty).run Try.prog wr = .ok (.tuple #[.bool true, .int .i64 k, .int .i32 r]) W2 := fun ty => by
          rw [Lib.run_next_any_at wr _ s k ty HI.out hks, hr, hwd, hW2]
        have hr' := Lib.hid hr
        have hwd' := Lib.hid hwd
        have HA2 : Hid (Box W2 w.heap.size 23 [.int .i64 0, .int .i64 0, .int .i64 0]) := hW2 ▸ HA.out.iterAt (by omega) _ _
        have HN2 : Hid (Box W2 (w.heap.size + 1) 23 [.int .i64 (sofar s k).st, .int .i64 (sofar s k).kd, .int .i64 (sofar s k).nu]) := hW2 ▸ HN.out.iterAt (by omega) _ _
        have HI2 : Hid (W2.heap[w.heap.size + 2]? = some (.stringIter s (k + wd))) := hW2 ▸ Lib.iterAt_heap _ _ _ _ _ HI.out
        have HB2 : Below w.heap.size w W2 := hW2 ▸ Lib.below_iterAt HB (by omega) _ _
        have hrb : r ≤ 2147483647 := hr ▸ decode_le s k
        obtain ⟨a0, a1, a2⟩ := HA2.out.c3
        obtain ⟨n0, n1, n2⟩ := HN2.out.c3
        have fa := HA2.out.frozen
        have fn := HN2.out.frozen
        have hrn := rune_at s k hks
        rw [hr] at hrn
        have HM := Lib.hid (iterPos_of HI.out)
        clear hr hwd hW2 HA HN HI HB
        by_cases hg : good s k
        · have hrv : (r : Int) = byt s k := by
            rcases hrn with ⟨h1, h2, h3⟩ | ⟨h1, h2⟩
            · have e := hr'.out; rw [h2] at e; dsimp only at e; omega
            · unfold good at hg; split at hg <;> omega
          have hwd1 : wd = 1 := by
            rcases hrn with ⟨h1, h2, h3⟩ | ⟨h1, h2⟩
            · have e := hwd'.out; rw [h2] at e; exact e.symm
            · unfold good at hg; split at hg <;> omega
          subst hwd1
          have HG2 : Hid (∀ i, i < k + 1 → good s i) := fun i hi => by
            rcases Nat.lt_succ_iff_lt_or_eq.1 hi with h | rfl
            · exact HG.out i h
            · exact hg
          clear n0 n1 n2 hr' hwd' hrn
          have hg' := hg
          unfold good at hg'
          rw [← hrv] at hg'
          have HRV := Lib.hid hrv
          clear hrv hg
          rcases (by omega : k = 0 ∨ k = 1 ∨ k = 2 ∨ k = 3) with rfl | rfl | rfl | rfl
          · have HN3 : Hid (Box W2 (w.heap.size + 1) 23 [.int .i64 (0), .int .i64 (0), .int .i64 (0)]) := HN2
            obtain ⟨n0, n1, n2⟩ := HN3.out.c3
            rw [if_pos (by omega)] at hg'
            skip
            go_wp2
            go_roundw
            case rel =>
              refine ⟨1, by omega, rfl, HA2.out.other (by omega), ?_, (Below.heap_setCell _ _ _ _ (by simp)).trans HI2.out, HB2.setCell (by simp) _, HG2⟩
              have := HN3.out.set 0 (.int .i64 ((r : Int) - 65 + 1))
              show Box _ _ _ _
              rw [show sofar s 1 = ⟨(r : Int) - 65 + 1, 0, 0⟩ by simp only [sofar, ← HRV.out]; congr 1; omega]
              exact this
            case measure =>
              rw [HM.out, iterPos_of ((Below.heap_setCell _ _ _ _ (by simp)).trans HI2.out)]; omega
          · have HN3 : Hid (Box W2 (w.heap.size + 1) 23 [.int .i64 (byt s 0 - 64), .int .i64 (0), .int .i64 (0)]) := HN2
            obtain ⟨n0, n1, n2⟩ := HN3.out.c3
            rw [if_pos (by omega)] at hg'
            skip
            go_wp2
            go_roundw
            case rel =>
              refine ⟨2, by omega, rfl, HA2.out.other (by omega), ?_, (Below.heap_setCell _ _ _ _ (by simp)).trans HI2.out, HB2.setCell (by simp) _, HG2⟩
              have := HN3.out.set 1 (.int .i64 ((r : Int) - 65 + 1))
              show Box _ _ _ _
              rw [show sofar s 2 = ⟨byt s 0 - 64, (r : Int) - 65 + 1, 0⟩ by simp only [sofar, ← HRV.out]; congr 1; omega]
              exact this
            case measure =>
              rw [HM.out, iterPos_of ((Below.heap_setCell _ _ _ _ (by simp)).trans HI2.out)]; omega
          · have HN3 : Hid (Box W2 (w.heap.size + 1) 23 [.int .i64 (byt s 0 - 64), .int .i64 (byt s 1 - 64), .int .i64 (0)]) := HN2
            obtain ⟨n0, n1, n2⟩ := HN3.out.c3
            rw [if_neg (by omega)] at hg'
            skip
            go_wp2
            go_roundw
            case rel =>
              refine ⟨3, by omega, rfl, HA2.out.other (by omega), ?_, (Below.heap_setCell _ _ _ _ (by simp)).trans HI2.out, HB2.setCell (by simp) _, HG2⟩
              have := HN3.out.set 2 (.int .i64 ((r : Int) - 48))
              show Box _ _ _ _
              rw [show sofar s 3 = ⟨byt s 0 - 64, byt s 1 - 64, (r : Int) - 48⟩ by simp only [sofar, ← HRV.out]]
              exact this
            case measure =>
              rw [HM.out, iterPos_of ((Below.heap_setCell _ _ _ _ (by simp)).trans HI2.out)]; omega
          · have HN3 : Hid (Box W2 (w.heap.size + 1) 23 [.int .i64 (byt s 0 - 64), .int .i64 (byt s 1 - 64), .int .i64 (byt s 2 - 48)]) := HN2
            obtain ⟨n0, n1, n2⟩ := HN3.out.c3
            rw [if_neg (by omega)] at hg'
            have hg3 := HG.out 2 (by omega); unfold good at hg3; rw [if_neg (by omega)] at hg3
            go_wp2
            go_roundw
            case rel =>
              refine ⟨4, by omega, rfl, HA2.out.other (by omega), ?_, (Below.heap_setCell _ _ _ _ (by simp)).trans HI2.out, HB2.setCell (by simp) _, HG2⟩
              have := HN3.out.set 2 (.int .i64 (10 * (byt s 2 - 48) + ((r : Int) - 48)))
              show Box _ _ _ _
              rw [show sofar s 4 = ⟨byt s 0 - 64, byt s 1 - 64, 10 * (byt s 2 - 48) + ((r : Int) - 48)⟩ by simp only [sofar, ← HRV.out]]
              exact this
            case measure =>
              rw [HM.out, iterPos_of ((Below.heap_setCell _ _ _ _ (by simp)).trans HI2.out)]; omega
        · have HT : Hid (p = (zeroN, 1)) := by show _ = _; rw [← HP.out]; exact parse_bad hk4 hg
          have hbad : (k < 2 ∧ (r < 65 ∨ 90 < r)) ∨ (2 ≤ k ∧ (r < 48 ∨ 57 < r)) := by
            unfold good at hg
            rcases hrn with ⟨h1, h2, h3⟩ | ⟨h1, h2⟩
            · have e := hr'.out
              rw [h2] at e
              dsimp only at e
              split at hg <;> omega
            · omega
          clear hrn hg
          rcases (by omega : (k = 0 ∧ r < 65) ∨ (k = 0 ∧ 90 < r) ∨ (k = 1 ∧ r < 65) ∨ (k = 1 ∧ 90 < r) ∨ (k = 2 ∧ r < 48) ∨ (k = 2 ∧ 57 < r) ∨ (k = 3 ∧ r < 48) ∨ (k = 3 ∧ 57 < r)) with ⟨rfl, h⟩ | ⟨rfl, h⟩ | ⟨rfl, h⟩ | ⟨rfl, h⟩ | ⟨rfl, h⟩ | ⟨rfl, h⟩ | ⟨rfl, h⟩ | ⟨rfl, h⟩
          all_goals clear hbad
          all_goals go_wp2
          all_goals first
            | (exfalso; omega)
            | (refine bodyPost_ret (v := .tuple #[.agg #[.int .i64 0, .int .i64 0, .int .i64 0], .int .i64 1]) (by simp [results, Try.results13, go_sem, a0, a1, a2]) rfl ⟨by rw [HT.out]; rfl, by repeat (first | exact HB2 | (refine Below.setCell ?_ (by simp) _))⟩)
            | skip
      · have hk' : k = 4 := by omega
        subst hk'
        have hnx : ∀ ty, (Instr.next (.pointer (some ⟨w.heap.size + 2, 0, none⟩)) true ty).run Try.prog wr = .ok (.tuple #[.bool false]) wr := fun ty => Lib.run_next_end_at wr _ s 4 ty HI.out (by rw [H4.out]; omega)
        obtain ⟨a0, a1, a2⟩ := HA.out.c3
        obtain ⟨n0, n1, n2⟩ := HN.out.c3
        have fa := HA.out.frozen
        have HT := Lib.hid (HP.out.symm.trans (parse_good H4.out (fun i hi => HG.out i hi)))
        go_wp2_with fail
        refine (valid_any _ _ _ _).mono ?_
        rintro e wa ⟨rfl, hb⟩
        obtain ⟨a0, a1, a2⟩ := (HA.out.below hb).c3
        obtain ⟨n0, n1, n2⟩ := (HN.out.below hb).c3
        have fa := (HA.out.below hb).frozen
        have HBa : Below w.heap.size w wa := after0 HB hb
        obtain ⟨q, hq⟩ : ∃ q, sofar s 4 = q := ⟨_, rfl⟩
        rw [hq] at HT n0 n1 n2
        rw [hq]
        clear hq hnx hb
        by_cases hv : okN q = true
        · have HT' := Lib.hid (HT.out.trans (if_pos hv))
          rw [hv]
          go_wp2_with fail
          refine bodyPost_ret (v := .tuple #[.agg #[.int .i64 q.st, .int .i64 q.kd, .int .i64 q.nu], .int .i64 0]) (by simp [results, Try.results13, go_sem, a0, a1, a2]) rfl ⟨by rw [HT'.out], by repeat (first | exact HBa | (refine Below.setCell ?_ (by simp) _))⟩
        · have HT' := Lib.hid (HT.out.trans (if_neg hv))
          rw [show okN ⟨q.st, q.kd, q.nu⟩ = false by simpa using hv]
          clear hv
          go_wp2_with fail
          refine bodyPost_ret (v := .tuple #[.agg #[.int .i64 0, .int .i64 0, .int .i64 0], .int .i64 1]) (by simp [results, Try.results13, go_sem, a0, a1, a2]) rfl ⟨by rw [HT'.out]; rfl, by repeat (first | exact HBa | (refine Below.setCell ?_ (by simp) _))⟩
  · have HT : Hid (p = (zeroN, 1)) := by show _ = _; rw [← HP.out]; simp [parse, h4]
    have h4' : ((s.size : Int) == 4) = false := by simp; omega
    go_enter Try.func13, Try.ntmps13
    go_wp2
    refine bodyPost_ret (v := .tuple #[.agg #[.int .i64 0, .int .i64 0, .int .i64 0], .int .i64 1]) (by simp [results, Try.results13, go_sem]) rfl ⟨by rw [HT.out]; rfl, grew1 (Below.refl _ _)⟩
end Go.Proofs.Ytecnbfgacojpjaa
