/-
  Walks of the layer 'number': Who, name, Text, Parse.
-/
import Derived.Test.YtpdecgbfnhaojaaGreatNumB
import Derived.Lib.OthersKept
import Derived.WalkSmall
namespace Go.Proofs.YtpdecgbfnhaojaaGreat
open Go.RowKit Nb Sk

/-- the text of a name, as bytes -/
def txt (n : Nm) : ByteArray := strOfNums [65 + n.st - 1, 65 + n.kd - 1, 48 + n.nu / 10, 48 + n.nu % 10]
/-- what Text returns -/
def text (n : Nm) : ByteArray × Int := if okN n then (txt n, 0) else (⟨#[]⟩, 1)

/-- a byte of a string, as a number -/
def byt (s : ByteArray) (i : Nat) : Int := if h : i < s.size then ((s[i]'h).toNat : Int) else 0
/-- what Parse returns -/
def parse (s : ByteArray) : Nm × Int :=
  if s.size = 4 ∧ (65 ≤ byt s 0 ∧ byt s 0 ≤ 90) ∧ (65 ≤ byt s 1 ∧ byt s 1 ≤ 90) ∧ (48 ≤ byt s 2 ∧ byt s 2 ≤ 57) ∧ (48 ≤ byt s 3 ∧ byt s 3 ≤ 57) ∧
      okN ⟨byt s 0 - 64, byt s 1 - 64, 10 * (byt s 2 - 48) + (byt s 3 - 48)⟩ = true then
    (⟨byt s 0 - 64, byt s 1 - 64, 10 * (byt s 2 - 48) + (byt s 3 - 48)⟩, 0)
  else (zeroN, 1)

/-- the bytes that Parse takes at a place -/
def good (s : ByteArray) (i : Nat) : Prop := if i < 2 then 65 ≤ byt s i ∧ byt s i ≤ 90 else 48 ≤ byt s i ∧ byt s i ≤ 57
/-- the name that has been read when the loop comes to place k -/
def sofar (s : ByteArray) : Nat → Nm
  | 0 => ⟨0, 0, 0⟩
  | 1 => ⟨byt s 0 - 64, 0, 0⟩
  | 2 => ⟨byt s 0 - 64, byt s 1 - 64, 0⟩
  | 3 => ⟨byt s 0 - 64, byt s 1 - 64, byt s 2 - 48⟩
  | _ => ⟨byt s 0 - 64, byt s 1 - 64, 10 * (byt s 2 - 48) + (byt s 3 - 48)⟩

/-- the rune at a place: the byte itself where it is below 128, else at least 128 -/
theorem rune_at (s : ByteArray) (i : Nat) (h : i < s.size) : (byt s i < 128 ∧ Utf8.decode s i = ((byt s i).toNat, 1) ∧ 0 ≤ byt s i) ∨ (128 ≤ byt s i ∧ 128 ≤ (Utf8.decode s i).1) := by
  unfold byt
  rw [dif_pos h]
  by_cases ha : (s[i]'h).toNat < 128
  · left; refine ⟨by omega, ?_, by omega⟩; rw [decode_ascii s i h ha]; simp
  · right; exact ⟨by omega, (decode_high s i h (by omega)).1⟩

theorem parse_good {s : ByteArray} (h4 : s.size = 4) (h : ∀ i, i < 4 → good s i) : parse s = if okN (sofar s 4) = true then (sofar s 4, 0) else (zeroN, 1) := by
  have h0 := h 0 (by omega); have h1 := h 1 (by omega); have h2 := h 2 (by omega); have h3 := h 3 (by omega)
  simp [good] at h0 h1 h2 h3
  by_cases hv : okN (sofar s 4) = true
  · rw [if_pos hv]; unfold parse; rw [if_pos]; · rfl
    exact ⟨h4, h0, h1, h2, h3, hv⟩
  · rw [if_neg hv]; unfold parse; rw [if_neg]
    rintro ⟨_, _, _, _, _, hv'⟩; exact hv hv'
theorem parse_bad {s : ByteArray} {i : Nat} (hi : i < 4) (h : ¬ good s i) : parse s = (zeroN, 1) := by
  unfold parse
  rw [if_neg]
  rintro ⟨_, h0, h1, h2, h3, _⟩
  apply h
  rcases (by omega : i = 0 ∨ i = 1 ∨ i = 2 ∨ i = 3) with rfl | rfl | rfl | rfl <;> simp [good] <;> assumption

end Go.Proofs.YtpdecgbfnhaojaaGreat
