/-
  Walks of the layer 'number': the examples (head), last.
-/
import Derived.Test.YtpdecgbfnhaojaaGreatNumH
namespace Go.Proofs.YtpdecgbfnhaojaaGreat
open Go.RowKit Nb Sk Go.Sort

def hl : List Us := [⟨⟨5, 2, 7⟩, 10, 100⟩, ⟨⟨5, 2, 8⟩, 20, 60⟩]
def s1 : ByteArray := ⟨#[69, 66, 48, 55]⟩
def s2 : ByteArray := ⟨#[90, 74, 57, 57]⟩
def s3 : ByteArray := ⟨#[69, 66, 48, 48]⟩
def s4 : ByteArray := ⟨#[69, 75, 48, 55]⟩
theorem e_text : text ⟨5, 2, 7⟩ = (s1, 0) := by kernel_rfl
theorem e_p2 : parse s2 = (⟨26, 10, 99⟩, 0) := by kernel_rfl
theorem e_p3 : parse s3 = (⟨0, 0, 0⟩, 1) := by kernel_rfl
theorem e_p4 : parse s4 = (⟨0, 0, 0⟩, 1) := by kernel_rfl
theorem e_n1 : next hl 5 2 30 = (⟨5, 2, 9⟩, 0) := by kernel_rfl
theorem e_n2 : next hl 5 2 19 = (⟨0, 0, 0⟩, 13) := by kernel_rfl
theorem e_n3 : next hl 5 3 30 = (⟨5, 3, 1⟩, 0) := by kernel_rfl
theorem e_w1 : who hl ⟨5, 2, 8⟩ 59 = (1, 0) := by kernel_rfl
theorem e_w2 : who hl ⟨5, 2, 8⟩ 60 = (0, 4) := by kernel_rfl
theorem e_s1 : sure hl ⟨5, 2, 7⟩ 100 200 = (0, 4) := by kernel_rfl
theorem e_s2 : sure hl ⟨5, 2, 7⟩ 90 200 = (0, 0) := by kernel_rfl
theorem e_r1 : room hl 5 2 30 = (97, 0) := by kernel_rfl
theorem e_r2 : room hl 5 2 60 = (98, 0) := by kernel_rfl
theorem e_rows : rows hl = true := by kernel_rfl
theorem e_ok : okN ⟨5, 2, 9⟩ = true := by kernel_rfl

theorem hl_cells : hl.flatMap cU = [.int .i64 5, .int .i64 2, .int .i64 7, .int .i64 10, .int .i64 100, .int .i64 5, .int .i64 2, .int .i64 8, .int .i64 20, .int .i64 60] := rfl

end Go.Proofs.YtpdecgbfnhaojaaGreat
