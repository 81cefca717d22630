/- head: what awake looks at, plain. -/
import Derived.Test.YtoifkfhbinfplaaHd21
namespace Go.Proofs.Ytoifkfhbinfplaa
open Go Go.RowKit
set_option linter.unusedVariables false
set_option linter.unusedSimpArgs false

def hA : Hd := ⟨0, 4, 5, 0, -6, 0, 0, 0, 0, 0, 0, 0, 1⟩
def lA : List Fd := [⟨258, str [97, 98, 99, 100, 101]⟩, ⟨7, str []⟩]
def sA : List UInt8 := [37, 0, 250, 0, 0, 0, 0, 0, 0, 0, 0, 0, 0, 0, 0, 0, 0, 0, 0, 0, 0, 0, 0, 0, 0, 0, 0, 0, 0, 0, 0, 0, 0, 0, 0, 0, 0, 0, 0, 0, 0, 0, 0, 0, 0, 0, 0, 1]
def tA : List UInt8 := [1, 2, 0, 9, 97, 98, 99, 100, 101, 0, 0, 0, 0, 7, 0, 4]
theorem hA_may : hA.may = true := by decide
theorem hA_ok : hA.ok := by constructor <;> decide
theorem hA_bytes : hA.bytes = sA := by decide +kernel
theorem lA_body : bodyL lA = tA := by decide +kernel
theorem lA_right : lA.all Fd.right = true := by decide +kernel
theorem write_A : writeL hA lA = (sA ++ tA, 0) := by
  unfold writeL
  rw [hA_may, lA_right, if_pos (by decide), if_pos (by decide), hA_bytes, lA_body]
theorem take_A : takeH (str sA) = (hA, 0) := by
  unfold takeH
  rw [if_pos (by rw [str_size]; rfl), ← hA_bytes, hdOf_bytes hA hA_may hA_ok, if_pos hA_may]
theorem take_x : takeH (str [120]) = (zeroH, 5) := by
  unfold takeH
  rw [if_neg (by rw [str_size]; decide)]
theorem zero_may : zeroH.may = false := by decide
theorem read_A : readL (str (sA ++ tA)) = (hA, lA, 0) := by kernel_rfl
theorem read_Ax : readL (str (sA ++ tA) ++ ⟨#[120]⟩) = (zeroH, [], 2) := by kernel_rfl
theorem find_7 : findF 7 lA = (str [], true) := by kernel_rfl
theorem find_8 : findF 8 lA = (str [], false) := by kernel_rfl
end Go.Proofs.Ytoifkfhbinfplaa
