/- chain: contracts that hold whatever the numbers are, the program's beside the reference's. -/
import Derived.Test.YtfmfdhcmbnabpaaRChn
namespace Go.Proofs.Ytfmfdhcmbnabpaa
open Go Go.RowKit
set_option linter.unusedVariables false
set_option linter.unusedSimpArgs false

theorem Key_some (K : List UInt8) (hK : K.length = 32) (n i : Int) : ∃ (E : List UInt8) (x : Int), E.length = 32 ∧
    (∀ w, Calls Try.prog 16 #[.agg (cellsU8 K).toArray, .int .i64 n, .int .i64 i] w fun e w' => e = .returned (.tuple #[.agg (cellsU8 E).toArray, .int .i64 x]) ∧ Below w.heap.size w w') ∧
    (∀ w, Calls Try.prog 17 #[.agg (cellsU8 K).toArray, .int .i64 n, .int .i64 i] w fun e w' => e = .returned (.tuple #[.agg (cellsU8 E).toArray, .int .i64 x]) ∧ Below w.heap.size w w') := by
  by_cases h : n < 1 ∨ 1024 < n ∨ i < 0 ∨ n < i
  · exact ⟨zeroK, 1, zeroK_length, fun w => Key_bad K hK n i h w, fun w => R_Key_bad K hK n i h w⟩
  · have h0 : 0 ≤ n - i := by omega
    obtain ⟨D, hD⟩ : ∃ D : Nat, n - i = (D : Int) := ⟨(n - i).toNat, by omega⟩
    exact ⟨chK K D, 0, chK_length K D, fun w => Key_good K hK n i D (by omega) (by omega) (by omega) (by omega) hD w, fun w => R_Key_good K hK n i D (by omega) (by omega) (by omega) (by omega) hD w⟩
theorem Known_some (K : List UInt8) (hK : K.length = 32) (n : Int) : ∃ (E : List UInt8) (x : Int), E.length = 32 ∧
    (∀ w, Calls Try.prog 18 #[.agg (cellsU8 K).toArray, .int .i64 n] w fun e w' => e = .returned (.tuple #[.agg (cellsU8 E).toArray, .int .i64 x]) ∧ Below w.heap.size w w') ∧
    (∀ w, Calls Try.prog 17 #[.agg (cellsU8 K).toArray, .int .i64 n, .int .i64 0] w fun e w' => e = .returned (.tuple #[.agg (cellsU8 E).toArray, .int .i64 x]) ∧ Below w.heap.size w w') := by
  by_cases h : n < 1 ∨ 1024 < n
  · exact ⟨zeroK, 1, zeroK_length, fun w => Known_bad K hK n h w, fun w => R_Key_bad K hK n 0 (by omega) w⟩
  · obtain ⟨D, hD⟩ : ∃ D : Nat, n = (D : Int) := ⟨n.toNat, by omega⟩
    exact ⟨chK K D, 0, chK_length K D, fun w => Known_good K hK n D (by omega) (by omega) hD w, fun w => R_Key_good K hK n 0 D (by omega) (by omega) (by omega) (by omega) (by omega) w⟩
theorem Tell_some (K : List UInt8) (hK : K.length = 32) (a i : Int) (ha : a ≤ 9223372036854775807) : ∃ (E : List UInt8) (x : Int), E.length = 32 ∧
    (∀ w, Calls Try.prog 24 #[.agg (mindL K a).toArray, .int .i64 i] w fun e w' => e = .returned (.tuple #[.agg (cellsU8 E).toArray, .int .i64 x]) ∧ Below w.heap.size w w') ∧
    (∀ w, Calls Try.prog 25 #[.agg (cellsU8 K).toArray, .int .i64 a, .int .i64 i] w fun e w' => e = .returned (.tuple #[.agg (cellsU8 E).toArray, .int .i64 x]) ∧ Below w.heap.size w w') := by
  by_cases h : i < 0 ∨ a < i
  · exact ⟨zeroK, 1, zeroK_length, fun w => Tell_bad K a i hK h w, fun w => R_Tell_bad K a i hK h w⟩
  · obtain ⟨D, hD⟩ : ∃ D : Nat, min (a - i) 4096 = (D : Int) := ⟨(min (a - i) 4096).toNat, by omega⟩
    exact ⟨walkD K D, 0, walkD_length K hK D, fun w => Tell_good K a i hK (by omega) (by omega) ha D hD w, fun w => R_Tell_good K a i hK (by omega) (by omega) ha D hD w⟩
theorem Learn_some (K k : List UInt8) (hK : K.length = 32) (hk : k.length = 32) (a i most : Int) (hi : i ≤ 9223372036854775807) : ∃ (M : List Value) (x : Int), M.length = 33 ∧ (∀ v ∈ M, v.oneCell' = true) ∧ ((x = 0 ∧ M = mindL k i) ∨ (x ≠ 0 ∧ M = zeroM)) ∧
    (∀ w, Calls Try.prog 23 #[.agg (mindL K a).toArray, .agg (cellsU8 k).toArray, .int .i64 i, .int .i64 most] w fun e w' => e = .returned (.tuple #[.agg M.toArray, .int .i64 x]) ∧ Below w.heap.size w w') ∧
    (∀ w, Calls Try.prog 22 #[.agg (cellsU8 K).toArray, .int .i64 a, .agg (cellsU8 k).toArray, .int .i64 i, .int .i64 most] w fun e w' => e = .returned (.int .i64 x) ∧ Below w.heap.size w w') ∧
    (∀ w, Calls Try.prog 26 #[.agg (cellsU8 K).toArray, .int .i64 a, .agg (cellsU8 k).toArray, .int .i64 i, .int .i64 most] w fun e w' => e = .returned (.int .i64 x) ∧ Below w.heap.size w w') := by
  by_cases h : a < 0 ∨ i ≤ a
  · exact ⟨zeroM, 1, zeroM_length, mindL_one _ _, Or.inr ⟨by decide, rfl⟩, fun w => Learn_arg K k a i most hK hk h w, fun w => Check_arg K k a i most hK hk h w, fun w => R_Check_arg K k a i most (by omega) w⟩
  by_cases h2 : min most 1024 < i - a
  · exact ⟨zeroM, 16, zeroM_length, mindL_one _ _, Or.inr ⟨by decide, rfl⟩, fun w => Learn_far K k a i most hK hk (by omega) (by omega) hi h2 w, fun w => Check_far K k a i most hK hk (by omega) (by omega) hi h2 w, fun w => R_Check_far K k a i most (by omega) (by omega) hi h2 w⟩
  · obtain ⟨D, hD⟩ : ∃ D : Nat, i - a = (D : Int) := ⟨(i - a).toNat, by omega⟩
    refine ⟨learnM K k (walkD k D) i, learnE K (walkD k D), learnM_length _ _ _ _ hk, learnM_one _ _ _ _, ?_, fun w => by rw [← learnV_eq]; exact Learn_near K k a i most D hK hk (by omega) (by omega) hi hD (by omega) w, fun w => Check_near K k a i most D hK hk (by omega) (by omega) hi hD (by omega) w, fun w => R_Check_near K k a i most D hK hk (by omega) (by omega) hi hD (by omega) w⟩
    by_cases he : walkD k D = K
    · exact Or.inl ⟨if_pos he, if_pos he⟩
    · exact Or.inr ⟨by rw [show learnE K (walkD k D) = 13 from if_neg he]; decide, if_neg he⟩
end Go.Proofs.Ytfmfdhcmbnabpaa
