/- arguments that are keys, and slices of texts. -/
import Derived.Test.YtfmfdhcmbnabpaaArg
import Derived.Test.YtfmfdhcmbnabpaaSha4
namespace Go.Proofs.Ytfmfdhcmbnabpaa
open Go Go.RowKit Go.ChangeShapes Go.WideShapes Go.ChangeAt
set_option linter.unusedVariables false
set_option linter.unusedSimpArgs false

theorem fits_u8s : ∀ (n : Nat) (cs : List Value), Fits (List.replicate n (.int .u8)) cs → ∃ K : List UInt8, cs = cellsU8 K ∧ K.length = n
  | 0, cs, h => ⟨[], h.nil, rfl⟩
  | n + 1, cs, h => by
    rw [List.replicate_succ] at h
    obtain ⟨z, vs, rfl, hz, h2⟩ := h.int
    obtain ⟨K, rfl, hK⟩ := fits_u8s n vs h2
    have hz2 := wf_u8 hz
    refine ⟨UInt8.ofNat z.toNat :: K, ?_, by simp [hK]⟩
    simp only [cellsU8, List.map_cons]
    congr 2
    simp
    omega

section
variable {H : Type} {enc : TypeId × Value → H} {w : World} {base : Nat} {spare : Nat → Bool} {held : Bool}
set_option maxRecDepth 100000 in
theorem open_key {r : Reach} {b0 : Nat} {v : Value} {d : DataW H} {ps : List MemPlace} (hv : Value.okWide Try.prog w r b0 23 v) (h : DataW.Trod enc Try.prog w base spare held 23 v d ps) :
    ∃ K : List UInt8, v = keyV K ∧ K.length = 32 := by
  obtain ⟨cs, rfl, hf⟩ := open_agg 4 (List.replicate 32 (.int .u8)) (by kernel_rfl) (by kernel_rfl) hv h
  obtain ⟨K, rfl, hK⟩ := fits_u8s 32 cs hf
  exact ⟨K, rfl, hK⟩
end
end Go.Proofs.Ytfmfdhcmbnabpaa
