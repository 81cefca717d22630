/- arguments that are keys, and slices of texts. -/
import Derived.Test.YtachnjdmjifefaaArg
import Derived.Test.YtachnjdmjifefaaSha4
namespace Go.Proofs.Ytachnjdmjifefaa
open Go Go.RowKit Go.ChangeShapes Go.WideShapes Go.ChangeAt
set_option linter.unusedVariables false
set_option linter.unusedSimpArgs false

theorem fits_u8s : ∀ (n : Nat) (cs : List Value), Fits (List.replicate n (.int .u8)) cs → ∃ K : List UInt8, cs = cellsU8 K ∧ K.length = n
  | 0, cs, h => ⟨[], h.nil, rfl⟩
  | n + 1, cs, h => by
    rw [List.replicate_succ] at h
    obtain ⟨z, vs, rfl, hz, h2⟩ := h.int
    obtain ⟨K, rfl, hK⟩ := fits_u8s n vs h2
    have hz2 := wf_u8 hz
    refine ⟨UInt8.ofNat z.toNat :: K, ?_, by simp [hK]⟩
    simp only [cellsU8, List.map_cons]
    congr 2
    simp
    omega

section
variable {H : Type} {enc : TypeId × Value → H} {w : World} {base : Nat} {spare : Nat → Bool} {held : Bool}
theorem open_key {r : Reach} {b0 : Nat} {v : Value} {d : DataW H} {ps : List MemPlace} (hv : Value.okWide Try.prog w r b0 24 v) (h : DataW.Trod enc Try.prog w base spare held 24 v d ps) :
    ∃ K : List UInt8, v = keyV K ∧ K.length = 32 := by
  obtain ⟨cs, rfl, hf⟩ := open_agg 4 (List.replicate 32 (.int .u8)) (by kernel_rfl) (by kernel_rfl) hv h
  obtain ⟨K, rfl, hK⟩ := fits_u8s 32 cs hf
  exact ⟨K, rfl, hK⟩
/-- from cell o of block b on lie the texts l -/
def HoldsT (w : World) (b o : Nat) (l : List ByteArray) : Prop := ∀ (i : Nat) (s : ByteArray), l[i]? = some s → w.cell? ⟨b, o + i, none⟩ = some (.string s)
theorem open_texts {r : Reach} {b0 : Nat} {v : Value} {d : DataW H} {ps : List MemPlace} (hv : Value.okWide Try.prog w r b0 30 v) (h : DataW.Trod enc Try.prog w base spare held 30 v d ps) :
    ∃ (ad : Option Addr) (c : Nat) (l : List ByteArray), v = .slice ad l.length c ∧ l.length ≤ maxLen ∧ (∀ s ∈ l, s.size ≤ maxLen) ∧ (l ≠ [] → ∃ b o, ad = some ⟨b, o, none⟩ ∧ b < w.heap.size ∧ HoldsT w b o l) := by
  obtain ⟨ad, c, rows, rfl, h1, h2, h3, h4⟩ := open_rows 4 [.str] Try.underlying30 (by kernel_rfl) (by kernel_rfl) (by decide) hv h
  obtain ⟨l, rfl, hl⟩ := rows_map (fun z => [Value.string z]) (fun z => z.size ≤ maxLen) (fun r hr => by
    obtain ⟨a, r, rfl, ha, hr⟩ := hr.str
    obtain rfl := hr.nil
    exact ⟨a, rfl, ha⟩) rows h3
  refine ⟨ad, c, l, by simp, by simpa using Nat.le_trans h1 h2, hl, fun hne => ?_⟩
  obtain ⟨b, o, he, hb, hc⟩ := h4 (by simpa using hne)
  refine ⟨b, o, he, hb, fun k z hk => ?_⟩
  have := hc k [.string z] (by rw [List.getElem?_map, hk]; rfl) 0 _ rfl
  simpa using this
end
end Go.Proofs.Ytachnjdmjifefaa
