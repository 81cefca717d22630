/- arguments that are keys, and slices of texts. -/
import Derived.Test.YtachnjdmjifefaaArg
import Derived.Test.YtachnjdmjifefaaSha4
namespace Go.Proofs.Ytachnjdmjifefaa
open Go Go.RowKit Go.ChangeShapes Go.WideShapes Go.ChangeAt
set_option linter.unusedVariables false
set_option linter.unusedSimpArgs false

theorem fits_u8s : ∀ (n : Nat) (cs : List Value), Fits (List.replicate n (.int .u8)) cs → ∃ K : List UInt8, cs = cellsU8 K ∧ K.length = n
  | 0, cs, h => ⟨[], h.nil, rfl⟩
  | n + 1, cs, h => by
    rw [List.replicate_succ] at h
    obtain ⟨z, vs, rfl, hz, h2⟩ := h.int
    obtain ⟨K, rfl, hK⟩ := fits_u8s n vs h2
    have hz2 := wf_u8 hz
    refine ⟨UInt8.ofNat z.toNat :: K, ?_, by simp [hK]⟩
    simp only [cellsU8, List.map_cons]
    congr 2
    simp
    omega

section
variable {H : Type} {enc : TypeId × Value → H} {w : World} {base : Nat} {spare : Nat → Bool} {held : Bool}
theorem open_key {r : Reach} {b0 : Nat} {v : Value} {d : DataW H} {ps : List MemPlace} (hv : Value.okWide Try.prog w r b0 24 v) (h : DataW.Trod enc Try.prog w base spare held 24 v d ps) :
    ∃ K : List UInt8, v = keyV K ∧ K.length = 32 := by
  obtain ⟨cs, rfl, hf⟩ := open_agg 4 (List.replicate 32 (.int .u8)) (by kernel_rfl) (by kernel_rfl) hv h
  obtain ⟨K, rfl, hK⟩ := fits_u8s 32 cs hf
  exact ⟨K, rfl, hK⟩
/-- from cell o of block b on lie the texts l -/
def HoldsT (w : World) (b o : Nat) (l : List ByteArray) : Prop := ∀ (i : Nat) (s : ByteArray), l[i]? = some s → w.cell? ⟨b, o + i, none⟩ = some (.string s)
theorem weights_all {H : Type} {P : Program} {e : TypeId} {x : Nat} : ∀ {l : List (DataW H)} {d : DataW H}, d ∈ l → x ∈ d.weights P e → x ∈ DataW.weightsAll P e l
  | y :: l, d, hd, hx => by
    simp only [DataW.weightsAll, List.mem_append]
    rcases List.mem_cons.1 hd with rfl | hd
    · exact Or.inl hx
    · exact Or.inr (weights_all hd hx)
theorem open_texts {r : Reach} {b0 : Nat} {v : Value} {d : DataW H} {ps : List MemPlace} (hv : Value.okWide Try.prog w r b0 30 v) (h : DataW.Trod enc Try.prog w base spare held 30 v d ps) (hz : (d.weights Try.prog 30).all (· ≤ reachBytes) = true) :
    ∃ (ad : Option Addr) (c : Nat) (l : List ByteArray), v = .slice ad l.length c ∧ l.length ≤ maxLen ∧ (∀ s ∈ l, s.size ≤ reachBytes) ∧ (l ≠ [] → ∃ b o, ad = some ⟨b, o, none⟩ ∧ b < w.heap.size ∧ HoldsT w b o l) := by
  have ht := Try.underlying30
  obtain ⟨a0, len0, cap0, rfl⟩ := okWide_slice ht hv
  obtain ⟨fuel, hf⟩ := h
  rcases Go.Deep.open_slice ht hf with ⟨hcs, hx⟩ | ⟨a, len, cap, m, q, D, Pl, hcs, hb, hlc, hm, hmm, hx, hi⟩
  · have : Value.slice a0 len0 cap0 = .slice none 0 0 := by simpa [Value.cells] using hcs
    rw [this]
    exact ⟨none, 0, [], rfl, Nat.zero_le _, by simp, fun h => absurd rfl h⟩
  · have he : Value.slice a0 len0 cap0 = .slice (some a) len cap := by simpa [Value.cells] using hcs
    rw [he]
    have hlm : len ≤ m := by rw [hmm]; split <;> omega
    have hc : Try.prog.cellsOf 9 = 1 := by kernel_rfl
    have key : ∀ i, i < len → ∃ s : ByteArray, s.size ≤ reachBytes ∧ w.cell? (a.add i) = some (.string s) := fun i hil => by
      obtain ⟨cs', h1, h2⟩ := hi i (by omega)
      rw [hc, Nat.mul_one] at h1
      obtain ⟨_, _, h3⟩ := World.cells?_some h1
      obtain ⟨s, rfl, hxs, _⟩ := DataW.trod_string Try.underlying9 h2
      have h4 := h3 0 (by omega)
      have ha : (a.add i).add 0 = a.add i := by simp [Addr.add]
      rw [ha] at h4
      refine ⟨s, ?_, h4⟩
      have hD : D i = .lit (.string s.data.toList) := by injection hxs
      have hd : d = .slice ((List.range len).map D) ((List.range (m - len)).map fun j => D (len + j)) := by injection hx
      have hmem : s.data.toList.length ∈ d.weights Try.prog 30 := by
        rw [hd]
        simp only [DataW.weights, ht, List.mem_cons, List.mem_append]
        exact Or.inr (Or.inl (weights_all (List.mem_map.2 ⟨i, List.mem_range.2 hil, hD⟩) (by simp [DataW.weights])))
      have := List.all_eq_true.1 hz _ hmem
      simpa using this
    obtain ⟨f, hf⟩ : ∃ f : Nat → ByteArray, ∀ i, i < len → (f i).size ≤ reachBytes ∧ w.cell? (a.add i) = some (.string (f i)) :=
      ⟨fun i => if hil : i < len then (key i hil).choose else ⟨#[]⟩, fun i hil => by simp only [hil, dif_pos]; exact (key i hil).choose_spec⟩
    refine ⟨some a, cap, (List.range len).map f, by simp, by simp; omega, fun s hs => ?_, fun hne => ?_⟩
    · obtain ⟨i, hi1, rfl⟩ := List.mem_map.1 hs
      exact (hf i (by simpa using hi1)).1
    · have hlen : 0 < len := by
        rcases Nat.eq_zero_or_pos len with h0 | h0
        · subst h0; simp at hne
        · exact h0
      have h00 := (hf 0 hlen).2
      have ha0 : a.add 0 = a := by simp [Addr.add]
      rw [ha0] at h00
      have hsp : a = ⟨a.block, a.off, none⟩ := by
        obtain ⟨b, o, sp⟩ := a
        unfold World.cell? at h00
        cases sp with
        | none => rfl
        | some s => simp at h00; split at h00 <;> simp_all
      refine ⟨a.block, a.off, by rw [← hsp], World.block_lt_of_cell? w _ h00, fun i s hs => ?_⟩
      rw [List.getElem?_map] at hs
      obtain ⟨i', hi', rfl⟩ := Option.map_eq_some_iff.1 hs
      obtain ⟨hil, hii⟩ := List.getElem?_eq_some_iff.1 hi'
      simp at hil hii
      subst hii
      have h1 := (hf i hil).2
      rw [hsp, add_plain] at h1
      exact h1
end
end Go.Proofs.Ytachnjdmjifefaa
