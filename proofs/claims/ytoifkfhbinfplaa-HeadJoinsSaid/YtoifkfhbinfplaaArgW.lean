/- slices of extensions, each text within the form's reach. -/
import Derived.Test.YtoifkfhbinfplaaArgU
namespace Go.Proofs.Ytoifkfhbinfplaa
open Go Go.RowKit Go.ChangeShapes Go.WideShapes Go.ChangeAt Go.Deep
set_option linter.unusedVariables false
set_option linter.unusedSimpArgs false

theorem weights_all {H : Type} {P : Program} {e : TypeId} {x : Nat} : ∀ {l : List (DataW H)} {d : DataW H}, d ∈ l → x ∈ d.weights P e → x ∈ DataW.weightsAll P e l
  | y :: l, d, hd, hx => by
    simp only [DataW.weightsAll, List.mem_append]
    rcases List.mem_cons.1 hd with rfl | hd
    · exact Or.inl hx
    · exact Or.inr (weights_all hd hx)
section
variable {H : Type} {enc : TypeId × Value → H} {w : World} {base : Nat} {spare : Nat → Bool} {held : Bool}
theorem field_wt {fuel : Nat} {cs : List Value} {x : DataW H × List MemPlace} (h : DataW.trod enc Try.prog w base spare held fuel 48 cs = some x) : ∃ (v : Value) (s : ByteArray), cs = [v, .string s] ∧ s.size ∈ x.1.weights Try.prog 48 := by
  obtain ⟨y0, y1, n, rfl, hl, h0, h1⟩ := trod_struct2 Try.underlying48 h
  obtain ⟨s, hs, hy, _⟩ := DataW.trod_string Try.underlying9 h1
  have h2 : cs.length = 2 := by rw [hl]; kernel_rfl
  match cs, h2 with
  | [v, u], _ =>
    have hc1 : Try.prog.cellsOf 9 = 1 := by kernel_rfl
    have e : ([v, u].drop 1).take (Try.prog.cellsOf 9) = [.string s] := hs
    rw [hc1] at e
    simp only [List.drop_succ_cons, List.drop_zero, List.take_succ_cons, List.take_zero, List.cons.injEq, and_true] at e
    subst e
    refine ⟨v, s, rfl, ?_⟩
    have e2 : s.data.toList.length = s.size := by rw [Array.length_toList]; rfl
    simp [DataW.weights, DataW.weightsEach, Try.underlying48, hy, e2]
theorem open_fieldsW {r : Reach} {b0 : Nat} {v : Value} {d : DataW H} {ps : List MemPlace} (hv : Value.okWide Try.prog w r b0 35 v) (h : DataW.Trod enc Try.prog w base spare held 35 v d ps) (hz : (d.weights Try.prog 35).all (· ≤ reachBytes) = true) :
    ∃ (ad : Option Addr) (c : Nat) (l : List Fd), v = .slice ad l.length c ∧ l.length ≤ maxLen ∧ (∀ f ∈ l, f.d.size ≤ reachBytes) ∧ FS w ad l := by
  obtain ⟨ad, c, l, rfl, h1, _, _, _, hs⟩ := open_fields hv h
  refine ⟨ad, c, l, rfl, h1, ?_, hs⟩
  obtain ⟨fuel, hf⟩ := h
  rcases open_slice Try.underlying35 hf with ⟨hcs, hx⟩ | ⟨a, len, cap, m, q, D, Pl, hcs, hb, hlc, hm, hmm, hx, hi⟩
  · have e : Value.slice ad l.length c = .slice none 0 0 := by simpa [Value.cells] using hcs
    injection e with _ e2 _
    have hl : l = [] := List.length_eq_zero_iff.1 e2
    subst hl
    simp
  · have e : Value.slice ad l.length c = .slice (some a) len cap := by simpa [Value.cells] using hcs
    injection e with e1 e2 _
    have hlm : len ≤ m := by rw [hmm]; split <;> omega
    injection hx with hx1 _
    subst hx1
    intro f hfl
    obtain ⟨i, hi1, hi2⟩ := List.getElem_of_mem hfl
    have hil : i < len := by omega
    obtain ⟨b, o, hab, hbl, hh⟩ := hs (fun e => by subst e; simp at hi1)
    obtain ⟨_, q1⟩ := hh i f (by rw [List.getElem?_eq_getElem hi1, hi2])
    obtain ⟨cs', h1, h2⟩ := hi i (by omega)
    have hc : Try.prog.cellsOf 48 = 2 := by kernel_rfl
    rw [hc] at h1
    obtain ⟨_, _, h3⟩ := World.cells?_some h1
    obtain ⟨v, s, rfl, hsz⟩ := field_wt h2
    have h4 := h3 1 (by decide)
    rw [e1] at hab
    injection hab with hab
    rw [hab, add_plain, add_plain, q1] at h4
    have h5 : f.d = s := by
      have h6 : some (Value.string f.d) = some (.string s) := h4
      injection h6 with h6
      injection h6
    have hmem : s.size ∈ (DataW.slice ((List.range len).map D) ((List.range (m - len)).map fun j => D (len + j))).weights Try.prog 35 := by
      simp only [DataW.weights, Try.underlying35, List.mem_cons, List.mem_append]
      exact Or.inr (Or.inl (weights_all (List.mem_map.2 ⟨i, List.mem_range.2 hil, rfl⟩) hsz))
    have := List.all_eq_true.1 hz _ hmem
    rw [h5]
    simpa using this
end
end Go.Proofs.Ytoifkfhbinfplaa
