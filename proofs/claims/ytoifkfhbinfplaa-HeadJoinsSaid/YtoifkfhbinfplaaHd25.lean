/- head: one extension more, plain. -/
import Derived.Test.YtoifkfhbinfplaaHd24
namespace Go.Proofs.Ytoifkfhbinfplaa
open Go Go.RowKit
set_option linter.unusedVariables false
set_option linter.unusedSimpArgs false

theorem rows_at {w : World} {bn bo : Nat} {m : List Fd} (hb : HoldsF w bn bo m) : ∀ j u, (rowsF m)[j]? = some u → w.cell? ((⟨bn, bo, none⟩ : Addr).add j) = some u := by
  intro j u hu
  rw [addr_add]
  have hj : j < m.length * 2 := by
    have := (List.getElem?_eq_some_iff.1 hu).1
    rwa [rowsF_length] at this
  obtain ⟨f, hf⟩ : ∃ f, m[j / 2]? = some f := ⟨m[j / 2]'(by omega), by simp⟩
  obtain ⟨h1, h2⟩ := rowsF_get m _ f hf
  obtain ⟨q1, q2⟩ := hb _ f hf
  rcases Nat.mod_two_eq_zero_or_one j with h0 | h0
  · have e : j = j / 2 * 2 := by omega
    rw [e] at hu ⊢
    rw [h1] at hu
    cases hu
    exact q1
  · have e : j = j / 2 * 2 + 1 := by omega
    rw [e] at hu ⊢
    rw [h2] at hu
    cases hu
    exact q2
theorem writeL_all (h : Hd) (l : List Fd) : writeL h l = if (h.may && l.all Fd.right) = true then (if l.length ≤ 16 then (h.bytes ++ bodyL l, 0) else ([], 4)) else ([], 2) := rfl
theorem writeL_zero (h : Hd) (l : List Fd) (hl : l.length ≤ 16) : (writeL h l).2 = 0 ↔ (h.may && l.all Fd.right) = true := by
  rw [writeL_all, if_pos hl]
  split
  · rename_i h1
    exact ⟨fun _ => h1, fun _ => rfl⟩
  · rename_i h1
    exact ⟨fun h2 => absurd h2 (by decide), fun h2 => absurd h2 h1⟩
theorem joins_bad (h : Hd) (l : List Fd) (f : Fd) (hl : l.length ≤ 15) : ((writeL h l).2 ≠ 0 ∨ (writeL h [f]).2 ≠ 0) → writeL h (l ++ [f]) = ([], 2) := fun hh => by
  have h1 := writeL_zero h l (by omega)
  have h2 := writeL_zero h [f] (by simp)
  have h4 : ¬ ((h.may && (l ++ [f]).all Fd.right) = true) := by
    intro h3
    simp only [List.all_append, List.all_cons, List.all_nil, Bool.and_true, Bool.and_eq_true] at h1 h2 h3
    rcases hh with hh | hh
    · exact hh (h1.2 ⟨h3.1, h3.2.1⟩)
    · exact hh (h2.2 ⟨h3.1, h3.2.2⟩)
  rw [writeL_all, if_neg h4]
theorem joins_good (h : Hd) (l : List Fd) (f : Fd) (hl : l.length ≤ 15) : (writeL h l).2 = 0 → (writeL h [f]).2 = 0 → writeL h (l ++ [f]) = ((writeL h l).1 ++ f.bytes, 0) ∧ (writeL h [f]).1 = h.bytes ++ f.bytes := fun h1 h2 => by
  obtain ⟨m1, r1, _, e1⟩ := writeL_ok h l h1
  obtain ⟨_, r2, _, e2⟩ := writeL_ok h [f] h2
  rw [e1, e2, writeL_of h (l ++ [f]) m1 (by rw [List.all_append, r1, r2]; rfl) (by rw [List.length_append]; show l.length + 1 ≤ 16; omega), bodyL_append, bodyL_one, List.append_assoc]
  exact ⟨rfl, rfl⟩
end Go.Proofs.Ytoifkfhbinfplaa
