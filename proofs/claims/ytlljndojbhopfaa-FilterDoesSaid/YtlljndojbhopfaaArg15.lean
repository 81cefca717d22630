/- the arguments of layer 15. -/
import Derived.Test.YtlljndojbhopfaaArg
import Derived.Test.YtlljndojbhopfaaFil7
namespace Go.Proofs.Ytlljndojbhopfaa
open Go Go.RowKit Go.ChangeShapes Go.WideShapes Go.ChangeAt
set_option linter.unusedVariables false
set_option linter.unusedSimpArgs false

def Smp.row (s : Smp) : List Value := [.int .i64 s.off, .int .i64 s.del, .int .i64 s.bnd]
def wfS (s : Smp) : Prop := (Lit.int .i64 s.off).wf = true ∧ (Lit.int .i64 s.del).wf = true ∧ (Lit.int .i64 s.bnd).wf = true
theorem holds_rows {w : World} {ad : Option Addr} {l : List Smp} (h : RowsAt w ad 3 (l.map Smp.row)) (hne : l ≠ []) : ∃ b o, ad = some ⟨b, o, none⟩ ∧ b < w.heap.size ∧ Holds w b o l := by
  obtain ⟨b, o, he, hb, hc⟩ := h (by simpa using hne)
  refine ⟨b, o, he, hb, fun k s hk => ?_⟩
  have := hc k s.row (by rw [List.getElem?_map, hk]; rfl)
  exact ⟨this 0 _ rfl, this 1 _ rfl, this 2 _ rfl⟩

section
variable {H : Type} {enc : TypeId × Value → H} {w : World} {base : Nat} {spare : Nat → Bool} {held : Bool}
theorem open_samples {r : Reach} {b0 : Nat} {v : Value} {d : DataW H} {ps : List MemPlace} (hv : Value.okWide Try.prog w r b0 48 v) (h : DataW.Trod enc Try.prog w base spare held 48 v d ps) :
    ∃ (ad : Option Addr) (c : Nat) (l : List Smp), v = .slice ad l.length c ∧ l.length ≤ maxLen ∧ (∀ s ∈ l, wfS s) ∧ (l ≠ [] → ∃ b o, ad = some ⟨b, o, none⟩ ∧ b < w.heap.size ∧ Holds w b o l) := by
  obtain ⟨ad, c, rows, rfl, h1, h2, h3, h4⟩ := open_rows 4 [.int .i64, .int .i64, .int .i64] Try.underlying48 (by kernel_rfl) (by kernel_rfl) (by decide) hv h
  obtain ⟨l, rfl, hl⟩ := rows_map Smp.row wfS (fun r hr => by
    obtain ⟨a, r, rfl, ha, hr⟩ := hr.int
    obtain ⟨b, r, rfl, hb, hr⟩ := hr.int
    obtain ⟨c, r, rfl, hc, hr⟩ := hr.int
    obtain rfl := hr.nil
    exact ⟨⟨a, b, c⟩, rfl, ha, hb, hc⟩) rows h3
  exact ⟨ad, c, l, by simp, by simpa using Nat.le_trans h1 h2, hl, fun hne => holds_rows h4 hne⟩

/-- from cell o of block b on lie the numbers l -/
def HoldsI (k : IntKind) (w : World) (b o : Nat) (l : List Int) : Prop := ∀ (i : Nat) (z : Int), l[i]? = some z → w.cell? ⟨b, o + i, none⟩ = some (.int k z)
theorem open_u8s {r : Reach} {b0 : Nat} {v : Value} {d : DataW H} {ps : List MemPlace} (hv : Value.okWide Try.prog w r b0 55 v) (h : DataW.Trod enc Try.prog w base spare held 55 v d ps) :
    ∃ (ad : Option Addr) (c : Nat) (l : List Int), v = .slice ad l.length c ∧ l.length ≤ maxLen ∧ (∀ z ∈ l, 0 ≤ z ∧ z ≤ 255) ∧ (l ≠ [] → ∃ b o, ad = some ⟨b, o, none⟩ ∧ b < w.heap.size ∧ HoldsI .u8 w b o l) := by
  obtain ⟨ad, c, rows, rfl, h1, h2, h3, h4⟩ := open_rows 4 [.int .u8] Try.underlying55 (by kernel_rfl) (by kernel_rfl) (by decide) hv h
  obtain ⟨l, rfl, hl⟩ := rows_map (fun z => [Value.int .u8 z]) (fun z => 0 ≤ z ∧ z ≤ 255) (fun r hr => by
    obtain ⟨a, r, rfl, ha, hr⟩ := hr.int
    obtain rfl := hr.nil
    exact ⟨a, rfl, wf_u8 ha⟩) rows h3
  refine ⟨ad, c, l, by simp, by simpa using Nat.le_trans h1 h2, hl, fun hne => ?_⟩
  obtain ⟨b, o, he, hb, hc⟩ := h4 (by simpa using hne)
  refine ⟨b, o, he, hb, fun k z hk => ?_⟩
  have := hc k [.int .u8 z] (by rw [List.getElem?_map, hk]; rfl) 0 _ rfl
  simpa using this
end
end Go.Proofs.Ytlljndojbhopfaa
