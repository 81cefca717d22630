/- Texts laid together: ArgB. -/
import Derived.Test.YtmblknknbbdmeaaGreatRcb12
/- arguments that are slices of bools, and of ints. -/
namespace Go.Proofs.YtmblknknbbdmeaaGreat
open Go Go.RowKit Go.ChangeShapes Go.WideShapes Go.ChangeAt
set_option linter.unusedVariables false
set_option linter.unusedSimpArgs false

/-- from cell o of block b on lie the bools l -/
def HoldsB (w : World) (b o : Nat) (l : List Bool) : Prop := ∀ (i : Nat) (z : Bool), l[i]? = some z → w.cell? ⟨b, o + i, none⟩ = some (.bool z)
/-- from cell o of block b on lie the numbers l -/
def HoldsN (w : World) (b o : Nat) (l : List Int) : Prop := ∀ (i : Nat) (z : Int), l[i]? = some z → w.cell? ⟨b, o + i, none⟩ = some (.int .i64 z)
def HeldB (w : World) (ad : Option Addr) (l : List Bool) : Prop := l ≠ [] → ∃ b o, ad = some ⟨b, o, none⟩ ∧ b < w.heap.size ∧ HoldsB w b o l
def HeldN (w : World) (ad : Option Addr) (l : List Int) : Prop := l ≠ [] → ∃ b o, ad = some ⟨b, o, none⟩ ∧ b < w.heap.size ∧ HoldsN w b o l
theorem HeldB.bel {w w' : World} {ad : Option Addr} {l : List Bool} (h : HeldB w ad l) (hb : Below w.heap.size w w') : HeldB w' ad l := fun hl => by
  obtain ⟨b, o, rfl, h1, h2⟩ := h hl
  exact ⟨b, o, rfl, Nat.lt_of_lt_of_le h1 hb.size, fun i s hi => (hb.cell (p := ⟨b, o + i, none⟩) h1).trans (h2 i s hi)⟩
theorem HeldN.bel {w w' : World} {ad : Option Addr} {l : List Int} (h : HeldN w ad l) (hb : Below w.heap.size w w') : HeldN w' ad l := fun hl => by
  obtain ⟨b, o, rfl, h1, h2⟩ := h hl
  exact ⟨b, o, rfl, Nat.lt_of_lt_of_le h1 hb.size, fun i s hi => (hb.cell (p := ⟨b, o + i, none⟩) h1).trans (h2 i s hi)⟩
theorem HeldB.below {B : Nat} {w w' : World} {ad : Option Addr} {l : List Bool} (h : HeldB w ad l) (hb : Below B w w') (hB : w.heap.size ≤ B) : HeldB w' ad l := h.bel (hb.mono hB)
theorem rows_map1 {α : Type} (f : α → List Value) (p : α → Prop) : ∀ (rows : List (List Value)), (∀ r ∈ rows, ∃ x, r = f x ∧ p x) → ∃ l : List α, rows = l.map f ∧ ∀ x ∈ l, p x
  | [], _ => ⟨[], rfl, by simp⟩
  | r :: rs, h => by
    obtain ⟨x, hx, hp⟩ := h r (by simp)
    obtain ⟨l, hl, hl2⟩ := rows_map1 f p rs (fun r hr => h r (by simp [hr]))
    exact ⟨x :: l, by rw [hx, hl]; rfl, fun y hy => by rcases List.mem_cons.1 hy with rfl | hy; exact hp; exact hl2 y hy⟩

section
variable {H : Type} {enc : TypeId × Value → H} {w : World} {base : Nat} {spare : Nat → Bool} {held : Bool}
set_option maxRecDepth 100000 in
theorem open_bools {r : Reach} {b0 : Nat} {v : Value} {d : DataW H} {ps : List MemPlace} (hv : Value.okWide Tryz.prog w r b0 91 v) (h : DataW.Trod enc Tryz.prog w base spare held 91 v d ps) :
    ∃ (ad : Option Addr) (c : Nat) (l : List Bool), v = .slice ad l.length c ∧ l.length ≤ maxLen ∧ HeldB w ad l := by
  obtain ⟨ad, c, rows, rfl, h1, h2, h3, h4⟩ := open_rows 4 [.bool] Tryz.underlying91 (by kernel_rfl) (by kernel_rfl) (by decide) hv h
  obtain ⟨l, rfl, hl⟩ := rows_map1 (fun z => [Value.bool z]) (fun _ => True) rows (fun r hr => by
    obtain ⟨a, r2, rfl, hr2⟩ := (h3 r hr).bool
    obtain rfl := hr2.nil
    exact ⟨a, rfl, trivial⟩)
  refine ⟨ad, c, l, by simp, by simpa using Nat.le_trans h1 h2, fun hne => ?_⟩
  obtain ⟨b, o, he, hb, hc⟩ := h4 (by simpa using hne)
  refine ⟨b, o, he, hb, fun k z hk => ?_⟩
  have := hc k [.bool z] (by rw [List.getElem?_map, hk]; rfl) 0 _ rfl
  simpa using this
end
end Go.Proofs.YtmblknknbbdmeaaGreat
