/- Arguments opened to their leaves: structs, arrays, slices of them. -/
import Derived.Test.YtoifkfhbinfplaaLaw
import Derived.Test.YtoifkfhbinfplaaPl
import Derived.Deep.Slices
namespace Go.Proofs.Ytoifkfhbinfplaa
open Go Go.RowKit Go.ChangeShapes Go.WideShapes Go.ChangeAt Go.Deep
set_option linter.unusedVariables false
set_option linter.unusedSimpArgs false

inductive Leaf where
  | int (k : IntKind)
  | bool
  | str
def Leaf.fits : Leaf → Value → Prop
  | .int k, v => ∃ z, v = .int k z ∧ (Lit.int k z).wf = true
  | .bool, v => ∃ b, v = .bool b
  | .str, v => ∃ s : ByteArray, v = .string s ∧ s.size ≤ maxLen
def Fits : List Leaf → List Value → Prop
  | [], [] => True
  | l :: ls, v :: vs => l.fits v ∧ Fits ls vs
  | _, _ => False
theorem Fits.append : ∀ {a : List Leaf} {x : List Value} {b : List Leaf} {y : List Value}, Fits a x → Fits b y → Fits (a ++ b) (x ++ y)
  | [], [], _, _, _, h => h
  | _ :: _, _ :: _, _, _, h1, h2 => ⟨h1.1, Fits.append h1.2 h2⟩
theorem Fits.len : ∀ {a : List Leaf} {x : List Value}, Fits a x → x.length = a.length
  | [], [], _ => rfl
  | _ :: _, _ :: _, h => by simp [Fits.len h.2]

theorem Fits.int {k : IntKind} {ls : List Leaf} {r : List Value} (h : Fits (.int k :: ls) r) : ∃ z vs, r = .int k z :: vs ∧ (Lit.int k z).wf = true ∧ Fits ls vs := by
  cases r with
  | nil => exact h.elim
  | cons v vs => obtain ⟨⟨z, rfl, hz⟩, h2⟩ := h; exact ⟨z, vs, rfl, hz, h2⟩
theorem Fits.bool {ls : List Leaf} {r : List Value} (h : Fits (.bool :: ls) r) : ∃ z vs, r = .bool z :: vs ∧ Fits ls vs := by
  cases r with
  | nil => exact h.elim
  | cons v vs => obtain ⟨⟨z, rfl⟩, h2⟩ := h; exact ⟨z, vs, rfl, h2⟩
theorem Fits.str {ls : List Leaf} {r : List Value} (h : Fits (.str :: ls) r) : ∃ (s : ByteArray) (vs : List Value), r = .string s :: vs ∧ s.size ≤ maxLen ∧ Fits ls vs := by
  cases r with
  | nil => exact h.elim
  | cons v vs => obtain ⟨⟨z, rfl, hz⟩, h2⟩ := h; exact ⟨z, vs, rfl, hz, h2⟩
theorem Fits.nil {r : List Value} (h : Fits [] r) : r = [] := by
  cases r with
  | nil => rfl
  | cons v vs => exact h.elim

def fieldLeaves (P : Program) (L : TypeId → Option (List Leaf)) : Nat → List Field → Option (List Leaf)
  | _, [] => some []
  | o, f :: fs =>
    match L f.type, fieldLeaves P L (o + P.cellsOf f.type) fs with
    | some l, some r => if f.offset = o ∧ P.cellsOf f.type = l.length then some (l ++ r) else none
    | _, _ => none
def leaves (P : Program) : Nat → TypeId → Option (List Leaf)
  | 0, _ => none
  | n + 1, t =>
    match P.underlying t with
    | some .bool => some [.bool]
    | some (.int k) => some [.int k]
    | some .string => some [.str]
    | some (.struct fs) =>
      match fieldLeaves P (leaves P n) 0 fs.toList with
      | some r => if P.cellsOf t = r.length then some r else none
      | none => none
    | some (.array m e) =>
      match leaves P n e with
      | some l => if P.cellsOf e = l.length ∧ P.cellsOf t = m * l.length then some (List.replicate m l).flatten else none
      | none => none
    | _ => none

section
variable {H : Type} {enc : TypeId × Value → H} {P : Program} {w : World} {base : Nat} {spare : Nat → Bool} {held : Bool}

theorem fields_fit {L : TypeId → Option (List Leaf)} {cs : List Value}
    (hL : ∀ t l fuel c x, L t = some l → DataW.trod enc P w base spare held fuel t c = some x → Fits l c) :
    ∀ (fl : List Field) (o : Nat) (r : List Leaf), fieldLeaves P L o fl = some r → (∀ f ∈ fl, ∃ m y, DataW.trod enc P w base spare held m f.type ((cs.drop f.offset).take (P.cellsOf f.type)) = some y) →
      cs.length = o + r.length → Fits r (cs.drop o)
  | [], o, r, h, _, hlen => by
    simp only [fieldLeaves, Option.some.injEq] at h
    subst h
    rw [List.drop_of_length_le (by simpa using Nat.le_of_eq hlen)]
    trivial
  | f :: fl, o, r, h, hf, hlen => by
    unfold fieldLeaves at h
    split at h
    · rename_i l r' h1 h2
      split at h
      · rename_i hc
        obtain ⟨rfl, hk⟩ := hc
        simp only [Option.some.injEq] at h
        subst h
        rw [List.length_append] at hlen
        obtain ⟨m, y, hy⟩ := hf f (by simp)
        have := fields_fit hL fl _ r' h2 (fun g hg => hf g (by simp [hg])) (by rw [hlen, hk]; omega)
        have hl := hL _ _ _ _ _ h1 hy
        have e : cs.drop f.offset = (cs.drop f.offset).take (P.cellsOf f.type) ++ cs.drop (f.offset + P.cellsOf f.type) := by
          rw [← List.drop_drop, List.take_append_drop]
        rw [e]
        exact hl.append this
      · cases h
    · cases h

theorem rows_fit {l : List Leaf} {cs : List Value} (m : Nat) : ∀ (j : Nat), j ≤ m → cs.length = m * l.length → (∀ i, i < m → Fits l ((cs.drop (i * l.length)).take l.length)) → Fits (List.replicate j l).flatten (cs.drop ((m - j) * l.length))
  | 0, _, hlen, _ => by
    rw [Nat.sub_zero, List.drop_of_length_le (by omega)]
    trivial
  | j + 1, hj, hlen, h => by
    have := rows_fit m j (by omega) hlen h
    have h1 := h (m - (j + 1)) (by omega)
    have e : cs.drop ((m - (j + 1)) * l.length) = (cs.drop ((m - (j + 1)) * l.length)).take l.length ++ cs.drop ((m - j) * l.length) := by
      have e2 : (m - j) * l.length = (m - (j + 1)) * l.length + l.length := by
        rw [show m - j = (m - (j + 1)) + 1 by omega, Nat.succ_mul]
      rw [e2, ← List.drop_drop, List.take_append_drop]
    rw [e, List.replicate_succ, List.flatten_cons]
    exact h1.append this

theorem fits_of_trod : ∀ (n : Nat) (t : TypeId) (ls : List Leaf) (fuel : Nat) (cs : List Value) (x : DataW H × List MemPlace), leaves P n t = some ls → DataW.trod enc P w base spare held fuel t cs = some x → Fits ls cs
  | 0, _, _, _, _, _, h, _ => by simp [leaves] at h
  | n + 1, t, ls, fuel, cs, x, h, ht => by
    unfold leaves at h
    split at h
    · rename_i hu
      obtain ⟨b, rfl, _⟩ := DataW.trod_bool hu ht
      simp only [Option.some.injEq] at h; subst h
      exact ⟨⟨b, rfl⟩, trivial⟩
    · rename_i k hu
      obtain ⟨z, rfl, _, hw⟩ := DataW.trod_int hu ht
      simp only [Option.some.injEq] at h; subst h
      exact ⟨⟨z, rfl, hw⟩, trivial⟩
    · rename_i hu
      obtain ⟨s, rfl, _, hw⟩ := DataW.trod_string hu ht
      simp only [Option.some.injEq] at h; subst h
      exact ⟨⟨s, rfl, hw⟩, trivial⟩
    · rename_i fs hu
      split at h
      · rename_i r hr
        split at h
        · rename_i hc
          simp only [Option.some.injEq] at h; subst h
          obtain ⟨xs, m, _, _, hlen, hxl, hf⟩ := DataW.trod_struct hu ht
          have := fields_fit (enc := enc) (w := w) (base := base) (spare := spare) (held := held) (cs := cs) (fun t l fu c x h1 h2 => fits_of_trod n t l fu c x h1 h2) fs.toList 0 r hr (fun f hfm => by
            obtain ⟨i, hi, he⟩ := List.getElem_of_mem hfm
            have hi' : i < fs.size := by simpa using hi
            have := hf i f (by rw [Array.getElem?_eq_getElem hi']; simpa using he)
            rw [List.getElem?_eq_getElem (by omega)] at this
            exact ⟨m, _, this⟩) (by rw [hlen, hc, Nat.zero_add])
          simpa using this
        · cases h
      · cases h
    · rename_i m e hu
      split at h
      · rename_i l hl
        split at h
        · rename_i hc
          simp only [Option.some.injEq] at h; subst h
          obtain ⟨xs, q, _, _, hlen, hxl, hf⟩ := DataW.trod_array hu ht
          have := rows_fit (l := l) (cs := cs) m m (Nat.le_refl _) (by rw [hlen, hc.2]) (fun i hi => by
            have := hf i hi
            rw [hc.1, List.getElem?_eq_getElem (by omega)] at this
            exact fits_of_trod n e l _ _ _ hl this)
          simpa using this
        · cases h
      · cases h
    · cases h

/-- a struct or an array, by value -/
theorem open_agg {r : Reach} {b0 : Nat} {t : TypeId} {v : Value} {d : DataW H} {ps : List MemPlace} (n : Nat) (ls : List Leaf) (hl : leaves P n t = some ls)
    (ha : (match P.underlying t with | some (.struct _) | some (.array _ _) => true | _ => false) = true) (hv : Value.okWide P w r b0 t v) (h : DataW.Trod enc P w base spare held t v d ps) :
    ∃ cs : List Value, v = .agg cs.toArray ∧ Fits ls cs := by
  have hc : ∃ cs, v = .agg cs := by
    unfold Value.okWide at hv
    split at ha
    · rename_i fs hu
      simp only [hu] at hv
      obtain ⟨cs, h1, _⟩ := hv
      exact ⟨cs, h1⟩
    · rename_i m e hu
      simp only [hu] at hv
      obtain ⟨cs, h1, _⟩ := hv
      exact ⟨cs, h1⟩
    · cases ha
  obtain ⟨cs, rfl⟩ := hc
  obtain ⟨fuel, hf⟩ := h
  exact ⟨cs.toList, by simp, fits_of_trod n t ls fuel _ _ hl hf⟩

/-- a slice's elements, each as its leaves' values -/
def RowsAt (w : World) (ad : Option Addr) (k : Nat) (rows : List (List Value)) : Prop :=
  rows ≠ [] → ∃ b o, ad = some ⟨b, o, none⟩ ∧ b < w.heap.size ∧ ∀ (i : Nat) (r : List Value), rows[i]? = some r → ∀ (j : Nat) (u : Value), r[j]? = some u → w.cell? ⟨b, o + i * k + j, none⟩ = some u

theorem add_plain (b o n : Nat) : (⟨b, o, none⟩ : Addr).add n = ⟨b, o + n, none⟩ := by unfold Addr.add; split <;> simp_all

theorem open_rows {r : Reach} {b0 : Nat} {t e : TypeId} {v : Value} {d : DataW H} {ps : List MemPlace} (n : Nat) (ls : List Leaf) (ht : P.underlying t = some (.slice e)) (hl : leaves P n e = some ls) (hc : P.cellsOf e = ls.length) (hpos : 0 < ls.length)
    (hv : Value.okWide P w r b0 t v) (h : DataW.Trod enc P w base spare held t v d ps) :
    ∃ (ad : Option Addr) (c : Nat) (rows : List (List Value)), v = .slice ad rows.length c ∧ rows.length ≤ c ∧ c ≤ maxLen ∧ (∀ r ∈ rows, Fits ls r) ∧ RowsAt w ad ls.length rows := by
  obtain ⟨a0, len0, cap0, rfl⟩ := okWide_slice ht hv
  obtain ⟨fuel, hf⟩ := h
  rcases open_slice ht hf with ⟨hcs, hx⟩ | ⟨a, len, cap, m, q, D, Pl, hcs, hb, hlc, hm, hmm, hx, hi⟩
  · have : Value.slice a0 len0 cap0 = .slice none 0 0 := by simpa [Value.cells] using hcs
    rw [this]
    exact ⟨none, 0, [], rfl, Nat.le_refl _, Nat.zero_le _, by simp, fun h => absurd rfl h⟩
  · have he : Value.slice a0 len0 cap0 = .slice (some a) len cap := by simpa [Value.cells] using hcs
    rw [he]
    have hlm : len ≤ m := by rw [hmm]; split <;> omega
    have key : ∀ i, i < len → ∃ r : List Value, Fits ls r ∧ ∀ j, j < ls.length → w.cell? ((a.add (i * ls.length)).add j) = r[j]? := fun i hil => by
      obtain ⟨cs', h1, h2⟩ := hi i (by omega)
      rw [hc] at h1
      obtain ⟨_, _, h3⟩ := World.cells?_some h1
      exact ⟨cs', fits_of_trod n e ls _ _ _ hl h2, h3⟩
    obtain ⟨f, hf⟩ : ∃ f : Nat → List Value, ∀ i, i < len → Fits ls (f i) ∧ ∀ j, j < ls.length → w.cell? ((a.add (i * ls.length)).add j) = (f i)[j]? :=
      ⟨fun i => if hil : i < len then (key i hil).choose else [], fun i hil => by simp only [hil, dif_pos]; exact (key i hil).choose_spec⟩
    refine ⟨some a, cap, (List.range len).map f, by simp, by simpa using hlc, hm, ?_, ?_⟩
    · intro r hr
      obtain ⟨i, hi1, rfl⟩ := List.mem_map.1 hr
      exact (hf i (by simpa using hi1)).1
    · intro hne
      have hlen : 0 < len := by
        rcases Nat.eq_zero_or_pos len with h0 | h0
        · subst h0; simp at hne
        · exact h0
      have h00 := (hf 0 hlen).2 0 hpos
      have hl0 := (hf 0 hlen).1.len
      rw [List.getElem?_eq_getElem (by omega)] at h00
      have ha0 : (a.add (0 * ls.length)).add 0 = a := by simp [Addr.add]
      rw [ha0] at h00
      have hsp : a = ⟨a.block, a.off, none⟩ := by
        obtain ⟨b, o, sp⟩ := a
        unfold World.cell? at h00
        cases sp with
        | none => rfl
        | some s => simp at h00; split at h00 <;> simp_all
      refine ⟨a.block, a.off, by rw [← hsp], World.block_lt_of_cell? w _ h00, ?_⟩
      intro i r hr j u hu
      rw [List.getElem?_map] at hr
      obtain ⟨i', hi', rfl⟩ := Option.map_eq_some_iff.1 hr
      obtain ⟨hil, hii⟩ := List.getElem?_eq_some_iff.1 hi'
      simp at hil hii
      subst hii
      have h1 := (hf i hil).2 j (by have := (hf i hil).1.len; have := (List.getElem?_eq_some_iff.1 hu).1; omega)
      rw [hsp, add_plain, add_plain, hu] at h1
      exact h1
end
theorem rows_map {α : Type} {Q : List Value → Prop} (f : α → List Value) (R : α → Prop) (h : ∀ r, Q r → ∃ a, r = f a ∧ R a) : ∀ (rows : List (List Value)), (∀ r ∈ rows, Q r) → ∃ l : List α, rows = l.map f ∧ ∀ a ∈ l, R a
  | [], _ => ⟨[], rfl, by simp⟩
  | r :: rows, hr => by
    obtain ⟨l, rfl, hl⟩ := rows_map f R h rows (fun r hr' => hr r (by simp [hr']))
    obtain ⟨a, rfl, ha⟩ := h r (hr r (by simp))
    exact ⟨a :: l, rfl, by simpa using ⟨ha, hl⟩⟩

end Go.Proofs.Ytoifkfhbinfplaa
