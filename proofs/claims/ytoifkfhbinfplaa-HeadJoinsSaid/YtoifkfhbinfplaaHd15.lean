/- head: growing slices of extensions; what is read. -/
import Derived.Test.YtoifkfhbinfplaaHd14
import Derived.Maps.AppendAt
namespace Go.Proofs.Ytoifkfhbinfplaa
open Go Go.RowKit
set_option linter.unusedVariables false
set_option linter.unusedSimpArgs false

def rowsF (l : List Fd) : List Value := (l.map Fd.row).flatten
variable {w w' : World} {ad : Option Addr} {l : List Fd} {B b o c : Nat}
theorem rowsF_append (a c : List Fd) : rowsF (a ++ c) = rowsF a ++ rowsF c := by simp [rowsF]
theorem rowsF_one (f : Fd) : rowsF [f] = f.row := by simp [rowsF]
theorem rowsF_length (l : List Fd) : (rowsF l).length = l.length * 2 := by
  induction l with
  | nil => rfl
  | cons f l ih =>
    have : rowsF (f :: l) = f.row ++ rowsF l := by simp [rowsF]
    rw [this, List.length_append, ih]
    show 2 + _ = _
    simp only [List.length_cons]
    omega
theorem rowsF_get : ∀ (l : List Fd) (i : Nat) (f : Fd), l[i]? = some f → (rowsF l)[i * 2]? = some (.int .i64 f.k) ∧ (rowsF l)[i * 2 + 1]? = some (.string f.d)
  | [], i, f, h => by simp at h
  | g :: l, 0, f, h => by
    simp only [List.getElem?_cons_zero, Option.some.injEq] at h
    subst h
    exact ⟨rfl, rfl⟩
  | g :: l, i + 1, f, h => by
    rw [List.getElem?_cons_succ] at h
    have := rowsF_get l i f h
    have e : rowsF (g :: l) = .int .i64 g.k :: .string g.d :: rowsF l := rfl
    rw [e, show (i + 1) * 2 = i * 2 + 1 + 1 by omega]
    simpa only [List.getElem?_cons_succ] using this
theorem rowsF_one' (l : List Fd) : ∀ v ∈ rowsF l, v.oneCell' = true := by
  intro v hv
  unfold rowsF at hv
  rw [List.mem_flatten] at hv
  obtain ⟨r, hr, hv⟩ := hv
  obtain ⟨f, _, rfl⟩ := List.mem_map.1 hr
  unfold Fd.row fieldL at hv
  simp at hv
  rcases hv with rfl | rfl <;> rfl
/-- a slice of extensions behind B, its own -/
def Fo (B : Nat) (w : World) (ad : Option Addr) (l : List Fd) (c : Nat) : Prop := w.ownsRow B 48 2 (.slice ad l.length c) l.length (rowsF l)
theorem own_ad (ad : Option Addr) (m c : Nat) : (Value.slice ad m c).ownBlock = ad.map (·.block) := by cases ad <;> rfl
theorem Fo.kept {row : Option Nat} (h : Fo B w ad l c) (hg : w.grownBy w' row) (hne : ad = none ∨ ad.map (·.block) ≠ row) : Fo B w' ad l c :=
  World.ownsRow.kept h hg (by rw [own_ad]; rcases hne with rfl | h; exact Or.inl rfl; exact Or.inr h)
theorem Fo.bel (h : Fo B w ad l c) (hb : Below w.heap.size w w') : Fo B w' ad l c :=
  h.kept (row := none) ⟨hb.os, hb.tape, hb.output, hb.size, fun k hk _ => hb.block k hk⟩ (by cases ad with | none => exact Or.inl rfl | some a => exact Or.inr (by simp))
theorem Fo.lt (h : Fo B w ad l c) {g : Nat} (hg : ad.map (·.block) = some g) : B ≤ g ∧ g < w.heap.size := World.ownsRow.lt h g (by rw [own_ad]; exact hg)
theorem Fo.nil (B : Nat) (w : World) : Fo B w none [] 0 := ⟨rfl, .inl ⟨rfl, rfl⟩⟩
theorem Fo.fs (h : Fo B w ad l c) : FS w ad l := fun hl => by
  have hl' : 0 < l.length := List.length_pos_iff.2 hl
  obtain ⟨g, rfl, hgl⟩ : ∃ g, ad = some ⟨g, 0, none⟩ ∧ g < w.heap.size := by
    rcases h.2 with ⟨_, h0⟩ | ⟨g', cap, cur, he, hb, hgg, h1, h2, _⟩
    · omega
    · injection he with he _ hc; subst he; exact ⟨g', rfl, (Array.getElem?_eq_some_iff.1 hgg).1⟩
  refine ⟨g, 0, rfl, hgl, fun i f hf => ?_⟩
  obtain ⟨h1, h2⟩ := rowsF_get l i f hf
  have q1 := World.ownsRow.cells h (g := g) rfl _ _ h1
  have q2 := World.ownsRow.cells h (g := g) rfl _ _ h2
  rw [addr_add] at q1 q2
  exact ⟨q1, q2⟩
theorem info_field3 : (Try.prog.info? 48).map (fun i => (i.zero.map (fun z => z.cells.size), i.size, i.bytes)) = some (some 2, 2, 24) := by kernel_rfl
theorem field_parts : ∃ (i : TypeInfo) (z : Value), Try.prog.info? 48 = some i ∧ i.zero = some z ∧ z.cells.size = 2 ∧ i.size = 2 ∧ i.bytes = 24 := by
  have h := info_field3
  cases hq : Try.prog.info? 48 with
  | none => simp [hq] at h
  | some i =>
    rw [hq] at h
    simp only [Option.map_some, Option.some.injEq, Prod.mk.injEq] at h
    obtain ⟨h1, h2, h3⟩ := h
    cases hz : i.zero with
    | none => simp [hz] at h1
    | some z =>
      rw [hz] at h1
      exact ⟨i, z, rfl, hz, by simpa using h1, h2, h3⟩
set_option maxRecDepth 100000 in
theorem slice_field (k : Int) (d : ByteArray) (W : World) : (Instr.buildSlice 35 1 #[(0, .agg #[.int .i64 k, .string d])]).run Try.prog W = .ok (.slice (some ⟨W.heap.size, 0, none⟩) 1 1) (W.alloc (.cells #[.int .i64 k, .string d] 48)) := by
  kernel_rfl
/-- more extensions behind -/
theorem Fo.append (h : Fo B w ad l c) (hm : l.length ≤ 1000) {bn bo c1 : Nat} (m : List Fd) (hm1 : m.length ≤ 1000) (hne : m ≠ []) (hb : HoldsF w bn bo m) (hB : B ≤ w.heap.size) :
    ∃ g' c' w', (Builtin.append_ #[35, 35] 35 #[.slice ad l.length c, .slice (some ⟨bn, bo, none⟩) m.length c1]).run Try.prog w = .ok (.slice (some ⟨g', 0, none⟩) (l ++ m).length c') w' ∧
      Fo B w' (some ⟨g', 0, none⟩) (l ++ m) c' ∧ w.grownBy w' (ad.map (·.block)) ∧ (some g' = ad.map (·.block) ∨ g' = w.heap.size) := by
  obtain ⟨i, z, hi, hz, hzs, hs, hby⟩ := field_parts
  have hcells : ∀ j u, (rowsF m)[j]? = some u → w.cell? ((⟨bn, bo, none⟩ : Addr).add j) = some u := by
    intro j u hu
    rw [addr_add]
    have hj : j < m.length * 2 := by
      have := (List.getElem?_eq_some_iff.1 hu).1
      rwa [rowsF_length] at this
    obtain ⟨f, hf⟩ : ∃ f, m[j / 2]? = some f := ⟨m[j / 2]'(by omega), by simp⟩
    obtain ⟨h1, h2⟩ := rowsF_get m _ f hf
    obtain ⟨q1, q2⟩ := hb _ f hf
    rcases Nat.mod_two_eq_zero_or_one j with h0 | h0
    · have e : j = j / 2 * 2 := by omega
      rw [e] at hu ⊢
      rw [h1] at hu
      cases hu
      exact q1
    · have e : j = j / 2 * 2 + 1 := by omega
      rw [e] at hu ⊢
      rw [h2] at hu
      cases hu
      exact q2
  obtain ⟨v', w', hr, ho, hg, _, hat⟩ := run_append_own_at (P := Try.prog) w B 35 35 48 i z 2 24 Try.underlying35 hi hz hs hby hzs (by decide) (.slice ad l.length c) l.length (rowsF l) h ⟨bn, bo, none⟩ m.length c1 (rowsF m) (by rw [rowsF_length])
    hcells (rowsF_one' m) (by unfold maxLen; omega) (by have := List.length_pos_iff.2 hne; omega) hB
  rw [← rowsF_append, ← List.length_append] at ho
  rw [own_ad] at hg hat
  have ho' := ho
  have hlm : 0 < (l ++ m).length := by rw [List.length_append]; have := List.length_pos_iff.2 hne; omega
  rcases ho'.2 with ⟨_, h0⟩ | ⟨g', cap, cur, rfl, _⟩
  · omega
  · refine ⟨g', cap, w', hr, ho, hg, ?_⟩
    rcases hat with h | h
    · exact Or.inl h
    · injection h with h; exact Or.inr h
/-- what is read behind a head: the extensions, what is wrong -/
def rdF : Nat → List Fd → ByteArray → List Fd × Int
  | 0, _, _ => ([], 4)
  | n + 1, a, s => if s.size = 0 then (a, 0) else if a.length = 16 then ([], 4) else if oneIs s = true then rdF n (a ++ [oneF s]) (oneRest s) else ([], 2)
def readL (s : ByteArray) : Hd × List Fd × Int :=
  if s.size < 48 then (zeroH, [], 5)
  else if (hdOf (s.extract 0 48)).may = true then
    (if (rdF 17 [] (s.extract 48 s.size)).2 = 0 then (hdOf (s.extract 0 48), (rdF 17 [] (s.extract 48 s.size)).1, 0) else (zeroH, [], (rdF 17 [] (s.extract 48 s.size)).2))
  else (zeroH, [], 2)
theorem oneRest_le (s : ByteArray) : (oneRest s).size ≤ s.size := by
  unfold oneRest
  split
  · exact Nat.zero_le _
  · have h := Lib.trimPrefix_le (bs (oneR s)) (oneFull s)
    have h2 : (oneR s).size ≤ s.size := by unfold oneR; simp
    have h3 : ∀ x : List UInt8, (⟨x.toArray⟩ : ByteArray).size = x.length := fun x => rfl
    rw [size_bs] at h
    rw [h3]
    omega
end Go.Proofs.Ytoifkfhbinfplaa
