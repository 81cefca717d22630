/- pebble: two growing slices of keys beside two walkers. -/
import Derived.Test.YtfmfdhcmbnabpaaPeb7
import Derived.Maps.AppendAt
namespace Go.Proofs.Ytfmfdhcmbnabpaa
open Go Go.RowKit
set_option linter.unusedVariables false
set_option linter.unusedSimpArgs false

def keysL (F : Nat → List UInt8) (k m : Nat) : List Value := ((List.range m).map fun i => cellsU8 (F (k - i))).flatten
theorem keysL_succ (F : Nat → List UInt8) (k m : Nat) : keysL F k (m + 1) = keysL F k m ++ cellsU8 (F (k - m)) := by simp [keysL, List.range_succ]
theorem keysL_length {F : Nat → List UInt8} (hF : F32 F) (k m : Nat) : (keysL F k m).length = m * 32 := by
  induction m with
  | zero => rfl
  | succ m ih => rw [keysL_succ, List.length_append, ih, key_cells _ (hF _)]; omega
theorem keysL_get {F : Nat → List UInt8} (hF : F32 F) (k m i j : Nat) (v : Value) (hi : i < m) (hv : (cellsU8 (F (k - i)))[j]? = some v) : (keysL F k m)[i * 32 + j]? = some v := by
  have hj : j < 32 := by
    have := (List.getElem?_eq_some_iff.1 hv).1
    rw [key_cells _ (hF _)] at this
    exact this
  induction m with
  | zero => omega
  | succ m ih =>
    rw [keysL_succ]
    by_cases h : i < m
    · rw [List.getElem?_append_left (by rw [keysL_length hF]; omega)]
      exact ih h
    · obtain rfl : i = m := by omega
      rw [List.getElem?_append_right (by rw [keysL_length hF]; omega), keysL_length hF, Nat.add_sub_cancel_left]
      exact hv
theorem info_key3 : (Try.prog.info? 23).map (fun i => (i.zero.map (fun z => z.cells.size), i.size, i.bytes)) = some (some 32, 32, 32) := by kernel_rfl
theorem key_parts : ∃ (i : TypeInfo) (z : Value), Try.prog.info? 23 = some i ∧ i.zero = some z ∧ z.cells.size = 32 ∧ i.size = 32 ∧ i.bytes = 32 := by
  have h := info_key3
  cases hq : Try.prog.info? 23 with
  | none => simp [hq] at h
  | some i =>
    rw [hq] at h
    simp only [Option.map_some, Option.some.injEq, Prod.mk.injEq] at h
    obtain ⟨h1, h2, h3⟩ := h
    cases hz : i.zero with
    | none => simp [hz] at h1
    | some z =>
      rw [hz] at h1
      exact ⟨i, z, rfl, hz, by simpa using h1, h2, h3⟩
set_option maxRecDepth 100000 in
theorem slice_key (K : List UInt8) (h : K.length = 32) (W : World) : (Instr.buildSlice 61 1 #[(0, .agg (cellsU8 K).toArray)]).run Try.prog W = .ok (.slice (some ⟨W.heap.size, 0, none⟩) 1 1) (W.alloc (.cells (cellsU8 K).toArray 23)) := by
  obtain ⟨f, rfl⟩ := list32 K h
  kernel_rfl

/-- a slice of the keys F k, F (k - 1), .., m of them -/
def Ks (B : Nat) (w : World) (F : Nat → List UInt8) (k : Nat) (ad : Option Addr) (m c : Nat) : Prop := w.ownsRow B 23 32 (.slice ad m c) m (keysL F k m)
variable {B : Nat} {w w' : World} {F : Nat → List UInt8} {k : Nat} {ad ad2 : Option Addr} {m c m2 c2 : Nat}
theorem own_ad (ad : Option Addr) (m c : Nat) : (Value.slice ad m c).ownBlock = ad.map (·.block) := by cases ad <;> rfl
theorem Ks.kept {row : Option Nat} (h : Ks B w F k ad m c) (hg : w.grownBy w' row) (hne : ad = none ∨ ad.map (·.block) ≠ row) : Ks B w' F k ad m c :=
  World.ownsRow.kept h hg (by rw [own_ad]; rcases hne with rfl | h; exact Or.inl rfl; exact Or.inr h)
theorem Ks.bel (h : Ks B w F k ad m c) (hb : Below w.heap.size w w') : Ks B w' F k ad m c :=
  h.kept (row := none) ⟨hb.os, hb.tape, hb.output, hb.size, fun k hk _ => hb.block k hk⟩ (by cases ad with | none => exact Or.inl rfl | some a => exact Or.inr (by simp))
theorem Ks.lt (h : Ks B w F k ad m c) {g : Nat} (hg : ad.map (·.block) = some g) : B ≤ g ∧ g < w.heap.size := World.ownsRow.lt h g (by rw [own_ad]; exact hg)
theorem Ks.blk (h : Ks B w F k ad m c) {g : Nat} (hg : ad.map (·.block) = some g) : ∃ cur, Blk w g 23 cur := by
  rcases h.2 with ⟨he, _⟩ | ⟨g', cap, cur, he, _, hgg, _⟩
  · injection he with he; subst he; cases hg
  · injection he with he; subst he; injection hg with hg; subst hg; exact ⟨cur, hgg⟩
theorem Ks.mv {B' : Nat} (h : Ks B w F k ad m c) (hm : Mv B' w w') : Ks B w' F k ad m c := by
  refine ⟨h.1, ?_⟩
  rcases h.2 with hn | ⟨g', cap, cur, he, hb, hgg, rest⟩
  · exact .inl hn
  · exact .inr ⟨g', cap, cur, he, hb, hm.keep (by decide) (by decide) hgg, rest⟩
/-- a key's cells in it -/
theorem Ks.get {g : Nat} (hF : F32 F) (h : Ks B w F k (some ⟨g, 0, none⟩) m c) (i : Nat) (hi : i < m) (j : Nat) (v : Value) (hv : (cellsU8 (F (k - i)))[j]? = some v) : w.cell? ⟨g, i * 32 + j, none⟩ = some v := by
  have := World.ownsRow.cells h (g := g) rfl (i * 32 + j) v (keysL_get hF k m i j v hi hv)
  rw [addr_add, Nat.zero_add] at this
  exact this
theorem Ks.some_ (h : Ks B w F k ad m c) (hm : 0 < m) : ∃ g, ad = some ⟨g, 0, none⟩ ∧ g < w.heap.size ∧ m ≤ c ∧ c ≤ maxLen := by
  rcases h.2 with ⟨_, h0⟩ | ⟨g', cap, cur, he, hb, hgg, h1, h2, _⟩
  · omega
  · injection he with he _ hc; subst he; subst hc; exact ⟨g', rfl, (Array.getElem?_eq_some_iff.1 hgg).1, h1, h2⟩
theorem Ks.append (hF : F32 F) (h : Ks B w F k ad m c) (hm : m ≤ 100) {bn : Nat} (hb : Blk w bn 23 (cellsU8 (F (k - m))).toArray) (hB : B ≤ w.heap.size) :
    ∃ g' c' w', (Builtin.append_ #[61, 61] 61 #[.slice ad m c, .slice (some ⟨bn, 0, none⟩) 1 1]).run Try.prog w = .ok (.slice (some ⟨g', 0, none⟩) (m + 1) c') w' ∧
      Ks B w' F k (some ⟨g', 0, none⟩) (m + 1) c' ∧ w.grownBy w' (ad.map (·.block)) ∧ (some g' = ad.map (·.block) ∨ g' = w.heap.size) := by
  obtain ⟨i, z, hi, hz, hzs, hs, hby⟩ := key_parts
  obtain ⟨v', w', hr, ho, hg, _, hat⟩ := run_append_own_at (P := Try.prog) w B 61 61 23 i z 32 32 Try.underlying61 hi hz hs hby hzs (by decide) (.slice ad m c) m (keysL F k m) h ⟨bn, 0, none⟩ 1 1 (cellsU8 (F (k - m))) (by rw [key_cells _ (hF _)])
    (fun j u hu => by rw [addr_add, Nat.zero_add]; exact hb.atL hu) (cellsU8_one _) (by unfold maxLen; omega) (by omega) hB
  rw [← keysL_succ] at ho
  rw [own_ad] at hg hat
  have ho' := ho
  rcases ho'.2 with ⟨_, h0⟩ | ⟨g', cap, cur, rfl, _⟩
  · omega
  · refine ⟨g', cap, w', hr, ho, hg, ?_⟩
    rcases hat with h | h
    · exact Or.inl h
    · injection h with h; exact Or.inr h
/-- two of them, apart -/
structure K2 (B : Nat) (w : World) (F : Nat → List UInt8) (k : Nat) (ad : Option Addr) (m c : Nat) (ad2 : Option Addr) (m2 c2 : Nat) : Prop where
  one : Ks B w F k ad m c
  two : Ks B w F k ad2 m2 c2
  ap : ad = none ∨ ad2 = none ∨ ad.map (·.block) ≠ ad2.map (·.block)
theorem K2.symm (h : K2 B w F k ad m c ad2 m2 c2) : K2 B w F k ad2 m2 c2 ad m c := ⟨h.two, h.one, by rcases h.ap with h | h | h; exact Or.inr (Or.inl h); exact Or.inl h; exact Or.inr (Or.inr h.symm)⟩
theorem K2.bel (h : K2 B w F k ad m c ad2 m2 c2) (hb : Below w.heap.size w w') : K2 B w' F k ad m c ad2 m2 c2 := ⟨h.one.bel hb, h.two.bel hb, h.ap⟩
theorem K2.mv {B' : Nat} (h : K2 B w F k ad m c ad2 m2 c2) (hm : Mv B' w w') : K2 B w' F k ad m c ad2 m2 c2 := ⟨h.one.mv hm, h.two.mv hm, h.ap⟩
theorem K2.none_ (B : Nat) (w : World) (F : Nat → List UInt8) (k : Nat) : K2 B w F k none 0 0 none 0 0 := ⟨⟨rfl, .inl ⟨rfl, rfl⟩⟩, ⟨rfl, .inl ⟨rfl, rfl⟩⟩, Or.inl rfl⟩
/-- the walkers stay, where a slice of keys grows -/
theorem WG.key {b g n at_ : Nat} {F' : Nat → List UInt8} (h : WG B w b g F' n at_) (hk : Ks B w F k ad m c) (hg : w.grownBy w' (ad.map (·.block))) : WG B w' b g F' n at_ := by
  obtain ⟨cap, cur, ps, hw, hi, h1, h2⟩ := h
  refine ⟨cap, cur, ps, ⟨hw.blk.grown hg ?_, hw.row.grown hg ?_, hw.ne, hw.le, hw.cap_le, hw.fit, hw.take⟩, hi, h1, h2⟩
  · intro e
    obtain ⟨cs, hc⟩ := hk.blk e.symm
    exact hw.blk.ne_ hc (by decide) rfl
  · intro e
    obtain ⟨cs, hc⟩ := hk.blk e.symm
    exact hw.row.ne_ hc (by decide) rfl
theorem W2.key {b b' n i j : Nat} {F' : Nat → List UInt8} (h : W2 B w b b' F' n i j) (hk : Ks B w F k ad m c) (hg : w.grownBy w' (ad.map (·.block))) : W2 B w' b b' F' n i j := by
  obtain ⟨g, k, h1, h2, h3, h4⟩ := h
  exact ⟨g, k, h1.key hk hg, h2.key hk hg, h3, h4⟩
theorem K2.append {b b' n i j : Nat} {w0 : World} (hF : F32 F) (h : K2 w0.heap.size w F k ad m c ad2 m2 c2) (hw : W2 w0.heap.size w b b' F n i j) (hb0 : Below w0.heap.size w0 w) (hm : m ≤ 100) {bn : Nat} (hb : Blk w bn 23 (cellsU8 (F (k - m))).toArray) :
    ∃ g' c' w', (Builtin.append_ #[61, 61] 61 #[.slice ad m c, .slice (some ⟨bn, 0, none⟩) 1 1]).run Try.prog w = .ok (.slice (some ⟨g', 0, none⟩) (m + 1) c') w' ∧
      K2 w0.heap.size w' F k (some ⟨g', 0, none⟩) (m + 1) c' ad2 m2 c2 ∧ W2 w0.heap.size w' b b' F n i j ∧ Below w0.heap.size w0 w' := by
  obtain ⟨g', c', w', hr, ho, hg, hat⟩ := h.one.append hF hm hb hb0.size
  have h2 : Ks w0.heap.size w' F k ad2 m2 c2 := h.two.kept hg (by
    rcases h.ap with h1 | h1 | h1
    · subst h1
      cases ad2 with
      | none => exact Or.inl rfl
      | some a => exact Or.inr (by simp)
    · exact Or.inl h1
    · exact Or.inr (fun e => h1 e.symm))
  refine ⟨g', c', w', hr, ⟨ho, h2, ?_⟩, hw.key h.one hg, hb0.grown hg hb0.size (fun x hx => (h.one.lt hx).1)⟩
  cases ad2 with
  | none => exact Or.inr (Or.inl rfl)
  | some a =>
    refine Or.inr (Or.inr ?_)
    intro e
    rcases hat with h3 | h3
    · rcases h.ap with h1 | h1 | h1
      · subst h1; cases h3
      · cases h1
      · exact h1 (h3.symm.trans e)
    · have := (h.two.lt (g := g') (by rw [← e]; rfl)).2
      omega
end Go.Proofs.Ytfmfdhcmbnabpaa
