/- pebble: plain words, and a walker's memory. -/
import Derived.Test.YtfmfdhcmbnabpaaChn5
import Derived.Test.YtfmfdhcmbnabpaaReg
namespace Go.Proofs.Ytfmfdhcmbnabpaa
open Go Go.RowKit
set_option linter.unusedVariables false
set_option linter.unusedSimpArgs false

/-- stones halve the way: each lies at 'at' or behind it, ahead of the one before, at half of its way at most -/
def Hv (at_ : Nat) : Nat → List Nat → Prop
  | _, [] => True
  | prev, p :: ps => at_ ≤ p ∧ p < prev ∧ 2 * p ≤ prev + at_ ∧ Hv at_ p ps
theorem Hv.len {at_ : Nat} : ∀ (ps : List Nat) (prev : Nat), Hv at_ prev ps → at_ < prev → 2 ^ ps.length ≤ 2 * (prev - at_)
  | [], prev, _, h => by simp; omega
  | p :: ps, prev, ⟨h1, h2, h3, h4⟩, h => by
    match ps, h4 with
    | [], _ => simp; omega
    | q :: qs, h4 =>
      have hq : q < p := h4.2.1
      have hq2 : at_ ≤ q := h4.1
      have := Hv.len (q :: qs) p h4 (by omega)
      rw [List.length_cons, Nat.pow_succ]
      omega
theorem Hv.mono {a a' : Nat} (haa : a ≤ a') : ∀ (ps : List Nat) (prev : Nat), Hv a prev ps → (∀ p ∈ ps, a' ≤ p) → Hv a' prev ps
  | [], _, _, _ => trivial
  | p :: ps, prev, ⟨h1, h2, h3, h4⟩, h => ⟨h p (by simp), h2, by omega, Hv.mono haa ps p h4 (fun x hx => h x (by simp [hx]))⟩
theorem Hv.init {a : Nat} : ∀ (ps : List Nat) (prev p : Nat), Hv a prev (ps ++ [p]) → Hv a prev ps ∧ a ≤ p ∧ ∀ x ∈ ps, p < x
  | [], prev, p, ⟨h1, h2, h3, _⟩ => ⟨trivial, h1, by simp⟩
  | q :: qs, prev, p, ⟨h1, h2, h3, h4⟩ => by
    obtain ⟨a1, a2, a3⟩ := Hv.init qs q p h4
    refine ⟨⟨h1, h2, h3, a1⟩, a2, fun x hx => ?_⟩
    rcases List.mem_cons.1 hx with rfl | hx
    · match qs, h4 with
      | [], h4 => exact h4.2.1
      | r :: rs, h4 => exact Nat.lt_trans (a3 r (by simp)) h4.2.1
    · exact a3 x hx
theorem Hv.snoc {a : Nat} : ∀ (ps : List Nat) (prev p m : Nat), Hv a prev (ps ++ [p]) → a ≤ m → m < p → 2 * m ≤ p + a → Hv a prev (ps ++ [p] ++ [m])
  | [], prev, p, m, ⟨h1, h2, h3, _⟩, k1, k2, k3 => ⟨h1, h2, h3, k1, k2, k3, trivial⟩
  | q :: qs, prev, p, m, ⟨h1, h2, h3, h4⟩, k1, k2, k3 => ⟨h1, h2, h3, Hv.snoc qs q p m h4 k1 k2 k3⟩

/-- what a walker minds -/
structure Inv (n at_ : Nat) (ps : List Nat) : Prop where
  le : at_ ≤ n + 1
  hv : Hv at_ (2 * n + 1) ps
  hd : at_ ≤ n → ∃ rest, ps = n :: rest
  no : n < at_ → ps = []
theorem Inv.len {n at_ : Nat} {ps : List Nat} (h : Inv n at_ ps) (hn1 : 1 ≤ n) (hn : n ≤ 1024) : ps.length ≤ 12 := by
  have := Hv.len ps _ h.hv (by have := h.le; omega)
  have h2 : 2 ^ ps.length ≤ 4098 := Nat.le_trans this (by omega)
  rcases Nat.lt_or_ge 12 ps.length with h3 | h3
  · have : 2 ^ 13 ≤ 2 ^ ps.length := Nat.pow_le_pow_right (by decide) h3
    omega
  · exact h3
/-- the least b with n + 1 ≤ 2^b, and 2 -/
theorem Inv.most {n at_ b : Nat} {ps : List Nat} (h : Inv n at_ ps) (hn : 1 ≤ n) (hb : n + 1 ≤ 2 ^ b) : ps.length ≤ b + 2 := by
  have h1 := Hv.len ps _ h.hv (by have := h.le; omega)
  rcases Nat.lt_or_ge (b + 2) ps.length with h3 | h3
  · have : 2 ^ (b + 3) ≤ 2 ^ ps.length := Nat.pow_le_pow_right (by decide) h3
    rw [Nat.pow_add] at this
    omega
  · exact h3
theorem Inv.new (n : Nat) (hn : 1 ≤ n) : Inv n 0 [n] := ⟨by omega, ⟨by omega, by omega, by omega, trivial⟩, fun _ => ⟨[], rfl⟩, fun h => by omega⟩
theorem Inv.ne {n at_ : Nat} {ps : List Nat} (h : Inv n at_ ps) (ha : at_ ≤ n) : ps ≠ [] := by
  obtain ⟨r, rfl⟩ := h.hd ha; simp
theorem Inv.push {n at_ : Nat} {ps : List Nat} {p m : Nat} (h : Inv n at_ (ps ++ [p])) (ha : at_ ≤ n) (k1 : at_ ≤ m) (k2 : m < p) (k3 : 2 * m ≤ p + at_) : Inv n at_ (ps ++ [p] ++ [m]) :=
  ⟨h.le, Hv.snoc _ _ _ _ h.hv k1 k2 k3, fun _ => by obtain ⟨r, hr⟩ := h.hd ha; exact ⟨r ++ [m], by rw [hr]; rfl⟩, fun hh => by omega⟩
theorem Inv.pop {n at_ : Nat} {ps : List Nat} (h : Inv n at_ (ps ++ [at_])) (ha : at_ ≤ n) : Inv n (at_ + 1) ps := by
  obtain ⟨h1, h2, h3⟩ := Hv.init _ _ _ h.hv
  refine ⟨by omega, Hv.mono (by omega) _ _ h1 (fun p hp => h3 p hp), fun hh => ?_, fun hh => ?_⟩
  · obtain ⟨r, hr⟩ := h.hd ha
    match ps, hr with
    | [], hr => injection hr with hr _; omega
    | q :: qs, hr => injection hr with hr _; exact ⟨qs, by rw [hr]⟩
  · obtain ⟨r, hr⟩ := h.hd ha
    match ps, hr with
    | [], hr => rfl
    | q :: qs, hr => injection hr with hr _; have := h3 q (by simp); omega
theorem Inv.last {n at_ : Nat} {ps : List Nat} {p : Nat} (h : Inv n at_ (ps ++ [p])) (ha : at_ ≤ n) : at_ ≤ p ∧ p ≤ n := by
  obtain ⟨h1, h2, h3⟩ := Hv.init _ _ _ h.hv
  refine ⟨h2, ?_⟩
  obtain ⟨r, hr⟩ := h.hd ha
  match ps, hr with
  | [], hr => injection hr with hr _; omega
  | q :: qs, hr => injection hr with hr _; have := h3 q (by simp); omega
/-- while it skips: stones are let go, the first one stays -/
structure Skp (n at_ to_ : Nat) (ps : List Nat) : Prop where
  hv : Hv at_ (2 * n + 1) ps
  hd : ∃ rest, ps = n :: rest
theorem Skp.of {n at_ to_ : Nat} {ps : List Nat} (h : Inv n at_ ps) (ha : at_ ≤ n) : Skp n at_ to_ ps := ⟨h.hv, h.hd ha⟩
theorem Skp.drop {n at_ to_ : Nat} {ps : List Nat} {p : Nat} (h : Skp n at_ to_ (ps ++ [p])) (hp : p < to_) (ht : to_ ≤ n) : Skp n at_ to_ ps := by
  obtain ⟨h1, h2, h3⟩ := Hv.init _ _ _ h.hv
  refine ⟨h1, ?_⟩
  obtain ⟨r, hr⟩ := h.hd
  match ps, hr with
  | [], hr => injection hr with hr _; omega
  | q :: qs, hr => injection hr with hr _; exact ⟨qs, by rw [hr]⟩
theorem Skp.done {n at_ to_ : Nat} {ps : List Nat} {p : Nat} (h : Skp n at_ to_ (ps ++ [p])) (ha : at_ ≤ to_) (hp : to_ ≤ p) (ht : to_ ≤ n) : Inv n to_ (ps ++ [p]) := by
  obtain ⟨h1, h2, h3⟩ := Hv.init _ _ _ h.hv
  refine ⟨by omega, Hv.mono ha _ _ h.hv (fun x hx => ?_), fun _ => h.hd, fun hh => by omega⟩
  rcases List.mem_append.1 hx with hx | hx
  · have := h3 x hx; omega
  · simp at hx; omega
theorem snoc_of {ps : List Nat} (h : ps ≠ []) : ∃ qs p, ps = qs ++ [p] := ⟨ps.dropLast, ps.getLast h, (List.dropLast_concat_getLast h).symm⟩

/-- a stone's cells -/
def stoneL (F : Nat → List UInt8) (n p : Nat) : List Value := .int .i64 (p : Int) :: cellsU8 (F (n - p))
def stonesL (F : Nat → List UInt8) (n : Nat) (ps : List Nat) : List Value := (ps.map (stoneL F n)).flatten
def F32 (F : Nat → List UInt8) : Prop := ∀ d, (F d).length = 32
theorem stoneL_length {F : Nat → List UInt8} (hF : F32 F) (n p : Nat) : (stoneL F n p).length = 33 := by simp [stoneL, length_cellsU8, hF (n - p)]
theorem stoneL_one (F : Nat → List UInt8) (n p : Nat) : ∀ v ∈ stoneL F n p, v.oneCell' = true := by
  intro v hv
  rcases List.mem_cons.1 hv with rfl | hv
  · rfl
  · exact cellsU8_one _ v hv
theorem stonesL_length {F : Nat → List UInt8} (hF : F32 F) (n : Nat) : ∀ ps : List Nat, (stonesL F n ps).length = ps.length * 33
  | [] => rfl
  | p :: ps => by
    have := stonesL_length hF n ps
    unfold stonesL at *
    rw [List.map_cons, List.flatten_cons, List.length_append, this, stoneL_length hF, List.length_cons]; omega
theorem stonesL_snoc (F : Nat → List UInt8) (n : Nat) (ps : List Nat) (p : Nat) : stonesL F n (ps ++ [p]) = stonesL F n ps ++ stoneL F n p := by simp [stonesL]

/-- a walker in block b, its stones in block g -/
structure Wk (w : World) (b g cap : Nat) (cur : Array Value) (F : Nat → List UInt8) (n at_ : Nat) (ps : List Nat) : Prop where
  blk : Blk w b 75 #[.int .i64 (n : Int), .int .i64 (at_ : Int), .slice (some ⟨g, 0, none⟩) ps.length cap]
  row : Blk w g 72 cur
  ne : b ≠ g
  le : ps.length ≤ cap
  cap_le : cap ≤ maxLen
  fit : cap * 33 ≤ cur.size
  take : cur.toList.take (ps.length * 33) = stonesL F n ps
/-- only a walker's blocks, and what is new, have turned -/
structure Fr (w w' : World) (b g : Nat) : Prop where
  os : w'.os = w.os
  tape : w'.tape = w.tape
  output : w'.output = w.output
  size : w.heap.size ≤ w'.heap.size
  block : ∀ k, k < w.heap.size → k ≠ b → k ≠ g → w'.heap[k]? = w.heap[k]?
theorem Fr.of_bel {w w' : World} {b g : Nat} (h : Below w.heap.size w w') : Fr w w' b g := ⟨h.os, h.tape, h.output, h.size, fun k hk _ _ => h.block k hk⟩
theorem Fr.of_b {w w' : World} {b g : Nat} (h : w.grownBy w' (some b)) : Fr w w' b g := ⟨h.os, h.tape, h.output, h.size, fun k hk hb _ => h.block k hk (by intro e; injection e with e; exact hb e)⟩
theorem Fr.of_g {w w' : World} {b g : Nat} (h : w.grownBy w' (some g)) : Fr w w' b g := ⟨h.os, h.tape, h.output, h.size, fun k hk _ hg => h.block k hk (by intro e; injection e with e; exact hg e)⟩
theorem Fr.trans {w w1 w2 : World} {b g g1 : Nat} (h : Fr w w1 b g) (k : Fr w1 w2 b g1) (hg : g1 = g ∨ w.heap.size ≤ g1) : Fr w w2 b g :=
  ⟨k.os.trans h.os, k.tape.trans h.tape, k.output.trans h.output, Nat.le_trans h.size k.size, fun i hi hb hgi => (k.block i (Nat.lt_of_lt_of_le hi h.size) hb (by rcases hg with rfl | hg; exact hgi; omega)).trans (h.block i hi hb hgi)⟩
theorem Fr.below {B : Nat} {w w' : World} {b g : Nat} (h : Fr w w' b g) (hb : B ≤ b) (hg : B ≤ g) (hB : B ≤ w.heap.size) : Below B w w' :=
  ⟨h.os, h.tape, h.output, h.size, fun k hk => h.block k (by omega) (by omega) (by omega)⟩
theorem Blk.fr {w w' : World} {b g k : Nat} {t : TypeId} {cs : Array Value} (h : Blk w k t cs) (hf : Fr w w' b g) (h1 : k ≠ b) (h2 : k ≠ g) : Blk w' k t cs := (hf.block k h.lt h1 h2).trans h
theorem Wk.bel {w w' : World} {b g cap : Nat} {cur : Array Value} {F : Nat → List UInt8} {n at_ : Nat} {ps : List Nat} (h : Wk w b g cap cur F n at_ ps) (hb : Below w.heap.size w w') : Wk w' b g cap cur F n at_ ps :=
  ⟨h.blk.bel hb, h.row.bel hb, h.ne, h.le, h.cap_le, h.fit, h.take⟩
theorem Wk.fr {w w' : World} {b g cap : Nat} {cur : Array Value} {F : Nat → List UInt8} {n at_ : Nat} {ps : List Nat} (h : Wk w b g cap cur F n at_ ps) {b2 g2 : Nat} (hf : Fr w w' b2 g2) (h1 : b ≠ b2) (h2 : b ≠ g2) (h3 : g ≠ b2) (h4 : g ≠ g2) : Wk w' b g cap cur F n at_ ps :=
  ⟨h.blk.fr hf h1 h2, h.row.fr hf h3 h4, h.ne, h.le, h.cap_le, h.fit, h.take⟩
theorem Wk.cells {w : World} {b g cap : Nat} {cur : Array Value} {F : Nat → List UInt8} {n at_ : Nat} {ps : List Nat} (h : Wk w b g cap cur F n at_ ps) :
    w.cell? ⟨b, 0, none⟩ = some (.int .i64 (n : Int)) ∧ w.cell? ⟨b, 1, none⟩ = some (.int .i64 (at_ : Int)) ∧ w.cell? ⟨b, 2, none⟩ = some (.slice (some ⟨g, 0, none⟩) ps.length cap) ∧ b < w.heap.size :=
  ⟨h.blk.at rfl, h.blk.at rfl, h.blk.at rfl, h.blk.lt⟩
/-- the last stone's cells -/
theorem Wk.last {w : World} {b g cap : Nat} {cur : Array Value} {F : Nat → List UInt8} {n at_ : Nat} {ps : List Nat} {p : Nat} (hF : F32 F) (h : Wk w b g cap cur F n at_ (ps ++ [p])) (j : Nat) (v : Value) (hv : (stoneL F n p)[j]? = some v) : w.cell? ⟨g, ps.length * 33 + j, none⟩ = some v := by
  have ht := h.take
  rw [stonesL_snoc, List.length_append, List.length_singleton] at ht
  have hj : j < 33 := by have := (List.getElem?_eq_some_iff.1 hv).1; rw [stoneL_length hF] at this; exact this
  rw [h.row.cell, ← Array.getElem?_toList]
  have h2 : (cur.toList.take ((ps.length + 1) * 33))[ps.length * 33 + j]? = some v := by
    rw [ht, List.getElem?_append_right (by rw [stonesL_length hF]; omega), stonesL_length hF, show ps.length * 33 + j - ps.length * 33 = j by omega]
    exact hv
  rw [List.getElem?_take, if_pos (by omega)] at h2
  exact h2
end Go.Proofs.Ytfmfdhcmbnabpaa
