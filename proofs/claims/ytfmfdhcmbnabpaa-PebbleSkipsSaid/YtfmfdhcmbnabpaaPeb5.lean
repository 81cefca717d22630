/- pebble: a law's own walker, told at once. -/
import Derived.Test.YtfmfdhcmbnabpaaRPeb
namespace Go.Proofs.Ytfmfdhcmbnabpaa
open Go Go.RowKit
set_option linter.unusedVariables false
set_option linter.unusedSimpArgs false
attribute [local go_sem] bmax2 bmin2 bmax bmin cell_ext frozen_ext

/-- on from w: what lies below B is as it was, and so is all else but walkers and stones -/
structure Mv (B : Nat) (w w' : World) : Prop where
  below : Below B w w'
  keep : ∀ {k T : Nat} {cs : Array Value}, T ≠ 75 → T ≠ 72 → Blk w k T cs → Blk w' k T cs
theorem Mv.of_bel {B : Nat} {w w' : World} (h : Below w.heap.size w w') (hB : B ≤ w.heap.size) : Mv B w w' := ⟨h.mono hB, fun _ _ hk => hk.bel h⟩
/-- a walker, its stones in block g -/
def WG (B : Nat) (w : World) (b g : Nat) (F : Nat → List UInt8) (n at_ : Nat) : Prop := ∃ cap cur ps, Wk w b g cap cur F n at_ ps ∧ Inv n at_ ps ∧ B ≤ b ∧ B ≤ g
/-- a walker -/
def WS (B : Nat) (w : World) (b : Nat) (F : Nat → List UInt8) (n at_ : Nat) : Prop := ∃ g, WG B w b g F n at_
variable {B : Nat} {w w' : World} {b g : Nat} {F : Nat → List UInt8} {S : List UInt8} {n at_ : Nat}
theorem WG.bel (h : WG B w b g F n at_) (hb : Below w.heap.size w w') : WG B w' b g F n at_ := by
  obtain ⟨cap, cur, ps, hk, hi, h1, h2⟩ := h
  exact ⟨cap, cur, ps, hk.bel hb, hi, h1, h2⟩
theorem WS.bel (h : WS B w b F n at_) (hb : Below w.heap.size w w') : WS B w' b F n at_ := by
  obtain ⟨g, h⟩ := h
  exact ⟨g, h.bel hb⟩
theorem WG.mv (h : WG B w b g F n at_) (hf : Fr w w' b g) (hB : B ≤ w.heap.size) : Mv B w w' := by
  obtain ⟨cap, cur, ps, hk, hi, h1, h2⟩ := h
  exact ⟨hf.below h1 h2 hB, fun t1 t2 hx => hx.fr hf (hx.ne_ hk.blk t1) (hx.ne_ hk.row t2)⟩
theorem WS.mono {B' : Nat} (h : WS B w b F n at_) (hB : B' ≤ B) : WS B' w b F n at_ := by
  obtain ⟨g, cap, cur, ps, hk, hi, h1, h2⟩ := h
  exact ⟨g, cap, cur, ps, hk, hi, by omega, by omega⟩
/-- New: a walker -/
theorem G_New (S : List UInt8) (hS : S.length = 32) (n : Nat) (h1 : 1 ≤ n) (h2 : n ≤ 1024) (w : World) (hB : B ≤ w.heap.size) :
    Calls Try.prog 29 #[.agg (cellsU8 S).toArray, .int .i64 (n : Int)] w fun e w' => ∃ b g, e = .returned (.tuple #[.pointer (some ⟨b, 0, none⟩), .int .i64 0]) ∧ WG B w' b g (chK S) n 0 ∧ Below w.heap.size w w' ∧ w.heap.size ≤ b ∧ w.heap.size ≤ g :=
  (PNew_good S hS n h1 h2 w).mono fun e w' ⟨b, g, cap, cur, he, hk, hb, hg, hbl⟩ => ⟨b, g, he, ⟨cap, cur, [n], hk, Inv.new n h1, by omega, by omega⟩, hbl, hb, hg⟩
theorem S_New (S : List UInt8) (hS : S.length = 32) (n : Nat) (h1 : 1 ≤ n) (h2 : n ≤ 1024) (w : World) (hB : B ≤ w.heap.size) :
    Calls Try.prog 29 #[.agg (cellsU8 S).toArray, .int .i64 (n : Int)] w fun e w' => ∃ b, e = .returned (.tuple #[.pointer (some ⟨b, 0, none⟩), .int .i64 0]) ∧ WS B w' b (chK S) n 0 ∧ Below w.heap.size w w' :=
  (G_New S hS n h1 h2 w hB).mono fun e w' ⟨b, g, he, hk, hbl, _, _⟩ => ⟨b, he, ⟨g, hk⟩, hbl⟩
theorem G_Next (h : WG B w b g (chK S) n at_) (h1 : 1 ≤ n) (h2 : n ≤ 1024) (ha : at_ ≤ n) (hB : B ≤ w.heap.size) :
    Calls Try.prog 34 #[.pointer (some ⟨b, 0, none⟩)] w fun e w' => ∃ g', e = .returned (.tuple #[.agg (cellsU8 (chK S (n - at_))).toArray, .int .i64 0]) ∧ WG B w' b g' (chK S) n (at_ + 1) ∧ Fr w w' b g ∧ (g' = g ∨ w.heap.size ≤ g') := by
  obtain ⟨cap, cur, ps, hk, hi, hb, hg⟩ := h
  refine (PNext_some hk hi h1 h2 ha).mono ?_
  rintro e w' ⟨g', cap', cur', ps', he, hk', hi', hf, hg'⟩
  exact ⟨g', he, ⟨cap', cur', ps', hk', hi', hb, by omega⟩, hf, hg'⟩
theorem S_Next (h : WS B w b (chK S) n at_) (h1 : 1 ≤ n) (h2 : n ≤ 1024) (ha : at_ ≤ n) (hB : B ≤ w.heap.size) :
    Calls Try.prog 34 #[.pointer (some ⟨b, 0, none⟩)] w fun e w' => e = .returned (.tuple #[.agg (cellsU8 (chK S (n - at_))).toArray, .int .i64 0]) ∧ WS B w' b (chK S) n (at_ + 1) ∧ Mv B w w' := by
  obtain ⟨g, h⟩ := h
  refine (G_Next h h1 h2 ha hB).mono ?_
  rintro e w' ⟨g', he, hk', hf, hg'⟩
  exact ⟨he, ⟨g', hk'⟩, h.mv hf hB⟩
theorem S_none (h : WS B w b F n at_) (ha : n < at_) (hB : B ≤ w.heap.size) :
    Calls Try.prog 34 #[.pointer (some ⟨b, 0, none⟩)] w fun e w' => e = .returned (.tuple #[.agg (cellsU8 zeroK).toArray, .int .i64 10]) ∧ WS B w' b F n at_ ∧ Below w.heap.size w w' := by
  have h0 := h
  obtain ⟨g, cap, cur, ps, hk, hi, hb, hg⟩ := h
  exact (PNext_none hk ha).mono fun e w' ⟨he, hbl⟩ => ⟨he, h0.bel hbl, hbl⟩
theorem S_At (h : WS B w b F n at_) : Calls Try.prog 30 #[.pointer (some ⟨b, 0, none⟩)] w fun e w' => e = .returned (.int .i64 (at_ : Int)) ∧ w = w' := by
  obtain ⟨g, cap, cur, ps, hk, hi, hb, hg⟩ := h
  exact PAt_any hk
theorem S_Minds (h : WS B w b F n at_) (hn : 1 ≤ n) : ∃ m : Nat, m ≤ mostN n ∧ (n < at_ → m = 0) ∧ ∀ w', Below w.heap.size w w' → Calls Try.prog 32 #[.pointer (some ⟨b, 0, none⟩)] w' fun e w'' => e = .returned (.int .i64 (m : Int)) ∧ w' = w'' := by
  obtain ⟨g, cap, cur, ps, hk, hi, hb, hg⟩ := h
  exact ⟨ps.length, hi.mostN hn, fun ha => by rw [hi.no ha]; rfl, fun w' hb => PMinds_any (hk.bel hb)⟩
theorem S_Left (h : WS B w b F n at_) (hn : n ≤ 1024) : Calls Try.prog 31 #[.pointer (some ⟨b, 0, none⟩)] w fun e w' => e = .returned (.int .i64 ((n : Int) + 1 - (at_ : Int))) ∧ Below w.heap.size w w' := by
  obtain ⟨g, cap, cur, ps, hk, hi, hb, hg⟩ := h
  exact PLeft_any hk hn hi.le
theorem S_Skip_bad {tw : Int} (h : WS B w b F n at_) (ht : tw < at_ ∨ (n : Int) < tw) :
    Calls Try.prog 36 #[.pointer (some ⟨b, 0, none⟩), .int .i64 tw] w fun e w' => e = .returned (.int .i64 1) ∧ w = w' := by
  obtain ⟨g, cap, cur, ps, hk, hi, hb, hg⟩ := h
  exact PSkip_bad hk ht
theorem S_Skip {tw : Nat} (hF : F32 F) (h : WS B w b F n at_) (hn1 : 1 ≤ n) (hn2 : n ≤ 1024) (h1 : at_ ≤ tw) (h2 : tw ≤ n) (hB : B ≤ w.heap.size) :
    Calls Try.prog 36 #[.pointer (some ⟨b, 0, none⟩), .int .i64 (tw : Int)] w fun e w' => e = .returned (.int .i64 0) ∧ WS B w' b F n tw ∧ Mv B w w' := by
  obtain ⟨g, cap, cur, ps, hk, hi, hb, hg⟩ := h
  refine (PSkip_good hF hk hi hn1 hn2 h1 h2).mono ?_
  rintro e w' ⟨cap', cur', ps', he, hk', hi', hf⟩
  exact ⟨he, ⟨g, cap', cur', ps', hk', hi', hb, hg⟩, WG.mv ⟨cap, cur, ps, hk, hi, hb, hg⟩ hf hB⟩
theorem WS.le (h : WS B w b F n at_) : at_ ≤ n + 1 := by
  obtain ⟨g, cap, cur, ps, hk, hi, hb, hg⟩ := h
  exact hi.le
set_option maxRecDepth 100000 in
theorem build_rw (K : List UInt8) (n : Int) (h : K.length = 32) (W : World) : (Instr.build 54 #[(0, .agg (cellsU8 K).toArray), (1, .int .i64 n)]).run Try.prog W = .ok (.agg (cellsU8 K ++ [Value.int .i64 n, Value.int .i64 0]).toArray) W := by
  obtain ⟨f, rfl⟩ := list32 K h
  exact run_build W 54 _ _ (by kernel_rfl)
/-- the reference's walker moves: the law's own walker stays -/
theorem WS.ref {r : Nat} {K : List UInt8} {m a : Nat} (h : WS B w b F n at_) (hr : RW w r K m a) (hg : w.grownBy w' (some r)) : WS B w' b F n at_ := by
  obtain ⟨g, cap, cur, ps, hk, hi, hb, h2⟩ := h
  have h3 : b ≠ r := hk.blk.ne_ hr (by decide)
  have h4 : g ≠ r := hk.row.ne_ hr (by decide)
  exact ⟨g, cap, cur, ps, hk.fr (Fr.of_b (b := r) (g := r) hg) h3 h3 h4 h4, hi, hb, h2⟩
end Go.Proofs.Ytfmfdhcmbnabpaa
