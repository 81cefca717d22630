/- pebble: two walkers; a region of plain operations whose order is drawn. -/
import Derived.Test.YtfmfdhcmbnabpaaPeb6
namespace Go.Proofs.Ytfmfdhcmbnabpaa
open Go Go.RowKit
set_option linter.unusedVariables false
set_option linter.unusedSimpArgs false

/-- a drawing region, whose plain operations p are taken first -/
theorem wp_region_extQ {P : Program} {id : Nat} {Q : Exit → Act → World → Prop} {a : Act} {w : World} {l : List Oper} (p h t : List Nat) (hm : P.follows .mixedOrders = true) (hB : Region.planB .any l.toArray p h t = true)
    (H : wpQuiet P l.toArray (fun _ => True) (fun a1 => wpQuiet P l.toArray (fun w' => ∃ x, w' = w.ext x) (fun a2 => ∀ x, wpList P l.toArray Q (t.map (l.getD · default)) a2 (w.ext x)) (h.map (l.getD · default)) a1) (p.map (l.getD · default)) a)
    (hQ : ∀ c (a : Act) d v w, Q (.panic c) (a.put d v) w → Q (.panic c) a w := by intro c a d v w h; cases d <;> exact h) :
    (Code.region id l.toArray true).wp P Q a w :=
  wp_region_plan_lit p h t hm hB hQ ⟨w.drew, (ext_of (Below.refl _ _).drew).symm⟩ (wpQuiet_mono (fun a1 h1 => wpQuiet_mono (fun a2 h2 w' hw => by obtain ⟨x, rfl⟩ := hw; exact h2 x) _ _ h1) _ _ H)

/-- two walkers, apart -/
def W2 (B : Nat) (w : World) (b c : Nat) (F : Nat → List UInt8) (n i j : Nat) : Prop := ∃ g h, WG B w b g F n i ∧ WG B w c h F n j ∧ b ≠ c ∧ g ≠ h
variable {B : Nat} {w w' : World} {b c g k : Nat} {F : Nat → List UInt8} {S : List UInt8} {n i j : Nat}
theorem W2.bel (h : W2 B w b c F n i j) (hb : Below w.heap.size w w') : W2 B w' b c F n i j := by
  obtain ⟨g, k, h1, h2, h3, h4⟩ := h
  exact ⟨g, k, h1.bel hb, h2.bel hb, h3, h4⟩
theorem W2.symm (h : W2 B w b c F n i j) : W2 B w c b F n j i := by
  obtain ⟨g, k, h1, h2, h3, h4⟩ := h
  exact ⟨k, g, h2, h1, h3.symm, h4.symm⟩
theorem W2.fst (h : W2 B w b c F n i j) : WS B w b F n i := by
  obtain ⟨g, k, h1, h2, h3, h4⟩ := h
  exact ⟨g, h1⟩
theorem W2.snd (h : W2 B w b c F n i j) : WS B w c F n j := h.symm.fst
theorem WG.lt (h : WG B w b g F n i) : b < w.heap.size ∧ g < w.heap.size := by
  obtain ⟨cap, cur, ps, hk, hi, h1, h2⟩ := h
  exact ⟨hk.blk.lt, hk.row.lt⟩
/-- one walker moves: another one, apart, stays -/
theorem WG.stays (h : WG B w c k F n j) (h1 : WG B w b g F n i) (hf : Fr w w' b g) (hbc : b ≠ c) (hgk : g ≠ k) : WG B w' c k F n j := by
  obtain ⟨cap, cur, ps, hk, hi, h2, h3⟩ := h
  obtain ⟨cap', cur', ps', hk', _, _, _⟩ := h1
  exact ⟨cap, cur, ps, hk.fr hf hbc.symm (hk.blk.ne_ hk'.row (by decide)) (hk.row.ne_ hk'.blk (by decide)) hgk.symm, hi, h2, h3⟩
theorem W2_New (S : List UInt8) (hS : S.length = 32) (n : Nat) (h1 : 1 ≤ n) (h2 : n ≤ 1024) (w : World) (hB : B ≤ w.heap.size) (hw : WS B w b (chK S) n i) :
    Calls Try.prog 29 #[.agg (cellsU8 S).toArray, .int .i64 (n : Int)] w fun e w' => ∃ c, e = .returned (.tuple #[.pointer (some ⟨c, 0, none⟩), .int .i64 0]) ∧ W2 B w' b c (chK S) n i 0 ∧ Below w.heap.size w w' := by
  obtain ⟨g, hw⟩ := hw
  refine (G_New S hS n h1 h2 w hB).mono ?_
  rintro e w' ⟨c, k, he, hk, hbl, hc, hk2⟩
  have := hw.lt
  exact ⟨c, he, ⟨g, k, hw.bel hbl, hk, by omega, by omega⟩, hbl⟩
theorem W2_Next (h : W2 B w b c (chK S) n i j) (h1 : 1 ≤ n) (h2 : n ≤ 1024) (ha : i ≤ n) (hB : B ≤ w.heap.size) :
    Calls Try.prog 34 #[.pointer (some ⟨b, 0, none⟩)] w fun e w' => e = .returned (.tuple #[.agg (cellsU8 (chK S (n - i))).toArray, .int .i64 0]) ∧ W2 B w' b c (chK S) n (i + 1) j ∧ Mv B w w' := by
  obtain ⟨g, k, hw, hv, hbc, hgk⟩ := h
  refine (G_Next hw h1 h2 ha hB).mono ?_
  rintro e w' ⟨g', he, hk', hf, hg'⟩
  refine ⟨he, ⟨g', k, hk', hv.stays hw hf hbc hgk, hbc, ?_⟩, hw.mv hf hB⟩
  have := hv.lt
  omega
theorem W2_none (h : W2 B w b c F n i j) (ha : n < i) (hB : B ≤ w.heap.size) :
    Calls Try.prog 34 #[.pointer (some ⟨b, 0, none⟩)] w fun e w' => e = .returned (.tuple #[.agg (cellsU8 zeroK).toArray, .int .i64 10]) ∧ W2 B w' b c F n i j ∧ Below w.heap.size w w' :=
  (S_none h.fst ha hB).mono fun e w' ⟨he, _, hbl⟩ => ⟨he, h.bel hbl, hbl⟩
theorem W2_Skip {tw : Nat} (hF : F32 F) (h : W2 B w b c F n i j) (hn1 : 1 ≤ n) (hn2 : n ≤ 1024) (h1 : i ≤ tw) (h2 : tw ≤ n) (hB : B ≤ w.heap.size) :
    Calls Try.prog 36 #[.pointer (some ⟨b, 0, none⟩), .int .i64 (tw : Int)] w fun e w' => e = .returned (.int .i64 0) ∧ W2 B w' b c F n tw j ∧ Mv B w w' := by
  obtain ⟨g, k, hw, hv, hbc, hgk⟩ := h
  have hw' := hw
  obtain ⟨cap, cur, ps, hk, hi, hb, hg⟩ := hw
  refine (PSkip_good hF hk hi hn1 hn2 h1 h2).mono ?_
  rintro e w' ⟨cap', cur', ps', he, hk', hi', hf⟩
  exact ⟨he, ⟨g, k, ⟨cap', cur', ps', hk', hi', hb, hg⟩, hv.stays hw' hf hbc hgk, hbc, hgk⟩, hw'.mv hf hB⟩
end Go.Proofs.Ytfmfdhcmbnabpaa
