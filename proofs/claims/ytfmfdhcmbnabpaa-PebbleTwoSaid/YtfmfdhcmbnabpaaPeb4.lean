/- pebble: Skip. -/
import Derived.Test.YtfmfdhcmbnabpaaPeb3
namespace Go.Proofs.Ytfmfdhcmbnabpaa
open Go Go.RowKit
set_option linter.unusedVariables false
set_option linter.unusedSimpArgs false
attribute [local go_sem] bmax2 bmin2 bmax bmin cell_ext frozen_ext
variable {w : World} {b g cap : Nat} {cur : Array Value} {F : Nat → List UInt8} {n at_ : Nat} {ps : List Nat}

theorem Skp.len {n at_ to_ : Nat} {ps : List Nat} (h : Skp n at_ to_ ps) (ha : at_ ≤ n) (hn1 : 1 ≤ n) (hn : n ≤ 1024) : ps.length ≤ 12 := by
  have := Hv.len ps _ h.hv (by omega)
  have h2 : 2 ^ ps.length ≤ 4098 := Nat.le_trans this (by omega)
  rcases Nat.lt_or_ge 12 ps.length with h3 | h3
  · have : 2 ^ 13 ≤ 2 ^ ps.length := Nat.pow_le_pow_right (by decide) h3
    omega
  · exact h3
theorem Skp.ne {n at_ to_ : Nat} {ps : List Nat} (h : Skp n at_ to_ ps) : ps ≠ [] := by
  obtain ⟨r, rfl⟩ := h.hd; simp
/-- how long a walker's slice is: a loop's measure -/
def lenAt (w : World) (b : Nat) : Nat :=
  match w.cell? ⟨b, 2, none⟩ with
  | some (.slice _ n _) => n
  | _ => 0
theorem Wk.lenAt (h : Wk w b g cap cur F n at_ ps) : lenAt w b = ps.length := by
  unfold Proofs.Ytfmfdhcmbnabpaa.lenAt
  rw [h.cells.2.2.1]

set_option maxHeartbeats 1000000 in
set_option maxRecDepth 100000 in
theorem PSkip_bad {tw : Int} (h : Wk w b g cap cur F n at_ ps) (ht : tw < at_ ∨ (n : Int) < tw) :
    Calls Try.prog 36 #[.pointer (some ⟨b, 0, none⟩), .int .i64 tw] w fun e w' => e = .returned (.int .i64 1) ∧ w = w' := by
  obtain ⟨c0, c1, c2, hl⟩ := h.cells
  have HH := kp h
  clear h
  rcases Decidable.em (tw < (at_ : Int)) with h1 | h1
  · have g1 : decide (tw < (at_ : Int)) = true := decide_eq_true h1
    go_enter Try.func36, Try.ntmps36
    go_wp2
    go_ret
    exact ⟨rfl, rfl⟩
  · have h2 : (n : Int) < tw := ht.resolve_left h1
    have g1 : decide (tw < (at_ : Int)) = false := decide_eq_false h1
    have g2 : decide ((n : Int) < tw) = true := decide_eq_true h2
    go_enter Try.func36, Try.ntmps36
    go_wp2
    go_ret
    exact ⟨rfl, rfl⟩
/-- Skip's end -/
def PSkipEnd (w : World) (b g : Nat) (F : Nat → List UInt8) (n tw : Nat) (e : Ending) (w' : World) : Prop := ∃ cap' cur' ps', e = .returned (.int .i64 0) ∧ Wk w' b g cap' cur' F n tw ps' ∧ Inv n tw ps' ∧ Fr w w' b g
set_option maxHeartbeats 2000000 in
set_option maxRecDepth 100000 in
theorem PSkip_good {tw : Nat} (hF : F32 F) (h : Wk w b g cap cur F n at_ ps) (hi : Inv n at_ ps) (hn1 : 1 ≤ n) (hn2 : n ≤ 1024) (h1 : at_ ≤ tw) (h2 : tw ≤ n) :
    Calls Try.prog 36 #[.pointer (some ⟨b, 0, none⟩), .int .i64 (tw : Int)] w (PSkipEnd w b g F n tw) := by
  obtain ⟨c0, c1, c2, hl⟩ := h.cells
  have HF := kp hF
  have HW : Kp (∃ cap1 cur1 ps1, Wk w b g cap1 cur1 F n at_ ps1 ∧ Skp n at_ tw ps1) := kp ⟨cap, cur, ps, h, Skp.of hi (by omega)⟩
  have HFr : Kp (Fr w w b g) := kp (Fr.of_bel (Below.refl _ _))
  have HLB := kp hl
  clear h hi hF
  have g1 : decide ((tw : Int) < (at_ : Int)) = false := decide_eq_false (by omega)
  have g2 : decide ((n : Int) < (tw : Int)) = false := decide_eq_false (by omega)
  have g1n : decide (tw < at_) = false := decide_eq_false (by omega)
  have g2n : decide (n < tw) = false := decide_eq_false (by omega)
  go_enter Try.func36, Try.ntmps36
  go_wp2
  clear c0 c1 c2 hl
  go_loopw [] (fun wr => Kp (Fr w wr b g) ∧ Kp (∃ cap1 cur1 ps1, Wk wr b g cap1 cur1 F n at_ ps1 ∧ Skp n at_ tw ps1)) (fun wr => lenAt wr b)
  case atStart => exact ⟨HFr, HW⟩
  case round =>
    clear HFr HW
    obtain ⟨HFr, HW⟩ := hrel
    obtain ⟨cap1, cur1, ps1, hk, hs⟩ := HW.out
    obtain ⟨qs, p, rfl⟩ := snoc_of hs.ne
    have hlen := hs.len (by omega) hn1 hn2
    rw [List.length_append, List.length_singleton] at hlen
    have HK := kp hk
    have HS := kp hs
    have HMS := kp hk.lenAt
    have HKL := kp (HF.out (n - p))
    have cL : Kp (∀ W', Wk W' b g cap1 cur1 F n at_ (qs ++ [p]) → Calls Try.prog 46 #[.pointer (some ⟨b, 0, none⟩)] W' fun e w'' => e = .returned (.agg (stoneL F n p).toArray) ∧ Below W'.heap.size W' w'') := kp (fun W' h => Plast_any HF.out h (by omega))
    have HST : Kp (stoneL F n p = .int .i64 (p : Int) :: cellsU8 (F (n - p))) := kp rfl
    obtain ⟨SL, hSL⟩ : ∃ SL, stoneL F n p = SL := ⟨_, rfl⟩
    rw [hSL] at cL HST
    have cL1 := cL.out _ hk
    clear hk hs hSL HW
    have g3 : decide ((p : Int) < (tw : Int)) = decide (p < tw) := by
      by_cases h : p < tw
      · rw [decide_eq_true h, decide_eq_true (by omega)]
      · rw [decide_eq_false h, decide_eq_false (by omega)]
    by_cases hlt : p < tw
    · have i3 : (p : Int) < (tw : Int) := by omega
      have g3 : decide ((p : Int) < (tw : Int)) = true := decide_eq_true i3
      go_wp2_with fail
      refine cL1.mono ?_
      rintro e w3 ⟨rfl, hb3⟩
      have HK := kp (HK.out.bel hb3)
      have HFr := kp (HFr.out.trans (Fr.of_bel (b := b) (g := g) hb3) (Or.inl rfl))
      go_wp2_with (refine wpL_val 21 rfl rfl (.int .i64 (p : Int)) (exec_field rfl rfl (by rw [HST.out]; exact field_stone0 _ (p : Int) HKL.out _)) ?_)
      refine (Pdrop_any HF.out HK.out (by omega)).mono ?_
      rintro e w5 ⟨⟨u, rfl⟩, hk5, hg5⟩
      have HFr := kp (HFr.out.trans (Fr.of_b (b := b) (g := g) hg5) (Or.inl rfl))
      have HK5 := kp hk5
      have HS5 := kp (HS.out.drop hlt h2)
      clear hk5 hg5
      go_wp2
      go_roundw
      case measure =>
        rw [HMS.out, HK5.out.lenAt, List.length_append, List.length_singleton]
        omega
      case rel => exact ⟨HFr, kp ⟨_, _, _, HK5.out, HS5.out⟩⟩
    · have i3 : ¬ (p : Int) < (tw : Int) := by omega
      have g3 : decide ((p : Int) < (tw : Int)) = false := decide_eq_false i3
      go_wp2_with fail
      refine cL1.mono ?_
      rintro e w3 ⟨rfl, hb3⟩
      have HK := kp (HK.out.bel hb3)
      have HFr := kp (HFr.out.trans (Fr.of_bel (b := b) (g := g) hb3) (Or.inl rfl))
      have hs1 := HK.out.blk.set_ 1 (.int .i64 (tw : Int))
      have HFr := kp (HFr.out.trans (Fr.of_b (g := g) (gbset w3 b 1 (.int .i64 (tw : Int)))) (Or.inl rfl))
      have HK6 : Kp (Wk (w3.setCell ⟨b, 1, none⟩ (.int .i64 (tw : Int))) b g cap1 cur1 F n tw (qs ++ [p])) := kp
        ⟨hs1, HK.out.row.far (fun e => HK.out.ne e.symm) _, HK.out.ne, HK.out.le, HK.out.cap_le, HK.out.fit, HK.out.take⟩
      obtain ⟨c0, c1, c2, hlb⟩ := HK.out.cells
      have f1 := HK.out.blk.frozen 1
      have HI := kp (HS.out.done h1 (by omega) h2)
      clear hs1 hb3 HK
      go_wp2_with (refine wpL_val 21 rfl rfl (.int .i64 (p : Int)) (exec_field rfl rfl (by rw [HST.out]; exact field_stone0 _ (p : Int) HKL.out _)) ?_)
      go_ret
      exact ⟨_, _, _, rfl, HK6.out, HI.out, HFr.out⟩
end Go.Proofs.Ytfmfdhcmbnabpaa
