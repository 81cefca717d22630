/- the reference of layer 9. -/
import Derived.Test.YtfmfdhcmbnabpaaPeb4
import Derived.Test.YtfmfdhcmbnabpaaRChn
import Derived.Test.YtfmfdhcmbnabpaaRegE
namespace Go.Proofs.Ytfmfdhcmbnabpaa
open Go Go.RowKit
set_option linter.unusedVariables false
set_option linter.unusedSimpArgs false
attribute [local go_sem] bmax2 bmin2 bmax bmin cell_ext frozen_ext

/-- the least b with n < 2^b, and 2 -/
def mostN (n : Nat) : Nat := n.log2 + 3
theorem Inv.mostN {n at_ : Nat} {ps : List Nat} (h : Inv n at_ ps) (hn : 1 ≤ n) : ps.length ≤ mostN n := by
  have := h.most (b := n.log2 + 1) hn Nat.lt_log2_self
  unfold Proofs.Ytfmfdhcmbnabpaa.mostN
  omega
set_option maxHeartbeats 1000000 in
theorem R_Most (n : Nat) (h1 : 1 ≤ n) (h2 : n ≤ 1024) (w : World) :
    Calls Try.prog 33 #[.int .i64 (n : Int)] w fun e w' => e = .returned (.int .i64 (mostN n : Int)) ∧ w = w' := by
  have HL : Kp (∀ j, 2 ^ j < n + 1 ↔ j < n.log2 + 1) := kp (fun j => by
    constructor
    · intro h
      rcases Nat.lt_or_ge j (n.log2 + 1) with h3 | h3
      · exact h3
      · have h4 : n < 2 ^ (n.log2 + 1) := Nat.lt_log2_self
        have h5 : 2 ^ (n.log2 + 1) ≤ 2 ^ j := Nat.pow_le_pow_right (by decide) h3
        omega
    · intro h
      have h4 : 2 ^ n.log2 ≤ n := Nat.log2_self_le (by omega)
      have h5 : 2 ^ j ≤ 2 ^ n.log2 := Nat.pow_le_pow_right (by decide) (by omega)
      omega)
  have HM : Kp (mostN n = n.log2 + 1 + 2) := kp rfl
  have hl : n.log2 + 1 ≤ 11 := by
    rcases Nat.lt_or_ge 11 (n.log2 + 1) with h3 | h3
    · have h4 : 2 ^ n.log2 ≤ n := Nat.log2_self_le (by omega)
      have h5 : 2 ^ 11 ≤ 2 ^ n.log2 := Nat.pow_le_pow_right (by decide) (by omega)
      omega
    · exact h3
  generalize mostN n = M at HM ⊢
  generalize n.log2 + 1 = L at *
  have hn : (n : Int) ≤ 1024 := by omega
  go_enter Try.func33, Try.ntmps33
  go_wp2
  go_loopw [3, 4] (fun b p wr => ∃ j q : Nat, j ≤ L ∧ b = .int .i64 (j : Int) ∧ p = .int .i64 (q : Int) ∧ Kp (2 ^ j = q) ∧ wr = w) (fun b _ _ => L - (intOf b).toNat)
  case atStart => exact ⟨0, 1, Nat.zero_le _, rfl, rfl, kp rfl, rfl⟩
  case round =>
    obtain ⟨j, q, hj, rfl, rfl, HQ, rfl⟩ := hrel
    have hq := HL.out j
    rw [HQ.out] at hq
    have w1 : IntKind.i64.wrap ((n : Int) + 1) = (n : Int) + 1 := IntWalk.i64_in _ (by omega)
    by_cases hlt : j < L
    · have hqn := hq.2 hlt
      have i1 : (q : Int) < (n : Int) + 1 := by omega
      have g1 : decide ((q : Int) < (n : Int) + 1) = true := decide_eq_true i1
      have w2 : IntKind.i64.wrap ((q : Int) * 2) = (q : Int) * 2 := IntWalk.i64_in _ (by omega)
      have w3 : IntKind.i64.wrap ((j : Int) + 1) = (j : Int) + 1 := IntWalk.i64_in _ (by omega)
      clear hq
      go_wp2
      go_roundw
      case measure => simp [intOf]; omega
      case rel => exact ⟨j + 1, q * 2, by omega, by congr 1, by congr 1, kp (by rw [Nat.pow_succ, HQ.out]), by first | trivial | rfl⟩
    · have hqn : ¬ q < n + 1 := fun h => hlt (hq.1 h)
      have i1 : ¬ (q : Int) < (n : Int) + 1 := by omega
      have g1 : decide ((q : Int) < (n : Int) + 1) = false := decide_eq_false i1
      have w3 : IntKind.i64.wrap ((j : Int) + 2) = (j : Int) + 2 := IntWalk.i64_in _ (by omega)
      have hjL : j = L := by omega
      clear hq
      go_wp2
      go_ret
      exact ⟨by rw [HM.out, ← hjL]; congr 1, rfl⟩

/-- a walker of the reference -/
def rwL (K : List UInt8) (n at_ : Nat) : List Value := cellsU8 K ++ [.int .i64 (n : Int), .int .i64 (at_ : Int)]
def RW (w : World) (b : Nat) (K : List UInt8) (n at_ : Nat) : Prop := Blk w b 54 (rwL K n at_).toArray
theorem rwL_length {K : List UInt8} (hK : K.length = 32) (n at_ : Nat) : (rwL K n at_).length = 34 := by simp [rwL, length_cellsU8, hK]
theorem RW.cells {w : World} {b : Nat} {K : List UInt8} {n at_ : Nat} (hK : K.length = 32) (h : RW w b K n at_) :
    w.cell? ⟨b, 32, none⟩ = some (.int .i64 (n : Int)) ∧ w.cell? ⟨b, 33, none⟩ = some (.int .i64 (at_ : Int)) ∧ b < w.heap.size := by
  refine ⟨Blk.atL h ?_, Blk.atL h ?_, Blk.lt h⟩ <;> simp [rwL, List.getElem?_append, length_cellsU8, hK]
theorem RW.seed {w : World} {b : Nat} {K : List UInt8} {n at_ : Nat} (h : RW w b K n at_) (j : Nat) (v : Value) (hv : (cellsU8 K)[j]? = some v) : w.cell? ⟨b, 0 + j, none⟩ = some v := by
  rw [Nat.zero_add]
  refine Blk.atL h ?_
  rw [rwL, List.getElem?_append_left (List.getElem?_eq_some_iff.1 hv).1]
  exact hv
theorem RW.bel {w w' : World} {b : Nat} {K : List UInt8} {n at_ : Nat} (h : RW w b K n at_) (hb : Below w.heap.size w w') : RW w' b K n at_ := Blk.bel h hb
theorem RW.to {w : World} {b : Nat} {K : List UInt8} {n at_ : Nat} (hK : K.length = 32) (h : RW w b K n at_) (m : Nat) : RW (w.setCell ⟨b, 33, none⟩ (.int .i64 (m : Int))) b K n m := by
  have := Blk.setL h 33 (.int .i64 (m : Int))
  have e : (rwL K n at_).set 33 (.int .i64 (m : Int)) = rwL K n m := by
    unfold rwL
    rw [List.set_append_right _ _ (by rw [length_cellsU8, hK]; decide), length_cellsU8, hK]
    rfl
  rw [e] at this
  exact this
set_option maxHeartbeats 1000000 in
set_option maxRecDepth 100000 in
theorem RSkip_bad {w : World} {b : Nat} {K : List UInt8} {n at_ : Nat} {tw : Int} (hK : K.length = 32) (h : RW w b K n at_) (ht : tw < at_ ∨ (n : Int) < tw) :
    Calls Try.prog 37 #[.pointer (some ⟨b, 0, none⟩), .int .i64 tw] w fun e w' => e = .returned (.int .i64 1) ∧ w = w' := by
  obtain ⟨c0, c1, hl⟩ := h.cells hK
  have HH := kp h
  clear h
  rcases Decidable.em (tw < (at_ : Int)) with h1 | h1
  · have g1 : decide (tw < (at_ : Int)) = true := decide_eq_true h1
    go_enter Try.func37, Try.ntmps37
    go_wp2
    go_ret
    exact ⟨rfl, rfl⟩
  · have h2 : (n : Int) < tw := ht.resolve_left h1
    have g1 : decide (tw < (at_ : Int)) = false := decide_eq_false h1
    have g2 : decide ((n : Int) < tw) = true := decide_eq_true h2
    go_enter Try.func37, Try.ntmps37
    go_wp2
    go_ret
    exact ⟨rfl, rfl⟩
set_option maxHeartbeats 1000000 in
set_option maxRecDepth 100000 in
theorem RSkip_good {w : World} {b : Nat} {K : List UInt8} {n at_ tw : Nat} (hK : K.length = 32) (h : RW w b K n at_) (h1 : at_ ≤ tw) (h2 : tw ≤ n) :
    Calls Try.prog 37 #[.pointer (some ⟨b, 0, none⟩), .int .i64 (tw : Int)] w fun e w' => e = .returned (.int .i64 0) ∧ RW w' b K n tw ∧ w.grownBy w' (some b) := by
  obtain ⟨c0, c1, hl⟩ := h.cells hK
  have HN := kp (h.to hK tw)
  have HG := kp (gbset w b 33 (.int .i64 (tw : Int)))
  have f1 := Blk.frozen h 33
  clear h
  have g1 : decide ((tw : Int) < (at_ : Int)) = false := decide_eq_false (by omega)
  have g2 : decide ((n : Int) < (tw : Int)) = false := decide_eq_false (by omega)
  have g1n : decide (tw < at_) = false := decide_eq_false (by omega)
  have g2n : decide (n < tw) = false := decide_eq_false (by omega)
  go_enter Try.func37, Try.ntmps37
  go_wp2
  go_ret
  exact ⟨rfl, HN.out, HG.out⟩
set_option maxHeartbeats 1000000 in
set_option maxRecDepth 100000 in
theorem RNext_none {w : World} {b : Nat} {S : List UInt8} {n at_ : Nat} (hS : S.length = 32) (h : RW w b S n at_) (ha : n < at_) :
    Calls Try.prog 35 #[.pointer (some ⟨b, 0, none⟩)] w fun e w' => e = .returned (.tuple #[.agg (cellsU8 zeroK).toArray, .int .i64 10]) ∧ Below w.heap.size w w' := by
  have H0 := kp h
  have HSL := kp hS
  have HN := kp (Blk.new w 23 (cellsU8 (List.replicate 32 0)).toArray)
  have HB := kp (ba (Below.refl w.heap.size w) (.cells (cellsU8 (List.replicate 32 0)).toArray 23))
  clear h hS
  have ia : (n : Int) < (at_ : Int) := by omega
  have ig : decide ((n : Int) < (at_ : Int)) = true := decide_eq_true ia
  obtain ⟨Z, hZ⟩ : ∃ Z : List UInt8, List.replicate 32 0 = Z := ⟨_, rfl⟩
  have HZL : Kp (Z.length = 32) := kp (by rw [← hZ]; rfl)
  have HZZ := kp (show cellsU8 zeroK = cellsU8 Z by rw [← hZ]; rfl)
  rw [HZZ.out]
  go_enter Try.func35, Try.ntmps35
  go_upto_region 1 with (fail)
  change Code.wp _ _ _ _ (w.alloc (.cells (cellsU8 (List.replicate 32 0)).toArray 23))
  rw [hZ] at HN HB ⊢
  clear hZ
  have HK := kp (H0.out.bel HB.out)
  generalize w.alloc (.cells (cellsU8 Z).toArray 23) = W at HN HB HK ⊢
  obtain ⟨c0, c1, hlb⟩ := HK.out.cells HSL.out
  refine wp_region_ext [0, 1, 2, 3, 4, 5, 6, 7] [8] (by kernel_rfl) (by kernel_rfl) ?_
  simp only [List.map_cons, List.map_nil, List.getD_cons_succ, List.getD_cons_zero]
  repeat (go_big_quiet_step (fail))
  refine wpQuiet_nil ?_
  rintro z
  have HN := kp (HN.out.bel (ext_below W z))
  have HB := kp (bt' HB.out (ext_below W z) HB.out.size)
  clear c0 c1 hlb HK
  generalize W.ext z = V at HN HB ⊢
  have hzl : (cellsU8 Z).length = 32 := by rw [length_cellsU8]; exact HZL.out
  have SC := sc_all (P := Try.prog) (w := V) w.heap.size 23 (cellsU8 Z) _ HN.out rfl (cellsU8_one _)
  have HRES := kp (HN.out.row (cellsU8 Z).toArray)
  have HBE := kp (bsr HB.out (b := w.heap.size) (Nat.le_refl _) HB.out.size (cellsU8 Z).toArray)
  go_wp2_with (refine wpL_val 15 rfl rfl (.agg (cellsU8 Z).toArray) (by rw [← HZZ.out]; kernel_rfl) ?_)
  refine bodyPost_ret (v := .tuple #[.agg (cellsU8 Z).toArray, .int .i64 10]) ?_ rfl ⟨rfl, HBE.out⟩
  exact res2 Try.results35 w.heap.size 32 _ (cellsU8 Z) _ Try.underlying23 rfl info_key hzl HRES.out _ rfl _ rfl
set_option maxHeartbeats 2000000 in
set_option maxRecDepth 100000 in
theorem RNext_some {w : World} {b : Nat} {S : List UInt8} {n at_ : Nat} (hS : S.length = 32) (h : RW w b S n at_) (h1 : 1 ≤ n) (h2 : n ≤ 1024) (ha : at_ ≤ n) :
    Calls Try.prog 35 #[.pointer (some ⟨b, 0, none⟩)] w fun e w' => e = .returned (.tuple #[.agg (cellsU8 (chK S (n - at_))).toArray, .int .i64 0]) ∧ RW w' b S n (at_ + 1) ∧ w.grownBy w' (some b) := by
  have HKEY : Kp (∀ w', Calls Try.prog 17 #[.agg (cellsU8 S).toArray, .int .i64 (n : Int), .int .i64 (at_ : Int)] w' fun e w'' => e = .returned (.tuple #[.agg (cellsU8 (chK S (n - at_))).toArray, .int .i64 0]) ∧ Below w'.heap.size w' w'') :=
    kp (fun w' => R_Key_good S hS (n : Int) (at_ : Int) (n - at_) (by omega) (by omega) (by omega) (by omega) (by omega) w')
  have HEL := kp (chK_length S (n - at_))
  generalize chK S (n - at_) = E at *
  have H0 := kp h
  have HSL := kp hS
  have hbl := kp (Blk.lt h)
  have HN := kp (Blk.new w 23 (cellsU8 (List.replicate 32 0)).toArray)
  have HB := kp (ba (Below.refl w.heap.size w) (.cells (cellsU8 (List.replicate 32 0)).toArray 23))
  clear h hS
  have ia : ¬ (n : Int) < (at_ : Int) := by omega
  have ig : decide ((n : Int) < (at_ : Int)) = false := decide_eq_false ia
  have i3 : (at_ : Int) ≤ 1024 := by omega
  obtain ⟨Z, hZ⟩ : ∃ Z : List UInt8, List.replicate 32 0 = Z := ⟨_, rfl⟩
  have HZL : Kp (Z.length = 32) := kp (by rw [← hZ]; rfl)
  have HZR := kp hZ
  go_enter Try.func35, Try.ntmps35
  go_upto_region 1 with (fail)
  change Code.wp _ _ _ _ (w.alloc (.cells (cellsU8 (List.replicate 32 0)).toArray 23))
  rw [hZ] at HN HB ⊢
  clear hZ
  have HK := kp (H0.out.bel HB.out)
  generalize w.alloc (.cells (cellsU8 Z).toArray 23) = W at HN HB HK ⊢
  obtain ⟨c0, c1, hlb⟩ := HK.out.cells HSL.out
  refine wp_region_ext [0, 1, 2, 3, 4, 5, 6, 7] [8] (by kernel_rfl) (by kernel_rfl) ?_
  simp only [List.map_cons, List.map_nil, List.getD_cons_succ, List.getD_cons_zero]
  repeat (go_big_quiet_step (fail))
  refine wpQuiet_nil ?_
  rintro z
  have HN := kp (HN.out.bel (ext_below W z))
  have HB := kp (bt' HB.out (ext_below W z) HB.out.size)
  have HK := kp (HK.out.bel (ext_below W z))
  clear c0 c1 hlb
  generalize W.ext z = V at HN HB HK ⊢
  go_upto_region 3 with (fail)
  refine wp_region_earlyE [15] [0, 1, 2, 3, 4, 5, 6, 7, 8, 9, 10, 11, 12, 13, 14, 15] [16] [17, 18] 40 (fun _ => VA V.heap.size 23 (cellsU8 Z).toArray) (· ≠ ·) (by kernel_rfl) (by kernel_rfl) rfl (fun i v W W' h hb => h.mono hb) ?_
  apply Exists.intro
  refine ⟨fun X hX => ?_, ?_, ?_⟩
  · have HX := HK.out.bel hX
    obtain ⟨c0, c1, hlb⟩ := HX.cells HSL.out
    have LQ := kp (fun x => ld_row (P := Try.prog) (w := X.ext x) b 0 32 23 (cellsU8 S) _ Try.underlying23 rfl info_key (key_cells S HSL.out) (fun j v hv => (HX.bel (ext_below X x)).seed j v hv))
    simp only [List.map_cons, List.map_nil, List.getD_cons_succ, List.getD_cons_zero]
    repeat (first
      | (go_big_quiet_want; refine quiet_load _ rfl 23 _ rfl rfl (fun w hw => by obtain ⟨x, rfl⟩ := hw; exact LQ.out x) ?_; go_simp; go_big_quiet_on)
      | go_big_quiet_step ((go_at_call 17; with_reducible exact Calls.ext_of (HKEY.out _))))
    exact wpQuiet_nil rfl
  · exact ⟨mk_alloc rfl (fun W => by rw [← HZR.out]; kernel_rfl) (fun j u W h => h.ne), trivial⟩
  · intro ev _
    simp only [List.map_cons, List.map_nil, List.getD_cons_succ, List.getD_cons_zero, TailX]
    rintro X hX ⟨_, bn, rfl, hbn, hkn⟩
    have HNV := HN
    have HN := kp (HN.out.bel hX)
    have HB := kp (bt' HB.out hX HB.out.size)
    have HK := kp (HK.out.bel hX)
    have hlt : w.heap.size < bn := Nat.lt_of_lt_of_le HNV.out.lt hbn
    have hne : b ≠ bn := by have := hbl.out; omega
    have hne0 : b ≠ w.heap.size := by have := hbl.out; omega
    have hcl := key_cells E HEL.out
    have hzl := key_cells Z HZL.out
    have SC1 := sc_all (P := Try.prog) (w := X) bn 23 (cellsU8 E) _ hkn (by rw [hcl, hzl]) (cellsU8_one _)
    have HB1 := kp (bsr HB.out (b := bn) (Nat.le_of_lt hlt) HB.out.size (cellsU8 E).toArray)
    have H4 := kp (hkn.row (cellsU8 E).toArray)
    have HN1 := kp (HN.out.rowfar (b := bn) (by omega) (cellsU8 E).toArray)
    have HK1 : Kp (RW (X.setRow bn (cellsU8 E).toArray) b S n at_) := kp (Blk.rowfar HK.out hne _)
    clear hkn
    go_upto_region 4 with (fail)
    clear SC1
    generalize X.setRow bn (cellsU8 E).toArray = Y at HB1 H4 HN1 HK1 ⊢
    obtain ⟨c0, c1, hlb⟩ := HK1.out.cells HSL.out
    have f1 := Blk.frozen HK1.out 33
    have e1 : IntKind.i64.wrap ((at_ : Int) + 1) = (at_ : Int) + 1 := IntWalk.i64_in _ (by omega)
    have hK2 : RW (Y.setCell ⟨b, 33, none⟩ (.int .i64 ((at_ : Int) + 1))) b S n (at_ + 1) := by
      have := HK1.out.to HSL.out (at_ + 1)
      rw [Int.natCast_succ] at this
      exact this
    have H42 := H4.out.far (p := ⟨b, 33, none⟩) (fun e => hne e.symm) (.int .i64 ((at_ : Int) + 1))
    have HN2 := HN1.out.far (p := ⟨b, 33, none⟩) (fun e => hne0 e.symm) (.int .i64 ((at_ : Int) + 1))
    have L4 := ldK E HEL.out H42
    have SC := sc_all (P := Try.prog) w.heap.size 23 (cellsU8 E) _ HN2 (by rw [hcl, hzl]) (cellsU8_one _)
    have HRES := kp (HN2.row (cellsU8 E).toArray)
    have HKE : Kp (RW ((Y.setCell ⟨b, 33, none⟩ (.int .i64 ((at_ : Int) + 1))).setRow w.heap.size (cellsU8 E).toArray) b S n (at_ + 1)) := kp (Blk.rowfar hK2 hne0 _)
    have HG : Kp (w.grownBy ((Y.setCell ⟨b, 33, none⟩ (.int .i64 ((at_ : Int) + 1))).setRow w.heap.size (cellsU8 E).toArray) (some b)) := kp (by
      have g1 := gbset Y b 33 (.int .i64 ((at_ : Int) + 1))
      have g2 := gbrow (Y.setCell ⟨b, 33, none⟩ (.int .i64 ((at_ : Int) + 1))) w.heap.size (cellsU8 E).toArray
      have h := HB1.out
      exact ⟨(g2.os.trans g1.os).trans h.os, (g2.tape.trans g1.tape).trans h.tape, (g2.output.trans g1.output).trans h.output, Nat.le_trans h.size (Nat.le_trans g1.size g2.size), fun k hk hkb => ((g2.block k (by have := g1.size; have := h.size; omega) (by intro e; injection e with e; omega)).trans (g1.block k (by have := h.size; omega) hkb)).trans (h.block k hk)⟩)
    clear hK2 H42 HN2
    have HC := kp hcl
    go_wp2_with (refine wpL_load rfl 23 _ rfl rfl L4 ?_)
    refine bodyPost_ret (v := .tuple #[.agg (cellsU8 E).toArray, .int .i64 0]) ?_ rfl ⟨rfl, HKE.out, HG.out⟩
    exact res2 Try.results35 w.heap.size 32 _ (cellsU8 E) _ Try.underlying23 rfl info_key HC.out HRES.out _ rfl _ rfl
end Go.Proofs.Ytfmfdhcmbnabpaa
