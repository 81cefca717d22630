/- the reference's sha: right, constants, filled. -/
import Derived.Test.YtfmfdhcmbnabpaaSha6
namespace Go.Proofs.Ytfmfdhcmbnabpaa
open Go Go.RowKit
set_option linter.unusedVariables false
set_option linter.unusedSimpArgs false
attribute [local go_sem] bmax2 bmin2 bmax bmin cell_ext frozen_ext

theorem right_eq (n k : Nat) (hn : n < M32) (hk : 1 ≤ k ∧ k ≤ 31) : bits .or .u32 ((n : Int) / 2 ^ k) ((n : Int) * 2 ^ (32 - k) % 4294967296) = ((rr n k : Nat) : Int) := by
  have e1 : (n : Int) * 2 ^ (32 - k) % 4294967296 = ((n * 2 ^ (32 - k) % 4294967296 : Nat) : Int) := by simp
  have e2 : (n : Int) / 2 ^ k = ((n / 2 ^ k : Nat) : Int) := by simp
  have h2 : n / 2 ^ k ≤ n := Nat.div_le_self _ _
  rw [e1, e2, u32_or_nat _ _ (Nat.lt_of_le_of_lt h2 hn) (Nat.mod_lt _ (by decide)), Nat.or_comm]
  unfold rr leftN
  rw [show 32 - (32 - k) = k by omega]

theorem R_right (n : Nat) (k : Nat) (b : Int) (w : World) (hn : n < M32) (hb : b = k) (hk : 1 ≤ k ∧ k ≤ 31) :
    Calls Try.prog 45 #[.int .u32 n, .int .i64 b] w fun e w' => e = .returned (.int .u32 (rr n k : Nat)) ∧ ∃ m, w' = w.drewN m := by
  have hn' : (n : Int) < 4294967296 := by have : n < 4294967296 := hn; omega
  have e1 : 32 - b = ((32 - k : Nat) : Int) := by omega
  subst hb
  have k1 : (1 : Int) ≤ (k : Int) := by omega
  have k2 : (k : Int) ≤ 31 := by omega
  go_enter Try.func45, Try.ntmps45
  go_wp2
  go_quiet (fail)
  go_wp2
  go_ret
  exact ⟨congrArg _ (congrArg _ (right_eq n k hn ⟨by omega, by omega⟩)), nq, rfl⟩

set_option maxRecDepth 100000 in
theorem R_constants (w : World) : Calls Try.prog 42 #[] w fun e w' => e = .returned (.slice (some ⟨w.heap.size, 0, none⟩) 64 64) ∧ Below w.heap.size w w' ∧ Blk w' w.heap.size 65 (c32 kL).toArray := by
  go_enter Try.func42, Try.ntmps42
  go_wp2_with fail
  refine bodyPost_ret (v := .slice (some ⟨w.heap.size, 0, none⟩) 64 64) (by simp [results, Try.results42, go_sem]) rfl ⟨rfl, ba (Below.refl _ _) _, ?_⟩
  exact Blk.new w 65 (c32 kL).toArray

/-- a text and the first j+1 bytes behind it -/
def fillL (m : List UInt8) (j : Nat) : List UInt8 := m ++ ([0x80] ++ List.replicate j 0)
theorem fillL_length (m : List UInt8) (j : Nat) : (fillL m j).length = m.length + 1 + j := by simp [fillL]; omega
theorem fillL_succ (m : List UInt8) (j : Nat) : fillL m (j + 1) = fillL m j ++ [0] := by simp [fillL, List.replicate_succ']
theorem fillL_put (m : List UInt8) : fillL m (gapN m.length - 1) ++ putL (m.length * 8) 8 = m ++ padB m := by simp [fillL, padB]
theorem fillL_zero (m : List UInt8) : str m ++ ⟨#[128]⟩ = str (fillL m 0) := str_append m [128]
theorem fillL_next (m : List UInt8) (j : Nat) : str (fillL m j) ++ ⟨#[0]⟩ = str (fillL m (j + 1)) := by rw [fillL_succ]; exact str_append _ [0]

theorem R_filled (m : List UInt8) (hm : m.length ≤ 1099511627776) (w : World) :
    Calls Try.prog 43 #[.string (str m)] w fun e w' => e = .returned (.string (str (m ++ padB m))) ∧ Below w.heap.size w w' := by
  have hz : (str m).size ≤ 1099511627776 := by rw [str_size]; exact hm
  have hz2 : (str m).size = m.length := str_size m
  have P : Kp (∀ w, Calls Try.prog 50 #[.int .u64 (8 * (m.length : Int)), .int .i64 8] w fun e w' => e = .returned (.string (str (putL (m.length * 8) 8))) ∧ Below w.heap.size w w') :=
    kp fun w => by
      have := ref01_Put_mid (m.length * 8) 8 w (show _ < 18446744073709551616 by omega) (by omega) 8 (by omega)
      rw [show ((m.length * 8 : Nat) : Int) = 8 * (m.length : Int) by omega] at this
      exact this
  have f0 := fillL_zero m
  have fp := kp (fillL_put m)
  have hs1 : (⟨#[128]⟩ : ByteArray).size ≤ 1 := by decide
  have hs0 : (⟨#[0]⟩ : ByteArray).size ≤ 1 := by decide
  have fn_ := kp (fillL_next m)
  have fs := kp (fun j => (str_size (fillL m j)).trans (fillL_length m j))
  obtain ⟨G, hG⟩ : ∃ G, gapN m.length - 1 = G := ⟨_, rfl⟩
  have hg1 : (m.length + 1 + G) % 64 = 56 := by unfold gapN at hG; omega
  have hg2 : G < 64 := by unfold gapN at hG; omega
  rw [hG] at fp
  have HM := kp hm
  clear hG hm
  obtain ⟨N, hN⟩ : ∃ N, m.length = N := ⟨_, rfl⟩
  rw [hN] at hz2 hg1 P fs HM fp
  generalize hS : str m = S at hz hz2 f0
  have hpz : (str (putL (N * 8) 8)).size ≤ 8 := by rw [str_size, length_putL]; omega
  have sa := kp (str_append (fillL m G) (putL (N * 8) 8))
  generalize putL (N * 8) 8 = PL at hpz sa fp P
  generalize m ++ padB m = R at fp ⊢
  go_enter Try.func43, Try.ntmps43
  go_wp2
  go_loop [3] (fun t => ∃ j : Nat, t = .string (str (fillL m j)) ∧ j ≤ G) (fun t => 1099511631872 - lenOf t)
  case atStart => exact ⟨0, rfl, Nat.zero_le _⟩
  case round =>
    obtain ⟨j, rfl, hj⟩ := hrel
    have hsz := fs.out j
    have hl := HM.out
    by_cases hlt : j < G
    · have hm : (((str (fillL m j)).size : Int) % 64) ≠ 56 := by omega
      have hb : ((((str (fillL m j)).size : Int) % 64) == 56) = false := by simpa using hm
      have hb2 : ((((str (fillL m j)).size : Int) % 64) != 56) = true := by simpa using hm
      have hu : (str (fillL m j)).size ≤ 1099511627900 := by omega
      have hnx := fn_.out j
      have HSZ := kp hsz
      have HSY := kp (fs.out (j + 1))
      clear hm hsz
      go_wp2
      go_round
      case measure =>
        show 1099511631872 - (str (fillL m (j + 1))).size < 1099511631872 - (str (fillL m j)).size
        have := HSZ.out; have := HSY.out; omega
      case rel => exact ⟨j + 1, rfl, by omega⟩
    · obtain rfl : j = G := by omega
      have hm : (((str (fillL m j)).size : Int) % 64) = 56 := by omega
      have hb : ((((str (fillL m j)).size : Int) % 64) == 56) = true := by simpa using hm
      have hb2 : ((((str (fillL m j)).size : Int) % 64) != 56) = false := by simpa using hm
      have hu : (str (fillL m j)).size ≤ 1099511627900 := by omega
      clear hm hsz
      go_wp2_with fail
      refine (P.out w).mono ?_
      rintro e w1 ⟨rfl, hbl⟩
      have sa' := sa.out
      rw [fp.out] at sa'
      go_wp2
      go_ret
      exact ⟨by first | rfl | rw [sa'], hbl⟩
end Go.Proofs.Ytfmfdhcmbnabpaa
