/- FilterNewest: the walk. -/
import Derived.Test.YtlljndojbhopfaaArg15
namespace Go.Proofs.Ytlljndojbhopfaa
open Go Go.RowKit
set_option linter.unusedVariables false
set_option linter.unusedSimpArgs false
attribute [local go_sem] bmax2 bmin2 bmax bmin cell_ext frozen_ext

def newS (l : List Int) : Nat → List Smp
  | 0 => []
  | k + 1 => ⟨l.getD k 0, k, 0⟩ :: newS l k
theorem newS_length (l : List Int) (k : Nat) : (newS l k).length = k := by
  induction k with
  | zero => rfl
  | succ k ih => simp [newS, ih]
theorem newS_get (l : List Int) (k i j : Nat) (h : i + 1 + j = k) : (newS l k)[i]? = some ⟨l.getD j 0, j, 0⟩ := by
  induction k generalizing i with
  | zero => omega
  | succ k ih =>
    cases i with
    | zero => obtain rfl : j = k := by omega
              rfl
    | succ i => exact ih i (by omega)
theorem newS_ok (l : List Int) (hl : ∀ z ∈ l, 0 ≤ z ∧ z ≤ 255) (k : Nat) (hk : k ≤ 60) : ∀ s ∈ newS l k, (0 ≤ s.off ∧ s.off ≤ 255) ∧ okS s := by
  have hz : ∀ k, 0 ≤ l.getD k 0 ∧ l.getD k 0 ≤ 255 := fun k => by
    rw [List.getD_eq_getElem?_getD]
    cases h : l[k]? with
    | none => simp
    | some z => exact hl z (List.mem_of_getElem? h)
  induction k with
  | zero => simp [newS]
  | succ k ih =>
    intro s hs
    rcases List.mem_cons.1 hs with rfl | h
    · have := hz k
      exact ⟨this, by unfold okS; dsimp only; omega⟩
    · exact ih (by omega) s h
theorem jit_nonneg (l : List Smp) : 0 ≤ jit l := by
  unfold jit
  have : ∀ (l : List Smp) (m : Int), 0 ≤ m → ∀ B, 0 ≤ l.foldl (fun m s => max m (dist s.off B)) m := by
    intro l
    induction l with
    | nil => intro m hm B; exact hm
    | cons x t ih => intro m hm B; exact ih _ (Int.le_trans hm (Int.le_max_left _ _)) B
  exact this l 0 (Int.le_refl _) _
theorem best_mem' (l : List Smp) (h : l ≠ []) : best l ∈ l := by
  cases l with
  | nil => exact absurd rfl h
  | cons x t => exact minS_mem x t
theorem no_spike (l : List Smp) (s : Smp) (h : ∀ x ∈ l, 0 ≤ x.off ∧ x.off ≤ 255) (hs : 0 ≤ s.off ∧ s.off ≤ 255) : spikeB 1000 l s = false := by
  unfold spikeB
  have hj := jit_nonneg l
  have hb : 0 ≤ (best l).off ∧ (best l).off ≤ 255 := by
    cases l with
    | nil => exact ⟨Int.le_refl _, by decide⟩
    | cons x t => exact h _ (best_mem' _ (by simp))
  have hd : dist s.off (best l).off ≤ 255 := by unfold dist; split <;> omega
  simp
  intro _
  omega
def newSt (l : List Int) (k : Nat) : List Smp := (newS l k ++ zeroSt).take 8
theorem newSt_take (l : List Int) (k : Nat) : (newSt l k).take (min k 8) = (newS l k).take 8 := by
  unfold newSt
  rw [List.take_take, Nat.min_eq_left (by omega), List.take_append_of_le_length (by rw [newS_length]; omega)]
  by_cases h : k ≤ 8
  · rw [Nat.min_eq_left h, List.take_of_length_le (by rw [newS_length]; omega), List.take_of_length_le (by rw [newS_length]; omega)]
  · rw [Nat.min_eq_right (by omega)]
theorem newSt_succ (l : List Int) (k : Nat) : (⟨l.getD k 0, k, 0⟩ : Smp) :: (newSt l k).take 7 = newSt l (k + 1) := by
  unfold newSt
  rw [List.take_take]
  rfl

set_option maxHeartbeats 2000000 in
set_option maxRecDepth 100000 in
theorem FilterNewest_walk (w : World) (ad : Option Addr) (c : Nat) (l : List Int) (h : l.length ≤ maxLen ∧ (∀ z ∈ l, 0 ≤ z ∧ z ≤ 255) ∧ (l ≠ [] → ∃ b o, ad = some ⟨b, o, none⟩ ∧ b < w.heap.size ∧ HoldsI .u8 w b o l)) :
    Calls Try.prog 6 #[.slice ad l.length c] w fun e w' => e = .returned (.bool true) ∧ Below w.heap.size w w' := by
  obtain ⟨hlen, hok, hh⟩ := h
  unfold maxLen at hlen
  have HOK := hid hok
  have HH := hid hh
  clear hok hh
  obtain ⟨n, hn60, hnl, hmin⟩ : ∃ n : Nat, n ≤ 60 ∧ n ≤ l.length ∧ min (l.length : Int) 60 = (n : Int) := ⟨min l.length 60, by omega, by omega, by omega⟩
  go_enter Try.func6, Try.ntmps6
  go_wp2_with fail
  refine (awake15 w).mono ?_
  rintro e w1 ⟨rfl, hb⟩
  have B1 := hid hb
  clear hb
  go_wp2_with fail
  refine (New_good 1000 w1 (by omega) (by omega)).mono ?_
  rintro e w2 ⟨rfl, hf, hb⟩
  have F2 := hid hf
  have B2 := hid (bt B1.out hb)
  have hw1 : w.heap.size ≤ w1.heap.size := B1.out.size
  clear hf hb
  generalize w1.heap.size = b at F2 hw1 ⊢
  go_wp2_with fail
  go_loopw [6, 7, 8, 27] (fun i p q u wr => ∃ (k : Nat), k ≤ n ∧ i = .int .i64 k ∧ Hid (Below w.heap.size w wr) ∧ Hid (FAt wr b 1000 (newSt l k) (min k 8) 0)) (fun i _ _ _ _ => n - (intOf i).toNat)
  case atStart => exact ⟨0, Nat.zero_le _, rfl, B2, F2⟩
  case round =>
    obtain ⟨k, hk, rfl, hbl, hf⟩ := hrel
    by_cases hlt : k < n
    · obtain ⟨ab, ao, rfl, hab, hhi⟩ := HH.out (fun e => by subst e; simp at hnl; omega)
      obtain ⟨z, hz⟩ : ∃ z, l[k]? = some z := ⟨_, List.getElem?_eq_getElem (by omega)⟩
      have hzb := HOK.out z (List.mem_of_getElem? hz)
      have hc := cell_later hbl.out (hhi k z hz)
      have hcb := World.block_lt_of_cell? wr _ hc
      have HZ := hid hz
      have i1 : (k : Int) < (n : Int) := by omega
      have i2 : (0 : Int) ≤ (k : Int) := by omega
      have i3 : (k : Int) < (l.length : Int) := by omega
      clear hhi hz
      have hold : ∀ s ∈ (newSt l k).take (min k 8), (0 ≤ s.off ∧ s.off ≤ 255) ∧ okS s := by
        rw [newSt_take]
        intro s hs
        exact newS_ok l HOK.out k (by omega) s (List.mem_of_mem_take hs)
      have AD := hid (Add_take b (min k 8) 1000 0 (newSt l k) ⟨z, k, 0⟩ wr hf.out (fun s hs => (hold s hs).2) (by unfold okS; dsimp only; omega) (by omega) (by omega) (by
        rw [no_spike _ _ (fun s hs => (hold s hs).1) hzb]; simp))
      clear hold
      go_wp2_with fail
      refine AD.out.mono ?_
      rintro e w3 ⟨rfl, hf3, hg3⟩
      have hb3 := bgb hbl.out hg3 hw1 hbl.out.size
      have hgd : l.getD k 0 = z := by rw [List.getD_eq_getElem?_getD, HZ.out]; rfl
      have F3 : Hid (FAt w3 b 1000 (newSt l (k + 1)) (min (k + 1) 8) 0) := by
        have := newSt_succ l k
        rw [hgd] at this
        rw [this, show min (min k 8 + 1) 8 = min (k + 1) 8 by omega] at hf3
        exact hid hf3
      have B3 := hid hb3
      clear hf3 hg3 hb3 hgd AD hc
      go_wp2
      go_roundw
      case measure => simp [intOf]; omega
      case rel => exact ⟨k + 1, by omega, by go_num, B3, F3⟩
    · obtain rfl : k = n := by omega
      clear F2 B2
      have i1 : ¬ ((k : Int) < (k : Int)) := by omega
      go_wp2_with fail
      refine (Samples_any b _ _ _ _ _ hf.out).mono ?_
      rintro e wd ⟨v, rfl, ⟨gg, cc, rfl, g1, g2, g3, g4, g5⟩, hb⟩
      rw [newSt_take] at g1 g5 ⊢
      have Bd := hid (bt hbl.out hb)
      clear hb hf hbl
      obtain ⟨m, hm, hmk, hm8⟩ : ∃ m, ((newS l k).take 8).length = m ∧ m ≤ k ∧ (m : Int) = min (k : Int) 8 := ⟨_, rfl, by rw [List.length_take, newS_length]; omega, by rw [List.length_take, newS_length]; omega⟩
      rw [hm] at g1 ⊢
      have HMX := hid hm
      clear hm
      have G5 := hid g5
      clear g5
      have hq : ((m : Int) != min (k : Int) 8) = false := by rw [hm8]; simp
      have hm8' : m ≤ 8 := by omega
      have hmin8 := hm8.symm
      have hmm : ((m : Int) != (m : Int)) = false := by simp
      have hml : (m : Int) ≤ 8 := by omega
      clear hm8 hq
      go_wp2
      go_loopw [10, 54] (fun p i wr => ∃ (j : Nat), j ≤ m ∧ i = .int .i64 j ∧ Hid (Below wd.heap.size wd wr)) (fun _ i _ => m - (intOf i).toNat)
      case atStart => exact ⟨0, Nat.zero_le _, rfl, hid (Below.refl _ _)⟩
      case round =>
        obtain ⟨j, hj, rfl, hbj⟩ := hrel
        by_cases hjm : j < m
        · obtain ⟨ab, ao, rfl, hab, hhi⟩ := HH.out (fun e => by subst e; simp at hnl; omega)
          obtain ⟨q, hq⟩ : ∃ q, j + 1 + q = k := ⟨k - 1 - j, by omega⟩
          obtain ⟨z, hz⟩ : ∃ z, l[q]? = some z := ⟨_, List.getElem?_eq_getElem (by omega)⟩
          have hgd : l.getD q 0 = z := by rw [List.getD_eq_getElem?_getD, hz]; rfl
          have hsm : ((newS l k).take 8)[j]? = some ⟨z, q, 0⟩ := by
            rw [List.getElem?_take, if_pos (by omega), newS_get l k j q hq, hgd]
          obtain ⟨y0, y1, y2⟩ := G5.out.below hbj.out j _ hsm
          have hc := cell_later hbj.out (cell_later Bd.out (hhi q z hz))
          have hzb := HOK.out z (List.mem_of_getElem? hz)
          have hcb := World.block_lt_of_cell? wr _ hc
          have hgb := World.block_lt_of_cell? wr _ y0
          rw [Nat.zero_add] at y0 y1
          have i1 : (j : Int) < (m : Int) := by omega
          have i2 : (0 : Int) ≤ (j : Int) := by omega
          have i3 : (k : Int) - 1 - (j : Int) = (q : Int) := by omega
          have i4 : (q : Int) < (l.length : Int) := by omega
          have i5 : (0 : Int) ≤ (q : Int) := by omega
          have i6 : -9223372036854775808 ≤ (k : Int) - 1 := by omega
          clear hhi hz hgd hsm y2
          go_wp2
          go_quiet (fail)
          go_wp2
          go_roundw
          case measure => simp [intOf]; omega
          case rel => exact ⟨j + 1, by omega, by go_num, hid (bd hbj.out nq)⟩
        · obtain rfl : j = m := by omega
          go_wp2
          go_ret
          exact ⟨rfl, bt' Bd.out hbj.out Bd.out.size⟩
end Go.Proofs.Ytlljndojbhopfaa
