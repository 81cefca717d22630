/- the reference of layer 15: New, Best, Jitter. -/
import Derived.Test.YtlljndojbhopfaaKFilterBest
namespace Go.Proofs.Ytlljndojbhopfaa
open Go Go.RowKit
set_option linter.unusedVariables false
set_option linter.unusedSimpArgs false
attribute [local go_sem] bmax2 bmin2 bmax bmin cell_ext frozen_ext

/-- a slice of samples in memory, apart from block rb -/
def SL (w : World) (rb : Nat) (ad : Option Addr) (c : Nat) (L : List Smp) : Prop :=
  (L = [] ∧ ad = none ∧ c = 0) ∨ ∃ gg, ad = some ⟨gg, 0, none⟩ ∧ L.length ≤ c ∧ c ≤ maxLen ∧ gg < w.heap.size ∧ rb < gg ∧ Holds w gg 0 L
/-- block rb is the reference's filter -/
def RAt (w : World) (rb : Nat) (g : Int) (ad : Option Addr) (c : Nat) (L : List Smp) (r : Int) : Prop :=
  w.heap[rb]? = some (.cells #[.int .i64 g, .slice ad L.length c, .int .i64 r] 45 (0, 0)) ∧ SL w rb ad c L ∧ L.length ≤ 9
theorem SL.below {w w' : World} {rb c : Nat} {ad : Option Addr} {L : List Smp} (h : SL w rb ad c L) (hb : Below w.heap.size w w') : SL w' rb ad c L := by
  rcases h with h | ⟨gg, h1, h2, h3, h4, h5, h6⟩
  · exact Or.inl h
  · exact Or.inr ⟨gg, h1, h2, h3, Nat.lt_of_lt_of_le h4 hb.size, h5, h6.below hb⟩
theorem RAt.lt {w : World} {rb c : Nat} {g r : Int} {ad : Option Addr} {L : List Smp} (h : RAt w rb g ad c L r) : rb < w.heap.size := (Array.getElem?_eq_some_iff.1 h.1).1
theorem RAt.below {w w' : World} {rb c : Nat} {g r : Int} {ad : Option Addr} {L : List Smp} (h : RAt w rb g ad c L r) (hb : Below w.heap.size w w') : RAt w' rb g ad c L r :=
  ⟨by rw [hb.block rb h.lt]; exact h.1, h.2.1.below hb, h.2.2⟩
theorem RAt.cell {w : World} {rb c : Nat} {g r : Int} {ad : Option Addr} {L : List Smp} (h : RAt w rb g ad c L r) :
    w.cell? ⟨rb, 0, none⟩ = some (.int .i64 g) ∧ w.cell? ⟨rb, 1, none⟩ = some (.slice ad L.length c) ∧ w.cell? ⟨rb, 2, none⟩ = some (.int .i64 r) :=
  ⟨by rw [cell_of_row w rb 0 _ _ _ h.1]; rfl, by rw [cell_of_row w rb 1 _ _ _ h.1]; rfl, by rw [cell_of_row w rb 2 _ _ _ h.1]; rfl⟩
theorem RAt.frozen {w : World} {rb c : Nat} {g r : Int} {ad : Option Addr} {L : List Smp} (h : RAt w rb g ad c L r) (o : Nat) : w.frozen? ⟨rb, o, none⟩ = false := frozen_of_row w rb o _ _ h.1

theorem RNew_bad (g : Int) (w : World) (hg : g < 1 ∨ 1125899906842624 < g) :
    Calls Try.prog 17 #[.int .i64 g] w fun e w' => e = .returned (.tuple #[.pointer none, .int .i64 1]) ∧ w = w' := by
  by_cases h1 : g < 1
  · go_enter Try.func17, Try.ntmps17
    go_wp2
    go_ret2
    exact ⟨rfl, rfl⟩
  · have h2 : 1125899906842624 < g := by omega
    go_enter Try.func17, Try.ntmps17
    go_wp2
    go_ret2
    exact ⟨rfl, rfl⟩
theorem RNew_good (g : Int) (w : World) (hg1 : 1 ≤ g) (hg2 : g ≤ 1125899906842624) :
    Calls Try.prog 17 #[.int .i64 g] w fun e w' => e = .returned (.tuple #[.pointer (some ⟨w.heap.size, 0, none⟩), .int .i64 0]) ∧ RAt w' w.heap.size g none 0 [] 0 ∧ Below w.heap.size w w' := by
  have h1 : ¬ g < 1 := by omega
  have h2 : ¬ 1125899906842624 < g := by omega
  go_enter Try.func17, Try.ntmps17
  go_wp2
  go_ret2
  exact ⟨rfl, ⟨heap_alloc_new w _, Or.inl ⟨rfl, rfl, rfl⟩, by decide⟩, ba (Below.refl _ _) _⟩

theorem Rfar_any (a b : Int) (w : World) (h1 : -1152921504606846976 ≤ a) (h2 : a ≤ 1152921504606846976) (h3 : -1152921504606846976 ≤ b) (h4 : b ≤ 1152921504606846976) :
    Calls Try.prog 45 #[.int .i64 a, .int .i64 b] w fun e w' => e = .returned (.int .i64 (dist a b)) ∧ w = w' := by
  by_cases hc : b < a
  · go_enter Try.func45, Try.ntmps45
    go_wp2
    go_ret
    refine ⟨?_, rfl⟩
    show Ending.returned (.int .i64 (a - b)) = _
    unfold dist; rw [if_neg (by omega)]
  · go_enter Try.func45, Try.ntmps45
    go_wp2
    go_ret
    refine ⟨?_, rfl⟩
    show Ending.returned (.int .i64 (b - a)) = _
    unfold dist
    split
    · rfl
    · rw [show b - a = a - b by omega]

/-- z is the place of the best one -/
def BI (L : List Smp) (z : Int) : Prop := (L = [] ∧ z = -1) ∨ ∃ i : Nat, z = (i : Int) ∧ L[i]? = some (best L) ∧ ∀ j s, j < i → L[j]? = some s → s.del ≠ (best L).del
theorem BI.one {L : List Smp} {z z' : Int} (h : BI L z) (h' : BI L z') : z = z' := by
  rcases h with ⟨rfl, rfl⟩ | ⟨i, rfl, hi, hn⟩
  · rcases h' with ⟨_, rfl⟩ | ⟨i, rfl, hi, _⟩
    · rfl
    · simp at hi
  · rcases h' with ⟨rfl, rfl⟩ | ⟨i', rfl, hi', hn'⟩
    · simp at hi
    · rcases Nat.lt_trichotomy i i' with h | h | h
      · exact absurd rfl (hn' i _ h hi)
      · rw [h]
      · exact absurd rfl (hn i' _ h hi')
open Classical in
noncomputable def bi (L : List Smp) : Int := if h : ∃ z, BI L z then h.choose else 0
theorem bi_eq {L : List Smp} {z : Int} (h : BI L z) : bi L = z := by
  unfold bi
  rw [dif_pos ⟨z, h⟩]
  exact BI.one (Exists.choose_spec (⟨z, h⟩ : ∃ z, BI L z)) h
theorem best_snoc (l : List Smp) (y : Smp) : best (l ++ [y]) = if l = [] then y else if y.del < (best l).del then y else best l := by
  cases l with
  | nil => rfl
  | cons x t =>
    rw [if_neg (by simp)]
    show minS x (t ++ [y]) = _
    unfold minS
    rw [List.foldl_append]
    rfl

set_option maxHeartbeats 1000000 in
set_option maxRecDepth 100000 in
theorem RBest (w : World) (rb c : Nat) (g r : Int) (ad : Option Addr) (L : List Smp) (h : RAt w rb g ad c L r) :
    Calls Try.prog 25 #[.pointer (some ⟨rb, 0, none⟩)] w fun e w' => e = .returned (.int .i64 (bi L)) ∧ BI L (bi L) ∧ Below w.heap.size w w' := by
  have hb := h.lt
  have hL8 := h.2.2
  have H := hid h
  clear h
  go_enter Try.func25, Try.ntmps25
  go_wp2
  go_loopw [3, 4] (fun p i wr => ∃ (k : Nat) (z : Int), k ≤ L.length ∧ i = .int .i64 k ∧ p = .int .i64 z ∧ Hid (BI (L.take k) z) ∧ Hid (Below w.heap.size w wr)) (fun _ i _ => L.length - (intOf i).toNat)
  case atStart => exact ⟨0, -1, Nat.zero_le _, rfl, rfl, hid (Or.inl ⟨rfl, rfl⟩), hid (Below.refl _ _)⟩
  case round =>
    obtain ⟨k, z, hk, rfl, rfl, hz, hbl⟩ := hrel
    have HR := hid (H.out.below hbl.out)
    have hbr := HR.out.lt
    obtain ⟨_, hc1, _⟩ := HR.out.cell
    by_cases hlt : k < L.length
    · obtain ⟨y, hy⟩ : ∃ y, L[k]? = some y := ⟨_, List.getElem?_eq_getElem hlt⟩
      rcases HR.out.2.1 with ⟨rfl, _⟩ | ⟨gg, rfl, s2, s3, s4, s5, s6⟩
      · simp at hlt
      obtain ⟨c0, c1, c2⟩ := s6 k y hy
      rw [Nat.zero_add] at c1
      have i1 : (k : Int) < (L.length : Int) := by omega
      have i2 : (0 : Int) ≤ (k : Int) := by omega
      have hs := best_snoc (L.take k) y
      have ht : L.take (k + 1) = L.take k ++ [y] := by rw [List.take_add_one, hy]; rfl
      rw [← ht] at hs
      have HY := hid hy
      rcases hz.out with ⟨h0, rfl⟩ | ⟨i, rfl, hi, hmn⟩
      · have h0' := hid h0
        have hs' := hid hs
        clear h0 hs s6 hy ht
        go_wp2
        go_quiet (fail)
        go_wp2
        go_roundw
        case measure => simp [intOf]; omega
        case rel =>
          refine ⟨k + 1, k, by omega, by go_num, rfl, hid (Or.inr ⟨k, rfl, ?_, ?_⟩), hid (bd hbl.out nq)⟩
          · rw [hs'.out, if_pos h0'.out, List.getElem?_take, if_pos (by omega)]
            exact HY.out
          · intro j s hj _
            have := congrArg List.length h0'.out
            rw [List.length_take, List.length_nil] at this
            omega
      · have hik := (List.getElem?_eq_some_iff.1 hi).1
        rw [List.length_take] at hik
        have hi2 : L[i]? = some (best (L.take k)) := by rw [List.getElem?_take, if_pos (by omega)] at hi; exact hi
        obtain ⟨_, e1, _⟩ := s6 i _ hi2
        rw [Nat.zero_add] at e1
        have j1 : (i : Int) < (L.length : Int) := by omega
        have j2 : (0 : Int) ≤ (i : Int) := by omega
        have j3 : ¬ ((i : Int) < 0) := by omega
        have hne : L.take k ≠ [] := fun e => by rw [e] at hi; simp at hi
        rw [if_neg hne] at hs
        have hs' := hid hs
        have HI2 := hid hi2
        have HMN := hid hmn
        have HLE := hid (best_le (L.take k))
        clear hmn
        generalize best (L.take k) = B at e1 hs' HI2 HMN HLE
        clear hs s6 hy ht hi hi2 hne hz
        by_cases hd : y.del < B.del
        · go_wp2
          go_quiet (fail)
          go_wp2
          go_roundw
          case measure => simp [intOf]; omega
          case rel =>
            refine ⟨k + 1, k, by omega, by go_num, rfl, hid (Or.inr ⟨k, rfl, ?_, ?_⟩), hid (bd hbl.out nq)⟩
            · rw [hs'.out, if_pos hd, List.getElem?_take, if_pos (by omega)]
              exact HY.out
            · intro j s hj hjs
              rw [hs'.out, if_pos hd]
              rw [List.getElem?_take, if_pos (by omega)] at hjs
              have := HLE.out s (List.mem_of_getElem? (l := L.take k) (i := j) (by rw [List.getElem?_take, if_pos hj]; exact hjs))
              omega
        · go_wp2
          go_quiet (fail)
          go_wp2
          go_roundw
          case measure => simp [intOf]; omega
          case rel =>
            refine ⟨k + 1, i, by omega, by go_num, rfl, hid (Or.inr ⟨i, rfl, ?_, ?_⟩), hid (bd hbl.out nq)⟩
            · rw [hs'.out, if_neg (by omega), List.getElem?_take, if_pos (by omega)]
              exact HI2.out
            · intro j s hj hjs
              rw [hs'.out, if_neg (by omega)]
              rw [List.getElem?_take, if_pos (by omega)] at hjs
              exact HMN.out j s hj (by rw [List.getElem?_take, if_pos (by omega)]; exact hjs)
    · obtain rfl : k = L.length := by omega
      have hz' := hz.out
      rw [List.take_length] at hz'
      have HZ := hid hz'
      clear hz'
      go_wp2
      go_ret
      have hzz := bi_eq HZ.out
      subst hzz
      exact ⟨rfl, HZ.out, hbl.out⟩
end Go.Proofs.Ytlljndojbhopfaa
