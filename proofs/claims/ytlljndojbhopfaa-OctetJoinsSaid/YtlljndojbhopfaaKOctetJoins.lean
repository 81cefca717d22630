/- OctetJoins: the walk. -/
import Derived.Test.YtlljndojbhopfaaKOctetParts
namespace Go.Proofs.Ytlljndojbhopfaa
open Go Go.RowKit
set_option linter.unusedVariables false
set_option linter.unusedSimpArgs false
attribute [local go_sem] bmax2 bmin2 bmax bmin

set_option maxRecDepth 100000 in
theorem OctetJoins_walk (s : ByteArray) (n : Int) (ws : s.size ≤ maxLen) (wn : (Lit.int .i64 n).wf = true) (w : World) :
    Calls Try.prog 11 #[.string s, .int .i64 n] w fun e w' => e = .returned (.bool true) ∧ Below w.heap.size w w' := by
  have hn := (wf_i64 wn).2
  clear ws wn
  by_cases hla : (1024 : Int) < (s.size : Int)
  · go_enter Try.func11, Try.ntmps11
    go_wp2_with fail
    refine (octet_awake w).mono ?_
    rintro e w' ⟨rfl, hb⟩
    go_wp2
    go_ret
    exact ⟨rfl, hb⟩
  by_cases hn1 : n < 1
  · go_enter Try.func11, Try.ntmps11
    go_wp2_with fail
    refine (octet_awake w).mono ?_
    rintro e w1 ⟨rfl, hb⟩
    go_wp2_with fail
    refine (octet_Parts_none s n w1 hn1).mono ?_
    rintro e w1 ⟨rfl, rfl⟩
    go_wp2
    go_loop [19] (fun i => i = .int .i64 0) (fun _ => 0)
    case atStart => rfl
    case round =>
      subst hrel
      go_wp2
      go_ret
      exact ⟨rfl, hb⟩
  obtain ⟨N, rfl⟩ : ∃ N : Nat, n = N := ⟨n.toNat, by omega⟩
  have hN1 : 1 ≤ N := by omega
  have hN1' : (1 : Int) ≤ (N : Int) := by omega
  have hs : s.size ≤ 1024 := by omega
  have PT := hid (fun w => octet_Parts_some s N w hN1 (by omega) (by omega))
  obtain ⟨l, hl⟩ : ∃ l, chunks N (bs s) = l := ⟨_, rfl⟩
  rw [hl] at PT
  have hfl : l.flatten = bs s := by rw [← hl]; exact chunks_flatten N hN1 _ _ (Nat.le_refl _)
  have hget : ∀ k (h : k < l.length), l[k] ≠ [] ∧ l[k].length ≤ N ∧ (k + 1 < l.length → l[k].length = N) := by rw [← hl]; exact chunks_get N hN1 _ _ (Nat.le_refl _)
  have HF := hid hfl
  have HG := hid hget
  have hll : l.length ≤ 1024 := by rw [← hl]; exact Nat.le_trans (chunks_length N hN1 _ _ (Nat.le_refl _)) (by rw [size_bs]; exact hs)
  clear hl hfl hget
  go_enter Try.func11, Try.ntmps11
  go_wp2_with fail
  refine (octet_awake w).mono ?_
  rintro e w1 ⟨rfl, hb⟩
  have HB := hid hb
  clear hb
  go_wp2_with fail
  refine (PT.out _).mono ?_
  rintro e w2 ⟨v, rfl, ho, hb2⟩
  have HB2 := hid (bt HB.out hb2)
  obtain ⟨a1, c1, rfl, hc1⟩ := Texts.of_own ho
  have HC := hid hc1
  clear ho hb2 hc1
  go_wp2
  go_loop [5, 19] (fun t i => ∃ k : Nat, k ≤ l.length ∧ i = .int .i64 k ∧ t = .string (str (l.take k).flatten)) (fun _ i => l.length - (intOf i).toNat)
  case atStart => exact ⟨0, Nat.zero_le _, rfl, rfl⟩
  case round =>
    obtain ⟨k, hk, rfl, rfl⟩ := hrel
    have hz : (str (l.take k).flatten).size ≤ 1024 := by
      rw [str_size]
      have h1 : ((l.take k).flatten ++ (l.drop k).flatten).length = (bs s).length := by rw [← List.flatten_append, List.take_append_drop, HF.out]
      rw [List.length_append, size_bs] at h1
      omega
    obtain ⟨A, hA⟩ : ∃ A, str (l.take k).flatten = A := ⟨_, rfl⟩
    rw [hA] at hz ⊢
    have HA := hid hA
    clear hA
    by_cases hlt : k < l.length
    · obtain ⟨g1, rfl, hg1, x1⟩ := HC.out k hlt
      obtain ⟨h0, h1, h2⟩ := HG.out k hlt
      obtain ⟨S, hS⟩ : ∃ S, str l[k] = S := ⟨_, rfl⟩
      rw [hS] at x1
      have hs1 : S.toList.isEmpty = false := by
        rw [← hS, empty_str]
        cases h : l[k] with
        | nil => exact absurd h h0
        | cons => rfl
      have hs2 : (S.size : Int) ≤ (N : Int) := by rw [← hS, str_size]; omega
      have hs3 : S.size ≤ 1024 := by
        have : S.size ≤ l.flatten.length := by
          rw [← hS, str_size]
          exact (List.sublist_flatten_of_mem (List.getElem_mem _)).length_le
        rw [HF.out, size_bs] at this
        omega
      have hs4 : k + 1 < l.length → (S.size : Int) = (N : Int) := fun h => by rw [← hS, str_size, h2 h]
      have hnext : A ++ S = str (l.take (k + 1)).flatten := by
        rw [← HA.out, ← hS, List.take_succ_eq_append_getElem hlt, List.flatten_append]
        apply bs_inj
        rw [bs_str, bs, ByteArray.data_append, Array.toList_append]
        simp [str]
      have HN := hid hnext
      have i1 : (k : Int) < (l.length : Int) := by omega
      have i2 : (0 : Int) ≤ (k : Int) := by omega
      clear hS h0 h1 h2 hnext
      by_cases hl1 : k + 1 < l.length
      case' pos =>
        have hs5 := hs4 hl1
        have hs6 : ((S.size : Int) == (N : Int)) = true := by simpa using hs5
        have hs7 : ((S.size : Int) != (N : Int)) = false := by simpa using hs5
        have hs8 : (k : Int) + 1 < (l.length : Int) := by omega
        clear hs5
      case' neg =>
        have hs8 : ¬ ((k : Int) + 1 < (l.length : Int)) := by omega
        have hs9 : decide ((k : Int) + 1 < (l.length : Int)) = false := decide_eq_false hs8
      all_goals
        clear hs4
        go_wp2
        go_round
        case measure => simp [intOf]; omega
        case rel => exact ⟨k + 1, by omega, by go_num, congrArg _ HN.out⟩
    · obtain rfl : k = l.length := by omega
      have hAs : A = s := by
        rw [← HA.out, List.take_of_length_le (Nat.le_refl _), HF.out, str_bs]
      have HAs := hid hAs
      subst hAs
      go_wp2
      go_ret
      exact ⟨by simp, HB2.out⟩
end Go.Proofs.Ytlljndojbhopfaa
