/- mac in plain words: numbers and lists, no program in sight. -/
import Derived.Test.YtfmfdhcmbnabpaaSha0
namespace Go.Proofs.Ytfmfdhcmbnabpaa
set_option linter.unusedVariables false
set_option linter.unusedSimpArgs false
open Go Go.RowKit

def xorU (l : List UInt8) (c : UInt8) : List UInt8 := l.map (· ^^^ c)
/-- a key, or its digest if it is long -/
def key1 (k : List UInt8) : List UInt8 := if k.length > 64 then digest k else k
/-- .. filled up to 64 bytes -/
def fullK (k : List UInt8) : List UInt8 := key1 k ++ List.replicate (64 - (key1 k).length) 0
def inK (k : List UInt8) : List UInt8 := xorU (fullK k) 54
def outK (k : List UInt8) : List UInt8 := xorU (fullK k) 92
/-- a tag: 32 bytes -/
def macD (k t : List UInt8) : List UInt8 := digest (outK k ++ digest (inK k ++ t))

theorem xorU_length (l : List UInt8) (c : UInt8) : (xorU l c).length = l.length := by simp [xorU]
theorem key1_length (k : List UInt8) : (key1 k).length ≤ 64 := by
  unfold key1; split
  · rw [digest_length]; omega
  · omega
theorem fullK_length (k : List UInt8) : (fullK k).length = 64 := by
  have := key1_length k
  unfold fullK; rw [List.length_append, List.length_replicate]; omega
theorem inK_length (k : List UInt8) : (inK k).length = 64 := by unfold inK; rw [xorU_length, fullK_length]
theorem outK_length (k : List UInt8) : (outK k).length = 64 := by unfold outK; rw [xorU_length, fullK_length]
theorem macD_length (k t : List UInt8) : (macD k t).length = 32 := digest_length _
theorem key1_short {k : List UInt8} (h : k.length ≤ 64) : key1 k = k := by unfold key1; rw [if_neg (by omega)]
theorem key1_long {k : List UInt8} (h : 64 < k.length) : key1 k = digest k := by unfold key1; rw [if_pos h]
/-- what the program fills up -/
def key2 (k : List UInt8) : List UInt8 := if key1 k = [] then [0] else key1 k
theorem key2_length (k : List UInt8) : 1 ≤ (key2 k).length ∧ (key2 k).length ≤ 64 := by
  have := key1_length k
  unfold key2; split
  · simp
  · rename_i h; have := List.length_pos_iff.2 h; omega
theorem pad_key2 (k : List UInt8) : key2 k ++ List.replicate ((64 - (key2 k).length % 64) % 64) 0 = fullK k := by
  have h1 := key1_length k
  unfold fullK key2
  split
  · rename_i h; rw [h]; rfl
  · rename_i h
    have := List.length_pos_iff.2 h
    congr 2
    omega
/-- the first i of s, the rest of l -/
def mixU (s l : List UInt8) (i : Nat) : List UInt8 := s.take i ++ l.drop i
theorem mixU_zero (s l : List UInt8) : mixU s l 0 = l := by simp [mixU]
theorem mixU_length (s l : List UInt8) (i : Nat) (h : s.length = l.length) (hi : i ≤ l.length) : (mixU s l i).length = l.length := by simp [mixU]; omega
theorem mixU_get (s l : List UInt8) (i : Nat) (h : s.length = l.length) (hi : i < l.length) : (mixU s l i)[i]? = some l[i] := by
  unfold mixU
  rw [List.getElem?_append_right (by simp; omega), List.getElem?_drop, List.getElem?_eq_getElem (by simp; omega)]
  congr 2; simp; omega
theorem mixU_set (s l : List UInt8) (i : Nat) (c : UInt8) (h : s.length = l.length) (hi : i < l.length) (hc : s[i]? = some c) : (mixU s l i).set i c = mixU s l (i + 1) := by
  obtain ⟨h1, h2⟩ := List.getElem?_eq_some_iff.1 hc
  unfold mixU
  rw [List.set_append_right _ _ (by simp; omega), List.drop_eq_getElem_cons hi, show i - (List.take i s).length = 0 by simp; omega, List.set_cons_zero, List.take_succ_eq_append_getElem (by omega), List.append_assoc, h2]
  rfl
theorem mixU_all (s l : List UInt8) (h : s.length = l.length) : mixU s l l.length = s := by
  unfold mixU
  rw [List.drop_of_length_le (Nat.le_refl _), List.append_nil, List.take_of_length_le (by omega)]
end Go.Proofs.Ytfmfdhcmbnabpaa
