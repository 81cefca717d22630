/- mac: plain words for the laws. -/
import Derived.Test.YtachnjdmjifefaaMac0
namespace Go.Proofs.Ytachnjdmjifefaa
set_option linter.unusedVariables false
set_option linter.unusedSimpArgs false
open Go Go.RowKit
theorem fullK_snoc {k : List UInt8} (h : k.length < 64) : fullK (k ++ [0]) = fullK k := by
  unfold fullK
  rw [key1_short (k := k) (by omega), key1_short (k := k ++ [0]) (by simp; omega), List.append_assoc]
  congr 1
  rw [List.length_append, show 64 - k.length = (64 - (k.length + [(0 : UInt8)].length)) + 1 by simp; omega, List.replicate_succ]
  rfl
theorem macD_snoc {k t : List UInt8} (h : k.length < 64) : macD (k ++ [0]) t = macD k t := by
  unfold macD inK outK; rw [fullK_snoc h]
theorem fullK_dig {k : List UInt8} (h : 64 < k.length) : fullK (digest k) = fullK k := by
  unfold fullK
  rw [key1_long (k := k) h, key1_short (k := digest k) (by rw [digest_length]; omega)]
theorem macD_dig {k t : List UInt8} (h : 64 < k.length) : macD (digest k) t = macD k t := by
  unfold macD inK outK; rw [fullK_dig h]
theorem set_ne {l : List UInt8} {k : Nat} (hk : k < l.length) (c : UInt8) (hc : c ≠ 0) : l.set k (l[k] ^^^ c) ≠ l := by
  intro e
  have : (l.set k (l[k] ^^^ c))[k]'(by simpa using hk) = l[k] := by
    have h2 := congrArg (·[k]?) e
    simp only [List.getElem?_set_self hk, List.getElem?_eq_getElem hk] at h2
    injection h2 with h2
    simpa using h2
  rw [List.getElem_set_self] at this
  have h3 : l[k] ^^^ (l[k] ^^^ c) = l[k] ^^^ l[k] := by rw [this]
  rw [← UInt8.xor_assoc] at h3
  simp at h3
  exact hc h3
end Go.Proofs.Ytachnjdmjifefaa
