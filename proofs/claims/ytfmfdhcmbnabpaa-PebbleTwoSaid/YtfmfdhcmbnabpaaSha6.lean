/- sha: what the document fixes. -/
import Derived.Test.YtfmfdhcmbnabpaaSha5
import Derived.Test.YtfmfdhcmbnabpaaEq
namespace Go.Proofs.Ytfmfdhcmbnabpaa
open Go Go.RowKit
set_option linter.unusedVariables false
set_option linter.unusedSimpArgs false
attribute [local go_sem] bmax2 bmin2 bmax bmin cell_ext frozen_ext

/-- a state behind a text -/
def stLm (m : List UInt8) : List Value := stL (hOf m) (str (restOf m)) (m.length : Int) true
def keyC (k : List UInt8) : List Value := cellsU8 k
theorem stLm_len (m : List UInt8) : (stLm m).length = 11 := rfl
theorem stLm_one (m : List UInt8) : ∀ x ∈ stLm m, x.oneCell' = true := stL_one _ _ _ _
theorem New_st (w : World) : Calls Try.prog 52 #[] w fun e w' => e = .returned (.agg (stLm []).toArray) ∧ Below w.heap.size w w' := New_any w
theorem More_st (m : List UInt8) (t : ByteArray) (h : m.length + t.size ≤ 1099511627776) (w : World) : Calls Try.prog 53 #[.agg (stLm m).toArray, .string t] w fun e w' => e = .returned (.agg (stLm (m ++ bs t)).toArray) ∧ Below w.heap.size w w' :=
  More_any m (bs t) _ _ _ true (Or.inl ⟨rfl, rfl, rfl, rfl⟩) h w
theorem Key_st (m : List UInt8) (h : m.length ≤ 549755813888) (w : World) : Calls Try.prog 54 #[.agg (stLm m).toArray] w fun e w' => e = .returned (.agg (cellsU8 (digest m)).toArray) ∧ Below w.heap.size w w' :=
  Key_any m _ _ _ true (Or.inl ⟨rfl, rfl, rfl, rfl⟩) rfl h w
theorem Sum_st (t : ByteArray) (h : t.size ≤ 549755813888) (w : World) : Calls Try.prog 48 #[.string t] w fun e w' => e = .returned (.agg (cellsU8 (digest (bs t))).toArray) ∧ Below w.heap.size w w' := Sum_any (bs t) h w
theorem Walk_st (K : List UInt8) (hK : K.length = 32) (n : Int) (N : Nat) (hN : min (max n 0) 4096 = (N : Int)) (w : World) : Calls Try.prog 39 #[.agg (cellsU8 K).toArray, .int .i64 n] w fun e w' => e = .returned (.agg (cellsU8 (walkD K N)).toArray) ∧ Below w.heap.size w w' := Walk_any K hK n N hN w
theorem eq_same (D : List UInt8) (hD : D.length = 32) (w : World) : (Op.equalIn 10000 23 (.agg (cellsU8 D).toArray) (.agg (cellsU8 D).toArray)).run Try.prog w = .ok true w := by rw [eq_key D D hD hD]; simp
theorem eq_dig (m : List UInt8) (w : World) : (Op.equalIn 10000 23 (.agg (cellsU8 (digest m)).toArray) (.agg (cellsU8 (digest m)).toArray)).run Try.prog w = .ok true w := eq_same _ (digest_length m) w
theorem bs_append (a b : ByteArray) : bs (a ++ b) = bs a ++ bs b := by rw [bs, ByteArray.data_append, Array.toList_append]
theorem ldK (K : List UInt8) (hK : K.length = 32) {w : World} {b : Nat} (h : Blk w b 23 (cellsU8 K).toArray) : (Instr.loadAt 23 (.pointer (some ⟨b, 0, none⟩))).run Try.prog w = .ok (.agg (cellsU8 K).toArray) w :=
  ld_all b 32 23 _ (cellsU8 K) _ Try.underlying23 rfl info_key (key_cells K hK) h
theorem ldS (m : List UInt8) {w : World} {b : Nat} (h : Blk w b 84 (stLm m).toArray) : (Instr.loadAt 84 (.pointer (some ⟨b, 0, none⟩))).run Try.prog w = .ok (.agg (stLm m).toArray) w :=
  ld_all b 11 84 _ (stLm m) _ Try.underlying84 rfl info_st rfl h

theorem digest_abc : hexL (digest [97, 98, 99]) = [98, 97, 55, 56, 49, 54, 98, 102, 56, 102, 48, 49, 99, 102, 101, 97, 52, 49, 52, 49, 52, 48, 100, 101, 53, 100, 97, 101, 50, 50, 50, 51, 98, 48, 48, 51, 54, 49, 97, 51, 57, 54, 49, 55, 55, 97, 57, 99, 98, 52, 49, 48, 102, 102, 54, 49, 102, 50, 48, 48, 49, 53, 97, 100] := by decide +kernel

theorem stA_eq (v : V8) (R : ByteArray) (n : Int) (b : Bool) : stA v R n b = .agg (stL v R n b).toArray := rfl

end Go.Proofs.Ytfmfdhcmbnabpaa
