/- head: number, right. -/
import Derived.Test.YtoifkfhbinfplaaHd5
namespace Go.Proofs.Ytoifkfhbinfplaa
open Go Go.RowKit
set_option linter.unusedVariables false
set_option linter.unusedSimpArgs false
attribute [local go_sem] bmax2 bmin2 bmax bmin cell_ext frozen_ext

set_option maxHeartbeats 1000000 in
theorem M_number (s : ByteArray) (hs : s.size ≤ 8) (w : World) : Calls Try.prog 32 #[.string s] w fun e w' => e = .returned (.int .u64 (takeN (bs s) : Int)) ∧ w = w' := by
  have cT := kp (fun w' => octet_Take_any s w' hs)
  go_enter Try.func32, Try.ntmps32
  go_wp2_with fail
  refine (cT.out _).mono ?_
  rintro e w1 ⟨rfl, rfl⟩
  go_wp2
  go_ret
  exact ⟨rfl, rfl⟩
theorem R_below (c : Int) (h0 : 0 ≤ c) (h1 : c ≤ 255) (w : World) : Calls Try.prog 33 #[.int .u8 c] w fun e w' => e = .returned (.int .i64 (if 127 < c then c - 256 else c)) ∧ w = w' := by
  by_cases h : 127 < c
  · rw [if_pos h]
    have g : decide (127 < c) = true := decide_eq_true h
    go_enter Try.func33, Try.ntmps33
    go_wp2
    go_ret
    exact ⟨rfl, rfl⟩
  · rw [if_neg h]
    have g : decide (127 < c) = false := decide_eq_false h
    go_enter Try.func33, Try.ntmps33
    go_wp2
    go_ret
    exact ⟨rfl, rfl⟩
/-- an extension: its kind, its bytes -/
def fieldL (k : Int) (d : ByteArray) : List Value := [.int .i64 k, .string d]
def rightB (k : Int) (d : ByteArray) : Bool := inB k 1 65535 && decide ((d.size : Int) ≤ 1000)
set_option maxHeartbeats 1000000 in
theorem M_right (k : Int) (d : ByteArray) (w : World) : Calls Try.prog 37 #[.agg (fieldL k d).toArray] w fun e w' => e = .returned (.bool (rightB k d)) ∧ Below w.heap.size w w' := by
  have cW := kp (fun w' => M_within k 1 65535 w')
  have HB := kp (ba (Below.refl w.heap.size w) (.cells (fieldL k d).toArray 48))
  unfold rightB
  unfold fieldL at HB ⊢
  generalize inB k 1 65535 = p at *
  cases p with
  | true =>
    rw [Bool.true_and]
    go_enter Try.func37, Try.ntmps37
    go_wp2_with fail
    refine (cW.out _).mono ?_
    rintro e w1 ⟨rfl, rfl⟩
    go_wp2
    go_ret
    exact ⟨rfl, HB.out⟩
  | false =>
    rw [Bool.false_and]
    go_enter Try.func37, Try.ntmps37
    go_wp2_with fail
    refine (cW.out _).mono ?_
    rintro e w1 ⟨rfl, rfl⟩
    go_wp2
    go_ret
    exact ⟨rfl, HB.out⟩
end Go.Proofs.Ytoifkfhbinfplaa
