/- head: num. -/
import Derived.Test.YtoifkfhbinfplaaHd6
namespace Go.Proofs.Ytoifkfhbinfplaa
open Go Go.RowKit
set_option linter.unusedVariables false
set_option linter.unusedSimpArgs false
attribute [local go_sem] bmax2 bmin2 bmax bmin cell_ext frozen_ext

set_option maxHeartbeats 1000000 in
theorem R_num (s : ByteArray) (a m : Nat) (ha : a + m ≤ s.size) (hm : m ≤ 8) (hs : s.size ≤ 1099511627776) (w : World) : Calls Try.prog 34 #[.string s, .int .i64 (a : Int), .int .i64 (m : Int)] w fun e w' => e = .returned (.int .u64 (takeN (bs (s.extract a (a + m))) : Int)) ∧ w = w' := by
  have cT := kp (fun w' => ref01_Take_any (s.extract a (a + m)) w' (by rw [ByteArray.size_extract]; omega))
  have e1 : IntKind.i64.wrap ((a : Int) + (m : Int)) = (a : Int) + (m : Int) := IntWalk.i64_in _ (by omega)
  have hsl := kp (fun W => slice_str (P := Try.prog) 9 Try.underlying9 s a (a + m) (a : Int) ((a : Int) + (m : Int)) rfl (by omega) (by omega) ha W)
  have i1 : (a : Int) + (m : Int) ≤ 1099511627776 := by omega
  go_enter Try.func34, Try.ntmps34
  go_wp2_with fail
  refine (cT.out _).mono ?_
  rintro e w1 ⟨rfl, rfl⟩
  go_wp2
  go_ret
  exact ⟨rfl, rfl⟩
end Go.Proofs.Ytoifkfhbinfplaa
