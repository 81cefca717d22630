/- keys compared, as one step of a quiet region. -/
import Derived.Test.YtfmfdhcmbnabpaaSha6
namespace Go.Proofs.Ytfmfdhcmbnabpaa
open Go Go.RowKit
set_option linter.unusedVariables false
set_option linter.unusedSimpArgs false

theorem run_eqk (D E : List UInt8) (hD : D.length = 32) (hE : E.length = 32) (w : World) : (Go.binOp .eql 23 (.agg (cellsU8 D).toArray) (.agg (cellsU8 E).toArray)).run Try.prog w = .ok (.bool (decide (D = E))) w := by
  have e : (Op.equal 23 (.agg (cellsU8 D).toArray) (.agg (cellsU8 E).toArray)).run Try.prog w = .ok (decide (D = E)) w := eq_key D E hD hE w
  generalize (Value.agg (cellsU8 D).toArray) = A at *
  unfold Go.binOp
  simp only [Sem.run_bind, e, Result.andThen_ok, Sem.run_pure]
theorem exec_eqk {o : Oper} {a : Act} {x y : Operand} {t' : TypeId} (ho : o.op = .binOp .eql 23 x y t') {D E : List UInt8} (hx : a.eval x = .agg (cellsU8 D).toArray) (hy : a.eval y = .agg (cellsU8 E).toArray) (hD : D.length = 32) (hE : E.length = 32) (w : World) :
    (execOp a.eval o).run Try.prog w = .ok (.value (.bool (decide (D = E)))) w := by
  have e := run_eqk D E hD hE w
  have g := guard_key
  unfold execOp
  simp only [ho, hx, hy]
  unfold eqGuard
  simp [Sem.run_bind, e, g]
theorem quiet_eqk {o : Oper} {a : Act} {C : World → Prop} {K : Act → Prop} (d : Tmp) (hd : o.dst = some d) {x y : Operand} {t' : TypeId} (ho : o.op = .binOp .eql 23 x y t') {D E : List UInt8} (hx : a.eval x = .agg (cellsU8 D).toArray) (hy : a.eval y = .agg (cellsU8 E).toArray) (hD : D.length = 32) (hE : E.length = 32)
    (h : K { a with tmps := a.tmps.setIfInBounds d (.bool (decide (D = E))) }) : o.quiet Try.prog a C K := by
  refine ⟨.bool (decide (D = E)), fun w hw => ?_, by rw [hd]; exact h⟩
  unfold Oper.quietAt
  rw [exec_eqk ho hx hy hD hE w]
  exact ⟨rfl, rfl⟩
theorem run_nek (D E : List UInt8) (hD : D.length = 32) (hE : E.length = 32) (w : World) : (Go.binOp .neq 23 (.agg (cellsU8 D).toArray) (.agg (cellsU8 E).toArray)).run Try.prog w = .ok (.bool (!decide (D = E))) w := by
  have e : (Op.equal 23 (.agg (cellsU8 D).toArray) (.agg (cellsU8 E).toArray)).run Try.prog w = .ok (decide (D = E)) w := eq_key D E hD hE w
  generalize (Value.agg (cellsU8 D).toArray) = A at *
  unfold Go.binOp
  simp only [Sem.run_bind, e, Result.andThen_ok, Sem.run_pure]
theorem exec_nek {o : Oper} {a : Act} {x y : Operand} {t' : TypeId} (ho : o.op = .binOp .neq 23 x y t') {D E : List UInt8} (hx : a.eval x = .agg (cellsU8 D).toArray) (hy : a.eval y = .agg (cellsU8 E).toArray) (hD : D.length = 32) (hE : E.length = 32) (w : World) :
    (execOp a.eval o).run Try.prog w = .ok (.value (.bool (!decide (D = E)))) w := by
  have e := run_nek D E hD hE w
  have g := guard_key
  unfold execOp
  simp only [ho, hx, hy]
  unfold eqGuard
  simp [Sem.run_bind, e, g]
theorem quiet_nek {o : Oper} {a : Act} {C : World → Prop} {K : Act → Prop} (d : Tmp) (hd : o.dst = some d) {x y : Operand} {t' : TypeId} (ho : o.op = .binOp .neq 23 x y t') {D E : List UInt8} (hx : a.eval x = .agg (cellsU8 D).toArray) (hy : a.eval y = .agg (cellsU8 E).toArray) (hD : D.length = 32) (hE : E.length = 32)
    (h : K { a with tmps := a.tmps.setIfInBounds d (.bool (!decide (D = E))) }) : o.quiet Try.prog a C K := by
  refine ⟨.bool (!decide (D = E)), fun w hw => ?_, by rw [hd]; exact h⟩
  unfold Oper.quietAt
  rw [exec_nek ho hx hy hD hE w]
  exact ⟨rfl, rfl⟩
end Go.Proofs.Ytfmfdhcmbnabpaa
