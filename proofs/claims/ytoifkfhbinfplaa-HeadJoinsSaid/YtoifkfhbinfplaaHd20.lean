/- head: heads and extensions compared. -/
import Derived.Test.YtoifkfhbinfplaaHd19
import Derived.Test.YtoifkfhbinfplaaEq
namespace Go.Proofs.Ytoifkfhbinfplaa
open Go Go.RowKit
set_option linter.unusedVariables false
set_option linter.unusedSimpArgs false

def num : Value → Int | .int _ z => z | _ => 0
def eqI (xs ys : List Value) : Nat → Nat → Bool
  | _, 0 => true
  | i, n + 1 => (num (xs.getD i undef) == num (ys.getD i undef)) && eqI xs ys (i + 1) n
def okF (P : Program) : Nat → List Field → Bool
  | _, [] => true
  | i, f :: fs => f.name != "_" && f.offset == i && flatB P f.type && (match P.underlying f.type with | some (.int _) => true | _ => false) && okF P (i + 1) fs
theorem eqF_ints {P : Program} {d : Nat} {xs ys : List Value} (w : World) : ∀ (fs : List Field) (i : Nat), okF P i fs = true →
    (∀ j, j < fs.length → ∃ k a b, xs[i + j]? = some (.int k a) ∧ ys[i + j]? = some (.int k b)) →
    (Op.eqFields (d + 1) xs.toArray ys.toArray fs).run P w = .ok (eqI xs ys i fs.length) w
  | [], i, _, _ => by
    unfold Op.eqFields
    rw [Sem.run_pure]
    rfl
  | f :: fs, i, h, hx => by
    unfold okF at h
    simp only [Bool.and_eq_true, bne_iff_ne, ne_eq, beq_iff_eq] at h
    obtain ⟨⟨⟨⟨h1, h2⟩, h3⟩, h4⟩, h5⟩ := h
    obtain ⟨k, a, b, ha, hb⟩ := hx 0 (by simp)
    rw [Nat.add_zero] at ha hb
    have ih := eqF_ints (d := d) w fs (i + 1) h5 (fun j hj => by
      have := hx (j + 1) (by simp; omega)
      rwa [show i + (j + 1) = i + 1 + j by omega] at this)
    obtain ⟨k', hk'⟩ : ∃ k', P.underlying f.type = some (.int k') := by
      split at h4
      · rename_i k' hk; exact ⟨k', hk⟩
      · cases h4
    have p1 := run_part (P := P) f.type xs.toArray i (.int k a) w h3 (by simpa using ha)
    have p2 := run_part (P := P) f.type ys.toArray i (.int k b) w h3 (by simpa using hb)
    have e1 := run_equalIn_int (P := P) w d f.type k k' a b hk'
    conv => lhs; unfold Op.eqFields
    rw [if_pos h1, h2, Sem.run_bind, p1, Result.andThen_ok, Sem.run_bind, p2, Result.andThen_ok, Sem.run_bind, e1, Result.andThen_ok]
    have hn : eqI xs ys i (f :: fs).length = ((a == b) && eqI xs ys (i + 1) fs.length) := by
      show ((num (xs.getD i undef) == num (ys.getD i undef)) && _) = _
      rw [List.getD, List.getD, ha, hb]
      rfl
    rw [hn]
    cases hab : (a == b) with
    | true =>
      rw [if_neg (by simp), ih, Bool.true_and]
    | false =>
      rw [if_pos (by simp), Sem.run_pure, Bool.false_and]
def Hd.eqb (x y : Hd) : Bool := eqI x.cells y.cells 0 13
theorem Hd.eqb_iff (x y : Hd) : x.eqb y = true ↔ x = y := by
  obtain ⟨a, b, c, d, e, f, g, h, i, j, k, l, m⟩ := x
  obtain ⟨a', b', c', d', e', f', g', h', i', j', k', l', m'⟩ := y
  unfold Hd.eqb Hd.cells
  simp only [eqI, List.getD, num, List.getElem?_cons_zero, List.getElem?_cons_succ, Option.getD_some, Bool.and_true, Bool.and_eq_true, beq_iff_eq, Int.ofNat_inj, Hd.mk.injEq, Nat.zero_add, Nat.reduceAdd]
theorem Hd.eqb_self (x : Hd) : x.eqb x = true := (Hd.eqb_iff x x).2 rfl
theorem Hd.eqb_dec (x y : Hd) [Decidable (x = y)] : x.eqb y = decide (x = y) := by
  rw [Bool.eq_iff_iff, Hd.eqb_iff, decide_eq_true_iff]
theorem okF_head : okF Try.prog 0 (Try.prog.fieldsOf 26).toList = true := by kernel_rfl
theorem len_head : (Try.prog.fieldsOf 26).toList.length = 13 := by kernel_rfl
theorem guard_head : Try.prog.eqGuardType Try.prog.depth 26 = false := by kernel_rfl
theorem str_head : Try.prog.underlying 26 = some (.struct (Try.prog.fieldsOf 26)) := by kernel_rfl
theorem stood_head : Try.prog.stoodInHeld 26 = false := by kernel_rfl
theorem eq_head (x y : Hd) (w : World) : (Op.equalIn 10000 26 (.agg x.cells.toArray) (.agg y.cells.toArray)).run Try.prog w = .ok (x.eqb y) w := by
  rw [show (10000 : Nat) = 9999 + 1 from rfl, run_equalIn_struct (P := Try.prog) w 9999 26 _ _ str_head stood_head]
  have h := eqF_ints (P := Try.prog) (d := 9998) (xs := x.cells) (ys := y.cells) w (Try.prog.fieldsOf 26).toList 0 okF_head (fun j hj => by
    rw [len_head] at hj
    rw [Nat.zero_add]
    match j, hj with
    | 0, _ => exact ⟨_, _, _, rfl, rfl⟩
    | 1, _ => exact ⟨_, _, _, rfl, rfl⟩
    | 2, _ => exact ⟨_, _, _, rfl, rfl⟩
    | 3, _ => exact ⟨_, _, _, rfl, rfl⟩
    | 4, _ => exact ⟨_, _, _, rfl, rfl⟩
    | 5, _ => exact ⟨_, _, _, rfl, rfl⟩
    | 6, _ => exact ⟨_, _, _, rfl, rfl⟩
    | 7, _ => exact ⟨_, _, _, rfl, rfl⟩
    | 8, _ => exact ⟨_, _, _, rfl, rfl⟩
    | 9, _ => exact ⟨_, _, _, rfl, rfl⟩
    | 10, _ => exact ⟨_, _, _, rfl, rfl⟩
    | 11, _ => exact ⟨_, _, _, rfl, rfl⟩
    | 12, _ => exact ⟨_, _, _, rfl, rfl⟩)
  rw [len_head] at h
  exact h
theorem run_eqh (x y : Hd) (w : World) : (Go.binOp .eql 26 (.agg x.cells.toArray) (.agg y.cells.toArray)).run Try.prog w = .ok (.bool (x.eqb y)) w := by
  have e := eq_head x y w
  rw [run_eql_struct, e]
  rfl
theorem exec_eqh {o : Oper} {a : Act} {x y : Operand} {t' : TypeId} (ho : o.op = .binOp .eql 26 x y t') {h k : Hd} (hx : a.eval x = .agg h.cells.toArray) (hy : a.eval y = .agg k.cells.toArray) (w : World) :
    (execOp a.eval o).run Try.prog w = .ok (.value (.bool (h.eqb k))) w := by
  have e := run_eqh h k w
  have g := guard_head
  unfold execOp
  simp only [ho, hx, hy]
  unfold eqGuard
  simp [Sem.run_bind, e, g]
theorem quiet_eqh {o : Oper} {a : Act} {C : World → Prop} {Q : Act → Prop} (d : Tmp) (hd : o.dst = some d) {x y : Operand} {t' : TypeId} (ho : o.op = .binOp .eql 26 x y t') {h k : Hd} (hx : a.eval x = .agg h.cells.toArray) (hy : a.eval y = .agg k.cells.toArray)
    (hq : Q { a with tmps := a.tmps.setIfInBounds d (.bool (h.eqb k)) }) : o.quiet Try.prog a C Q := by
  refine ⟨.bool (h.eqb k), fun w hw => ?_, by rw [hd]; exact hq⟩
  unfold Oper.quietAt
  rw [exec_eqh ho hx hy w]
  exact ⟨rfl, rfl⟩
theorem run_neh (x y : Hd) (w : World) : (Go.binOp .neq 26 (.agg x.cells.toArray) (.agg y.cells.toArray)).run Try.prog w = .ok (.bool (!x.eqb y)) w := by
  have e := eq_head x y w
  rw [run_neq_struct, e]
  rfl
theorem exec_neh {o : Oper} {a : Act} {x y : Operand} {t' : TypeId} (ho : o.op = .binOp .neq 26 x y t') {h k : Hd} (hx : a.eval x = .agg h.cells.toArray) (hy : a.eval y = .agg k.cells.toArray) (w : World) :
    (execOp a.eval o).run Try.prog w = .ok (.value (.bool (!h.eqb k))) w := by
  have e := run_neh h k w
  have g := guard_head
  unfold execOp
  simp only [ho, hx, hy]
  unfold eqGuard
  simp [Sem.run_bind, e, g]
theorem quiet_neh {o : Oper} {a : Act} {C : World → Prop} {Q : Act → Prop} (d : Tmp) (hd : o.dst = some d) {x y : Operand} {t' : TypeId} (ho : o.op = .binOp .neq 26 x y t') {h k : Hd} (hx : a.eval x = .agg h.cells.toArray) (hy : a.eval y = .agg k.cells.toArray)
    (hq : Q { a with tmps := a.tmps.setIfInBounds d (.bool (!h.eqb k)) }) : o.quiet Try.prog a C Q := by
  refine ⟨.bool (!h.eqb k), fun w hw => ?_, by rw [hd]; exact hq⟩
  unfold Oper.quietAt
  rw [exec_neh ho hx hy w]
  exact ⟨rfl, rfl⟩
theorem R_Read (s : ByteArray) (hs : s.size ≤ 500000) (w : World) : Calls Try.prog 20 #[.string s] w fun e w' => ReadP w (readL s).1 (readL s).2.1 (readL s).2.2 e w' := by
  unfold readL
  by_cases h1 : s.size < 48
  · rw [if_pos h1]
    exact R_Read_short s h1 w
  · rw [if_neg h1]
    cases hm : (hdOf (s.extract 0 48)).may with
    | false =>
      rw [if_neg (by simp)]
      exact R_Read_bad s (by omega) hm w
    | true =>
      rw [if_pos rfl]
      have h := R_Read_good s (by omega) hs hm _ rfl w
      split
      · rename_i h0
        rw [if_pos h0, if_pos h0, h0] at h
        exact h
      · rename_i h0
        rw [if_neg h0, if_neg h0] at h
        exact h
/-- what Take tells of any bytes -/
def takeH (s : ByteArray) : Hd × Int := if s.size = 48 then (if (hdOf s).may = true then (hdOf s, 0) else (zeroH, 2)) else (zeroH, 5)
theorem M_Take_any (s : ByteArray) (hs : s.size ≤ 1099511627776) (w : World) : Calls Try.prog 14 #[.string s] w fun e w' => e = .returned (.tuple #[.agg (takeH s).1.cells.toArray, .int .i64 (takeH s).2]) ∧ Below w.heap.size w w' := by
  unfold takeH
  by_cases h : s.size = 48
  · rw [if_pos h]
    have h1 := M_Take s h w
    cases hm : (hdOf s).may with
    | true => rw [hm] at h1; exact h1
    | false => rw [hm] at h1; exact h1
  · rw [if_neg h]
    exact Take_size s h hs w
theorem R_Take_any (s : ByteArray) (hs : s.size ≤ 1099511627776) (w : World) : Calls Try.prog 15 #[.string s] w fun e w' => e = .returned (.tuple #[.agg (takeH s).1.cells.toArray, .int .i64 (takeH s).2]) ∧ Below w.heap.size w w' := by
  unfold takeH
  by_cases h : s.size = 48
  · rw [if_pos h]
    have h1 := R_Take_48 s h w
    cases hm : (hdOf s).may with
    | true => rw [hm] at h1; exact h1
    | false => rw [hm] at h1; exact h1
  · rw [if_neg h]
    exact R_Take_size s h hs w
end Go.Proofs.Ytoifkfhbinfplaa
