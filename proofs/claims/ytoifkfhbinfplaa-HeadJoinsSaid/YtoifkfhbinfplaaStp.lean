/- steps of walks, for any program. -/
import Derived.Test.YtoifkfhbinfplaaMem
namespace Go.Proofs.Ytoifkfhbinfplaa
open Go Go.RowKit
set_option linter.unusedVariables false
set_option linter.unusedSimpArgs false

/-- in a quiet region: a load whose run is known -/
theorem quiet_load {P : Program} {o : Oper} {a : Act} {C : World → Prop} {K : Act → Prop} (d : Tmp) (hd : o.dst = some d) (ty : TypeId) (x : Operand) (ho : o.op = .load ty x) {pv v : Value} (hx : a.eval x = pv)
    (hr : ∀ w, C w → (Instr.loadAt ty pv).run P w = .ok v w) (h : K { a with tmps := a.tmps.setIfInBounds d v }) : o.quiet P a C K := by
  refine ⟨v, fun w hw => ?_, by rw [hd]; exact h⟩
  unfold Oper.quietAt execOp
  simp only [ho, hx, Sem.run_bind, hr w hw, Result.andThen_ok, Sem.run_pure, Oper.quietUpon]
  exact ⟨trivial, trivial⟩
/-- in a quiet region: an operation whose value is known -/
theorem quiet_val {P : Program} {o : Oper} {a : Act} {C : World → Prop} {K : Act → Prop} (d : Tmp) (hd : o.dst = some d) (v : Value) (hr : ∀ w, C w → (execOp a.eval o).run P w = .ok (.value v) w) (h : K { a with tmps := a.tmps.setIfInBounds d v }) : o.quiet P a C K := by
  refine ⟨v, fun w hw => ?_, by rw [hd]; exact h⟩
  unfold Oper.quietAt
  rw [hr w hw]
  exact ⟨rfl, rfl⟩
/-- in a region in its one order, from the operation that writes slot d on: n operations that leave the world as it was but for new blocks -/
theorem wpList_extAt {P : Program} {ops : Array Oper} {Q : Exit → Act → World → Prop} {a : Act} {w : World} {o : Oper} {rest : List Oper} (d : Tmp) (hd : o.dst = some d) (n : Nat)
    (H : wpQuiet P ops (fun w' => ∃ x, w' = w.ext x) (fun a2 => ∀ x, wpList P ops Q ((o :: rest).drop n) a2 (w.ext x)) ((o :: rest).take n) a) : wpList P ops Q (o :: rest) a w := by
  have := wpList_of_quiet (Q := Q) (rest := (o :: rest).drop n) ((o :: rest).take n) a w ⟨w, (ext_of (Below.refl _ _)).symm⟩ (wpQuiet_mono (fun a2 h2 w' hw => by obtain ⟨x, rfl⟩ := hw; exact h2 x) _ _ H)
  rwa [List.take_append_drop] at this
theorem exec_build {P : Program} {o : Oper} {a : Act} {ty : TypeId} {ps : Array (Nat × Operand)} (ho : o.op = .build ty ps) {parts : Array (Nat × Value)} (hp : ps.map (fun p => (p.1, a.eval p.2)) = parts) {v : Value} {w : World} (hr : (Instr.build ty parts).run P w = .ok v w) : (execOp a.eval o).run P w = .ok (.value v) w := by
  subst hp
  unfold execOp
  simp only [ho, Sem.run_bind, hr, Result.andThen_ok, Sem.run_pure]
/-- an operation that makes a new block, in a region in its one order -/
theorem wpL_make {P : Program} {ops : Array Oper} {rest : List Oper} {o : Oper} {a : Act} {w w' : World} {Q : Exit → Act → World → Prop} (d : Tmp) (hd : o.dst = some d) (hgd : o.guard = none) (v : Value)
    (hr : (execOp a.eval o).run P w = .ok (.value v) w') (h : wpList P ops Q rest (a.put (some d) v) w') : wpList P ops Q (o :: rest) a w :=
  wpList_plain hgd fun K hK => by
    unfold Oper.wp
    rw [hr]
    simp only [Oper.upon, hd]
    exact hK _ _ h
theorem exec_buildSlice {P : Program} {o : Oper} {a : Act} {ty : TypeId} {len : Nat} {ps : Array (Nat × Operand)} (ho : o.op = .buildSlice ty len ps) {parts : Array (Nat × Value)} (hp : ps.map (fun p => (p.1, a.eval p.2)) = parts) {v : Value} {w w' : World} (hr : (Instr.buildSlice ty len parts).run P w = .ok v w') : (execOp a.eval o).run P w = .ok (.value v) w' := by
  subst hp
  unfold execOp
  simp only [ho, Sem.run_bind, hr, Result.andThen_ok, Sem.run_pure]

theorem exec_field {P : Program} {o : Oper} {a : Act} {ty : TypeId} {x : Operand} {k : Nat} (ho : o.op = .field ty x k) {xv v : Value} (hx : a.eval x = xv) {w : World} (hr : (Instr.field ty xv k).run P w = .ok v w) : (execOp a.eval o).run P w = .ok (.value v) w := by
  subst hx
  unfold execOp
  simp only [ho, Sem.run_bind, hr, Result.andThen_ok, Sem.run_pure]
theorem wpL_append {P : Program} {ops : Array Oper} {rest : List Oper} {o : Oper} {a : Act} {w w' : World} {Q : Exit → Act → World → Prop} (d : Tmp) (hd : o.dst = some d) (hgd : o.guard = none) (s x : Operand) (t : TypeId)
    (ho : o.op = .call { callee := .builtin .append, args := #[s, x], argTypes := #[t, t] }) {sv xv v : Value} (hs : a.eval s = sv) (hx : a.eval x = xv)
    (hr : (Builtin.append_ #[t, t] o.type #[sv, xv]).run P w = .ok v w') (h : wpList P ops Q rest (a.put (some d) v) w') : wpList P ops Q (o :: rest) a w := by
  refine wpList_plain hgd fun K hK => ?_
  unfold Oper.wp execOp
  simp only [ho, resolve, invoke, builtin, Sem.run_bind, Sem.run_pure, Result.andThen_ok, List.map_toArray, List.map_cons, List.map_nil, hs, hx, hr, Oper.upon, hd]
  exact hK _ _ h
/-- a function with two results: a struct or an array in a block, and a slot -/
theorem res2 {P : Program} {w : World} {fn : Func} {p q : Tmp} {ty : TypeId} (h : fn.results = #[.cell p ty, .tmp q]) (g n : Nat) (t : TypeId) (cs : List Value) (d : TypeDesc) (hu : P.underlying ty = some d) (hd : aggB d = true) (hi : (P.info? ty).map (·.size) = some n) (hn : cs.length = n) (hb : Blk w g t cs.toArray)
    (tmps : Array Value) (hp : tmps.getD p undef = .pointer (some ⟨g, 0, none⟩)) (v : Value) (hq : tmps.getD q undef = v) : (results fn tmps).run P w = .ok (.tuple #[.agg cs.toArray, v]) w := by
  have hp' : tmps[p]?.getD undef = .pointer (some ⟨g, 0, none⟩) := by simpa using hp
  have hq' : tmps[q]?.getD undef = v := by simpa using hq
  have hl := run_loadVar_row (P := P) w g t ty cs.toArray (0, 0) d hb hu (by cases d <;> simp_all [aggB]) (by rw [hi]; simp [hn])
  simp [results, h, hp', hq', asAddr, hl]
end Go.Proofs.Ytoifkfhbinfplaa
