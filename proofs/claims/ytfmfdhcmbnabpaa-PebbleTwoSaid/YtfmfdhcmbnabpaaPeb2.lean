/- pebble: a stone appended; Next. -/
import Derived.Test.YtfmfdhcmbnabpaaPeb1
import Derived.Laws.AppendOwn
namespace Go.Proofs.Ytfmfdhcmbnabpaa
open Go Go.RowKit
set_option linter.unusedVariables false
set_option linter.unusedSimpArgs false
attribute [local go_sem] bmax2 bmin2 bmax bmin cell_ext frozen_ext

theorem info_stone3 : (Try.prog.info? 72).map (fun i => (i.zero.map (fun z => z.cells.size), i.size, i.bytes)) = some (some 33, 33, 40) := by kernel_rfl
theorem stone_parts : ∃ (i : TypeInfo) (z : Value), Try.prog.info? 72 = some i ∧ i.zero = some z ∧ z.cells.size = 33 ∧ i.size = 33 ∧ i.bytes = 40 := by
  have h := info_stone3
  cases hq : Try.prog.info? 72 with
  | none => simp [hq] at h
  | some i =>
    rw [hq] at h
    simp only [Option.map_some, Option.some.injEq, Prod.mk.injEq] at h
    obtain ⟨h1, h2, h3⟩ := h
    cases hz : i.zero with
    | none => simp [hz] at h1
    | some z =>
      rw [hz] at h1
      exact ⟨i, z, rfl, hz, by simpa using h1, h2, h3⟩
/-- a stone appended -/
theorem run_append_stone {w : World} {b g cap : Nat} {cur : Array Value} {F : Nat → List UInt8} {n at_ : Nat} {ps : List Nat} (hF : F32 F) (h : Wk w b g cap cur F n at_ ps) (hl : ps.length ≤ 100) {bn m : Nat} (hb : Blk w bn 72 (stoneL F n m).toArray) (ty : TypeId) :
    ∃ g' cap' cur' w', (Builtin.append_ #[73, 73] ty #[.slice (some ⟨g, 0, none⟩) ps.length cap, .slice (some ⟨bn, 0, none⟩) 1 1]).run Try.prog w = .ok (.slice (some ⟨g', 0, none⟩) (ps.length + 1) cap') w' ∧
      Blk w' g' 72 cur' ∧ ps.length + 1 ≤ cap' ∧ cap' ≤ maxLen ∧ cap' * 33 ≤ cur'.size ∧ cur'.toList.take ((ps.length + 1) * 33) = stonesL F n (ps ++ [m]) ∧ w.grownBy w' (some g) ∧ (g' = g ∨ w.heap.size ≤ g') ∧ b ≠ g' := by
  obtain ⟨i, z, hi, hz, hzs, hs, hby⟩ := stone_parts
  have hsl := stoneL_length hF n m
  have hnews : ∀ j u, (stoneL F n m)[j]? = some u → w.cell? ((⟨bn, 0, none⟩ : Addr).add j) = some u := fun j u hu => by rw [addr_add, Nat.zero_add]; exact hb.atL hu
  have hstl := stonesL_length hF n ps
  have htk := h.take
  by_cases hroom : ps.length + 1 ≤ cap
  · have hfit : ps.length * i.size + (stoneL F n m).length ≤ cur.size := by rw [hs, hsl]; have := h.fit; omega
    have hr := run_append_room (P := Try.prog) w 73 ty 72 i Try.underlying73 hi g ps.length cap cur h.row ⟨bn, 0, none⟩ 1 1 (stoneL F n m) (by rw [hs, hsl]) hnews (stoneL_one F n m) hroom hfit
    have hfit2 := h.fit
    refine ⟨g, cap, _, _, hr, setRow_heap w g cur _ _ _ h.row, hroom, h.cap_le, ?_, ?_, gbrow w g _, Or.inl rfl, h.ne⟩
    · simp only [List.size_toArray, List.length_append, List.length_take, List.length_drop, Array.length_toList]
      rw [hs]
      omega
    · simp only [hs]
      rw [stonesL_snoc, htk]
      rw [List.append_assoc, ← List.append_assoc, List.take_append_of_le_length (by rw [List.length_append, hstl, hsl]; omega), List.take_of_length_le (by rw [List.length_append, hstl, hsl]; omega)]
  · have holds : ∀ j u, (stonesL F n ps)[j]? = some u → w.cell? ((⟨g, 0, none⟩ : Addr).add j) = some u := fun j u hu => by
      rw [addr_add, Nat.zero_add, h.row.cell, ← Array.getElem?_toList]
      rw [← htk, List.getElem?_take] at hu
      split at hu
      · exact hu
      · cases hu
    have hr := run_append_grow (P := Try.prog) w 73 ty 72 i z Try.underlying73 hi hz ⟨g, 0, none⟩ ps.length cap (stonesL F n ps) (by rw [hs, hstl]) holds ⟨bn, 0, none⟩ 1 1 (stoneL F n m) (by rw [hs, hsl]) hnews (by omega) (by omega) (growslice_fits (by omega) (by rw [hby]; omega))
    refine ⟨w.heap.size, _, _, _, hr, heap_alloc_new w.drew _, grownCap_ge _ _ _ _, grownCap_le_maxLen w _ _ _ (by unfold maxLen; omega), ?_, ?_, ⟨rfl, rfl, rfl, by simp, fun k hk _ => Below.heap_alloc w.drew _ k hk⟩, Or.inr (Nat.le_refl _), ?_⟩
    · have hge := grownCap_ge w (ps.length + 1) cap 72
      simp only [Array.size_append, List.size_toArray, size_zeroCells, hzs, hstl, hsl]
      omega
    · rw [stonesL_snoc]
      simp only [Array.toList_append, List.append_assoc]
      rw [← List.append_assoc, List.take_append_of_le_length (by rw [List.length_append, hstl, hsl]; omega), List.take_of_length_le (by rw [List.length_append, hstl, hsl]; omega)]
    · have := h.blk.lt; omega
theorem exec_field {P : Program} {o : Oper} {a : Act} {ty : TypeId} {x : Operand} {k : Nat} (ho : o.op = .field ty x k) {xv v : Value} (hx : a.eval x = xv) {w : World} (hr : (Instr.field ty xv k).run P w = .ok v w) : (execOp a.eval o).run P w = .ok (.value v) w := by
  subst hx
  unfold execOp
  simp only [ho, Sem.run_bind, hr, Result.andThen_ok, Sem.run_pure]
theorem wpL_append {P : Program} {ops : Array Oper} {rest : List Oper} {o : Oper} {a : Act} {w w' : World} {Q : Exit → Act → World → Prop} (d : Tmp) (hd : o.dst = some d) (hgd : o.guard = none) (s x : Operand) (t : TypeId)
    (ho : o.op = .call { callee := .builtin .append, args := #[s, x], argTypes := #[t, t] }) {sv xv v : Value} (hs : a.eval s = sv) (hx : a.eval x = xv)
    (hr : (Builtin.append_ #[t, t] o.type #[sv, xv]).run P w = .ok v w') (h : wpList P ops Q rest (a.put (some d) v) w') : wpList P ops Q (o :: rest) a w := by
  refine wpList_plain hgd fun K hK => ?_
  unfold Oper.wp execOp
  simp only [ho, resolve, invoke, builtin, Sem.run_bind, Sem.run_pure, Result.andThen_ok, List.map_toArray, List.map_cons, List.map_nil, hs, hx, hr, Oper.upon, hd]
  exact hK _ _ h
/-- a slice in a new block, as a maker's value -/
def VS (B : Nat) (T : TypeId) (cs : Array Value) (v : Value) (W : World) : Prop := ∃ b, v = .slice (some ⟨b, 0, none⟩) 1 1 ∧ B ≤ b ∧ Blk W b T cs
theorem VS.mono {B : Nat} {T : TypeId} {cs : Array Value} {v : Value} {W W' : World} (h : VS B T cs v W) (hb : Below W.heap.size W W') : VS B T cs v W' := by
  obtain ⟨b, e, hB, hk⟩ := h
  exact ⟨b, e, hB, hk.bel hb⟩
theorem VS.ne {B : Nat} {T : TypeId} {cs : Array Value} {v : Value} {W : World} (h : VS B T cs v W) : Value.slice (some ⟨W.heap.size, 0, none⟩) 1 1 ≠ v ∧ v ≠ .slice (some ⟨W.heap.size, 0, none⟩) 1 1 := by
  obtain ⟨b, rfl, _, hk⟩ := h
  have := hk.lt
  constructor
  · intro e; injection e with e; injection e with e; injection e with e; omega
  · intro e; injection e with e; injection e with e; injection e with e; omega
theorem mk_slice {P : Program} {ops : Array Oper} {w : World} {A : Act} {o : Oper} {T : TypeId} {cs : Array Value} {Vs : Nat → Value → World → Prop} (hg : o.guard = none) (hr : ∀ W : World, (execOp A.eval o).run P W = .ok (.value (.slice (some ⟨W.heap.size, 0, none⟩) 1 1)) (W.alloc (.cells cs T)))
    (hn : ∀ j u W, Vs j u W → Value.slice (some ⟨W.heap.size, 0, none⟩) 1 1 ≠ u ∧ u ≠ .slice (some ⟨W.heap.size, 0, none⟩) 1 1) : MkAt P ops o A w (VS w.heap.size T cs) Vs (· ≠ ·) := by
  refine ⟨by simp [Region.wanted, hg], fun W hW => ?_⟩
  rw [hr W]
  exact ⟨ba (Below.refl _ _) _, ⟨W.heap.size, rfl, hW.size, Blk.new W T cs⟩, fun j u hu => hn j u W hu⟩
end Go.Proofs.Ytfmfdhcmbnabpaa
