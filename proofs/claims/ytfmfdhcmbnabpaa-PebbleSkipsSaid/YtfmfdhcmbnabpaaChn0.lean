/- chain: plain words, and a mind's cells. -/
import Derived.Test.YtfmfdhcmbnabpaaRMac2
import Derived.Test.YtfmfdhcmbnabpaaEq2
import Derived.Laws.Tables
namespace Go.Proofs.Ytfmfdhcmbnabpaa
open Go Go.RowKit
set_option linter.unusedVariables false
set_option linter.unusedSimpArgs false

def chS : List UInt8 := [99, 104, 97, 105, 110]
def tagS : List UInt8 := [116, 97, 103]
def seedS : List UInt8 := [115, 101, 101, 100]
/-- the key of a chain that is d ahead of the last one -/
def chK (seed : List UInt8) (d : Nat) : List UInt8 := walkD (macD seed chS) d
theorem chK_length (seed : List UInt8) (d : Nat) : (chK seed d).length = 32 := walkD_length _ (macD_length _ _) d
theorem chK_walk (seed : List UInt8) (d e : Nat) : walkD (chK seed d) e = chK seed (d + e) := walkD_add _ d e

/-- a mind's cells -/
def mindL (K : List UInt8) (a : Int) : List Value := cellsU8 K ++ [.int .i64 a]
theorem mindL_length (K : List UInt8) (a : Int) (h : K.length = 32) : (mindL K a).length = 33 := by simp [mindL, length_cellsU8, h]
theorem mindL_one (K : List UInt8) (a : Int) : ∀ v ∈ mindL K a, v.oneCell' = true := by
  intro v hv
  simp only [mindL, List.mem_append, List.mem_singleton] at hv
  rcases hv with h | rfl
  · exact cellsU8_one _ v h
  · rfl
theorem mindL_at (K : List UInt8) (a : Int) (h : K.length = 32) : (mindL K a)[32]? = some (.int .i64 a) := by
  unfold mindL
  rw [List.getElem?_append_right (by rw [length_cellsU8]; omega), length_cellsU8, h]; rfl
theorem mindL_key (K : List UInt8) (a : Int) (h : K.length = 32) (j : Nat) (v : Value) (hv : (cellsU8 K)[j]? = some v) : (mindL K a)[j]? = some v := by
  unfold mindL
  rw [List.getElem?_append_left (List.getElem?_eq_some_iff.1 hv).1]; exact hv
theorem list32 {α : Type} (K : List α) (h : K.length = 32) : ∃ f : Fin 32 → α, K = List.ofFn f := ⟨fun i => K[i]'(by omega), by
  apply List.ext_getElem
  · rw [List.length_ofFn, h]
  · intro i h1 h2; rw [List.getElem_ofFn]; rfl⟩
theorem zero_key : cellsU8 (List.replicate 32 0) = cellsU8 (List.replicate 32 0) := rfl
set_option maxRecDepth 100000 in
theorem build_mind (K : List UInt8) (a : Int) (h : K.length = 32) (W : World) : (Instr.build 34 #[(0, .agg (cellsU8 K).toArray), (1, .int .i64 a)]).run Try.prog W = .ok (.agg (mindL K a).toArray) W := by
  obtain ⟨f, rfl⟩ := list32 K h
  exact run_build W 34 _ _ (by kernel_rfl)
/-- in a quiet region: an operation whose value is known -/
theorem quiet_val {P : Program} {o : Oper} {a : Act} {C : World → Prop} {K : Act → Prop} (d : Tmp) (hd : o.dst = some d) (v : Value) (hr : ∀ w, C w → (execOp a.eval o).run P w = .ok (.value v) w) (h : K { a with tmps := a.tmps.setIfInBounds d v }) : o.quiet P a C K := by
  refine ⟨v, fun w hw => ?_, by rw [hd]; exact h⟩
  unfold Oper.quietAt
  rw [hr w hw]
  exact ⟨rfl, rfl⟩
/-- in a region in its one order, from the operation that writes slot d on: n operations that leave the world as it was but for new blocks -/
theorem wpList_extAt {P : Program} {ops : Array Oper} {Q : Exit → Act → World → Prop} {a : Act} {w : World} {o : Oper} {rest : List Oper} (d : Tmp) (hd : o.dst = some d) (n : Nat)
    (H : wpQuiet P ops (fun w' => ∃ x, w' = w.ext x) (fun a2 => ∀ x, wpList P ops Q ((o :: rest).drop n) a2 (w.ext x)) ((o :: rest).take n) a) : wpList P ops Q (o :: rest) a w := by
  have := wpList_of_quiet (Q := Q) (rest := (o :: rest).drop n) ((o :: rest).take n) a w ⟨w, (ext_of (Below.refl _ _)).symm⟩ (wpQuiet_mono (fun a2 h2 w' hw => by obtain ⟨x, rfl⟩ := hw; exact h2 x) _ _ H)
  rwa [List.take_append_drop] at this
theorem exec_build {P : Program} {o : Oper} {a : Act} {ty : TypeId} {ps : Array (Nat × Operand)} (ho : o.op = .build ty ps) {parts : Array (Nat × Value)} (hp : ps.map (fun p => (p.1, a.eval p.2)) = parts) {v : Value} {w : World} (hr : (Instr.build ty parts).run P w = .ok v w) : (execOp a.eval o).run P w = .ok (.value v) w := by
  subst hp
  unfold execOp
  simp only [ho, Sem.run_bind, hr, Result.andThen_ok, Sem.run_pure]
theorem info_mind : (Try.prog.info? 34).map (·.size) = some 33 := by kernel_rfl
theorem info_int : (Try.prog.info? 3).map (·.size) = some 1 := by kernel_rfl

/-- a key as a part of a row of cells -/
theorem part_key (cs : Array Value) (o : Nat) (K : List UInt8) (hK : K.length = 32) (h : ∀ j v, (cellsU8 K)[j]? = some v → cs[o + j]? = some v) (hs : o + 32 ≤ cs.size) (w : World) : (part 23 cs o).run Try.prog w = .ok (.agg (cellsU8 K).toArray) w := by
  have hagg : (isAgg 23).run Try.prog w = .ok true w := by
    unfold isAgg
    rw [Sem.run_bind, run_underlying Try.underlying23 w]
    rfl
  have hi := info_key
  cases hq : Try.prog.info? 23 with
  | none => simp [hq] at hi
  | some i =>
    have hz : i.size = 32 := by simpa [hq] using hi
    have e : cs.extract o (o + 32) = (cellsU8 K).toArray := by
      apply Array.ext
      · simp [length_cellsU8, hK]; omega
      · intro j h1 h2
        have hj : j < (cellsU8 K).length := by simpa using h2
        have := h j _ (List.getElem?_eq_getElem hj)
        rw [Array.getElem_extract]
        obtain ⟨_, h3⟩ := Array.getElem?_eq_some_iff.1 this
        rw [h3]; simp
    simp [part, Sem.run_bind, hagg, sizeOf, typeInfo, hq, hz, e]
theorem part_int (cs : Array Value) (o : Nat) (a : Int) (h : cs[o]? = some (.int .i64 a)) (w : World) : (part 3 cs o).run Try.prog w = .ok (.int .i64 a) w :=
  run_part 3 cs o _ w (by unfold flatB; rw [Try.underlying3]) h

theorem map_two {α β : Type} {g : α → β} {l : List α} {a b : β} (h : l.map g = [a, b]) : ∃ x y, l = [x, y] ∧ g x = a ∧ g y = b := by
  cases l with
  | nil => simp at h
  | cons x l => cases l with
    | nil => simp at h
    | cons y l => cases l with
      | nil =>
        simp only [List.map_cons, List.map_nil, List.cons.injEq, and_true] at h
        exact ⟨x, y, rfl, h.1, h.2⟩
      | cons z l => simp at h
theorem fields_mind : (Try.prog.fieldsOf 34).toList.map (fun f => (f.name == "_", f.type, f.offset)) = [(false, 23, 0), (false, 3, 32)] := by kernel_rfl
theorem eq_mind (K K' : List UInt8) (a a' : Int) (h : K.length = 32) (h' : K'.length = 32) (w : World) :
    (Op.equal 34 (.agg (mindL K a).toArray) (.agg (mindL K' a').toArray)).run Try.prog w = .ok (decide (K = K' ∧ a = a')) w := by
  have hs := run_equalIn_struct (P := Try.prog) w 9999 34 (mindL K a).toArray (mindL K' a').toArray (by kernel_rfl) (by kernel_rfl)
  refine Eq.trans hs ?_
  clear hs
  have hf := fields_mind
  generalize (Try.prog.fieldsOf 34).toList = fs at hf
  obtain ⟨f1, f2, rfl, hf1, hf2⟩ := map_two hf
  · simp only [Prod.mk.injEq, beq_eq_false_iff_ne, ne_eq] at hf1 hf2
    obtain ⟨n1, t1, o1⟩ := hf1
    obtain ⟨n2, t2, o2⟩ := hf2
    have p1 := part_key (mindL K a).toArray 0 K h (fun j v hv => by rw [Nat.zero_add]; simpa using mindL_key K a h j v hv) (by simp [mindL_length K a h]) w
    have p2 := part_key (mindL K' a').toArray 0 K' h' (fun j v hv => by rw [Nat.zero_add]; simpa using mindL_key K' a' h' j v hv) (by simp [mindL_length K' a' h']) w
    have p3 := part_int (mindL K a).toArray 32 a (by simpa using mindL_at K a h) w
    have p4 := part_int (mindL K' a').toArray 32 a' (by simpa using mindL_at K' a' h') w
    have e1 := run_equalIn_u8arr (P := Try.prog) 9997 32 23 5 K K' w Try.underlying23 Try.underlying5 (by kernel_rfl) h h'
    have e2 := run_equalIn_int (P := Try.prog) w 9998 3 .i64 .i64 a a' Try.underlying3
    rw [show (9997 + 2 : Nat) = 9999 from rfl] at e1
    rw [show (9998 + 1 : Nat) = 9999 from rfl] at e2
    have st : ∀ (f : Field) (fs : List Field) (xs ys : Array Value), f.name ≠ "_" → (Op.eqFields 9999 xs ys (f :: fs)) = (do
        let a ← part f.type xs f.offset
        let b ← part f.type ys f.offset
        let r ← Op.equalIn 9999 f.type a b
        if (!r) = true then pure false else Op.eqFields 9999 xs ys fs) := fun f fs xs ys hn => by
      conv => lhs; unfold Op.eqFields
      rw [if_pos hn]
    rw [st f1 _ _ _ n1, t1, o1, Sem.run_bind, p1, Result.andThen_ok, Sem.run_bind, p2, Result.andThen_ok, Sem.run_bind, e1, Result.andThen_ok]
    by_cases hk : K = K'
    · rw [decide_eq_true hk, if_neg (by decide), st f2 _ _ _ n2, t2, o2, Sem.run_bind, p3, Result.andThen_ok, Sem.run_bind, p4, Result.andThen_ok, Sem.run_bind, e2, Result.andThen_ok]
      by_cases ha : a = a'
      · rw [beq_iff_eq.2 ha, if_neg (by decide), decide_eq_true ⟨hk, ha⟩]
        unfold Op.eqFields
        rw [Sem.run_pure]
      · rw [beq_eq_false_iff_ne.2 ha, if_pos (by decide), decide_eq_false (fun h => ha h.2), Sem.run_pure]
    · rw [decide_eq_false hk, if_pos (by decide), decide_eq_false (fun h => hk h.1), Sem.run_pure]
theorem guard_mind : Try.prog.eqGuardType Try.prog.depth 34 = false := by kernel_rfl
theorem run_eqm (K K' : List UInt8) (a a' : Int) (h : K.length = 32) (h' : K'.length = 32) (w : World) : (Go.binOp .eql 34 (.agg (mindL K a).toArray) (.agg (mindL K' a').toArray)).run Try.prog w = .ok (.bool (decide (K = K' ∧ a = a'))) w := by
  have e := eq_mind K K' a a' h h' w
  unfold Go.binOp
  simp only [Sem.run_bind, e, Result.andThen_ok, Sem.run_pure]
theorem exec_eqm {o : Oper} {a : Act} {x y : Operand} {t' : TypeId} (ho : o.op = .binOp .eql 34 x y t') {K K' : List UInt8} {i i' : Int} (hx : a.eval x = .agg (mindL K i).toArray) (hy : a.eval y = .agg (mindL K' i').toArray) (hK : K.length = 32) (hK' : K'.length = 32) (w : World) :
    (execOp a.eval o).run Try.prog w = .ok (.value (.bool (decide (K = K' ∧ i = i')))) w := by
  have e := run_eqm K K' i i' hK hK' w
  have g := guard_mind
  unfold execOp
  simp only [ho, hx, hy]
  unfold eqGuard
  simp [Sem.run_bind, e, g]
theorem quiet_eqm {o : Oper} {a : Act} {C : World → Prop} {Q : Act → Prop} (d : Tmp) (hd : o.dst = some d) {x y : Operand} {t' : TypeId} (ho : o.op = .binOp .eql 34 x y t') {K K' : List UInt8} {i i' : Int} (hx : a.eval x = .agg (mindL K i).toArray) (hy : a.eval y = .agg (mindL K' i').toArray) (hK : K.length = 32) (hK' : K'.length = 32)
    (h : Q { a with tmps := a.tmps.setIfInBounds d (.bool (decide (K = K' ∧ i = i'))) }) : o.quiet Try.prog a C Q := by
  refine ⟨.bool (decide (K = K' ∧ i = i')), fun w hw => ?_, by rw [hd]; exact h⟩
  unfold Oper.quietAt
  rw [exec_eqm ho hx hy hK hK' w]
  exact ⟨rfl, rfl⟩
theorem run_nem (K K' : List UInt8) (a a' : Int) (h : K.length = 32) (h' : K'.length = 32) (w : World) : (Go.binOp .neq 34 (.agg (mindL K a).toArray) (.agg (mindL K' a').toArray)).run Try.prog w = .ok (.bool (!decide (K = K' ∧ a = a'))) w := by
  have e := eq_mind K K' a a' h h' w
  unfold Go.binOp
  simp only [Sem.run_bind, e, Result.andThen_ok, Sem.run_pure]
theorem exec_nem {o : Oper} {a : Act} {x y : Operand} {t' : TypeId} (ho : o.op = .binOp .neq 34 x y t') {K K' : List UInt8} {i i' : Int} (hx : a.eval x = .agg (mindL K i).toArray) (hy : a.eval y = .agg (mindL K' i').toArray) (hK : K.length = 32) (hK' : K'.length = 32) (w : World) :
    (execOp a.eval o).run Try.prog w = .ok (.value (.bool (!decide (K = K' ∧ i = i')))) w := by
  have e := run_nem K K' i i' hK hK' w
  have g := guard_mind
  unfold execOp
  simp only [ho, hx, hy]
  unfold eqGuard
  simp [Sem.run_bind, e, g]

/-- a function with two results: a struct or an array in a block, and a slot -/
theorem res2 {P : Program} {w : World} {fn : Func} {p q : Tmp} {ty : TypeId} (h : fn.results = #[.cell p ty, .tmp q]) (g n : Nat) (t : TypeId) (cs : List Value) (d : TypeDesc) (hu : P.underlying ty = some d) (hd : aggB d = true) (hi : (P.info? ty).map (·.size) = some n) (hn : cs.length = n) (hb : Blk w g t cs.toArray)
    (tmps : Array Value) (hp : tmps.getD p undef = .pointer (some ⟨g, 0, none⟩)) (v : Value) (hq : tmps.getD q undef = v) : (results fn tmps).run P w = .ok (.tuple #[.agg cs.toArray, v]) w := by
  have hp' : tmps[p]?.getD undef = .pointer (some ⟨g, 0, none⟩) := by simpa using hp
  have hq' : tmps[q]?.getD undef = v := by simpa using hq
  have hl := run_loadVar_row (P := P) w g t ty cs.toArray (0, 0) d hb hu (by cases d <;> simp_all [aggB]) (by rw [hi]; simp [hn])
  simp [results, h, hp', hq', asAddr, hl]
end Go.Proofs.Ytfmfdhcmbnabpaa
