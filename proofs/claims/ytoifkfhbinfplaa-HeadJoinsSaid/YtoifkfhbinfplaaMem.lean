/- Memory words: a block that is known whole, and what leaves it so. -/
import Derived.Test.YtoifkfhbinfplaaBase
import Derived.Test.YtoifkfhbinfplaaPl
import Derived.Laws.OwnMore
import Derived.Laws.Rows
import Derived.Deep.Draws
namespace Go.Proofs.Ytoifkfhbinfplaa
open Go Go.RowKit
set_option linter.unusedVariables false
set_option linter.unusedSimpArgs false

/-- block g is just the cells cs of element type t, none frozen -/
def Blk (w : World) (g : Nat) (t : TypeId) (cs : Array Value) : Prop := w.heap[g]? = some (.cells cs t (0, 0))
section
variable {w w' : World} {g : Nat} {t : TypeId} {cs : Array Value}
theorem Blk.lt (h : Blk w g t cs) : g < w.heap.size := by
  rcases Nat.lt_or_ge g w.heap.size with hlt | hge
  · exact hlt
  · unfold Blk at h; rw [Array.getElem?_eq_none hge] at h; cases h
theorem Blk.cell (h : Blk w g t cs) (i : Nat) : w.cell? ⟨g, i, none⟩ = cs[i]? := cell_of_row w g i cs t (0, 0) h
theorem Blk.at (h : Blk w g t cs) {i : Nat} {v : Value} (hv : cs[i]? = some v) : w.cell? ⟨g, i, none⟩ = some v := (h.cell i).trans hv
theorem Blk.atL {l : List Value} (h : Blk w g t l.toArray) {i : Nat} {v : Value} (hv : l[i]? = some v) : w.cell? ⟨g, i, none⟩ = some v := h.at (by simpa using hv)
theorem Blk.setL {l : List Value} (h : Blk w g t l.toArray) (i : Nat) (u : Value) : Blk (w.setCell ⟨g, i, none⟩ u) g t (l.set i u).toArray := by
  unfold Blk at h ⊢
  simp [World.setCell, Array.getElem?_modify, h]
theorem Blk.frozen (h : Blk w g t cs) (i : Nat) : w.frozen? ⟨g, i, none⟩ = false := frozen_of_row w g i cs t h
theorem Blk.new (w : World) (t : TypeId) (cs : Array Value) : Blk (w.alloc (.cells cs t)) w.heap.size t cs := heap_alloc_new w _
theorem Blk.drewN (h : Blk w g t cs) (n : Nat) : Blk (w.drewN n) g t cs := by unfold Blk at *; simpa using h
theorem Blk.alloc (h : Blk w g t cs) (o : Obj) : Blk (w.alloc o) g t cs := (Below.heap_alloc w o g h.lt).trans h
theorem Blk.set_ (h : Blk w g t cs) (i : Nat) (u : Value) : Blk (w.setCell ⟨g, i, none⟩ u) g t (cs.setIfInBounds i u) := by
  unfold Blk at h ⊢
  simp [World.setCell, Array.getElem?_modify, h]
theorem Blk.row (h : Blk w g t cs) (cs' : Array Value) : Blk (w.setRow g cs') g t cs' := by
  unfold Blk at h ⊢
  simp [World.setRow, Array.getElem?_modify, h]
theorem Blk.rowfar (h : Blk w g t cs) {b : Nat} (hne : g ≠ b) (cs' : Array Value) : Blk (w.setRow b cs') g t cs := by
  unfold Blk at h ⊢
  simp only [World.setRow, Array.getElem?_modify]
  rw [if_neg (fun e => hne e.symm)]; exact h
theorem Blk.far (h : Blk w g t cs) {p : Addr} (hp : g ≠ p.block) (u : Value) : Blk (w.setCell p u) g t cs := (Below.heap_setCell w p u g hp).trans h
theorem Blk.below {B : Nat} (h : Blk w g t cs) (hb : Below B w w') (hg : g < B) : Blk w' g t cs := (hb.block g hg).trans h
theorem Blk.bel (h : Blk w g t cs) (hb : Below w.heap.size w w') : Blk w' g t cs := h.below hb h.lt
theorem Blk.grown {row : Option Nat} (h : Blk w g t cs) (hb : w.grownBy w' row) (hg : some g ≠ row) : Blk w' g t cs := (hb.block g h.lt hg).trans h
theorem Blk.ne_ {g' : Nat} {t' : TypeId} {cs' : Array Value} (h : Blk w g t cs) (h' : Blk w g' t' cs') (hne : t ≠ t') : g ≠ g' := by
  rintro rfl
  unfold Blk at h h'
  rw [h] at h'
  injection h' with h'
  injection h' with _ ht
  exact hne ht
end
/-- a store into a block behind B -/
theorem bsc {B : Nat} {w w' : World} (h : Below B w w') {p : Addr} (hp : B ≤ p.block) (u : Value) : Below B w (w'.setCell p u) := h.setCell hp u
theorem bsr {B : Nat} {w w' : World} (h : Below B w w') {b : Nat} (hp : B ≤ b) (hs : B ≤ w'.heap.size) (cs : Array Value) : Below B w (w'.setRow b cs) := h.grown (gbrow w' b cs) hs (fun k hk => by injection hk with e; omega)

theorem addr_add (g o j : Nat) : (⟨g, o, none⟩ : Addr).add j = ⟨g, o + j, none⟩ := by unfold Addr.add; split <;> simp_all
def aggB (d : TypeDesc) : Bool := match d with | .struct _ | .array _ _ => true | _ => false
/-- a struct or an array, loaded whole -/
theorem ld_row {P : Program} {w : World} (g o n ty : Nat) (cs : List Value) (d : TypeDesc) (hu : P.underlying ty = some d) (hd : aggB d = true) (hi : (P.info? ty).map (·.size) = some n) (hn : cs.length = n)
    (hc : ∀ j v, cs[j]? = some v → w.cell? ⟨g, o + j, none⟩ = some v) : (Instr.loadAt ty (.pointer (some ⟨g, o, none⟩))).run P w = .ok (.agg cs.toArray) w := by
  have hl : (loadCells ⟨g, o, none⟩ cs.length).run P w = .ok cs.toArray w := run_loadCells_list (P := P) w ⟨g, o, none⟩ cs (fun j v hv => by rw [addr_add]; exact hc j v hv)
  cases hq : P.info? ty with
  | none => simp [hq] at hi
  | some i =>
    have hs : i.size = n := by simpa [hq] using hi
    have hagg : (isAgg ty).run P w = .ok true w := by
      unfold isAgg
      rw [Sem.run_bind, run_underlying hu w]
      cases d <;> simp_all [aggB]
    rw [hn] at hl
    simp [Instr.loadAt, Instr.sureAddr, loadVar, Sem.run_bind, hagg, sizeOf, typeInfo, hq, hs, hl]
/-- .. stored whole -/
theorem st_row {P : Program} {w : World} (g o n ty : Nat) (t : TypeId) (cs cur : List Value) (hi : (P.info? ty).map (·.size) = some n) (hn : cs.length = n) (hb : Blk w g t cur.toArray) (hf : o + n ≤ cur.length) (h1 : ∀ v ∈ cs, v.oneCell' = true) :
    (Instr.storeAt ty (.pointer (some ⟨g, o, none⟩)) (.agg cs.toArray)).run P w = .ok () (w.setRow g (cur.take o ++ cs ++ cur.drop (o + n)).toArray) := by
  have hst := run_storeCells_at P g o t cs 0 cur.toArray w hb (by simpa [hn] using hf) h1
  cases hq : P.info? ty with
  | none => simp [hq] at hi
  | some i =>
    have hs : i.size = n := by simpa [hq] using hi
    have e : (Value.agg cs.toArray).cells = cs.toArray := rfl
    simp only [Nat.add_zero, hn] at hst
    simp [Instr.storeAt, Instr.sureAddr, storeVar, Sem.run_bind, sizeOf, typeInfo, hq, hs, e, hn, hst]
theorem Blk.setRow_self {w : World} {g : Nat} {t : TypeId} {cs : Array Value} (h : Blk w g t cs) : w.setRow g cs = w := Go.setRow_self w g cs t (0, 0) h
/-- a block's own content stored into it -/
theorem st_same {P : Program} {w : World} (g n ty : Nat) (t : TypeId) (cs : List Value) (hi : (P.info? ty).map (·.size) = some n) (hn : cs.length = n) (hb : Blk w g t cs.toArray) (h1 : ∀ v ∈ cs, v.oneCell' = true) :
    (Instr.storeAt ty (.pointer (some ⟨g, 0, none⟩)) (.agg cs.toArray)).run P w = .ok () w := by
  rw [st_row g 0 n ty t cs cs hi hn hb (by omega) h1, List.take_zero, List.nil_append, List.drop_of_length_le (by omega), List.append_nil, hb.setRow_self]
/-- a block's whole content stored anew -/
theorem st_all {P : Program} {w : World} (g n ty : Nat) (t : TypeId) (cs cur : List Value) (hi : (P.info? ty).map (·.size) = some n) (hn : cs.length = n) (hc : cur.length = n) (hb : Blk w g t cur.toArray) (h1 : ∀ v ∈ cs, v.oneCell' = true) :
    (Instr.storeAt ty (.pointer (some ⟨g, 0, none⟩)) (.agg cs.toArray)).run P w = .ok () (w.setRow g cs.toArray) := by
  rw [st_row g 0 n ty t cs cur hi hn hb (by omega) h1, List.take_zero, List.nil_append, List.drop_of_length_le (by omega), List.append_nil]
theorem ld_all {P : Program} {w : World} (g n ty : Nat) (t : TypeId) (cs : List Value) (d : TypeDesc) (hu : P.underlying ty = some d) (hd : aggB d = true) (hi : (P.info? ty).map (·.size) = some n) (hn : cs.length = n) (hb : Blk w g t cs.toArray) :
    (Instr.loadAt ty (.pointer (some ⟨g, 0, none⟩))).run P w = .ok (.agg cs.toArray) w :=
  ld_row g 0 n ty cs d hu hd hi hn fun j v hv => by rw [Nat.zero_add]; exact hb.atL hv
/-- a function whose one result is a struct or an array in a block -/
theorem res_all {P : Program} {w : World} {fn : Func} {p : Tmp} {ty : TypeId} (h : fn.results = #[.cell p ty]) (g n : Nat) (t : TypeId) (cs : List Value) (d : TypeDesc) (hu : P.underlying ty = some d) (hd : aggB d = true) (hi : (P.info? ty).map (·.size) = some n) (hn : cs.length = n) (hb : Blk w g t cs.toArray)
    (tmps : Array Value) (hp : tmps.getD p undef = .pointer (some ⟨g, 0, none⟩)) : (results fn tmps).run P w = .ok (.agg cs.toArray) w :=
  results_cell_row h tmps w g t cs.toArray (0, 0) d hp hb hu (by cases d <;> simp_all [aggB]) (by rw [hi]; simp [hn])
/-- an operation whose value is known, picked by its slot -/
theorem wpL_val {P : Program} {ops : Array Oper} {rest : List Oper} {o : Oper} {a : Act} {w : World} {Q : Exit → Act → World → Prop} (d : Tmp) (hd : o.dst = some d) (hgd : o.guard = none) (v : Value)
    (hr : (execOp a.eval o).run P w = .ok (.value v) w) (h : wpList P ops Q rest (a.put (some d) v) w) : wpList P ops Q (o :: rest) a w :=
  wpList_plain hgd fun K hK => by
    unfold Oper.wp
    rw [hr]
    simp only [Oper.upon, hd]
    exact hK _ _ h
/-- a load whose run is known -/
theorem wpL_load {P : Program} {ops : Array Oper} {rest : List Oper} {o : Oper} {a : Act} {w : World} {Q : Exit → Act → World → Prop} (hgd : o.guard = none) (ty : TypeId) (x : Operand) (ho : o.op = .load ty x) {pv v : Value} (hx : a.eval x = pv)
    (hr : (Instr.loadAt ty pv).run P w = .ok v w) (h : wpList P ops Q rest (a.put o.dst v) w) : wpList P ops Q (o :: rest) a w :=
  wpList_plain hgd fun K hK => by
    unfold Oper.wp execOp
    simp only [ho, hx, Sem.run_bind, hr, Result.andThen_ok, Sem.run_pure]
    exact hK _ _ h
/-- a store whose run is known -/
theorem wpL_store {P : Program} {ops : Array Oper} {rest : List Oper} {o : Oper} {a : Act} {w w' : World} {Q : Exit → Act → World → Prop} (hgd : o.guard = none) (ty : TypeId) (x y : Operand) (ho : o.op = .store ty x y) {pv v : Value} (hx : a.eval x = pv) (hy : a.eval y = v)
    (hr : (Instr.storeAt ty pv v).run P w = .ok () w') (h : wpList P ops Q rest (a.put o.dst undef) w') : wpList P ops Q (o :: rest) a w :=
  wpList_plain hgd fun K hK => by
    unfold Oper.wp execOp
    simp only [ho, hx, hy, Sem.run_bind, hr, Result.andThen_ok, Sem.run_pure]
    exact hK _ _ h
/-- what the walk makes of a store of a struct or an array: cells stored one behind the other (lay it with the length of 'cs' open) -/
theorem sc_row {P : Program} {w : World} (g o : Nat) (t : TypeId) (cs cur : List Value) (hb : Blk w g t cur.toArray) (hf : o + cs.length ≤ cur.length) (h1 : ∀ v ∈ cs, v.oneCell' = true) :
    (storeCells ⟨g, o, none⟩ cs).run P w = .ok () (w.setRow g (cur.take o ++ cs ++ cur.drop (o + cs.length)).toArray) := by
  have hst := run_storeCells_at P g o t cs 0 cur.toArray w hb (by simpa using hf) h1
  simpa using hst
theorem sc_all {P : Program} {w : World} (g : Nat) (t : TypeId) (cs cur : List Value) (hb : Blk w g t cur.toArray) (hf : cs.length = cur.length) (h1 : ∀ v ∈ cs, v.oneCell' = true) :
    (storeCells ⟨g, 0, none⟩ cs).run P w = .ok () (w.setRow g cs.toArray) := by
  rw [sc_row g 0 t cs cur hb (by omega) h1, List.take_zero, List.nil_append, List.drop_of_length_le (by omega), List.append_nil]
theorem sc_same {P : Program} {w : World} (g : Nat) (t : TypeId) (cs : List Value) (hb : Blk w g t cs.toArray) (h1 : ∀ v ∈ cs, v.oneCell' = true) : (storeCells ⟨g, 0, none⟩ cs).run P w = .ok () w := by
  rw [sc_all g t cs cs hb rfl h1, hb.setRow_self]
/-- the last block's whole content stored anew -/
theorem sc_new {P : Program} (w : World) (t : TypeId) (cs : List Value) (h1 : ∀ v ∈ cs, v.oneCell' = true) (cur : Array Value) (hc : cur.size = cs.length) : (storeCells ⟨w.heap.size, 0, none⟩ cs).run P (w.alloc (.cells cur t)) = .ok () (w.alloc (.cells cs.toArray t)) := by
  have h := sc_all (P := P) w.heap.size t cs cur.toList (w := w.alloc (.cells cur t)) (by rw [Array.toArray_toList]; exact Blk.new w t cur) (by rw [Array.length_toList]; exact hc.symm) h1
  rw [h]
  congr 1
  unfold World.setRow World.alloc
  congr 1
  apply Array.ext
  · simp
  · intro i h1 h2
    simp only [Array.getElem_modify]
    split
    · rename_i he
      subst he
      simp
    · rename_i he
      have : i < w.heap.size := by simp at h1; omega
      simp [Array.getElem_push, this]
def flatB (P : Program) (e : TypeId) : Bool := match P.underlying e with | some (.struct _) => false | some (.array _ _) => false | none => false | _ => true
/-- an array's value, indexed; its elements one cell each -/
theorem run_index_row {P : Program} {cs : List Value} {n : Nat} (t e : TypeId) (hu : P.underlying t = some (.array n e)) (he : (P.info? e).map (·.size) = some 1) (hf : flatB P e = true) (hn : cs.length = n) (k : Nat) (v : Value) (hv : cs[k]? = some v) (W : World) :
    (Instr.index t (.agg cs.toArray) (.int .i64 k)).run P W = .ok v W := by
  have hk : k < n := by rw [← hn]; exact (List.getElem?_eq_some_iff.1 hv).1
  cases hq : P.info? e with
  | none => simp [hq] at he
  | some i =>
    have hs : i.size = 1 := by simpa [hq] using he
    unfold flatB at hf
    cases hd : P.underlying e with
    | none => rw [hd] at hf; cases hf
    | some d =>
      rw [hd] at hf
      have hagg : (isAgg e).run P W = .ok false W := by
        unfold isAgg
        rw [Sem.run_bind, run_underlying hd W]
        cases d <;> simp_all
      simp [Instr.index, asIntOf, Sem.run_bind, run_underlying hu W, part, hagg, sizeOf, typeInfo, hq, hs, hk, hv]
theorem cellsU8_one (l : List UInt8) : ∀ v ∈ cellsU8 l, v.oneCell' = true := by
  intro v hv; simp only [cellsU8, List.mem_map] at hv; obtain ⟨x, _, rfl⟩ := hv; rfl
theorem madeCells_toArray {α : Type} (l : List α) : l.toArray.toList = l := rfl
theorem ret_int {k : IntKind} {a b : Int} (h : a = b) : Ending.returned (.int k a) = .returned (.int k b) := by rw [h]
theorem size_all (w : World) (o : Obj) : (w.alloc o).heap.size = w.heap.size + 1 := by simp
/-- cells of numbers of 32 bits -/
def c32 (l : List Nat) : List Value := l.map fun (x : Nat) => .int .u32 (x : Int)
def arr32 (l : List Nat) : Value := .agg (c32 l).toArray
theorem length_c32 (l : List Nat) : (c32 l).length = l.length := by simp [c32]
theorem c32_get {l : List Nat} {i : Nat} (h : i < l.length) : (c32 l)[i]? = some (.int .u32 (l.getD i 0 : Nat)) := by
  simp [c32, h]
theorem c32_one (l : List Nat) : ∀ v ∈ c32 l, v.oneCell' = true := by
  intro v hv; simp only [c32, List.mem_map] at hv; obtain ⟨x, _, rfl⟩ := hv; rfl
theorem c32_set (l : List Nat) (i x : Nat) : (c32 l).set i (.int .u32 (x : Int)) = c32 (l.set i x) := by simp [c32, List.map_set]
/-- a part of a text -/
theorem slice_str {P : Program} (t : TypeId) (hu : P.underlying t = some .string) (s : ByteArray) (a b : Nat) (x y : Int) (hx : x = a) (hy : y = b) (h1 : a ≤ b) (h2 : b ≤ s.size) (W : World) :
    (Instr.slice t (.string s) (some (.int .i64 x)) (some (.int .i64 y)) none).run P W = .ok (.string (s.extract a b)) W := by
  subst hx hy
  have e1 : (a : Int) ≤ (b : Int) := by omega
  have e2 : (b : Int) ≤ (s.size : Int) := by omega
  simp [Instr.slice, run_underlying hu, Instr.sliceBounds, run_sliceBound, h1, h2]
/-- bytes in a block, made a text -/
theorem blk_str {P : Program} {w : World} {g n cap : Nat} {T : TypeId} {l : List UInt8} (src : TypeId) {e dst : TypeId} (hs : P.underlying src = some (.slice e)) (he : P.underlying e = some (.int .u8)) (hd : P.underlying dst = some .string)
    (h : Blk w g T (cellsU8 l).toArray) (hl : l.length = n) : (Go.convert src dst (.slice (some ⟨g, 0, none⟩) n cap)).run P w = .ok (.string (str l)) w := by
  have := run_convert_bytes_arg w src e hs he g 0 n cap (l.map fun c => (c.toNat : Int)) (by simpa using hl) (fun i hi => by
    rw [Nat.zero_add]
    rw [h.atL (cellsU8_get l i (by omega))]
    simp [List.getD_eq_getElem?_getD, List.getElem?_eq_getElem (show i < l.length by omega)]) dst hd
  rw [strNums] at this
  exact this
end Go.Proofs.Ytoifkfhbinfplaa
