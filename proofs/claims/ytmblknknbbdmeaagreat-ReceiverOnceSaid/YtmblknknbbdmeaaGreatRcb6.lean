/- Texts laid together: Chn0, Chn1, Chn2, Chn3, RChn, Chn5, Peb0, Peb1, Peb2, RegP, Peb3. -/
import Derived.Laws.Tables
import Derived.Laws.AppendOwn
import Derived.Test.YtmblknknbbdmeaaGreatRcb5
/- chain: plain words, and a mind's cells. -/
namespace Go.Proofs.YtmblknknbbdmeaaGreat
open Go Go.RowKit
set_option linter.unusedVariables false
set_option linter.unusedSimpArgs false

def chS : List UInt8 := [99, 104, 97, 105, 110]
def tagS : List UInt8 := [116, 97, 103]
def seedS : List UInt8 := [115, 101, 101, 100]
/-- the key of a chain that is d ahead of the last one -/
def chK (seed : List UInt8) (d : Nat) : List UInt8 := walkD (macD seed chS) d
theorem chK_length (seed : List UInt8) (d : Nat) : (chK seed d).length = 32 := walkD_length _ (macD_length _ _) d
theorem chK_walk (seed : List UInt8) (d e : Nat) : walkD (chK seed d) e = chK seed (d + e) := walkD_add _ d e

/-- a mind's cells -/
def mindL (K : List UInt8) (a : Int) : List Value := cellsU8 K ++ [.int .i64 a]
theorem mindL_length (K : List UInt8) (a : Int) (h : K.length = 32) : (mindL K a).length = 33 := by simp [mindL, length_cellsU8, h]
theorem mindL_one (K : List UInt8) (a : Int) : ∀ v ∈ mindL K a, v.oneCell' = true := by
  intro v hv
  simp only [mindL, List.mem_append, List.mem_singleton] at hv
  rcases hv with h | rfl
  · exact cellsU8_one _ v h
  · rfl
theorem mindL_at (K : List UInt8) (a : Int) (h : K.length = 32) : (mindL K a)[32]? = some (.int .i64 a) := by
  unfold mindL
  rw [List.getElem?_append_right (by rw [length_cellsU8]; omega), length_cellsU8, h]; rfl
theorem mindL_key (K : List UInt8) (a : Int) (h : K.length = 32) (j : Nat) (v : Value) (hv : (cellsU8 K)[j]? = some v) : (mindL K a)[j]? = some v := by
  unfold mindL
  rw [List.getElem?_append_left (List.getElem?_eq_some_iff.1 hv).1]; exact hv
theorem list32 {α : Type} (K : List α) (h : K.length = 32) : ∃ f : Fin 32 → α, K = List.ofFn f := ⟨fun i => K[i]'(by omega), by
  apply List.ext_getElem
  · rw [List.length_ofFn, h]
  · intro i h1 h2; rw [List.getElem_ofFn]; rfl⟩
theorem zero_key : cellsU8 (List.replicate 32 0) = cellsU8 (List.replicate 32 0) := rfl
set_option maxRecDepth 100000 in
theorem build_mind (K : List UInt8) (a : Int) (h : K.length = 32) (W : World) : (Instr.build 135 #[(0, .agg (cellsU8 K).toArray), (1, .int .i64 a)]).run Tryz.prog W = .ok (.agg (mindL K a).toArray) W := by
  obtain ⟨f, rfl⟩ := list32 K h
  exact run_build W 135 _ _ (by kernel_rfl)
theorem info_mind : (Tryz.prog.info? 135).map (·.size) = some 33 := by kernel_rfl
theorem info_int : (Tryz.prog.info? 3).map (·.size) = some 1 := by kernel_rfl

/-- a key as a part of a row of cells -/
theorem part_key (cs : Array Value) (o : Nat) (K : List UInt8) (hK : K.length = 32) (h : ∀ j v, (cellsU8 K)[j]? = some v → cs[o + j]? = some v) (hs : o + 32 ≤ cs.size) (w : World) : (part 27 cs o).run Tryz.prog w = .ok (.agg (cellsU8 K).toArray) w := by
  have hagg : (isAgg 27).run Tryz.prog w = .ok true w := by
    unfold isAgg
    rw [Sem.run_bind, run_underlying Tryz.underlying27 w]
    rfl
  have hi := info_key
  cases hq : Tryz.prog.info? 27 with
  | none => simp [hq] at hi
  | some i =>
    have hz : i.size = 32 := by simpa [hq] using hi
    have e : cs.extract o (o + 32) = (cellsU8 K).toArray := by
      apply Array.ext
      · simp [length_cellsU8, hK]; omega
      · intro j h1 h2
        have hj : j < (cellsU8 K).length := by simpa using h2
        have := h j _ (List.getElem?_eq_getElem hj)
        rw [Array.getElem_extract]
        obtain ⟨_, h3⟩ := Array.getElem?_eq_some_iff.1 this
        rw [h3]; simp
    simp [part, Sem.run_bind, hagg, sizeOf, typeInfo, hq, hz, e]
theorem part_int (cs : Array Value) (o : Nat) (a : Int) (h : cs[o]? = some (.int .i64 a)) (w : World) : (part 3 cs o).run Tryz.prog w = .ok (.int .i64 a) w :=
  run_part 3 cs o _ w (by unfold flatB; rw [Tryz.underlying3]) h

theorem map_two {α β : Type} {g : α → β} {l : List α} {a b : β} (h : l.map g = [a, b]) : ∃ x y, l = [x, y] ∧ g x = a ∧ g y = b := by
  cases l with
  | nil => simp at h
  | cons x l => cases l with
    | nil => simp at h
    | cons y l => cases l with
      | nil =>
        simp only [List.map_cons, List.map_nil, List.cons.injEq, and_true] at h
        exact ⟨x, y, rfl, h.1, h.2⟩
      | cons z l => simp at h
theorem fields_mind : (Tryz.prog.fieldsOf 135).toList.map (fun f => (f.name == "_", f.type, f.offset)) = [(false, 27, 0), (false, 3, 32)] := by kernel_rfl
theorem eq_mind (K K' : List UInt8) (a a' : Int) (h : K.length = 32) (h' : K'.length = 32) (w : World) :
    (Op.equal 135 (.agg (mindL K a).toArray) (.agg (mindL K' a').toArray)).run Tryz.prog w = .ok (decide (K = K' ∧ a = a')) w := by
  have hs := run_equalIn_struct (P := Tryz.prog) w 9999 135 (mindL K a).toArray (mindL K' a').toArray (by kernel_rfl) (by kernel_rfl)
  refine Eq.trans hs ?_
  clear hs
  have hf := fields_mind
  generalize (Tryz.prog.fieldsOf 135).toList = fs at hf
  obtain ⟨f1, f2, rfl, hf1, hf2⟩ := map_two hf
  · simp only [Prod.mk.injEq, beq_eq_false_iff_ne, ne_eq] at hf1 hf2
    obtain ⟨n1, t1, o1⟩ := hf1
    obtain ⟨n2, t2, o2⟩ := hf2
    have p1 := part_key (mindL K a).toArray 0 K h (fun j v hv => by rw [Nat.zero_add]; simpa using mindL_key K a h j v hv) (by simp [mindL_length K a h]) w
    have p2 := part_key (mindL K' a').toArray 0 K' h' (fun j v hv => by rw [Nat.zero_add]; simpa using mindL_key K' a' h' j v hv) (by simp [mindL_length K' a' h']) w
    have p3 := part_int (mindL K a).toArray 32 a (by simpa using mindL_at K a h) w
    have p4 := part_int (mindL K' a').toArray 32 a' (by simpa using mindL_at K' a' h') w
    have e1 := run_equalIn_u8arr (P := Tryz.prog) 9997 32 27 5 K K' w Tryz.underlying27 Tryz.underlying5 (by kernel_rfl) h h'
    have e2 := run_equalIn_int (P := Tryz.prog) w 9998 3 .i64 .i64 a a' Tryz.underlying3
    rw [show (9997 + 2 : Nat) = 9999 from rfl] at e1
    rw [show (9998 + 1 : Nat) = 9999 from rfl] at e2
    have st : ∀ (f : Field) (fs : List Field) (xs ys : Array Value), f.name ≠ "_" → (Op.eqFields 9999 xs ys (f :: fs)) = (do
        let a ← part f.type xs f.offset
        let b ← part f.type ys f.offset
        let r ← Op.equalIn 9999 f.type a b
        if (!r) = true then pure false else Op.eqFields 9999 xs ys fs) := fun f fs xs ys hn => by
      conv => lhs; unfold Op.eqFields
      rw [if_pos hn]
    rw [st f1 _ _ _ n1, t1, o1, Sem.run_bind, p1, Result.andThen_ok, Sem.run_bind, p2, Result.andThen_ok, Sem.run_bind, e1, Result.andThen_ok]
    by_cases hk : K = K'
    · rw [decide_eq_true hk, if_neg (by decide), st f2 _ _ _ n2, t2, o2, Sem.run_bind, p3, Result.andThen_ok, Sem.run_bind, p4, Result.andThen_ok, Sem.run_bind, e2, Result.andThen_ok]
      by_cases ha : a = a'
      · rw [beq_iff_eq.2 ha, if_neg (by decide), decide_eq_true ⟨hk, ha⟩]
        unfold Op.eqFields
        rw [Sem.run_pure]
      · rw [beq_eq_false_iff_ne.2 ha, if_pos (by decide), decide_eq_false (fun h => ha h.2), Sem.run_pure]
    · rw [decide_eq_false hk, if_pos (by decide), decide_eq_false (fun h => hk h.1), Sem.run_pure]
theorem guard_mind : Tryz.prog.eqGuardType Tryz.prog.depth 135 = false := by kernel_rfl
theorem run_eqm (K K' : List UInt8) (a a' : Int) (h : K.length = 32) (h' : K'.length = 32) (w : World) : (Go.binOp .eql 135 (.agg (mindL K a).toArray) (.agg (mindL K' a').toArray)).run Tryz.prog w = .ok (.bool (decide (K = K' ∧ a = a'))) w := by
  have e := eq_mind K K' a a' h h' w
  unfold Go.binOp
  simp only [Sem.run_bind, e, Result.andThen_ok, Sem.run_pure]
theorem exec_eqm {o : Oper} {a : Act} {x y : Operand} {t' : TypeId} (ho : o.op = .binOp .eql 135 x y t') {K K' : List UInt8} {i i' : Int} (hx : a.eval x = .agg (mindL K i).toArray) (hy : a.eval y = .agg (mindL K' i').toArray) (hK : K.length = 32) (hK' : K'.length = 32) (w : World) :
    (execOp a.eval o).run Tryz.prog w = .ok (.value (.bool (decide (K = K' ∧ i = i')))) w := by
  have e := run_eqm K K' i i' hK hK' w
  have g := guard_mind
  unfold execOp
  simp only [ho, hx, hy]
  unfold eqGuard
  simp [Sem.run_bind, e, g]
theorem quiet_eqm {o : Oper} {a : Act} {C : World → Prop} {Q : Act → Prop} (d : Tmp) (hd : o.dst = some d) {x y : Operand} {t' : TypeId} (ho : o.op = .binOp .eql 135 x y t') {K K' : List UInt8} {i i' : Int} (hx : a.eval x = .agg (mindL K i).toArray) (hy : a.eval y = .agg (mindL K' i').toArray) (hK : K.length = 32) (hK' : K'.length = 32)
    (h : Q { a with tmps := a.tmps.setIfInBounds d (.bool (decide (K = K' ∧ i = i'))) }) : o.quiet Tryz.prog a C Q := by
  refine ⟨.bool (decide (K = K' ∧ i = i')), fun w hw => ?_, by rw [hd]; exact h⟩
  unfold Oper.quietAt
  rw [exec_eqm ho hx hy hK hK' w]
  exact ⟨rfl, rfl⟩
theorem run_nem (K K' : List UInt8) (a a' : Int) (h : K.length = 32) (h' : K'.length = 32) (w : World) : (Go.binOp .neq 135 (.agg (mindL K a).toArray) (.agg (mindL K' a').toArray)).run Tryz.prog w = .ok (.bool (!decide (K = K' ∧ a = a'))) w := by
  have e := eq_mind K K' a a' h h' w
  unfold Go.binOp
  simp only [Sem.run_bind, e, Result.andThen_ok, Sem.run_pure]
theorem exec_nem {o : Oper} {a : Act} {x y : Operand} {t' : TypeId} (ho : o.op = .binOp .neq 135 x y t') {K K' : List UInt8} {i i' : Int} (hx : a.eval x = .agg (mindL K i).toArray) (hy : a.eval y = .agg (mindL K' i').toArray) (hK : K.length = 32) (hK' : K'.length = 32) (w : World) :
    (execOp a.eval o).run Tryz.prog w = .ok (.value (.bool (!decide (K = K' ∧ i = i')))) w := by
  have e := run_nem K K' i i' hK hK' w
  have g := guard_mind
  unfold execOp
  simp only [ho, hx, hy]
  unfold eqGuard
  simp [Sem.run_bind, e, g]

end Go.Proofs.YtmblknknbbdmeaaGreat
/- chain: Key, Known, Tagger, Next. -/
namespace Go.Proofs.YtmblknknbbdmeaaGreat
open Go Go.RowKit
set_option linter.unusedVariables false
set_option linter.unusedSimpArgs false
attribute [local go_sem] bmax2 bmin2 bmax bmin cell_ext frozen_ext

def zeroK : List UInt8 := List.replicate 32 0
theorem zeroK_length : zeroK.length = 32 := rfl
theorem zeroK_c : (cellsU8 zeroK).length = 32 := rfl

set_option maxHeartbeats 1000000 in
set_option maxRecDepth 100000 in
theorem Tagger_any (K : List UInt8) (hK : K.length = 32) (w : World) :
    Calls Tryz.prog 106 #[.agg (cellsU8 K).toArray] w fun e w' => e = .returned (.agg (cellsU8 (macD K tagS)).toArray) ∧ Below w.heap.size w w' := by
  have c1 : Kp (∀ w', Calls Tryz.prog 99 #[.agg (cellsU8 K).toArray, .string ⟨#[116, 97, 103]⟩] w' fun e w'' => e = .returned (.agg (cellsU8 (macD K tagS)).toArray) ∧ Below w'.heap.size w' w'') := kp (fun w' => Of_any K ⟨#[116, 97, 103]⟩ hK (by decide) w')
  have hcl := key_cells _ (macD_length K tagS)
  generalize macD K tagS = E at c1 hcl ⊢
  obtain ⟨Z, hZ⟩ : ∃ Z : List UInt8, List.replicate 32 0 = Z := ⟨_, rfl⟩
  have hzl : Z.length = 32 := by rw [← hZ]; rfl
  have HN := kp (Blk.new (w.alloc (.cells (cellsU8 K).toArray 27)) 27 (cellsU8 (List.replicate 32 0)).toArray)
  have HB := kp (ba (ba (Below.refl w.heap.size w) (.cells (cellsU8 K).toArray 27)) (.cells (cellsU8 (List.replicate 32 0)).toArray 27))
  rw [size_all] at HN
  have LD := fun o => ldK K hK ((Blk.new w 27 (cellsU8 K).toArray).alloc o)
  clear hK
  go_enter Tryz.func106, Tryz.ntmps106
  go_wp2_with (refine wpL_load rfl 27 _ rfl rfl (LD _) ?_)
  clear LD
  refine (c1.out _).mono ?_
  rintro e w2 ⟨rfl, hb2⟩
  have h5 := HN.out.bel hb2
  rw [hZ] at h5
  have hb := bt' HB.out hb2 HB.out.size
  have SC := sc_all (P := Tryz.prog) (w := w2) (w.heap.size + 1) 27 (cellsU8 E) _ h5 (by rw [hcl, length_cellsU8, hzl]) (cellsU8_one _)
  have HX := kp (h5.row (cellsU8 E).toArray)
  have HBX := kp (bsr hb (Nat.le_succ w.heap.size) hb.size (cellsU8 E).toArray)
  have HL := kp hcl
  clear HN HB hb2 h5 hb hzl hZ
  generalize hY : w2.setRow (w.heap.size + 1) (cellsU8 E).toArray = Y at SC HX HBX
  clear hY
  go_wp2
  refine bodyPost_ret (v := .agg (cellsU8 E).toArray) ?_ rfl ⟨rfl, HBX.out⟩
  exact res_all Tryz.results106 (w.heap.size + 1) 32 _ _ _ Tryz.underlying27 rfl info_key HL.out HX.out _ rfl

end Go.Proofs.YtmblknknbbdmeaaGreat
/- chain: Learn, Tell, Check. -/
namespace Go.Proofs.YtmblknknbbdmeaaGreat
open Go Go.RowKit
set_option linter.unusedVariables false
set_option linter.unusedSimpArgs false
attribute [local go_sem] bmax2 bmin2 bmax bmin cell_ext frozen_ext

def zeroM : List Value := mindL zeroK 0
theorem zeroM_length : zeroM.length = 33 := rfl
theorem ldM (K : List UInt8) (a : Int) (hK : K.length = 32) {w : World} {b : Nat} (h : Blk w b 135 (mindL K a).toArray) : (Instr.loadAt 135 (.pointer (some ⟨b, 0, none⟩))).run Tryz.prog w = .ok (.agg (mindL K a).toArray) w :=
  ld_all b 33 135 _ (mindL K a) _ Tryz.underlying135 rfl info_mind (mindL_length K a hK) h
theorem ldMK (K : List UInt8) (a : Int) (hK : K.length = 32) {w : World} {b : Nat} (h : Blk w b 135 (mindL K a).toArray) : (Instr.loadAt 27 (.pointer (some ⟨b, 0, none⟩))).run Tryz.prog w = .ok (.agg (cellsU8 K).toArray) w :=
  ld_row b 0 32 27 (cellsU8 K) _ Tryz.underlying27 rfl info_key (key_cells K hK) (fun j v hv => by rw [Nat.zero_add]; exact h.atL (mindL_key K a hK j v hv))
theorem sc_newSS {P : Program} (w : World) (t : TypeId) (cs : List Value) (h1 : ∀ v ∈ cs, v.oneCell' = true) (o o2 : Obj) (cur : Array Value) (hc : cur.size = cs.length) : (storeCells ⟨w.heap.size + 1 + 1, 0, none⟩ cs).run P (((w.alloc o).alloc o2).alloc (.cells cur t)) = .ok () (((w.alloc o).alloc o2).alloc (.cells cs.toArray t)) := by
  have := sc_new (P := P) ((w.alloc o).alloc o2) t cs h1 cur hc
  rw [size_all, size_all] at this
  exact this

set_option maxHeartbeats 1000000 in
set_option maxRecDepth 100000 in
theorem Learn_arg (K k : List UInt8) (a i most : Int) (hK : K.length = 32) (hk : k.length = 32) (h : a < 0 ∨ i ≤ a) (w : World) :
    Calls Tryz.prog 69 #[.agg (mindL K a).toArray, .agg (cellsU8 k).toArray, .int .i64 i, .int .i64 most] w fun e w' => e = .returned (.tuple #[.agg zeroM.toArray, .int .i64 1]) ∧ Below w.heap.size w w' := by
  have hcase : a < 0 ∨ (¬ a < 0 ∧ i ≤ a) := by omega
  clear h
  have hz : zeroM.length = 33 := zeroM_length
  obtain ⟨Z, hZ⟩ : ∃ Z, zeroM = Z := ⟨_, rfl⟩
  rw [hZ] at hz ⊢
  have h1 : Kp (∀ v ∈ Z, v.oneCell' = true) := kp (by rw [← hZ]; exact mindL_one _ _)
  have HB := kp (ba (ba (ba (Below.refl w.heap.size w) (.cells (mindL K a).toArray 135)) (.cells (cellsU8 k).toArray 27)) (.cells Z.toArray 135))
  have HN := kp (Blk.new ((w.alloc (.cells (mindL K a).toArray 135)).alloc (.cells (cellsU8 k).toArray 27)) 135 Z.toArray)
  rw [size_all, size_all] at HN
  have SC := fun (o o2 : Obj) (cur : Array Value) (h : cur.size = 33) => sc_newSS (P := Tryz.prog) w 135 Z h1.out o o2 cur (by rw [hz]; exact h)
  have CE : ∀ o o2, (((w.alloc (.cells (mindL K a).toArray 135)).alloc o).alloc o2).cell? ⟨w.heap.size, 32, none⟩ = some (.int .i64 a) := fun o o2 => (((Blk.new w 135 (mindL K a).toArray).alloc o).alloc o2).atL (mindL_at K a hK)
  have HZ := kp hz
  have HZZ := kp hZ
  clear hZ hK hk
  rcases hcase with h | ⟨h, h2⟩
  all_goals
    go_enter Tryz.func69, Tryz.ntmps69
    go_wp2_with (refine wpL_val 21 rfl rfl (.agg Z.toArray) (by rw [← HZZ.out]; kernel_rfl) ?_)
    refine bodyPost_ret (v := .tuple #[.agg Z.toArray, .int .i64 1]) ?_ rfl ⟨rfl, HB.out⟩
    exact res2 Tryz.results69 (w.heap.size + 1 + 1) 33 _ Z _ Tryz.underlying135 rfl info_mind HZ.out HN.out _ rfl _ rfl

set_option maxHeartbeats 1000000 in
set_option maxRecDepth 100000 in
theorem Learn_far (K k : List UInt8) (a i most : Int) (hK : K.length = 32) (hk : k.length = 32) (h0 : 0 ≤ a) (h1 : a < i) (hi : i ≤ 9223372036854775807) (h : min most 1024 < i - a) (w : World) :
    Calls Tryz.prog 69 #[.agg (mindL K a).toArray, .agg (cellsU8 k).toArray, .int .i64 i, .int .i64 most] w fun e w' => e = .returned (.tuple #[.agg zeroM.toArray, .int .i64 16]) ∧ Below w.heap.size w w' := by
  have hz : zeroM.length = 33 := zeroM_length
  obtain ⟨Z, hZ⟩ : ∃ Z, zeroM = Z := ⟨_, rfl⟩
  rw [hZ] at hz ⊢
  have h1c : Kp (∀ v ∈ Z, v.oneCell' = true) := kp (by rw [← hZ]; exact mindL_one _ _)
  have HB := kp (ba (ba (ba (Below.refl w.heap.size w) (.cells (mindL K a).toArray 135)) (.cells (cellsU8 k).toArray 27)) (.cells Z.toArray 135))
  have HN := kp (Blk.new ((w.alloc (.cells (mindL K a).toArray 135)).alloc (.cells (cellsU8 k).toArray 27)) 135 Z.toArray)
  rw [size_all, size_all] at HN
  have SC := fun (o o2 : Obj) (cur : Array Value) (h : cur.size = 33) => sc_newSS (P := Tryz.prog) w 135 Z h1c.out o o2 cur (by rw [hz]; exact h)
  have CE : ∀ o o2, (((w.alloc (.cells (mindL K a).toArray 135)).alloc o).alloc o2).cell? ⟨w.heap.size, 32, none⟩ = some (.int .i64 a) := fun o o2 => (((Blk.new w 135 (mindL K a).toArray).alloc o).alloc o2).atL (mindL_at K a hK)
  have HZ := kp hz
  have HZZ := kp hZ
  clear hZ hK hk
  have hb1 : 0 ≤ i - a := by omega
  have hb2 : i - a ≤ 9223372036854775807 := by omega
  go_enter Tryz.func69, Tryz.ntmps69
  go_wp2_with (refine wpL_val 30 rfl rfl (.agg Z.toArray) (by rw [← HZZ.out]; kernel_rfl) ?_)
  refine bodyPost_ret (v := .tuple #[.agg Z.toArray, .int .i64 16]) ?_ rfl ⟨rfl, HB.out⟩
  exact res2 Tryz.results69 (w.heap.size + 1 + 1) 33 _ Z _ Tryz.underlying135 rfl info_mind HZ.out HN.out _ rfl _ rfl
/-- what Learn answers where it isn't too far -/
def learnV (K k P : List UInt8) (i : Int) : Value := if P = K then .tuple #[.agg (mindL k i).toArray, .int .i64 0] else .tuple #[.agg zeroM.toArray, .int .i64 13]
set_option maxHeartbeats 4000000 in
set_option maxRecDepth 100000 in
theorem Learn_near (K k : List UInt8) (a i most : Int) (D : Nat) (hK : K.length = 32) (hk : k.length = 32) (h0 : 0 ≤ a) (h1 : a < i) (hi : i ≤ 9223372036854775807) (hD : i - a = (D : Int)) (h : i - a ≤ min most 1024) (w : World) :
    Calls Tryz.prog 69 #[.agg (mindL K a).toArray, .agg (cellsU8 k).toArray, .int .i64 i, .int .i64 most] w fun e w' => e = .returned (learnV K k (walkD k D) i) ∧ Below w.heap.size w w' := by
  have c1 := kp (fun w' => Walk_st k hk (D : Int) D (by omega) w')
  have hpl := walkD_length k hk D
  generalize walkD k D = P at c1 hpl ⊢
  have HK := kp hK
  have HKK := kp hk
  have HPL := kp hpl
  have hz : zeroM.length = 33 := zeroM_length
  obtain ⟨Z, hZ⟩ : ∃ Z, zeroM = Z := ⟨_, rfl⟩
  have H4 := kp (((Blk.new w 135 (mindL K a).toArray).alloc (.cells (cellsU8 k).toArray 27)).alloc (.cells zeroM.toArray 135))
  have H5 := kp ((Blk.new (w.alloc (.cells (mindL K a).toArray 135)) 27 (cellsU8 k).toArray).alloc (.cells zeroM.toArray 135))
  have H8 := kp (Blk.new ((w.alloc (.cells (mindL K a).toArray 135)).alloc (.cells (cellsU8 k).toArray 27)) 135 zeroM.toArray)
  have HB := kp (ba (ba (ba (Below.refl w.heap.size w) (.cells (mindL K a).toArray 135)) (.cells (cellsU8 k).toArray 27)) (.cells zeroM.toArray 135))
  rw [size_all, size_all] at H8
  rw [size_all] at H5
  have CE : ∀ o o2, (((w.alloc (.cells (mindL K a).toArray 135)).alloc o).alloc o2).cell? ⟨w.heap.size, 32, none⟩ = some (.int .i64 a) := fun o o2 => (((Blk.new w 135 (mindL K a).toArray).alloc o).alloc o2).atL (mindL_at K a hK)
  have hHD := kp hD
  have hd1 : i - a ≤ 1024 := by omega
  have hd2 : 0 ≤ i - a := by omega
  have hdm : ¬ min most 1024 < i - a := by omega
  have HZ := kp hZ
  clear hZ hK hk hpl hz hD
  go_enter Tryz.func69, Tryz.ntmps69
  go_upto_region 5 with (fail)
  change Code.wp _ _ _ _ (((w.alloc (.cells (mindL K a).toArray 135)).alloc (.cells (cellsU8 k).toArray 27)).alloc (.cells zeroM.toArray 135))
  rw [HZ.out] at H4 H5 H8 HB ⊢
  clear CE hdm
  generalize ((w.alloc (.cells (mindL K a).toArray 135)).alloc (.cells (cellsU8 k).toArray 27)).alloc (.cells Z.toArray 135) = W at H4 H5 H8 HB ⊢
  refine wp_region_mkE [0, 1, 2, 3, 4, 5, 6, 7, 8] [9] [10] 47 (fun _ => VA W.heap.size 135 zeroM.toArray) (· ≠ ·) (by kernel_rfl) (by kernel_rfl) rfl (fun i v W W' h hb => h.mono hb) ?_
  apply Exists.intro
  refine ⟨fun X hX => ?_, ?_, ?_⟩
  · have h4 := H4.out.bel hX
    have h5 := H5.out.bel hX
    have c32 := h4.atL (mindL_at K a HK.out)
    have hlx := h4.lt
    have LK := kp (fun x => ldK k HKK.out (h5.bel (ext_below X x)))
    have hw : IntKind.i64.wrap (i - a) = (D : Int) := by rw [IntWalk.i64_in _ (by omega)]; exact hHD.out
    simp only [List.map_cons, List.map_nil, List.getD_cons_succ, List.getD_cons_zero]
    repeat (first
      | (go_big_quiet_want; refine quiet_load _ rfl 27 _ rfl rfl (fun w hw => by obtain ⟨x, rfl⟩ := hw; exact LK.out x) ?_; go_simp; go_big_quiet_on)
      | (go_big_quiet_want; refine quiet_val 39 rfl (.agg (mindL P a).toArray) (fun w _ => exec_build rfl (by simp [Act.eval]) (build_mind P a HPL.out w)) ?_; go_simp; go_big_quiet_on)
      | go_big_quiet_step ((go_at_call 95; with_reducible exact Calls.ext_of (c1.out _))))
    exact wpQuiet_nil rfl
  · exact ⟨mk_alloc rfl (fun W => by kernel_rfl) (fun j u W h => h.ne), trivial⟩
  · intro ev _
    simp only [List.map_cons, List.map_nil, List.getD_cons_succ, List.getD_cons_zero, TailX]
    rintro X hX ⟨_, b10, rfl, hb10, hk10⟩
    have hml := mindL_length P a HPL.out
    have SC := sc_all (P := Tryz.prog) (w := X) b10 135 (mindL P a) _ hk10 (by rw [hml]; rfl) (mindL_one _ _)
    have H10 := kp (hk10.row (mindL P a).toArray)
    have hne4 : w.heap.size ≠ b10 := by have := H4.out.lt; omega
    have hne5 : w.heap.size + 1 ≠ b10 := by have := H5.out.lt; omega
    have hne8 : w.heap.size + 1 + 1 ≠ b10 := by have := H8.out.lt; omega
    have J4 := kp ((H4.out.bel hX).rowfar hne4 (mindL P a).toArray)
    have J5 := kp ((H5.out.bel hX).rowfar hne5 (mindL P a).toArray)
    have J8 := kp ((H8.out.bel hX).rowfar hne8 (mindL P a).toArray)
    have hbx := bt' HB.out hX HB.out.size
    have JB := kp (bsr hbx (show w.heap.size ≤ b10 by have := HB.out.size; omega) hbx.size (mindL P a).toArray)
    clear hX hk10 hbx hb10 H4 H5 H8 HB hne4 hne5 hne8
    generalize X.setRow b10 (mindL P a).toArray = Y at SC H10 J4 J5 J8 JB
    go_upto_region 6 with (fail)
    clear SC hml
    have L1 := ldM P a HPL.out H10.out
    have L2 := ldM K a HK.out J4.out
    have hzl : Z.length = 33 := by rw [← HZ.out]; rfl
    have h1z : ∀ v ∈ Z, v.oneCell' = true := by rw [← HZ.out]; exact mindL_one _ _
    by_cases hPK : P = K
    · have hv : learnV K k P i = .tuple #[.agg (mindL k i).toArray, .int .i64 0] := if_pos hPK
      have HV := kp hv
      have L3 := ldK k HKK.out J5.out
      have hkl := mindL_length k i HKK.out
      have SC := sc_all (P := Tryz.prog) (w := Y) (w.heap.size + 1 + 1) 135 (mindL k i) _ J8.out (by rw [hkl, hzl]) (mindL_one _ _)
      have HX := kp (J8.out.row (mindL k i).toArray)
      have HBX := kp (bsr JB.out (show w.heap.size ≤ w.heap.size + 1 + 1 by omega) JB.out.size (mindL k i).toArray)
      have HL := kp hkl
      have hnm : ∀ W : World, (!decide (P = K ∧ a = a)) = false := fun _ => by rw [decide_eq_true ⟨hPK, rfl⟩]; rfl
      have HNM := kp hnm
      clear hv hPK hnm hzl h1z
      generalize hY2 : Y.setRow (w.heap.size + 1 + 1) (mindL k i).toArray = Y2 at SC HX HBX
      clear hY2
      go_wp2_with (first | (refine wpL_load rfl 135 _ rfl rfl L1 ?_) | (refine wpL_load rfl 135 _ rfl rfl L2 ?_) | (refine wpL_val 42 rfl rfl (.bool false) ((exec_nem rfl rfl rfl HPL.out HK.out Y).trans (by rw [HNM.out Y])) ?_) | (refine wpL_load rfl 27 _ rfl rfl L3 ?_) | (refine wpL_val 46 rfl rfl (.agg (mindL k i).toArray) (exec_build rfl (by simp [Act.eval]) (build_mind k i HKK.out Y)) ?_))
      refine bodyPost_ret (v := .tuple #[.agg (mindL k i).toArray, .int .i64 0]) ?_ rfl ⟨by rw [HV.out], HBX.out⟩
      exact res2 Tryz.results69 (w.heap.size + 1 + 1) 33 _ _ _ Tryz.underlying135 rfl info_mind HL.out HX.out _ rfl _ rfl
    · have hv : learnV K k P i = .tuple #[.agg zeroM.toArray, .int .i64 13] := if_neg hPK
      rw [HZ.out] at hv
      have HV := kp hv
      have SC := sc_all (P := Tryz.prog) (w := Y) (w.heap.size + 1 + 1) 135 Z _ J8.out rfl h1z
      have HX := kp (J8.out.row Z.toArray)
      have HBX := kp (bsr JB.out (show w.heap.size ≤ w.heap.size + 1 + 1 by omega) JB.out.size Z.toArray)
      have HL := kp hzl
      have hnm : ∀ W : World, (!decide (P = K ∧ a = a)) = true := fun _ => by rw [decide_eq_false (fun h => hPK h.1)]; rfl
      have HNM := kp hnm
      clear hv hPK hnm h1z
      generalize hY2 : Y.setRow (w.heap.size + 1 + 1) Z.toArray = Y2 at SC HX HBX
      clear hY2
      go_wp2_with (first | (refine wpL_load rfl 135 _ rfl rfl L1 ?_) | (refine wpL_load rfl 135 _ rfl rfl L2 ?_) | (refine wpL_val 42 rfl rfl (.bool true) ((exec_nem rfl rfl rfl HPL.out HK.out Y).trans (by rw [HNM.out Y])) ?_) | (refine wpL_val 43 rfl rfl (.agg Z.toArray) (by rw [← HZ.out]; kernel_rfl) ?_))
      refine bodyPost_ret (v := .tuple #[.agg Z.toArray, .int .i64 13]) ?_ rfl ⟨by rw [HV.out], HBX.out⟩
      exact res2 Tryz.results69 (w.heap.size + 1 + 1) 33 _ _ _ Tryz.underlying135 rfl info_mind HL.out HX.out _ rfl _ rfl
end Go.Proofs.YtmblknknbbdmeaaGreat
/- chain: Tell, Check. -/
namespace Go.Proofs.YtmblknknbbdmeaaGreat
open Go Go.RowKit
set_option linter.unusedVariables false
set_option linter.unusedSimpArgs false
attribute [local go_sem] bmax2 bmin2 bmax bmin cell_ext frozen_ext

set_option maxHeartbeats 1000000 in
set_option maxRecDepth 100000 in
theorem Tell_bad (K : List UInt8) (a i : Int) (hK : K.length = 32) (h : i < 0 ∨ a < i) (w : World) :
    Calls Tryz.prog 68 #[.agg (mindL K a).toArray, .int .i64 i] w fun e w' => e = .returned (.tuple #[.agg (cellsU8 zeroK).toArray, .int .i64 1]) ∧ Below w.heap.size w w' := by
  have hcase : i < 0 ∨ (¬ i < 0 ∧ a < i) := by omega
  clear h
  have hz : (cellsU8 zeroK).length = 32 := zeroK_c
  obtain ⟨Z, hZ⟩ : ∃ Z, cellsU8 zeroK = Z := ⟨_, rfl⟩
  rw [hZ] at hz ⊢
  have h1 : Kp (∀ v ∈ Z, v.oneCell' = true) := kp (by rw [← hZ]; exact cellsU8_one _)
  have HB := kp (ba (ba (Below.refl w.heap.size w) (.cells (mindL K a).toArray 135)) (.cells Z.toArray 27))
  have HN := kp (Blk.new (w.alloc (.cells (mindL K a).toArray 135)) 27 Z.toArray)
  rw [size_all] at HN
  have SC := fun (o : Obj) (cur : Array Value) (h : cur.size = 32) => sc_newS (P := Tryz.prog) w 27 Z h1.out o cur (by rw [hz]; exact h)
  have CE : ∀ o, ((w.alloc (.cells (mindL K a).toArray 135)).alloc o).cell? ⟨w.heap.size, 32, none⟩ = some (.int .i64 a) := fun o => ((Blk.new w 135 (mindL K a).toArray).alloc o).atL (mindL_at K a hK)
  have HZ := kp hz
  have HZZ := kp hZ
  clear hZ hK
  rcases hcase with h | ⟨h, h2⟩
  all_goals
    go_enter Tryz.func68, Tryz.ntmps68
    go_wp2_with (refine wpL_val 14 rfl rfl (.agg Z.toArray) (by rw [← HZZ.out]; kernel_rfl) ?_)
    refine bodyPost_ret (v := .tuple #[.agg Z.toArray, .int .i64 1]) ?_ rfl ⟨rfl, HB.out⟩
    exact res2 Tryz.results68 (w.heap.size + 1) 32 _ Z _ Tryz.underlying27 rfl info_key HZ.out HN.out _ rfl _ rfl

set_option maxHeartbeats 1000000 in
set_option maxRecDepth 100000 in
theorem Tell_good (K : List UInt8) (a i : Int) (hK : K.length = 32) (h1 : 0 ≤ i) (h2 : i ≤ a) (ha : a ≤ 9223372036854775807) (D : Nat) (hD : min (a - i) 4096 = (D : Int)) (w : World) :
    Calls Tryz.prog 68 #[.agg (mindL K a).toArray, .int .i64 i] w fun e w' => e = .returned (.tuple #[.agg (cellsU8 (walkD K D)).toArray, .int .i64 0]) ∧ Below w.heap.size w w' := by
  have c2 := kp (fun w' => Walk_st K hK (a - i) D (by omega) w')
  have hcl := key_cells _ (walkD_length K hK D)
  generalize walkD K D = E at c2 hcl ⊢
  obtain ⟨Z, hZ⟩ : ∃ Z : List UInt8, List.replicate 32 0 = Z := ⟨_, rfl⟩
  have hzl : Z.length = 32 := by rw [← hZ]; rfl
  have HN := kp (Blk.new (w.alloc (.cells (mindL K a).toArray 135)) 27 (cellsU8 (List.replicate 32 0)).toArray)
  have HB := kp (ba (ba (Below.refl w.heap.size w) (.cells (mindL K a).toArray 135)) (.cells (cellsU8 (List.replicate 32 0)).toArray 27))
  rw [size_all] at HN
  have LD := fun o => ldMK K a hK ((Blk.new w 135 (mindL K a).toArray).alloc o)
  have CE : ∀ o, ((w.alloc (.cells (mindL K a).toArray 135)).alloc o).cell? ⟨w.heap.size, 32, none⟩ = some (.int .i64 a) := fun o => ((Blk.new w 135 (mindL K a).toArray).alloc o).atL (mindL_at K a hK)
  have hb1 : 0 ≤ a - i := by omega
  have hb2 : a - i ≤ 9223372036854775807 := by omega
  clear hK hD
  go_enter Tryz.func68, Tryz.ntmps68
  go_wp2_with (refine wpL_load rfl 27 _ rfl rfl (LD _) ?_)
  clear LD CE
  refine (c2.out _).mono ?_
  rintro e w2 ⟨rfl, hb2⟩
  have h5 := HN.out.bel hb2
  rw [hZ] at h5
  have hb := bt' HB.out hb2 HB.out.size
  have SC := sc_all (P := Tryz.prog) (w := w2) (w.heap.size + 1) 27 (cellsU8 E) _ h5 (by rw [hcl, length_cellsU8, hzl]) (cellsU8_one _)
  have HX := kp (h5.row (cellsU8 E).toArray)
  have HBX := kp (bsr hb (Nat.le_succ w.heap.size) hb.size (cellsU8 E).toArray)
  have HL := kp hcl
  clear HN HB hb2 h5 hb hzl hZ
  generalize hY : w2.setRow (w.heap.size + 1) (cellsU8 E).toArray = Y at SC HX HBX
  clear hY
  go_wp2
  refine bodyPost_ret (v := .tuple #[.agg (cellsU8 E).toArray, .int .i64 0]) ?_ rfl ⟨rfl, HBX.out⟩
  exact res2 Tryz.results68 (w.heap.size + 1) 32 _ _ _ Tryz.underlying27 rfl info_key HL.out HX.out _ rfl _ rfl

def learnE (K P : List UInt8) : Int := if P = K then 0 else 13
def learnM (K k P : List UInt8) (i : Int) : List Value := if P = K then mindL k i else zeroM
theorem learnV_eq (K k P : List UInt8) (i : Int) : learnV K k P i = .tuple #[.agg (learnM K k P i).toArray, .int .i64 (learnE K P)] := by
  unfold learnV learnM learnE; split <;> rfl
theorem learnM_length (K k P : List UInt8) (i : Int) (hk : k.length = 32) : (learnM K k P i).length = 33 := by
  unfold learnM; split
  · exact mindL_length k i hk
  · rfl
theorem learnM_one (K k P : List UInt8) (i : Int) : ∀ v ∈ learnM K k P i, v.oneCell' = true := by
  unfold learnM; split <;> exact mindL_one _ _
end Go.Proofs.YtmblknknbbdmeaaGreat
/- the reference's chain. -/
namespace Go.Proofs.YtmblknknbbdmeaaGreat
open Go Go.RowKit
set_option linter.unusedVariables false
set_option linter.unusedSimpArgs false
attribute [local go_sem] bmax2 bmin2 bmax bmin cell_ext frozen_ext

theorem R_Sum_l (K : List UInt8) (hK : K.length = 32) (w : World) : Calls Tryz.prog 79 #[.string (str K)] w fun e w' => e = .returned (.agg (cellsU8 (digest K)).toArray) ∧ Below w.heap.size w w' := R_Sum K (by omega) w

set_option maxHeartbeats 1000000 in
set_option maxRecDepth 100000 in
theorem R_Key_bad (K : List UInt8) (hK : K.length = 32) (n i : Int) (h : n < 1 ∨ 1024 < n ∨ i < 0 ∨ n < i) (w : World) :
    Calls Tryz.prog 39 #[.agg (cellsU8 K).toArray, .int .i64 n, .int .i64 i] w fun e w' => e = .returned (.tuple #[.agg (cellsU8 zeroK).toArray, .int .i64 1]) ∧ Below w.heap.size w w' := by
  have hcase : n < 1 ∨ (¬ n < 1 ∧ 1024 < n) ∨ (¬ n < 1 ∧ ¬ 1024 < n ∧ i < 0) ∨ (¬ n < 1 ∧ ¬ 1024 < n ∧ ¬ i < 0 ∧ n < i) := by omega
  clear h
  have hz : (cellsU8 zeroK).length = 32 := zeroK_c
  obtain ⟨Z, hZ⟩ : ∃ Z, cellsU8 zeroK = Z := ⟨_, rfl⟩
  rw [hZ] at hz ⊢
  have h1 : Kp (∀ v ∈ Z, v.oneCell' = true) := kp (by rw [← hZ]; exact cellsU8_one _)
  have HB := kp (ba (ba (Below.refl w.heap.size w) (.cells (cellsU8 K).toArray 27)) (.cells Z.toArray 27))
  have HN := kp (Blk.new (w.alloc (.cells (cellsU8 K).toArray 27)) 27 Z.toArray)
  rw [size_all] at HN
  have SC := fun (o : Obj) (cur : Array Value) (h : cur.size = 32) => sc_newS (P := Tryz.prog) w 27 Z h1.out o cur (by rw [hz]; exact h)
  have HZ := kp hz
  have HZZ := kp hZ
  clear hZ
  rcases hcase with h | ⟨h, h2⟩ | ⟨h, h2, h3⟩ | ⟨h, h2, h3, h4⟩
  all_goals
    go_enter Tryz.func39, Tryz.ntmps39
    go_wp2_with (refine wpL_val 25 rfl rfl (.agg Z.toArray) (by rw [← HZZ.out]; kernel_rfl) ?_)
    refine bodyPost_ret (v := .tuple #[.agg Z.toArray, .int .i64 1]) ?_ rfl ⟨rfl, HB.out⟩
    exact res2 Tryz.results39 (w.heap.size + 1) 32 _ Z _ Tryz.underlying27 rfl info_key HZ.out HN.out _ rfl _ rfl

set_option maxHeartbeats 1000000 in
set_option maxRecDepth 100000 in
theorem R_Key_good (K : List UInt8) (hK : K.length = 32) (n i : Int) (D : Nat) (h1 : 1 ≤ n) (h2 : n ≤ 1024) (h3 : 0 ≤ i) (h4 : i ≤ n) (hD : n - i = (D : Int)) (w : World) :
    Calls Tryz.prog 39 #[.agg (cellsU8 K).toArray, .int .i64 n, .int .i64 i] w fun e w' => e = .returned (.tuple #[.agg (cellsU8 (chK K D)).toArray, .int .i64 0]) ∧ Below w.heap.size w w' := by
  have c1 : Kp (∀ w', Calls Tryz.prog 78 #[.agg (cellsU8 K).toArray, .string ⟨#[99, 104, 97, 105, 110]⟩] w' fun e w'' => e = .returned (.agg (cellsU8 (macD K chS)).toArray) ∧ Below w'.heap.size w' w'') := kp (fun w' => R_Of K ⟨#[99, 104, 97, 105, 110]⟩ hK (by decide) w')
  have hfl := macD_length K chS
  have HCK : Kp (chK K D = walkD (macD K chS) D) := kp rfl
  generalize macD K chS = F at c1 hfl HCK
  have hcf := key_cells _ hfl
  have HFL := kp hfl
  have HN := kp (Blk.new (w.alloc (.cells (cellsU8 K).toArray 27)) 27 (cellsU8 (List.replicate 32 0)).toArray)
  have HB := kp (ba (ba (Below.refl w.heap.size w) (.cells (cellsU8 K).toArray 27)) (.cells (cellsU8 (List.replicate 32 0)).toArray 27))
  rw [size_all] at HN
  have LD := fun o => ldK K hK ((Blk.new w 27 (cellsU8 K).toArray).alloc o)
  clear hK hfl
  go_enter Tryz.func39, Tryz.ntmps39
  go_wp2_with (refine wpL_load rfl 27 _ rfl rfl (LD _) ?_)
  clear LD
  obtain ⟨Z, hZ⟩ : ∃ Z : List UInt8, List.replicate 32 0 = Z := ⟨_, rfl⟩
  have hzl : Z.length = 32 := by rw [← hZ]; rfl
  have HZL := kp hzl
  refine (c1.out _).mono ?_
  rintro e w1 ⟨rfl, hb1⟩
  have SC := fun (cur : Array Value) (h : cur.size = 32) => sc_new (P := Tryz.prog) w1 27 (cellsU8 F) (cellsU8_one _) cur (by rw [hcf]; exact h)
  have HN1 := kp ((HN.out.bel hb1).alloc (.cells (cellsU8 F).toArray 27))
  have HF : Kp (Blk (w1.alloc (.cells (cellsU8 F).toArray 27)) w1.heap.size 27 (cellsU8 (walkD F 0)).toArray) := kp (Blk.new w1 27 (cellsU8 F).toArray)
  have HB1 := kp (ba (bt' HB.out hb1 HB.out.size) (.cells (cellsU8 F).toArray 27))
  rw [hZ] at HN1
  have hlt1 : w.heap.size + 1 < w1.heap.size := (HN.out.bel hb1).lt
  clear hb1 HN HB hZ hzl
  go_upto_region 4 with (fail)
  clear SC hcf
  generalize w1.alloc (.cells (cellsU8 F).toArray 27) = W at HN1 HF HB1 ⊢
  generalize w1.heap.size = b8 at HF hlt1 ⊢
  have hDD := kp hD
  clear hD
  have hLT := kp hlt1
  clear hlt1
  go_wp2
  go_loopw [9] (fun x wr => ∃ j : Nat, j ≤ D ∧ x = .int .i64 (n - (j : Int)) ∧ Kp (Blk wr (w.heap.size + 1) 27 (cellsU8 Z).toArray) ∧ Kp (Blk wr b8 27 (cellsU8 (walkD F j)).toArray) ∧ Kp (Below w.heap.size w wr)) (fun x _ => (intOf x - i).toNat)
  case atStart => exact ⟨0, Nat.zero_le _, by simp, HN1, HF, HB1⟩
  case round =>
    clear HN1 HF HB1
    obtain ⟨j, hj, rfl, HN, HF, HB⟩ := hrel
    have hwl := walkD_length F HFL.out j
    have hdd := hDD.out
    by_cases hlt : j < D
    · have i1 : i < n - (j : Int) := by omega
      have i2 : n - (j : Int) ≤ 1024 := by omega
      have i3 : 0 ≤ n - (j : Int) := by omega
      have hcv := blk_str (P := Tryz.prog) 93 (e := 5) (dst := 9) (n := 32) (cap := 32) Tryz.underlying93 Tryz.underlying5 Tryz.underlying9 HF.out hwl
      have SU := kp (fun w' => R_Sum_l (walkD F j) hwl w')
      have hdl := digest_length (walkD F j)
      have HS : Kp (walkD F (j + 1) = digest (walkD F j)) := kp rfl
      have HWL := kp hwl
      generalize digest (walkD F j) = E at SU hdl HS
      have hcl := key_cells E hdl
      clear hdl hwl
      clear hdd
      go_wp2_with fail
      refine (SU.out _).mono ?_
      rintro e w2 ⟨rfl, hb2⟩
      have SC := sc_all (P := Tryz.prog) (w := w2) b8 27 (cellsU8 E) _ (HF.out.bel hb2) (by rw [hcl, length_cellsU8, HWL.out]) (cellsU8_one _)
      have HX := kp ((HF.out.bel hb2).row (cellsU8 E).toArray)
      have HX1 := kp ((HN.out.bel hb2).rowfar (b := b8) (by have := hLT.out; omega) (cellsU8 E).toArray)
      have hbx := bt' HB.out hb2 HB.out.size
      have HBX := kp (bsr hbx (show w.heap.size ≤ b8 by have := hLT.out; omega) hbx.size (cellsU8 E).toArray)
      clear hb2 hbx HN HF HB
      generalize hY : w2.setRow b8 (cellsU8 E).toArray = Y at SC HX HX1 HBX
      clear hY hcv
      go_wp2
      go_roundw
      case measure => simp [intOf]; omega
      case rel => exact ⟨j + 1, by omega, by congr 1; omega, HX1, by rw [HS.out]; exact HX, HBX⟩
    · obtain rfl : j = D := by omega
      have i1 : ¬ i < n - (j : Int) := by omega
      have hcl := key_cells _ hwl
      rw [← HCK.out] at HF hcl hwl
      obtain ⟨E, hE⟩ : ∃ E, chK K j = E := ⟨_, rfl⟩
      rw [hE] at HF hcl hwl
      have HEE := kp hE
      clear hE
      have LD := ldK E hwl HF.out
      have SC := sc_all (P := Tryz.prog) (w := wr) (w.heap.size + 1) 27 (cellsU8 E) _ HN.out (by rw [hcl, length_cellsU8, HZL.out]) (cellsU8_one _)
      have HX := kp (HN.out.row (cellsU8 E).toArray)
      have HBX := kp (bsr HB.out (Nat.le_succ w.heap.size) HB.out.size (cellsU8 E).toArray)
      have HL := kp hcl
      clear hdd HN HF HB hwl
      generalize hY : wr.setRow (w.heap.size + 1) (cellsU8 E).toArray = Y at SC HX HBX
      clear hY
      go_wp2_with (refine wpL_load rfl 27 _ rfl rfl LD ?_)
      refine bodyPost_ret (v := .tuple #[.agg (cellsU8 E).toArray, .int .i64 0]) ?_ rfl ⟨by rw [HEE.out], HBX.out⟩
      exact res2 Tryz.results39 (w.heap.size + 1) 32 _ _ _ Tryz.underlying27 rfl info_key HL.out HX.out _ rfl _ rfl
set_option maxHeartbeats 1000000 in
set_option maxRecDepth 100000 in
theorem R_Check_arg (K k : List UInt8) (a i most : Int) (h : a < 0 ∨ i < 0 ∨ i ≤ a) (w : World) :
    Calls Tryz.prog 40 #[.agg (cellsU8 K).toArray, .int .i64 a, .agg (cellsU8 k).toArray, .int .i64 i, .int .i64 most] w fun e w' => e = .returned (.int .i64 1) ∧ Below w.heap.size w w' := by
  have hcase : a < 0 ∨ (¬ a < 0 ∧ i < 0) ∨ (¬ a < 0 ∧ ¬ i < 0 ∧ i ≤ a) := by omega
  clear h
  have HB := kp (ba (ba (Below.refl w.heap.size w) (.cells (cellsU8 K).toArray 27)) (.cells (cellsU8 k).toArray 27))
  rcases hcase with h | ⟨h, h2⟩ | ⟨h, h2, h3⟩
  all_goals
    go_enter Tryz.func40, Tryz.ntmps40
    go_wp2
    go_ret
    exact ⟨rfl, HB.out⟩
set_option maxHeartbeats 1000000 in
set_option maxRecDepth 100000 in
theorem R_Check_far (K k : List UInt8) (a i most : Int) (h0 : 0 ≤ a) (h1 : a < i) (hi : i ≤ 9223372036854775807) (h : min most 1024 < i - a) (w : World) :
    Calls Tryz.prog 40 #[.agg (cellsU8 K).toArray, .int .i64 a, .agg (cellsU8 k).toArray, .int .i64 i, .int .i64 most] w fun e w' => e = .returned (.int .i64 16) ∧ Below w.heap.size w w' := by
  have hcase : most < i - a ∨ (¬ most < i - a ∧ 1024 < i - a) := by omega
  have hb1 : 0 ≤ i - a := by omega
  have hb2 : i - a ≤ 9223372036854775807 := by omega
  have g1 : ¬ a < 0 := by omega
  have g2 : ¬ i < 0 := by omega
  have g3 : ¬ i ≤ a := by omega
  clear h
  have HB := kp (ba (ba (Below.refl w.heap.size w) (.cells (cellsU8 K).toArray 27)) (.cells (cellsU8 k).toArray 27))
  rcases hcase with h | ⟨h, h2⟩
  all_goals
    go_enter Tryz.func40, Tryz.ntmps40
    go_wp2
    go_ret
    exact ⟨rfl, HB.out⟩
set_option maxHeartbeats 1000000 in
set_option maxRecDepth 100000 in
theorem R_Check_near (K k : List UInt8) (a i most : Int) (D : Nat) (hK : K.length = 32) (hk : k.length = 32) (h0 : 0 ≤ a) (h1 : a < i) (hi : i ≤ 9223372036854775807) (hD : i - a = (D : Int)) (h : i - a ≤ min most 1024) (w : World) :
    Calls Tryz.prog 40 #[.agg (cellsU8 K).toArray, .int .i64 a, .agg (cellsU8 k).toArray, .int .i64 i, .int .i64 most] w fun e w' => e = .returned (.int .i64 (learnE K (walkD k D))) ∧ Below w.heap.size w w' := by
  have hb1 : 0 ≤ i - a := by omega
  have hb2 : i - a ≤ 1024 := by omega
  have g1 : ¬ a < 0 := by omega
  have g2 : ¬ i < 0 := by omega
  have g3 : ¬ i ≤ a := by omega
  have g4 : ¬ most < i - a := by omega
  have g5 : ¬ 1024 < i - a := by omega
  have H5 := kp ((Blk.new w 27 (cellsU8 K).toArray).alloc (.cells (cellsU8 k).toArray 27))
  have H7 : Kp (Blk ((w.alloc (.cells (cellsU8 K).toArray 27)).alloc (.cells (cellsU8 k).toArray 27)) (w.heap.size + 1) 27 (cellsU8 (walkD k 0)).toArray) := kp (by
    have := Blk.new (w.alloc (.cells (cellsU8 K).toArray 27)) 27 (cellsU8 k).toArray
    rw [size_all] at this; exact this)
  have HB := kp (ba (ba (Below.refl w.heap.size w) (.cells (cellsU8 K).toArray 27)) (.cells (cellsU8 k).toArray 27))
  have HKK := kp hk
  have HK := kp hK
  have hDD := kp hD
  clear hk hK hD
  go_enter Tryz.func40, Tryz.ntmps40
  go_wp2
  go_loopw [3] (fun x wr => ∃ j : Nat, j ≤ D ∧ x = .int .i64 (i - (j : Int)) ∧ Kp (Blk wr w.heap.size 27 (cellsU8 K).toArray) ∧ Kp (Blk wr (w.heap.size + 1) 27 (cellsU8 (walkD k j)).toArray) ∧ Kp (Below w.heap.size w wr)) (fun x _ => (intOf x - a).toNat)
  case atStart => exact ⟨0, Nat.zero_le _, by simp, H5, H7, HB⟩
  case round =>
    clear H5 H7 HB
    obtain ⟨j, hj, rfl, H5, H7, HB⟩ := hrel
    have hwl := walkD_length k HKK.out j
    have hdd := hDD.out
    by_cases hlt : j < D
    · have i1 : a < i - (j : Int) := by omega
      have i2 : i - (j : Int) ≤ 9223372036854775807 := by omega
      have i3 : 0 ≤ i - (j : Int) := by omega
      have hcv := blk_str (P := Tryz.prog) 93 (e := 5) (dst := 9) (n := 32) (cap := 32) Tryz.underlying93 Tryz.underlying5 Tryz.underlying9 H7.out hwl
      have SU := kp (fun w' => R_Sum_l (walkD k j) hwl w')
      have hdl := digest_length (walkD k j)
      have HS : Kp (walkD k (j + 1) = digest (walkD k j)) := kp rfl
      have HWL := kp hwl
      generalize digest (walkD k j) = E at SU hdl HS
      have hcl := key_cells E hdl
      clear hdl hwl hdd
      go_wp2_with fail
      refine (SU.out _).mono ?_
      rintro e w2 ⟨rfl, hb2⟩
      have SC := sc_all (P := Tryz.prog) (w := w2) (w.heap.size + 1) 27 (cellsU8 E) _ (H7.out.bel hb2) (by rw [hcl, length_cellsU8, HWL.out]) (cellsU8_one _)
      have HX := kp ((H7.out.bel hb2).row (cellsU8 E).toArray)
      have HX1 := kp ((H5.out.bel hb2).rowfar (b := w.heap.size + 1) (by omega) (cellsU8 E).toArray)
      have hbx := bt' HB.out hb2 HB.out.size
      have HBX := kp (bsr hbx (Nat.le_succ w.heap.size) hbx.size (cellsU8 E).toArray)
      clear hb2 hbx H5 H7 HB
      generalize hY : w2.setRow (w.heap.size + 1) (cellsU8 E).toArray = Y at SC HX HX1 HBX
      clear hY hcv
      go_wp2
      go_roundw
      case measure => simp [intOf]; omega
      case rel => exact ⟨j + 1, by omega, by congr 1; omega, HX1, by rw [HS.out]; exact HX, HBX⟩
    · obtain rfl : j = D := by omega
      have i1 : ¬ a < i - (j : Int) := by omega
      obtain ⟨E, hE⟩ : ∃ E, walkD k j = E := ⟨_, rfl⟩
      rw [hE] at H7 hwl
      have HEE := kp hE
      have HWL := kp hwl
      have L1 := ldK E hwl H7.out
      have L2 := ldK K HK.out H5.out
      clear hE hwl hdd
      by_cases hEK : E = K
      · have hv := kp (show learnE K E = 0 from if_pos hEK)
        have HNM := kp (show (!decide (E = K)) = false by rw [decide_eq_true hEK]; rfl)
        clear hEK
        go_wp2_with (first | (refine wpL_load rfl 27 _ rfl rfl L1 ?_) | (refine wpL_load rfl 27 _ rfl rfl L2 ?_) | (refine wpL_val 43 rfl rfl (.bool false) ((exec_nek rfl rfl rfl HWL.out HK.out wr).trans (by rw [HNM.out])) ?_))
        go_ret
        exact ⟨by rw [HEE.out, hv.out]; rfl, HB.out⟩
      · have hv := kp (show learnE K E = 13 from if_neg hEK)
        have HNM := kp (show (!decide (E = K)) = true by rw [decide_eq_false hEK]; rfl)
        clear hEK
        go_wp2_with (first | (refine wpL_load rfl 27 _ rfl rfl L1 ?_) | (refine wpL_load rfl 27 _ rfl rfl L2 ?_) | (refine wpL_val 43 rfl rfl (.bool true) ((exec_nek rfl rfl rfl HWL.out HK.out wr).trans (by rw [HNM.out])) ?_))
        go_ret
        exact ⟨by rw [HEE.out, hv.out]; rfl, HB.out⟩
end Go.Proofs.YtmblknknbbdmeaaGreat
/- chain: contracts that hold whatever the numbers are, the program's beside the reference's. -/
namespace Go.Proofs.YtmblknknbbdmeaaGreat
open Go Go.RowKit
set_option linter.unusedVariables false
set_option linter.unusedSimpArgs false

end Go.Proofs.YtmblknknbbdmeaaGreat
/- pebble: plain words, and a walker's memory. -/
namespace Go.Proofs.YtmblknknbbdmeaaGreat
open Go Go.RowKit
set_option linter.unusedVariables false
set_option linter.unusedSimpArgs false

/-- stones halve the way: each lies at 'at' or behind it, ahead of the one before, at half of its way at most -/
def Hv (at_ : Nat) : Nat → List Nat → Prop
  | _, [] => True
  | prev, p :: ps => at_ ≤ p ∧ p < prev ∧ 2 * p ≤ prev + at_ ∧ Hv at_ p ps
theorem Hv.len {at_ : Nat} : ∀ (ps : List Nat) (prev : Nat), Hv at_ prev ps → at_ < prev → 2 ^ ps.length ≤ 2 * (prev - at_)
  | [], prev, _, h => by simp; omega
  | p :: ps, prev, ⟨h1, h2, h3, h4⟩, h => by
    match ps, h4 with
    | [], _ => simp; omega
    | q :: qs, h4 =>
      have hq : q < p := h4.2.1
      have hq2 : at_ ≤ q := h4.1
      have := Hv.len (q :: qs) p h4 (by omega)
      rw [List.length_cons, Nat.pow_succ]
      omega
theorem Hv.mono {a a' : Nat} (haa : a ≤ a') : ∀ (ps : List Nat) (prev : Nat), Hv a prev ps → (∀ p ∈ ps, a' ≤ p) → Hv a' prev ps
  | [], _, _, _ => trivial
  | p :: ps, prev, ⟨h1, h2, h3, h4⟩, h => ⟨h p (by simp), h2, by omega, Hv.mono haa ps p h4 (fun x hx => h x (by simp [hx]))⟩
theorem Hv.init {a : Nat} : ∀ (ps : List Nat) (prev p : Nat), Hv a prev (ps ++ [p]) → Hv a prev ps ∧ a ≤ p ∧ ∀ x ∈ ps, p < x
  | [], prev, p, ⟨h1, h2, h3, _⟩ => ⟨trivial, h1, by simp⟩
  | q :: qs, prev, p, ⟨h1, h2, h3, h4⟩ => by
    obtain ⟨a1, a2, a3⟩ := Hv.init qs q p h4
    refine ⟨⟨h1, h2, h3, a1⟩, a2, fun x hx => ?_⟩
    rcases List.mem_cons.1 hx with rfl | hx
    · match qs, h4 with
      | [], h4 => exact h4.2.1
      | r :: rs, h4 => exact Nat.lt_trans (a3 r (by simp)) h4.2.1
    · exact a3 x hx
theorem Hv.snoc {a : Nat} : ∀ (ps : List Nat) (prev p m : Nat), Hv a prev (ps ++ [p]) → a ≤ m → m < p → 2 * m ≤ p + a → Hv a prev (ps ++ [p] ++ [m])
  | [], prev, p, m, ⟨h1, h2, h3, _⟩, k1, k2, k3 => ⟨h1, h2, h3, k1, k2, k3, trivial⟩
  | q :: qs, prev, p, m, ⟨h1, h2, h3, h4⟩, k1, k2, k3 => ⟨h1, h2, h3, Hv.snoc qs q p m h4 k1 k2 k3⟩

/-- what a walker minds -/
structure Inv (n at_ : Nat) (ps : List Nat) : Prop where
  le : at_ ≤ n + 1
  hv : Hv at_ (2 * n + 1) ps
  hd : at_ ≤ n → ∃ rest, ps = n :: rest
  no : n < at_ → ps = []
theorem Inv.len {n at_ : Nat} {ps : List Nat} (h : Inv n at_ ps) (hn1 : 1 ≤ n) (hn : n ≤ 1024) : ps.length ≤ 12 := by
  have := Hv.len ps _ h.hv (by have := h.le; omega)
  have h2 : 2 ^ ps.length ≤ 4098 := Nat.le_trans this (by omega)
  rcases Nat.lt_or_ge 12 ps.length with h3 | h3
  · have : 2 ^ 13 ≤ 2 ^ ps.length := Nat.pow_le_pow_right (by decide) h3
    omega
  · exact h3
/-- the least b with n + 1 ≤ 2^b, and 2 -/
theorem Inv.most {n at_ b : Nat} {ps : List Nat} (h : Inv n at_ ps) (hn : 1 ≤ n) (hb : n + 1 ≤ 2 ^ b) : ps.length ≤ b + 2 := by
  have h1 := Hv.len ps _ h.hv (by have := h.le; omega)
  rcases Nat.lt_or_ge (b + 2) ps.length with h3 | h3
  · have : 2 ^ (b + 3) ≤ 2 ^ ps.length := Nat.pow_le_pow_right (by decide) h3
    rw [Nat.pow_add] at this
    omega
  · exact h3
theorem Inv.new (n : Nat) (hn : 1 ≤ n) : Inv n 0 [n] := ⟨by omega, ⟨by omega, by omega, by omega, trivial⟩, fun _ => ⟨[], rfl⟩, fun h => by omega⟩
theorem Inv.ne {n at_ : Nat} {ps : List Nat} (h : Inv n at_ ps) (ha : at_ ≤ n) : ps ≠ [] := by
  obtain ⟨r, rfl⟩ := h.hd ha; simp
theorem Inv.push {n at_ : Nat} {ps : List Nat} {p m : Nat} (h : Inv n at_ (ps ++ [p])) (ha : at_ ≤ n) (k1 : at_ ≤ m) (k2 : m < p) (k3 : 2 * m ≤ p + at_) : Inv n at_ (ps ++ [p] ++ [m]) :=
  ⟨h.le, Hv.snoc _ _ _ _ h.hv k1 k2 k3, fun _ => by obtain ⟨r, hr⟩ := h.hd ha; exact ⟨r ++ [m], by rw [hr]; rfl⟩, fun hh => by omega⟩
theorem Inv.pop {n at_ : Nat} {ps : List Nat} (h : Inv n at_ (ps ++ [at_])) (ha : at_ ≤ n) : Inv n (at_ + 1) ps := by
  obtain ⟨h1, h2, h3⟩ := Hv.init _ _ _ h.hv
  refine ⟨by omega, Hv.mono (by omega) _ _ h1 (fun p hp => h3 p hp), fun hh => ?_, fun hh => ?_⟩
  · obtain ⟨r, hr⟩ := h.hd ha
    match ps, hr with
    | [], hr => injection hr with hr _; omega
    | q :: qs, hr => injection hr with hr _; exact ⟨qs, by rw [hr]⟩
  · obtain ⟨r, hr⟩ := h.hd ha
    match ps, hr with
    | [], hr => rfl
    | q :: qs, hr => injection hr with hr _; have := h3 q (by simp); omega
theorem Inv.last {n at_ : Nat} {ps : List Nat} {p : Nat} (h : Inv n at_ (ps ++ [p])) (ha : at_ ≤ n) : at_ ≤ p ∧ p ≤ n := by
  obtain ⟨h1, h2, h3⟩ := Hv.init _ _ _ h.hv
  refine ⟨h2, ?_⟩
  obtain ⟨r, hr⟩ := h.hd ha
  match ps, hr with
  | [], hr => injection hr with hr _; omega
  | q :: qs, hr => injection hr with hr _; have := h3 q (by simp); omega
/-- while it skips: stones are let go, the first one stays -/
structure Skp (n at_ to_ : Nat) (ps : List Nat) : Prop where
  hv : Hv at_ (2 * n + 1) ps
  hd : ∃ rest, ps = n :: rest
theorem Skp.of {n at_ to_ : Nat} {ps : List Nat} (h : Inv n at_ ps) (ha : at_ ≤ n) : Skp n at_ to_ ps := ⟨h.hv, h.hd ha⟩
theorem Skp.drop {n at_ to_ : Nat} {ps : List Nat} {p : Nat} (h : Skp n at_ to_ (ps ++ [p])) (hp : p < to_) (ht : to_ ≤ n) : Skp n at_ to_ ps := by
  obtain ⟨h1, h2, h3⟩ := Hv.init _ _ _ h.hv
  refine ⟨h1, ?_⟩
  obtain ⟨r, hr⟩ := h.hd
  match ps, hr with
  | [], hr => injection hr with hr _; omega
  | q :: qs, hr => injection hr with hr _; exact ⟨qs, by rw [hr]⟩
theorem Skp.done {n at_ to_ : Nat} {ps : List Nat} {p : Nat} (h : Skp n at_ to_ (ps ++ [p])) (ha : at_ ≤ to_) (hp : to_ ≤ p) (ht : to_ ≤ n) : Inv n to_ (ps ++ [p]) := by
  obtain ⟨h1, h2, h3⟩ := Hv.init _ _ _ h.hv
  refine ⟨by omega, Hv.mono ha _ _ h.hv (fun x hx => ?_), fun _ => h.hd, fun hh => by omega⟩
  rcases List.mem_append.1 hx with hx | hx
  · have := h3 x hx; omega
  · simp at hx; omega
theorem snoc_of {ps : List Nat} (h : ps ≠ []) : ∃ qs p, ps = qs ++ [p] := ⟨ps.dropLast, ps.getLast h, (List.dropLast_concat_getLast h).symm⟩

/-- a stone's cells -/
def stoneL (F : Nat → List UInt8) (n p : Nat) : List Value := .int .i64 (p : Int) :: cellsU8 (F (n - p))
def stonesL (F : Nat → List UInt8) (n : Nat) (ps : List Nat) : List Value := (ps.map (stoneL F n)).flatten
def F32 (F : Nat → List UInt8) : Prop := ∀ d, (F d).length = 32
theorem stoneL_length {F : Nat → List UInt8} (hF : F32 F) (n p : Nat) : (stoneL F n p).length = 33 := by simp [stoneL, length_cellsU8, hF (n - p)]
theorem stoneL_one (F : Nat → List UInt8) (n p : Nat) : ∀ v ∈ stoneL F n p, v.oneCell' = true := by
  intro v hv
  rcases List.mem_cons.1 hv with rfl | hv
  · rfl
  · exact cellsU8_one _ v hv
theorem stonesL_length {F : Nat → List UInt8} (hF : F32 F) (n : Nat) : ∀ ps : List Nat, (stonesL F n ps).length = ps.length * 33
  | [] => rfl
  | p :: ps => by
    have := stonesL_length hF n ps
    unfold stonesL at *
    rw [List.map_cons, List.flatten_cons, List.length_append, this, stoneL_length hF, List.length_cons]; omega
theorem stonesL_snoc (F : Nat → List UInt8) (n : Nat) (ps : List Nat) (p : Nat) : stonesL F n (ps ++ [p]) = stonesL F n ps ++ stoneL F n p := by simp [stonesL]

/-- a walker in block b, its stones in block g -/
structure Wk (w : World) (b g cap : Nat) (cur : Array Value) (F : Nat → List UInt8) (n at_ : Nat) (ps : List Nat) : Prop where
  blk : Blk w b 192 #[.int .i64 (n : Int), .int .i64 (at_ : Int), .slice (some ⟨g, 0, none⟩) ps.length cap]
  row : Blk w g 189 cur
  ne : b ≠ g
  le : ps.length ≤ cap
  cap_le : cap ≤ maxLen
  fit : cap * 33 ≤ cur.size
  take : cur.toList.take (ps.length * 33) = stonesL F n ps
/-- only a walker's blocks, and what is new, have turned -/
structure Fr (w w' : World) (b g : Nat) : Prop where
  os : w'.os = w.os
  tape : w'.tape = w.tape
  output : w'.output = w.output
  size : w.heap.size ≤ w'.heap.size
  block : ∀ k, k < w.heap.size → k ≠ b → k ≠ g → w'.heap[k]? = w.heap[k]?
theorem Fr.of_bel {w w' : World} {b g : Nat} (h : Below w.heap.size w w') : Fr w w' b g := ⟨h.os, h.tape, h.output, h.size, fun k hk _ _ => h.block k hk⟩
theorem Fr.of_b {w w' : World} {b g : Nat} (h : w.grownBy w' (some b)) : Fr w w' b g := ⟨h.os, h.tape, h.output, h.size, fun k hk hb _ => h.block k hk (by intro e; injection e with e; exact hb e)⟩
theorem Fr.of_g {w w' : World} {b g : Nat} (h : w.grownBy w' (some g)) : Fr w w' b g := ⟨h.os, h.tape, h.output, h.size, fun k hk _ hg => h.block k hk (by intro e; injection e with e; exact hg e)⟩
theorem Fr.trans {w w1 w2 : World} {b g g1 : Nat} (h : Fr w w1 b g) (k : Fr w1 w2 b g1) (hg : g1 = g ∨ w.heap.size ≤ g1) : Fr w w2 b g :=
  ⟨k.os.trans h.os, k.tape.trans h.tape, k.output.trans h.output, Nat.le_trans h.size k.size, fun i hi hb hgi => (k.block i (Nat.lt_of_lt_of_le hi h.size) hb (by rcases hg with rfl | hg; exact hgi; omega)).trans (h.block i hi hb hgi)⟩
theorem Fr.below {B : Nat} {w w' : World} {b g : Nat} (h : Fr w w' b g) (hb : B ≤ b) (hg : B ≤ g) (hB : B ≤ w.heap.size) : Below B w w' :=
  ⟨h.os, h.tape, h.output, h.size, fun k hk => h.block k (by omega) (by omega) (by omega)⟩
theorem Blk.fr {w w' : World} {b g k : Nat} {t : TypeId} {cs : Array Value} (h : Blk w k t cs) (hf : Fr w w' b g) (h1 : k ≠ b) (h2 : k ≠ g) : Blk w' k t cs := (hf.block k h.lt h1 h2).trans h
theorem Wk.bel {w w' : World} {b g cap : Nat} {cur : Array Value} {F : Nat → List UInt8} {n at_ : Nat} {ps : List Nat} (h : Wk w b g cap cur F n at_ ps) (hb : Below w.heap.size w w') : Wk w' b g cap cur F n at_ ps :=
  ⟨h.blk.bel hb, h.row.bel hb, h.ne, h.le, h.cap_le, h.fit, h.take⟩
theorem Wk.fr {w w' : World} {b g cap : Nat} {cur : Array Value} {F : Nat → List UInt8} {n at_ : Nat} {ps : List Nat} (h : Wk w b g cap cur F n at_ ps) {b2 g2 : Nat} (hf : Fr w w' b2 g2) (h1 : b ≠ b2) (h2 : b ≠ g2) (h3 : g ≠ b2) (h4 : g ≠ g2) : Wk w' b g cap cur F n at_ ps :=
  ⟨h.blk.fr hf h1 h2, h.row.fr hf h3 h4, h.ne, h.le, h.cap_le, h.fit, h.take⟩
theorem Wk.cells {w : World} {b g cap : Nat} {cur : Array Value} {F : Nat → List UInt8} {n at_ : Nat} {ps : List Nat} (h : Wk w b g cap cur F n at_ ps) :
    w.cell? ⟨b, 0, none⟩ = some (.int .i64 (n : Int)) ∧ w.cell? ⟨b, 1, none⟩ = some (.int .i64 (at_ : Int)) ∧ w.cell? ⟨b, 2, none⟩ = some (.slice (some ⟨g, 0, none⟩) ps.length cap) ∧ b < w.heap.size :=
  ⟨h.blk.at rfl, h.blk.at rfl, h.blk.at rfl, h.blk.lt⟩
/-- the last stone's cells -/
theorem Wk.last {w : World} {b g cap : Nat} {cur : Array Value} {F : Nat → List UInt8} {n at_ : Nat} {ps : List Nat} {p : Nat} (hF : F32 F) (h : Wk w b g cap cur F n at_ (ps ++ [p])) (j : Nat) (v : Value) (hv : (stoneL F n p)[j]? = some v) : w.cell? ⟨g, ps.length * 33 + j, none⟩ = some v := by
  have ht := h.take
  rw [stonesL_snoc, List.length_append, List.length_singleton] at ht
  have hj : j < 33 := by have := (List.getElem?_eq_some_iff.1 hv).1; rw [stoneL_length hF] at this; exact this
  rw [h.row.cell, ← Array.getElem?_toList]
  have h2 : (cur.toList.take ((ps.length + 1) * 33))[ps.length * 33 + j]? = some v := by
    rw [ht, List.getElem?_append_right (by rw [stonesL_length hF]; omega), stonesL_length hF, show ps.length * 33 + j - ps.length * 33 = j by omega]
    exact hv
  rw [List.getElem?_take, if_pos (by omega)] at h2
  exact h2
end Go.Proofs.YtmblknknbbdmeaaGreat
/- pebble: New, At, Left, Minds, last, drop. -/
namespace Go.Proofs.YtmblknknbbdmeaaGreat
open Go Go.RowKit
set_option linter.unusedVariables false
set_option linter.unusedSimpArgs false
attribute [local go_sem] bmax2 bmin2 bmax bmin cell_ext frozen_ext

theorem info_stone : (Tryz.prog.info? 189).map (·.size) = some 33 := by kernel_rfl
set_option maxRecDepth 100000 in
theorem build_stone (K : List UInt8) (a : Int) (h : K.length = 32) (W : World) : (Instr.build 189 #[(0, .int .i64 a), (1, .agg (cellsU8 K).toArray)]).run Tryz.prog W = .ok (.agg (.int .i64 a :: cellsU8 K).toArray) W := by
  obtain ⟨f, rfl⟩ := list32 K h
  exact run_build W 189 _ _ (by kernel_rfl)
set_option maxRecDepth 100000 in
theorem slice_stone (K : List UInt8) (a : Int) (h : K.length = 32) (W : World) : (Instr.buildSlice 190 1 #[(0, .agg (.int .i64 a :: cellsU8 K).toArray)]).run Tryz.prog W = .ok (.slice (some ⟨W.heap.size, 0, none⟩) 1 1) (W.alloc (.cells (.int .i64 a :: cellsU8 K).toArray 189)) := by
  obtain ⟨f, rfl⟩ := list32 K h
  kernel_rfl
theorem PNew_bad (K : List UInt8) (n : Int) (h : n < 1 ∨ 1024 < n) (w : World) :
    Calls Tryz.prog 72 #[.agg (cellsU8 K).toArray, .int .i64 n] w fun e w' => e = .returned (.tuple #[.pointer none, .int .i64 1]) ∧ Below w.heap.size w w' := by
  have hcase : n < 1 ∨ (¬ n < 1 ∧ 1024 < n) := by omega
  clear h
  rcases hcase with h | ⟨h, h2⟩
  all_goals
    go_enter Tryz.func72, Tryz.ntmps72
    go_wp2
    go_ret2
    exact ⟨rfl, ba (Below.refl _ _) _⟩
/-- New's end -/
def NewEnd (w : World) (F : Nat → List UInt8) (n : Nat) (e : Ending) (w' : World) : Prop := ∃ b g cap cur, e = .returned (.tuple #[.pointer (some ⟨b, 0, none⟩), .int .i64 0]) ∧ Wk w' b g cap cur F n 0 [n] ∧ w.heap.size ≤ b ∧ w.heap.size ≤ g ∧ Below w.heap.size w w'
set_option maxHeartbeats 1000000 in
set_option maxRecDepth 100000 in
theorem PNew_good (K : List UInt8) (hK : K.length = 32) (n : Nat) (h1 : 1 ≤ n) (h2 : n ≤ 1024) (w : World) :
    Calls Tryz.prog 72 #[.agg (cellsU8 K).toArray, .int .i64 (n : Int)] w (NewEnd w (chK K) n) := by
  have c1 : Kp (∀ w', Calls Tryz.prog 99 #[.agg (cellsU8 K).toArray, .string ⟨#[99, 104, 97, 105, 110]⟩] w' fun e w'' => e = .returned (.agg (cellsU8 (chK K 0)).toArray) ∧ Below w'.heap.size w' w'') := kp (fun w' => Of_any K ⟨#[99, 104, 97, 105, 110]⟩ hK (by decide) w')
  have hF0 := kp (chK_length K 0)
  have HF : Kp (F32 (chK K)) := kp (chK_length K)
  generalize chK K = F at *
  obtain ⟨P, hP⟩ : ∃ P, F 0 = P := ⟨_, rfl⟩
  rw [hP] at c1 hF0
  have HP := kp hP
  have g1 : ¬ (n : Int) < 1 := by omega
  have g2 : ¬ (1024 : Int) < (n : Int) := by omega
  have HB := kp (ba (Below.refl w.heap.size w) (.cells (cellsU8 K).toArray 27))
  have LD := ldK K hK (Blk.new w 27 (cellsU8 K).toArray)
  clear hK hP
  go_enter Tryz.func72, Tryz.ntmps72
  go_wp2_with (refine wpL_load rfl 27 _ rfl rfl LD ?_)
  clear LD
  refine (c1.out _).mono ?_
  rintro e w1 ⟨rfl, hb1⟩
  have HB1 := kp (bt' HB.out hb1 HB.out.size)
  have HB2 := kp (ba (ba HB1.out (.cells (.int .i64 (n : Int) :: cellsU8 P).toArray 189)) (.cells #[.int .i64 (n : Int), .int .i64 0, .slice (some ⟨w1.heap.size, 0, none⟩) 1 1] 192))
  have hr := kp ((Blk.new w1 189 (.int .i64 (n : Int) :: cellsU8 P).toArray).alloc (.cells #[.int .i64 (n : Int), .int .i64 0, .slice (some ⟨w1.heap.size, 0, none⟩) 1 1] 192))
  have hb := Blk.new (w1.alloc (.cells (.int .i64 (n : Int) :: cellsU8 P).toArray 189)) 192 #[.int .i64 (n : Int), .int .i64 0, .slice (some ⟨w1.heap.size, 0, none⟩) 1 1]
  rw [size_all] at hb
  have HW := kp hb
  clear hb hb1 HB
  go_wp2_with (first | (refine wpL_val 16 rfl rfl (.agg (.int .i64 (n : Int) :: cellsU8 P).toArray) (exec_build rfl (by simp [Act.eval, Act.put]) (build_stone P (n : Int) hF0.out _)) ?_) | (refine wpL_make 17 rfl rfl (.slice (some ⟨w1.heap.size, 0, none⟩) 1 1) (exec_buildSlice rfl (by simp [Act.eval, Act.put]) (slice_stone P (n : Int) hF0.out _)) ?_))
  refine bodyPost_ret (v := .tuple #[.pointer (some ⟨w1.heap.size + 1, 0, none⟩), .int .i64 0]) (by simp [results, Tryz.results72, go_sem]) rfl ⟨w1.heap.size + 1, w1.heap.size, 1, _, rfl, ⟨HW.out, hr.out, by omega, Nat.le_refl _, by decide, ?_, ?_⟩, by have := HB1.out.size; omega, HB1.out.size, HB2.out⟩
  · simp [length_cellsU8, hF0.out]
  · rw [List.take_of_length_le (by simp [length_cellsU8, hF0.out])]
    unfold stonesL stoneL
    rw [List.map_cons, List.map_nil, List.flatten_cons, List.flatten_nil, List.append_nil, Nat.sub_self, HP.out]

section
variable {w : World} {b g cap : Nat} {cur : Array Value} {F : Nat → List UInt8} {n at_ : Nat} {ps : List Nat}
theorem PAt_any (h : Wk w b g cap cur F n at_ ps) : Calls Tryz.prog 108 #[.pointer (some ⟨b, 0, none⟩)] w fun e w' => e = .returned (.int .i64 (at_ : Int)) ∧ w = w' := by
  obtain ⟨c0, c1, c2, hl⟩ := h.cells
  have HH := kp h
  clear h
  go_enter Tryz.func108, Tryz.ntmps108
  go_wp2
  go_ret
  exact ⟨rfl, rfl⟩
set_option maxHeartbeats 1000000 in
set_option maxRecDepth 100000 in
theorem Plast_any {p : Nat} (hF : F32 F) (h : Wk w b g cap cur F n at_ (ps ++ [p])) (hl12 : ps.length ≤ 100) : Calls Tryz.prog 100 #[.pointer (some ⟨b, 0, none⟩)] w fun e w' => e = .returned (.agg (stoneL F n p).toArray) ∧ Below w.heap.size w w' := by
  have hlen : (ps ++ [p]).length = ps.length + 1 := by simp
  have hle := h.le
  rw [hlen] at hle
  have HH := kp h
  have HN := kp (Blk.new w 189 (stoneL (fun _ => List.replicate 32 0) 0 0).toArray)
  have HB := kp (ba (Below.refl w.heap.size w) (.cells (stoneL (fun _ => List.replicate 32 0) 0 0).toArray 189))
  have H1 := kp (h.bel (ba (Below.refl _ _) (.cells (stoneL (fun _ => List.replicate 32 0) 0 0).toArray 189)))
  have hsl := stoneL_length hF n p
  have HF := kp hF
  clear h hF
  obtain ⟨m, hm⟩ : ∃ m, ps.length = m := ⟨_, rfl⟩
  go_enter Tryz.func100, Tryz.ntmps100
  go_wp2
  change Code.wp _ _ _ _ (w.alloc (.cells (stoneL (fun _ => List.replicate 32 0) 0 0).toArray 189))
  obtain ⟨Z, hZ⟩ : ∃ Z, stoneL (fun _ => List.replicate 32 0) 0 0 = Z := ⟨_, rfl⟩
  have hzl : Z.length = 33 := by rw [← hZ]; rfl
  rw [hZ] at HN HB H1 ⊢
  generalize w.alloc (.cells Z.toArray 189) = W at HN HB H1 ⊢
  obtain ⟨c0, c1, c2, hlb⟩ := H1.out.cells
  rw [hlen, hm] at c2
  rw [hm] at hle hl12
  have hgl := H1.out.row.lt
  have i1 : (m : Int) ≤ 100 := by omega
  have i2 : (m : Int) + 1 ≤ (cap : Int) := by omega
  have w1 : IntKind.i64.wrap (((m + 1 : Nat) : Int) - 1) = (m : Int) := by rw [IntWalk.i64_in _ (by omega)]; omega
  have w2 : IntKind.i64.wrap ((m : Int) + 1 - 1) = (m : Int) := by rw [IntWalk.i64_in _ (by omega)]; omega
  have LQ := kp (fun x => ld_row (P := Tryz.prog) (w := W.ext x) g (m * 33) 33 189 (stoneL F n p) _ Tryz.underlying189 rfl info_stone hsl (fun j v hv => by
    rw [← hm]
    exact ((ext_below W x).cell (p := ⟨g, ps.length * 33 + j, none⟩) hgl).trans (H1.out.last HF.out j v hv)))
  refine wp_region_ext [0, 1, 2, 3, 4, 5, 6, 7, 8, 9, 10, 11] [12] (by kernel_rfl) (by kernel_rfl) ?_
  simp only [List.map_cons, List.map_nil, List.getD_cons_succ, List.getD_cons_zero]
  repeat (first
    | (go_big_quiet_want; refine quiet_load _ rfl 189 _ rfl rfl (fun w hw => by obtain ⟨x, rfl⟩ := hw; exact LQ.out x) ?_; go_simp; go_big_quiet_on)
    | go_big_quiet_step (fail))
  refine wpQuiet_nil ?_
  rintro z
  have h5 := HN.out.bel (ext_below W z)
  have hb5 := bt' HB.out (ext_below W z) HB.out.size
  have SC := sc_all (P := Tryz.prog) (w := W.ext z) w.heap.size 189 (stoneL F n p) _ h5 (by rw [hsl, hzl]) (stoneL_one F n p)
  have HX := kp (h5.row (stoneL F n p).toArray)
  have HBX := kp (bsr hb5 (Nat.le_refl w.heap.size) hb5.size (stoneL F n p).toArray)
  have HL := kp hsl
  clear h5 hb5 HN HB H1 c0 c1 c2 HH
  generalize W.ext z = V at SC HX HBX ⊢
  generalize V.setRow w.heap.size (stoneL F n p).toArray = Y at SC HX HBX
  obtain ⟨SL, hSL⟩ : ∃ SL, stoneL F n p = SL := ⟨_, rfl⟩
  rw [hSL] at SC HX HL hsl ⊢
  have HSL := kp hSL
  clear hSL LQ
  go_wp2
  refine bodyPost_ret (v := .agg SL.toArray) ?_ rfl ⟨by first | rfl | rw [HSL.out], HBX.out⟩
  exact res_all Tryz.results100 w.heap.size 33 _ SL _ Tryz.underlying189 rfl info_stone HL.out HX.out _ rfl

/-- drop's end -/
def DropEnd (w : World) (b g : Nat) (cur : Array Value) (F : Nat → List UInt8) (n at_ : Nat) (ps : List Nat) (e : Ending) (w' : World) : Prop := (∃ v, e = .returned v) ∧ Wk w' b g ps.length cur F n at_ ps ∧ w.grownBy w' (some b)
theorem Wk.dropped {p : Nat} (hF : F32 F) (h : Wk w b g cap cur F n at_ (ps ++ [p])) : Wk (w.setCell ⟨b, 2, none⟩ (.slice (some ⟨g, 0, none⟩) ps.length ps.length)) b g ps.length cur F n at_ ps := by
  have hle := h.le
  rw [List.length_append, List.length_singleton] at hle
  refine ⟨?_, h.row.far (fun e => h.ne e.symm) _, h.ne, Nat.le_refl _, Nat.le_trans (by omega) h.cap_le, Nat.le_trans (Nat.mul_le_mul_right 33 (show ps.length ≤ cap by omega)) h.fit, ?_⟩
  · have := h.blk.set_ 2 (.slice (some ⟨g, 0, none⟩) ps.length ps.length)
    exact this
  · have ht := h.take
    rw [stonesL_snoc, List.length_append, List.length_singleton] at ht
    have h2 : (cur.toList.take ((ps.length + 1) * 33)).take (ps.length * 33) = stonesL F n ps := by
      rw [ht, List.take_append_of_le_length (by rw [stonesL_length hF]; exact Nat.le_refl _), List.take_of_length_le (by rw [stonesL_length hF]; exact Nat.le_refl _)]
    rw [List.take_take, Nat.min_eq_left (by omega)] at h2
    exact h2
set_option maxHeartbeats 1000000 in
set_option maxRecDepth 100000 in
theorem Pdrop_any {p : Nat} (hF : F32 F) (h : Wk w b g cap cur F n at_ (ps ++ [p])) (hl12 : ps.length ≤ 100) : Calls Tryz.prog 101 #[.pointer (some ⟨b, 0, none⟩)] w (DropEnd w b g cur F n at_ ps) := by
  have hlen : (ps ++ [p]).length = ps.length + 1 := by simp
  have hle := h.le
  have hcm := h.cap_le
  have hcm2 : cap ≤ 9223372036854775807 := hcm
  rw [hlen] at hle
  have HW := kp (h.dropped hF)
  have HG := kp (gbset w b 2 (.slice (some ⟨g, 0, none⟩) ps.length ps.length))
  obtain ⟨c0, c1, c2, hlb⟩ := h.cells
  have f2 := h.blk.frozen 2
  have hgl := h.row.lt
  rw [hlen] at c2
  clear h hcm
  have DE : Kp (∀ v, DropEnd w b g cur F n at_ ps (.returned v) (w.setCell ⟨b, 2, none⟩ (.slice (some ⟨g, 0, none⟩) ps.length ps.length))) := kp (fun v => ⟨⟨v, rfl⟩, HW.out, HG.out⟩)
  clear HW HG
  obtain ⟨m, hm⟩ : ∃ m, ps.length = m := ⟨_, rfl⟩
  rw [hm] at c2 hle hl12 DE
  clear hlen hm
  have i1 : (m : Int) ≤ 100 := by omega
  have i2 : (m : Int) + 1 ≤ (cap : Int) := by omega
  have i3 : (m : Int) ≤ (cap : Int) := by omega
  have e1 : ((m + 1 : Nat) : Int) - 1 = (m : Int) := by omega
  go_enter Tryz.func101, Tryz.ntmps101
  go_wp2
  go_end0
  exact DE.out _
end
end Go.Proofs.YtmblknknbbdmeaaGreat
/- pebble: a stone appended; Next. -/
namespace Go.Proofs.YtmblknknbbdmeaaGreat
open Go Go.RowKit
set_option linter.unusedVariables false
set_option linter.unusedSimpArgs false
attribute [local go_sem] bmax2 bmin2 bmax bmin cell_ext frozen_ext

theorem info_stone3 : (Tryz.prog.info? 189).map (fun i => (i.zero.map (fun z => z.cells.size), i.size, i.bytes)) = some (some 33, 33, 40) := by kernel_rfl
theorem stone_parts : ∃ (i : TypeInfo) (z : Value), Tryz.prog.info? 189 = some i ∧ i.zero = some z ∧ z.cells.size = 33 ∧ i.size = 33 ∧ i.bytes = 40 := by
  have h := info_stone3
  cases hq : Tryz.prog.info? 189 with
  | none => simp [hq] at h
  | some i =>
    rw [hq] at h
    simp only [Option.map_some, Option.some.injEq, Prod.mk.injEq] at h
    obtain ⟨h1, h2, h3⟩ := h
    cases hz : i.zero with
    | none => simp [hz] at h1
    | some z =>
      rw [hz] at h1
      exact ⟨i, z, rfl, hz, by simpa using h1, h2, h3⟩
/-- a stone appended -/
theorem run_append_stone {w : World} {b g cap : Nat} {cur : Array Value} {F : Nat → List UInt8} {n at_ : Nat} {ps : List Nat} (hF : F32 F) (h : Wk w b g cap cur F n at_ ps) (hl : ps.length ≤ 100) {bn m : Nat} (hb : Blk w bn 189 (stoneL F n m).toArray) (ty : TypeId) :
    ∃ g' cap' cur' w', (Builtin.append_ #[190, 190] ty #[.slice (some ⟨g, 0, none⟩) ps.length cap, .slice (some ⟨bn, 0, none⟩) 1 1]).run Tryz.prog w = .ok (.slice (some ⟨g', 0, none⟩) (ps.length + 1) cap') w' ∧
      Blk w' g' 189 cur' ∧ ps.length + 1 ≤ cap' ∧ cap' ≤ maxLen ∧ cap' * 33 ≤ cur'.size ∧ cur'.toList.take ((ps.length + 1) * 33) = stonesL F n (ps ++ [m]) ∧ w.grownBy w' (some g) ∧ (g' = g ∨ w.heap.size ≤ g') ∧ b ≠ g' := by
  obtain ⟨i, z, hi, hz, hzs, hs, hby⟩ := stone_parts
  have hsl := stoneL_length hF n m
  have hnews : ∀ j u, (stoneL F n m)[j]? = some u → w.cell? ((⟨bn, 0, none⟩ : Addr).add j) = some u := fun j u hu => by rw [addr_add, Nat.zero_add]; exact hb.atL hu
  have hstl := stonesL_length hF n ps
  have htk := h.take
  by_cases hroom : ps.length + 1 ≤ cap
  · have hfit : ps.length * i.size + (stoneL F n m).length ≤ cur.size := by rw [hs, hsl]; have := h.fit; omega
    have hr := run_append_room (P := Tryz.prog) w 190 ty 189 i Tryz.underlying190 hi g ps.length cap cur h.row ⟨bn, 0, none⟩ 1 1 (stoneL F n m) (by rw [hs, hsl]) hnews (stoneL_one F n m) hroom hfit
    have hfit2 := h.fit
    refine ⟨g, cap, _, _, hr, setRow_heap w g cur _ _ _ h.row, hroom, h.cap_le, ?_, ?_, gbrow w g _, Or.inl rfl, h.ne⟩
    · simp only [List.size_toArray, List.length_append, List.length_take, List.length_drop, Array.length_toList]
      rw [hs]
      omega
    · simp only [hs]
      rw [stonesL_snoc, htk]
      rw [List.append_assoc, ← List.append_assoc, List.take_append_of_le_length (by rw [List.length_append, hstl, hsl]; omega), List.take_of_length_le (by rw [List.length_append, hstl, hsl]; omega)]
  · have holds : ∀ j u, (stonesL F n ps)[j]? = some u → w.cell? ((⟨g, 0, none⟩ : Addr).add j) = some u := fun j u hu => by
      rw [addr_add, Nat.zero_add, h.row.cell, ← Array.getElem?_toList]
      rw [← htk, List.getElem?_take] at hu
      split at hu
      · exact hu
      · cases hu
    have hr := run_append_grow (P := Tryz.prog) w 190 ty 189 i z Tryz.underlying190 hi hz ⟨g, 0, none⟩ ps.length cap (stonesL F n ps) (by rw [hs, hstl]) holds ⟨bn, 0, none⟩ 1 1 (stoneL F n m) (by rw [hs, hsl]) hnews (by omega) (by omega) (growslice_fits (by omega) (by rw [hby]; omega))
    refine ⟨w.heap.size, _, _, _, hr, heap_alloc_new w.drew _, grownCap_ge _ _ _ _, grownCap_le_maxLen w _ _ _ (by unfold maxLen; omega), ?_, ?_, ⟨rfl, rfl, rfl, by simp, fun k hk _ => Below.heap_alloc w.drew _ k hk⟩, Or.inr (Nat.le_refl _), ?_⟩
    · have hge := grownCap_ge w (ps.length + 1) cap 189
      simp only [Array.size_append, List.size_toArray, size_zeroCells, hzs, hstl, hsl]
      omega
    · rw [stonesL_snoc]
      simp only [Array.toList_append, List.append_assoc]
      rw [← List.append_assoc, List.take_append_of_le_length (by rw [List.length_append, hstl, hsl]; omega), List.take_of_length_le (by rw [List.length_append, hstl, hsl]; omega)]
    · have := h.blk.lt; omega
/-- a slice in a new block, as a maker's value -/
def VS (B : Nat) (T : TypeId) (cs : Array Value) (v : Value) (W : World) : Prop := ∃ b, v = .slice (some ⟨b, 0, none⟩) 1 1 ∧ B ≤ b ∧ Blk W b T cs
theorem VS.mono {B : Nat} {T : TypeId} {cs : Array Value} {v : Value} {W W' : World} (h : VS B T cs v W) (hb : Below W.heap.size W W') : VS B T cs v W' := by
  obtain ⟨b, e, hB, hk⟩ := h
  exact ⟨b, e, hB, hk.bel hb⟩
theorem VS.ne {B : Nat} {T : TypeId} {cs : Array Value} {v : Value} {W : World} (h : VS B T cs v W) : Value.slice (some ⟨W.heap.size, 0, none⟩) 1 1 ≠ v ∧ v ≠ .slice (some ⟨W.heap.size, 0, none⟩) 1 1 := by
  obtain ⟨b, rfl, _, hk⟩ := h
  have := hk.lt
  constructor
  · intro e; injection e with e; injection e with e; injection e with e; omega
  · intro e; injection e with e; injection e with e; injection e with e; omega
theorem mk_slice {P : Program} {ops : Array Oper} {w : World} {A : Act} {o : Oper} {T : TypeId} {cs : Array Value} {Vs : Nat → Value → World → Prop} (hg : o.guard = none) (hr : ∀ W : World, (execOp A.eval o).run P W = .ok (.value (.slice (some ⟨W.heap.size, 0, none⟩) 1 1)) (W.alloc (.cells cs T)))
    (hn : ∀ j u W, Vs j u W → Value.slice (some ⟨W.heap.size, 0, none⟩) 1 1 ≠ u ∧ u ≠ .slice (some ⟨W.heap.size, 0, none⟩) 1 1) : MkAt P ops o A w (VS w.heap.size T cs) Vs (· ≠ ·) := by
  refine ⟨by simp [Region.wanted, hg], fun W hW => ?_⟩
  rw [hr W]
  exact ⟨ba (Below.refl _ _) _, ⟨W.heap.size, rfl, hW.size, Blk.new W T cs⟩, fun j u hu => hn j u W hu⟩
end Go.Proofs.YtmblknknbbdmeaaGreat
/- a drawing region with makers, whose plain operations may be taken first -/
namespace Go.Proofs.YtmblknknbbdmeaaGreat
open Go Go.RowKit
set_option linter.unusedVariables false
set_option linter.unusedSimpArgs false
section
variable {P : Program} {ops : Array Oper} {md : Region.Mode}

/-- the closed fact of such a region, with plain operations 'p' taken first -/
def Region.planMP (md : Region.Mode) (ops : Array Oper) (n : Nat) (p h k t : List Nat) : Bool :=
  Region.noSelect ops && decide (p ++ ((h ++ k) ++ t)).Nodup && decide (0 < t.length) && Region.sinkI md ops ((h ++ k) ++ t) (h ++ k).length && Region.chainI md ops ((h ++ k) ++ t) (h ++ k).length &&
  Region.topB md ops (h ++ k) && (((h ++ k) ++ t).all fun i => decide (i < ops.size)) && Region.mkB md ops h k && distB n (selOps ops (h ++ k)) &&
  ((List.range ops.size).all fun i => (p ++ ((h ++ k) ++ t)).contains i) && Region.seqI md ops t ((Array.range ops.size).map fun i => (p ++ (h ++ k)).contains i) &&
  (p.all fun i => decide (i < ops.size)) &&
  Region.pureB md ops (fun listed => decide (listed = (Array.range ops.size).map fun i => p.contains i) && Region.closedI md ops listed) p (Array.replicate ops.size false)

theorem getD_map_range {n i : Nat} (f : Nat → Bool) (d : Bool) (h : i < n) : ((Array.range n).map f).getD i d = f i := by
  simp [h]

theorem wp_region_mkP1 {l : List Oper} {Q : Exit → Act → World → Prop} {a : Act} {w : World} (p h k t : List Nat) (n : Nat) (V : Nat → Value → World → Prop) (N : Value → Value → Prop) (hB : Region.planMP .any l.toArray n p h k t = true) (hsz : a.tmps.size = n) (A : Act)
    (H : ∀ W, Below w.heap.size w W → wpQuiet P l.toArray (fun w' => ∃ x, w' = W.ext x) (· = A) (h.map (l.getD · default)) a)
    (hV : ∀ i v W W', V i v W → Below W.heap.size W W' → V i v W')
    (hk : MkAll P l.toArray A w V N k)
    (hT : TailX P l.toArray Q w (t.map (l.getD · default)) V N k [] (fun _ => True) A)
    (listed0 : Array Bool) (hl0 : listed0 = (Array.range l.toArray.size).map fun i => p.contains i) (hcl : Region.closedI .any l.toArray listed0 = true) :
    wpAny P .any l.toArray Q ((h ++ k).length + t.length) listed0 a w.drew := by
  have esel : ∀ is, selOps l.toArray is = is.map (l.getD · default) := fun is => by
    unfold selOps
    apply List.map_congr_left
    intro i _
    simp [Array.getD, List.getD_eq_getElem?_getD]
    split <;> rename_i h
    · rw [List.getElem?_eq_getElem h]; rfl
    · rw [List.getElem?_eq_none (by omega)]; rfl
  simp only [Region.planMP, Bool.and_eq_true, decide_eq_true_eq] at hB
  obtain ⟨⟨⟨⟨⟨⟨⟨⟨⟨⟨⟨⟨hsel, hndp⟩, ht0⟩, hs⟩, hc⟩, htop⟩, hin⟩, hmk⟩, hdist⟩, hall⟩, hseq⟩, hpin⟩, hpure⟩ := hB
  clear hpure
  have hnd := (List.nodup_append.1 hndp).2.1
  have hdisj : ∀ i ∈ (h ++ k) ++ t, i ∈ p → False := fun i hi hp => (List.nodup_append.1 hndp).2.2 i hp i hi rfl
  subst hsz
  have hin' : ∀ x, x < ((h ++ k) ++ t).length → ((h ++ k) ++ t).getD x 0 < l.toArray.size := fun x hx => by
    have := List.all_eq_true.1 hin (((h ++ k) ++ t).getD x 0) (by rw [List.getD_eq_getElem?_getD, List.getElem?_eq_getElem hx]; exact List.getElem_mem _)
    simpa using this
  have hdh : distB a.tmps.size (selOps l.toArray h) = true := by
    have hdist' := hdist
    simp only [distB, Bool.and_eq_true, decide_eq_true_eq] at hdist' ⊢
    unfold selOps at hdist' ⊢
    rw [List.map_append, List.map_append, List.all_append, Bool.and_eq_true] at hdist'
    exact ⟨hdist'.1.1, (List.nodup_append.1 hdist'.2).1⟩
  have hlex : LexX P l.toArray w A (selOps l.toArray h) a := lex_of _ _ hdh fun W hW => by rw [esel]; exact H W hW
  obtain ⟨sz1, df1⟩ := lex_size _ _ hlex
  have hsz0 : ∀ i, i ∈ (h ++ k) ++ t → listed0.getD i false = false := fun i hi => by
    have hii : i < l.toArray.size := by have := List.all_eq_true.1 hin i hi; simpa using this
    rw [hl0, getD_map_range _ _ hii]
    simp only [List.contains_eq_mem, decide_eq_false_iff_not]
    exact hdisj i hi
  have hszT : ∀ i, i ∈ (h ++ k) ++ t → listed0.getD i true = false := fun i hi => by
    have hii : i < l.toArray.size := by have := List.all_eq_true.1 hin i hi; simpa using this
    rw [hl0, getD_map_range _ _ hii]
    simp only [List.contains_eq_mem, decide_eq_false_iff_not]
    exact hdisj i hi
  have hlen : unl (h ++ k) listed0 = (h ++ k).length := by
    unfold unl
    rw [List.filter_eq_self.2]
    intro i hi
    rw [hszT i (List.mem_append.2 (Or.inl hi))]
    rfl
  have hFIN : ∀ (listed : Array Bool) (a' : Act) (W : World), HeadI .any l.toArray ((h ++ k) ++ t) (h ++ k).length listed → (∀ i ∈ h ++ k, listed.getD i true = true) → InvM l.toArray a A w h k V N listed a' W → wpAny P .any l.toArray Q t.length listed a' W := by
    intro listed a' W inv hl iv
    have hlist : listed = (Array.range l.toArray.size).map fun i => (p ++ (h ++ k)).contains i := by
      apply Array.ext
      · rw [inv.size]; simp
      · intro i h1 h2
        have hi : i < l.toArray.size := by rw [← inv.size]; exact h1
        simp only [Array.getElem_map, Array.getElem_range]
        by_cases hm : i ∈ h ++ k
        · have := hl i hm
          simp [h1] at this
          rw [this]
          symm
          simp only [List.contains_eq_mem, decide_eq_true_eq]
          exact List.mem_append.2 (Or.inr hm)
        · have hm' := List.all_eq_true.1 hall i (List.mem_range.2 hi)
          simp only [List.contains_eq_mem, decide_eq_true_eq] at hm'
          by_cases ht' : i ∈ t
          case neg =>
            have hp' : i ∈ p := (List.mem_append.1 hm').resolve_right fun hx => (List.mem_append.1 hx).elim hm ht'
            have hu : listed.getD i true = true := by
              cases hc : listed.getD i true with
              | true => rfl
              | false =>
                obtain ⟨x, hx, he⟩ := inv.all i hi hc
                exact absurd hp' (hdisj i (by rw [← he, List.getD_eq_getElem?_getD, List.getElem?_eq_getElem hx]; exact List.getElem_mem _))
            simp [h1] at hu
            rw [hu]
            symm
            simp only [List.contains_eq_mem, decide_eq_true_eq]
            exact List.mem_append.2 (Or.inl hp')
          obtain ⟨y, hy, he⟩ := List.mem_iff_getElem.1 ht'
          have := inv.tail ((h ++ k).length + y) (by omega) (by rw [@List.length_append Nat (h ++ k) t]; omega)
          rw [List.getD_eq_getElem?_getD, List.getElem?_append_right (by omega), show (h ++ k).length + y - (h ++ k).length = y by omega, List.getElem?_eq_getElem hy] at this
          simp only [Option.getD_some, he] at this
          simp [h1] at this
          rw [this]
          symm
          simp only [List.contains_eq_mem, decide_eq_false_iff_not]
          exact fun hx => (List.mem_append.1 hx).elim (hdisj i (List.mem_append.2 (Or.inr ht'))) hm
    have lst : ∀ i ∈ h ++ k, listed.getD i false = true := fun i hi => by
      have := hl i hi
      have hii := List.all_eq_true.1 hin i (by simp only [List.mem_append] at hi ⊢; exact Or.inl hi)
      have hii' : i < listed.size := by rw [inv.size]; simpa using hii
      simp [hii'] at this ⊢; exact this
    refine wpAny_of_seqI t listed a' W (fun i hi => ?_) (by rw [hlist]; exact hseq) ?_
    · have := List.all_eq_true.1 hin i (by simp [hi])
      simpa using this
    · rw [esel]
      refine tail_of iv.below k [] (fun _ => True) A (by rw [sz1, iv.size]) (by rw [df1, iv.defers]) (fun i hi => ?_) (fun s hs' => ?_) (List.nodup_append.1 (List.nodup_append.1 hnd).1).2.1 (fun x hx y hy hxy => iv.ap x hx y hy hxy (lst x (by simp [hx])) (lst y (by simp [hy]))) trivial hT
      · obtain ⟨d, hd, _⟩ := (distB_get hdist).1 i (by simp [hi])
        obtain ⟨v, e, hv⟩ := iv.kv i hi (by
          have := hl i (by simp [hi])
          have hii := List.all_eq_true.1 hin i (by simp [hi])
          have hii' : i < listed.size := by rw [inv.size]; simpa using hii
          simp [hii'] at this ⊢; exact this) d hd
        exact ⟨d, v, hd, e, hv, fun u hu => by cases hu⟩
      · by_cases hx : ∃ j ∈ h, (l.toArray.getD j default).dst = some s
        · obtain ⟨j, hj, hjs⟩ := hx
          refine iv.hv j hj ?_ s hjs
          have := hl j (by simp [hj])
          have hii := List.all_eq_true.1 hin j (by simp [hj])
          have hii' : j < listed.size := by rw [inv.size]; simpa using hii
          simp [hii'] at this ⊢; exact this
        · rw [lex_keeps (selOps l.toArray h) a (fun o ho e => by
            unfold selOps at ho
            obtain ⟨j, hj, rfl⟩ := List.mem_map.1 ho
            exact hx ⟨j, hj, e⟩) hlex]
          refine iv.old s fun j hj hjs => ?_
          rcases List.mem_append.1 hj with hj | hj
          · exact absurd ⟨j, hj, hjs⟩ hx
          · exact absurd hjs (hs' j hj)
  have hHD : HeadI .any l.toArray ((h ++ k) ++ t) (h ++ k).length listed0 := by
    refine ⟨by rw [hl0]; simp, fun j oj hj hl e he hb => ?_, fun i hi hl => ?_, fun y hy hyl => ?_, hin'⟩
    · have hjs := (Array.getElem?_eq_some_iff.1 hj).1
      have := List.all_eq_true.1 hcl j (List.mem_range.2 hjs)
      have e1 : l.toArray.getD j default = oj := by
        have := getD_some hjs
        rw [hj] at this
        exact (Option.some.inj this).symm
      rw [e1, hl] at this
      simp only [Bool.not_true, Bool.false_or] at this
      have := Array.all_eq_true'.1 this e he
      rw [hb] at this
      simpa using this
    · have := List.all_eq_true.1 hall i (List.mem_range.2 hi)
      simp only [List.contains_eq_mem, decide_eq_true_eq] at this
      rw [hl0, getD_map_range _ _ hi] at hl
      simp only [List.contains_eq_mem, decide_eq_false_iff_not] at hl
      obtain ⟨x, hx, he⟩ := List.mem_iff_getElem.1 ((List.mem_append.1 this).resolve_left hl)
      exact ⟨x, hx, by rw [List.getD_eq_getElem?_getD, List.getElem?_eq_getElem hx]; exact he⟩
    · exact hszT _ (by rw [List.getD_eq_getElem?_getD, List.getElem?_eq_getElem hyl]; exact List.getElem_mem _)
  have hIV : InvM l.toArray a A w h k V N listed0 a w.drew := by
    have hh : ∀ i ∈ h, i ∈ (h ++ k) ++ t := fun i hi => by simp [hi]
    have hkk : ∀ i ∈ k, i ∈ (h ++ k) ++ t := fun i hi => by simp [hi]
    exact ⟨(Below.refl w.heap.size w).drew, rfl, rfl, fun i hi hl => (by rw [hsz0 i (hh i hi)] at hl; cases hl), fun i hi hl => (by rw [hsz0 i (hkk i hi)] at hl; cases hl), fun s _ => rfl, fun i hi j hj hij hl => (by rw [hsz0 i (hkk i hi)] at hl; cases hl)⟩
  have key := wpAny_mk (Q := Q) (A := A) (w := w) (h := h) (k := k) (V := V) hsel hnd hs hc ht0 htop hin' hmk hdist hlex hk.get hV hFIN _ listed0 a w.drew rfl hHD hIV
  rw [hlen] at key
  exact key
/-- **THE REGION**: 'p' plain operations, taken first; then as in wp_region_mkE. -/
theorem wp_region_mkP {id : Nat} {Q : Exit → Act → World → Prop} {a : Act} {w : World} {l : List Oper} (p h k t : List Nat) (n : Nat) (V : Nat → Value → World → Prop) (N : Value → Value → Prop) (hm : P.follows .mixedOrders = true) (hB : Region.planMP .any l.toArray n p h k t = true)
    (hV : ∀ i v W W', V i v W → Below W.heap.size W W' → V i v W')
    (H : wpQuiet P l.toArray (fun _ => True) (fun a1 => a1.tmps.size = n ∧ ∃ A, (∀ W, Below w.heap.size w W → wpQuiet P l.toArray (fun w' => ∃ x, w' = W.ext x) (· = A) (h.map (l.getD · default)) a1) ∧ MkAll P l.toArray A w V N k ∧ TailX P l.toArray Q w (t.map (l.getD · default)) V N k [] (fun _ => True) A) (p.map (l.getD · default)) a)
    (hQ : ∀ c (a : Act) d v w, Q (.panic c) (a.put d v) w → Q (.panic c) a w := by intro c a d v w h; cases d <;> exact h) :
    (Code.region id l.toArray true).wp P Q a w := by
  have esel : ∀ is, selOps l.toArray is = is.map (l.getD · default) := fun is => by
    unfold selOps
    apply List.map_congr_left
    intro i _
    simp [Array.getD, List.getD_eq_getElem?_getD]
    split <;> rename_i h
    · rw [List.getElem?_eq_getElem h]; rfl
    · rw [List.getElem?_eq_none (by omega)]; rfl
  have hB' := hB
  simp only [Region.planMP, Bool.and_eq_true, decide_eq_true_eq] at hB'
  obtain ⟨⟨⟨⟨⟨⟨⟨⟨⟨⟨⟨⟨hsel, hndp⟩, ht0⟩, hs⟩, hc⟩, htop⟩, hin⟩, hmk⟩, hdist⟩, hall⟩, hseq⟩, hpin⟩, hpure⟩ := hB'
  refine wp_region_any hm ?_
  have hlen : p.length + ((h ++ k).length + t.length) = l.toArray.size := by
    have h3 : (p ++ ((h ++ k) ++ t)).length ≤ (List.range l.toArray.size).length := nodup_le _ _ hndp fun i hi => by
      rcases List.mem_append.1 hi with hi | hi
      · have := List.all_eq_true.1 hpin i hi
        simpa using this
      · have := List.all_eq_true.1 hin i hi
        simpa using this
    have h4 : (List.range l.toArray.size).length ≤ (p ++ ((h ++ k) ++ t)).length := nodup_le _ _ List.nodup_range fun i hi => by
      have := List.all_eq_true.1 hall i hi
      simpa using this
    rw [List.length_range] at h3 h4
    rw [@List.length_append Nat p ((h ++ k) ++ t), @List.length_append Nat (h ++ k) t] at h3 h4
    omega
  have key := wpAny_pure (P := P) (md := .any) (Q := Q) (g := (h ++ k).length + t.length) (w := w.drew) hsel hQ
    (Lq := fun a1 => a1.tmps.size = n ∧ ∃ A, (∀ W, Below w.heap.size w W → wpQuiet P l.toArray (fun w' => ∃ x, w' = W.ext x) (· = A) (h.map (l.getD · default)) a1) ∧ MkAll P l.toArray A w V N k ∧ TailX P l.toArray Q w (t.map (l.getD · default)) V N k [] (fun _ => True) A)
    (k := fun listed => decide (listed = (Array.range l.toArray.size).map fun i => p.contains i) && Region.closedI .any l.toArray listed)
    (fun listed a1 hk hq => by
      simp only [Bool.and_eq_true, decide_eq_true_eq] at hk
      obtain ⟨hs1, A, h1, h2, h3⟩ := hq
      exact wp_region_mkP1 p h k t n V N hB hs1 A h1 hV h2 h3 listed hk.1 hk.2)
    p (Array.replicate l.toArray.size false) a hpure (by rw [esel]; exact H)
  rw [hlen] at key
  exact key
end
end Go.Proofs.YtmblknknbbdmeaaGreat
/- pebble: Next. -/
namespace Go.Proofs.YtmblknknbbdmeaaGreat
open Go Go.RowKit
set_option linter.unusedVariables false
set_option linter.unusedSimpArgs false
attribute [local go_sem] bmax2 bmin2 bmax bmin cell_ext frozen_ext

set_option maxRecDepth 100000 in
theorem field_stone0 (K : List UInt8) (p : Int) (h : K.length = 32) (W : World) : (Instr.field 189 (.agg (.int .i64 p :: cellsU8 K).toArray) 0).run Tryz.prog W = .ok (.int .i64 p) W := by
  obtain ⟨f, rfl⟩ := list32 K h
  kernel_rfl
set_option maxRecDepth 100000 in
theorem field_stone1 (K : List UInt8) (p : Int) (h : K.length = 32) (W : World) : (Instr.field 189 (.agg (.int .i64 p :: cellsU8 K).toArray) 1).run Tryz.prog W = .ok (.agg (cellsU8 K).toArray) W := by
  obtain ⟨f, rfl⟩ := list32 K h
  kernel_rfl

/-- where the last stone of the walker in block b lies: a loop's measure -/
def topOf (w : World) (b : Nat) : Nat :=
  match w.cell? ⟨b, 2, none⟩ with
  | some (.slice (some ⟨g, 0, none⟩) n _) => match w.cell? ⟨g, (n - 1) * 33, none⟩ with | some (.int _ z) => z.toNat | _ => 0
  | _ => 0
theorem Wk.top {w : World} {b g cap : Nat} {cur : Array Value} {F : Nat → List UInt8} {n at_ : Nat} {ps : List Nat} {p : Nat} (hF : F32 F) (h : Wk w b g cap cur F n at_ (ps ++ [p])) : topOf w b = p := by
  unfold topOf
  rw [h.cells.2.2.1]
  have := h.last hF 0 (.int .i64 (p : Int)) rfl
  rw [Nat.add_zero] at this
  simp only [List.length_append, List.length_singleton, Nat.add_sub_cancel, this]
  omega

set_option maxHeartbeats 1000000 in
set_option maxRecDepth 100000 in
theorem PNext_none {w : World} {b g cap : Nat} {cur : Array Value} {F : Nat → List UInt8} {n at_ : Nat} {ps : List Nat} (h : Wk w b g cap cur F n at_ ps) (ha : n < at_) :
    Calls Tryz.prog 73 #[.pointer (some ⟨b, 0, none⟩)] w fun e w' => e = .returned (.tuple #[.agg (cellsU8 zeroK).toArray, .int .i64 10]) ∧ Below w.heap.size w w' := by
  obtain ⟨c0, c1, c2, hlb⟩ := h.cells
  have hbl := kp hlb
  have H0 := kp h
  have HN := kp (Blk.new w 27 (cellsU8 (List.replicate 32 0)).toArray)
  have HB := kp (ba (Below.refl w.heap.size w) (.cells (cellsU8 (List.replicate 32 0)).toArray 27))
  clear h c0 c1 c2 hlb
  have ia : (n : Int) < (at_ : Int) := by omega
  have ig : decide ((n : Int) < (at_ : Int)) = true := decide_eq_true ia
  obtain ⟨Z, hZ⟩ : ∃ Z : List UInt8, List.replicate 32 0 = Z := ⟨_, rfl⟩
  have HZL : Kp (Z.length = 32) := kp (by rw [← hZ]; rfl)
  have HZZ := kp (show cellsU8 zeroK = cellsU8 Z by rw [← hZ]; rfl)
  rw [HZZ.out]
  go_enter Tryz.func73, Tryz.ntmps73
  go_upto_region 1 with (fail)
  change Code.wp _ _ _ _ (w.alloc (.cells (cellsU8 (List.replicate 32 0)).toArray 27))
  rw [hZ] at HN HB ⊢
  clear hZ
  have HK := kp (H0.out.bel HB.out)
  have HL := kp hbl
  generalize w.alloc (.cells (cellsU8 Z).toArray 27) = W at HN HB HK ⊢
  obtain ⟨c0, c1, c2, hlb⟩ := HK.out.cells
  refine wp_region_ext [0, 1, 2, 3, 4, 5, 6, 7] [8] (by kernel_rfl) (by kernel_rfl) ?_
  simp only [List.map_cons, List.map_nil, List.getD_cons_succ, List.getD_cons_zero]
  repeat (go_big_quiet_step (fail))
  refine wpQuiet_nil ?_
  rintro z
  have HN := kp (HN.out.bel (ext_below W z))
  have HB := kp (bt HB.out (ext_below W z))
  clear c0 c1 c2 hlb HK
  generalize W.ext z = V at HN HB ⊢
  have hzl : (cellsU8 Z).length = 32 := by rw [length_cellsU8]; exact HZL.out
  have SC := sc_all (P := Tryz.prog) (w := V) w.heap.size 27 (cellsU8 Z) _ HN.out rfl (cellsU8_one _)
  have HRES := kp (HN.out.row (cellsU8 Z).toArray)
  have HBE := kp (bsr HB.out (b := w.heap.size) (Nat.le_refl _) HB.out.size (cellsU8 Z).toArray)
  go_wp2_with (refine wpL_val 16 rfl rfl (.agg (cellsU8 Z).toArray) (by rw [← HZZ.out]; kernel_rfl) ?_)
  refine bodyPost_ret (v := .tuple #[.agg (cellsU8 Z).toArray, .int .i64 10]) ?_ rfl ⟨rfl, HBE.out⟩
  exact res2 Tryz.results73 w.heap.size 32 _ (cellsU8 Z) _ Tryz.underlying27 rfl info_key hzl HRES.out _ rfl _ rfl
/-- Next's end -/
def PNextEnd (w : World) (b g : Nat) (F : Nat → List UInt8) (n at_ : Nat) (e : Ending) (w' : World) : Prop := ∃ g' cap' cur' ps', e = .returned (.tuple #[.agg (cellsU8 (F (n - at_))).toArray, .int .i64 0]) ∧ Wk w' b g' cap' cur' F n (at_ + 1) ps' ∧ Inv n (at_ + 1) ps' ∧ Fr w w' b g ∧ (g' = g ∨ w.heap.size ≤ g')
set_option maxHeartbeats 4000000 in
set_option maxRecDepth 100000 in
theorem PNext_some {w : World} {b g cap : Nat} {cur : Array Value} {S : List UInt8} {n at_ : Nat} {ps : List Nat} (h : Wk w b g cap cur (chK S) n at_ ps) (hi : Inv n at_ ps) (h1 : 1 ≤ n) (h2 : n ≤ 1024) (ha : at_ ≤ n) :
    Calls Tryz.prog 73 #[.pointer (some ⟨b, 0, none⟩)] w (PNextEnd w b g (chK S) n at_) := by
  have HW : Kp (∀ (K : List UInt8), K.length = 32 → ∀ (d : Nat), d ≤ 1024 → ∀ w', Calls Tryz.prog 95 #[.agg (cellsU8 K).toArray, .int .i64 (d : Int)] w' fun e w'' => e = .returned (.agg (cellsU8 (walkD K d)).toArray) ∧ Below w'.heap.size w' w'') := kp (fun K hK d hd w' => Walk_st K hK (d : Int) d (by omega) w')
  have HWK : Kp (∀ d e, walkD (chK S d) e = chK S (d + e)) := kp (fun d e => chK_walk S d e)
  have HF : Kp (F32 (chK S)) := kp (chK_length S)
  generalize chK S = F at *
  have H0 := kp h
  have HI := kp hi
  have HN := kp (Blk.new w 27 (cellsU8 (List.replicate 32 0)).toArray)
  have H1 := kp (h.bel (ba (Below.refl _ _) (.cells (cellsU8 (List.replicate 32 0)).toArray 27)))
  have HFr := kp (Fr.of_bel (b := b) (g := g) (ba (Below.refl w.heap.size w) (.cells (cellsU8 (List.replicate 32 0)).toArray 27)))
  have hbl := h.blk.lt
  have hgl := h.row.lt
  have HBL := kp hbl
  have HGL := kp hgl
  clear h hi
  obtain ⟨Z, hZ⟩ : ∃ Z : List UInt8, List.replicate 32 0 = Z := ⟨_, rfl⟩
  have HZL : Kp (Z.length = 32) := kp (by rw [← hZ]; rfl)
  have ia : ¬ (n : Int) < (at_ : Int) := by omega
  go_enter Tryz.func73, Tryz.ntmps73
  go_upto_region 1 with (fail)
  change Code.wp _ _ _ _ (w.alloc (.cells (cellsU8 (List.replicate 32 0)).toArray 27))
  rw [hZ] at HN H1 HFr ⊢
  clear hZ hbl hgl
  generalize w.alloc (.cells (cellsU8 Z).toArray 27) = W at HN H1 HFr ⊢
  obtain ⟨c0, c1, c2, hlb⟩ := H1.out.cells
  refine wp_region_ext [0, 1, 2, 3, 4, 5, 6, 7] [8] (by kernel_rfl) (by kernel_rfl) ?_
  simp only [List.map_cons, List.map_nil, List.getD_cons_succ, List.getD_cons_zero]
  repeat (go_big_quiet_step (fail))
  refine wpQuiet_nil ?_
  rintro z
  have HN := kp (HN.out.bel (ext_below W z))
  have H1 := kp (H1.out.bel (ext_below W z))
  have HFr := kp (HFr.out.trans (Fr.of_bel (b := b) (g := g) (ext_below W z)) (Or.inl rfl))
  clear c0 c1 c2 hlb
  generalize W.ext z = V at HN H1 HFr ⊢
  have HW2 : Kp (∃ g1 cap1 cur1 ps1, Wk V b g1 cap1 cur1 F n at_ ps1 ∧ Inv n at_ ps1 ∧ (g1 = g ∨ w.heap.size < g1)) := kp ⟨g, cap, cur, ps, H1.out, HI.out, Or.inl rfl⟩
  go_wp2
  go_loopw [] (fun wr => Kp (Blk wr w.heap.size 27 (cellsU8 Z).toArray) ∧ Kp (Fr w wr b g) ∧ Kp (∃ g1 cap1 cur1 ps1, Wk wr b g1 cap1 cur1 F n at_ ps1 ∧ Inv n at_ ps1 ∧ (g1 = g ∨ w.heap.size < g1))) (fun wr => topOf wr b)
  case atStart => exact ⟨HN, HFr, HW2⟩
  case round =>
    clear HN HFr HW2 H1
    obtain ⟨HN, HFr, HW2⟩ := hrel
    obtain ⟨g1, cap1, cur1, ps1, hk, hi1, hg1⟩ := HW2.out
    obtain ⟨qs, p, rfl⟩ := snoc_of (hi1.ne ha)
    have hpn := hi1.last ha
    obtain ⟨hp1, hp2⟩ := hpn
    have hlen := hi1.len h1 h2
    rw [List.length_append, List.length_singleton] at hlen
    have hq12 : qs.length ≤ 90 := by omega
    have hKl := HF.out (n - p)
    have HK := kp hk
    have HI1 := kp hi1
    have HG1 := kp hg1
    have cL : Kp (∀ W', Wk W' b g1 cap1 cur1 F n at_ (qs ++ [p]) → Calls Tryz.prog 100 #[.pointer (some ⟨b, 0, none⟩)] W' fun e w'' => e = .returned (.agg (stoneL F n p).toArray) ∧ Below W'.heap.size W' w'') := kp (fun W' h => Plast_any HF.out h (by omega))
    have HWALK : Kp (∀ m, m ≤ p → walkD (F (n - p)) (p - m) = F (n - m)) := kp (fun m hm => by rw [HWK.out, show n - p + (p - m) = n - m by omega])
    have HST : Kp (stoneL F n p = .int .i64 (p : Int) :: cellsU8 (F (n - p))) := kp rfl
    have hstl := stoneL_length HF.out n p
    have h1s := kp (stoneL_one F n p)
    have HSF := kp (show stoneL F n p = stoneL F n p from rfl)
    obtain ⟨K, hKK⟩ : ∃ K, F (n - p) = K := ⟨_, rfl⟩
    rw [hKK] at HWALK HST hKl
    obtain ⟨SL, hSL⟩ : ∃ SL, stoneL F n p = SL := ⟨_, rfl⟩
    rw [hSL] at cL HST hstl h1s
    clear HSF hSL
    have HKK := kp hKK
    have HKL := kp hKl
    clear hk hi1 hg1 hlen HW2 hKK hKl
    obtain ⟨c0, c1, c2, hlb⟩ := HK.out.cells
    have cLx := kp (fun x => cL.out (wr.ext x) (HK.out.bel (ext_below wr x)))
    have i5 : (p : Int) ≤ 1024 := by omega
    by_cases hlt : at_ < p
    · have i6 : (at_ : Int) < (p : Int) := by omega
      have g6 : decide ((at_ : Int) < (p : Int)) = true := decide_eq_true i6
      go_wp2
      refine wp_region_ext [0, 1, 2, 3, 4, 5, 6] [7] (by kernel_rfl) (by kernel_rfl) ?_
      simp only [List.map_cons, List.map_nil, List.getD_cons_succ, List.getD_cons_zero]
      repeat (first
        | (go_big_quiet_want; refine quiet_val 19 rfl (.int .i64 (p : Int)) (fun w _ => exec_field rfl rfl (by rw [HST.out]; exact field_stone0 K (p : Int) HKL.out w)) ?_; go_simp; go_big_quiet_on)
        | go_big_quiet_step ((go_at_call 100; with_reducible exact Calls.ext_of (cLx.out _))))
      refine wpQuiet_nil ?_
      rintro z
      have HN := kp (HN.out.bel (ext_below wr z))
      have HTOP : Kp (topOf wr b = p) := kp (HK.out.top HF.out)
      have HK := kp (HK.out.bel (ext_below wr z))
      have HFr := kp (HFr.out.trans (Fr.of_bel (b := b) (g := g) (ext_below wr z)) (Or.inl rfl))
      clear c0 c1 c2 hlb cLx
      generalize wr.ext z = V1 at HN HK HFr ⊢
      go_wp2_with fail
      refine (cL.out _ HK.out).mono ?_
      rintro e w3 ⟨rfl, hb3⟩
      have SC := fun (cur : Array Value) (h : cur.size = 33) => sc_new (P := Tryz.prog) w3 189 SL h1s.out cur (by rw [hstl]; exact h)
      have HN := kp ((HN.out.bel hb3).alloc (.cells SL.toArray 189))
      have hbx := ba hb3 (.cells SL.toArray 189)
      have hne4b : b ≠ w3.heap.size := by have := HK.out.blk.lt; have := hb3.size; omega
      have hne4g : g1 ≠ w3.heap.size := by have := HK.out.row.lt; have := hb3.size; omega
      have HK := kp (HK.out.bel hbx)
      have HFr := kp (HFr.out.trans (Fr.of_bel (b := b) (g := g) hbx) (Or.inl rfl))
      have H4 := kp (Blk.new w3 189 SL.toArray)
      clear hb3 hbx
      go_wp2_with fail
      clear SC
      generalize w3.alloc (.cells SL.toArray 189) = V2 at HN HK HFr H4 ⊢
      generalize w3.heap.size = b4 at H4 hne4b hne4g ⊢
      obtain ⟨c0, c1, c2, hlb⟩ := HK.out.cells
      have c4 := H4.out.atL (show SL[0]? = some (.int .i64 (p : Int)) by rw [HST.out]; rfl)
      have hl4 := H4.out.lt
      obtain ⟨d, hd⟩ : ∃ d : Nat, p - at_ = d := ⟨_, rfl⟩
      obtain ⟨hf, hhf⟩ : ∃ hf : Nat, d / 2 = hf := ⟨_, rfl⟩
      obtain ⟨m, hm⟩ : ∃ m : Nat, at_ + hf = m := ⟨_, rfl⟩
      have e1 : IntKind.i64.wrap ((p : Int) - (at_ : Int)) = (d : Int) := by rw [IntWalk.i64_in _ (by omega)]; omega
      have e2 : (d : Int).tdiv 2 = (hf : Int) := by rw [Int.tdiv_eq_ediv_of_nonneg (by omega)]; omega
      have e2' : (d : Int) / 2 = (hf : Int) := by omega
      have e3 : IntKind.i64.wrap ((at_ : Int) + (hf : Int)) = (m : Int) := by rw [IntWalk.i64_in _ (by omega)]; omega
      have hmp : m < p := by omega
      have ham : at_ ≤ m := by omega
      have h2m : 2 * m ≤ p + at_ := by omega
      have e5 : IntKind.i64.wrap (hf : Int) = (hf : Int) := IntWalk.i64_in _ (by omega)
      clear hd hm hhf
      refine wp_region_ext [0, 1, 2, 3, 4, 5, 6, 7, 8, 9, 10, 11, 12] [13] (by kernel_rfl) (by kernel_rfl) ?_
      simp only [List.map_cons, List.map_nil, List.getD_cons_succ, List.getD_cons_zero]
      repeat (go_big_quiet_step (fail))
      refine wpQuiet_nil ?_
      rintro y
      have HN := kp (HN.out.bel (ext_below V2 y))
      have HK := kp (HK.out.bel (ext_below V2 y))
      have H4 := kp (H4.out.bel (ext_below V2 y))
      have HFr := kp (HFr.out.trans (Fr.of_bel (b := b) (g := g) (ext_below V2 y)) (Or.inl rfl))
      clear c0 c1 c2 hlb c4 hl4 e1 e2 e2' e3 e5
      generalize V2.ext y = V3 at HN HK HFr H4 ⊢
      go_wp2_with fail
      obtain ⟨c0, c1, c2, hlb⟩ := HK.out.cells
      obtain ⟨e, he⟩ : ∃ e : Nat, p - m = e := ⟨_, rfl⟩
      have e4 : IntKind.i64.wrap ((p : Int) - (m : Int)) = (e : Int) := by rw [IntWalk.i64_in _ (by omega)]; omega
      have cW := kp (HW.out K HKL.out e (by omega))
      have hwm := HWALK.out m (by omega)
      rw [he] at hwm
      rw [hwm] at cW
      have HML := kp (show stoneL F n m = .int .i64 (m : Int) :: cellsU8 (F (n - m)) from rfl)
      have HM32 := kp (HF.out (n - m))
      have hmll := stoneL_length HF.out n m
      obtain ⟨ML, hML⟩ : ∃ ML, stoneL F n m = ML := ⟨_, rfl⟩
      rw [hML] at HML hmll
      have HMLS := kp hML
      generalize F (n - m) = M at cW HML HM32
      clear he hwm hML c0 c1 c2 hlb
      refine wp_region_mkP [0] [1, 2, 3, 4, 5, 6, 7, 8, 9, 10, 11, 12, 13] [14] [15, 16, 17, 18] 71 (fun _ => VS V3.heap.size 189 ML.toArray) (· ≠ ·) (by kernel_rfl) (by kernel_rfl) (fun i v W W' h hb => h.mono hb) ?_
      simp only [List.map_cons, List.map_nil, List.getD_cons_succ, List.getD_cons_zero]
      repeat (go_big_quiet_step (fail))
      refine wpQuiet_nil ⟨rfl, ?_⟩
      apply Exists.intro
      refine ⟨fun X hX => ?_, ?_, ?_⟩
      · have H4x := H4.out.bel hX
        obtain ⟨c0, c1, c2, hlb⟩ := (HK.out.bel hX).cells
        have c4 := H4x.atL (show SL[0]? = some (.int .i64 (p : Int)) by rw [HST.out]; rfl)
        have hl4 := H4x.lt
        have LQ := kp (fun x => ld_row (P := Tryz.prog) (w := X.ext x) b4 1 32 27 (cellsU8 K) _ Tryz.underlying27 rfl info_key (key_cells K HKL.out) (fun j v hv => (H4x.bel (ext_below X x)).atL (by rw [HST.out, Nat.add_comm, List.getElem?_cons_succ]; exact hv)))
        try simp only [List.map_cons, List.map_nil, List.getD_cons_succ, List.getD_cons_zero]
        repeat (first
          | (go_big_quiet_want; refine quiet_load _ rfl 27 _ rfl rfl (fun w hw => by obtain ⟨x, rfl⟩ := hw; exact LQ.out x) ?_; go_simp; go_big_quiet_on)
          | (go_big_quiet_want; refine quiet_val 53 rfl (.agg ML.toArray) (fun w _ => exec_build (parts := #[(0, .int .i64 (m : Int)), (1, .agg (cellsU8 M).toArray)]) rfl (by simp [Act.eval, Act.put]) (by rw [HML.out]; exact build_stone M (m : Int) HM32.out w)) ?_; go_simp; go_big_quiet_on)
          | go_big_quiet_step ((go_at_call 95; with_reducible exact Calls.ext_of (cW.out _))))
        exact wpQuiet_nil rfl
      · exact ⟨mk_slice rfl (fun W => exec_buildSlice (parts := #[(0, .agg ML.toArray)]) rfl (by simp [Act.eval, Act.put]) (by rw [HML.out]; exact slice_stone M (m : Int) HM32.out W)) (fun j u W h => h.ne), trivial⟩
      · intro ev _
        simp only [List.map_cons, List.map_nil, List.getD_cons_succ, List.getD_cons_zero, TailX]
        rintro X hX ⟨_, bn, rfl, hbn, hkn⟩
        have HN := kp (HN.out.bel hX)
        have HKX := HK.out.bel hX
        have HFr := kp (HFr.out.trans (Fr.of_bel (b := b) (g := g) hX) (Or.inl rfl))
        rw [← HMLS.out] at hkn
        obtain ⟨g', cap', cur', Y, hr, hY, hle', hcm', hfit', htk', hgr, hg', hbg⟩ := run_append_stone HF.out HKX (by rw [List.length_append, List.length_singleton]; omega) hkn 190
        rw [List.length_append, List.length_singleton] at hr hle' htk'
        have hbY := HKX.blk.grown hgr (by intro e; injection e with e; exact HKX.ne e)
        have hs2 := hbY.set_ 2 (.slice (some ⟨g', 0, none⟩) (qs.length + 1 + 1) cap')
        have HKN : Kp (Wk (Y.setCell ⟨b, 2, none⟩ (.slice (some ⟨g', 0, none⟩) (qs.length + 1 + 1) cap')) b g' cap' cur' F n at_ (qs ++ [p] ++ [m])) := kp (by
          refine ⟨?_, hY.far (fun e => hbg e.symm) _, hbg, ?_, hcm', hfit', ?_⟩
          · simp only [List.length_append, List.length_singleton]
            exact hs2
          · simp only [List.length_append, List.length_singleton]; exact hle'
          · simp only [List.length_append, List.length_singleton]; exact htk')
        have hgx : g1 < X.heap.size := HKX.row.lt
        have HFN : Kp (Fr w (Y.setCell ⟨b, 2, none⟩ (.slice (some ⟨g', 0, none⟩) (qs.length + 1 + 1) cap')) b g) := kp ((HFr.out.trans (Fr.of_g (b := b) hgr) (HG1.out.imp id Nat.le_of_lt)).trans (Fr.of_b (g := g) (gbset Y b 2 _)) (Or.inl rfl))
        have HNN := kp (((HN.out.grown hgr (by intro e; injection e with e; have := HG1.out; have := HGL.out; omega)).far (p := ⟨b, 2, none⟩) (by have := HBL.out; simp; omega) (.slice (some ⟨g', 0, none⟩) (qs.length + 1 + 1) cap')))
        have hcY := hbY.at (show #[Value.int .i64 (n : Int), .int .i64 (at_ : Int), .slice (some ⟨g1, 0, none⟩) (qs ++ [p]).length cap1][2]? = some (.slice (some ⟨g1, 0, none⟩) (qs ++ [p]).length cap1) from rfl)
        have hfY := hbY.frozen 2
        have hgg : Kp (g' = g ∨ w.heap.size < g') := kp (by
          have h3 := HG1.out
          have h4 := HN.out.lt
          rcases hg' with h | h
          · rcases h3 with h3 | h3
            · left; omega
            · right; omega
          · right; omega)
        clear hX hbn hkn hbY hs2 hg' hgr hY hle' htk' hfit' hcm' hbg hgx HKX HN HFr
        refine wpL_append 55 rfl rfl _ _ 190 rfl rfl rfl hr ?_
        clear hr
        go_wp2
        go_roundw
        case measure =>
          rw [HTOP.out, HKN.out.top HF.out]
          exact hmp
        case rel => exact ⟨HNN, HFN, kp ⟨g', cap', cur', _, HKN.out, Inv.push HI1.out ha ham hmp h2m, hgg.out⟩⟩
    · have hpa : at_ = p := by omega
      subst hpa
      have g6 : decide ((at_ : Int) < (at_ : Int)) = false := by simp
      clear hlt
      go_wp2
      refine wp_region_ext [0, 1, 2, 3, 4, 5, 6] [7] (by kernel_rfl) (by kernel_rfl) ?_
      simp only [List.map_cons, List.map_nil, List.getD_cons_succ, List.getD_cons_zero]
      repeat (first
        | (go_big_quiet_want; refine quiet_val 19 rfl (.int .i64 (at_ : Int)) (fun w _ => exec_field rfl rfl (by rw [HST.out]; exact field_stone0 K (at_ : Int) HKL.out w)) ?_; go_simp; go_big_quiet_on)
        | go_big_quiet_step ((go_at_call 100; with_reducible exact Calls.ext_of (cLx.out _))))
      refine wpQuiet_nil ?_
      rintro z
      have HN := kp (HN.out.bel (ext_below wr z))
      have HK := kp (HK.out.bel (ext_below wr z))
      have HFr := kp (HFr.out.trans (Fr.of_bel (b := b) (g := g) (ext_below wr z)) (Or.inl rfl))
      clear c0 c1 c2 hlb cLx
      generalize wr.ext z = V1 at HN HK HFr ⊢
      go_wp2_with fail
      refine (cL.out _ HK.out).mono ?_
      rintro e w3 ⟨rfl, hb3⟩
      have hl32 : (cellsU8 K).length = 32 := by rw [length_cellsU8]; exact HKL.out
      have hk1 : ∀ v ∈ cellsU8 K, v.oneCell' = true := cellsU8_one K
      have SC := fun (cur : Array Value) (h : cur.size = 32) => sc_new (P := Tryz.prog) w3 27 (cellsU8 K) hk1 cur (by rw [hl32]; exact h)
      have hne6b : b ≠ w3.heap.size := by have := HK.out.blk.lt; have := hb3.size; omega
      have hne6w : w.heap.size < w3.heap.size := Nat.lt_of_lt_of_le HN.out.lt hb3.size
      have hbx := ba hb3 (.cells (cellsU8 K).toArray 27)
      have HN := kp (HN.out.bel hbx)
      have HK := kp (HK.out.bel hbx)
      have HFr := kp (HFr.out.trans (Fr.of_bel (b := b) (g := g) hbx) (Or.inl rfl))
      have H6 := kp (Blk.new w3 27 (cellsU8 K).toArray)
      clear hb3 hbx
      go_wp2_with (refine wpL_val 60 rfl rfl (.agg (cellsU8 K).toArray) (exec_field rfl rfl (by rw [HST.out]; exact field_stone1 K (at_ : Int) HKL.out _)) ?_)
      clear SC
      generalize w3.alloc (.cells (cellsU8 K).toArray 27) = V4 at HN HK HFr H6 ⊢
      generalize w3.heap.size = b6 at H6 hne6b hne6w ⊢
      refine (Pdrop_any HF.out HK.out (by omega)).mono ?_
      rintro e w5 ⟨⟨u, rfl⟩, hk5, hg5⟩
      have hneN : b ≠ w.heap.size := by have := HBL.out; omega
      have HN := kp (HN.out.grown hg5 (by intro e; injection e with e; exact hneN e.symm))
      have H6 := kp (H6.out.grown hg5 (by intro e; injection e with e; exact hne6b e.symm))
      have HFr := kp (HFr.out.trans (Fr.of_b (b := b) (g := g) hg5) (Or.inl rfl))
      have hs1 := hk5.blk.set_ 1 (.int .i64 ((at_ : Int) + 1))
      have HN := kp (HN.out.far (p := ⟨b, 1, none⟩) (fun e => hneN e.symm) (.int .i64 ((at_ : Int) + 1)))
      have H6 := kp (H6.out.far (p := ⟨b, 1, none⟩) (fun e => hne6b e.symm) (.int .i64 ((at_ : Int) + 1)))
      have HFr := kp (HFr.out.trans (Fr.of_b (g := g) (gbset w5 b 1 (.int .i64 ((at_ : Int) + 1)))) (Or.inl rfl))
      have HK6 : Kp (Wk (w5.setCell ⟨b, 1, none⟩ (.int .i64 ((at_ : Int) + 1))) b g1 qs.length cur1 F n (at_ + 1) qs) := kp (by
        refine ⟨?_, hk5.row.far (fun e => hk5.ne e.symm) _, hk5.ne, hk5.le, hk5.cap_le, hk5.fit, hk5.take⟩
        rw [Int.natCast_succ]
        exact hs1)
      obtain ⟨c0, c1, c2, hlb⟩ := hk5.cells
      have f1 := hk5.blk.frozen 1
      have e1 : IntKind.i64.wrap ((at_ : Int) + 1) = (at_ : Int) + 1 := IntWalk.i64_in _ (by omega)
      have L6 := ld_all (P := Tryz.prog) b6 32 27 27 (cellsU8 K) _ Tryz.underlying27 rfl info_key hl32 H6.out
      have hzl : (cellsU8 Z).length = 32 := by rw [length_cellsU8]; exact HZL.out
      have SC := sc_all (P := Tryz.prog) (w := w5.setCell ⟨b, 1, none⟩ (.int .i64 ((at_ : Int) + 1))) w.heap.size 27 (cellsU8 K) _ HN.out (by rw [hl32, hzl]) hk1
      clear hk5 hg5 hs1 HK
      have HRES := kp (HN.out.row (cellsU8 K).toArray)
      have hg1N : g1 ≠ w.heap.size := by have := HG1.out; have := HGL.out; omega
      have HKR := kp (HK6.out.fr (b2 := w.heap.size) (g2 := w.heap.size) (Fr.of_g (b := w.heap.size) (gbrow _ w.heap.size (cellsU8 K).toArray)) hneN hneN hg1N hg1N)
      have HFR := kp (HFr.out.trans (Fr.of_g (b := b) (gbrow _ w.heap.size (cellsU8 K).toArray)) (Or.inr (Nat.le_refl _)))
      go_wp2_with (refine wpL_load rfl 27 _ rfl rfl L6 ?_)
      have HEND : Kp (PNextEnd w b g F n at_ (.returned (.tuple #[.agg (cellsU8 K).toArray, .int .i64 0])) ((w5.setCell ⟨b, 1, none⟩ (.int .i64 ((at_ : Int) + 1))).setRow w.heap.size (cellsU8 K).toArray)) := kp ⟨g1, qs.length, cur1, qs, by rw [HKK.out], HKR.out, Inv.pop HI1.out ha, HFR.out, by have := HG1.out; omega⟩
      refine bodyPost_ret (v := .tuple #[.agg (cellsU8 K).toArray, .int .i64 0]) ?_ rfl HEND.out
      exact res2 Tryz.results73 w.heap.size 32 _ (cellsU8 K) _ Tryz.underlying27 rfl info_key hl32 HRES.out _ rfl _ rfl
end Go.Proofs.YtmblknknbbdmeaaGreat
