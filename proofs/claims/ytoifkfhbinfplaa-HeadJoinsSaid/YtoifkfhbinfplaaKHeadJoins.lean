/- HeadJoins: the walk. Printed by genkhj.py. -/
import Derived.Test.YtoifkfhbinfplaaHd23
import Derived.Test.YtoifkfhbinfplaaArgU
import Derived.Test.YtoifkfhbinfplaaHd25
import Derived.Test.YtoifkfhbinfplaaRegH
import Derived.ArgAppend
namespace Go.Proofs.Ytoifkfhbinfplaa
open Go Go.RowKit
set_option linter.unusedVariables false
set_option linter.unusedSimpArgs false
attribute [local go_sem] bmax2 bmin2 bmax bmin cell_ext frozen_ext
theorem exec_append {P : Program} {o : Oper} {a : Act} {s x : Operand} {t : TypeId} (ho : o.op = .call { callee := .builtin .append, args := #[s, x], argTypes := #[t, t] }) {sv xv v : Value} (hs : a.eval s = sv) (hx : a.eval x = xv) {w w' : World}
    (hr : (Builtin.append_ #[t, t] o.type #[sv, xv]).run P w = .ok v w') : (execOp a.eval o).run P w = .ok (.value v) w' := by
  unfold execOp
  simp only [ho, resolve, invoke, builtin, Sem.run_bind, Sem.run_pure, Result.andThen_ok, List.map_toArray, List.map_cons, List.map_nil, hs, hx, hr]
theorem app0 (ad : Option Addr) (c g : Nat) (W : World) : (Builtin.append_ #[35, 35] 35 #[.slice (some ⟨g, 0, none⟩) 0 0, .slice ad 0 c]).run Try.prog W = .ok (.slice (some ⟨g, 0, none⟩) 0 0) W := by
  cases ad with
  | none => kernel_rfl
  | some a => kernel_rfl
theorem Fo.base {B B' : Nat} {w : World} {ad : Option Addr} {l : List Fd} {c : Nat} (h : Fo B w ad l c) (hB : B' ≤ B) : Fo B' w ad l c := by
  refine ⟨h.1, ?_⟩
  rcases h.2 with hn | ⟨g', cap, cur, he, hb, rest⟩
  · exact Or.inl hn
  · exact Or.inr ⟨g', cap, cur, he, Nat.le_trans hB hb, rest⟩
theorem grown_none {w w' : World} (h : w.grownBy w' none) : Below w.heap.size w w' := ⟨h.os, h.tape, h.output, h.size, fun k hk => h.block k hk (by simp)⟩
/-- a copy of extensions -/
theorem copy_fs (ad : Option Addr) (c g : Nat) (l : List Fd) (B : Nat) (W : World) (hl : l.length ≤ 1000) (hB : B ≤ W.heap.size) (hs : FS W ad l) (h0 : Fo B W (some ⟨g, 0, none⟩) [] 0) :
    ∃ g' c' W', (Builtin.append_ #[35, 35] 35 #[.slice (some ⟨g, 0, none⟩) 0 0, .slice ad l.length c]).run Try.prog W = .ok (.slice (some ⟨g', 0, none⟩) l.length c') W' ∧ Fo B W' (some ⟨g', 0, none⟩) l c' ∧ Below W.heap.size W W' := by
  by_cases he : l = []
  · subst he
    exact ⟨g, 0, W, app0 ad c g W, h0, Below.refl _ _⟩
  · obtain ⟨b, o, rfl, hb, hh⟩ := hs he
    have hlp := List.length_pos_iff.2 he
    obtain ⟨i, z, hi, hz, hzs, hs, hby⟩ := field_parts
    obtain ⟨v', w', hr, ho, hg⟩ := run_append_arg_grows (P := Try.prog) (w := W) 35 35 48 i z 2 24 Try.underlying35 hi hz hs hby hzs (by decide) ⟨g, 0, none⟩ 0 0 [] rfl (by simp) ⟨b, o, none⟩ l.length c (rowsF l) (by rw [rowsF_length]) (rows_at hh) (by omega) (by unfold maxLen; omega) (by omega)
    rw [Nat.zero_add, List.nil_append] at ho
    rcases ho.2 with ⟨_, h0⟩ | ⟨g', cap, cur, rfl, hb', rest⟩
    · omega
    · exact ⟨g', cap, w', hr, Fo.base ⟨ho.1, Or.inr ⟨g', cap, cur, rfl, hb', rest⟩⟩ hB, grown_none hg⟩
theorem mk_run {P : Program} {ops : Array Oper} {o : Oper} {A : Act} {w : World} {V : Value → World → Prop} {Vs : Nat → Value → World → Prop} (hg : o.guard = none) (hr : ∀ W, Below w.heap.size w W → ∃ v W', (execOp A.eval o).run P W = .ok (.value v) W' ∧ Below W.heap.size W W' ∧ V v W') : MkAt P ops o A w V Vs (fun _ _ => True) := by
  refine ⟨by simp [Region.wanted, hg], fun W hW => ?_⟩
  obtain ⟨v, W', h1, h2, h3⟩ := hr W hW
  rw [h1]
  exact ⟨h2, h3, fun _ _ _ => ⟨trivial, trivial⟩⟩
set_option maxRecDepth 100000 in
theorem slice_none (W : World) : (Instr.buildSlice 35 0 #[]).run Try.prog W = .ok (.slice (some ⟨W.heap.size, 0, none⟩) 0 0) (W.alloc (.cells #[] 48)) := by kernel_rfl
theorem exec_load {P : Program} {o : Oper} {a : Act} {ty : TypeId} {x : Operand} (ho : o.op = .load ty x) {pv v : Value} (hx : a.eval x = pv) {w : World} (hr : (Instr.loadAt ty pv).run P w = .ok v w) : (execOp a.eval o).run P w = .ok (.value v) w := by
  subst hx
  unfold execOp
  simp only [ho, Sem.run_bind, hr, Result.andThen_ok, Sem.run_pure]
set_option maxHeartbeats 8000000 in
set_option maxRecDepth 100000 in
theorem HeadJoins_walk (w : World) (h : Hd) (ad : Option Addr) (c : Nat) (l : List Fd) (f : Fd) (hok : h.ok) (hb : l.length ≤ maxLen ∧ (∀ f ∈ l, f.d.size ≤ reachBytes) ∧ FS w ad l) (hf : wfF f) :
    Calls Try.prog 9 #[.agg h.cells.toArray, .slice ad l.length c, .agg f.row.toArray] w fun e w' => e = .returned (.bool true) ∧ Below w.heap.size w w' := by
  obtain ⟨hl, hrb, hs⟩ := hb
  have hfd := hf.2
  unfold maxLen at hl hfd
  have hrr : reachBytes = 140737488351232 := rfl
  unfold Fd.row fieldL
  have HB := kp (ba (ba (Below.refl w.heap.size w) (.cells h.cells.toArray 26)) (.cells #[.int .i64 f.k, .string f.d] 48))
  have H3 : Kp (Blk ((w.alloc (.cells h.cells.toArray 26)).alloc (.cells #[.int .i64 f.k, .string f.d] 48)) w.heap.size 26 h.cells.toArray) := kp ((Blk.new w 26 h.cells.toArray).alloc _)
  have H5 : Kp (Blk ((w.alloc (.cells h.cells.toArray 26)).alloc (.cells #[.int .i64 f.k, .string f.d] 48)) (w.heap.size + 1) 48 #[.int .i64 f.k, .string f.d]) := kp (by
    have h := Blk.new (w.alloc (.cells h.cells.toArray 26)) 48 #[.int .i64 f.k, .string f.d]
    rwa [size_all] at h)
  have F0 := kp (hs.bel HB.out)
  clear hs
  have cG : Kp (∀ w', FS w' ad l → Calls Try.prog 18 #[.slice ad l.length c] w' fun e w'' => e = .returned (.bool (decide (2048 < wsumF l))) ∧ w' = w'') := kp (fun w' hf => L_large ad c l w' (by unfold maxLen; omega) (fun f hf => Nat.le_trans (hrb f hf) (by unfold maxLen; omega)) hf)
  have HRB := kp hrb
  clear hrb hf
  by_cases hlg : 2048 < wsumF l
  · rw [decide_eq_true hlg] at cG
    generalize h.cells = L at *
    go_enter Try.func9, Try.ntmps9
    go_wp2_with fail
    refine (head_awake _).mono ?_
    rintro e w_1 ⟨rfl, hb_c⟩
    have HB := kp (bt' HB.out hb_c HB.out.size)
    have H3 := kp (H3.out.bel hb_c)
    have H5 := kp (H5.out.bel hb_c)
    have F0 := kp (F0.out.bel hb_c)
    clear hb_c
    go_wp2_with fail
    refine (cG.out _ F0.out).mono ?_
    rintro e w_2 ⟨rfl, rfl⟩
    have q0 := H5.out.at (i := 0) rfl
    have q1 := H5.out.at (i := 1) rfl
    have hlb := H5.out.lt
    go_wp2
    go_ret
    exact ⟨rfl, HB.out⟩
  rw [decide_eq_false hlg] at cG
  by_cases hf2 : 2048 < f.d.size
  · have g1 : decide ((2048 : Int) < (f.d.size : Int)) = true := by simp; omega
    generalize h.cells = L at *
    go_enter Try.func9, Try.ntmps9
    go_wp2_with fail
    refine (head_awake _).mono ?_
    rintro e w_1 ⟨rfl, hb_c⟩
    have HB := kp (bt' HB.out hb_c HB.out.size)
    have H3 := kp (H3.out.bel hb_c)
    have H5 := kp (H5.out.bel hb_c)
    have F0 := kp (F0.out.bel hb_c)
    clear hb_c
    go_wp2_with fail
    refine (cG.out _ F0.out).mono ?_
    rintro e w_2 ⟨rfl, rfl⟩
    have q0 := H5.out.at (i := 0) rfl
    have q1 := H5.out.at (i := 1) rfl
    have hlb := H5.out.lt
    go_wp2
    go_ret
    exact ⟨rfl, HB.out⟩
  have g1 : decide ((2048 : Int) < (f.d.size : Int)) = false := by simp; omega
  by_cases hl15 : 15 < l.length
  · have g2 : decide ((15 : Int) < (l.length : Int)) = true := by simp; omega
    generalize h.cells = L at *
    go_enter Try.func9, Try.ntmps9
    go_wp2_with fail
    refine (head_awake _).mono ?_
    rintro e w_1 ⟨rfl, hb_c⟩
    have HB := kp (bt' HB.out hb_c HB.out.size)
    have H3 := kp (H3.out.bel hb_c)
    have H5 := kp (H5.out.bel hb_c)
    have F0 := kp (F0.out.bel hb_c)
    clear hb_c
    go_wp2_with fail
    refine (cG.out _ F0.out).mono ?_
    rintro e w_2 ⟨rfl, rfl⟩
    have q0 := H5.out.at (i := 0) rfl
    have q1 := H5.out.at (i := 1) rfl
    have hlb := H5.out.lt
    go_wp2
    go_ret
    exact ⟨rfl, HB.out⟩
  have g2 : decide ((15 : Int) < (l.length : Int)) = false := by simp; omega
  have hbl : (bodyL l).length ≤ 4096 := by
    have h3 := sum_le reachBytes l HRB.out
    have h4 : l.length * (4 + reachBytes) ≤ 15 * (4 + reachBytes) := Nat.mul_le_mul_right _ (by omega)
    have h5 := wsumF_eq _ l rfl (by omega)
    have h6 := body_sum l
    omega
  have hfl := f.len
  have hfp := padN_lt f.d.size 4 (by decide)
  have cW : Kp (∀ w', FS w' ad l → Calls Try.prog 21 #[.agg h.cells.toArray, .slice ad l.length c] w' fun e w'' => e = .returned (.tuple #[.string (str (writeL h l).1), .int .i64 (writeL h l).2]) ∧ Below w'.heap.size w' w'') := kp (fun w' hf => M_Write h hok ad c l w' (by omega) hf)
  have cV : Kp (∀ g' c' w', FS w' (some ⟨g', 0, none⟩) (l ++ [f]) → Calls Try.prog 21 #[.agg h.cells.toArray, .slice (some ⟨g', 0, none⟩) (l.length + 1) c'] w' fun e w'' => e = .returned (.tuple #[.string (str (writeL h (l ++ [f])).1), .int .i64 (writeL h (l ++ [f])).2]) ∧ Below w'.heap.size w' w'') := kp (fun g' c' w' hf => by
    have hc := M_Write h hok (some ⟨g', 0, none⟩) c' (l ++ [f]) w' (by rw [bodyL_append, bodyL_one, List.length_append]; omega) hf
    rw [List.length_append] at hc
    exact hc)
  have cU : Kp (∀ g' w', FS w' (some ⟨g', 0, none⟩) [f] → Calls Try.prog 21 #[.agg h.cells.toArray, .slice (some ⟨g', 0, none⟩) 1 1] w' fun e w'' => e = .returned (.tuple #[.string (str (writeL h [f]).1), .int .i64 (writeL h [f]).2]) ∧ Below w'.heap.size w' w'') := kp (fun g' w' hf => M_Write h hok (some ⟨g', 0, none⟩) 1 [f] w' (by rw [bodyL_one]; omega) hf)
  have gE : (str []).toList = [] := by rw [toList_bs]; rfl
  have HW1 := kp (writeL_ok h l)
  have HW3 := kp (writeL_ok h [f])
  have HWB := kp (show ((writeL h l).2 ≠ 0 ∨ (writeL h [f]).2 ≠ 0) → writeL h (l ++ [f]) = ([], 2) from joins_bad h l f (by omega))
  have HWG := kp (show (writeL h l).2 = 0 → (writeL h [f]).2 = 0 → writeL h (l ++ [f]) = ((writeL h l).1 ++ f.bytes, 0) ∧ (writeL h [f]).1 = h.bytes ++ f.bytes from joins_good h l f (by omega))
  have HL := h.length
  generalize h.cells = L at *
  go_enter Try.func9, Try.ntmps9
  go_wp2_with fail
  refine (head_awake _).mono ?_
  rintro e w_1 ⟨rfl, hb_c⟩
  have HB := kp (bt' HB.out hb_c HB.out.size)
  have H3 := kp (H3.out.bel hb_c)
  have H5 := kp (H5.out.bel hb_c)
  have F0 := kp (F0.out.bel hb_c)
  clear hb_c
  go_wp2_with fail
  refine (cG.out _ F0.out).mono ?_
  rintro e w_2 ⟨rfl, rfl⟩
  have q0 := H5.out.at (i := 0) rfl
  have q1 := H5.out.at (i := 1) rfl
  have hlb := H5.out.lt
  go_upto_region 5 with (fail)
  clear q0 q1 hlb
  have LD := ld_all (P := Try.prog) w.heap.size 13 26 26 L _ Try.underlying26 rfl info_head HL H3.out
  go_wp2_with (refine wpL_load rfl 26 _ rfl rfl LD ?_)
  clear LD
  refine (cW.out _ F0.out).mono ?_
  rintro e w_3 ⟨rfl, hb_c⟩
  have HB := kp (bt' HB.out hb_c HB.out.size)
  have H3 := kp (H3.out.bel hb_c)
  have H5 := kp (H5.out.bel hb_c)
  have F0 := kp (F0.out.bel hb_c)
  clear hb_c
  go_upto_region 6 with (fail)
  refine wp_region_held (S := fun w' => Below w_3.heap.size w_3 w') (by kernel_rfl) ?_
  change wpAnyH _ _ _ _ _ 13 _ _ _
  refine takeFirst 35 (i := 0) (v := .agg L.toArray) (of_decide_eq_true (by kernel_rfl)) (by kernel_rfl) (by kernel_rfl) (by kernel_rfl) (by kernel_rfl) (fun _ _ _ h => h) (Or.inl ⟨rfl, fun w' hS => exec_load rfl rfl (ld_all w.heap.size 13 26 26 L _ Try.underlying26 rfl info_head HL (H3.out.bel hS))⟩) (Below.refl _ _).drew ?_
  refine takeFirst 37 (i := 2) (v := .slice ad l.length c) (of_decide_eq_true (by kernel_rfl)) (by kernel_rfl) (by kernel_rfl) (by kernel_rfl) (by kernel_rfl) (fun _ _ _ h => h) (Or.inl ⟨rfl, fun w' hS => rfl⟩) (Below.refl _ _).drew ?_
  refine takeFirst 39 (i := 4) (v := .agg #[.int .i64 f.k, .string f.d]) (of_decide_eq_true (by kernel_rfl)) (by kernel_rfl) (by kernel_rfl) (by kernel_rfl) (by kernel_rfl) (fun _ _ _ h => h) (Or.inl ⟨rfl, fun w' hS => exec_load rfl rfl (ld_all (w.heap.size + 1) 2 48 48 [.int .i64 f.k, .string f.d] _ Try.underlying48 rfl info_field rfl (H5.out.bel hS))⟩) (Below.refl _ _).drew ?_
  refine diamond 1 3 5 36 38 40 (by kernel_rfl) (by kernel_rfl) (fun v W => ∃ g, v = .slice (some ⟨g, 0, none⟩) 0 0 ∧ Fo w_3.heap.size W (some ⟨g, 0, none⟩) [] 0) (fun v W => ∃ g c, v = .slice (some ⟨g, 0, none⟩) l.length c ∧ Fo w_3.heap.size W (some ⟨g, 0, none⟩) l c) (fun v W => ∃ g, v = .slice (some ⟨g, 0, none⟩) 1 1 ∧ Blk W g 48 #[.int .i64 f.k, .string f.d]) ?_ ?_ ?_ (Below.refl _ _).drew ?_
  · intro W hW
    refine ⟨_, _, exec_buildSlice (parts := #[]) rfl (by simp) (slice_none W), bt' hW (ba (Below.refl _ _) _) hW.size, ⟨W.heap.size, rfl, World.ownsRow_lit W #[] 0 hW.size (by unfold maxLen; omega) rfl⟩, ?_⟩
    rintro u ⟨g, h1, h2⟩
    exact ⟨g, h1, h2.alloc _⟩
  · rintro u W hW ⟨g, rfl, hfo⟩
    obtain ⟨g', c', W', hr, h2, h3⟩ := copy_fs ad c g l w_3.heap.size W (by omega) hW.size (F0.out.bel hW) hfo
    refine ⟨.slice (some ⟨g', 0, none⟩) l.length c', W', ?_, bt' hW h3 hW.size, ⟨g', c', rfl, h2⟩, ?_⟩
    · exact exec_append (t := 35) (s := .tmp 36) (x := .tmp 37) (sv := .slice (some ⟨g, 0, none⟩) 0 0) (xv := .slice ad l.length c) (by kernel_rfl) (by kernel_rfl) (by kernel_rfl) hr
    · rintro u ⟨g, h1, h4⟩
      exact ⟨g, h1, h4.bel h3⟩
  · intro W hW
    refine ⟨_, _, exec_buildSlice (parts := #[(0, .agg #[.int .i64 f.k, .string f.d])]) rfl (by simp [Act.eval, Act.put]) (slice_field _ _ W), bt' hW (ba (Below.refl _ _) _) hW.size, ⟨W.heap.size, rfl, Blk.new W _ _⟩, ?_, ?_⟩
    · rintro u ⟨g, h1, h2⟩
      exact ⟨g, h1, h2.bel (ba (Below.refl _ _) _)⟩
    · rintro u ⟨g, c, h1, h2⟩
      exact ⟨g, c, h1, h2.bel (ba (Below.refl _ _) _)⟩
  rintro u1 u3 u5 X hX ⟨g3, c3, rfl, hfo⟩ ⟨g5, rfl, hk5⟩
  change wpAnyH _ _ _ _ _ [6, 7, 8, 10, 9, 11, 12].length _ _ _
  refine wpAnyH_of_seqE (by kernel_rfl) (fun _ _ d _ _ h => by cases d <;> exact h) [6, 7, 8, 10, 9, 11, 12] _ _ _ hX (of_decide_eq_true (by kernel_rfl)) (by kernel_rfl) ?_
  obtain ⟨g6, c6, W6, hr6, hT, hSg, _⟩ := Fo.append (c1 := 1) hfo (by omega) [f] (by simp) (by simp) (show HoldsF X g5 0 [f] from fun i f' hf' => by
    cases i with
    | zero => simp only [List.getElem?_cons_zero, Option.some.injEq] at hf'; subst hf'; exact ⟨hk5.at rfl, hk5.at rfl⟩
    | succ i => simp at hf') hX.size
  have hB6 := hX.grown hSg hX.size (fun x hx => (hfo.lt hx).1)
  rw [List.length_append] at hr6
  refine stepS 41 (by kernel_rfl) (of_decide_eq_true (by kernel_rfl)) (by kernel_rfl) (W' := W6) (v := .slice (some ⟨g6, 0, none⟩) (l.length + 1) c6) (exec_append (t := 35) (s := .tmp 38) (x := .tmp 40) (sv := .slice (some ⟨g3, 0, none⟩) l.length c3) (xv := .slice (some ⟨g5, 0, none⟩) 1 1) (by kernel_rfl) (by kernel_rfl) (by kernel_rfl) hr6) hB6 ?_
  refine stepS_call 42 (by kernel_rfl) (of_decide_eq_true (by kernel_rfl)) (by kernel_rfl) (f := 21) (args := #[.agg L.toArray, .slice (some ⟨g6, 0, none⟩) (l.length + 1) c6]) (by kernel_rfl) (cV.out g6 c6 W6 hT.fs) (fun W' h => bt' hB6 h hB6.size) fun W7 h7 => ?_
  have hB7 := bt' hB6 h7 hB6.size
  refine stepS 34 (by kernel_rfl) (of_decide_eq_true (by kernel_rfl)) (by kernel_rfl) (W' := W7) (v := .tuple #[.string (str (writeL h (l ++ [f])).1), .int .i64 (writeL h (l ++ [f])).2]) (by kernel_rfl) hB7 ?_
  refine stepS 44 (by kernel_rfl) (of_decide_eq_true (by kernel_rfl)) (by kernel_rfl) (W' := W7) (v := .int .i64 (writeL h (l ++ [f])).2) (by kernel_rfl) hB7 ?_
  refine stepS 43 (by kernel_rfl) (of_decide_eq_true (by kernel_rfl)) (by kernel_rfl) (W' := W7) (v := .string (str (writeL h (l ++ [f])).1)) (by kernel_rfl) hB7 ?_
  refine stepS 9 (by kernel_rfl) (of_decide_eq_true (by kernel_rfl)) (by kernel_rfl) (W' := W7) (v := .string (str (writeL h (l ++ [f])).1)) (by kernel_rfl) hB7 ?_
  refine stepS 10 (by kernel_rfl) (of_decide_eq_true (by kernel_rfl)) (by kernel_rfl) (W' := W7) (v := .int .i64 (writeL h (l ++ [f])).2) (by kernel_rfl) hB7 ?_
  have H3 := kp (H3.out.bel hB7)
  have H5 := kp (H5.out.bel hB7)
  have HB := kp (bt' HB.out hB7 HB.out.size)
  clear hT hSg hB6 hX hfo hk5 h7 hB7 hr6
  have q0 := H5.out.at (i := 0) rfl
  have q1 := H5.out.at (i := 1) rfl
  have hlb := H5.out.lt
  have LD := ld_all (P := Try.prog) w.heap.size 13 26 26 L _ Try.underlying26 rfl info_head HL H3.out
  have hkl := ba (Below.refl W7.heap.size W7) (.cells #[.int .i64 f.k, .string f.d] 48)
  have hkn := Blk.new W7 48 #[.int .i64 f.k, .string f.d]
  have HF1 : Kp (FS (W7.alloc (.cells #[.int .i64 f.k, .string f.d] 48)) (some ⟨W7.heap.size, 0, none⟩) [f]) := kp (fun _ => ⟨W7.heap.size, 0, rfl, hkn.lt, fun i f' hf' => by
    cases i with
    | zero => simp only [List.getElem?_cons_zero, Option.some.injEq] at hf'; subst hf'; exact ⟨hkn.at rfl, hkn.at rfl⟩
    | succ i => simp at hf'⟩)
  have HB := kp (bt' HB.out hkl HB.out.size)
  clear hkn hkl
  unfold wpListS
  dsimp only [Exit.then, Act.put]
  simp only [List.setIfInBounds_toArray, List.set_cons_succ, List.set_cons_zero]
  go_wp2_with (first | (refine wpL_load rfl 26 _ rfl rfl LD ?_) | (refine wpL_make 48 rfl rfl (.slice (some ⟨W7.heap.size, 0, none⟩) 1 1) (exec_buildSlice (parts := #[(0, .agg #[.int .i64 f.k, .string f.d])]) rfl (by simp [Act.eval, Act.put]) (slice_field _ _ _)) ?_))
  refine (cU.out _ _ HF1.out).mono ?_
  rintro e w_8 ⟨rfl, hb_c⟩
  have HB := kp (bt' HB.out hb_c HB.out.size)
  clear hb_c q0 q1 hlb LD
  by_cases hgood : (writeL h l).2 = 0 ∧ (writeL h [f]).2 = 0
  · obtain ⟨e1, e3⟩ := hgood
    obtain ⟨k1, k3⟩ := HWG.out e1 e3
    have k2 : (writeL h (l ++ [f])).2 = 0 := by rw [k1]
    have k4 : (writeL h (l ++ [f])).1 = (writeL h l).1 ++ f.bytes := by rw [k1]
    have z3 : (str (writeL h [f]).1).size = 48 + f.bytes.length := by rw [str_size, k3, List.length_append, h.bytes_len]
    have c3 : (str (writeL h [f]).1).extract 48 (48 + f.bytes.length) = str f.bytes := by
      rw [k3]
      apply bs_inj
      rw [bs_extract, bs_str, bs_str, ← h.bytes_len, List.drop_left, List.take_of_length_le (by omega)]
    have z1 : (str (writeL h l).1).size ≤ 8192 := by
      obtain ⟨_, _, _, e⟩ := writeL_ok h l e1
      rw [e, str_size]
      simp only [List.length_append, h.bytes_len]
      omega
    have z4 : (str f.bytes).size ≤ 8192 := by rw [str_size]; omega
    have z5 : f.bytes.length ≤ 8192 := by omega
    have gq : ((str (writeL h (l ++ [f])).1).toList == ((str (writeL h l).1) ++ (str f.bytes)).toList) = true := by rw [k4, str_app]; simp
    rw [e1, e3, k2]
    clear e1 e3 k1 k2 k3 k4 hfl hfp
    generalize f.bytes.length = nb at *
    generalize str (writeL h (l ++ [f])).1 = T2 at *
    generalize str (writeL h [f]).1 = T3 at *
    generalize str (writeL h l).1 = T1 at *
    generalize str f.bytes = TF at *
    go_wp2
    go_ret
    exact ⟨rfl, HB.out⟩
  · have hbad : (writeL h l).2 ≠ 0 ∨ (writeL h [f]).2 ≠ 0 := by
      by_cases h1 : (writeL h l).2 = 0
      · exact Or.inr (fun h2 => hgood ⟨h1, h2⟩)
      · exact Or.inl h1
    rw [HWB.out hbad]
    generalize str (writeL h [f]).1 = T3 at *
    generalize str (writeL h l).1 = T1 at *
    by_cases h1 : (writeL h l).2 = 0
    · have h3 : (writeL h [f]).2 ≠ 0 := hbad.resolve_left (fun h => h h1)
      have g3 : ((writeL h [f]).2 == 0) = false := by simp [h3]
      have g4 : ((writeL h [f]).2 != 0) = true := by simp [h3]
      rw [h1]
      generalize (writeL h [f]).2 = e3 at *
      go_wp2
      go_ret
      exact ⟨rfl, HB.out⟩
    · have g3 : ((writeL h l).2 == 0) = false := by simp [h1]
      have g4 : ((writeL h l).2 != 0) = true := by simp [h1]
      generalize (writeL h l).2 = e1 at *
      generalize (writeL h [f]).2 = e3 at *
      go_wp2
      go_ret
      exact ⟨rfl, HB.out⟩
end Go.Proofs.Ytoifkfhbinfplaa
