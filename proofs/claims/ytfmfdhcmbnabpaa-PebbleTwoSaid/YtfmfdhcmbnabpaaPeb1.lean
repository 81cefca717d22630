/- pebble: New, At, Left, Minds, last, drop. -/
import Derived.Test.YtfmfdhcmbnabpaaPeb0
namespace Go.Proofs.Ytfmfdhcmbnabpaa
open Go Go.RowKit
set_option linter.unusedVariables false
set_option linter.unusedSimpArgs false
attribute [local go_sem] bmax2 bmin2 bmax bmin cell_ext frozen_ext

theorem info_stone : (Try.prog.info? 72).map (·.size) = some 33 := by kernel_rfl
set_option maxRecDepth 100000 in
theorem build_stone (K : List UInt8) (a : Int) (h : K.length = 32) (W : World) : (Instr.build 72 #[(0, .int .i64 a), (1, .agg (cellsU8 K).toArray)]).run Try.prog W = .ok (.agg (.int .i64 a :: cellsU8 K).toArray) W := by
  obtain ⟨f, rfl⟩ := list32 K h
  exact run_build W 72 _ _ (by kernel_rfl)
set_option maxRecDepth 100000 in
theorem slice_stone (K : List UInt8) (a : Int) (h : K.length = 32) (W : World) : (Instr.buildSlice 73 1 #[(0, .agg (.int .i64 a :: cellsU8 K).toArray)]).run Try.prog W = .ok (.slice (some ⟨W.heap.size, 0, none⟩) 1 1) (W.alloc (.cells (.int .i64 a :: cellsU8 K).toArray 72)) := by
  obtain ⟨f, rfl⟩ := list32 K h
  kernel_rfl
/-- an operation that makes a new block, in a region in its one order -/
theorem wpL_make {P : Program} {ops : Array Oper} {rest : List Oper} {o : Oper} {a : Act} {w w' : World} {Q : Exit → Act → World → Prop} (d : Tmp) (hd : o.dst = some d) (hgd : o.guard = none) (v : Value)
    (hr : (execOp a.eval o).run P w = .ok (.value v) w') (h : wpList P ops Q rest (a.put (some d) v) w') : wpList P ops Q (o :: rest) a w :=
  wpList_plain hgd fun K hK => by
    unfold Oper.wp
    rw [hr]
    simp only [Oper.upon, hd]
    exact hK _ _ h
theorem exec_buildSlice {P : Program} {o : Oper} {a : Act} {ty : TypeId} {len : Nat} {ps : Array (Nat × Operand)} (ho : o.op = .buildSlice ty len ps) {parts : Array (Nat × Value)} (hp : ps.map (fun p => (p.1, a.eval p.2)) = parts) {v : Value} {w w' : World} (hr : (Instr.buildSlice ty len parts).run P w = .ok v w') : (execOp a.eval o).run P w = .ok (.value v) w' := by
  subst hp
  unfold execOp
  simp only [ho, Sem.run_bind, hr, Result.andThen_ok, Sem.run_pure]

theorem PNew_bad (K : List UInt8) (n : Int) (h : n < 1 ∨ 1024 < n) (w : World) :
    Calls Try.prog 29 #[.agg (cellsU8 K).toArray, .int .i64 n] w fun e w' => e = .returned (.tuple #[.pointer none, .int .i64 1]) ∧ Below w.heap.size w w' := by
  have hcase : n < 1 ∨ (¬ n < 1 ∧ 1024 < n) := by omega
  clear h
  rcases hcase with h | ⟨h, h2⟩
  all_goals
    go_enter Try.func29, Try.ntmps29
    go_wp2
    go_ret2
    exact ⟨rfl, ba (Below.refl _ _) _⟩
/-- New's end -/
def NewEnd (w : World) (F : Nat → List UInt8) (n : Nat) (e : Ending) (w' : World) : Prop := ∃ b g cap cur, e = .returned (.tuple #[.pointer (some ⟨b, 0, none⟩), .int .i64 0]) ∧ Wk w' b g cap cur F n 0 [n] ∧ w.heap.size ≤ b ∧ w.heap.size ≤ g ∧ Below w.heap.size w w'
set_option maxHeartbeats 1000000 in
set_option maxRecDepth 100000 in
theorem PNew_good (K : List UInt8) (hK : K.length = 32) (n : Nat) (h1 : 1 ≤ n) (h2 : n ≤ 1024) (w : World) :
    Calls Try.prog 29 #[.agg (cellsU8 K).toArray, .int .i64 (n : Int)] w (NewEnd w (chK K) n) := by
  have c1 : Kp (∀ w', Calls Try.prog 40 #[.agg (cellsU8 K).toArray, .string ⟨#[99, 104, 97, 105, 110]⟩] w' fun e w'' => e = .returned (.agg (cellsU8 (chK K 0)).toArray) ∧ Below w'.heap.size w' w'') := kp (fun w' => Of_any K ⟨#[99, 104, 97, 105, 110]⟩ hK (by decide) w')
  have hF0 := kp (chK_length K 0)
  have HF : Kp (F32 (chK K)) := kp (chK_length K)
  generalize chK K = F at *
  obtain ⟨P, hP⟩ : ∃ P, F 0 = P := ⟨_, rfl⟩
  rw [hP] at c1 hF0
  have HP := kp hP
  have g1 : ¬ (n : Int) < 1 := by omega
  have g2 : ¬ (1024 : Int) < (n : Int) := by omega
  have HB := kp (ba (Below.refl w.heap.size w) (.cells (cellsU8 K).toArray 23))
  have LD := ldK K hK (Blk.new w 23 (cellsU8 K).toArray)
  clear hK hP
  go_enter Try.func29, Try.ntmps29
  go_wp2_with (refine wpL_load rfl 23 _ rfl rfl LD ?_)
  clear LD
  refine (c1.out _).mono ?_
  rintro e w1 ⟨rfl, hb1⟩
  have HB1 := kp (bt' HB.out hb1 HB.out.size)
  have HB2 := kp (ba (ba HB1.out (.cells (.int .i64 (n : Int) :: cellsU8 P).toArray 72)) (.cells #[.int .i64 (n : Int), .int .i64 0, .slice (some ⟨w1.heap.size, 0, none⟩) 1 1] 75))
  have hr := kp ((Blk.new w1 72 (.int .i64 (n : Int) :: cellsU8 P).toArray).alloc (.cells #[.int .i64 (n : Int), .int .i64 0, .slice (some ⟨w1.heap.size, 0, none⟩) 1 1] 75))
  have hb := Blk.new (w1.alloc (.cells (.int .i64 (n : Int) :: cellsU8 P).toArray 72)) 75 #[.int .i64 (n : Int), .int .i64 0, .slice (some ⟨w1.heap.size, 0, none⟩) 1 1]
  rw [size_all] at hb
  have HW := kp hb
  clear hb hb1 HB
  go_wp2_with (first | (refine wpL_val 16 rfl rfl (.agg (.int .i64 (n : Int) :: cellsU8 P).toArray) (exec_build rfl (by simp [Act.eval, Act.put]) (build_stone P (n : Int) hF0.out _)) ?_) | (refine wpL_make 17 rfl rfl (.slice (some ⟨w1.heap.size, 0, none⟩) 1 1) (exec_buildSlice rfl (by simp [Act.eval, Act.put]) (slice_stone P (n : Int) hF0.out _)) ?_))
  refine bodyPost_ret (v := .tuple #[.pointer (some ⟨w1.heap.size + 1, 0, none⟩), .int .i64 0]) (by simp [results, Try.results29, go_sem]) rfl ⟨w1.heap.size + 1, w1.heap.size, 1, _, rfl, ⟨HW.out, hr.out, by omega, Nat.le_refl _, by decide, ?_, ?_⟩, by have := HB1.out.size; omega, HB1.out.size, HB2.out⟩
  · simp [length_cellsU8, hF0.out]
  · rw [List.take_of_length_le (by simp [length_cellsU8, hF0.out])]
    unfold stonesL stoneL
    rw [List.map_cons, List.map_nil, List.flatten_cons, List.flatten_nil, List.append_nil, Nat.sub_self, HP.out]

section
variable {w : World} {b g cap : Nat} {cur : Array Value} {F : Nat → List UInt8} {n at_ : Nat} {ps : List Nat}
theorem PAt_any (h : Wk w b g cap cur F n at_ ps) : Calls Try.prog 30 #[.pointer (some ⟨b, 0, none⟩)] w fun e w' => e = .returned (.int .i64 (at_ : Int)) ∧ w = w' := by
  obtain ⟨c0, c1, c2, hl⟩ := h.cells
  have HH := kp h
  clear h
  go_enter Try.func30, Try.ntmps30
  go_wp2
  go_ret
  exact ⟨rfl, rfl⟩
theorem PMinds_any (h : Wk w b g cap cur F n at_ ps) : Calls Try.prog 32 #[.pointer (some ⟨b, 0, none⟩)] w fun e w' => e = .returned (.int .i64 (ps.length : Int)) ∧ w = w' := by
  obtain ⟨c0, c1, c2, hl⟩ := h.cells
  have HH := kp h
  clear h
  go_enter Try.func32, Try.ntmps32
  go_wp2
  go_ret
  exact ⟨rfl, rfl⟩
theorem PLeft_any (h : Wk w b g cap cur F n at_ ps) (hn : n ≤ 1024) (ha : at_ ≤ n + 1) : Calls Try.prog 31 #[.pointer (some ⟨b, 0, none⟩)] w fun e w' => e = .returned (.int .i64 ((n : Int) + 1 - (at_ : Int))) ∧ Below w.heap.size w w' := by
  obtain ⟨c0, c1, c2, hl⟩ := h.cells
  have HH := kp h
  have w1 : IntKind.i64.wrap ((n : Int) + 1) = (n : Int) + 1 := IntWalk.i64_in _ (by omega)
  have w2 : IntKind.i64.wrap ((n : Int) + 1 - (at_ : Int)) = (n : Int) + 1 - (at_ : Int) := IntWalk.i64_in _ (by omega)
  clear h hn ha
  go_enter Try.func31, Try.ntmps31
  go_wp2
  refine wp_region_ext [0, 1, 2, 3, 4, 5, 6, 7, 8, 9] [10] (by kernel_rfl) (by kernel_rfl) ?_
  simp only [List.map_cons, List.map_nil, List.getD_cons_succ, List.getD_cons_zero]
  repeat (go_big_quiet_step (fail))
  refine wpQuiet_nil ?_
  rintro z
  go_wp2
  go_ret
  exact ⟨rfl, ext_below _ _⟩
set_option maxHeartbeats 1000000 in
set_option maxRecDepth 100000 in
theorem Plast_any {p : Nat} (hF : F32 F) (h : Wk w b g cap cur F n at_ (ps ++ [p])) (hl12 : ps.length ≤ 100) : Calls Try.prog 46 #[.pointer (some ⟨b, 0, none⟩)] w fun e w' => e = .returned (.agg (stoneL F n p).toArray) ∧ Below w.heap.size w w' := by
  have hlen : (ps ++ [p]).length = ps.length + 1 := by simp
  have hle := h.le
  rw [hlen] at hle
  have HH := kp h
  have HN := kp (Blk.new w 72 (stoneL (fun _ => List.replicate 32 0) 0 0).toArray)
  have HB := kp (ba (Below.refl w.heap.size w) (.cells (stoneL (fun _ => List.replicate 32 0) 0 0).toArray 72))
  have H1 := kp (h.bel (ba (Below.refl _ _) (.cells (stoneL (fun _ => List.replicate 32 0) 0 0).toArray 72)))
  have hsl := stoneL_length hF n p
  have HF := kp hF
  clear h hF
  obtain ⟨m, hm⟩ : ∃ m, ps.length = m := ⟨_, rfl⟩
  go_enter Try.func46, Try.ntmps46
  go_wp2
  change Code.wp _ _ _ _ (w.alloc (.cells (stoneL (fun _ => List.replicate 32 0) 0 0).toArray 72))
  obtain ⟨Z, hZ⟩ : ∃ Z, stoneL (fun _ => List.replicate 32 0) 0 0 = Z := ⟨_, rfl⟩
  have hzl : Z.length = 33 := by rw [← hZ]; rfl
  rw [hZ] at HN HB H1 ⊢
  generalize w.alloc (.cells Z.toArray 72) = W at HN HB H1 ⊢
  obtain ⟨c0, c1, c2, hlb⟩ := H1.out.cells
  rw [hlen, hm] at c2
  rw [hm] at hle hl12
  have hgl := H1.out.row.lt
  have i1 : (m : Int) ≤ 100 := by omega
  have i2 : (m : Int) + 1 ≤ (cap : Int) := by omega
  have w1 : IntKind.i64.wrap (((m + 1 : Nat) : Int) - 1) = (m : Int) := by rw [IntWalk.i64_in _ (by omega)]; omega
  have w2 : IntKind.i64.wrap ((m : Int) + 1 - 1) = (m : Int) := by rw [IntWalk.i64_in _ (by omega)]; omega
  have LQ := kp (fun x => ld_row (P := Try.prog) (w := W.ext x) g (m * 33) 33 72 (stoneL F n p) _ Try.underlying72 rfl info_stone hsl (fun j v hv => by
    rw [← hm]
    exact ((ext_below W x).cell (p := ⟨g, ps.length * 33 + j, none⟩) hgl).trans (H1.out.last HF.out j v hv)))
  refine wp_region_ext [0, 1, 2, 3, 4, 5, 6, 7, 8, 9, 10, 11] [12] (by kernel_rfl) (by kernel_rfl) ?_
  simp only [List.map_cons, List.map_nil, List.getD_cons_succ, List.getD_cons_zero]
  repeat (first
    | (go_big_quiet_want; refine quiet_load _ rfl 72 _ rfl rfl (fun w hw => by obtain ⟨x, rfl⟩ := hw; exact LQ.out x) ?_; go_simp; go_big_quiet_on)
    | go_big_quiet_step (fail))
  refine wpQuiet_nil ?_
  rintro z
  have h5 := HN.out.bel (ext_below W z)
  have hb5 := bt' HB.out (ext_below W z) HB.out.size
  have SC := sc_all (P := Try.prog) (w := W.ext z) w.heap.size 72 (stoneL F n p) _ h5 (by rw [hsl, hzl]) (stoneL_one F n p)
  have HX := kp (h5.row (stoneL F n p).toArray)
  have HBX := kp (bsr hb5 (Nat.le_refl w.heap.size) hb5.size (stoneL F n p).toArray)
  have HL := kp hsl
  clear h5 hb5 HN HB H1 c0 c1 c2 HH
  generalize W.ext z = V at SC HX HBX ⊢
  generalize V.setRow w.heap.size (stoneL F n p).toArray = Y at SC HX HBX
  obtain ⟨SL, hSL⟩ : ∃ SL, stoneL F n p = SL := ⟨_, rfl⟩
  rw [hSL] at SC HX HL hsl ⊢
  have HSL := kp hSL
  clear hSL LQ
  go_wp2
  refine bodyPost_ret (v := .agg SL.toArray) ?_ rfl ⟨by first | rfl | rw [HSL.out], HBX.out⟩
  exact res_all Try.results46 w.heap.size 33 _ SL _ Try.underlying72 rfl info_stone HL.out HX.out _ rfl

/-- drop's end -/
def DropEnd (w : World) (b g : Nat) (cur : Array Value) (F : Nat → List UInt8) (n at_ : Nat) (ps : List Nat) (e : Ending) (w' : World) : Prop := (∃ v, e = .returned v) ∧ Wk w' b g ps.length cur F n at_ ps ∧ w.grownBy w' (some b)
theorem Wk.dropped {p : Nat} (hF : F32 F) (h : Wk w b g cap cur F n at_ (ps ++ [p])) : Wk (w.setCell ⟨b, 2, none⟩ (.slice (some ⟨g, 0, none⟩) ps.length ps.length)) b g ps.length cur F n at_ ps := by
  have hle := h.le
  rw [List.length_append, List.length_singleton] at hle
  refine ⟨?_, h.row.far (fun e => h.ne e.symm) _, h.ne, Nat.le_refl _, Nat.le_trans (by omega) h.cap_le, Nat.le_trans (Nat.mul_le_mul_right 33 (show ps.length ≤ cap by omega)) h.fit, ?_⟩
  · have := h.blk.set_ 2 (.slice (some ⟨g, 0, none⟩) ps.length ps.length)
    exact this
  · have ht := h.take
    rw [stonesL_snoc, List.length_append, List.length_singleton] at ht
    have h2 : (cur.toList.take ((ps.length + 1) * 33)).take (ps.length * 33) = stonesL F n ps := by
      rw [ht, List.take_append_of_le_length (by rw [stonesL_length hF]; exact Nat.le_refl _), List.take_of_length_le (by rw [stonesL_length hF]; exact Nat.le_refl _)]
    rw [List.take_take, Nat.min_eq_left (by omega)] at h2
    exact h2
set_option maxHeartbeats 1000000 in
set_option maxRecDepth 100000 in
theorem Pdrop_any {p : Nat} (hF : F32 F) (h : Wk w b g cap cur F n at_ (ps ++ [p])) (hl12 : ps.length ≤ 100) : Calls Try.prog 47 #[.pointer (some ⟨b, 0, none⟩)] w (DropEnd w b g cur F n at_ ps) := by
  have hlen : (ps ++ [p]).length = ps.length + 1 := by simp
  have hle := h.le
  have hcm := h.cap_le
  have hcm2 : cap ≤ 9223372036854775807 := hcm
  rw [hlen] at hle
  have HW := kp (h.dropped hF)
  have HG := kp (gbset w b 2 (.slice (some ⟨g, 0, none⟩) ps.length ps.length))
  obtain ⟨c0, c1, c2, hlb⟩ := h.cells
  have f2 := h.blk.frozen 2
  have hgl := h.row.lt
  rw [hlen] at c2
  clear h hcm
  have DE : Kp (∀ v, DropEnd w b g cur F n at_ ps (.returned v) (w.setCell ⟨b, 2, none⟩ (.slice (some ⟨g, 0, none⟩) ps.length ps.length))) := kp (fun v => ⟨⟨v, rfl⟩, HW.out, HG.out⟩)
  clear HW HG
  obtain ⟨m, hm⟩ : ∃ m, ps.length = m := ⟨_, rfl⟩
  rw [hm] at c2 hle hl12 DE
  clear hlen hm
  have i1 : (m : Int) ≤ 100 := by omega
  have i2 : (m : Int) + 1 ≤ (cap : Int) := by omega
  have i3 : (m : Int) ≤ (cap : Int) := by omega
  have e1 : ((m + 1 : Nat) : Int) - 1 = (m : Int) := by omega
  go_enter Try.func47, Try.ntmps47
  go_wp2
  go_end0
  exact DE.out _
end
end Go.Proofs.Ytfmfdhcmbnabpaa
