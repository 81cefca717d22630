/- HeadCuts: the walk. Printed by genkhc.py. -/
import Derived.Test.YtoifkfhbinfplaaHd23
import Derived.Test.YtoifkfhbinfplaaArgU
import Derived.Test.YtoifkfhbinfplaaHd24
import Derived.Test.YtoifkfhbinfplaaRegE
namespace Go.Proofs.Ytoifkfhbinfplaa
open Go Go.RowKit
set_option linter.unusedVariables false
set_option linter.unusedSimpArgs false
attribute [local go_sem] bmax2 bmin2 bmax bmin cell_ext frozen_ext
def endsF (l : List Fd) (K : Nat) : Nat → Int
  | 0 => -1
  | j + 1 => if 48 + (bodyL (l.take j)).length = K then (j : Int) else endsF l K j
theorem ends_cases (l : List Fd) (K : Nat) : ∀ n : Nat, (∃ i : Nat, i < n ∧ endsF l K n = (i : Int) ∧ 48 + (bodyL (l.take i)).length = K) ∨ (endsF l K n = -1 ∧ ∀ i, i < n → 48 + (bodyL (l.take i)).length ≠ K)
  | 0 => Or.inr ⟨rfl, fun i h => by omega⟩
  | n + 1 => by
    unfold endsF
    by_cases h : 48 + (bodyL (l.take n)).length = K
    · rw [if_pos h]
      exact Or.inl ⟨n, by omega, rfl, h⟩
    · rw [if_neg h]
      rcases ends_cases l K n with ⟨i, h1, h2, h3⟩ | ⟨h1, h2⟩
      · exact Or.inl ⟨i, by omega, h2, h3⟩
      · refine Or.inr ⟨h1, fun i hi => ?_⟩
        by_cases e : i = n
        · subst e; exact h
        · exact h2 i (by omega)
theorem bodyL_split (l : List Fd) (i : Nat) : bodyL l = bodyL (l.take i) ++ bodyL (l.drop i) := by rw [← bodyL_append, List.take_append_drop]
theorem cut_at (h : Hd) (l : List Fd) (i K : Nat) (hK : 48 + (bodyL (l.take i)).length = K) : (str (h.bytes ++ bodyL l)).extract 0 K = str (h.bytes ++ bodyL (l.take i)) := by
  apply bs_inj
  rw [bs_extract, bs_str, bs_str, List.drop_zero, Nat.sub_zero, bodyL_split l i, ← List.append_assoc]
  rw [show K = (h.bytes ++ bodyL (l.take i)).length by rw [List.length_append, h.bytes_len]; omega, List.take_left]
theorem take_right (l : List Fd) (i : Nat) (h : l.all Fd.right = true) : (l.take i).all Fd.right = true := by
  rw [List.all_eq_true] at h ⊢
  exact fun f hf => h f (List.mem_of_mem_take hf)
theorem no_cut (h : Hd) (l : List Fd) (K : Nat) (hm : h.may = true) (hok : h.ok) (hr : l.all Fd.right = true) (hK : K ≤ 48 + (bodyL l).length) (hno : ∀ i, i < l.length + 1 → 48 + (bodyL (l.take i)).length ≠ K) :
    ∃ er, readL ((str (h.bytes ++ bodyL l)).extract 0 K) = (zeroH, [], er) ∧ er ≠ 0 ∧ (er = 5 ↔ K < 48) := by
  have hsz : ((str (h.bytes ++ bodyL l)).extract 0 K).size = K := by
    rw [ByteArray.size_extract, str_size, List.length_append, h.bytes_len]
    omega
  rcases readL_cases ((str (h.bytes ++ bodyL l)).extract 0 K) with ⟨h', m, e1, h2, h3, h4, h5, h6, h7, h8⟩ | ⟨er, e1, e2, e3⟩
  · exfalso
    rw [bs_extract, bs_str, List.drop_zero, Nat.sub_zero] at h6
    have h9 : (h.bytes ++ bodyL l).take 48 = h'.bytes := by
      have := congrArg (List.take 48) h6
      rw [List.take_take, Nat.min_eq_left (by omega)] at this
      rw [this, ← h'.bytes_len, List.take_left]
    have h10 : (h.bytes ++ bodyL l).take 48 = h.bytes := by rw [← h.bytes_len, List.take_left]
    rw [← h9, h10] at h6
    have h11 : h.bytes ++ bodyL m <+: h.bytes ++ bodyL l := by rw [← h6]; exact List.take_prefix _ _
    have h12 := (List.prefix_append_right_inj _).1 h11
    have h13 := body_prefix m l h4 hr h12
    have h14 := congrArg List.length h6
    rw [List.length_take, List.length_append, List.length_append, h.bytes_len, Nat.min_eq_left hK, h13] at h14
    have h15 := congrArg List.length h13
    rw [List.length_take] at h15
    exact hno m.length (by omega) h14.symm
  · refine ⟨er, e1, e2, ?_⟩
    rw [e3, hsz]
theorem exec_sliceTo {P : Program} {o : Oper} {a : Act} {ty : TypeId} {x y : Operand} (ho : o.op = .slice ty x none (some y) none) {xv yv v : Value} (hx : a.eval x = xv) (hy : a.eval y = yv) {w : World} (hr : (Instr.sliceAt ty xv none (some yv) none).run P w = .ok v w) : (execOp a.eval o).run P w = .ok (.value v) w := by
  subst hx
  subst hy
  unfold execOp
  simp only [ho, Option.map_none, Option.map_some, Sem.run_bind, hr, Result.andThen_ok, Sem.run_pure]
theorem slice_fs (ad : Option Addr) (n c j : Nat) (hj : j ≤ c) (W : World) : (Instr.sliceAt 35 (.slice ad n c) none (some (.int .i64 (j : Int))) none).run Try.prog W = .ok (.slice ad j c) W := by
  have ht : Try.prog.underlying 35 = some (.slice (Try.prog.elem 35)) := by kernel_rfl
  have hs : (sizeOf (Try.prog.elem 35)).run Try.prog W = .ok 2 W := by kernel_rfl
  rw [run_sliceAt_slice _ _ _ _ _ _ ht, run_slice_h _ _ _ _ _ ht .i64 (j : Int) (by omega) (by omega), hs, Result.andThen_ok]
  unfold sliced
  cases ad with
  | none => simp
  | some a => simp [Addr.add]
set_option maxHeartbeats 8000000 in
set_option maxRecDepth 100000 in
theorem HeadCuts_walk (w : World) (h : Hd) (ad : Option Addr) (c : Nat) (l : List Fd) (a2 : Int) (hok : h.ok) (hb : l.length ≤ maxLen ∧ l.length ≤ c ∧ c ≤ maxLen ∧ (∀ f ∈ l, wfF f) ∧ FS w ad l) (b2 : (Lit.int .u16 a2).wf = true) (hu1 : l.length ≤ 1048576) (hu2 : ∀ f ∈ l, f.d.size ≤ 1048576) :
    Calls Try.prog 7 #[.agg h.cells.toArray, .slice ad l.length c, .int .u16 a2] w fun e w' => e = .returned (.bool true) ∧ Below w.heap.size w w' := by
  obtain ⟨hl, hlc, hcm, _, hs⟩ := hb
  unfold maxLen at hl hcm
  have hw16 := wf_u16 b2
  obtain ⟨hA0, hA1⟩ := hw16
  clear b2
  have HB := kp (ba (Below.refl w.heap.size w) (.cells h.cells.toArray 26))
  have H3 := kp (Blk.new w 26 h.cells.toArray)
  have F0 := kp (hs.bel HB.out)
  clear hs
  have cG : Kp (∀ w', FS w' ad l → Calls Try.prog 18 #[.slice ad l.length c] w' fun e w'' => e = .returned (.bool (decide (2048 < wsumF l))) ∧ w' = w'') := kp (fun w' hf => L_large ad c l w' (by unfold maxLen; omega) (fun f hf => Nat.le_trans (hu2 f hf) (by unfold maxLen; omega)) hf)
  by_cases hlg : 2048 < wsumF l
  · rw [decide_eq_true hlg] at cG
    generalize h.cells = L at *
    go_enter Try.func7, Try.ntmps7
    go_wp2_with fail
    refine (head_awake _).mono ?_
    rintro e w1 ⟨rfl, hb⟩
    have HB := kp (bt' HB.out hb HB.out.size)
    have F0 := kp (F0.out.bel hb)
    clear hb
    go_wp2_with fail
    refine (cG.out _ F0.out).mono ?_
    rintro e w2 ⟨rfl, rfl⟩
    go_wp2
    go_ret
    exact ⟨rfl, HB.out⟩
  rw [decide_eq_false hlg] at cG
  have hbl := large_false l hu1 hu2 hlg
  clear hlg
  have HZL : Kp (zeroH.cells.length = 13) := kp rfl
  have HZO := kp zero_one
  have HBZ := kp build_zero
  obtain ⟨Z, hZ⟩ : ∃ Z, zeroH.cells = Z := ⟨_, rfl⟩
  have HZZ := kp hZ
  rw [hZ] at HZL HZO HBZ
  clear hZ
  have hzl := HZL.out
  have HL := h.length
  have HLO := kp (cells_one h)
  have hLl := HL
  have cW : Kp (∀ w', FS w' ad l → Calls Try.prog 21 #[.agg h.cells.toArray, .slice ad l.length c] w' fun e w'' => e = .returned (.tuple #[.string (str (writeL h l).1), .int .i64 (writeL h l).2]) ∧ Below w'.heap.size w' w'') := kp (fun w' hf => M_Write h hok ad c l w' (by omega) hf)
  by_cases hw0 : (writeL h l).2 = 0
  rotate_left
  · have gw : ((writeL h l).2 == 0) = false := by simp [hw0]
    generalize (writeL h l).2 = eW at *
    generalize str (writeL h l).1 = TW at *
    generalize h.cells = L at *
    go_enter Try.func7, Try.ntmps7
    go_wp2_with fail
    refine (head_awake _).mono ?_
    rintro e w_1 ⟨rfl, hb_c⟩
    have HB := kp (bt' HB.out hb_c HB.out.size)
    have H3 := kp (H3.out.bel hb_c)
    have F0 := kp (F0.out.bel hb_c)
    clear hb_c
    go_wp2_with fail
    refine (cG.out _ F0.out).mono ?_
    rintro e w_2 ⟨rfl, rfl⟩
    have LD := ld_all (P := Try.prog) w.heap.size 13 26 26 L _ Try.underlying26 rfl info_head HL H3.out
    go_wp2_with (refine wpL_load rfl 26 _ rfl rfl LD ?_)
    clear LD
    refine (cW.out _ F0.out).mono ?_
    rintro e w_3 ⟨rfl, hb_c⟩
    have HB := kp (bt' HB.out hb_c HB.out.size)
    have H3 := kp (H3.out.bel hb_c)
    have F0 := kp (F0.out.bel hb_c)
    clear hb_c
    go_wp2
    go_ret
    exact ⟨rfl, HB.out⟩
  obtain ⟨hm, hr, hl16, hwl⟩ := writeL_ok h l hw0
  rw [hwl] at cW
  simp only at cW
  clear hw0 hwl
  have zT : (str (h.bytes ++ bodyL l)).size = 48 + (bodyL l).length := by rw [str_size, List.length_append, h.bytes_len]
  obtain ⟨K, hK⟩ : ∃ K : Nat, a2 % ((48 + (bodyL l).length : Nat) + 1 : Int) = (K : Int) := ⟨(a2 % ((48 + (bodyL l).length : Nat) + 1 : Int)).toNat, by have := Int.emod_nonneg a2 (show ((48 + (bodyL l).length : Nat) + 1 : Int) ≠ 0 by omega); omega⟩
  have hKle : K ≤ 48 + (bodyL l).length := by
    have := Int.emod_lt_of_pos a2 (show (0 : Int) < ((48 + (bodyL l).length : Nat) + 1 : Int) by omega)
    omega
  have HEC := kp (ends_cases l K (l.length + 1))
  have HNO := kp (no_cut h l K hm hok hr hKle)
  have HYE : Kp (∀ i, 48 + (bodyL (l.take i)).length = K → readL ((str (h.bytes ++ bodyL l)).extract 0 K) = (h, l.take i, 0)) := kp (fun i hi => by
    rw [cut_at h l i K hi]
    exact read_write h (l.take i) hm hok (take_right l i hr) (by rw [List.length_take]; omega))
  have cV : Kp (∀ j : Nat, j ≤ l.length → ∀ w', FS w' ad l → Calls Try.prog 21 #[.agg h.cells.toArray, .slice ad j c] w' fun e w'' => e = .returned (.tuple #[.string (str (h.bytes ++ bodyL (l.take j))), .int .i64 0]) ∧ Below w'.heap.size w' w'') := kp (fun j hj w' hf => by
    have hc := M_Write h hok ad c (l.take j) w' (Nat.le_trans (body_le l j) (by omega)) (hf.take j)
    rw [writeL_of h (l.take j) hm (take_right l j hr) (by rw [List.length_take]; omega), List.length_take, Nat.min_eq_left hj] at hc
    exact hc)
  have HPZ : Kp (∀ j, (str (h.bytes ++ bodyL (l.take j))).size = 48 + (bodyL (l.take j)).length) := kp (fun j => by rw [str_size, List.length_append, h.bytes_len])
  have cR : Kp (∀ w', Calls Try.prog 19 #[.string ((str (h.bytes ++ bodyL l)).extract 0 K)] w' fun e w'' => ∃ ad c, e = .returned (.tuple #[.agg (readL ((str (h.bytes ++ bodyL l)).extract 0 K)).1.cells.toArray, .slice ad (readL ((str (h.bytes ++ bodyL l)).extract 0 K)).2.1.length c, .int .i64 (readL ((str (h.bytes ++ bodyL l)).extract 0 K)).2.2]) ∧ FS w'' ad (readL ((str (h.bytes ++ bodyL l)).extract 0 K)).2.1 ∧ Below w'.heap.size w' w'') := kp (fun w' => (M_Read _ (by rw [ByteArray.size_extract, zT]; omega) w').mono fun e w'' hr => hr.get)
  have EQ : Kp (∀ (o : Oper) (a : Act) (x y : Operand) (t' : TypeId) (w' : World), o.op = .binOp .eql 26 x y t' → a.eval x = .agg h.cells.toArray → a.eval y = .agg h.cells.toArray → (execOp a.eval o).run Try.prog w' = .ok (.value (.bool true)) w') := kp (fun o a x y t' w' ho hx hy => by rw [exec_eqh ho hx hy w', Hd.eqb_self] <;> rfl)
  have EQZ : Kp (∀ (o : Oper) (a : Act) (x y : Operand) (t' : TypeId) (w' : World), o.op = .binOp .eql 26 x y t' → a.eval x = .agg zeroH.cells.toArray → a.eval y = .agg zeroH.cells.toArray → (execOp a.eval o).run Try.prog w' = .ok (.value (.bool true)) w') := kp (fun o a x y t' w' ho hx hy => by rw [exec_eqh ho hx hy w', Hd.eqb_self] <;> rfl)
  rw [HZZ.out] at EQZ
  obtain ⟨n, hn⟩ : ∃ n, (bodyL l).length = n := ⟨_, rfl⟩
  rw [hn] at zT hK hKle hbl
  clear hn
  generalize str (h.bytes ++ bodyL l) = T at *
  rw [← zT] at hK
  generalize hTK : T.extract 0 K = TK at cR HNO HYE
  have hsl := fun W => slice_to (P := Try.prog) 9 Try.underlying9 T K (K : Int) rfl (by omega) W
  rw [hTK] at hsl
  clear hTK
  have HPD : Kp (∀ j, ∃ S, str (h.bytes ++ bodyL (l.take j)) = S) := kp (fun j => ⟨_, rfl⟩)
  obtain ⟨PJ, hPJ⟩ : ∃ PJ : Nat → ByteArray, (fun j => str (h.bytes ++ bodyL (l.take j))) = PJ := ⟨_, rfl⟩
  have hPJ2 : ∀ j, str (h.bytes ++ bodyL (l.take j)) = PJ j := fun j => congrFun hPJ j
  simp only [hPJ2] at cV HPZ
  clear hPJ hPJ2 HPD
  obtain ⟨L, HLC⟩ : ∃ L, Kp (h.cells = L) := ⟨_, kp rfl⟩
  rw [HLC.out] at cW cV HB H3 F0 HL HLO hLl EQ ⊢
  go_enter Try.func7, Try.ntmps7
  go_wp2_with fail
  refine (head_awake _).mono ?_
  rintro e w_1 ⟨rfl, hb_c⟩
  have HB := kp (bt' HB.out hb_c HB.out.size)
  have H3 := kp (H3.out.bel hb_c)
  have F0 := kp (F0.out.bel hb_c)
  clear hb_c
  go_wp2_with fail
  refine (cG.out _ F0.out).mono ?_
  rintro e w_2 ⟨rfl, rfl⟩
  have LD := ld_all (P := Try.prog) w.heap.size 13 26 26 L _ Try.underlying26 rfl info_head HL H3.out
  go_wp2_with (refine wpL_load rfl 26 _ rfl rfl LD ?_)
  clear LD
  refine (cW.out _ F0.out).mono ?_
  rintro e w_3 ⟨rfl, hb_c⟩
  have HB := kp (bt' HB.out hb_c HB.out.size)
  have H3 := kp (H3.out.bel hb_c)
  have F0 := kp (F0.out.bel hb_c)
  clear hb_c
  have hT5 : T.size ≤ 5000 := by omega
  have hKT : K ≤ T.size := by omega
  have hK5 : K ≤ 5000 := by omega
  have ZT := kp zT
  clear zT
  have HKK := kp hK
  go_wp2
  clear hK
  go_loopw [10, 11] (fun e i wr => ∃ j : Nat, j ≤ l.length + 1 ∧ i = .int .i64 (j : Int) ∧ e = .int .i64 (endsF l K j) ∧ Kp (FS wr ad l) ∧ Kp (Blk wr w.heap.size 26 L.toArray) ∧ Kp (Below w.heap.size w wr)) (fun _ i _ => l.length + 1 - (intOf i).toNat)
  case atStart => exact ⟨0, by omega, rfl, rfl, F0, H3, HB⟩
  case round =>
    clear F0 H3 HB
    obtain ⟨j, hj, rfl, rfl, F0, H3, HB⟩ := hrel
    by_cases hjl : j ≤ l.length
    · have g : decide ((j : Int) ≤ (l.length : Int)) = true := by simp; omega
      have CV := kp (cV.out j hjl)
      obtain ⟨S, hS⟩ : ∃ S, PJ j = S := ⟨_, rfl⟩
      have zS := HPZ.out j
      rw [hS] at CV zS
      clear hS
      have hbj := body_le l j
      have HEN := kp (show endsF l K (j + 1) = if 48 + (bodyL (l.take j)).length = K then (j : Int) else endsF l K j from rfl)
      go_upto_region 13 with (fail)
      refine wp_region_earlyE [7] [0, 1, 2, 3, 4, 5, 6, 7] [] [8, 9] 96 (fun _ _ _ => True) (fun _ _ => True) (by kernel_rfl) (by kernel_rfl) rfl (fun i v W W' h hb => h) ?_
      apply Exists.intro
      refine ⟨fun X hX => ?_, trivial, ?_⟩
      · have L3 := kp (fun x => ld_all (P := Try.prog) w.heap.size 13 26 26 L _ Try.underlying26 rfl info_head HL ((H3.out.bel hX).bel (ext_below X x)))
        have CVX := kp (fun x => CV.out (X.ext x) ((F0.out.bel hX).bel (ext_below X x)))
        simp only [List.append_eq, List.cons_append, List.nil_append, List.map_cons, List.map_nil, List.getD_cons_succ, List.getD_cons_zero]
        repeat (first
          | (go_big_quiet_want; refine quiet_load _ rfl 26 _ rfl rfl (fun w' hw => by obtain ⟨x, rfl⟩ := hw; exact L3.out x) ?_; go_simp; go_big_quiet_on)
          | (go_big_quiet_want; refine quiet_val 45 rfl (.slice ad j c) (fun w' _ => exec_sliceTo rfl rfl rfl (slice_fs ad l.length c j (by omega) w')) ?_; go_simp; go_big_quiet_on)
          | go_big_quiet_step ((go_at_call 21; with_reducible exact Calls.ext_of (CVX.out _))))
        exact wpQuiet_nil rfl
      simp only [List.append_eq, List.cons_append, List.nil_append, List.map_cons, List.map_nil, List.getD_cons_succ, List.getD_cons_zero, TailX]
      rintro V hX hT
      have HB := kp (bt' HB.out hX HB.out.size)
      have H3 := kp (H3.out.bel hX)
      have F0 := kp (F0.out.bel hX)
      clear hX hT
      by_cases hq : 48 + (bodyL (l.take j)).length = K
      · have gq : ((S.size : Int) == a2 % ((T.size : Int) + 1)) = true := by rw [HKK.out]; simp; omega
        have hen := HEN.out
        rw [if_pos hq] at hen
        have HE2 := kp hen
        clear hen
        have ZS := kp zS
        clear zS
        go_wp2
        go_roundw
        case measure => simp [intOf]; omega
        case rel => exact ⟨j + 1, by omega, rfl, by rw [HE2.out], F0, H3, HB⟩
      · have gq : ((S.size : Int) == a2 % ((T.size : Int) + 1)) = false := by rw [HKK.out]; simp; omega
        have hen := HEN.out
        rw [if_neg hq] at hen
        have HE2 := kp hen
        clear hen
        have ZS := kp zS
        clear zS
        go_wp2
        go_roundw
        case measure => simp [intOf]; omega
        case rel => exact ⟨j + 1, by omega, rfl, by rw [HE2.out], F0, H3, HB⟩
    · have g : decide ((j : Int) ≤ (l.length : Int)) = false := by simp; omega
      obtain rfl : j = l.length + 1 := by omega
      have hK := HKK.out
      have hec := HEC.out
      obtain ⟨E, hE⟩ : ∃ E, endsF l K (l.length + 1) = E := ⟨_, rfl⟩
      rw [hE] at hec ⊢
      clear hE cV HPZ cW
      rcases hec with ⟨i, hi, rfl, hi2⟩ | ⟨rfl, hno⟩
      · have hry := HYE.out i hi2
        rw [hry] at cR
        simp only [List.length_take] at cR
        rw [HLC.out] at cR
        rw [Nat.min_eq_left (show i ≤ l.length by omega)] at cR
        have cS : Kp (∀ ad2 c2 w', FS w' ad2 (l.take i) → FS w' ad l → Calls Try.prog 23 #[.slice ad2 i c2, .slice ad i c] w' fun e w'' => e = .returned (.bool true) ∧ Below w'.heap.size w' w'') := kp (fun ad2 c2 w' hf hg => by
          have h := R_Same ad2 c2 (l.take i) ad c (l.take i) w' (by rw [List.length_take]; unfold maxLen; omega) (by rw [List.length_take]; unfold maxLen; omega) hf (hg.take i)
          rw [sameF_self, List.length_take, Nat.min_eq_left (show i ≤ l.length by omega)] at h
          exact h)
        have gi : decide ((0 : Int) ≤ (i : Int)) = true := by simp
        clear hry hi2
        go_wp2_with fail
        refine (cR.out _).mono ?_
        rintro e w_20 ⟨ad15, c15, rfl, hf15, hb_c⟩
        have F15 := kp hf15
        clear hf15
        have HB := kp (bt' HB.out hb_c HB.out.size)
        have H3 := kp (H3.out.bel hb_c)
        have F0 := kp (F0.out.bel hb_c)
        clear hb_c
        obtain ⟨Y14, hb_y, hk_y, SCY⟩ := new_head (P := Try.prog) (T := 26) (W := w_20) hzl hLl HLO.out
        have HLT14 := kp hk_y.lt
        go_upto_region 17 with (first | (refine wpL_make 14 rfl rfl (.pointer (some ⟨w_20.heap.size, 0, none⟩)) (w' := w_20.alloc (.cells Z.toArray 26)) (by rw [← HZZ.out]; kernel_rfl) ?_))
        have HB := kp (bt' HB.out hb_y HB.out.size)
        have H3 := kp (H3.out.bel hb_y)
        have F0 := kp (F0.out.bel hb_y)
        have F15 := kp (F15.out.bel hb_y)
        have H14 := kp hk_y
        clear SCY hb_y hk_y
        go_upto_region 18 with (fail)
        have CSX := kp (fun x => cS.out ad15 c15 (Y14.ext x) (F15.out.bel (ext_below Y14 x)) (F0.out.bel (ext_below Y14 x)))
        have L3 := kp (fun x => ld_all (P := Try.prog) w.heap.size 13 26 26 L _ Try.underlying26 rfl info_head HL (H3.out.bel (ext_below Y14 x)))
        have L14 := kp (fun x => ld_all (P := Try.prog) w_20.heap.size 13 26 26 L _ Try.underlying26 rfl info_head HL (H14.out.bel (ext_below Y14 x)))
        refine wp_region_extP 14 ?_
        simp only [List.append_eq, List.cons_append, List.nil_append, List.take_succ_cons, List.take_zero, List.drop_succ_cons, List.drop_zero]
        repeat (first
          | (go_big_quiet_want; refine quiet_load _ rfl 26 _ rfl rfl (fun w' hw => by obtain ⟨x, rfl⟩ := hw; exact L3.out x) ?_; go_simp; go_big_quiet_on)
          | (go_big_quiet_want; refine quiet_load _ rfl 26 _ rfl rfl (fun w' hw => by obtain ⟨x, rfl⟩ := hw; exact L14.out x) ?_; go_simp; go_big_quiet_on)
          | (go_big_quiet_want; refine quiet_val _ rfl (.bool true) (fun w' _ => EQ.out _ _ _ _ _ w' rfl rfl rfl) ?_; go_simp; go_big_quiet_on)
          | (go_big_quiet_want; refine quiet_val 79 rfl (.slice ad i c) (fun w' _ => exec_sliceTo rfl rfl rfl (slice_fs ad l.length c i (by omega) w')) ?_; go_simp; go_big_quiet_on)
          | go_big_quiet_step ((go_at_call 23; with_reducible exact Calls.ext_of (CSX.out _))))
        refine wpQuiet_nil ?_
        rintro z
        have HB := kp (bt' HB.out (ext_below Y14 z) HB.out.size)
        go_wp2
        go_ret
        exact ⟨rfl, HB.out⟩
      · obtain ⟨er, e1, e2, e3⟩ := HNO.out hno
        rw [e1] at cR
        simp only [List.length_nil] at cR
        rw [HZZ.out] at cR
        have hZl := hzl
        have ge : (er == 0) = false := by simp [e2]
        have gn : (er != 0) = true := by simp [e2]
        have gk : (er == 5) = decide (K < 48) := by
          by_cases h : K < 48
          · rw [e3.2 h]; simp [h]
          · have : er ≠ 5 := fun hh => h (e3.1 hh)
            simp [this, h]
        have gk2 : ((er == 5) == decide ((K : Int) < 48)) = true := by
          rw [gk]
          simp
          omega
        clear e1 e2 e3 hno gk
        go_wp2_with fail
        refine (cR.out _).mono ?_
        rintro e w_20 ⟨ad15, c15, rfl, hf15, hb_c⟩
        clear hf15
        have HB := kp (bt' HB.out hb_c HB.out.size)
        have H3 := kp (H3.out.bel hb_c)
        have F0 := kp (F0.out.bel hb_c)
        clear hb_c
        obtain ⟨Y14, hb_y, hk_y, SCY⟩ := new_head (P := Try.prog) (T := 26) (W := w_20) hzl hZl HZO.out
        have HLT14 := kp hk_y.lt
        go_upto_region 17 with (first | (refine wpL_make 14 rfl rfl (.pointer (some ⟨w_20.heap.size, 0, none⟩)) (w' := w_20.alloc (.cells Z.toArray 26)) (by rw [← HZZ.out]; kernel_rfl) ?_))
        have HB := kp (bt' HB.out hb_y HB.out.size)
        have H3 := kp (H3.out.bel hb_y)
        have F0 := kp (F0.out.bel hb_y)
        have H14 := kp hk_y
        clear SCY hb_y hk_y
        go_upto_region 19 with (fail)
        go_wp2
        go_ret
        exact ⟨rfl, HB.out⟩
end Go.Proofs.Ytoifkfhbinfplaa
