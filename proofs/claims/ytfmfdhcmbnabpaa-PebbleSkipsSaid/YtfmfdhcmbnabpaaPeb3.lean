/- pebble: Next. -/
import Derived.Test.YtfmfdhcmbnabpaaPeb2
import Derived.Test.YtfmfdhcmbnabpaaRegP
namespace Go.Proofs.Ytfmfdhcmbnabpaa
open Go Go.RowKit
set_option linter.unusedVariables false
set_option linter.unusedSimpArgs false
attribute [local go_sem] bmax2 bmin2 bmax bmin cell_ext frozen_ext

set_option maxRecDepth 100000 in
theorem field_stone0 (K : List UInt8) (p : Int) (h : K.length = 32) (W : World) : (Instr.field 72 (.agg (.int .i64 p :: cellsU8 K).toArray) 0).run Try.prog W = .ok (.int .i64 p) W := by
  obtain ⟨f, rfl⟩ := list32 K h
  kernel_rfl
set_option maxRecDepth 100000 in
theorem field_stone1 (K : List UInt8) (p : Int) (h : K.length = 32) (W : World) : (Instr.field 72 (.agg (.int .i64 p :: cellsU8 K).toArray) 1).run Try.prog W = .ok (.agg (cellsU8 K).toArray) W := by
  obtain ⟨f, rfl⟩ := list32 K h
  kernel_rfl

/-- where the last stone of the walker in block b lies: a loop's measure -/
def topOf (w : World) (b : Nat) : Nat :=
  match w.cell? ⟨b, 2, none⟩ with
  | some (.slice (some ⟨g, 0, none⟩) n _) => match w.cell? ⟨g, (n - 1) * 33, none⟩ with | some (.int _ z) => z.toNat | _ => 0
  | _ => 0
theorem Wk.top {w : World} {b g cap : Nat} {cur : Array Value} {F : Nat → List UInt8} {n at_ : Nat} {ps : List Nat} {p : Nat} (hF : F32 F) (h : Wk w b g cap cur F n at_ (ps ++ [p])) : topOf w b = p := by
  unfold topOf
  rw [h.cells.2.2.1]
  have := h.last hF 0 (.int .i64 (p : Int)) rfl
  rw [Nat.add_zero] at this
  simp only [List.length_append, List.length_singleton, Nat.add_sub_cancel, this]
  omega

set_option maxHeartbeats 1000000 in
set_option maxRecDepth 100000 in
theorem PNext_none {w : World} {b g cap : Nat} {cur : Array Value} {F : Nat → List UInt8} {n at_ : Nat} {ps : List Nat} (h : Wk w b g cap cur F n at_ ps) (ha : n < at_) :
    Calls Try.prog 34 #[.pointer (some ⟨b, 0, none⟩)] w fun e w' => e = .returned (.tuple #[.agg (cellsU8 zeroK).toArray, .int .i64 10]) ∧ Below w.heap.size w w' := by
  obtain ⟨c0, c1, c2, hlb⟩ := h.cells
  have hbl := kp hlb
  have H0 := kp h
  have HN := kp (Blk.new w 23 (cellsU8 (List.replicate 32 0)).toArray)
  have HB := kp (ba (Below.refl w.heap.size w) (.cells (cellsU8 (List.replicate 32 0)).toArray 23))
  clear h c0 c1 c2 hlb
  have ia : (n : Int) < (at_ : Int) := by omega
  have ig : decide ((n : Int) < (at_ : Int)) = true := decide_eq_true ia
  obtain ⟨Z, hZ⟩ : ∃ Z : List UInt8, List.replicate 32 0 = Z := ⟨_, rfl⟩
  have HZL : Kp (Z.length = 32) := kp (by rw [← hZ]; rfl)
  have HZZ := kp (show cellsU8 zeroK = cellsU8 Z by rw [← hZ]; rfl)
  rw [HZZ.out]
  go_enter Try.func34, Try.ntmps34
  go_upto_region 1 with (fail)
  change Code.wp _ _ _ _ (w.alloc (.cells (cellsU8 (List.replicate 32 0)).toArray 23))
  rw [hZ] at HN HB ⊢
  clear hZ
  have HK := kp (H0.out.bel HB.out)
  have HL := kp hbl
  generalize w.alloc (.cells (cellsU8 Z).toArray 23) = W at HN HB HK ⊢
  obtain ⟨c0, c1, c2, hlb⟩ := HK.out.cells
  refine wp_region_ext [0, 1, 2, 3, 4, 5, 6, 7] [8] (by kernel_rfl) (by kernel_rfl) ?_
  simp only [List.map_cons, List.map_nil, List.getD_cons_succ, List.getD_cons_zero]
  repeat (go_big_quiet_step (fail))
  refine wpQuiet_nil ?_
  rintro z
  have HN := kp (HN.out.bel (ext_below W z))
  have HB := kp (bt HB.out (ext_below W z))
  clear c0 c1 c2 hlb HK
  generalize W.ext z = V at HN HB ⊢
  have hzl : (cellsU8 Z).length = 32 := by rw [length_cellsU8]; exact HZL.out
  have SC := sc_all (P := Try.prog) (w := V) w.heap.size 23 (cellsU8 Z) _ HN.out rfl (cellsU8_one _)
  have HRES := kp (HN.out.row (cellsU8 Z).toArray)
  have HBE := kp (bsr HB.out (b := w.heap.size) (Nat.le_refl _) HB.out.size (cellsU8 Z).toArray)
  go_wp2_with (refine wpL_val 16 rfl rfl (.agg (cellsU8 Z).toArray) (by rw [← HZZ.out]; kernel_rfl) ?_)
  refine bodyPost_ret (v := .tuple #[.agg (cellsU8 Z).toArray, .int .i64 10]) ?_ rfl ⟨rfl, HBE.out⟩
  exact res2 Try.results34 w.heap.size 32 _ (cellsU8 Z) _ Try.underlying23 rfl info_key hzl HRES.out _ rfl _ rfl
/-- Next's end -/
def PNextEnd (w : World) (b g : Nat) (F : Nat → List UInt8) (n at_ : Nat) (e : Ending) (w' : World) : Prop := ∃ g' cap' cur' ps', e = .returned (.tuple #[.agg (cellsU8 (F (n - at_))).toArray, .int .i64 0]) ∧ Wk w' b g' cap' cur' F n (at_ + 1) ps' ∧ Inv n (at_ + 1) ps' ∧ Fr w w' b g ∧ (g' = g ∨ w.heap.size ≤ g')
set_option maxHeartbeats 4000000 in
set_option maxRecDepth 100000 in
theorem PNext_some {w : World} {b g cap : Nat} {cur : Array Value} {S : List UInt8} {n at_ : Nat} {ps : List Nat} (h : Wk w b g cap cur (chK S) n at_ ps) (hi : Inv n at_ ps) (h1 : 1 ≤ n) (h2 : n ≤ 1024) (ha : at_ ≤ n) :
    Calls Try.prog 34 #[.pointer (some ⟨b, 0, none⟩)] w (PNextEnd w b g (chK S) n at_) := by
  have HW : Kp (∀ (K : List UInt8), K.length = 32 → ∀ (d : Nat), d ≤ 1024 → ∀ w', Calls Try.prog 39 #[.agg (cellsU8 K).toArray, .int .i64 (d : Int)] w' fun e w'' => e = .returned (.agg (cellsU8 (walkD K d)).toArray) ∧ Below w'.heap.size w' w'') := kp (fun K hK d hd w' => Walk_st K hK (d : Int) d (by omega) w')
  have HWK : Kp (∀ d e, walkD (chK S d) e = chK S (d + e)) := kp (fun d e => chK_walk S d e)
  have HF : Kp (F32 (chK S)) := kp (chK_length S)
  generalize chK S = F at *
  have H0 := kp h
  have HI := kp hi
  have HN := kp (Blk.new w 23 (cellsU8 (List.replicate 32 0)).toArray)
  have H1 := kp (h.bel (ba (Below.refl _ _) (.cells (cellsU8 (List.replicate 32 0)).toArray 23)))
  have HFr := kp (Fr.of_bel (b := b) (g := g) (ba (Below.refl w.heap.size w) (.cells (cellsU8 (List.replicate 32 0)).toArray 23)))
  have hbl := h.blk.lt
  have hgl := h.row.lt
  have HBL := kp hbl
  have HGL := kp hgl
  clear h hi
  obtain ⟨Z, hZ⟩ : ∃ Z : List UInt8, List.replicate 32 0 = Z := ⟨_, rfl⟩
  have HZL : Kp (Z.length = 32) := kp (by rw [← hZ]; rfl)
  have ia : ¬ (n : Int) < (at_ : Int) := by omega
  go_enter Try.func34, Try.ntmps34
  go_upto_region 1 with (fail)
  change Code.wp _ _ _ _ (w.alloc (.cells (cellsU8 (List.replicate 32 0)).toArray 23))
  rw [hZ] at HN H1 HFr ⊢
  clear hZ hbl hgl
  generalize w.alloc (.cells (cellsU8 Z).toArray 23) = W at HN H1 HFr ⊢
  obtain ⟨c0, c1, c2, hlb⟩ := H1.out.cells
  refine wp_region_ext [0, 1, 2, 3, 4, 5, 6, 7] [8] (by kernel_rfl) (by kernel_rfl) ?_
  simp only [List.map_cons, List.map_nil, List.getD_cons_succ, List.getD_cons_zero]
  repeat (go_big_quiet_step (fail))
  refine wpQuiet_nil ?_
  rintro z
  have HN := kp (HN.out.bel (ext_below W z))
  have H1 := kp (H1.out.bel (ext_below W z))
  have HFr := kp (HFr.out.trans (Fr.of_bel (b := b) (g := g) (ext_below W z)) (Or.inl rfl))
  clear c0 c1 c2 hlb
  generalize W.ext z = V at HN H1 HFr ⊢
  have HW2 : Kp (∃ g1 cap1 cur1 ps1, Wk V b g1 cap1 cur1 F n at_ ps1 ∧ Inv n at_ ps1 ∧ (g1 = g ∨ w.heap.size < g1)) := kp ⟨g, cap, cur, ps, H1.out, HI.out, Or.inl rfl⟩
  go_wp2
  go_loopw [] (fun wr => Kp (Blk wr w.heap.size 23 (cellsU8 Z).toArray) ∧ Kp (Fr w wr b g) ∧ Kp (∃ g1 cap1 cur1 ps1, Wk wr b g1 cap1 cur1 F n at_ ps1 ∧ Inv n at_ ps1 ∧ (g1 = g ∨ w.heap.size < g1))) (fun wr => topOf wr b)
  case atStart => exact ⟨HN, HFr, HW2⟩
  case round =>
    clear HN HFr HW2 H1
    obtain ⟨HN, HFr, HW2⟩ := hrel
    obtain ⟨g1, cap1, cur1, ps1, hk, hi1, hg1⟩ := HW2.out
    obtain ⟨qs, p, rfl⟩ := snoc_of (hi1.ne ha)
    have hpn := hi1.last ha
    obtain ⟨hp1, hp2⟩ := hpn
    have hlen := hi1.len h1 h2
    rw [List.length_append, List.length_singleton] at hlen
    have hq12 : qs.length ≤ 90 := by omega
    have hKl := HF.out (n - p)
    have HK := kp hk
    have HI1 := kp hi1
    have HG1 := kp hg1
    have cL : Kp (∀ W', Wk W' b g1 cap1 cur1 F n at_ (qs ++ [p]) → Calls Try.prog 46 #[.pointer (some ⟨b, 0, none⟩)] W' fun e w'' => e = .returned (.agg (stoneL F n p).toArray) ∧ Below W'.heap.size W' w'') := kp (fun W' h => Plast_any HF.out h (by omega))
    have HWALK : Kp (∀ m, m ≤ p → walkD (F (n - p)) (p - m) = F (n - m)) := kp (fun m hm => by rw [HWK.out, show n - p + (p - m) = n - m by omega])
    have HST : Kp (stoneL F n p = .int .i64 (p : Int) :: cellsU8 (F (n - p))) := kp rfl
    have hstl := stoneL_length HF.out n p
    have h1s := kp (stoneL_one F n p)
    have HSF := kp (show stoneL F n p = stoneL F n p from rfl)
    obtain ⟨K, hKK⟩ : ∃ K, F (n - p) = K := ⟨_, rfl⟩
    rw [hKK] at HWALK HST hKl
    obtain ⟨SL, hSL⟩ : ∃ SL, stoneL F n p = SL := ⟨_, rfl⟩
    rw [hSL] at cL HST hstl h1s
    clear HSF hSL
    have HKK := kp hKK
    have HKL := kp hKl
    clear hk hi1 hg1 hlen HW2 hKK hKl
    obtain ⟨c0, c1, c2, hlb⟩ := HK.out.cells
    have cLx := kp (fun x => cL.out (wr.ext x) (HK.out.bel (ext_below wr x)))
    have i5 : (p : Int) ≤ 1024 := by omega
    by_cases hlt : at_ < p
    · have i6 : (at_ : Int) < (p : Int) := by omega
      have g6 : decide ((at_ : Int) < (p : Int)) = true := decide_eq_true i6
      go_wp2
      refine wp_region_ext [0, 1, 2, 3, 4, 5, 6] [7] (by kernel_rfl) (by kernel_rfl) ?_
      simp only [List.map_cons, List.map_nil, List.getD_cons_succ, List.getD_cons_zero]
      repeat (first
        | (go_big_quiet_want; refine quiet_val 19 rfl (.int .i64 (p : Int)) (fun w _ => exec_field rfl rfl (by rw [HST.out]; exact field_stone0 K (p : Int) HKL.out w)) ?_; go_simp; go_big_quiet_on)
        | go_big_quiet_step ((go_at_call 46; with_reducible exact Calls.ext_of (cLx.out _))))
      refine wpQuiet_nil ?_
      rintro z
      have HN := kp (HN.out.bel (ext_below wr z))
      have HTOP : Kp (topOf wr b = p) := kp (HK.out.top HF.out)
      have HK := kp (HK.out.bel (ext_below wr z))
      have HFr := kp (HFr.out.trans (Fr.of_bel (b := b) (g := g) (ext_below wr z)) (Or.inl rfl))
      clear c0 c1 c2 hlb cLx
      generalize wr.ext z = V1 at HN HK HFr ⊢
      go_wp2_with fail
      refine (cL.out _ HK.out).mono ?_
      rintro e w3 ⟨rfl, hb3⟩
      have SC := fun (cur : Array Value) (h : cur.size = 33) => sc_new (P := Try.prog) w3 72 SL h1s.out cur (by rw [hstl]; exact h)
      have HN := kp ((HN.out.bel hb3).alloc (.cells SL.toArray 72))
      have hbx := ba hb3 (.cells SL.toArray 72)
      have hne4b : b ≠ w3.heap.size := by have := HK.out.blk.lt; have := hb3.size; omega
      have hne4g : g1 ≠ w3.heap.size := by have := HK.out.row.lt; have := hb3.size; omega
      have HK := kp (HK.out.bel hbx)
      have HFr := kp (HFr.out.trans (Fr.of_bel (b := b) (g := g) hbx) (Or.inl rfl))
      have H4 := kp (Blk.new w3 72 SL.toArray)
      clear hb3 hbx
      go_wp2_with fail
      clear SC
      generalize w3.alloc (.cells SL.toArray 72) = V2 at HN HK HFr H4 ⊢
      generalize w3.heap.size = b4 at H4 hne4b hne4g ⊢
      obtain ⟨c0, c1, c2, hlb⟩ := HK.out.cells
      have c4 := H4.out.atL (show SL[0]? = some (.int .i64 (p : Int)) by rw [HST.out]; rfl)
      have hl4 := H4.out.lt
      obtain ⟨d, hd⟩ : ∃ d : Nat, p - at_ = d := ⟨_, rfl⟩
      obtain ⟨hf, hhf⟩ : ∃ hf : Nat, d / 2 = hf := ⟨_, rfl⟩
      obtain ⟨m, hm⟩ : ∃ m : Nat, at_ + hf = m := ⟨_, rfl⟩
      have e1 : IntKind.i64.wrap ((p : Int) - (at_ : Int)) = (d : Int) := by rw [IntWalk.i64_in _ (by omega)]; omega
      have e2 : (d : Int).tdiv 2 = (hf : Int) := by rw [Int.tdiv_eq_ediv_of_nonneg (by omega)]; omega
      have e2' : (d : Int) / 2 = (hf : Int) := by omega
      have e3 : IntKind.i64.wrap ((at_ : Int) + (hf : Int)) = (m : Int) := by rw [IntWalk.i64_in _ (by omega)]; omega
      have hmp : m < p := by omega
      have ham : at_ ≤ m := by omega
      have h2m : 2 * m ≤ p + at_ := by omega
      have e5 : IntKind.i64.wrap (hf : Int) = (hf : Int) := IntWalk.i64_in _ (by omega)
      clear hd hm hhf
      refine wp_region_ext [0, 1, 2, 3, 4, 5, 6, 7, 8, 9, 10, 11, 12] [13] (by kernel_rfl) (by kernel_rfl) ?_
      simp only [List.map_cons, List.map_nil, List.getD_cons_succ, List.getD_cons_zero]
      repeat (go_big_quiet_step (fail))
      refine wpQuiet_nil ?_
      rintro y
      have HN := kp (HN.out.bel (ext_below V2 y))
      have HK := kp (HK.out.bel (ext_below V2 y))
      have H4 := kp (H4.out.bel (ext_below V2 y))
      have HFr := kp (HFr.out.trans (Fr.of_bel (b := b) (g := g) (ext_below V2 y)) (Or.inl rfl))
      clear c0 c1 c2 hlb c4 hl4 e1 e2 e2' e3 e5
      generalize V2.ext y = V3 at HN HK HFr H4 ⊢
      go_wp2_with fail
      obtain ⟨c0, c1, c2, hlb⟩ := HK.out.cells
      obtain ⟨e, he⟩ : ∃ e : Nat, p - m = e := ⟨_, rfl⟩
      have e4 : IntKind.i64.wrap ((p : Int) - (m : Int)) = (e : Int) := by rw [IntWalk.i64_in _ (by omega)]; omega
      have cW := kp (HW.out K HKL.out e (by omega))
      have hwm := HWALK.out m (by omega)
      rw [he] at hwm
      rw [hwm] at cW
      have HML := kp (show stoneL F n m = .int .i64 (m : Int) :: cellsU8 (F (n - m)) from rfl)
      have HM32 := kp (HF.out (n - m))
      have hmll := stoneL_length HF.out n m
      obtain ⟨ML, hML⟩ : ∃ ML, stoneL F n m = ML := ⟨_, rfl⟩
      rw [hML] at HML hmll
      have HMLS := kp hML
      generalize F (n - m) = M at cW HML HM32
      clear he hwm hML c0 c1 c2 hlb
      refine wp_region_mkP [0] [1, 2, 3, 4, 5, 6, 7, 8, 9, 10, 11, 12, 13] [14] [15, 16, 17, 18] 71 (fun _ => VS V3.heap.size 72 ML.toArray) (· ≠ ·) (by kernel_rfl) (by kernel_rfl) (fun i v W W' h hb => h.mono hb) ?_
      simp only [List.map_cons, List.map_nil, List.getD_cons_succ, List.getD_cons_zero]
      repeat (go_big_quiet_step (fail))
      refine wpQuiet_nil ⟨rfl, ?_⟩
      apply Exists.intro
      refine ⟨fun X hX => ?_, ?_, ?_⟩
      · have H4x := H4.out.bel hX
        obtain ⟨c0, c1, c2, hlb⟩ := (HK.out.bel hX).cells
        have c4 := H4x.atL (show SL[0]? = some (.int .i64 (p : Int)) by rw [HST.out]; rfl)
        have hl4 := H4x.lt
        have LQ := kp (fun x => ld_row (P := Try.prog) (w := X.ext x) b4 1 32 23 (cellsU8 K) _ Try.underlying23 rfl info_key (key_cells K HKL.out) (fun j v hv => (H4x.bel (ext_below X x)).atL (by rw [HST.out, Nat.add_comm, List.getElem?_cons_succ]; exact hv)))
        try simp only [List.map_cons, List.map_nil, List.getD_cons_succ, List.getD_cons_zero]
        repeat (first
          | (go_big_quiet_want; refine quiet_load _ rfl 23 _ rfl rfl (fun w hw => by obtain ⟨x, rfl⟩ := hw; exact LQ.out x) ?_; go_simp; go_big_quiet_on)
          | (go_big_quiet_want; refine quiet_val 53 rfl (.agg ML.toArray) (fun w _ => exec_build (parts := #[(0, .int .i64 (m : Int)), (1, .agg (cellsU8 M).toArray)]) rfl (by simp [Act.eval, Act.put]) (by rw [HML.out]; exact build_stone M (m : Int) HM32.out w)) ?_; go_simp; go_big_quiet_on)
          | go_big_quiet_step ((go_at_call 39; with_reducible exact Calls.ext_of (cW.out _))))
        exact wpQuiet_nil rfl
      · exact ⟨mk_slice rfl (fun W => exec_buildSlice (parts := #[(0, .agg ML.toArray)]) rfl (by simp [Act.eval, Act.put]) (by rw [HML.out]; exact slice_stone M (m : Int) HM32.out W)) (fun j u W h => h.ne), trivial⟩
      · intro ev _
        simp only [List.map_cons, List.map_nil, List.getD_cons_succ, List.getD_cons_zero, TailX]
        rintro X hX ⟨_, bn, rfl, hbn, hkn⟩
        have HN := kp (HN.out.bel hX)
        have HKX := HK.out.bel hX
        have HFr := kp (HFr.out.trans (Fr.of_bel (b := b) (g := g) hX) (Or.inl rfl))
        rw [← HMLS.out] at hkn
        obtain ⟨g', cap', cur', Y, hr, hY, hle', hcm', hfit', htk', hgr, hg', hbg⟩ := run_append_stone HF.out HKX (by rw [List.length_append, List.length_singleton]; omega) hkn 73
        rw [List.length_append, List.length_singleton] at hr hle' htk'
        have hbY := HKX.blk.grown hgr (by intro e; injection e with e; exact HKX.ne e)
        have hs2 := hbY.set_ 2 (.slice (some ⟨g', 0, none⟩) (qs.length + 1 + 1) cap')
        have HKN : Kp (Wk (Y.setCell ⟨b, 2, none⟩ (.slice (some ⟨g', 0, none⟩) (qs.length + 1 + 1) cap')) b g' cap' cur' F n at_ (qs ++ [p] ++ [m])) := kp (by
          refine ⟨?_, hY.far (fun e => hbg e.symm) _, hbg, ?_, hcm', hfit', ?_⟩
          · simp only [List.length_append, List.length_singleton]
            exact hs2
          · simp only [List.length_append, List.length_singleton]; exact hle'
          · simp only [List.length_append, List.length_singleton]; exact htk')
        have hgx : g1 < X.heap.size := HKX.row.lt
        have HFN : Kp (Fr w (Y.setCell ⟨b, 2, none⟩ (.slice (some ⟨g', 0, none⟩) (qs.length + 1 + 1) cap')) b g) := kp ((HFr.out.trans (Fr.of_g (b := b) hgr) (HG1.out.imp id Nat.le_of_lt)).trans (Fr.of_b (g := g) (gbset Y b 2 _)) (Or.inl rfl))
        have HNN := kp (((HN.out.grown hgr (by intro e; injection e with e; have := HG1.out; have := HGL.out; omega)).far (p := ⟨b, 2, none⟩) (by have := HBL.out; simp; omega) (.slice (some ⟨g', 0, none⟩) (qs.length + 1 + 1) cap')))
        have hcY := hbY.at (show #[Value.int .i64 (n : Int), .int .i64 (at_ : Int), .slice (some ⟨g1, 0, none⟩) (qs ++ [p]).length cap1][2]? = some (.slice (some ⟨g1, 0, none⟩) (qs ++ [p]).length cap1) from rfl)
        have hfY := hbY.frozen 2
        have hgg : Kp (g' = g ∨ w.heap.size < g') := kp (by
          have h3 := HG1.out
          have h4 := HN.out.lt
          rcases hg' with h | h
          · rcases h3 with h3 | h3
            · left; omega
            · right; omega
          · right; omega)
        clear hX hbn hkn hbY hs2 hg' hgr hY hle' htk' hfit' hcm' hbg hgx HKX HN HFr
        refine wpL_append 55 rfl rfl _ _ 73 rfl rfl rfl hr ?_
        clear hr
        go_wp2
        go_roundw
        case measure =>
          rw [HTOP.out, HKN.out.top HF.out]
          exact hmp
        case rel => exact ⟨HNN, HFN, kp ⟨g', cap', cur', _, HKN.out, Inv.push HI1.out ha ham hmp h2m, hgg.out⟩⟩
    · have hpa : at_ = p := by omega
      subst hpa
      have g6 : decide ((at_ : Int) < (at_ : Int)) = false := by simp
      clear hlt
      go_wp2
      refine wp_region_ext [0, 1, 2, 3, 4, 5, 6] [7] (by kernel_rfl) (by kernel_rfl) ?_
      simp only [List.map_cons, List.map_nil, List.getD_cons_succ, List.getD_cons_zero]
      repeat (first
        | (go_big_quiet_want; refine quiet_val 19 rfl (.int .i64 (at_ : Int)) (fun w _ => exec_field rfl rfl (by rw [HST.out]; exact field_stone0 K (at_ : Int) HKL.out w)) ?_; go_simp; go_big_quiet_on)
        | go_big_quiet_step ((go_at_call 46; with_reducible exact Calls.ext_of (cLx.out _))))
      refine wpQuiet_nil ?_
      rintro z
      have HN := kp (HN.out.bel (ext_below wr z))
      have HK := kp (HK.out.bel (ext_below wr z))
      have HFr := kp (HFr.out.trans (Fr.of_bel (b := b) (g := g) (ext_below wr z)) (Or.inl rfl))
      clear c0 c1 c2 hlb cLx
      generalize wr.ext z = V1 at HN HK HFr ⊢
      go_wp2_with fail
      refine (cL.out _ HK.out).mono ?_
      rintro e w3 ⟨rfl, hb3⟩
      have hl32 : (cellsU8 K).length = 32 := by rw [length_cellsU8]; exact HKL.out
      have hk1 : ∀ v ∈ cellsU8 K, v.oneCell' = true := cellsU8_one K
      have SC := fun (cur : Array Value) (h : cur.size = 32) => sc_new (P := Try.prog) w3 23 (cellsU8 K) hk1 cur (by rw [hl32]; exact h)
      have hne6b : b ≠ w3.heap.size := by have := HK.out.blk.lt; have := hb3.size; omega
      have hne6w : w.heap.size < w3.heap.size := Nat.lt_of_lt_of_le HN.out.lt hb3.size
      have hbx := ba hb3 (.cells (cellsU8 K).toArray 23)
      have HN := kp (HN.out.bel hbx)
      have HK := kp (HK.out.bel hbx)
      have HFr := kp (HFr.out.trans (Fr.of_bel (b := b) (g := g) hbx) (Or.inl rfl))
      have H6 := kp (Blk.new w3 23 (cellsU8 K).toArray)
      clear hb3 hbx
      go_wp2_with (refine wpL_val 60 rfl rfl (.agg (cellsU8 K).toArray) (exec_field rfl rfl (by rw [HST.out]; exact field_stone1 K (at_ : Int) HKL.out _)) ?_)
      clear SC
      generalize w3.alloc (.cells (cellsU8 K).toArray 23) = V4 at HN HK HFr H6 ⊢
      generalize w3.heap.size = b6 at H6 hne6b hne6w ⊢
      refine (Pdrop_any HF.out HK.out (by omega)).mono ?_
      rintro e w5 ⟨⟨u, rfl⟩, hk5, hg5⟩
      have hneN : b ≠ w.heap.size := by have := HBL.out; omega
      have HN := kp (HN.out.grown hg5 (by intro e; injection e with e; exact hneN e.symm))
      have H6 := kp (H6.out.grown hg5 (by intro e; injection e with e; exact hne6b e.symm))
      have HFr := kp (HFr.out.trans (Fr.of_b (b := b) (g := g) hg5) (Or.inl rfl))
      have hs1 := hk5.blk.set_ 1 (.int .i64 ((at_ : Int) + 1))
      have HN := kp (HN.out.far (p := ⟨b, 1, none⟩) (fun e => hneN e.symm) (.int .i64 ((at_ : Int) + 1)))
      have H6 := kp (H6.out.far (p := ⟨b, 1, none⟩) (fun e => hne6b e.symm) (.int .i64 ((at_ : Int) + 1)))
      have HFr := kp (HFr.out.trans (Fr.of_b (g := g) (gbset w5 b 1 (.int .i64 ((at_ : Int) + 1)))) (Or.inl rfl))
      have HK6 : Kp (Wk (w5.setCell ⟨b, 1, none⟩ (.int .i64 ((at_ : Int) + 1))) b g1 qs.length cur1 F n (at_ + 1) qs) := kp (by
        refine ⟨?_, hk5.row.far (fun e => hk5.ne e.symm) _, hk5.ne, hk5.le, hk5.cap_le, hk5.fit, hk5.take⟩
        rw [Int.natCast_succ]
        exact hs1)
      obtain ⟨c0, c1, c2, hlb⟩ := hk5.cells
      have f1 := hk5.blk.frozen 1
      have e1 : IntKind.i64.wrap ((at_ : Int) + 1) = (at_ : Int) + 1 := IntWalk.i64_in _ (by omega)
      have L6 := ld_all (P := Try.prog) b6 32 23 23 (cellsU8 K) _ Try.underlying23 rfl info_key hl32 H6.out
      have hzl : (cellsU8 Z).length = 32 := by rw [length_cellsU8]; exact HZL.out
      have SC := sc_all (P := Try.prog) (w := w5.setCell ⟨b, 1, none⟩ (.int .i64 ((at_ : Int) + 1))) w.heap.size 23 (cellsU8 K) _ HN.out (by rw [hl32, hzl]) hk1
      clear hk5 hg5 hs1 HK
      have HRES := kp (HN.out.row (cellsU8 K).toArray)
      have hg1N : g1 ≠ w.heap.size := by have := HG1.out; have := HGL.out; omega
      have HKR := kp (HK6.out.fr (b2 := w.heap.size) (g2 := w.heap.size) (Fr.of_g (b := w.heap.size) (gbrow _ w.heap.size (cellsU8 K).toArray)) hneN hneN hg1N hg1N)
      have HFR := kp (HFr.out.trans (Fr.of_g (b := b) (gbrow _ w.heap.size (cellsU8 K).toArray)) (Or.inr (Nat.le_refl _)))
      go_wp2_with (refine wpL_load rfl 23 _ rfl rfl L6 ?_)
      have HEND : Kp (PNextEnd w b g F n at_ (.returned (.tuple #[.agg (cellsU8 K).toArray, .int .i64 0])) ((w5.setCell ⟨b, 1, none⟩ (.int .i64 ((at_ : Int) + 1))).setRow w.heap.size (cellsU8 K).toArray)) := kp ⟨g1, qs.length, cur1, qs, by rw [HKK.out], HKR.out, Inv.pop HI1.out ha, HFR.out, by have := HG1.out; omega⟩
      refine bodyPost_ret (v := .tuple #[.agg (cellsU8 K).toArray, .int .i64 0]) ?_ rfl HEND.out
      exact res2 Try.results34 w.heap.size 32 _ (cellsU8 K) _ Try.underlying23 rfl info_key hl32 HRES.out _ rfl _ rfl
end Go.Proofs.Ytfmfdhcmbnabpaa
