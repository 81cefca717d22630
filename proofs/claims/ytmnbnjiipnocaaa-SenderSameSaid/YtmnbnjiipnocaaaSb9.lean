/- Texts laid together: RSnd2, RSnd3, Snd8, Chn4, SndA0, RegF, SndA, Arg, ArgK, ArgS, RegS2. -/
import Derived.Deep.Slices
import Derived.Test.YtmnbnjiipnocaaaSb8
/- the reference's sender: Send. -/
namespace Go.Proofs.Ytmnbnjiipnocaaa
open Go Go.RowKit
set_option linter.unusedVariables false
set_option linter.unusedSimpArgs false
attribute [local go_sem] bmax2 bmin2 bmax bmin cell_ext frozen_ext

/-- the reference's sender's cells -/
def rsL (S : List UInt8) (s l d c last : Int) : List Value := cellsU8 S ++ (planL s l d c ++ [.int .i64 last])
theorem rsL_length {S : List UInt8} {s l d c last : Int} (hS : S.length = 32) : (rsL S s l d c last).length = 37 := by simp [rsL, planL, length_cellsU8, hS]
theorem rsL_seed {S : List UInt8} {s l d c last : Int} (j : Nat) (v : Value) (hv : (cellsU8 S)[j]? = some v) : (rsL S s l d c last)[j]? = some v := by
  unfold rsL
  rw [List.getElem?_append_left (List.getElem?_eq_some_iff.1 hv).1]; exact hv
theorem rsL_plan {S : List UInt8} {s l d c last : Int} (hS : S.length = 32) (j : Nat) (v : Value) (hv : (planL s l d c)[j]? = some v) : (rsL S s l d c last)[32 + j]? = some v := by
  unfold rsL
  rw [List.getElem?_append_right (by rw [length_cellsU8]; omega), length_cellsU8, hS, Nat.add_sub_cancel_left, List.getElem?_append_left (List.getElem?_eq_some_iff.1 hv).1]; exact hv
theorem rsL_at {S : List UInt8} {s l d c last : Int} (hS : S.length = 32) : (rsL S s l d c last)[36]? = some (.int .i64 last) := by
  unfold rsL
  rw [List.getElem?_append_right (by rw [length_cellsU8]; omega), length_cellsU8, hS, List.getElem?_append_right (by rw [planL_length]; omega), planL_length]; rfl
theorem rsL_set {S : List UInt8} {s l d c last : Int} (hS : S.length = 32) (v : Int) : (rsL S s l d c last).set 36 (.int .i64 v) = rsL S s l d c v := by
  unfold rsL
  rw [List.set_append_right _ _ (by rw [length_cellsU8]; omega), length_cellsU8, hS, List.set_append_right _ _ (by rw [planL_length]; omega), planL_length]; rfl
/-- the reference's sender, in block r -/
def RS (w : World) (r : Nat) (S : List UInt8) (s l d c last : Int) : Prop := Blk w r 36 (rsL S s l d c last).toArray
section
variable {w : World} {r : Nat} {S : List UInt8} {s l d c last : Int}
theorem RS.ldSeed (h : RS w r S s l d c last) (hS : S.length = 32) : (Instr.loadAt 23 (.pointer (some ⟨r, 0, none⟩))).run Try.prog w = .ok (.agg (cellsU8 S).toArray) w :=
  ld_row (P := Try.prog) r 0 32 23 (cellsU8 S) _ Try.underlying23 rfl info_key (key_cells S hS) (fun j v hv => Blk.atL h (by rw [Nat.zero_add]; exact rsL_seed j v hv))
theorem RS.ldPlan (h : RS w r S s l d c last) (hS : S.length = 32) : (Instr.loadAt 34 (.pointer (some ⟨r, 32, none⟩))).run Try.prog w = .ok (.agg (planL s l d c).toArray) w :=
  ld_row (P := Try.prog) r 32 4 34 (planL s l d c) _ Try.underlying34 rfl info_rplan rfl (fun j v hv => Blk.atL h (rsL_plan hS j v hv))
end
set_option maxHeartbeats 4000000 in
set_option maxRecDepth 100000 in
theorem R12_Send_bad {w : World} {r : Nat} {S : List UInt8} {s l d c : Int} {L : Nat} (h : RS w r S s l d c L) (hS : S.length = 32) (hm : mayP s l d c = true) (now : Int) (t : ByteArray) (ht : t.size ≤ 1099511000) (hbad : sendE s l c L now t ≠ 0) :
    Calls Try.prog 16 #[.pointer (some ⟨r, 0, none⟩), .int .i64 now, .string t] w fun e w' => e = .returned (.tuple #[.agg zeroPk.toArray, .int .i64 (sendE s l c L now t)]) ∧ Below w.heap.size w w' := by
  have cA := kp (fun w' => R10_At s l d c now hm w')
  have HN := kp (Blk.new w 44 zeroPk.toArray)
  have hb0 := ba (Below.refl w.heap.size w) (.cells zeroPk.toArray 44)
  have HSK : Kp (RS (w.alloc (.cells zeroPk.toArray 44)) r S s l d c L) := kp (Blk.bel h hb0)
  have HB := kp hb0
  clear hb0 h
  unfold sendE at hbad ⊢
  have HSL := kp hS
  obtain ⟨AI, hAI⟩ : ∃ AI, (atP s l c now).1 = AI := ⟨_, rfl⟩
  obtain ⟨AE, hAE⟩ : ∃ AE, (atP s l c now).2 = AE := ⟨_, rfl⟩
  rw [hAI, hAE] at cA hbad ⊢
  have hzl := zeroPk_length
  have hz1 := kp zeroPk_one
  obtain ⟨Z, hZ⟩ : ∃ Z, zeroPk = Z := ⟨_, rfl⟩
  have HZ := kp hZ
  rw [hZ] at HN HB HSK hzl hz1
  clear hAI hAE hm
  have hcase : (AE ≠ 0 ∧ (if AE = 0 then (if AI < (L : Int) then (14 : Int) else if 1000 < t.size then 5 else 0) else AE) = AE) ∨ (AE = 0 ∧ AI < (L : Int) ∧ (if AE = 0 then (if AI < (L : Int) then (14 : Int) else if 1000 < t.size then 5 else 0) else AE) = 14) ∨ (AE = 0 ∧ ¬ AI < (L : Int) ∧ (1000 : Int) < t.size ∧ (if AE = 0 then (if AI < (L : Int) then (14 : Int) else if 1000 < t.size then 5 else 0) else AE) = 5) := by
    by_cases h0 : AE = 0
    · by_cases h1 : AI < (L : Int)
      · exact Or.inr (Or.inl ⟨h0, h1, by rw [if_pos h0, if_pos h1]⟩)
      · by_cases h2 : 1000 < t.size
        · exact Or.inr (Or.inr ⟨h0, h1, by omega, by rw [if_pos h0, if_neg h1, if_pos h2]⟩)
        · rw [if_pos h0, if_neg h1, if_neg h2] at hbad; exact absurd rfl hbad
    · exact Or.inl ⟨h0, if_neg h0⟩
  generalize (if AE = 0 then (if AI < (L : Int) then (14 : Int) else if 1000 < t.size then 5 else 0) else AE) = R at *
  clear hbad
  go_enter Try.func16, Try.ntmps16
  go_upto_region 1 with (fail)
  change Code.wp _ _ _ _ (w.alloc (.cells zeroPk.toArray 44))
  rw [hZ]
  clear hZ
  generalize w.alloc (.cells Z.toArray 44) = W at HN HB HSK ⊢
  have LP := HSK.out.ldPlan HSL.out
  have hlb := Blk.lt HSK.out
  rcases hcase with ⟨h0, rfl⟩ | ⟨rfl, h1, rfl⟩ | ⟨rfl, h1, h2, rfl⟩
  · have d0 : (R == 0) = false := by simpa using h0
    have d1 : (R != 0) = true := by simpa using h0
    go_wp2_with (refine wpL_load rfl 34 _ rfl rfl LP ?_)
    clear LP
    refine (cA.out _).mono ?_
    rintro e w1 ⟨rfl, hb1⟩
    have HN1 := kp (HN.out.bel hb1)
    have HB1 := kp (bt' HB.out hb1 HB.out.size)
    clear hb1 HN HB HSK
    have SC := sc_same (P := Try.prog) (w := w1) w.heap.size 44 Z HN1.out hz1.out
    go_wp2_with (refine wpL_val 24 rfl rfl (.agg Z.toArray) (by rw [← HZ.out]; kernel_rfl) ?_)
    refine bodyPost_ret (v := .tuple #[.agg Z.toArray, .int .i64 R]) ?_ rfl ⟨by rw [HZ.out], HB1.out⟩
    exact res2 Try.results16 w.heap.size 36 _ Z _ Try.underlying44 rfl info_pk hzl HN1.out _ rfl _ rfl
  · go_wp2_with (refine wpL_load rfl 34 _ rfl rfl LP ?_)
    clear LP
    refine (cA.out _).mono ?_
    rintro e w1 ⟨rfl, hb1⟩
    have HN1 := kp (HN.out.bel hb1)
    have HB1 := kp (bt' HB.out hb1 HB.out.size)
    have c36 := Blk.atL (Blk.bel HSK.out hb1) (rsL_at HSL.out)
    have hlb := Blk.lt (Blk.bel HSK.out hb1)
    clear hb1 HN HB HSK
    have SC := sc_same (P := Try.prog) (w := w1) w.heap.size 44 Z HN1.out hz1.out
    go_wp2_with (refine wpL_val 32 rfl rfl (.agg Z.toArray) (by rw [← HZ.out]; kernel_rfl) ?_)
    refine bodyPost_ret (v := .tuple #[.agg Z.toArray, .int .i64 14]) ?_ rfl ⟨by rw [HZ.out], HB1.out⟩
    exact res2 Try.results16 w.heap.size 36 _ Z _ Try.underlying44 rfl info_pk hzl HN1.out _ rfl _ rfl
  · go_wp2_with (refine wpL_load rfl 34 _ rfl rfl LP ?_)
    clear LP
    refine (cA.out _).mono ?_
    rintro e w1 ⟨rfl, hb1⟩
    have HN1 := kp (HN.out.bel hb1)
    have HB1 := kp (bt' HB.out hb1 HB.out.size)
    have c36 := Blk.atL (Blk.bel HSK.out hb1) (rsL_at HSL.out)
    have hlb := Blk.lt (Blk.bel HSK.out hb1)
    clear hb1 HN HB HSK
    have SC := sc_same (P := Try.prog) (w := w1) w.heap.size 44 Z HN1.out hz1.out
    go_wp2_with (refine wpL_val 36 rfl rfl (.agg Z.toArray) (by rw [← HZ.out]; kernel_rfl) ?_)
    refine bodyPost_ret (v := .tuple #[.agg Z.toArray, .int .i64 5]) ?_ rfl ⟨by rw [HZ.out], HB1.out⟩
    exact res2 Try.results16 w.heap.size 36 _ Z _ Try.underlying44 rfl info_pk hzl HN1.out _ rfl _ rfl
/-- .. and a new block's row -/
theorem gbt2 {a b : World} {row : Option Nat} {x : Nat} {cs : Array Value} (h : a.grownBy b row) (k : b.grownBy (b.setRow x cs) (some x)) (hx : a.heap.size ≤ x := by omega) : a.grownBy (b.setRow x cs) row :=
  ⟨k.os.trans h.os, k.tape.trans h.tape, k.output.trans h.output, Nat.le_trans h.size k.size, fun i hi hr => (k.block i (Nat.lt_of_lt_of_le hi h.size) (fun e => by injection e with e; omega)).trans (h.block i hi hr)⟩
set_option maxHeartbeats 8000000 in
set_option maxRecDepth 100000 in
theorem R12_Send_good {w : World} {r : Nat} {S : List UInt8} {s l d c : Int} {n L : Nat} (h : RS w r S s l d c L) (hS : S.length = 32) (hm : mayP s l d c = true) (hc : c = (n : Int)) (now : Int) (t : ByteArray) (i : Nat) (hat : atP s l c now = ((i : Int), 0)) (hi1 : 1 ≤ i) (hi2 : i ≤ n) (hLi : L ≤ i) (ht : t.size ≤ 1000) :
    Calls Try.prog 16 #[.pointer (some ⟨r, 0, none⟩), .int .i64 now, .string t] w fun e w' => e = .returned (.tuple #[.agg (goodPk (chK S) d n i t).toArray, .int .i64 0]) ∧ RS w' r S s l d c i ∧ w.grownBy w' (some r) := by
  subst hc
  have cA := kp (fun w' => R10_At s l d n now hm w')
  have hmm := mayP_iff.1 hm
  rw [hat] at cA
  have cTl := kp (fun w' => R10_Tells s l d n i hm (by omega) w')
  obtain ⟨T, hT⟩ : ∃ T : Nat, ((i : Int) - d).toNat = T := ⟨_, rfl⟩
  have hTl : tellsP d n i = (T : Int) := by unfold tellsP; rw [if_pos (by omega)]; omega
  rw [hTl] at cTl
  have hTi : T < i := by omega
  have hgp : goodPk (chK S) d n i t = pkL (i : Int) t (str (tagD (chK S (n - i)) (i : Int) t)) (T : Int) (if T = 0 then zeroK else chK S (n - T)) := by unfold goodPk; rw [hT]
  have cTag := kp (fun w' => R12_Tag (chK S (n - i)) (i : Int) t (chK_length S _) (by omega) w')
  have cK := kp (fun w' => R_Key_good S hS n i (n - i) (by omega) (by omega) (by omega) (by omega) (by omega) w')
  have cK2 := kp (fun (h : T ≠ 0) w' => R_Key_good S hS n T (n - T) (by omega) (by omega) (by omega) (by omega) (by omega) w')
  obtain ⟨TG, hTG⟩ : ∃ TG, str (tagD (chK S (n - i)) (i : Int) t) = TG := ⟨_, rfl⟩
  rw [hTG] at cTag hgp
  obtain ⟨KK, hKK⟩ : ∃ KK, (if T = 0 then zeroK else chK S (n - T)) = KK := ⟨_, rfl⟩
  rw [hKK] at hgp
  have HKK := kp hKK
  rw [hgp]
  have HKL := kp (chK_length S (n - i))
  obtain ⟨A, hA⟩ : ∃ A, chK S (n - i) = A := ⟨_, rfl⟩
  rw [hA] at cTag cK HKL
  have HN := kp (Blk.new w 44 zeroPk.toArray)
  have hb0 := ba (Below.refl w.heap.size w) (.cells zeroPk.toArray 44)
  have HSK : Kp (RS (w.alloc (.cells zeroPk.toArray 44)) r S s l d n L) := kp (Blk.bel h hb0)
  have HG : Kp (w.grownBy (w.alloc (.cells zeroPk.toArray 44)) (some r)) := kp (gb hb0 (some r))
  have HRL := kp (Blk.lt h)
  have HSL := kp hS
  have HMM := kp hmm
  have HI2 := kp hi2
  have HTI := kp hTi
  have hzl := zeroPk_length
  have hz1 := kp zeroPk_one
  have HZP : Kp (∀ (iv : Int) (tx tg : ByteArray) (tl : Int) (W : World), (Instr.build 44 #[(0, .int .i64 iv), (1, .string tx), (2, .string tg), (3, .int .i64 tl)]).run Try.prog W = .ok (.agg (pkL iv tx tg tl zeroK).toArray) W) := kp build_pk4
  obtain ⟨Z, hZ⟩ : ∃ Z, zeroPk = Z := ⟨_, rfl⟩
  have HZ := kp hZ
  rw [hZ] at HN HG HSK hzl hz1
  have i1 : ¬ (i : Int) < (L : Int) := by omega
  have i2 : ¬ (1000 : Int) < (t.size : Int) := by omega
  clear hA hKK hTG hgp hTl hat hm h hb0 hT hmm hTi hi1 hi2 hLi ht hS
  go_enter Try.func16, Try.ntmps16
  go_upto_region 1 with (fail)
  change Code.wp _ _ _ _ (w.alloc (.cells zeroPk.toArray 44))
  rw [hZ]
  clear hZ
  generalize w.alloc (.cells Z.toArray 44) = W at HN HG HSK ⊢
  have LP := HSK.out.ldPlan HSL.out
  have hlb := Blk.lt HSK.out
  go_wp2_with (refine wpL_load rfl 34 _ rfl rfl LP ?_)
  clear LP hlb
  refine (cA.out _).mono ?_
  rintro e w1 ⟨rfl, hb1⟩
  have HN := kp (HN.out.bel hb1)
  have HSK : Kp (RS w1 r S s l d n L) := kp (Blk.bel HSK.out hb1)
  have HG := kp (gbt HG.out (gb hb1 (some r)))
  clear hb1
  have c36 := Blk.atL HSK.out (rsL_at HSL.out)
  have f36 := Blk.frozen HSK.out 36
  have hlb := Blk.lt HSK.out
  have hs2 := Blk.setL HSK.out 36 (.int .i64 (i : Int))
  rw [rsL_set HSL.out] at hs2
  have hrn : w.heap.size ≠ r := by have := HRL.out; omega
  have HN2 := kp (HN.out.far (p := ⟨r, 36, none⟩) hrn (.int .i64 (i : Int)))
  have HSK2 : Kp (RS (w1.setCell ⟨r, 36, none⟩ (.int .i64 (i : Int))) r S s l d n i) := kp hs2
  have HG2 := kp (gbt HG.out (gbset w1 r 36 (.int .i64 (i : Int))))
  clear hs2 HN HSK HG
  go_upto_region 9 with (fail)
  clear c36 f36 hlb
  generalize w1.setCell ⟨r, 36, none⟩ (.int .i64 (i : Int)) = V at HN2 HSK2 HG2 ⊢
  have hzk := zeroK_length
  have HZC : Kp (cellsU8 zeroK = List.replicate 32 (.int .u8 0)) := kp (by kernel_rfl)
  refine wp_region_earlyE [13] [0, 1, 2, 3, 4, 5, 6, 7, 8, 9, 10, 11, 12, 13] [14] [15, 16] 88 (fun _ => VA V.heap.size 23 (cellsU8 zeroK).toArray) (· ≠ ·) (by kernel_rfl) (by kernel_rfl) rfl (fun i v W W' h hb => h.mono hb) ?_
  apply Exists.intro
  refine ⟨fun W hW => ?_, ?_, ?_⟩
  · have LS := kp (fun x => RS.ldSeed (Blk.bel (Blk.bel HSK2.out hW) (ext_below W x)) HSL.out)
    have c35 := Blk.atL (Blk.bel HSK2.out hW) (rsL_plan HSL.out 3 (.int .i64 (n : Int)) rfl)
    have hlb := Blk.lt (Blk.bel HSK2.out hW)
    simp only [List.map_cons, List.map_nil, List.getD_cons_succ, List.getD_cons_zero]
    repeat (first
      | (go_big_quiet_want; refine quiet_load _ rfl 23 _ rfl rfl (fun w hw => by obtain ⟨x, rfl⟩ := hw; exact LS.out x) ?_; go_simp; go_big_quiet_on)
      | go_big_quiet_step (first | (go_at_call 18; with_reducible exact Calls.ext_of (cK.out _))))
    exact wpQuiet_nil rfl
  · exact ⟨mk_alloc rfl (fun W => by rw [HZC.out]; kernel_rfl) (fun j u W h => h.ne), trivial⟩
  · intro ev _
    simp only [List.map_cons, List.map_nil, List.getD_cons_succ, List.getD_cons_zero, TailX]
    rintro W2 hW2 ⟨_, b4, rfl, hb4, hk4⟩
    have hal := key_cells A HKL.out
    have hzc := key_cells zeroK hzk
    have SC := sc_all (P := Try.prog) (w := W2) b4 23 (cellsU8 A) (cellsU8 zeroK) hk4 (by rw [hal, hzc]) (cellsU8_one _)
    have J4 := kp (hk4.row (cellsU8 A).toArray)
    have hnl := HN2.out.lt
    have hrl2 := Blk.lt HSK2.out
    have HN3 := kp ((HN2.out.bel hW2).rowfar (b := b4) (by omega) (cellsU8 A).toArray)
    have HSK3 : Kp (RS (W2.setRow b4 (cellsU8 A).toArray) r S s l d n i) := kp (Blk.rowfar (Blk.bel HSK2.out hW2) (b := b4) (by omega) (cellsU8 A).toArray)
    have HG3 := kp (gbt HG2.out (gb (bsr hW2 (b := b4) (by omega) hW2.size (cellsU8 A).toArray) (some r)))
    clear hW2 hk4 HN2 HSK2 HG2 hrl2
    generalize W2.setRow b4 (cellsU8 A).toArray = U at SC J4 HN3 HSK3 HG3
    go_upto_region 10 with (fail)
    clear SC
    have HZPK : Kp (zeroPk = Z) := HZ
    have HNU : Kp (w.heap.size < U.heap.size) := kp HN3.out.lt
    refine wp_region_mkE [0, 1, 2, 3, 4, 5, 6, 7, 8, 9, 10, 11, 12] [13] [14] 88 (fun _ => VA U.heap.size 44 Z.toArray) (· ≠ ·) (by kernel_rfl) (by kernel_rfl) rfl (fun i v W W' h hb => h.mono hb) ?_
    apply Exists.intro
    refine ⟨fun W hW => ?_, ?_, ?_⟩
    · have LS := kp (fun x => ldK A HKL.out ((J4.out.bel hW).bel (ext_below W x)))
      have LP := kp (fun x => RS.ldPlan (Blk.bel (Blk.bel HSK3.out hW) (ext_below W x)) HSL.out)
      have hlb := Blk.lt (Blk.bel HSK3.out hW)
      simp only [List.map_cons, List.map_nil, List.getD_cons_succ, List.getD_cons_zero]
      repeat (first
        | (go_big_quiet_want; refine quiet_load _ rfl 23 _ rfl rfl (fun w hw => by obtain ⟨x, rfl⟩ := hw; exact LS.out x) ?_; go_simp; go_big_quiet_on)
        | (go_big_quiet_want; refine quiet_load _ rfl 34 _ rfl rfl (fun w hw => by obtain ⟨x, rfl⟩ := hw; exact LP.out x) ?_; go_simp; go_big_quiet_on)
        | (go_big_quiet_want; refine quiet_val 67 rfl (.agg (pkL (i : Int) t TG (T : Int) zeroK).toArray) (fun w _ => exec_build (parts := #[(0, .int .i64 (i : Int)), (1, .string t), (2, .string TG), (3, .int .i64 (T : Int))]) rfl (by simp [Act.eval, Act.put]) (HZP.out _ _ _ _ _)) ?_; go_simp; go_big_quiet_on)
        | go_big_quiet_step (first | (go_at_call 20; with_reducible exact Calls.ext_of (cTag.out _)) | (go_at_call 37; with_reducible exact Calls.ext_of (cTl.out _))))
      exact wpQuiet_nil rfl
    · exact ⟨mk_alloc rfl (fun W => by rw [← HZPK.out]; kernel_rfl) (fun j u W h => h.ne), trivial⟩
    · intro ev _
      simp only [List.map_cons, List.map_nil, List.getD_cons_succ, List.getD_cons_zero, TailX]
      rintro W3 hW3 ⟨_, bk, rfl, hbk, hkk⟩
      have hpl0 : (pkL (i : Int) t TG (T : Int) zeroK).length = 36 := pkL_length hzk
      have SC := sc_all (P := Try.prog) (w := W3) bk 44 (pkL (i : Int) t TG (T : Int) zeroK) Z hkk (by rw [hpl0, hzl]) (pkL_one _ _ _ _ _)
      have HPK0 := kp (hkk.row (pkL (i : Int) t TG (T : Int) zeroK).toArray)
      have hnl3 := HN3.out.lt
      have hrl3 := Blk.lt HSK3.out
      have hgr3 := HG3.out.size
      have HN4 := kp ((HN3.out.bel hW3).rowfar (b := bk) (by omega) (pkL (i : Int) t TG (T : Int) zeroK).toArray)
      have HSK4 : Kp (RS (W3.setRow bk (pkL (i : Int) t TG (T : Int) zeroK).toArray) r S s l d n i) := kp (Blk.rowfar (Blk.bel HSK3.out hW3) (b := bk) (by omega) (pkL (i : Int) t TG (T : Int) zeroK).toArray)
      have HG4 := kp (gbt HG3.out (gb (bsr hW3 (b := bk) (by omega) hW3.size (pkL (i : Int) t TG (T : Int) zeroK).toArray) (some r)))
      have HBK : Kp (U.heap.size ≤ bk) := kp hbk
      have HUS : Kp (w.heap.size ≤ U.heap.size) := kp hgr3
      clear hW3 hkk HN3 HSK3 HG3 hrl3 hnl3 hgr3 J4
      generalize W3.setRow bk (pkL (i : Int) t TG (T : Int) zeroK).toArray = V4 at SC HPK0 HN4 HSK4 HG4
      go_upto_region 11 with (fail)
      clear SC
      have c3 := HPK0.out.atL (show (pkL (i : Int) t TG (T : Int) zeroK)[3]? = some (.int .i64 (T : Int)) from rfl)
      have hlk := HPK0.out.lt
      by_cases hT0 : T = 0
      · have hKv : zeroK = KK := by rw [← HKK.out, if_pos hT0]
        have HKKL : Kp (KK.length = 32) := kp (hKv ▸ hzk)
        rw [hKv] at HPK0
        have d0 : decide ((0 : Int) < (T : Int)) = false := decide_eq_false (by omega)
        have d1 : ¬ (0 : Int) < (T : Int) := by omega
        have d2 : ¬ 0 < T := by omega
        have d3 : decide (0 < T) = false := decide_eq_false (by omega)
        clear hT0
        go_upto_region 13 with (fail)
        clear c3 hlk d0 d1 d2 d3 hKv
        have hpl : (pkL (i : Int) t TG (T : Int) KK).length = 36 := pkL_length HKKL.out
        have hp1 := kp (pkL_one (i : Int) t TG (T : Int) KK)
        obtain ⟨PK, hPK⟩ : ∃ PK, pkL (i : Int) t TG (T : Int) KK = PK := ⟨_, rfl⟩
        have HPK := HPK0
        rw [hPK] at HPK hpl hp1
        have HPE := kp hPK
        have HN9 := HN4
        have HSK9 := HSK4
        have HG9 := HG4
        clear hPK HPK0 HN4 HSK4 HG4
        generalize V4 = V9 at HPK HN9 HSK9 HG9 ⊢
        have LQ := ld_all (P := Try.prog) bk 36 44 44 PK _ Try.underlying44 rfl info_pk hpl HPK.out
        have SC := sc_all (P := Try.prog) (w := V9) w.heap.size 44 PK Z HN9.out (by rw [hpl, hzl]) hp1.out
        have HRES := kp (HN9.out.row PK.toArray)
        have hrn9 := HSK9.out
        have HSKE : Kp (RS (V9.setRow w.heap.size PK.toArray) r S s l d n i) := kp (Blk.rowfar HSK9.out (b := w.heap.size) (by have := HRL.out; omega) PK.toArray)
        have hnl9 := HN9.out.lt
        have HGE := kp (gbt2 HG9.out (gbrow V9 w.heap.size PK.toArray))
        clear HN9 HSK9 HG9 hrn9
        go_wp2_with (refine wpL_load rfl 44 _ rfl rfl LQ ?_)
        refine bodyPost_ret (v := .tuple #[.agg PK.toArray, .int .i64 0]) ?_ rfl ⟨by rw [HPE.out], HSKE.out, HGE.out⟩
        exact res2 Try.results16 w.heap.size 36 _ PK _ Try.underlying44 rfl info_pk hpl HRES.out _ rfl _ rfl
      · have hKv : chK S (n - T) = KK := by rw [← HKK.out, if_neg hT0]
        have HKKL : Kp (KK.length = 32) := kp (hKv ▸ chK_length S _)
        have cK2' := kp (cK2.out hT0)
        rw [hKv] at cK2'
        have d0 : decide ((0 : Int) < (T : Int)) = true := decide_eq_true (by omega)
        have d1 : (0 : Int) < (T : Int) := by omega
        have d2 : 0 < T := by omega
        have d3 : decide (0 < T) = true := decide_eq_true (by omega)
        clear hT0 hKv cK2
        go_upto_region 12 with (fail)
        clear c3 hlk d0 d1 d2 d3
        refine wp_region_earlyE [14] [0, 1, 2, 3, 4, 5, 6, 7, 8, 9, 10, 11, 12, 13, 14] [] [15, 16] 88 (fun _ _ _ => True) (fun _ _ => True) (by kernel_rfl) (by kernel_rfl) rfl (fun i v W W' h hb => trivial) ?_
        apply Exists.intro
        refine ⟨fun W hW => ?_, ?_, ?_⟩
        · have LS := kp (fun x => RS.ldSeed (Blk.bel (Blk.bel HSK4.out hW) (ext_below W x)) HSL.out)
          have c35 := Blk.atL (Blk.bel HSK4.out hW) (rsL_plan HSL.out 3 (.int .i64 (n : Int)) rfl)
          have hlb := Blk.lt (Blk.bel HSK4.out hW)
          have c3 := (HPK0.out.bel hW).atL (show (pkL (i : Int) t TG (T : Int) zeroK)[3]? = some (.int .i64 (T : Int)) from rfl)
          have hlk := (HPK0.out.bel hW).lt
          simp only [List.map_cons, List.map_nil, List.getD_cons_succ, List.getD_cons_zero]
          repeat (first
            | (go_big_quiet_want; refine quiet_load _ rfl 23 _ rfl rfl (fun w hw => by obtain ⟨x, rfl⟩ := hw; exact LS.out x) ?_; go_simp; go_big_quiet_on)
            | go_big_quiet_step (first | (go_at_call 18; with_reducible exact Calls.ext_of (cK2'.out _))))
          exact wpQuiet_nil rfl
        · exact trivial
        · simp only [List.map_cons, List.map_nil, List.getD_cons_succ, List.getD_cons_zero, TailX]
          intro W5 hW5 _
          have hkl := key_cells KK HKKL.out
          have hzc2 := key_cells zeroK hzk
          have HPKb := HPK0.out.bel hW5
          have SC := sc_row (P := Try.prog) (w := W5) bk 4 44 (cellsU8 KK) (pkL (i : Int) t TG (T : Int) zeroK) HPKb (by rw [hkl, hpl0]; omega) (cellsU8_one _)
          have hrow2 : (pkL (i : Int) t TG (T : Int) zeroK).take 4 ++ cellsU8 KK ++ (pkL (i : Int) t TG (T : Int) zeroK).drop (4 + (cellsU8 KK).length) = pkL (i : Int) t TG (T : Int) KK := by
            rw [hkl]
            have : List.drop (4 + 32) (pkL (i : Int) t TG (T : Int) zeroK) = [] := List.drop_eq_nil_of_le (by rw [hpl0]; omega)
            rw [this, List.append_nil]
            rfl
          rw [hrow2] at SC
          have hpl : (pkL (i : Int) t TG (T : Int) KK).length = 36 := pkL_length HKKL.out
          have hp1 := kp (pkL_one (i : Int) t TG (T : Int) KK)
          obtain ⟨PK, hPK⟩ : ∃ PK, pkL (i : Int) t TG (T : Int) KK = PK := ⟨_, rfl⟩
          rw [hPK] at SC hpl hp1
          have HPK := kp (HPKb.row PK.toArray)
          have hnl3 := HN4.out.lt
          have hrl3 := Blk.lt HSK4.out
          have hb1 := HBK.out
          have hb2 := HUS.out
          have hnU := HNU.out
          have HN9 := kp ((HN4.out.bel hW5).rowfar (b := bk) (by omega) PK.toArray)
          have HSK9 : Kp (RS (W5.setRow bk PK.toArray) r S s l d n i) := kp (Blk.rowfar (Blk.bel HSK4.out hW5) (b := bk) (by have := HRL.out; omega) PK.toArray)
          have HG9 := kp (gbt2 (gbt HG4.out (gb hW5 (some r))) (gbrow W5 bk PK.toArray) (by omega))
          have HPE := kp hPK
          clear hW5 HPKb hrow2 HPK0 HN4 HSK4 HG4 hPK hnl3 hrl3 hb1 hb2 hnU
          go_upto_region 13 with (fail)
          clear SC hkl hzc2
          generalize W5.setRow bk PK.toArray = V9 at HPK HN9 HSK9 HG9 ⊢
          have LQ := ld_all (P := Try.prog) bk 36 44 44 PK _ Try.underlying44 rfl info_pk hpl HPK.out
          have SC := sc_all (P := Try.prog) (w := V9) w.heap.size 44 PK Z HN9.out (by rw [hpl, hzl]) hp1.out
          have HRES := kp (HN9.out.row PK.toArray)
          have hrn9 := HSK9.out
          have HSKE : Kp (RS (V9.setRow w.heap.size PK.toArray) r S s l d n i) := kp (Blk.rowfar HSK9.out (b := w.heap.size) (by have := HRL.out; omega) PK.toArray)
          have hnl9 := HN9.out.lt
          have HGE := kp (gbt2 HG9.out (gbrow V9 w.heap.size PK.toArray))
          clear HN9 HSK9 HG9 hrn9
          go_wp2_with (refine wpL_load rfl 44 _ rfl rfl LQ ?_)
          refine bodyPost_ret (v := .tuple #[.agg PK.toArray, .int .i64 0]) ?_ rfl ⟨by rw [HPE.out], HSKE.out, HGE.out⟩
          exact res2 Try.results16 w.heap.size 36 _ PK _ Try.underlying44 rfl info_pk hpl HRES.out _ rfl _ rfl
end Go.Proofs.Ytmnbnjiipnocaaa
/- the reference's sender: Send, whatever comes; Renew. -/
namespace Go.Proofs.Ytmnbnjiipnocaaa
open Go Go.RowKit
set_option linter.unusedVariables false
set_option linter.unusedSimpArgs false
attribute [local go_sem] bmax2 bmin2 bmax bmin cell_ext frozen_ext

theorem R12_Send {w : World} {r : Nat} {S : List UInt8} {s l d c : Int} {n L : Nat} (h : RS w r S s l d c L) (hS : S.length = 32) (hm : mayP s l d c = true) (hc : c = (n : Int)) (now : Int) (t : ByteArray) (ht : t.size ≤ 1099511000) :
    Calls Try.prog 16 #[.pointer (some ⟨r, 0, none⟩), .int .i64 now, .string t] w fun e w' => e = .returned (.tuple #[.agg (sendPk S s l d c n L now t).toArray, .int .i64 (sendE s l c L now t)]) ∧ RS w' r S s l d c (sendL s l c L now t) ∧ w.grownBy w' (some r) := by
  by_cases h0 : sendE s l c L now t = 0
  · obtain ⟨i, hat, h1, h2, h3, h4, _, _⟩ := sendE_zero hm hc h0
    have e1 : sendL s l c L now t = i := by unfold sendL; rw [if_pos h0, hat]; simp
    have e2 : sendPk S s l d c n L now t = goodPk (chK S) d n i t := by unfold sendPk; rw [if_pos h0, hat]; simp
    rw [e1, e2, h0]
    exact R12_Send_good h hS hm hc now t i hat h1 h2 h3 h4
  · have e1 : sendL s l c L now t = L := if_neg h0
    have e2 : sendPk S s l d c n L now t = zeroPk := if_neg h0
    rw [e1, e2]
    exact (R12_Send_bad h hS hm now t ht h0).mono fun e w' ⟨he, hb⟩ => ⟨he, Blk.bel h hb, gb hb (some r)⟩
/-- Renew's end -/
def RRenewEnd (w : World) (S : List UInt8) (s l d c : Int) (e : Ending) (w' : World) : Prop :=
  (1152921504606846976 < s + c * l ∧ e = .returned (.tuple #[.pointer none, .int .i64 6]) ∧ Below w.heap.size w w') ∨
  (s + c * l ≤ 1152921504606846976 ∧ ∃ r, e = .returned (.tuple #[.pointer (some ⟨r, 0, none⟩), .int .i64 0]) ∧ RS w' r (macD S seedS) (s + c * l) l d c 0 ∧ Below w.heap.size w w' ∧ w.heap.size ≤ r)
set_option maxRecDepth 100000 in
theorem build_rs (S : List UInt8) (s l d c : Int) (hS : S.length = 32) (W : World) : (Instr.build 36 #[(0, .agg (cellsU8 S).toArray), (1, .agg (planL s l d c).toArray)]).run Try.prog W = .ok (.agg (rsL S s l d c 0).toArray) W := by
  obtain ⟨f, rfl⟩ := list32 S hS
  exact run_build W 36 _ _ (by kernel_rfl)
set_option maxHeartbeats 4000000 in
set_option maxRecDepth 100000 in
theorem R12_Renew {w : World} {r : Nat} {S : List UInt8} {s l d c : Int} {n L : Nat} (h : RS w r S s l d c L) (hS : S.length = 32) (hm : mayP s l d c = true) (hc : c = (n : Int)) :
    Calls Try.prog 14 #[.pointer (some ⟨r, 0, none⟩)] w (RRenewEnd w S s l d c) := by
  have cT := kp (fun w' => R10_Then s l d c n hc hm w')
  subst hc
  have HSK := kp h
  clear h
  have HSL := kp hS
  have LP := HSK.out.ldPlan HSL.out
  have hlb := Blk.lt HSK.out
  unfold thenV at cT
  by_cases hov : 1152921504606846976 < s + n * l
  · rw [if_pos hov] at cT
    have HOV := kp hov
    have hpl := planL_length 0 0 0 0
    have hp1 := kp (planL_one 0 0 0 0)
    generalize planL 0 0 0 0 = PZ at cT hpl hp1
    clear hov
    go_enter Try.func14, Try.ntmps14
    go_wp2_with (refine wpL_load rfl 34 _ rfl rfl LP ?_)
    clear LP hlb
    refine (cT.out _).mono ?_
    rintro e w1 ⟨rfl, hb1⟩
    have HB := kp (ba hb1 (.cells PZ.toArray 34))
    have SC := fun (cur : Array Value) (h : cur.size = 4) => sc_new (P := Try.prog) w1 34 PZ hp1.out cur (by rw [hpl]; exact h)
    clear hb1
    go_wp2
    go_ret2
    exact Or.inl ⟨HOV.out, rfl, HB.out⟩
  · rw [if_neg hov] at cT
    have cN : Kp (∀ w', Calls Try.prog 31 #[.agg (cellsU8 S).toArray, .string ⟨#[115, 101, 101, 100]⟩] w' fun e w'' => e = .returned (.agg (cellsU8 (macD S seedS)).toArray) ∧ Below w'.heap.size w' w'') := kp (fun w' => R_Of S ⟨#[115, 101, 101, 100]⟩ hS (by decide) w')
    have hEl := macD_length S seedS
    have HBU := kp (fun W => build_rs (macD S seedS) (s + n * l) l d n hEl W)
    have HOV := kp (show s + (n : Int) * l ≤ 1152921504606846976 by omega)
    have hpl := planL_length (s + n * l) l d n
    have hp1 := kp (planL_one (s + n * l) l d n)
    obtain ⟨PL, hPL⟩ : ∃ PL, planL (s + n * l) l d n = PL := ⟨_, rfl⟩
    rw [hPL] at cT HBU hpl hp1
    have HR : Kp (∀ W r, Blk W r 36 (rsL (macD S seedS) (s + n * l) l d n 0).toArray → RS W r (macD S seedS) (s + n * l) l d n 0) := kp (fun W r h => h)
    obtain ⟨RL, hRL⟩ : ∃ RL, rsL (macD S seedS) (s + n * l) l d n 0 = RL := ⟨_, rfl⟩
    rw [hRL] at HBU HR
    clear hov hm hPL hRL
    obtain ⟨E, hE⟩ : ∃ E, macD S seedS = E := ⟨_, rfl⟩
    rw [hE] at cN HBU hEl
    clear hE
    go_enter Try.func14, Try.ntmps14
    go_wp2_with (refine wpL_load rfl 34 _ rfl rfl LP ?_)
    clear LP hlb
    refine (cT.out _).mono ?_
    rintro e w1 ⟨rfl, hb1⟩
    have HB := kp (ba hb1 (.cells PL.toArray 34))
    have HSK : Kp (RS (w1.alloc (.cells PL.toArray 34)) r S s l d n L) := kp (Blk.bel HSK.out (ba hb1 (.cells PL.toArray 34)))
    have HP := kp (Blk.new w1 34 PL.toArray)
    have SC := fun (cur : Array Value) (h : cur.size = 4) => sc_new (P := Try.prog) w1 34 PL hp1.out cur (by rw [hpl]; exact h)
    clear hb1
    go_upto_region 4 with (fail)
    clear SC
    generalize w1.alloc (.cells PL.toArray 34) = W at HB HSK HP ⊢
    generalize w1.heap.size = b4 at HP ⊢
    refine wp_region_mkE [0, 1, 2, 3, 4, 5, 6] [7] [8, 9] 25 (fun _ => VA W.heap.size 36 RL.toArray) (· ≠ ·) (by kernel_rfl) (by kernel_rfl) rfl (fun i v W W' h hb => h.mono hb) ?_
    apply Exists.intro
    refine ⟨fun V hV => ?_, ?_, ?_⟩
    · have LS := kp (fun x => RS.ldSeed (Blk.bel (Blk.bel HSK.out hV) (ext_below V x)) HSL.out)
      have LQ := kp (fun x => ld_all (P := Try.prog) b4 4 34 34 PL _ Try.underlying34 rfl info_rplan hpl ((HP.out.bel hV).bel (ext_below V x)))
      simp only [List.map_cons, List.map_nil, List.getD_cons_succ, List.getD_cons_zero]
      repeat (first
        | (go_big_quiet_want; refine quiet_load _ rfl 23 _ rfl rfl (fun w hw => by obtain ⟨x, rfl⟩ := hw; exact LS.out x) ?_; go_simp; go_big_quiet_on)
        | (go_big_quiet_want; refine quiet_load _ rfl 34 _ rfl rfl (fun w hw => by obtain ⟨x, rfl⟩ := hw; exact LQ.out x) ?_; go_simp; go_big_quiet_on)
        | (go_big_quiet_want; refine quiet_val 23 rfl (.agg RL.toArray) (fun w _ => exec_build (parts := #[(0, .agg (cellsU8 E).toArray), (1, .agg PL.toArray)]) rfl (by simp [Act.eval, Act.put]) (HBU.out _)) ?_; go_simp; go_big_quiet_on)
        | go_big_quiet_step (first | (go_at_call 31; with_reducible exact Calls.ext_of (cN.out _))))
      exact wpQuiet_nil rfl
    · exact ⟨mk_alloc rfl (fun W => by kernel_rfl) (fun j u W h => h.ne), trivial⟩
    · intro ev _
      simp only [List.map_cons, List.map_nil, List.getD_cons_succ, List.getD_cons_zero, TailX]
      rintro V hV ⟨_, bk, rfl, hbk, hkk⟩
      have HEND : Kp (RRenewEnd w S s l d n (.returned (.tuple #[.pointer (some ⟨bk, 0, none⟩), .int .i64 0])) V) := kp (Or.inr ⟨HOV.out, bk, rfl, HR.out V bk hkk, bt' HB.out hV HB.out.size, Nat.le_trans HB.out.size hbk⟩)
      clear hV hkk hbk HSK HP HB
      go_wp2
      go_ret2
      exact HEND.out
end Go.Proofs.Ytmnbnjiipnocaaa
/- sender: a law's own senders, one or two. -/
namespace Go.Proofs.Ytmnbnjiipnocaaa
open Go Go.RowKit
set_option linter.unusedVariables false
set_option linter.unusedSimpArgs false
attribute [local go_sem] bmax2 bmin2 bmax bmin cell_ext frozen_ext

/-- a seed, a plan -/
structure SP where
  S : List UInt8
  s : Int
  l : Int
  d : Int
  n : Nat
structure SP.Ok (p : SP) : Prop where
  len : p.S.length = 32
  may : mayP p.s p.l p.d p.n = true
def SY (B : Nat) (w : World) (X : Nat → Prop) (b : Nat) (p : SP) (L : Nat) : Prop := SX B w X b p.S p.s p.l p.d p.n p.n L
/-- one sender -/
def S1 (B : Nat) (w : World) (b : Nat) (p : SP) (L : Nat) : Prop := ∃ X, SY B w X b p L
/-- two senders, apart -/
def S2 (B : Nat) (w : World) (b c : Nat) (p q : SP) (L M : Nat) : Prop := ∃ X Y, SY B w X b p L ∧ SY B w Y c q M ∧ ∀ k, X k → ¬ Y k
/-- on from w: what lies below B is as it was, and so is all else but senders, walkers, stones and keys that are kept -/
structure MvS (B : Nat) (w w' : World) : Prop where
  below : Below B w w'
  keep : ∀ {k T : Nat} {cs : Array Value}, T ≠ 67 → T ≠ 94 → T ≠ 91 → T ≠ 108 → Blk w k T cs → Blk w' k T cs
def SP.E (p : SP) (L : Nat) (now : Int) (t : ByteArray) : Int := sendE p.s p.l p.n L now t
def SP.N (p : SP) (L : Nat) (now : Int) (t : ByteArray) : Nat := sendL p.s p.l p.n L now t
def SP.K (p : SP) (L : Nat) (now : Int) (t : ByteArray) : List Value := sendPk p.S p.s p.l p.d p.n p.n L now t
def SP.next (p : SP) : SP := ⟨macD p.S seedS, p.s + p.n * p.l, p.l, p.d, p.n⟩
theorem SP.Ok.next {p : SP} (h : p.Ok) (hov : p.s + p.n * p.l ≤ 1152921504606846976) : p.next.Ok := ⟨macD_length _ _, mayP_next h.may hov⟩
theorem SP.Ok.hn {p : SP} (h : p.Ok) : 1 ≤ p.n ∧ p.n ≤ 1024 := by have := mayP_iff.1 h.may; omega
theorem SP.K_length (p : SP) (L : Nat) (now : Int) (t : ByteArray) : (p.K L now t).length = 36 := by
  unfold SP.K sendPk goodPk
  split
  · exact pkL_length (by split; exact zeroK_length; exact chK_length _ _)
  · exact zeroPk_length
theorem SP.K_one (p : SP) (L : Nat) (now : Int) (t : ByteArray) : ∀ v ∈ p.K L now t, v.oneCell' = true := by
  unfold SP.K sendPk goodPk
  split
  · exact pkL_one _ _ _ _ _
  · exact zeroPk_one
theorem SP.K_row (p : SP) (L : Nat) (now : Int) (t : ByteArray) : ∃ iv tx tg tl K, K.length = 32 ∧ p.K L now t = pkL iv tx tg tl K := by
  unfold SP.K sendPk goodPk
  split
  · exact ⟨_, _, _, _, _, by split; exact zeroK_length; exact chK_length _ _, rfl⟩
  · exact ⟨_, _, _, _, _, zeroK_length, rfl⟩
variable {B : Nat} {w w' : World} {b c : Nat} {p q : SP} {L M : Nat} {X Y : Nat → Prop}
theorem SY.types (h : SY B w X b p L) {k : Nat} (hk : X k) : B ≤ k ∧ k < w.heap.size ∧ ∃ T cs, Blk w k T cs ∧ (T = 67 ∨ T = 94 ∨ T = 91 ∨ T = 108) := by
  obtain ⟨bw, g, ad, cp, h, rfl⟩ := h
  exact h.types hk
theorem SY.mv (h : SY B w X b p L) (hf : FrP X w w') (hB : B ≤ w.heap.size) : MvS B w w' := by
  refine ⟨hf.below (fun k hk => (h.types hk).1) hB, fun e1 e2 e3 e4 hb => hb.frP hf (fun hk => ?_)⟩
  obtain ⟨_, _, T', cs', hb', hT⟩ := h.types hk
  unfold Blk at hb hb'
  rw [hb] at hb'
  injection hb' with hb'
  injection hb' with _ ht
  subst ht
  rcases hT with h | h | h | h
  · exact e1 h
  · exact e2 h
  · exact e3 h
  · exact e4 h
theorem SY.bel (h : SY B w X b p L) (hb : Below w.heap.size w w') : SY B w' X b p L := SX.same h hb
theorem SY.stays (h : SY B w Y c q M) (hf : FrP X w w') (hd : ∀ k, Y k → ¬ X k) : SY B w' Y c q M := by
  obtain ⟨bw, g, ad, cp, h, rfl⟩ := h
  exact ⟨bw, g, ad, cp, h.frP hf hd, rfl⟩
theorem MvS.of_bel (h : Below w.heap.size w w') (hB : B ≤ w.heap.size) : MvS B w w' := ⟨h.mono hB, fun _ _ _ _ hk => hk.bel h⟩
theorem S1.bel (h : S1 B w b p L) (hb : Below w.heap.size w w') : S1 B w' b p L := by obtain ⟨X, h⟩ := h; exact ⟨X, h.bel hb⟩
theorem S2.bel (h : S2 B w b c p q L M) (hb : Below w.heap.size w w') : S2 B w' b c p q L M := by obtain ⟨X, Y, h1, h2, h3⟩ := h; exact ⟨X, Y, h1.bel hb, h2.bel hb, h3⟩
theorem S2.symm (h : S2 B w b c p q L M) : S2 B w c b q p M L := by obtain ⟨X, Y, h1, h2, h3⟩ := h; exact ⟨Y, X, h2, h1, fun k h1 h2 => h3 k h2 h1⟩
theorem S2.fst (h : S2 B w b c p q L M) : S1 B w b p L := by obtain ⟨X, Y, h1, h2, h3⟩ := h; exact ⟨X, h1⟩
theorem S2.snd (h : S2 B w b c p q L M) : S1 B w c q M := h.symm.fst
/-- a sender's blocks turned to another type's: none -/
theorem SY.row {r : Nat} (h : SY B w X b p L) {T : TypeId} {cs : Array Value} (hr : Blk w r T cs) (hT : T ≠ 67 ∧ T ≠ 94 ∧ T ≠ 91 ∧ T ≠ 108) (hg : w.grownBy w' (some r)) : SY B w' X b p L := by
  refine SY.stays h (FrP.of_grown (X := fun k => k = r) hg (fun k hk => by injection hk with hk; exact hk.symm)) (fun k hk e => ?_)
  subst e
  obtain ⟨_, _, T', cs', hb', hT'⟩ := h.types hk
  unfold Blk at hr hb'
  rw [hr] at hb'
  injection hb' with hb'
  injection hb' with _ ht
  subst ht
  rcases hT' with h | h | h | h
  · exact hT.1 h
  · exact hT.2.1 h
  · exact hT.2.2.1 h
  · exact hT.2.2.2 h
theorem S1.row {r : Nat} (h : S1 B w b p L) {T : TypeId} {cs : Array Value} (hr : Blk w r T cs) (hT : T ≠ 67 ∧ T ≠ 94 ∧ T ≠ 91 ∧ T ≠ 108) (hg : w.grownBy w' (some r)) : S1 B w' b p L := by
  obtain ⟨X, h⟩ := h
  exact ⟨X, h.row hr hT hg⟩
/-- New -/
theorem L_New (hp : p.Ok) (w : World) (hB : B ≤ w.heap.size) : Calls Try.prog 10 #[.agg (cellsU8 p.S).toArray, .agg (planL p.s p.l p.d p.n).toArray] w fun e w' => ∃ b, e = .returned (.tuple #[.pointer (some ⟨b, 0, none⟩), .int .i64 0]) ∧ S1 B w' b p 0 ∧ Below w.heap.size w w' := by
  have hd := mayP_iff.1 hp.may
  refine (S_New_good (B := B) p.S p.s p.l p.d p.n hp.len hp.may p.n rfl w hB).mono ?_
  rintro e w' ⟨b, bw, g, rfl, h1, h2, h3⟩
  exact ⟨b, rfl, ⟨_, bw, g, none, 0, by rw [loOf_zero (by omega)]; exact h1, rfl⟩, h2⟩
theorem L_New2 (hp : p.Ok) (w : World) (hB : B ≤ w.heap.size) (hc : S1 B w c q M) : Calls Try.prog 10 #[.agg (cellsU8 p.S).toArray, .agg (planL p.s p.l p.d p.n).toArray] w fun e w' => ∃ b, e = .returned (.tuple #[.pointer (some ⟨b, 0, none⟩), .int .i64 0]) ∧ S2 B w' c b q p M 0 ∧ Below w.heap.size w w' := by
  have hd := mayP_iff.1 hp.may
  obtain ⟨Y, hc⟩ := hc
  refine (S_New_good (B := B) p.S p.s p.l p.d p.n hp.len hp.may p.n rfl w hB).mono ?_
  rintro e w' ⟨b, bw, g, rfl, h1, h2, h3⟩
  exact ⟨b, rfl, ⟨Y, _, hc.bel h2, ⟨bw, g, none, 0, by rw [loOf_zero (by omega)]; exact h1, rfl⟩, fun k hk hk2 => by have := h3 k hk2; have := (hc.types hk).2.1; omega⟩, h2⟩
theorem L_Send (hp : p.Ok) (h : S1 B w b p L) (now : Int) (ht0 : -9223372036854775808 ≤ now) (ht1 : now < 9223372036854775808) (t : ByteArray) (hB : B ≤ w.heap.size) (ht : t.size ≤ 1099511000) :
    Calls Try.prog 15 #[.pointer (some ⟨b, 0, none⟩), .int .i64 now, .string t] w fun e w' => e = .returned (.tuple #[.agg (p.K L now t).toArray, .int .i64 (p.E L now t)]) ∧ S1 B w' b p (p.N L now t) ∧ MvS B w w' := by
  obtain ⟨X, h⟩ := h
  refine (S_Send h hp.len hp.may rfl now ht0 ht1 t hB ht).mono ?_
  rintro e w' ⟨X', rfl, h1, h2, h3⟩
  exact ⟨rfl, ⟨X', h1⟩, h.mv h2 hB⟩
theorem L_Send2 (hp : p.Ok) (h : S2 B w b c p q L M) (now : Int) (ht0 : -9223372036854775808 ≤ now) (ht1 : now < 9223372036854775808) (t : ByteArray) (hB : B ≤ w.heap.size) (ht : t.size ≤ 1099511000) :
    Calls Try.prog 15 #[.pointer (some ⟨b, 0, none⟩), .int .i64 now, .string t] w fun e w' => e = .returned (.tuple #[.agg (p.K L now t).toArray, .int .i64 (p.E L now t)]) ∧ S2 B w' b c p q (p.N L now t) M ∧ MvS B w w' := by
  obtain ⟨X, Y, h, hy, hd⟩ := h
  refine (S_Send h hp.len hp.may rfl now ht0 ht1 t hB ht).mono ?_
  rintro e w' ⟨X', rfl, h1, h2, h3⟩
  refine ⟨rfl, ⟨X', Y, h1, hy.stays h2 (fun k hk hx => hd k hx hk), fun k hk hy2 => ?_⟩, h.mv h2 hB⟩
  rcases h3 k hk with h | h
  · exact hd k h hy2
  · have := (hy.types hy2).2.1
    omega
theorem L_Renew (hp : p.Ok) (h : S1 B w b p L) (hB : B ≤ w.heap.size) : Calls Try.prog 13 #[.pointer (some ⟨b, 0, none⟩)] w fun e w' =>
    (1152921504606846976 < p.s + p.n * p.l ∧ e = .returned (.tuple #[.pointer none, .int .i64 6]) ∧ Below w.heap.size w w') ∨
    (p.s + p.n * p.l ≤ 1152921504606846976 ∧ ∃ c, e = .returned (.tuple #[.pointer (some ⟨c, 0, none⟩), .int .i64 0]) ∧ S2 B w' b c p p.next L 0 ∧ Below w.heap.size w w') := by
  obtain ⟨X, h⟩ := h
  refine (S_Renew h hp.len hp.may rfl hB).mono ?_
  rintro e w' (⟨h1, h2, h3⟩ | ⟨h1, c, Y, h2, h3, h4, h5⟩)
  · exact Or.inl ⟨h1, h2, h3⟩
  · exact Or.inr ⟨h1, c, h2, ⟨X, Y, h.bel h4, h3, fun k hk hk2 => by have := h5 k hk2; have := (h.types hk).2.1; omega⟩, h4⟩
theorem L_Known (hp : p.Ok) (h : S1 B w b p L) : Calls Try.prog 19 #[.pointer (some ⟨b, 0, none⟩)] w fun e w' => e = .returned (.agg (cellsU8 (chK p.S p.n)).toArray) ∧ Below w.heap.size w w' := by
  obtain ⟨X, bw, g, ad, cp, h, _⟩ := h
  exact S_Known h hp.len
theorem L_Last (hp : p.Ok) (h : S1 B w b p L) : Calls Try.prog 17 #[.pointer (some ⟨b, 0, none⟩)] w fun e w' => e = .returned (.int .i64 (L : Int)) ∧ w = w' := by
  obtain ⟨X, bw, g, ad, cp, h, _⟩ := h
  exact S_Last h hp.len
/-- refused: nothing turns -/
theorem L_Send_bad (hp : p.Ok) (h : S1 B w b p L) (now : Int) (ht0 : -9223372036854775808 ≤ now) (ht1 : now < 9223372036854775808) (t : ByteArray) (ht : t.size ≤ 1099511000) (hbad : p.E L now t ≠ 0) :
    Calls Try.prog 15 #[.pointer (some ⟨b, 0, none⟩), .int .i64 now, .string t] w fun e w' => e = .returned (.tuple #[.agg zeroPk.toArray, .int .i64 (p.E L now t)]) ∧ Below w.heap.size w w' := by
  obtain ⟨X, h⟩ := h
  exact S_Send_bad h hp.len hp.may now ht0 ht1 t ht hbad
theorem SP.N_bad {now : Int} {t : ByteArray} (h : p.E L now t ≠ 0) : p.N L now t = L := if_neg h
theorem SP.K_bad {now : Int} {t : ByteArray} (h : p.E L now t ≠ 0) : p.K L now t = zeroPk := if_neg h
theorem SP.good {now : Int} {t : ByteArray} (hp : p.Ok) (h : p.E L now t = 0) : ∃ i : Nat, atP p.s p.l p.n now = ((i : Int), 0) ∧ 1 ≤ i ∧ i ≤ p.n ∧ L ≤ i ∧ t.size ≤ 1000 ∧ p.N L now t = i ∧ p.K L now t = goodPk (chK p.S) p.d p.n i t := by
  obtain ⟨i, hat, h1, h2, h3, h4, h5, h6⟩ := sendE_zero hp.may rfl h
  refine ⟨i, hat, h1, h2, h3, h4, ?_, ?_⟩
  · unfold SP.N sendL; rw [if_pos (show sendE p.s p.l p.n L now t = 0 from h), hat]; simp
  · unfold SP.K sendPk; rw [if_pos (show sendE p.s p.l p.n L now t = 0 from h), hat]; simp
end Go.Proofs.Ytmnbnjiipnocaaa
/- chain: what the document fixes. -/
namespace Go.Proofs.Ytmnbnjiipnocaaa
open Go Go.RowKit
set_option linter.unusedVariables false
set_option linter.unusedSimpArgs false
attribute [local go_sem] bmax2 bmin2 bmax bmin cell_ext frozen_ext

def oneK : List UInt8 := 1 :: List.replicate 31 0
theorem oneK_length : oneK.length = 32 := rfl
theorem one_far : walkD (chK oneK 6) 2 ≠ chK oneK 6 := by decide +kernel
theorem learnV_yes (K k P : List UInt8) (i : Int) (h : P = K) : learnV K k P i = .tuple #[.agg (mindL k i).toArray, .int .i64 0] := if_pos h
--AWAKE
end Go.Proofs.Ytmnbnjiipnocaaa
/- sender: two tags that are unlike. -/
namespace Go.Proofs.Ytmnbnjiipnocaaa
open Go Go.RowKit
set_option linter.unusedVariables false
set_option linter.unusedSimpArgs false
attribute [local go_sem] bmax2 bmin2 bmax bmin cell_ext frozen_ext

theorem one_tags : str (tagD (chK oneK 4) 1 ⟨#[111, 110, 101]⟩) ≠ str (tagD (chK oneK 2) 1 ⟨#[111, 110, 101]⟩) := by decide +kernel
end Go.Proofs.Ytmnbnjiipnocaaa
/- a long drawing region: the plan's closed fact, reckoned over tables, with what is listed written out at each step. -/
namespace Go.Proofs.Ytmnbnjiipnocaaa
open Go Go.RowKit
set_option linter.unusedVariables false
set_option linter.unusedSimpArgs false

/-- each entry is looked at, then the list goes on written out -/
def forceB {α : Type} : List Bool → (List Bool → α) → α
  | [], k => k []
  | b :: l, k => match b with
    | true => forceB l (fun l' => k (true :: l'))
    | false => forceB l (fun l' => k (false :: l'))
theorem forceB_eq {α : Type} : ∀ (l : List Bool) (k : List Bool → α), forceB l k = k l
  | [], k => rfl
  | b :: l, k => by
    unfold forceB
    cases b
    · exact forceB_eq l _
    · exact forceB_eq l _
def forceS {α β : Type} : List α → (List α → β) → β
  | [], k => k []
  | a :: l, k => forceS l (fun l' => k (a :: l'))
theorem forceS_eq {α β : Type} : ∀ (l : List α) (k : List α → β), forceS l k = k l
  | [], k => rfl
  | a :: l, k => by unfold forceS; exact forceS_eq l _
def forceT {α β : Type} : List (List α) → (List (List α) → β) → β
  | [], k => k []
  | a :: l, k => forceS a (fun a' => forceT l (fun l' => k (a' :: l')))
theorem forceT_eq {α β : Type} : ∀ (l : List (List α)) (k : List (List α) → β), forceT l k = k l
  | [], k => rfl
  | a :: l, k => by unfold forceT; rw [forceS_eq, forceT_eq l]
section
variable {md : Region.Mode} {ops : Array Oper}
def wsT (md : Region.Mode) (ops : Array Oper) : List (List Nat) := ops.toList.map fun o => (o.after.toList.filter fun e => Region.binds md e).map (·.on)
def lsT (ops : Array Oper) : List (List Nat) := ops.toList.map fun o => o.looksAt ops
def dsT (ops : Array Oper) : List (List Nat) := ops.toList.map fun o => o.dst.toList
def readyB (ws : List (List Nat)) (listed : List Bool) (i : Nat) : Bool := !(listed.getD i true) && (match ws[i]? with | some l => l.all fun e => listed.getD e false | none => false)
def apartB (ls ds : List (List Nat)) (i j : Nat) : Bool := ((ds.getD i []).all fun d => !(ls.getD j []).contains d && !(ds.getD j []).contains d) && (ds.getD j []).all fun d => !(ls.getD i []).contains d
def freeB (ws ls ds : List (List Nat)) (n : Nat) (listed : List Bool) (i : Nat) : Bool := decide (i < n) && (List.range n).all fun j => j == i || listed.getD j true || (ws.getD j []).contains i || apartB ls ds i j
theorem getD_arr {α : Type} (l : List α) (i : Nat) (d : α) : l.toArray.getD i d = l.getD i d := by simp [List.getD_eq_getElem?_getD]
theorem wsT_get {i : Nat} {l : List Nat} (h : (wsT md ops)[i]? = some l) : ∃ o, ops[i]? = some o ∧ l = (o.after.toList.filter fun e => Region.binds md e).map (·.on) := by
  unfold wsT at h
  rw [List.getElem?_map, Array.getElem?_toList] at h
  cases ho : ops[i]? with
  | none => rw [ho] at h; cases h
  | some o => rw [ho] at h; injection h with h; exact ⟨o, rfl, h.symm⟩
theorem readyB_ready {listed : List Bool} {i : Nat} (h : readyB (wsT md ops) listed i = true) : (Region.ready md ops listed.toArray).contains i = true := by
  unfold readyB at h
  simp only [Bool.and_eq_true] at h
  obtain ⟨h1, h2⟩ := h
  split at h2
  · rename_i l hl
    obtain ⟨o, ho, rfl⟩ := wsT_get hl
    rw [List.contains_iff_mem]
    unfold Region.ready
    rw [List.mem_filter, List.mem_range]
    refine ⟨(Array.getElem?_eq_some_iff.1 ho).1, ?_⟩
    simp only [ho, Option.map_some, Option.getD_some, Bool.and_eq_true, getD_arr]
    refine ⟨h1, ?_⟩
    rw [Array.all_eq_true_iff_forall_mem]
    intro e he
    rw [List.all_eq_true] at h2
    by_cases hb : Region.binds md e = true
    · rw [hb]
      simp only [Bool.not_true, Bool.false_or]
      exact h2 e.on (List.mem_map.2 ⟨e, List.mem_filter.2 ⟨by simpa using he, hb⟩, rfl⟩)
    · have : Region.binds md e = false := by simpa using hb
      rw [this]; rfl
  · cases h2
theorem lsT_get {j : Nat} {o : Oper} (h : ops[j]? = some o) : (lsT ops).getD j [] = o.looksAt ops := by
  unfold lsT
  rw [List.getD_eq_getElem?_getD, List.getElem?_map, Array.getElem?_toList, h]; rfl
theorem dsT_get {j : Nat} {o : Oper} (h : ops[j]? = some o) : (dsT ops).getD j [] = o.dst.toList := by
  unfold dsT
  rw [List.getD_eq_getElem?_getD, List.getElem?_map, Array.getElem?_toList, h]; rfl
theorem apartB_apart {i j : Nat} {x y : Oper} (hx : ops[i]? = some x) (hy : ops[j]? = some y) (h : apartB (lsT ops) (dsT ops) i j = true) : x.apart ops y = true := by
  unfold apartB at h
  rw [dsT_get hx, dsT_get hy, lsT_get hx, lsT_get hy] at h
  simp only [Bool.and_eq_true, List.all_eq_true] at h
  obtain ⟨h1, h2⟩ := h
  unfold Oper.apart
  simp only [Bool.and_eq_true]
  constructor
  · cases hd : x.dst with
    | none => rfl
    | some d =>
      have := h1 d (by rw [hd]; simp)
      simp only [Bool.and_eq_true] at this ⊢
      refine ⟨this.1, ?_⟩
      cases he : y.dst with
      | none => rfl
      | some e =>
        have h3 := this.2
        rw [he] at h3
        simp at h3 ⊢
        exact fun e' => h3 e'.symm
  · cases hd : y.dst with
    | none => rfl
    | some d => exact h2 d (by rw [hd]; simp)
theorem freeB_free {listed : List Bool} {i : Nat} (h : freeB (wsT md ops) (lsT ops) (dsT ops) ops.size listed i = true) : Region.free md ops listed.toArray i = true := by
  unfold freeB at h
  simp only [Bool.and_eq_true, decide_eq_true_eq, List.all_eq_true, List.mem_range, Bool.or_eq_true, beq_iff_eq] at h
  obtain ⟨hi, h⟩ := h
  have hx := getD_some hi
  unfold Region.free
  rw [hx]
  simp only [List.all_eq_true, List.mem_range, Bool.or_eq_true, beq_iff_eq, getD_arr]
  intro j hj
  have hy := getD_some hj
  rcases h j hj with ((h1 | h1) | h1) | h1
  · exact Or.inl (Or.inl h1)
  · exact Or.inl (Or.inr h1)
  · right
    rw [hy]
    simp only [Bool.or_eq_true]
    left
    rw [List.contains_iff_mem, List.getD_eq_getElem?_getD] at h1
    cases hw : (wsT md ops)[j]? with
    | none => rw [hw] at h1; simp at h1
    | some l =>
      obtain ⟨o, ho, rfl⟩ := wsT_get hw
      rw [hy] at ho
      injection ho with ho
      subst ho
      rw [hw] at h1
      simp only [Option.getD_some, List.mem_map, List.mem_filter] at h1
      obtain ⟨e, ⟨he, hb⟩, hon⟩ := h1
      rw [← Array.any_toList, List.any_eq_true]
      exact ⟨e, he, by rw [hb, hon]; simp⟩
  · right
    rw [hy]
    simp only [Bool.or_eq_true]
    exact Or.inr (apartB_apart hx hy h1)
def headF (md : Region.Mode) (ops : Array Oper) (ws ls ds : List (List Nat)) (n : Nat) (t : List Nat) : List Nat → List Bool → Bool
  | [], listed => Region.seqI md ops t listed.toArray
  | i :: h, listed => readyB ws listed i && freeB ws ls ds n listed i && forceB (listed.set i true) (fun l => headF md ops ws ls ds n t h l)
theorem headF_head (t : List Nat) : ∀ (h : List Nat) (listed : List Bool), headF md ops (wsT md ops) (lsT ops) (dsT ops) ops.size t h listed = true → Region.headI md ops t h listed.toArray = true
  | [], _, hB => hB
  | i :: h, listed, hB => by
    unfold headF at hB
    rw [forceB_eq] at hB
    simp only [Bool.and_eq_true] at hB
    obtain ⟨⟨h1, h2⟩, h3⟩ := hB
    unfold Region.headI
    simp only [Bool.and_eq_true]
    refine ⟨⟨readyB_ready h1, freeB_free h2⟩, ?_⟩
    rw [List.setIfInBounds_toArray]
    exact headF_head t h _ h3
def planF (md : Region.Mode) (ops : Array Oper) (h t : List Nat) : Bool :=
  Region.noSelect ops && decide (h ++ t).Nodup && decide (0 < t.length) && (h.all fun i => !t.contains i) && decide (0 + (h.length + t.length) = ops.size) &&
  Region.sinkI md ops (h ++ t) h.length && Region.chainI md ops (h ++ t) h.length &&
  (decide ((List.replicate ops.size false).toArray.size = ops.size) && Region.closedI md ops (List.replicate ops.size false).toArray && Region.allI ops (h ++ t) (List.replicate ops.size false).toArray && Region.inI ops (h ++ t) (List.replicate ops.size false).toArray &&
    forceT (wsT md ops) (fun ws => forceT (lsT ops) fun ls => forceT (dsT ops) fun ds => headF md ops ws ls ds ops.size t h (List.replicate ops.size false)))
theorem planF_eq {h t : List Nat} (hB : planF md ops h t = true) : Region.planB md ops [] h t = true := by
  unfold planF at hB
  rw [forceT_eq, forceT_eq, forceT_eq] at hB
  have e : (List.replicate ops.size false).toArray = Array.replicate ops.size false := by simp
  unfold Region.planB Region.pureB
  rw [← e]
  simp only [Bool.and_eq_true, List.length_nil] at hB ⊢
  obtain ⟨⟨⟨⟨⟨⟨⟨b1, b2⟩, b3⟩, b4⟩, b5⟩, b6⟩, b7⟩, ⟨⟨⟨⟨c1, c2⟩, c3⟩, c4⟩, c5⟩⟩ := hB
  exact ⟨⟨⟨⟨⟨⟨⟨b1, b2⟩, b3⟩, b4⟩, b5⟩, b6⟩, b7⟩, ⟨⟨⟨⟨c1, c2⟩, c3⟩, c4⟩, headF_head t h _ c5⟩⟩
end
/-- wp_region_ext, for a long region -/
theorem wp_region_extF {P : Program} {id : Nat} {Q : Exit → Act → World → Prop} {a : Act} {w : World} {l : List Oper} (h t : List Nat) (hm : P.follows .mixedOrders = true) (hB : planF .any l.toArray h t = true)
    (H : wpQuiet P l.toArray (fun w' => ∃ x, w' = w.ext x) (fun a2 => ∀ x, wpList P l.toArray Q (t.map (l.getD · default)) a2 (w.ext x)) (h.map (l.getD · default)) a)
    (hQ : ∀ c (a : Act) d v w, Q (.panic c) (a.put d v) w → Q (.panic c) a w := by intro c a d v w h; cases d <;> exact h) :
    (Code.region id l.toArray true).wp P Q a w :=
  wp_region_ext h t hm (planF_eq hB) H hQ
end Go.Proofs.Ytmnbnjiipnocaaa
/- sender: what the document fixes. -/
namespace Go.Proofs.Ytmnbnjiipnocaaa
open Go Go.RowKit
set_option linter.unusedVariables false
set_option linter.unusedSimpArgs false
attribute [local go_sem] bmax2 bmin2 bmax bmin cell_ext frozen_ext

set_option maxHeartbeats 8000000 in
set_option maxRecDepth 100000 in
theorem sender_awake (w : World) : Calls Try.prog 9 #[] w fun e w' => e = .returned (.bool true) ∧ Below w.heap.size w w' := by
  have HO := kp oneK_length
  have hne := kp one_tags
  obtain ⟨S, hS⟩ : ∃ S, oneK = S := ⟨_, rfl⟩
  rw [hS] at HO hne
  have HSS := kp hS
  clear hS
  have hok : (SP.mk S 0 10 2 5).Ok := ⟨HO.out, show mayP 0 10 2 ((5 : Nat) : Int) = true by decide⟩
  have hokn : (SP.mk S 0 10 2 5).next.Ok := hok.next (show (0 : Int) + ((5 : Nat) : Int) * 10 ≤ 1152921504606846976 by decide)
  have c1 : Kp (∀ w', w.heap.size ≤ w'.heap.size → Calls Try.prog 10 #[.agg (cellsU8 S).toArray, .agg (planL 0 10 2 5).toArray] w' fun e w'' => ∃ b, e = .returned (.tuple #[.pointer (some ⟨b, 0, none⟩), .int .i64 0]) ∧ S1 w.heap.size w'' b ⟨S, 0, 10, 2, 5⟩ 0 ∧ Below w'.heap.size w' w'') := kp (fun w' h => L_New hok w' h)
  have c2 : Kp (∀ w', Calls Try.prog 10 #[.agg (cellsU8 S).toArray, .agg (planL 0 0 0 0).toArray] w' fun e w'' => e = .returned (.tuple #[.pointer none, .int .i64 1]) ∧ Below w'.heap.size w' w'') := kp (fun w' => S_New_bad S 0 0 0 0 HO.out (by decide) w')
  have s1 : Kp (∀ b w', w.heap.size ≤ w'.heap.size → S1 w.heap.size w' b ⟨S, 0, 10, 2, 5⟩ 0 → Calls Try.prog 15 #[.pointer (some ⟨b, 0, none⟩), .int .i64 5, .string ⟨#[111, 110, 101]⟩] w' fun e w'' => e = .returned (.tuple #[.agg (goodPk (chK S) 2 5 1 ⟨#[111, 110, 101]⟩).toArray, .int .i64 0]) ∧ S1 w.heap.size w'' b ⟨S, 0, 10, 2, 5⟩ 1 ∧ MvS w.heap.size w' w'') := kp (fun b w' hB h => by
    have h1 := L_Send hok h 5 (by decide) (by decide) ⟨#[111, 110, 101]⟩ hB (by decide)
    have e1 : (SP.mk S 0 10 2 5).E 0 5 ⟨#[111, 110, 101]⟩ = 0 := show sendE 0 10 ((5 : Nat) : Int) 0 5 ⟨#[111, 110, 101]⟩ = 0 by decide
    have e2 : (SP.mk S 0 10 2 5).N 0 5 ⟨#[111, 110, 101]⟩ = 1 := show sendL 0 10 ((5 : Nat) : Int) 0 5 ⟨#[111, 110, 101]⟩ = 1 by decide
    have e3 : (SP.mk S 0 10 2 5).K 0 5 ⟨#[111, 110, 101]⟩ = goodPk (chK S) 2 5 1 ⟨#[111, 110, 101]⟩ := by
      obtain ⟨j, hat, _, _, _, _, hj, hk⟩ := SP.good hok e1
      have : j = 1 := by rw [← hj, e2]
      rw [hk, this]
    rw [e1, e2, e3] at h1
    exact h1)
  have s2 : Kp (∀ b w', w.heap.size ≤ w'.heap.size → S1 w.heap.size w' b ⟨S, 0, 10, 2, 5⟩ 1 → Calls Try.prog 15 #[.pointer (some ⟨b, 0, none⟩), .int .i64 25, .string ⟨#[116, 104, 114, 101, 101]⟩] w' fun e w'' => e = .returned (.tuple #[.agg (goodPk (chK S) 2 5 3 ⟨#[116, 104, 114, 101, 101]⟩).toArray, .int .i64 0]) ∧ S1 w.heap.size w'' b ⟨S, 0, 10, 2, 5⟩ 3 ∧ MvS w.heap.size w' w'') := kp (fun b w' hB h => by
    have h1 := L_Send hok h 25 (by decide) (by decide) ⟨#[116, 104, 114, 101, 101]⟩ hB (by decide)
    have e1 : (SP.mk S 0 10 2 5).E 1 25 ⟨#[116, 104, 114, 101, 101]⟩ = 0 := show sendE 0 10 ((5 : Nat) : Int) 1 25 ⟨#[116, 104, 114, 101, 101]⟩ = 0 by decide
    have e2 : (SP.mk S 0 10 2 5).N 1 25 ⟨#[116, 104, 114, 101, 101]⟩ = 3 := show sendL 0 10 ((5 : Nat) : Int) 1 25 ⟨#[116, 104, 114, 101, 101]⟩ = 3 by decide
    have e3 : (SP.mk S 0 10 2 5).K 1 25 ⟨#[116, 104, 114, 101, 101]⟩ = goodPk (chK S) 2 5 3 ⟨#[116, 104, 114, 101, 101]⟩ := by
      obtain ⟨j, hat, _, _, _, _, hj, hk⟩ := SP.good hok e1
      have : j = 3 := by rw [← hj, e2]
      rw [hk, this]
    rw [e1, e2, e3] at h1
    exact h1)
  have s3 : Kp (∀ b w', S1 w.heap.size w' b ⟨S, 0, 10, 2, 5⟩ 3 → Calls Try.prog 15 #[.pointer (some ⟨b, 0, none⟩), .int .i64 15, .string ⟨#[108, 97, 116, 101]⟩] w' fun e w'' => e = .returned (.tuple #[.agg zeroPk.toArray, .int .i64 14]) ∧ Below w'.heap.size w' w'') := kp (fun b w' h => by
    have h1 := L_Send_bad hok h 15 (by decide) (by decide) ⟨#[108, 97, 116, 101]⟩ (by decide) (show sendE 0 10 ((5 : Nat) : Int) 3 15 ⟨#[108, 97, 116, 101]⟩ ≠ 0 by decide)
    exact h1)
  have s4 : Kp (∀ b w', S1 w.heap.size w' b ⟨S, 0, 10, 2, 5⟩ 3 → Calls Try.prog 15 #[.pointer (some ⟨b, 0, none⟩), .int .i64 50, .string ⟨#[110, 111, 110, 101]⟩] w' fun e w'' => e = .returned (.tuple #[.agg zeroPk.toArray, .int .i64 10]) ∧ Below w'.heap.size w' w'') := kp (fun b w' h => by
    have h1 := L_Send_bad hok h 50 (by decide) (by decide) ⟨#[110, 111, 110, 101]⟩ (by decide) (show sendE 0 10 ((5 : Nat) : Int) 3 50 ⟨#[110, 111, 110, 101]⟩ ≠ 0 by decide)
    exact h1)
  have s5 : Kp (∀ b w', S1 w.heap.size w' b (SP.next ⟨S, 0, 10, 2, 5⟩) 0 → Calls Try.prog 15 #[.pointer (some ⟨b, 0, none⟩), .int .i64 49, .string ⟨#[97, 104, 101, 97, 100]⟩] w' fun e w'' => e = .returned (.tuple #[.agg zeroPk.toArray, .int .i64 15]) ∧ Below w'.heap.size w' w'') := kp (fun b w' h => by
    have h1 := L_Send_bad hokn h 49 (by decide) (by decide) ⟨#[97, 104, 101, 97, 100]⟩ (by decide) (show sendE (0 + ((5 : Nat) : Int) * 10) 10 ((5 : Nat) : Int) 0 49 ⟨#[97, 104, 101, 97, 100]⟩ ≠ 0 by decide)
    exact h1)
  have c3 : Kp (∀ b w', w.heap.size ≤ w'.heap.size → S1 w.heap.size w' b ⟨S, 0, 10, 2, 5⟩ 3 → Calls Try.prog 13 #[.pointer (some ⟨b, 0, none⟩)] w' fun e w'' => ∃ c, e = .returned (.tuple #[.pointer (some ⟨c, 0, none⟩), .int .i64 0]) ∧ S2 w.heap.size w'' b c ⟨S, 0, 10, 2, 5⟩ (SP.next ⟨S, 0, 10, 2, 5⟩) 3 0 ∧ Below w'.heap.size w' w'') := kp (fun b w' hB h => (L_Renew hok h hB).mono fun e w'' hh => by
    rcases hh with ⟨h1, _⟩ | ⟨_, h2⟩
    · exact absurd h1 (show ¬ (1152921504606846976 : Int) < 0 + ((5 : Nat) : Int) * 10 by decide)
    · exact h2)
  have q1 : Kp (∀ b w', S1 w.heap.size w' b ⟨S, 0, 10, 2, 5⟩ 3 → Calls Try.prog 19 #[.pointer (some ⟨b, 0, none⟩)] w' fun e w'' => e = .returned (.agg (cellsU8 (chK S 5)).toArray) ∧ Below w'.heap.size w' w'') := kp (fun b w' h => by have h1 := L_Known hok h; dsimp only at h1; exact h1)
  have q2 : Kp (∀ b w', S1 w.heap.size w' b ⟨S, 0, 10, 2, 5⟩ 3 → Calls Try.prog 17 #[.pointer (some ⟨b, 0, none⟩)] w' fun e w'' => e = .returned (.int .i64 3) ∧ w' = w'') := kp (fun b w' h => L_Last hok h)
  have k1 : Kp (∀ w', Calls Try.prog 18 #[.agg (cellsU8 S).toArray, .int .i64 5, .int .i64 1] w' fun e w'' => e = .returned (.tuple #[.agg (cellsU8 (chK S 4)).toArray, .int .i64 0]) ∧ Below w'.heap.size w' w'') := kp (fun w' => R_Key_good S HO.out 5 1 4 (by decide) (by decide) (by decide) (by decide) (by decide) w')
  have k2 : Kp (∀ w', Calls Try.prog 18 #[.agg (cellsU8 S).toArray, .int .i64 5, .int .i64 3] w' fun e w'' => e = .returned (.tuple #[.agg (cellsU8 (chK S 2)).toArray, .int .i64 0]) ∧ Below w'.heap.size w' w'') := kp (fun w' => R_Key_good S HO.out 5 3 2 (by decide) (by decide) (by decide) (by decide) (by decide) w')
  have k3 : Kp (∀ w', Calls Try.prog 18 #[.agg (cellsU8 S).toArray, .int .i64 5, .int .i64 0] w' fun e w'' => e = .returned (.tuple #[.agg (cellsU8 (chK S 5)).toArray, .int .i64 0]) ∧ Below w'.heap.size w' w'') := kp (fun w' => R_Key_good S HO.out 5 0 5 (by decide) (by decide) (by decide) (by decide) (by decide) w')
  have h2 := chK_length S 2
  have h4 := chK_length S 4
  have h5 := chK_length S 5
  have E1 : goodPk (chK S) 2 5 1 ⟨#[111, 110, 101]⟩ = pkL 1 ⟨#[111, 110, 101]⟩ (str (tagD (chK S 4) 1 ⟨#[111, 110, 101]⟩)) 0 zeroK := rfl
  have E3 : goodPk (chK S) 2 5 3 ⟨#[116, 104, 114, 101, 101]⟩ = pkL 3 ⟨#[116, 104, 114, 101, 101]⟩ (str (tagD (chK S 2) 3 ⟨#[116, 104, 114, 101, 101]⟩)) 1 (chK S 4) := rfl
  have r1 := kp (fun w' => R12_Tag (chK S 4) 1 ⟨#[111, 110, 101]⟩ h4 (by decide) w')
  have r2 := kp (fun w' => S_Tag (chK S 4) 1 ⟨#[111, 110, 101]⟩ h4 (by decide) w')
  have r3 := kp (fun w' => S_Right (chK S 2) 3 ⟨#[116, 104, 114, 101, 101]⟩ (str (tagD (chK S 2) 3 ⟨#[116, 104, 114, 101, 101]⟩)) 1 (chK S 4) h2 h4 (by decide) (by rw [str_size, tagD_length]; decide) w')
  have r4 := kp (fun w' => S_Right (chK S 2) 1 ⟨#[111, 110, 101]⟩ (str (tagD (chK S 4) 1 ⟨#[111, 110, 101]⟩)) 0 zeroK h2 zeroK_length (by decide) (by rw [str_size, tagD_length]; decide) w')
  rw [decide_eq_true rfl] at r3
  rw [decide_eq_false hne.out] at r4
  rw [← E1] at r4
  rw [← E3] at r3
  have p0 : Kp ((goodPk (chK S) 2 5 1 ⟨#[111, 110, 101]⟩)[0]? = some (.int .i64 1)) := kp (by rw [E1]; rfl)
  have p2 : Kp ((goodPk (chK S) 2 5 1 ⟨#[111, 110, 101]⟩)[2]? = some (.string (str (tagD (chK S 4) 1 ⟨#[111, 110, 101]⟩)))) := kp (by rw [E1]; rfl)
  have p3 : Kp ((goodPk (chK S) 2 5 1 ⟨#[111, 110, 101]⟩)[3]? = some (.int .i64 0)) := kp (by rw [E1]; rfl)
  have q0 : Kp ((goodPk (chK S) 2 5 3 ⟨#[116, 104, 114, 101, 101]⟩)[0]? = some (.int .i64 3)) := kp (by rw [E3]; rfl)
  have q3 : Kp ((goodPk (chK S) 2 5 3 ⟨#[116, 104, 114, 101, 101]⟩)[3]? = some (.int .i64 1)) := kp (by rw [E3]; rfl)
  have q4 : Kp (∀ (j : Nat) v, (cellsU8 (chK S 4))[j]? = some v → (goodPk (chK S) 2 5 3 ⟨#[116, 104, 114, 101, 101]⟩)[4 + j]? = some v) := kp (fun j v hv => by
    rw [E3]
    unfold pkL
    rw [List.getElem?_append_right (by simp), show 4 + j - [Value.int .i64 3, .string ⟨#[116, 104, 114, 101, 101]⟩, .string (str (tagD (chK S 2) 3 ⟨#[116, 104, 114, 101, 101]⟩)), .int .i64 1].length = j by simp]
    exact hv)
  have l1 : (goodPk (chK S) 2 5 1 ⟨#[111, 110, 101]⟩).length = 36 := by rw [E1]; exact pkL_length zeroK_length
  have o1 := kp (show ∀ v ∈ goodPk (chK S) 2 5 1 ⟨#[111, 110, 101]⟩, v.oneCell' = true by rw [E1]; exact pkL_one _ _ _ _ _)
  have l3 : (goodPk (chK S) 2 5 3 ⟨#[116, 104, 114, 101, 101]⟩).length = 36 := by rw [E3]; exact pkL_length h4
  have o3 := kp (show ∀ v ∈ goodPk (chK S) 2 5 3 ⟨#[116, 104, 114, 101, 101]⟩, v.oneCell' = true by rw [E3]; exact pkL_one _ _ _ _ _)
  clear E1 E3 hne hok hokn
  generalize goodPk (chK S) 2 5 1 ⟨#[111, 110, 101]⟩ = P1 at *
  generalize goodPk (chK S) 2 5 3 ⟨#[116, 104, 114, 101, 101]⟩ = P3 at *
  generalize str (tagD (chK S 4) 1 ⟨#[111, 110, 101]⟩) = TG at *
  generalize chK S 2 = A2 at *
  generalize chK S 4 = A4 at *
  generalize chK S 5 = A5 at *
  have H2 := kp h2
  have H4 := kp h4
  have H5 := kp h5
  have L1 := kp l1
  have L3 := kp l3
  clear h2 h4 h5 l1 l3
  have LP := kp (planL_length 0 10 2 5)
  have OP := kp (planL_one 0 10 2 5)
  obtain ⟨PL, hPL⟩ : ∃ PL, planL 0 10 2 5 = PL := ⟨_, rfl⟩
  rw [hPL] at c1 LP OP
  have HPL := kp hPL
  clear hPL
  obtain ⟨PZ, hPZ⟩ : ∃ PZ, planL 0 0 0 0 = PZ := ⟨_, rfl⟩
  rw [hPZ] at c2
  have HPZ := kp hPZ
  clear hPZ
  have LZ := kp zeroPk_length
  have OZ := kp zeroPk_one
  obtain ⟨ZP, hZP⟩ : ∃ ZP, zeroPk = ZP := ⟨_, rfl⟩
  rw [hZP] at s3 s4 s5 LZ OZ
  clear hZP
  have HB := kp (Below.refl w.heap.size w)
  go_enter Try.func9, Try.ntmps9
  have hlen_1 := LP.out
  have SC_1 := fun (cur : Array Value) (h : cur.size = 4) => sc_new (P := Try.prog) w 25 PL (OP.out) cur (by rw [hlen_1]; exact h)
  have hge_p := kp HB.out.size
  have HB := kp (ba HB.out (.cells PL.toArray 25))
  have K_p := kp (Blk.new w 25 PL.toArray)
  go_upto_region 2 with (refine wpL_val 24 rfl rfl (.agg PL.toArray) (by rw [← HPL.out]; kernel_rfl) ?_)
  clear SC_1 hlen_1
  generalize w.alloc (.cells PL.toArray 25) = W_1 at K_p HB ⊢
  generalize w.heap.size = b_p at K_p hge_p ⊢
  have L_p := ld_all (P := Try.prog) b_p 4 25 25 PL _ Try.underlying25 rfl info_plan LP.out K_p.out
  go_wp2_with (first | (refine wpL_val 26 rfl rfl (.agg (cellsU8 S).toArray) (by rw [← HSS.out]; kernel_rfl) ?_) | (refine wpL_load rfl 25 _ rfl rfl L_p ?_))
  clear L_p
  refine (c1.out _ HB.out.size).mono ?_
  rintro e w_2 ⟨b_a, rfl, hs_2, hb_2⟩
  have K_p := kp (K_p.out.bel hb_2)
  have HB := kp (bt' HB.out hb_2 HB.out.size)
  have S_a := kp hs_2
  clear hs_2 hb_2
  clear K_p
  go_wp2_with (first | (refine wpL_val 32 rfl rfl (.agg (cellsU8 S).toArray) (by rw [← HSS.out]; kernel_rfl) ?_) | (refine wpL_val 33 rfl rfl (.agg PZ.toArray) (by rw [← HPZ.out]; kernel_rfl) ?_))
  refine (c2.out _).mono ?_
  rintro e w_3 ⟨rfl, hb_3⟩
  have S_a := kp (S_a.out.bel hb_3)
  have HB := kp (bt' HB.out hb_3 HB.out.size)
  clear hb_3
  go_wp2_with fail
  refine (s1.out _ _ HB.out.size S_a.out).mono ?_
  rintro e w_4 ⟨rfl, hs_4, hm_4⟩
  have HB := kp (HB.out.trans hm_4.below)
  have S_a := kp hs_4
  clear hs_4 hm_4
  have hlen_5 := L1.out
  have SC_5 := fun (cur : Array Value) (h : cur.size = 36) => sc_new (P := Try.prog) w_4 44 P1 (o1.out) cur (by rw [hlen_5]; exact h)
  have hge_x := kp HB.out.size
  have S_a := kp (S_a.out.bel (ba (Below.refl _ _) (.cells P1.toArray 44)))
  have HB := kp (ba HB.out (.cells P1.toArray 44))
  have K_x := kp (Blk.new w_4 44 P1.toArray)
  go_wp2_with fail
  clear SC_5 hlen_5
  generalize w_4.alloc (.cells P1.toArray 44) = W_5 at K_x S_a HB ⊢
  generalize w_4.heap.size = b_x at K_x hge_x ⊢
  refine (s2.out _ _ HB.out.size S_a.out).mono ?_
  rintro e w_6 ⟨rfl, hs_6, hm_6⟩
  have K_x := kp (hm_6.keep (by decide) (by decide) (by decide) (by decide) K_x.out)
  have HB := kp (HB.out.trans hm_6.below)
  have S_a := kp hs_6
  clear hs_6 hm_6
  have hlen_7 := L3.out
  have SC_7 := fun (cur : Array Value) (h : cur.size = 36) => sc_new (P := Try.prog) w_6 44 P3 (o3.out) cur (by rw [hlen_7]; exact h)
  have hge_y := kp HB.out.size
  have K_x := kp (K_x.out.alloc (.cells P3.toArray 44))
  have S_a := kp (S_a.out.bel (ba (Below.refl _ _) (.cells P3.toArray 44)))
  have HB := kp (ba HB.out (.cells P3.toArray 44))
  have K_y := kp (Blk.new w_6 44 P3.toArray)
  go_wp2_with fail
  clear SC_7 hlen_7
  generalize w_6.alloc (.cells P3.toArray 44) = W_7 at K_x K_y S_a HB ⊢
  generalize w_6.heap.size = b_y at K_y hge_y ⊢
  refine (s3.out _ _ S_a.out).mono ?_
  rintro e w_8 ⟨rfl, hb_8⟩
  have K_x := kp (K_x.out.bel hb_8)
  have K_y := kp (K_y.out.bel hb_8)
  have S_a := kp (S_a.out.bel hb_8)
  have HB := kp (bt' HB.out hb_8 HB.out.size)
  clear hb_8
  have hlen_9 := LZ.out
  have SC_9 := fun (cur : Array Value) (h : cur.size = 36) => sc_new (P := Try.prog) w_8 44 ZP (OZ.out) cur (by rw [hlen_9]; exact h)
  have hge_u := kp HB.out.size
  have K_x := kp (K_x.out.alloc (.cells ZP.toArray 44))
  have K_y := kp (K_y.out.alloc (.cells ZP.toArray 44))
  have S_a := kp (S_a.out.bel (ba (Below.refl _ _) (.cells ZP.toArray 44)))
  have HB := kp (ba HB.out (.cells ZP.toArray 44))
  have K_u := kp (Blk.new w_8 44 ZP.toArray)
  go_wp2_with fail
  clear SC_9 hlen_9
  generalize w_8.alloc (.cells ZP.toArray 44) = W_9 at K_x K_y K_u S_a HB ⊢
  generalize w_8.heap.size = b_u at K_u hge_u ⊢
  clear K_u
  refine (s4.out _ _ S_a.out).mono ?_
  rintro e w_10 ⟨rfl, hb_10⟩
  have K_x := kp (K_x.out.bel hb_10)
  have K_y := kp (K_y.out.bel hb_10)
  have S_a := kp (S_a.out.bel hb_10)
  have HB := kp (bt' HB.out hb_10 HB.out.size)
  clear hb_10
  have hlen_11 := LZ.out
  have SC_11 := fun (cur : Array Value) (h : cur.size = 36) => sc_new (P := Try.prog) w_10 44 ZP (OZ.out) cur (by rw [hlen_11]; exact h)
  have hge_u := kp HB.out.size
  have K_x := kp (K_x.out.alloc (.cells ZP.toArray 44))
  have K_y := kp (K_y.out.alloc (.cells ZP.toArray 44))
  have S_a := kp (S_a.out.bel (ba (Below.refl _ _) (.cells ZP.toArray 44)))
  have HB := kp (ba HB.out (.cells ZP.toArray 44))
  have K_u := kp (Blk.new w_10 44 ZP.toArray)
  go_wp2_with (refine wpL_val 60 rfl rfl (.agg (cellsU8 S).toArray) (by rw [← HSS.out]; kernel_rfl) ?_)
  clear SC_11 hlen_11
  generalize w_10.alloc (.cells ZP.toArray 44) = W_11 at K_x K_y K_u S_a HB ⊢
  generalize w_10.heap.size = b_u at K_u hge_u ⊢
  clear K_u
  refine (k1.out _).mono ?_
  rintro e w_12 ⟨rfl, hb_12⟩
  have K_x := kp (K_x.out.bel hb_12)
  have K_y := kp (K_y.out.bel hb_12)
  have S_a := kp (S_a.out.bel hb_12)
  have HB := kp (bt' HB.out hb_12 HB.out.size)
  clear hb_12
  have hlen_13 := key_cells _ H4.out
  have SC_13 := fun (cur : Array Value) (h : cur.size = 32) => sc_new (P := Try.prog) w_12 23 (cellsU8 A4) (cellsU8_one _) cur (by rw [hlen_13]; exact h)
  have hge_k := kp HB.out.size
  have K_x := kp (K_x.out.alloc (.cells (cellsU8 A4).toArray 23))
  have K_y := kp (K_y.out.alloc (.cells (cellsU8 A4).toArray 23))
  have S_a := kp (S_a.out.bel (ba (Below.refl _ _) (.cells (cellsU8 A4).toArray 23)))
  have HB := kp (ba HB.out (.cells (cellsU8 A4).toArray 23))
  have K_k := kp (Blk.new w_12 23 (cellsU8 A4).toArray)
  go_wp2_with (refine wpL_val 65 rfl rfl (.agg (cellsU8 S).toArray) (by rw [← HSS.out]; kernel_rfl) ?_)
  clear SC_13 hlen_13
  generalize w_12.alloc (.cells (cellsU8 A4).toArray 23) = W_13 at K_x K_y K_k S_a HB ⊢
  generalize w_12.heap.size = b_k at K_k hge_k ⊢
  refine (k2.out _).mono ?_
  rintro e w_14 ⟨rfl, hb_14⟩
  have K_x := kp (K_x.out.bel hb_14)
  have K_y := kp (K_y.out.bel hb_14)
  have K_k := kp (K_k.out.bel hb_14)
  have S_a := kp (S_a.out.bel hb_14)
  have HB := kp (bt' HB.out hb_14 HB.out.size)
  clear hb_14
  have hlen_15 := key_cells _ H2.out
  have SC_15 := fun (cur : Array Value) (h : cur.size = 32) => sc_new (P := Try.prog) w_14 23 (cellsU8 A2) (cellsU8_one _) cur (by rw [hlen_15]; exact h)
  have hge_l := kp HB.out.size
  have K_x := kp (K_x.out.alloc (.cells (cellsU8 A2).toArray 23))
  have K_y := kp (K_y.out.alloc (.cells (cellsU8 A2).toArray 23))
  have K_k := kp (K_k.out.alloc (.cells (cellsU8 A2).toArray 23))
  have S_a := kp (S_a.out.bel (ba (Below.refl _ _) (.cells (cellsU8 A2).toArray 23)))
  have HB := kp (ba HB.out (.cells (cellsU8 A2).toArray 23))
  have K_l := kp (Blk.new w_14 23 (cellsU8 A2).toArray)
  go_wp2_with (refine wpL_val 70 rfl rfl (.agg (cellsU8 S).toArray) (by rw [← HSS.out]; kernel_rfl) ?_)
  clear SC_15 hlen_15
  generalize w_14.alloc (.cells (cellsU8 A2).toArray 23) = W_15 at K_x K_y K_k K_l S_a HB ⊢
  generalize w_14.heap.size = b_l at K_l hge_l ⊢
  refine (k3.out _).mono ?_
  rintro e w_16 ⟨rfl, hb_16⟩
  have K_x := kp (K_x.out.bel hb_16)
  have K_y := kp (K_y.out.bel hb_16)
  have K_k := kp (K_k.out.bel hb_16)
  have K_l := kp (K_l.out.bel hb_16)
  have S_a := kp (S_a.out.bel hb_16)
  have HB := kp (bt' HB.out hb_16 HB.out.size)
  clear hb_16
  have hlen_17 := key_cells _ H5.out
  have SC_17 := fun (cur : Array Value) (h : cur.size = 32) => sc_new (P := Try.prog) w_16 23 (cellsU8 A5) (cellsU8_one _) cur (by rw [hlen_17]; exact h)
  have hge_m := kp HB.out.size
  have K_x := kp (K_x.out.alloc (.cells (cellsU8 A5).toArray 23))
  have K_y := kp (K_y.out.alloc (.cells (cellsU8 A5).toArray 23))
  have K_k := kp (K_k.out.alloc (.cells (cellsU8 A5).toArray 23))
  have K_l := kp (K_l.out.alloc (.cells (cellsU8 A5).toArray 23))
  have S_a := kp (S_a.out.bel (ba (Below.refl _ _) (.cells (cellsU8 A5).toArray 23)))
  have HB := kp (ba HB.out (.cells (cellsU8 A5).toArray 23))
  have K_m := kp (Blk.new w_16 23 (cellsU8 A5).toArray)
  go_wp2_with fail
  clear SC_17 hlen_17
  generalize w_16.alloc (.cells (cellsU8 A5).toArray 23) = W_17 at K_x K_y K_k K_l K_m S_a HB ⊢
  generalize w_16.heap.size = b_m at K_m hge_m ⊢
  refine (c3.out _ _ HB.out.size S_a.out).mono ?_
  rintro e w_18 ⟨b_n, rfl, hs_18, hb_18⟩
  have K_x := kp (K_x.out.bel hb_18)
  have K_y := kp (K_y.out.bel hb_18)
  have K_k := kp (K_k.out.bel hb_18)
  have K_l := kp (K_l.out.bel hb_18)
  have K_m := kp (K_m.out.bel hb_18)
  have HB := kp (bt' HB.out hb_18 HB.out.size)
  have S_d := kp hs_18
  clear hs_18 hb_18
  clear S_a
  go_wp2_with fail
  refine (s5.out _ _ S_d.out.snd).mono ?_
  rintro e w_19 ⟨rfl, hb_19⟩
  have K_x := kp (K_x.out.bel hb_19)
  have K_y := kp (K_y.out.bel hb_19)
  have K_k := kp (K_k.out.bel hb_19)
  have K_l := kp (K_l.out.bel hb_19)
  have K_m := kp (K_m.out.bel hb_19)
  have S_d := kp (S_d.out.bel hb_19)
  have HB := kp (bt' HB.out hb_19 HB.out.size)
  clear hb_19
  have hlen_20 := LZ.out
  have SC_20 := fun (cur : Array Value) (h : cur.size = 36) => sc_new (P := Try.prog) w_19 44 ZP (OZ.out) cur (by rw [hlen_20]; exact h)
  have hge_u := kp HB.out.size
  have K_x := kp (K_x.out.alloc (.cells ZP.toArray 44))
  have K_y := kp (K_y.out.alloc (.cells ZP.toArray 44))
  have K_k := kp (K_k.out.alloc (.cells ZP.toArray 44))
  have K_l := kp (K_l.out.alloc (.cells ZP.toArray 44))
  have K_m := kp (K_m.out.alloc (.cells ZP.toArray 44))
  have S_d := kp (S_d.out.bel (ba (Below.refl _ _) (.cells ZP.toArray 44)))
  have HB := kp (ba HB.out (.cells ZP.toArray 44))
  have K_u := kp (Blk.new w_19 44 ZP.toArray)
  go_upto_region 17 with (fail)
  clear SC_20 hlen_20
  generalize w_19.alloc (.cells ZP.toArray 44) = W_20 at K_x K_y K_k K_l K_m K_u S_d HB ⊢
  generalize w_19.heap.size = b_u at K_u hge_u ⊢
  clear K_u
  refine wp_region_extF [0, 1, 2, 3, 4, 5, 6, 7, 8, 9, 10, 11, 12, 13, 14, 15, 16, 17, 18, 19, 20, 21, 22, 23, 24, 25, 26, 27, 28, 29, 30, 31, 32, 33, 34, 35, 36, 37, 38, 39, 40, 41, 42, 43, 44, 45, 46, 47, 48, 49, 50, 51, 52, 53, 54, 55, 56, 57, 58, 59, 60, 61, 62, 63, 64, 65, 66, 67, 68, 69, 70, 71, 72, 73, 74, 75, 76, 77, 78, 79, 80, 81, 82, 83, 84, 85, 86, 87, 88, 89, 90, 91] [92] (by kernel_rfl) (by kernel_rfl) ?_
  simp only [List.append_eq, List.cons_append, List.nil_append, List.map_cons, List.map_nil, List.getD_cons_succ, List.getD_cons_zero]
  have Q_k := kp (fun x => ldK A4 H4.out (K_k.out.bel (ext_below W_20 x)))
  have Q_l := kp (fun x => ldK A2 H2.out (K_l.out.bel (ext_below W_20 x)))
  have Q_m := kp (fun x => ldK A5 H5.out (K_m.out.bel (ext_below W_20 x)))
  have Q_x := kp (fun x => ld_all (P := Try.prog) b_x 36 44 44 P1 _ Try.underlying44 rfl info_pk L1.out (K_x.out.bel (ext_below W_20 x)))
  have Q_y := kp (fun x => ld_all (P := Try.prog) b_y 36 44 44 P3 _ Try.underlying44 rfl info_pk L3.out (K_y.out.bel (ext_below W_20 x)))
  have Q_yk := kp (fun x => ld_row (P := Try.prog) (w := W_20.ext x) b_y 4 32 23 (cellsU8 A4) _ Try.underlying23 rfl info_key (key_cells _ H4.out) (fun j v hv => (K_y.out.bel (ext_below W_20 x)).atL (q4.out j v hv)))
  have x0 := K_x.out.atL p0.out
  have x2 := K_x.out.atL p2.out
  have x3 := K_x.out.atL p3.out
  have y0 := K_y.out.atL q0.out
  have y3 := K_y.out.atL q3.out
  have lx := K_x.out.lt
  have ly := K_y.out.lt
  have HX := kp (fun x => S_d.out.fst.bel (ext_below W_20 x))
  repeat (first
    | (go_big_quiet_want; refine quiet_load _ rfl 23 _ rfl rfl (fun w hw => by obtain ⟨x, rfl⟩ := hw; exact Q_k.out x) ?_; go_simp; go_big_quiet_on)
    | (go_big_quiet_want; refine quiet_load _ rfl 23 _ rfl rfl (fun w hw => by obtain ⟨x, rfl⟩ := hw; exact Q_l.out x) ?_; go_simp; go_big_quiet_on)
    | (go_big_quiet_want; refine quiet_load _ rfl 23 _ rfl rfl (fun w hw => by obtain ⟨x, rfl⟩ := hw; exact Q_m.out x) ?_; go_simp; go_big_quiet_on)
    | (go_big_quiet_want; refine quiet_load _ rfl 44 _ rfl rfl (fun w hw => by obtain ⟨x, rfl⟩ := hw; exact Q_x.out x) ?_; go_simp; go_big_quiet_on)
    | (go_big_quiet_want; refine quiet_load _ rfl 44 _ rfl rfl (fun w hw => by obtain ⟨x, rfl⟩ := hw; exact Q_y.out x) ?_; go_simp; go_big_quiet_on)
    | (go_big_quiet_want; refine quiet_load _ rfl 23 _ rfl rfl (fun w hw => by obtain ⟨x, rfl⟩ := hw; exact Q_yk.out x) ?_; go_simp; go_big_quiet_on)
    | (go_big_quiet_want; refine quiet_eqk (D := A4) (E := A4) _ rfl rfl rfl rfl H4.out H4.out ?_; simp only [decide_true, Bool.not_true]; go_simp; go_big_quiet_on)
    | (go_big_quiet_want; refine quiet_eqk (D := A5) (E := A5) _ rfl rfl rfl rfl H5.out H5.out ?_; simp only [decide_true, Bool.not_true]; go_simp; go_big_quiet_on)
    | go_big_quiet_step (first | (go_at_call 20; with_reducible exact Calls.ext_of (r1.out _)) | (go_at_call 21; with_reducible exact Calls.ext_of (r2.out _)) | (go_at_call 22; with_reducible exact Calls.ext_of (r3.out _)) | (go_at_call 22; with_reducible exact Calls.ext_of (r4.out _)) | (go_at_call 19; with_reducible exact Calls.ext_of (q1.out _ _ (HX.out _))) | (go_at_call 17; with_reducible exact Calls.ext_same (q2.out _ _ (HX.out _)))))
  refine wpQuiet_nil ?_
  rintro z
  go_wp2
  go_ret
  exact ⟨rfl, bt' HB.out (ext_below W_20 z) HB.out.size⟩
end Go.Proofs.Ytmnbnjiipnocaaa
/- Arguments opened to their leaves: structs, arrays, slices of them. -/
namespace Go.Proofs.Ytmnbnjiipnocaaa
open Go Go.RowKit Go.ChangeShapes Go.WideShapes Go.ChangeAt Go.Deep
set_option linter.unusedVariables false
set_option linter.unusedSimpArgs false

inductive Leaf where
  | int (k : IntKind)
  | bool
  | str
def Leaf.fits : Leaf → Value → Prop
  | .int k, v => ∃ z, v = .int k z ∧ (Lit.int k z).wf = true
  | .bool, v => ∃ b, v = .bool b
  | .str, v => ∃ s : ByteArray, v = .string s ∧ s.size ≤ maxLen
def Fits : List Leaf → List Value → Prop
  | [], [] => True
  | l :: ls, v :: vs => l.fits v ∧ Fits ls vs
  | _, _ => False
theorem Fits.append : ∀ {a : List Leaf} {x : List Value} {b : List Leaf} {y : List Value}, Fits a x → Fits b y → Fits (a ++ b) (x ++ y)
  | [], [], _, _, _, h => h
  | _ :: _, _ :: _, _, _, h1, h2 => ⟨h1.1, Fits.append h1.2 h2⟩
theorem Fits.len : ∀ {a : List Leaf} {x : List Value}, Fits a x → x.length = a.length
  | [], [], _ => rfl
  | _ :: _, _ :: _, h => by simp [Fits.len h.2]

theorem Fits.int {k : IntKind} {ls : List Leaf} {r : List Value} (h : Fits (.int k :: ls) r) : ∃ z vs, r = .int k z :: vs ∧ (Lit.int k z).wf = true ∧ Fits ls vs := by
  cases r with
  | nil => exact h.elim
  | cons v vs => obtain ⟨⟨z, rfl, hz⟩, h2⟩ := h; exact ⟨z, vs, rfl, hz, h2⟩
theorem Fits.bool {ls : List Leaf} {r : List Value} (h : Fits (.bool :: ls) r) : ∃ z vs, r = .bool z :: vs ∧ Fits ls vs := by
  cases r with
  | nil => exact h.elim
  | cons v vs => obtain ⟨⟨z, rfl⟩, h2⟩ := h; exact ⟨z, vs, rfl, h2⟩
theorem Fits.str {ls : List Leaf} {r : List Value} (h : Fits (.str :: ls) r) : ∃ (s : ByteArray) (vs : List Value), r = .string s :: vs ∧ s.size ≤ maxLen ∧ Fits ls vs := by
  cases r with
  | nil => exact h.elim
  | cons v vs => obtain ⟨⟨z, rfl, hz⟩, h2⟩ := h; exact ⟨z, vs, rfl, hz, h2⟩
theorem Fits.nil {r : List Value} (h : Fits [] r) : r = [] := by
  cases r with
  | nil => rfl
  | cons v vs => exact h.elim

def fieldLeaves (P : Program) (L : TypeId → Option (List Leaf)) : Nat → List Field → Option (List Leaf)
  | _, [] => some []
  | o, f :: fs =>
    match L f.type, fieldLeaves P L (o + P.cellsOf f.type) fs with
    | some l, some r => if f.offset = o ∧ P.cellsOf f.type = l.length then some (l ++ r) else none
    | _, _ => none
def leaves (P : Program) : Nat → TypeId → Option (List Leaf)
  | 0, _ => none
  | n + 1, t =>
    match P.underlying t with
    | some .bool => some [.bool]
    | some (.int k) => some [.int k]
    | some .string => some [.str]
    | some (.struct fs) =>
      match fieldLeaves P (leaves P n) 0 fs.toList with
      | some r => if P.cellsOf t = r.length then some r else none
      | none => none
    | some (.array m e) =>
      match leaves P n e with
      | some l => if P.cellsOf e = l.length ∧ P.cellsOf t = m * l.length then some (List.replicate m l).flatten else none
      | none => none
    | _ => none

section
variable {H : Type} {enc : TypeId × Value → H} {P : Program} {w : World} {base : Nat} {spare : Nat → Bool} {held : Bool}

theorem fields_fit {L : TypeId → Option (List Leaf)} {cs : List Value}
    (hL : ∀ t l fuel c x, L t = some l → DataW.trod enc P w base spare held fuel t c = some x → Fits l c) :
    ∀ (fl : List Field) (o : Nat) (r : List Leaf), fieldLeaves P L o fl = some r → (∀ f ∈ fl, ∃ m y, DataW.trod enc P w base spare held m f.type ((cs.drop f.offset).take (P.cellsOf f.type)) = some y) →
      cs.length = o + r.length → Fits r (cs.drop o)
  | [], o, r, h, _, hlen => by
    simp only [fieldLeaves, Option.some.injEq] at h
    subst h
    rw [List.drop_of_length_le (by simpa using Nat.le_of_eq hlen)]
    trivial
  | f :: fl, o, r, h, hf, hlen => by
    unfold fieldLeaves at h
    split at h
    · rename_i l r' h1 h2
      split at h
      · rename_i hc
        obtain ⟨rfl, hk⟩ := hc
        simp only [Option.some.injEq] at h
        subst h
        rw [List.length_append] at hlen
        obtain ⟨m, y, hy⟩ := hf f (by simp)
        have := fields_fit hL fl _ r' h2 (fun g hg => hf g (by simp [hg])) (by rw [hlen, hk]; omega)
        have hl := hL _ _ _ _ _ h1 hy
        have e : cs.drop f.offset = (cs.drop f.offset).take (P.cellsOf f.type) ++ cs.drop (f.offset + P.cellsOf f.type) := by
          rw [← List.drop_drop, List.take_append_drop]
        rw [e]
        exact hl.append this
      · cases h
    · cases h

theorem rows_fit {l : List Leaf} {cs : List Value} (m : Nat) : ∀ (j : Nat), j ≤ m → cs.length = m * l.length → (∀ i, i < m → Fits l ((cs.drop (i * l.length)).take l.length)) → Fits (List.replicate j l).flatten (cs.drop ((m - j) * l.length))
  | 0, _, hlen, _ => by
    rw [Nat.sub_zero, List.drop_of_length_le (by omega)]
    trivial
  | j + 1, hj, hlen, h => by
    have := rows_fit m j (by omega) hlen h
    have h1 := h (m - (j + 1)) (by omega)
    have e : cs.drop ((m - (j + 1)) * l.length) = (cs.drop ((m - (j + 1)) * l.length)).take l.length ++ cs.drop ((m - j) * l.length) := by
      have e2 : (m - j) * l.length = (m - (j + 1)) * l.length + l.length := by
        rw [show m - j = (m - (j + 1)) + 1 by omega, Nat.succ_mul]
      rw [e2, ← List.drop_drop, List.take_append_drop]
    rw [e, List.replicate_succ, List.flatten_cons]
    exact h1.append this

theorem fits_of_trod : ∀ (n : Nat) (t : TypeId) (ls : List Leaf) (fuel : Nat) (cs : List Value) (x : DataW H × List MemPlace), leaves P n t = some ls → DataW.trod enc P w base spare held fuel t cs = some x → Fits ls cs
  | 0, _, _, _, _, _, h, _ => by simp [leaves] at h
  | n + 1, t, ls, fuel, cs, x, h, ht => by
    unfold leaves at h
    split at h
    · rename_i hu
      obtain ⟨b, rfl, _⟩ := DataW.trod_bool hu ht
      simp only [Option.some.injEq] at h; subst h
      exact ⟨⟨b, rfl⟩, trivial⟩
    · rename_i k hu
      obtain ⟨z, rfl, _, hw⟩ := DataW.trod_int hu ht
      simp only [Option.some.injEq] at h; subst h
      exact ⟨⟨z, rfl, hw⟩, trivial⟩
    · rename_i hu
      obtain ⟨s, rfl, _, hw⟩ := DataW.trod_string hu ht
      simp only [Option.some.injEq] at h; subst h
      exact ⟨⟨s, rfl, hw⟩, trivial⟩
    · rename_i fs hu
      split at h
      · rename_i r hr
        split at h
        · rename_i hc
          simp only [Option.some.injEq] at h; subst h
          obtain ⟨xs, m, _, _, hlen, hxl, hf⟩ := DataW.trod_struct hu ht
          have := fields_fit (enc := enc) (w := w) (base := base) (spare := spare) (held := held) (cs := cs) (fun t l fu c x h1 h2 => fits_of_trod n t l fu c x h1 h2) fs.toList 0 r hr (fun f hfm => by
            obtain ⟨i, hi, he⟩ := List.getElem_of_mem hfm
            have hi' : i < fs.size := by simpa using hi
            have := hf i f (by rw [Array.getElem?_eq_getElem hi']; simpa using he)
            rw [List.getElem?_eq_getElem (by omega)] at this
            exact ⟨m, _, this⟩) (by rw [hlen, hc, Nat.zero_add])
          simpa using this
        · cases h
      · cases h
    · rename_i m e hu
      split at h
      · rename_i l hl
        split at h
        · rename_i hc
          simp only [Option.some.injEq] at h; subst h
          obtain ⟨xs, q, _, _, hlen, hxl, hf⟩ := DataW.trod_array hu ht
          have := rows_fit (l := l) (cs := cs) m m (Nat.le_refl _) (by rw [hlen, hc.2]) (fun i hi => by
            have := hf i hi
            rw [hc.1, List.getElem?_eq_getElem (by omega)] at this
            exact fits_of_trod n e l _ _ _ hl this)
          simpa using this
        · cases h
      · cases h
    · cases h

/-- a struct or an array, by value -/
theorem open_agg {r : Reach} {b0 : Nat} {t : TypeId} {v : Value} {d : DataW H} {ps : List MemPlace} (n : Nat) (ls : List Leaf) (hl : leaves P n t = some ls)
    (ha : (match P.underlying t with | some (.struct _) | some (.array _ _) => true | _ => false) = true) (hv : Value.okWide P w r b0 t v) (h : DataW.Trod enc P w base spare held t v d ps) :
    ∃ cs : List Value, v = .agg cs.toArray ∧ Fits ls cs := by
  have hc : ∃ cs, v = .agg cs := by
    unfold Value.okWide at hv
    split at ha
    · rename_i fs hu
      simp only [hu] at hv
      obtain ⟨cs, h1, _⟩ := hv
      exact ⟨cs, h1⟩
    · rename_i m e hu
      simp only [hu] at hv
      obtain ⟨cs, h1, _⟩ := hv
      exact ⟨cs, h1⟩
    · cases ha
  obtain ⟨cs, rfl⟩ := hc
  obtain ⟨fuel, hf⟩ := h
  exact ⟨cs.toList, by simp, fits_of_trod n t ls fuel _ _ hl hf⟩

/-- a slice's elements, each as its leaves' values -/
def RowsAt (w : World) (ad : Option Addr) (k : Nat) (rows : List (List Value)) : Prop :=
  rows ≠ [] → ∃ b o, ad = some ⟨b, o, none⟩ ∧ b < w.heap.size ∧ ∀ (i : Nat) (r : List Value), rows[i]? = some r → ∀ (j : Nat) (u : Value), r[j]? = some u → w.cell? ⟨b, o + i * k + j, none⟩ = some u

theorem add_plain (b o n : Nat) : (⟨b, o, none⟩ : Addr).add n = ⟨b, o + n, none⟩ := by unfold Addr.add; split <;> simp_all

theorem open_rows {r : Reach} {b0 : Nat} {t e : TypeId} {v : Value} {d : DataW H} {ps : List MemPlace} (n : Nat) (ls : List Leaf) (ht : P.underlying t = some (.slice e)) (hl : leaves P n e = some ls) (hc : P.cellsOf e = ls.length) (hpos : 0 < ls.length)
    (hv : Value.okWide P w r b0 t v) (h : DataW.Trod enc P w base spare held t v d ps) :
    ∃ (ad : Option Addr) (c : Nat) (rows : List (List Value)), v = .slice ad rows.length c ∧ rows.length ≤ c ∧ c ≤ maxLen ∧ (∀ r ∈ rows, Fits ls r) ∧ RowsAt w ad ls.length rows := by
  obtain ⟨a0, len0, cap0, rfl⟩ := okWide_slice ht hv
  obtain ⟨fuel, hf⟩ := h
  rcases open_slice ht hf with ⟨hcs, hx⟩ | ⟨a, len, cap, m, q, D, Pl, hcs, hb, hlc, hm, hmm, hx, hi⟩
  · have : Value.slice a0 len0 cap0 = .slice none 0 0 := by simpa [Value.cells] using hcs
    rw [this]
    exact ⟨none, 0, [], rfl, Nat.le_refl _, Nat.zero_le _, by simp, fun h => absurd rfl h⟩
  · have he : Value.slice a0 len0 cap0 = .slice (some a) len cap := by simpa [Value.cells] using hcs
    rw [he]
    have hlm : len ≤ m := by rw [hmm]; split <;> omega
    have key : ∀ i, i < len → ∃ r : List Value, Fits ls r ∧ ∀ j, j < ls.length → w.cell? ((a.add (i * ls.length)).add j) = r[j]? := fun i hil => by
      obtain ⟨cs', h1, h2⟩ := hi i (by omega)
      rw [hc] at h1
      obtain ⟨_, _, h3⟩ := World.cells?_some h1
      exact ⟨cs', fits_of_trod n e ls _ _ _ hl h2, h3⟩
    obtain ⟨f, hf⟩ : ∃ f : Nat → List Value, ∀ i, i < len → Fits ls (f i) ∧ ∀ j, j < ls.length → w.cell? ((a.add (i * ls.length)).add j) = (f i)[j]? :=
      ⟨fun i => if hil : i < len then (key i hil).choose else [], fun i hil => by simp only [hil, dif_pos]; exact (key i hil).choose_spec⟩
    refine ⟨some a, cap, (List.range len).map f, by simp, by simpa using hlc, hm, ?_, ?_⟩
    · intro r hr
      obtain ⟨i, hi1, rfl⟩ := List.mem_map.1 hr
      exact (hf i (by simpa using hi1)).1
    · intro hne
      have hlen : 0 < len := by
        rcases Nat.eq_zero_or_pos len with h0 | h0
        · subst h0; simp at hne
        · exact h0
      have h00 := (hf 0 hlen).2 0 hpos
      have hl0 := (hf 0 hlen).1.len
      rw [List.getElem?_eq_getElem (by omega)] at h00
      have ha0 : (a.add (0 * ls.length)).add 0 = a := by simp [Addr.add]
      rw [ha0] at h00
      have hsp : a = ⟨a.block, a.off, none⟩ := by
        obtain ⟨b, o, sp⟩ := a
        unfold World.cell? at h00
        cases sp with
        | none => rfl
        | some s => simp at h00; split at h00 <;> simp_all
      refine ⟨a.block, a.off, by rw [← hsp], World.block_lt_of_cell? w _ h00, ?_⟩
      intro i r hr j u hu
      rw [List.getElem?_map] at hr
      obtain ⟨i', hi', rfl⟩ := Option.map_eq_some_iff.1 hr
      obtain ⟨hil, hii⟩ := List.getElem?_eq_some_iff.1 hi'
      simp at hil hii
      subst hii
      have h1 := (hf i hil).2 j (by have := (hf i hil).1.len; have := (List.getElem?_eq_some_iff.1 hu).1; omega)
      rw [hsp, add_plain, add_plain, hu] at h1
      exact h1
end
theorem rows_map {α : Type} {Q : List Value → Prop} (f : α → List Value) (R : α → Prop) (h : ∀ r, Q r → ∃ a, r = f a ∧ R a) : ∀ (rows : List (List Value)), (∀ r ∈ rows, Q r) → ∃ l : List α, rows = l.map f ∧ ∀ a ∈ l, R a
  | [], _ => ⟨[], rfl, by simp⟩
  | r :: rows, hr => by
    obtain ⟨l, rfl, hl⟩ := rows_map f R h rows (fun r hr' => hr r (by simp [hr']))
    obtain ⟨a, rfl, ha⟩ := h r (hr r (by simp))
    exact ⟨a :: l, rfl, by simpa using ⟨ha, hl⟩⟩

end Go.Proofs.Ytmnbnjiipnocaaa
/- arguments that are keys, and slices of texts. -/
namespace Go.Proofs.Ytmnbnjiipnocaaa
open Go Go.RowKit Go.ChangeShapes Go.WideShapes Go.ChangeAt
set_option linter.unusedVariables false
set_option linter.unusedSimpArgs false

theorem fits_u8s : ∀ (n : Nat) (cs : List Value), Fits (List.replicate n (.int .u8)) cs → ∃ K : List UInt8, cs = cellsU8 K ∧ K.length = n
  | 0, cs, h => ⟨[], h.nil, rfl⟩
  | n + 1, cs, h => by
    rw [List.replicate_succ] at h
    obtain ⟨z, vs, rfl, hz, h2⟩ := h.int
    obtain ⟨K, rfl, hK⟩ := fits_u8s n vs h2
    have hz2 := wf_u8 hz
    refine ⟨UInt8.ofNat z.toNat :: K, ?_, by simp [hK]⟩
    simp only [cellsU8, List.map_cons]
    congr 2
    simp
    omega

section
variable {H : Type} {enc : TypeId × Value → H} {w : World} {base : Nat} {spare : Nat → Bool} {held : Bool}
set_option maxRecDepth 100000 in
theorem open_key {r : Reach} {b0 : Nat} {v : Value} {d : DataW H} {ps : List MemPlace} (hv : Value.okWide Try.prog w r b0 23 v) (h : DataW.Trod enc Try.prog w base spare held 23 v d ps) :
    ∃ K : List UInt8, v = keyV K ∧ K.length = 32 := by
  obtain ⟨cs, rfl, hf⟩ := open_agg 4 (List.replicate 32 (.int .u8)) (by kernel_rfl) (by kernel_rfl) hv h
  obtain ⟨K, rfl, hK⟩ := fits_u8s 32 cs hf
  exact ⟨K, rfl, hK⟩
end
end Go.Proofs.Ytmnbnjiipnocaaa
/- arguments of layer 12: packets, plans, calls. -/
namespace Go.Proofs.Ytmnbnjiipnocaaa
open Go Go.RowKit Go.ChangeShapes Go.WideShapes Go.ChangeAt
set_option linter.unusedVariables false
set_option linter.unusedSimpArgs false

/-- a call: a moment, a text -/
structure Cl where
  n : Int
  t : ByteArray
def Cl.row (c : Cl) : List Value := [.int .i64 c.n, .string c.t]
def wfC (c : Cl) : Prop := (Lit.int .i64 c.n).wf = true ∧ c.t.size ≤ maxLen
/-- calls in memory -/
def HeldC (w : World) (ad : Option Addr) (l : List Cl) : Prop := l ≠ [] → ∃ b o, ad = some ⟨b, o, none⟩ ∧ b < w.heap.size ∧ ∀ (i : Nat) (c : Cl), l[i]? = some c → w.cell? ⟨b, o + i * 2, none⟩ = some (.int .i64 c.n) ∧ w.cell? ⟨b, o + i * 2 + 1, none⟩ = some (.string c.t)
section
variable {H : Type} {enc : TypeId × Value → H} {w : World} {base : Nat} {spare : Nat → Bool} {held : Bool}
set_option maxRecDepth 100000 in
theorem open_packet {r : Reach} {b0 : Nat} {v : Value} {d : DataW H} {ps : List MemPlace} (hv : Value.okWide Try.prog w r b0 44 v) (h : DataW.Trod enc Try.prog w base spare held 44 v d ps) :
    ∃ (iv : Int) (tx tg : ByteArray) (tl : Int) (K : List UInt8), v = .agg (pkL iv tx tg tl K).toArray ∧ K.length = 32 ∧ (Lit.int .i64 iv).wf = true ∧ (Lit.int .i64 tl).wf = true ∧ tx.size ≤ maxLen ∧ tg.size ≤ maxLen := by
  obtain ⟨cs, rfl, hf⟩ := open_agg 4 ([.int .i64, .str, .str, .int .i64] ++ List.replicate 32 (.int .u8)) (by kernel_rfl) (by kernel_rfl) hv h
  obtain ⟨iv, cs, rfl, h1, hf⟩ := hf.int
  obtain ⟨tx, cs, rfl, h2, hf⟩ := hf.str
  obtain ⟨tg, cs, rfl, h3, hf⟩ := hf.str
  obtain ⟨tl, cs, rfl, h4, hf⟩ := hf.int
  obtain ⟨K, rfl, hK⟩ := fits_u8s 32 _ hf
  exact ⟨iv, tx, tg, tl, K, rfl, hK, h1, h4, h2, h3⟩
set_option maxRecDepth 100000 in
theorem open_plan {r : Reach} {b0 : Nat} {v : Value} {d : DataW H} {ps : List MemPlace} (hv : Value.okWide Try.prog w r b0 25 v) (h : DataW.Trod enc Try.prog w base spare held 25 v d ps) :
    ∃ (ps pl pd pc : Int), v = .agg (planL ps pl pd pc).toArray ∧ (Lit.int .i64 ps).wf = true ∧ (Lit.int .i64 pl).wf = true ∧ (Lit.int .i64 pd).wf = true ∧ (Lit.int .i64 pc).wf = true := by
  obtain ⟨cs, rfl, hf⟩ := open_agg 4 [.int .i64, .int .i64, .int .i64, .int .i64] (by kernel_rfl) (by kernel_rfl) hv h
  obtain ⟨a, cs, rfl, h1, hf⟩ := hf.int
  obtain ⟨b, cs, rfl, h2, hf⟩ := hf.int
  obtain ⟨c, cs, rfl, h3, hf⟩ := hf.int
  obtain ⟨e, cs, rfl, h4, hf⟩ := hf.int
  obtain rfl := hf.nil
  exact ⟨a, b, c, e, rfl, h1, h2, h3, h4⟩
theorem fits_call {r : List Value} (hr : Fits [.int .i64, .str] r) : ∃ f : Cl, r = f.row ∧ wfC f := by
  obtain ⟨k, r, rfl, hk, hr⟩ := hr.int
  obtain ⟨d, r, rfl, hd, hr⟩ := hr.str
  obtain rfl := hr.nil
  exact ⟨⟨k, d⟩, rfl, hk, hd⟩
theorem heldC_rows {ad : Option Addr} {l : List Cl} (h : RowsAt w ad 2 (l.map Cl.row)) : HeldC w ad l := fun hne => by
  obtain ⟨b, o, h1, h2, h3⟩ := h (by simpa using hne)
  refine ⟨b, o, h1, h2, fun i c hc => ?_⟩
  have hi : (l.map Cl.row)[i]? = some c.row := by rw [List.getElem?_map, hc]; rfl
  have q0 := h3 i c.row hi 0 (.int .i64 c.n) rfl
  have q1 := h3 i c.row hi 1 (.string c.t) rfl
  exact ⟨by simpa using q0, by simpa [Nat.add_assoc] using q1⟩
set_option maxRecDepth 100000 in
theorem open_calls {r : Reach} {b0 : Nat} {v : Value} {d : DataW H} {ps : List MemPlace} (hv : Value.okWide Try.prog w r b0 26 v) (h : DataW.Trod enc Try.prog w base spare held 26 v d ps) :
    ∃ (ad : Option Addr) (c : Nat) (l : List Cl), v = .slice ad l.length c ∧ l.length ≤ maxLen ∧ l.length ≤ c ∧ c ≤ maxLen ∧ (∀ f ∈ l, wfC f) ∧ HeldC w ad l := by
  obtain ⟨ad, c, rows, rfl, h1, h2, h3, h4⟩ := open_rows 4 [.int .i64, .str] Try.underlying26 (by kernel_rfl) (by kernel_rfl) (by decide) hv h
  obtain ⟨l, rfl, hl⟩ := rows_map Cl.row wfC (fun r hr => fits_call hr) rows h3
  exact ⟨ad, c, l, by simp, by simpa using Nat.le_trans h1 h2, by simpa using h1, h2, hl, heldC_rows h4⟩
/-- from cell o of block b on lie the bytes l -/
def HeldU (w : World) (ad : Option Addr) (l : List Int) : Prop := l ≠ [] → ∃ b o, ad = some ⟨b, o, none⟩ ∧ b < w.heap.size ∧ ∀ (i : Nat) (z : Int), l[i]? = some z → w.cell? ⟨b, o + i, none⟩ = some (.int .u8 z)
set_option maxRecDepth 100000 in
theorem open_bytes {r : Reach} {b0 : Nat} {v : Value} {d : DataW H} {ps : List MemPlace} (hv : Value.okWide Try.prog w r b0 58 v) (h : DataW.Trod enc Try.prog w base spare held 58 v d ps) :
    ∃ (ad : Option Addr) (c : Nat) (l : List Int), v = .slice ad l.length c ∧ l.length ≤ maxLen ∧ (∀ z ∈ l, 0 ≤ z ∧ z ≤ 255) ∧ HeldU w ad l := by
  obtain ⟨ad, c, rows, rfl, h1, h2, h3, h4⟩ := open_rows 4 [.int .u8] Try.underlying58 (by kernel_rfl) (by kernel_rfl) (by decide) hv h
  obtain ⟨l, rfl, hl⟩ := rows_map (fun z => [Value.int .u8 z]) (fun z => 0 ≤ z ∧ z ≤ 255) (fun r hr => by
    obtain ⟨a, r, rfl, ha, hr⟩ := hr.int
    obtain rfl := hr.nil
    exact ⟨a, rfl, wf_u8 ha⟩) rows h3
  refine ⟨ad, c, l, by simp, by simpa using Nat.le_trans h1 h2, hl, fun hne => ?_⟩
  obtain ⟨b, o, he, hb, hc⟩ := h4 (by simpa using hne)
  refine ⟨b, o, he, hb, fun k z hk => ?_⟩
  have := hc k [.int .u8 z] (by rw [List.getElem?_map, hk]; rfl) 0 _ rfl
  simpa using this
end
end Go.Proofs.Ytmnbnjiipnocaaa
/- a drawing region: a chain beside an operation that may come at any time; then operations of fixed values. -/
namespace Go.Proofs.Ytmnbnjiipnocaaa
open Go Go.RowKit
set_option linter.unusedVariables false
set_option linter.unusedSimpArgs false
section
variable {P : Program} {ops : Array Oper} {md : Region.Mode} {Q : Exit → Act → World → Prop} {S : World → Prop} {V : Value → World → Prop} {pf : World → Prop}
/-- .. taken in a state whose slot dx was written -/
theorem TakeOK.put (hs : Region.noSelect ops = true) (dx : Nat) (u : Value) : ∀ (es : List (Nat × Nat)) (vs : List Value) (a : Act), (∀ e ∈ es, e.1 < ops.size ∧ e.2 ≠ dx ∧ ((ops.getD e.1 default).looksAt ops).contains dx = false ∧ (ops.getD e.1 default).guard = none) → TakeOK P ops S es vs a → TakeOK P ops S es vs (a.put (some dx) u)
  | [], vs, a, _, h => by
    match vs, h with
    | [], h => exact h
  | e :: es, vs, a, hl, h => by
    match vs, h with
    | v :: vs, h =>
      obtain ⟨z, hd, hlk, hg⟩ := hl e (by simp)
      have s1 : ∀ cs b, (ops.getD e.1 default).op ≠ .select cs b := fun cs b => Region.noSelect_spec hs e.1 _ cs b (getD_some z)
      refine ⟨?_, ?_⟩
      · rcases h.1 with ⟨hw, hv⟩ | ⟨hw, _⟩
        · exact Or.inl ⟨by unfold Region.wanted; rw [hg], fun w hS => by rw [exec_put s1 _ _ _ hlk]; exact hv w hS⟩
        · unfold Region.wanted at hw; rw [hg] at hw; cases hw
      · rw [put_comm _ _ _ hd.symm]
        exact TakeOK.put hs dx u es vs _ (fun e' he' => hl e' (by simp [he'])) h.2
theorem putAll_comm (dx : Nat) (u : Value) : ∀ (es : List (Nat × Nat)) (vs : List Value) (a : Act), (∀ e ∈ es, e.2 ≠ dx) → putAll (a.put (some dx) u) es vs = (putAll a es vs).put (some dx) u
  | [], vs, a, _ => by cases vs <;> rfl
  | e :: es, vs, a, hl => by
    cases vs with
    | nil => rfl
    | cons v vs =>
      show putAll ((a.put (some dx) u).put (some e.2) v) es vs = _
      rw [put_comm _ _ _ (hl e (by simp)).symm, putAll_comm dx u es vs _ (fun e' he' => hl e' (by simp [he']))]
      rfl
/-- the closed facts of what is taken behind a chain -/
def lateB (md : Region.Mode) (ops : Array Oper) (x dx : Nat) (es : List (Nat × Nat)) (listed : Array Bool) : Bool :=
  takeB md ops es listed && takeB md ops es (listed.setIfInBounds x true) && (Region.ready md ops (setAll listed es) != []) && (Region.ready md ops (setAll listed es)).all (· == x) &&
  es.all fun e => decide (e.1 < ops.size) && decide (e.1 ≠ x) && decide (e.2 ≠ dx) && (((ops.getD e.1 default).looksAt ops).contains dx == false) && (((ops.getD x default).looksAt ops).contains e.2 == false) && ((ops.getD e.1 default).guard == none)
def combEB (md : Region.Mode) (ops : Array Oper) (x dx : Nat) (es2 : List (Nat × Nat)) : List (Nat × Nat) → Array Bool → Bool
  | [], listed => lateB md ops x dx es2 listed
  | e :: es, listed => (Region.ready md ops listed != []) && (Region.ready md ops listed).all (fun k => k == e.1 || k == x) && decide (e.1 < ops.size) && ((ops.getD e.1 default).guard == none) && ((ops.getD e.1 default).dst == some e.2) && decide (e.1 ≠ x) && decide (e.2 ≠ dx) && (((ops.getD e.1 default).looksAt ops).contains dx == false) && (((ops.getD x default).looksAt ops).contains e.2 == false) &&
    combEB md ops x dx es2 es (listed.setIfInBounds e.1 true) && seqSB md ops (e :: es) (listed.setIfInBounds x true)
theorem combEB_all {x dx : Nat} {es2 : List (Nat × Nat)} : ∀ (es : List (Nat × Nat)) (listed : Array Bool), combEB md ops x dx es2 es listed = true → (∀ e ∈ es, e.1 < ops.size ∧ e.1 ≠ x ∧ e.2 ≠ dx ∧ ((ops.getD e.1 default).looksAt ops).contains dx = false) ∧ lateB md ops x dx es2 (setAll listed es) = true
  | [], _, hB => ⟨fun e he => (by cases he), hB⟩
  | e0 :: es, listed, hB => by
    unfold combEB at hB
    simp only [Bool.and_eq_true, decide_eq_true_eq, beq_iff_eq] at hB
    obtain ⟨⟨⟨⟨⟨⟨⟨⟨⟨⟨_, _⟩, b2⟩, b3⟩, b4⟩, b5⟩, b6⟩, b7⟩, b8⟩, b9⟩, b10⟩ := hB
    obtain ⟨h1, h2⟩ := combEB_all es _ b9
    refine ⟨fun e he => ?_, h2⟩
    rcases List.mem_cons.1 he with rfl | he
    · exact ⟨b2, b5, b6, b7⟩
    · exact h1 e he
theorem exec_putAll {o : Oper} (hs : ∀ cs b, o.op ≠ .select cs b) : ∀ (es : List (Nat × Nat)) (vs : List Value) (a : Act), (∀ e ∈ es, (o.looksAt ops).contains e.2 = false) → execOp (putAll a es vs).eval o = execOp a.eval o
  | [], vs, a, _ => by cases vs <;> rfl
  | e :: es, vs, a, hl => by
    cases vs with
    | nil => rfl
    | cons v vs =>
      show execOp (putAll (a.put (some e.2) v) es vs).eval o = _
      rw [exec_putAll hs es vs _ (fun e' he' => hl e' (by simp [he'])), exec_put hs _ _ _ (hl e (by simp))]
/-- a chain beside an operation that may come at any time; then operations of fixed values, that may come ahead of it -/
theorem combE (hs : Region.noSelect ops = true) (hQ : ∀ c (a : Act) d v w, Q (.panic c) (a.put d v) w → Q (.panic c) a w) (x dx : Nat) (hx0 : x < ops.size) (hxg : (ops.getD x default).guard = none) (hxd : (ops.getD x default).dst = some dx) (es2 : List (Nat × Nat)) (vs2 : List Value) : ∀ (es : List (Nat × Nat)) (vs : List Value) (p : World → Prop) (ps : List (World → Prop)) (listed : Array Bool) (a : Act) (w : World) (fuel : Nat),
    combEB md ops x dx es2 es listed = true → ChainOK P ops S V pf es vs (p :: ps) a → TakeOK P ops S es2 vs2 (putAll a es vs) →
    (∀ q ∈ p :: ps, ∀ W, S W → q W → ∃ u W', (execOp a.eval (ops.getD x default)).run P W = .ok (.value u) W' ∧ S W' ∧ q W' ∧ V u W') → S w → p w →
    (∀ u W, S W → pf W → V u W → wpAnyH P md ops Q S fuel (setAll (setAll (listed.setIfInBounds x true) es) es2) (putAll (putAll (a.put (some dx) u) es vs) es2 vs2) W) → wpAnyH P md ops Q S (fuel + es2.length + 1 + es.length) listed a w
  | [], vs, p, ps, listed, a, w, fuel, hB, hT, hTk, hX, hS, hp, h => by
    match vs, ps, hT with
    | [], [], hT =>
      unfold combEB lateB at hB
      simp only [Bool.and_eq_true, beq_iff_eq, bne_iff_ne, ne_eq, List.all_eq_true, decide_eq_true_eq] at hB
      obtain ⟨⟨⟨⟨t1, t2⟩, r1⟩, r2⟩, al⟩ := hB
      have sx : ∀ cs b, (ops.getD x default).op ≠ .select cs b := fun cs b => Region.noSelect_spec hs x _ cs b (getD_some hx0)
      show wpAnyH P md ops Q S (fuel + es2.length + 1) listed a w
      rw [show fuel + es2.length + 1 = fuel + 1 + es2.length by omega]
      refine takeAll hs hQ es2 vs2 _ _ _ _ t1 hTk hS ?_
      refine ⟨fun h0 => absurd h0 r1, fun i hi => ?_⟩
      obtain rfl := r2 i hi
      obtain ⟨u, W', h1, h2, h3, h4⟩ := hX p (by simp) w hS hp
      refine StepTo.wpOp hx0 hxg hxd (C := fun W'' => W'' = W') (Or.inl ⟨W', by rw [exec_putAll sx es2 vs2 a (fun e he => (al e he).1.2)]; exact h1, rfl⟩) fun W'' e => ?_
      subst e
      have hh := h u _ h2 (hT _ h3) h4
      rw [show setAll (setAll (listed.setIfInBounds i true) []) es2 = (setAll listed es2).setIfInBounds i true from setAll_comm i es2 listed (fun e he => (al e he).1.1.1.1.2)] at hh
      rw [show putAll (putAll (a.put (some dx) u) [] []) es2 vs2 = (putAll a es2 vs2).put (some dx) u from putAll_comm dx u es2 vs2 a (fun e he => (al e he).1.1.1.2)] at hh
      exact ⟨h2, hh⟩
  | e :: es, vs, p, ps, listed, a, w, fuel, hB, hT, hTk, hX, hS, hp, h => by
    match vs, ps, hT with
    | v :: vs, q :: ps, hT =>
      have hB0 := hB
      unfold combEB at hB
      simp only [Bool.and_eq_true, decide_eq_true_eq, beq_iff_eq, bne_iff_ne, ne_eq, List.all_eq_true, Bool.or_eq_true] at hB
      obtain ⟨⟨⟨⟨⟨⟨⟨⟨⟨⟨b0, b1⟩, b2⟩, b3⟩, b4⟩, b5⟩, b6⟩, b7⟩, b8⟩, b9⟩, b10⟩ := hB
      have sx : ∀ cs b, (ops.getD x default).op ≠ .select cs b := fun cs b => Region.noSelect_spec hs x _ cs b (getD_some hx0)
      show wpAnyH P md ops Q S (fuel + es2.length + 1 + es.length + 1) listed a w
      refine ⟨fun h0 => absurd h0 b0, fun i hi => ?_⟩
      rcases b1 i hi with rfl | rfl
      · refine StepTo.wpOp b2 b3 b4 (hT.1 w hS hp) fun W' ⟨c1, c2, c3⟩ => ⟨c1, ?_⟩
        refine combE hs hQ x dx hx0 hxg hxd es2 vs2 es vs q ps _ _ W' fuel b9 hT.2 hTk (fun r hr W hW hr2 => ?_) c1 c2 (fun u W hW hf hV => ?_)
        · rw [exec_put sx _ _ _ b8]
          exact hX r (by simp [List.mem_cons.1 hr]) W hW hr2
        · have := h u W hW hf hV
          rw [put_comm _ _ _ b6, Array.setIfInBounds_comm _ _ b5]
          exact this
      · obtain ⟨u, W', h1, h2, h3, h4⟩ := hX p (by simp) w hS hp
        refine StepTo.wpOp hx0 hxg hxd (C := fun W'' => W'' = W') (Or.inl ⟨W', h1, rfl⟩) fun W'' e' => ?_
        subst e'
        refine ⟨h2, ?_⟩
        obtain ⟨hall, hlate⟩ := combEB_all _ _ hB0
        unfold lateB at hlate
        simp only [Bool.and_eq_true, beq_iff_eq, bne_iff_ne, ne_eq, List.all_eq_true, decide_eq_true_eq] at hlate
        obtain ⟨⟨⟨⟨t1, t2⟩, r1⟩, r2⟩, al⟩ := hlate
        rw [show fuel + es2.length + 1 + es.length = fuel + es2.length + (e :: es).length by rw [List.length_cons]; omega]
        refine seqS_run u (e :: es) (v :: vs) p (q :: ps) _ _ _ (fuel + es2.length) b10 (ChainOK.put hs dx u _ _ _ _ (fun e' he' => ⟨(hall e' he').1, (hall e' he').2.2.1, (hall e' he').2.2.2⟩) hT) h2 h3 h4 (fun W c1 c2 c3 => ?_)
        refine takeAll hs hQ es2 vs2 _ _ _ _ ?_ ?_ c1 (h u W c1 c2 c3)
        · rw [setAll_comm i (e :: es) listed (fun e' he' => (hall e' he').2.1)]
          exact t2
        · rw [putAll_comm dx u (e :: es) (v :: vs) a (fun e' he' => (hall e' he').2.2.1)]
          exact TakeOK.put hs dx u es2 vs2 _ (fun e' he' => ⟨(al e' he').1.1.1.1.1, (al e' he').1.1.1.2, (al e' he').1.1.2, (al e' he').2⟩) hTk
end
end Go.Proofs.Ytmnbnjiipnocaaa
