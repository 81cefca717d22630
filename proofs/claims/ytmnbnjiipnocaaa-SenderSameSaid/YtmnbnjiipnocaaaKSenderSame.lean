/- SenderSame: the walk. -/
import Derived.Test.YtmnbnjiipnocaaaSb10
namespace Go.Proofs.Ytmnbnjiipnocaaa
open Go Go.RowKit
set_option linter.unusedVariables false
set_option linter.unusedSimpArgs false
attribute [local go_sem] bmax2 bmin2 bmax bmin cell_ext frozen_ext

set_option maxHeartbeats 8000000 in
set_option maxRecDepth 100000 in
theorem SenderSame_walk (w : World) (S : List UInt8) (s l d c : Int) (at_ : Int) (t : ByteArray) (ad : Option Addr) (cp : Nat) (l9 : List Int) (hS : S.length = 32) (b1 : (Lit.int .i64 s).wf = true ∧ (Lit.int .i64 l).wf = true ∧ (Lit.int .i64 d).wf = true ∧ (Lit.int .i64 c).wf = true) (b2 : (Lit.int .u8 at_).wf = true) (b3 : t.size ≤ maxLen) (b5 : l9.length ≤ maxLen ∧ (∀ z ∈ l9, 0 ≤ z ∧ z ≤ 255) ∧ HeldU w ad l9) :
    Calls Try.prog 8 #[keyV S, .agg (planL s l d c).toArray, .int .u8 at_, .string t, .slice ad l9.length cp] w fun e w' => e = .returned (.bool true) ∧ Below w.heap.size w w' := by
  unfold keyV
  obtain ⟨bs, bl, bd, bc⟩ := b1
  have cM := kp (fun w' => P_May s l d c w')
  have HSL := kp hS
  have HPL := kp (planL_length s l d c)
  have HPO := kp (planL_one s l d c)
  have xc : Kp ((planL s l d c)[3]? = some (.int .i64 c)) := kp rfl
  have xd : Kp ((planL s l d c)[2]? = some (.int .i64 d)) := kp rfl
  have xl : Kp ((planL s l d c)[1]? = some (.int .i64 l)) := kp rfl
  have xs : Kp ((planL s l d c)[0]? = some (.int .i64 s)) := kp rfl
  have HPP := kp (show planL s l d c = planL s l d c from rfl)
  obtain ⟨PL, hPL⟩ : ∃ PL, planL s l d c = PL := ⟨_, rfl⟩
  rw [hPL] at cM HPL HPO xc xd xl xs
  rw [hPL]
  have HPE := kp hPL
  clear hPL HPP
  have K_s := kp ((Blk.new w 23 (cellsU8 S).toArray).alloc (.cells PL.toArray 25))
  have K_p := kp (Blk.new (w.alloc (.cells (cellsU8 S).toArray 23)) 25 PL.toArray)
  have HB := kp (ba (ba (Below.refl w.heap.size w) (.cells (cellsU8 S).toArray 23)) (.cells PL.toArray 25))
  rw [size_all] at K_p
  have HHELD := kp b5.2.2
  have HRNG := kp b5.2.1
  have hlm := b5.1
  clear b5
  obtain ⟨ha0, ha1⟩ := wf_u8 b2
  clear b2
  clear hS
  go_enter Try.func8, Try.ntmps8
  go_upto_region 1 with (fail)
  change Code.wp _ _ _ _ ((w.alloc (.cells (cellsU8 S).toArray 23)).alloc (.cells PL.toArray 25))
  generalize (w.alloc (.cells (cellsU8 S).toArray 23)).alloc (.cells PL.toArray 25) = W at K_s K_p HB ⊢
  go_wp2_with fail
  refine (sender_awake _).mono ?_
  rintro e w_1 ⟨rfl, hb_1⟩
  have K_s := kp (K_s.out.bel hb_1)
  have K_p := kp (K_p.out.bel hb_1)
  have HB := kp (bt' HB.out hb_1 HB.out.size)
  clear hb_1
  have L_p := ld_all (P := Try.prog) (w.heap.size + 1) 4 25 25 PL _ Try.underlying25 rfl info_plan HPL.out K_p.out
  go_wp2_with (refine wpL_load rfl 25 _ rfl rfl L_p ?_)
  clear L_p
  refine (cM.out _).mono ?_
  rintro e w_2 ⟨rfl, hb_2⟩
  have K_s := kp (K_s.out.bel hb_2)
  have K_p := kp (K_p.out.bel hb_2)
  have HB := kp (bt' HB.out hb_2 HB.out.size)
  clear hb_2
  by_cases hm : mayP s l d c = true
  rotate_left
  · have hm : mayP s l d c = false := by simpa using hm
    rw [hm]
    go_wp2
    go_ret
    exact ⟨rfl, HB.out⟩
  rw [hm]
  have HM := kp hm
  clear hm cM
  have hcc := mayP_iff.1 HM.out
  have x3 := K_p.out.atL xc.out
  have lp := K_p.out.lt
  by_cases h16 : 16 < c
  · clear hcc
    have d16 : decide ((16 : Int) < c) = true := decide_eq_true h16
    go_wp2
    go_ret
    exact ⟨rfl, HB.out⟩
  have d16 : decide ((16 : Int) < c) = false := decide_eq_false h16
  have h16' : ¬ (16 : Int) < c := h16
  obtain ⟨n, hn⟩ : ∃ n : Nat, c = (n : Int) := ⟨c.toNat, by omega⟩
  have hok : (SP.mk S s l d n).Ok := ⟨HSL.out, by rw [← hn]; exact HM.out⟩
  have HN := kp hn
  have HPN := kp (HPE.out.symm.trans (by rw [hn]) : PL = planL s l d n)
  clear HPE
  have HCC := kp hcc
  have hn16 : n ≤ 16 := by omega
  have hn1 : 1 ≤ n := by omega
  clear hcc
  by_cases ht : 1000 < t.size
  · have i1 : (1000 : Int) < (t.size : Int) := by omega
    have d1 : decide ((1000 : Int) < (t.size : Int)) = true := decide_eq_true i1
    clear hn HPN
    go_wp2
    go_ret
    exact ⟨rfl, HB.out⟩
  have i1 : ¬ (1000 : Int) < (t.size : Int) := by omega
  have d1 : decide ((1000 : Int) < (t.size : Int)) = false := decide_eq_false i1
  subst hn
  have c1 : Kp (∀ w', w.heap.size ≤ w'.heap.size → Calls Try.prog 10 #[.agg (cellsU8 S).toArray, .agg PL.toArray] w' fun e w'' => ∃ b, e = .returned (.tuple #[.pointer (some ⟨b, 0, none⟩), .int .i64 0]) ∧ S1 w.heap.size w'' b ⟨S, s, l, d, n⟩ 0 ∧ Below w'.heap.size w' w'') := kp (fun w' h => by rw [HPN.out]; exact L_New hok w' h)
  have c1b : Kp (∀ b w', w.heap.size ≤ w'.heap.size → S1 w.heap.size w' b ⟨S, s, l, d, n⟩ 0 → Calls Try.prog 10 #[.agg (cellsU8 S).toArray, .agg PL.toArray] w' fun e w'' => ∃ c, e = .returned (.tuple #[.pointer (some ⟨c, 0, none⟩), .int .i64 0]) ∧ S2 w.heap.size w'' b c ⟨S, s, l, d, n⟩ ⟨S, s, l, d, n⟩ 0 0 ∧ Below w'.heap.size w' w'') := kp (fun b w' h hs => by rw [HPN.out]; exact L_New2 hok w' h hs)
  have HOK := kp hok
  clear hok
  have hll := (mayP_iff.1 HM.out).2.1
  obtain ⟨i, hi⟩ : ∃ i : Nat, at_ % (n : Int) + 1 = (i : Int) := ⟨(at_ % (n : Int) + 1).toNat, by have := Int.emod_nonneg at_ (show (n : Int) ≠ 0 by omega); omega⟩
  have hin : at_ % (n : Int) < (n : Int) := Int.emod_lt_of_pos _ (by omega)
  have hi0 : 0 ≤ at_ % (n : Int) := Int.emod_nonneg _ (by omega)
  have hi1 : 1 ≤ i := by omega
  have hi2 : i ≤ n := by omega
  have htm : at_.tmod (n : Int) = at_ % (n : Int) := Int.tmod_eq_emod_of_nonneg ha0
  have f1 : wrap64 (at_ % (n : Int) + 1) = (i : Int) := by rw [hi]; exact IntWalk.wrap64_in _ (by omega)
  have f2 : wrap64 (1 + at_ % (n : Int)) = (i : Int) := by rw [Int.add_comm, hi]; exact IntWalk.wrap64_in _ (by omega)
  have f4 : IntKind.i64.wrap at_ = at_ := IntWalk.i64_in _ (by omega)
  have hnz : (n : Int) ≠ 0 := by omega
  have hnz2 : ¬ n = 0 := by omega
  have hss := (mayP_iff.1 HM.out).1
  have SI : Kp (∀ (k : Nat) (x : Int) (L : Nat) (u : ByteArray), 1 ≤ k → k ≤ n → 0 ≤ x → x < l → L ≤ k → u.size ≤ 1000 → ∃ PK : List Value, IsPk PK ∧ (k = i → u = t → PK = goodPk (chK S) d n i t) ∧ PK.length = 36 ∧ (∀ v ∈ PK, v.oneCell' = true) ∧
      (∀ b c W' M, w.heap.size ≤ W'.heap.size → S2 w.heap.size W' b c ⟨S, s, l, d, n⟩ ⟨S, s, l, d, n⟩ L M → Calls Try.prog 15 #[.pointer (some ⟨b, 0, none⟩), .int .i64 (s + ((k : Int) - 1) * l + x), .string u] W' fun e W'' => e = .returned (.tuple #[.agg PK.toArray, .int .i64 0]) ∧ S2 w.heap.size W'' b c ⟨S, s, l, d, n⟩ ⟨S, s, l, d, n⟩ k M ∧ MvS w.heap.size W' W'')) := kp (fun k x L u h1 h2 h3 h4 h5 h6 => by
    obtain ⟨q1, q2⟩ := sendE_in (i := k) HM.out h1 (by omega) h3 h4 h5 h6
    have hb := beg_in (i := (k : Int)) HM.out (by omega) (by omega)
    refine ⟨(SP.mk S s l d n).K L (s + ((k : Int) - 1) * l + x) u, SP.K_row _ _ _ _, fun hk hu => ?_, SP.K_length _ _ _ _, SP.K_one _ _ _ _, fun b c W' M hB h => ?_⟩
    · obtain ⟨i', _, _, _, _, _, hN, hK⟩ := SP.good HOK.out q1
      subst hk; subst hu
      have : i' = k := by rw [← hN]; exact q2
      rw [hK, this]
    · have h9 := L_Send2 HOK.out h (s + ((k : Int) - 1) * l + x) (by omega) (by omega) u hB (by omega)
      rw [show (SP.mk S s l d n).E L (s + ((k : Int) - 1) * l + x) u = 0 from q1, show (SP.mk S s l d n).N L (s + ((k : Int) - 1) * l + x) u = k from q2] at h9
      exact h9)
  have cBg : Kp (∀ (k : Nat), 1 ≤ k → k ≤ n → ∀ w', Calls Try.prog 24 #[.agg PL.toArray, .int .i64 (k : Int)] w' fun e w'' => e = .returned (.tuple #[.int .i64 (s + ((k : Int) - 1) * l), .int .i64 0]) ∧ Below w'.heap.size w' w'') := kp (fun k h1 h2 w' => by
    have := P_Begins s l d n (k : Int) w'
    unfold beginsV at this
    rw [if_pos ⟨HM.out, by omega, by omega⟩, ← HPN.out] at this
    exact this)
  have hbi := beg_in (i := (i : Int)) HM.out (by omega) (by omega)
  obtain ⟨E0, hE0⟩ : ∃ E0, s + ((i : Int) - 1) * l = E0 := ⟨_, rfl⟩
  have cB0 := kp (cBg.out i hi1 hi2)
  rw [hE0] at cB0
  have HE0 := kp hE0
  have w1 : wrap64 (E0 + l) = E0 + l := IntWalk.wrap64_in _ (by omega)
  have w2 : wrap64 (E0 + l - 1) = E0 + l - 1 := IntWalk.wrap64_in _ (by omega)
  have HI1 := kp hi1
  have HI2 := kp hi2
  have HLL := kp hll
  clear hbi hE0 hss hi hin hi0 htm hll
  have LZ := kp zeroPk_length
  have OZ := kp zeroPk_one
  obtain ⟨ZP, hZP⟩ : ∃ ZP, zeroPk = ZP := ⟨_, rfl⟩
  have HZP := kp hZP
  rw [hZP] at LZ OZ
  clear hZP
  clear HZP
  have L_p := ld_all (P := Try.prog) (w.heap.size + 1) 4 25 25 PL _ Try.underlying25 rfl info_plan HPL.out K_p.out
  have L_s := ldK S HSL.out K_s.out
  go_wp2_with (first | (refine wpL_load rfl 25 _ rfl rfl L_p ?_) | (refine wpL_load rfl 23 _ rfl rfl L_s ?_))
  clear L_p L_s x3 lp d16
  refine (c1.out _ HB.out.size).mono ?_
  rintro e w_3 ⟨b_a, rfl, hs_3, hb_3⟩
  have K_s := kp (K_s.out.bel hb_3)
  have K_p := kp (K_p.out.bel hb_3)
  have HB := kp (bt' HB.out hb_3 HB.out.size)
  have S_a := kp hs_3
  clear hs_3 hb_3
  have L_p := ld_all (P := Try.prog) (w.heap.size + 1) 4 25 25 PL _ Try.underlying25 rfl info_plan HPL.out K_p.out
  have L_s := ldK S HSL.out K_s.out
  go_wp2_with (first | (refine wpL_load rfl 25 _ rfl rfl L_p ?_) | (refine wpL_load rfl 23 _ rfl rfl L_s ?_))
  clear L_p L_s
  refine (c1b.out _ _ HB.out.size S_a.out).mono ?_
  rintro e w_4 ⟨b_b, rfl, hs_4, hb_4⟩
  have K_s := kp (K_s.out.bel hb_4)
  have K_p := kp (K_p.out.bel hb_4)
  have HB := kp (bt' HB.out hb_4 HB.out.size)
  have S_d := kp hs_4
  clear hs_4 hb_4
  clear S_a c1 c1b
  have x3 := K_p.out.atL xc.out
  have lp := K_p.out.lt
  have L_p := ld_all (P := Try.prog) (w.heap.size + 1) 4 25 25 PL _ Try.underlying25 rfl info_plan HPL.out K_p.out
  go_wp2_with (refine wpL_load rfl 25 _ rfl rfl L_p ?_)
  clear L_p x3 lp f1 f2 f4
  refine (cB0.out _).mono ?_
  rintro e w_5 ⟨rfl, hb_5⟩
  have K_s := kp (K_s.out.bel hb_5)
  have K_p := kp (K_p.out.bel hb_5)
  have S_d := kp (S_d.out.bel hb_5)
  have HB := kp (bt' HB.out hb_5 HB.out.size)
  clear hb_5
  clear cB0
  go_wp2
  go_loopw [18, 19] (fun lv kv wr => ∃ (j La : Nat), j ≤ l9.length ∧ j ≤ 20 ∧ lv = .int .i64 (La : Int) ∧ kv = .int .i64 (j : Int) ∧ La ≤ i ∧ Kp (S2 w.heap.size wr b_a b_b ⟨S, s, l, d, n⟩ ⟨S, s, l, d, n⟩ La 0) ∧ Kp (Blk wr w.heap.size 23 (cellsU8 S).toArray) ∧ Kp (Blk wr (w.heap.size + 1) 25 PL.toArray) ∧ Kp (Below w.heap.size w wr)) (fun _ kv _ => 20 - (intOf kv).toNat)
  case atStart => exact ⟨0, 0, Nat.zero_le _, Nat.zero_le _, rfl, rfl, Nat.zero_le _, S_d, K_s, K_p, HB⟩
  case round =>
    clear S_d K_s K_p HB
    obtain ⟨j, La, hj, hj20, rfl, rfl, hLa, S_d, K_s, K_p, HB⟩ := hrel
    by_cases hlt : j < l9.length ∧ j < 20
    · skip
      obtain ⟨hjl, hj20'⟩ := hlt
      have i0 : (0 : Int) ≤ (j : Int) := by omega
      have i1 : (j : Int) < (l9.length : Int) := by omega
      have i2 : (j : Int) < 20 := by omega
      have d1 : decide ((j : Int) < (l9.length : Int)) = true := decide_eq_true i1
      have d2 : decide ((j : Int) < 20) = true := decide_eq_true i2
      have ej : IntKind.i64.wrap ((j : Int) + 1) = (j : Int) + 1 := IntWalk.i64_in _ (by omega)
      obtain ⟨lb, lo, rfl, hlb, hcs⟩ := HHELD.out (by intro e; subst e; simp at hjl)
      obtain ⟨z, hcj⟩ : ∃ z, l9[j]? = some z := ⟨_, List.getElem?_eq_getElem hjl⟩
      obtain ⟨hz0, hz1⟩ := HRNG.out z (List.mem_of_getElem? hcj)
      have hz := (HB.out.cell (p := ⟨lb, lo + j, none⟩) hlb).trans (hcs j z hcj)
      have hlr : lb < wr.heap.size := Nat.lt_of_lt_of_le hlb HB.out.size
      obtain ⟨q1, hq1⟩ : ∃ q1 : Nat, z % (i : Int) + 1 = (q1 : Int) := ⟨(z % (i : Int) + 1).toNat, by have := Int.emod_nonneg z (show (i : Int) ≠ 0 by have := HI1.out; omega); omega⟩
      have hqi : z % (i : Int) < (i : Int) := Int.emod_lt_of_pos _ (by have := HI1.out; omega)
      have hq0 : 0 ≤ z % (i : Int) := Int.emod_nonneg _ (by have := HI1.out; omega)
      have hi16 : (i : Int) ≤ 16 := by have := HI2.out; omega
      have f1 : wrap64 (z % (i : Int) + 1) = (q1 : Int) := by rw [hq1]; exact IntWalk.wrap64_in _ (by omega)
      have f2 : wrap64 (1 + z % (i : Int)) = (q1 : Int) := by rw [Int.add_comm, hq1]; exact IntWalk.wrap64_in _ (by omega)
      have f4 : IntKind.i64.wrap z = z := IntWalk.i64_in _ (by omega)
      have hiz : (i : Int) ≠ 0 := by have := HI1.out; omega
      have hiz2 : ¬ i = 0 := by have := HI1.out; omega
      obtain ⟨L2, hL2⟩ : ∃ L2 : Nat, max La q1 = L2 := ⟨_, rfl⟩
      have hmx : max (La : Int) (q1 : Int) = (L2 : Int) := by omega
      have hL1 : 1 ≤ L2 := by omega
      have hL2i : L2 ≤ i := by omega
      have hLL : La ≤ L2 := by omega
      have hL2n : L2 ≤ n := by have := HI2.out; omega
      obtain ⟨PK, hIP, _, hKl, hKo, cS⟩ := SI.out L2 0 La ⟨#[97, 104, 101, 97, 100]⟩ hL1 hL2n (Int.le_refl _) (by have := HLL.out; omega) hLL (by decide)
      rw [Int.add_zero] at cS
      have cBk := kp (cBg.out L2 hL1 hL2n)
      obtain ⟨EK, hEK⟩ : ∃ EK, s + ((L2 : Int) - 1) * l = EK := ⟨_, rfl⟩
      rw [hEK] at cS cBk
      have cS := kp cS
      have hKl := kp hKl
      have hKo := kp hKo
      clear hEK hL2 hq1 hqi hq0
      have L_p := ld_all (P := Try.prog) (w.heap.size + 1) 4 25 25 PL _ Try.underlying25 rfl info_plan HPL.out K_p.out
      go_wp2_with (refine wpL_load rfl 25 _ rfl rfl L_p ?_)
      clear L_p hz hlr f1 f2 f4 hmx
      refine (cBk.out _).mono ?_
      rintro e w_56 ⟨rfl, hb_56⟩
      have K_s := kp (K_s.out.bel hb_56)
      have K_p := kp (K_p.out.bel hb_56)
      have S_d := kp (S_d.out.bel hb_56)
      have HB := kp (bt' HB.out hb_56 HB.out.size)
      clear hb_56
      go_wp2_with fail
      refine (cS.out _ _ _ _ HB.out.size S_d.out).mono ?_
      rintro e w_57 ⟨rfl, hs_57, hm_57⟩
      have K_s := kp (hm_57.keep (by decide) (by decide) (by decide) (by decide) K_s.out)
      have K_p := kp (hm_57.keep (by decide) (by decide) (by decide) (by decide) K_p.out)
      have HB := kp (HB.out.trans hm_57.below)
      have S_d := kp hs_57
      clear hs_57 hm_57
      have hlen_58 := hKl.out
      have SC_58 := fun (cur : Array Value) (h : cur.size = 36) => sc_new (P := Try.prog) w_57 44 PK (hKo.out) cur (by rw [hlen_58]; exact h)
      have hge_u := kp HB.out.size
      have K_s := kp (K_s.out.alloc (.cells PK.toArray 44))
      have K_p := kp (K_p.out.alloc (.cells PK.toArray 44))
      have S_d := kp (S_d.out.bel (ba (Below.refl _ _) (.cells PK.toArray 44)))
      have HB := kp (ba HB.out (.cells PK.toArray 44))
      have K_u := kp (Blk.new w_57 44 PK.toArray)
      go_wp2
      clear SC_58 hlen_58
      generalize w_57.alloc (.cells PK.toArray 44) = W_58 at K_s K_p K_u S_d HB ⊢
      generalize w_57.heap.size = b_u at K_u hge_u ⊢
      clear K_u
      go_roundw
      case measure => simp [intOf]; omega
      case rel => exact ⟨j + 1, L2, by omega, by omega, rfl, by congr 1, hL2i, S_d, K_s, K_p, HB⟩
    · skip
      rcases Decidable.em ((j : Int) < (l9.length : Int)) with h1 | h1
      · skip
        have d1 : decide ((j : Int) < (l9.length : Int)) = true := decide_eq_true h1
        have h2 : ¬ (j : Int) < 20 := by omega
        have d2 : decide ((j : Int) < 20) = false := decide_eq_false h2
        obtain ⟨PK, hIP, hpk, hKl, hKo, cS⟩ := SI.out i 0 La t HI1.out HI2.out (Int.le_refl _) (by have := HLL.out; omega) hLa (by omega)
        obtain ⟨PK2, _, hpk2, _, _, cS2⟩ := SI.out i (l - 1) 0 t HI1.out HI2.out (by have := HLL.out; omega) (by omega) (Nat.zero_le _) (by omega)
        obtain ⟨PK3, _, hpk3, _, _, cS3⟩ := SI.out i 0 i t HI1.out HI2.out (Int.le_refl _) (by have := HLL.out; omega) (Nat.le_refl _) (by omega)
        have hpp := hpk rfl rfl
        obtain rfl : PK2 = PK := by rw [hpp, hpk2 rfl rfl]
        obtain rfl : PK3 = PK2 := by rw [hpp, hpk3 rfl rfl]
        have y0' : Kp (PK3[0]? = some (.int .i64 (i : Int))) := kp (by rw [hpp]; rfl)
        rw [Int.add_zero, HE0.out] at cS cS3
        rw [HE0.out, show E0 + (l - 1) = E0 + l - 1 by omega] at cS2
        have cS := kp cS
        have cS2 : Kp (∀ W', w.heap.size ≤ W'.heap.size → S2 w.heap.size W' b_a b_b ⟨S, s, l, d, n⟩ ⟨S, s, l, d, n⟩ i 0 → Calls Try.prog 15 #[.pointer (some ⟨b_b, 0, none⟩), .int .i64 (E0 + l - 1), .string t] W' fun e W'' => e = .returned (.tuple #[.agg PK3.toArray, .int .i64 0]) ∧ S2 w.heap.size W'' b_a b_b ⟨S, s, l, d, n⟩ ⟨S, s, l, d, n⟩ i i ∧ MvS w.heap.size W' W'') := kp (fun W' hB h => (cS2 _ _ W' _ hB h.symm).mono fun e W'' ⟨h1, h2, h3⟩ => ⟨h1, h2.symm, h3⟩)
        have cS3 := kp cS3
        have hIP := kp hIP
        have hKl := kp hKl
        have hKo := kp hKo
        clear hpp hpk hpk2 hpk3 SI
        go_wp2_with fail
        refine (cS.out _ _ _ _ HB.out.size S_d.out).mono ?_
        rintro e w_86 ⟨rfl, hs_86, hm_86⟩
        have K_s := kp (hm_86.keep (by decide) (by decide) (by decide) (by decide) K_s.out)
        have K_p := kp (hm_86.keep (by decide) (by decide) (by decide) (by decide) K_p.out)
        have HB := kp (HB.out.trans hm_86.below)
        have S_d := kp hs_86
        clear hs_86 hm_86
        have x1 := (K_p.out.alloc (.cells PK3.toArray 44)).atL xl.out
        have lp := (K_p.out.alloc (.cells PK3.toArray 44)).lt
        have hlen_87 := hKl.out
        have SC_87 := fun (cur : Array Value) (h : cur.size = 36) => sc_new (P := Try.prog) w_86 44 PK3 (hKo.out) cur (by rw [hlen_87]; exact h)
        have hge_x := kp HB.out.size
        have K_s := kp (K_s.out.alloc (.cells PK3.toArray 44))
        have K_p := kp (K_p.out.alloc (.cells PK3.toArray 44))
        have S_d := kp (S_d.out.bel (ba (Below.refl _ _) (.cells PK3.toArray 44)))
        have HB := kp (ba HB.out (.cells PK3.toArray 44))
        have K_x := kp (Blk.new w_86 44 PK3.toArray)
        go_wp2_with fail
        clear x1 lp
        clear SC_87 hlen_87
        generalize w_86.alloc (.cells PK3.toArray 44) = W_87 at K_s K_p K_x S_d HB ⊢
        generalize w_86.heap.size = b_x at K_x hge_x ⊢
        refine (cS2.out _ HB.out.size S_d.out).mono ?_
        rintro e w_88 ⟨rfl, hs_88, hm_88⟩
        have K_s := kp (hm_88.keep (by decide) (by decide) (by decide) (by decide) K_s.out)
        have K_p := kp (hm_88.keep (by decide) (by decide) (by decide) (by decide) K_p.out)
        have K_x := kp (hm_88.keep (by decide) (by decide) (by decide) (by decide) K_x.out)
        have HB := kp (HB.out.trans hm_88.below)
        have S_d := kp hs_88
        clear hs_88 hm_88
        have hlen_89 := hKl.out
        have SC_89 := fun (cur : Array Value) (h : cur.size = 36) => sc_new (P := Try.prog) w_88 44 PK3 (hKo.out) cur (by rw [hlen_89]; exact h)
        have hge_y := kp HB.out.size
        have K_s := kp (K_s.out.alloc (.cells PK3.toArray 44))
        have K_p := kp (K_p.out.alloc (.cells PK3.toArray 44))
        have K_x := kp (K_x.out.alloc (.cells PK3.toArray 44))
        have S_d := kp (S_d.out.bel (ba (Below.refl _ _) (.cells PK3.toArray 44)))
        have HB := kp (ba HB.out (.cells PK3.toArray 44))
        have K_y := kp (Blk.new w_88 44 PK3.toArray)
        go_wp2_with fail
        clear SC_89 hlen_89
        generalize w_88.alloc (.cells PK3.toArray 44) = W_89 at K_s K_p K_x K_y S_d HB ⊢
        generalize w_88.heap.size = b_y at K_y hge_y ⊢
        refine (cS3.out _ _ _ _ HB.out.size S_d.out).mono ?_
        rintro e w_90 ⟨rfl, hs_90, hm_90⟩
        have K_s := kp (hm_90.keep (by decide) (by decide) (by decide) (by decide) K_s.out)
        have K_p := kp (hm_90.keep (by decide) (by decide) (by decide) (by decide) K_p.out)
        have K_x := kp (hm_90.keep (by decide) (by decide) (by decide) (by decide) K_x.out)
        have K_y := kp (hm_90.keep (by decide) (by decide) (by decide) (by decide) K_y.out)
        have HB := kp (HB.out.trans hm_90.below)
        have S_d := kp hs_90
        clear hs_90 hm_90
        have hlen_91 := hKl.out
        have SC_91 := fun (cur : Array Value) (h : cur.size = 36) => sc_new (P := Try.prog) w_90 44 PK3 (hKo.out) cur (by rw [hlen_91]; exact h)
        have hge_z := kp HB.out.size
        have K_s := kp (K_s.out.alloc (.cells PK3.toArray 44))
        have K_p := kp (K_p.out.alloc (.cells PK3.toArray 44))
        have K_x := kp (K_x.out.alloc (.cells PK3.toArray 44))
        have K_y := kp (K_y.out.alloc (.cells PK3.toArray 44))
        have S_d := kp (S_d.out.bel (ba (Below.refl _ _) (.cells PK3.toArray 44)))
        have HB := kp (ba HB.out (.cells PK3.toArray 44))
        have K_z := kp (Blk.new w_90 44 PK3.toArray)
        go_upto_region 23 with (fail)
        clear SC_91 hlen_91
        generalize w_90.alloc (.cells PK3.toArray 44) = W_91 at K_s K_p K_x K_y K_z S_d HB ⊢
        generalize w_90.heap.size = b_z at K_z hge_z ⊢
        refine wp_region_extP 26 ?_
        simp only [List.append_eq, List.cons_append, List.nil_append, List.take_succ_cons, List.take_zero, List.drop_succ_cons, List.drop_zero]
        have y0 := K_x.out.atL y0'.out
        have lx := K_x.out.lt
        have Q_x := kp (fun x => ld_all (P := Try.prog) b_x 36 44 44 PK3 _ Try.underlying44 rfl info_pk hKl.out (K_x.out.bel (ext_below W_91 x)))
        have Q_y := kp (fun x => ld_all (P := Try.prog) b_y 36 44 44 PK3 _ Try.underlying44 rfl info_pk hKl.out (K_y.out.bel (ext_below W_91 x)))
        have Q_z := kp (fun x => ld_all (P := Try.prog) b_z 36 44 44 PK3 _ Try.underlying44 rfl info_pk hKl.out (K_z.out.bel (ext_below W_91 x)))
        repeat (first
          | (go_big_quiet_want; refine quiet_load _ rfl 44 _ rfl rfl (fun w hw => by obtain ⟨x, rfl⟩ := hw; exact Q_x.out x) ?_; go_simp; go_big_quiet_on)
          | (go_big_quiet_want; refine quiet_load _ rfl 44 _ rfl rfl (fun w hw => by obtain ⟨x, rfl⟩ := hw; exact Q_y.out x) ?_; go_simp; go_big_quiet_on)
          | (go_big_quiet_want; refine quiet_load _ rfl 44 _ rfl rfl (fun w hw => by obtain ⟨x, rfl⟩ := hw; exact Q_z.out x) ?_; go_simp; go_big_quiet_on)
          | (go_big_quiet_want; refine quiet_val 147 rfl (.bool true) (fun w _ => exec_pk_eq rfl hIP.out rfl rfl w) ?_; go_simp; go_big_quiet_on)
          | (go_big_quiet_want; refine quiet_val 152 rfl (.bool true) (fun w _ => exec_pk_eq rfl hIP.out rfl rfl w) ?_; go_simp; go_big_quiet_on)
          | go_big_quiet_step (fail))
        refine wpQuiet_nil ?_
        rintro z
        go_wp2
        go_ret
        exact ⟨rfl, bt' HB.out (ext_below W_91 z) HB.out.size⟩
      · skip
        have d1 : decide ((j : Int) < (l9.length : Int)) = false := decide_eq_false h1
        obtain ⟨PK, hIP, hpk, hKl, hKo, cS⟩ := SI.out i 0 La t HI1.out HI2.out (Int.le_refl _) (by have := HLL.out; omega) hLa (by omega)
        obtain ⟨PK2, _, hpk2, _, _, cS2⟩ := SI.out i (l - 1) 0 t HI1.out HI2.out (by have := HLL.out; omega) (by omega) (Nat.zero_le _) (by omega)
        obtain ⟨PK3, _, hpk3, _, _, cS3⟩ := SI.out i 0 i t HI1.out HI2.out (Int.le_refl _) (by have := HLL.out; omega) (Nat.le_refl _) (by omega)
        have hpp := hpk rfl rfl
        obtain rfl : PK2 = PK := by rw [hpp, hpk2 rfl rfl]
        obtain rfl : PK3 = PK2 := by rw [hpp, hpk3 rfl rfl]
        have y0' : Kp (PK3[0]? = some (.int .i64 (i : Int))) := kp (by rw [hpp]; rfl)
        rw [Int.add_zero, HE0.out] at cS cS3
        rw [HE0.out, show E0 + (l - 1) = E0 + l - 1 by omega] at cS2
        have cS := kp cS
        have cS2 : Kp (∀ W', w.heap.size ≤ W'.heap.size → S2 w.heap.size W' b_a b_b ⟨S, s, l, d, n⟩ ⟨S, s, l, d, n⟩ i 0 → Calls Try.prog 15 #[.pointer (some ⟨b_b, 0, none⟩), .int .i64 (E0 + l - 1), .string t] W' fun e W'' => e = .returned (.tuple #[.agg PK3.toArray, .int .i64 0]) ∧ S2 w.heap.size W'' b_a b_b ⟨S, s, l, d, n⟩ ⟨S, s, l, d, n⟩ i i ∧ MvS w.heap.size W' W'') := kp (fun W' hB h => (cS2 _ _ W' _ hB h.symm).mono fun e W'' ⟨h1, h2, h3⟩ => ⟨h1, h2.symm, h3⟩)
        have cS3 := kp cS3
        have hIP := kp hIP
        have hKl := kp hKl
        have hKo := kp hKo
        clear hpp hpk hpk2 hpk3 SI
        go_wp2_with fail
        refine (cS.out _ _ _ _ HB.out.size S_d.out).mono ?_
        rintro e w_116 ⟨rfl, hs_116, hm_116⟩
        have K_s := kp (hm_116.keep (by decide) (by decide) (by decide) (by decide) K_s.out)
        have K_p := kp (hm_116.keep (by decide) (by decide) (by decide) (by decide) K_p.out)
        have HB := kp (HB.out.trans hm_116.below)
        have S_d := kp hs_116
        clear hs_116 hm_116
        have x1 := (K_p.out.alloc (.cells PK3.toArray 44)).atL xl.out
        have lp := (K_p.out.alloc (.cells PK3.toArray 44)).lt
        have hlen_117 := hKl.out
        have SC_117 := fun (cur : Array Value) (h : cur.size = 36) => sc_new (P := Try.prog) w_116 44 PK3 (hKo.out) cur (by rw [hlen_117]; exact h)
        have hge_x := kp HB.out.size
        have K_s := kp (K_s.out.alloc (.cells PK3.toArray 44))
        have K_p := kp (K_p.out.alloc (.cells PK3.toArray 44))
        have S_d := kp (S_d.out.bel (ba (Below.refl _ _) (.cells PK3.toArray 44)))
        have HB := kp (ba HB.out (.cells PK3.toArray 44))
        have K_x := kp (Blk.new w_116 44 PK3.toArray)
        go_wp2_with fail
        clear x1 lp
        clear SC_117 hlen_117
        generalize w_116.alloc (.cells PK3.toArray 44) = W_117 at K_s K_p K_x S_d HB ⊢
        generalize w_116.heap.size = b_x at K_x hge_x ⊢
        refine (cS2.out _ HB.out.size S_d.out).mono ?_
        rintro e w_118 ⟨rfl, hs_118, hm_118⟩
        have K_s := kp (hm_118.keep (by decide) (by decide) (by decide) (by decide) K_s.out)
        have K_p := kp (hm_118.keep (by decide) (by decide) (by decide) (by decide) K_p.out)
        have K_x := kp (hm_118.keep (by decide) (by decide) (by decide) (by decide) K_x.out)
        have HB := kp (HB.out.trans hm_118.below)
        have S_d := kp hs_118
        clear hs_118 hm_118
        have hlen_119 := hKl.out
        have SC_119 := fun (cur : Array Value) (h : cur.size = 36) => sc_new (P := Try.prog) w_118 44 PK3 (hKo.out) cur (by rw [hlen_119]; exact h)
        have hge_y := kp HB.out.size
        have K_s := kp (K_s.out.alloc (.cells PK3.toArray 44))
        have K_p := kp (K_p.out.alloc (.cells PK3.toArray 44))
        have K_x := kp (K_x.out.alloc (.cells PK3.toArray 44))
        have S_d := kp (S_d.out.bel (ba (Below.refl _ _) (.cells PK3.toArray 44)))
        have HB := kp (ba HB.out (.cells PK3.toArray 44))
        have K_y := kp (Blk.new w_118 44 PK3.toArray)
        go_wp2_with fail
        clear SC_119 hlen_119
        generalize w_118.alloc (.cells PK3.toArray 44) = W_119 at K_s K_p K_x K_y S_d HB ⊢
        generalize w_118.heap.size = b_y at K_y hge_y ⊢
        refine (cS3.out _ _ _ _ HB.out.size S_d.out).mono ?_
        rintro e w_120 ⟨rfl, hs_120, hm_120⟩
        have K_s := kp (hm_120.keep (by decide) (by decide) (by decide) (by decide) K_s.out)
        have K_p := kp (hm_120.keep (by decide) (by decide) (by decide) (by decide) K_p.out)
        have K_x := kp (hm_120.keep (by decide) (by decide) (by decide) (by decide) K_x.out)
        have K_y := kp (hm_120.keep (by decide) (by decide) (by decide) (by decide) K_y.out)
        have HB := kp (HB.out.trans hm_120.below)
        have S_d := kp hs_120
        clear hs_120 hm_120
        have hlen_121 := hKl.out
        have SC_121 := fun (cur : Array Value) (h : cur.size = 36) => sc_new (P := Try.prog) w_120 44 PK3 (hKo.out) cur (by rw [hlen_121]; exact h)
        have hge_z := kp HB.out.size
        have K_s := kp (K_s.out.alloc (.cells PK3.toArray 44))
        have K_p := kp (K_p.out.alloc (.cells PK3.toArray 44))
        have K_x := kp (K_x.out.alloc (.cells PK3.toArray 44))
        have K_y := kp (K_y.out.alloc (.cells PK3.toArray 44))
        have S_d := kp (S_d.out.bel (ba (Below.refl _ _) (.cells PK3.toArray 44)))
        have HB := kp (ba HB.out (.cells PK3.toArray 44))
        have K_z := kp (Blk.new w_120 44 PK3.toArray)
        go_upto_region 23 with (fail)
        clear SC_121 hlen_121
        generalize w_120.alloc (.cells PK3.toArray 44) = W_121 at K_s K_p K_x K_y K_z S_d HB ⊢
        generalize w_120.heap.size = b_z at K_z hge_z ⊢
        refine wp_region_extP 26 ?_
        simp only [List.append_eq, List.cons_append, List.nil_append, List.take_succ_cons, List.take_zero, List.drop_succ_cons, List.drop_zero]
        have y0 := K_x.out.atL y0'.out
        have lx := K_x.out.lt
        have Q_x := kp (fun x => ld_all (P := Try.prog) b_x 36 44 44 PK3 _ Try.underlying44 rfl info_pk hKl.out (K_x.out.bel (ext_below W_121 x)))
        have Q_y := kp (fun x => ld_all (P := Try.prog) b_y 36 44 44 PK3 _ Try.underlying44 rfl info_pk hKl.out (K_y.out.bel (ext_below W_121 x)))
        have Q_z := kp (fun x => ld_all (P := Try.prog) b_z 36 44 44 PK3 _ Try.underlying44 rfl info_pk hKl.out (K_z.out.bel (ext_below W_121 x)))
        repeat (first
          | (go_big_quiet_want; refine quiet_load _ rfl 44 _ rfl rfl (fun w hw => by obtain ⟨x, rfl⟩ := hw; exact Q_x.out x) ?_; go_simp; go_big_quiet_on)
          | (go_big_quiet_want; refine quiet_load _ rfl 44 _ rfl rfl (fun w hw => by obtain ⟨x, rfl⟩ := hw; exact Q_y.out x) ?_; go_simp; go_big_quiet_on)
          | (go_big_quiet_want; refine quiet_load _ rfl 44 _ rfl rfl (fun w hw => by obtain ⟨x, rfl⟩ := hw; exact Q_z.out x) ?_; go_simp; go_big_quiet_on)
          | (go_big_quiet_want; refine quiet_val 147 rfl (.bool true) (fun w _ => exec_pk_eq rfl hIP.out rfl rfl w) ?_; go_simp; go_big_quiet_on)
          | (go_big_quiet_want; refine quiet_val 152 rfl (.bool true) (fun w _ => exec_pk_eq rfl hIP.out rfl rfl w) ?_; go_simp; go_big_quiet_on)
          | go_big_quiet_step (fail))
        refine wpQuiet_nil ?_
        rintro z
        go_wp2
        go_ret
        exact ⟨rfl, bt' HB.out (ext_below W_121 z) HB.out.size⟩
end Go.Proofs.Ytmnbnjiipnocaaa
