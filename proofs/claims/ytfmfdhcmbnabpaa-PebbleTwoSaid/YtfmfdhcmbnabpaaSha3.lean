/- sha: New, constants, More, Size, Key, Sum, Walk, Hex. -/
import Derived.Test.YtfmfdhcmbnabpaaSha2
namespace Go.Proofs.Ytfmfdhcmbnabpaa
open Go Go.RowKit
set_option linter.unusedVariables false
set_option linter.unusedSimpArgs false
attribute [local go_sem] bmax2 bmin2 bmax bmin cell_ext frozen_ext

theorem New_any (w : World) : Calls Try.prog 52 #[] w fun e w' => e = .returned (stA h0V (str []) 0 true) ∧ Below w.heap.size w w' := by
  go_enter Try.func52, Try.ntmps52
  go_wp2
  exact bodyPost_ret (v := stA h0V (str []) 0 true) (by simp [results, Try.results52, go_sem, stA, stL, h0V, str]) rfl ⟨rfl, ba (Below.refl _ _) _⟩
set_option maxRecDepth 100000 in
theorem constants_any (w : World) : Calls Try.prog 56 #[] w fun e w' => e = .returned (arr32 kL) ∧ Below w.heap.size w w' := by
  go_enter Try.func56, Try.ntmps56
  have SC := fun (cur : Array Value) (h : cur.size = 64) => sc_new (P := Try.prog) w 90 (c32 kL) (c32_one _) cur h
  have hl : (c32 kL).length = 64 := rfl
  go_wp2_with (refine wpL_val 1 rfl rfl (.agg (c32 kL).toArray) (by kernel_rfl) ?_)
  refine bodyPost_ret (v := arr32 kL) ?_ rfl ⟨rfl, ba (Below.refl _ _) _⟩
  exact res_all Try.results56 w.heap.size 64 _ (c32 kL) _ Try.underlying90 rfl info_a64 rfl (Blk.new w _ _) _ rfl
theorem Clone_any (s : ByteArray) (w : World) (hs : s.size ≤ 281474976710656) : Calls Try.prog 58 #[.string s] w fun e w' => e = .returned (.string s) ∧ Below w.heap.size w w' := by
  have C := kp (fun w => Try.stringslite_Clone s w hs)
  go_enter Try.func58, Try.ntmps58
  go_wp2_with fail
  refine (C.out _).mono ?_
  rintro e w1 ⟨rfl, hb⟩
  go_wp2
  go_ret
  exact ⟨rfl, hb⟩

theorem st_cells {W : World} {B : Nat} {T : TypeId} {v : V8} {R : ByteArray} {n : Int} {b : Bool} (h : Blk W B T (stL v R n b).toArray) : W.cell? ⟨B, 0, none⟩ = some (.int .u32 v.a) ∧ W.cell? ⟨B, 1, none⟩ = some (.int .u32 v.b) ∧ W.cell? ⟨B, 2, none⟩ = some (.int .u32 v.c) ∧ W.cell? ⟨B, 3, none⟩ = some (.int .u32 v.d) ∧
    W.cell? ⟨B, 4, none⟩ = some (.int .u32 v.e) ∧ W.cell? ⟨B, 5, none⟩ = some (.int .u32 v.f) ∧ W.cell? ⟨B, 6, none⟩ = some (.int .u32 v.g) ∧ W.cell? ⟨B, 7, none⟩ = some (.int .u32 v.h) ∧ W.cell? ⟨B, 8, none⟩ = some (.string R) ∧ W.cell? ⟨B, 9, none⟩ = some (.int .i64 n) ∧ W.cell? ⟨B, 10, none⟩ = some (.bool b) :=
  ⟨h.atL rfl, h.atL rfl, h.atL rfl, h.atL rfl, h.atL rfl, h.atL rfl, h.atL rfl, h.atL rfl, h.atL rfl, h.atL rfl, h.atL rfl⟩

set_option maxHeartbeats 4000000 in
set_option maxRecDepth 100000 in
theorem More_any (m t : List UInt8) (v : V8) (rest : List UInt8) (n : Int) (b : Bool) (hst : (b = true ∧ v = hOf m ∧ rest = restOf m ∧ n = (m.length : Int)) ∨ (b = false ∧ m = [])) (hsz : m.length + t.length ≤ 1099511627776) (w : World) :
    Calls Try.prog 53 #[stA v (str rest) n b, .string (str t)] w fun e w' => e = .returned (stA (hOf (m ++ t)) (str (restOf (m ++ t))) ((m ++ t).length : Int) true) ∧ Below w.heap.size w w' := by
  have hts : (str t).size ≤ 1099511627776 := by rw [str_size]; omega
  have hrs : (str (restOf m)).size ≤ 64 := by rw [str_size, restOf_length]; omega
  have hA : str (restOf m) ++ str t = str (restOf m ++ t) := str_append _ _
  have hAl : (restOf m ++ t).length ≤ 1099511627840 := by rw [List.length_append, restOf_length]; omega
  have hNl : (m.length : Int) + ((str t).size : Int) = ((m ++ t).length : Int) := by rw [str_size, List.length_append]; omega
  have hN1 : (0 : Int) ≤ (m.length : Int) := by omega
  have hN2 : (m.length : Int) ≤ 1099511627776 := by omega
  have hmore := kp (hOf_more m t)
  have hmore2 := kp (restOf_more m t)
  have hok := kp (hOf_ok m)
  have h00 := kp (show m = [] → hOf m = h0V ∧ restOf m = [] ∧ (m.length : Int) = 0 from fun h => by subst h; exact ⟨rfl, rfl, rfl⟩)
  have hm0 : Kp (b = false → m = []) := kp (fun hb => hst.elim (fun h => by rw [hb] at h; cases h.1) (fun h => h.2))
  have hst2 : b = true → v = hOf m ∧ rest = restOf m ∧ n = (m.length : Int) := fun hb => hst.elim (fun h => h.2) (fun h => by rw [hb] at h; cases h.1)
  clear hst
  obtain ⟨V, hV⟩ : ∃ V, hOf m = V := ⟨_, rfl⟩
  obtain ⟨R, hR⟩ : ∃ R, restOf m = R := ⟨_, rfl⟩
  obtain ⟨N, hN⟩ : ∃ N, (m.length : Int) = N := ⟨_, rfl⟩
  obtain ⟨V', hV'⟩ : ∃ V', hOf (m ++ t) = V' := ⟨_, rfl⟩
  obtain ⟨R', hR'⟩ : ∃ R', restOf (m ++ t) = R' := ⟨_, rfl⟩
  obtain ⟨N', hN'⟩ : ∃ N', ((m ++ t).length : Int) = N' := ⟨_, rfl⟩
  rw [hV] at hst2 hok h00 hmore
  rw [hR] at hst2 hrs hA hAl h00 hmore hmore2
  rw [hN] at hst2 hNl h00 hN1 hN2
  rw [hV'] at hmore ⊢
  rw [hR'] at hmore2 ⊢
  rw [hN'] at hNl ⊢
  clear hV hR hN hV' hR' hN' hsz
  obtain ⟨T, hT⟩ : ∃ T, str t = T := ⟨_, rfl⟩
  rw [hT] at hts hA hNl ⊢
  clear hT
  obtain ⟨all, hall⟩ : ∃ all, R ++ t = all := ⟨_, rfl⟩
  rw [hall] at hA hAl hmore hmore2
  clear hall
  have pre : ∀ K : Prop, True := fun _ => trivial
  cases b
  case' false =>
    obtain ⟨rfl, rfl, rfl⟩ := h00.out (hm0.out rfl)
    clear hst2 hm0 h00 hok
    unfold stA stL
    go_enter Try.func53, Try.ntmps53
    go_wp2_with fail
    obtain ⟨CS, hCS⟩ : ∃ CS, stL h0V (str []) 0 true = CS := ⟨_, rfl⟩
    have NW := New_any
    unfold stA at NW
    rw [hCS] at NW
    refine (NW _).mono ?_
    rintro e w1 ⟨rfl, hb⟩
    have K0 := ((Blk.new w 84 (stL v (str rest) n false).toArray).alloc _).bel hb
    have K1 := (Blk.new (w.alloc _) 84 (stL ⟨0, 0, 0, 0, 0, 0, 0, 0⟩ ⟨#[]⟩ 0 false).toArray).bel hb
    rw [size_all] at K1
    have hl11 : CS.length = 11 := by rw [← hCS]; rfl
    have h1c : ∀ x ∈ CS, x.oneCell' = true := by rw [← hCS]; exact stL_one _ _ _ _
    have SC := sc_all (P := Try.prog) (w := w1) w.heap.size 84 CS _ K0 hl11 h1c
    have HB := kp (bsr ((ba (ba (Below.refl w.heap.size w) _) _).trans (hb.mono (by simp only [size_all]; omega))) (Nat.le_refl w.heap.size) (by have := hb.size; simp only [size_all] at this; omega) CS.toArray)
    have X0 := K0.row CS.toArray
    have X1 := K1.rowfar (b := w.heap.size) (by omega) CS.toArray
    have c8 : (w1.setRow w.heap.size CS.toArray).cell? ⟨w.heap.size, 8, none⟩ = some (.string (str [])) := X0.atL (by rw [← hCS]; rfl)
    have c9 : (w1.setRow w.heap.size CS.toArray).cell? ⟨w.heap.size, 9, none⟩ = some (.int .i64 0) := X0.atL (by rw [← hCS]; rfl)
    have f9 := X0.frozen 9
    have HX0 := kp X0
    have HX1 := kp X1
    have HCS := kp hCS
    clear NW hb K0 K1 X0 X1 h1c hCS
    generalize hX : w1.setRow w.heap.size CS.toArray = X at SC HB HX0 HX1 c8 c9 f9
    clear hX
    go_wp2_with fail
    have HY0 : Kp (Blk (X.setCell ⟨w.heap.size, 9, none⟩ (.int .i64 N')) w.heap.size 84 (stL h0V (str []) N' true).toArray) := kp (by
      have := HX0.out.setL 9 (.int .i64 N')
      rw [← HCS.out] at this
      exact this)
    have HY1 := kp (HX1.out.far (p := ⟨w.heap.size, 9, none⟩) (by simp) (.int .i64 N'))
    have HBY := kp (bsc HB.out (p := ⟨w.heap.size, 9, none⟩) (Nat.le_refl _) (.int .i64 N'))
    have hok := kp h0V_ok
    clear SC HB HX0 HX1 c8 c9 f9 HCS hl11
    generalize (X.setCell ⟨w.heap.size, 9, none⟩ (.int .i64 N')) = W at HY0 HY1 HBY ⊢
    obtain ⟨V, hV⟩ : ∃ V, h0V = V := ⟨_, rfl⟩
    obtain ⟨RR, hRR⟩ : ∃ RR, str [] = RR := ⟨_, rfl⟩
    rw [hV] at HY0 hok hmore
    rw [hRR] at HY0
    clear hV hRR
  case' true =>
    obtain ⟨rfl, rfl, rfl⟩ := hst2 rfl
    clear hst2 hm0 h00
    unfold stA stL
    go_enter Try.func53, Try.ntmps53
    go_wp2_with fail
    have HY0 := kp ((Blk.new w 84 (stL v (str rest) N' true).toArray).alloc (.cells (stL ⟨0, 0, 0, 0, 0, 0, 0, 0⟩ ⟨#[]⟩ 0 false).toArray 84))
    have HY1 := kp (Blk.new (w.alloc (.cells (stL v (str rest) N' true).toArray 84)) 84 (stL ⟨0, 0, 0, 0, 0, 0, 0, 0⟩ ⟨#[]⟩ 0 false).toArray)
    have HBY := kp (ba (ba (Below.refl w.heap.size w) (.cells (stL v (str rest) N' true).toArray 84)) (.cells (stL ⟨0, 0, 0, 0, 0, 0, 0, 0⟩ ⟨#[]⟩ 0 false).toArray 84))
    rw [size_all] at HY1
    change Calls Try.prog 56 #[] ((w.alloc (.cells (stL v (str rest) N' true).toArray 84)).alloc (.cells (stL ⟨0, 0, 0, 0, 0, 0, 0, 0⟩ ⟨#[]⟩ 0 false).toArray 84)) _
    generalize ((w.alloc (.cells (stL v (str rest) N' true).toArray 84)).alloc (.cells (stL ⟨0, 0, 0, 0, 0, 0, 0, 0⟩ ⟨#[]⟩ 0 false).toArray 84)) = W at HY0 HY1 HBY ⊢
    obtain ⟨V, hV⟩ : ∃ V, v = V := ⟨_, rfl⟩
    obtain ⟨RR, hRR⟩ : ∃ RR, str rest = RR := ⟨_, rfl⟩
    rw [hV] at HY0 hok hmore
    rw [hRR] at HY0
    clear hV hRR
  all_goals
    have CT := constants_any
    unfold arr32 at CT
    refine (CT _).mono ?_
    rintro e w2 ⟨rfl, hb2⟩
    have SC := fun (cur : Array Value) (h : cur.size = 64) => sc_new (P := Try.prog) w2 90 (c32 kL) (c32_one _) cur h
    have hl : (c32 kL).length = 64 := rfl
    have HZ0 := kp ((HY0.out.bel hb2).alloc (.cells (c32 kL).toArray 90))
    have HZ1 := kp ((HY1.out.bel hb2).alloc (.cells (c32 kL).toArray 90))
    have HZK := kp (Blk.new w2 90 (c32 kL).toArray)
    have HBZ := kp (ba (bt' HBY.out hb2 HBY.out.size) (.cells (c32 kL).toArray 90))
    have hkb : w.heap.size + 1 < w2.heap.size := Nat.lt_of_lt_of_le HY1.out.lt hb2.size
    clear CT hb2 HY0 HY1 HBY
    go_wp2_with fail
    generalize w2.alloc (.cells (c32 kL).toArray 90) = w3 at HZ0 HZ1 HZK HBZ ⊢
    generalize w2.heap.size = kb at HZK hkb ⊢
    clear SC hl
    go_loopw [5] (fun x wr => ∃ j : Nat, 64 * j ≤ all.length ∧ x = .string (str (all.drop (64 * j))) ∧ Kp (Blk wr w.heap.size 84 (stL (hRun V j all) RR N' true).toArray) ∧ Kp (Blk wr (w.heap.size + 1) 84 (stL ⟨0, 0, 0, 0, 0, 0, 0, 0⟩ ⟨#[]⟩ 0 false).toArray) ∧ Kp (Blk wr kb 90 (c32 kL).toArray) ∧ Kp (Below w.heap.size w wr)) (fun x _ => lenOf x)
    case atStart => exact ⟨0, by omega, by rw [Nat.mul_zero, List.drop_zero], HZ0, HZ1, HZK, HBZ⟩
    case round =>
      obtain ⟨j, hj, rfl, h0, h1, hk, hb⟩ := hrel
      by_cases hlt : 64 * j + 64 ≤ all.length
      · have hdl : (all.drop (64 * j)).length = all.length - 64 * j := List.length_drop ..
        have HSL := kp (str_size (all.drop (64 * j)))
        have HPL : Kp (((all.drop (64 * j)).take 64).length = 64) := kp (by rw [List.length_take, hdl]; omega)
        have HX1 : Kp ((str (all.drop (64 * j))).extract 0 64 = str ((all.drop (64 * j)).take 64)) := kp (by rw [extract_str]; rfl)
        have HX2 : Kp ((str (all.drop (64 * j))).extract 64 (str (all.drop (64 * j))).size = str (all.drop (64 * (j + 1)))) := kp (by rw [extract_str, str_size, List.drop_drop, hdl, List.take_of_length_le (by rw [List.length_drop]; omega)]; congr 2)
        have hsz1 : (64 : Int) ≤ ((str (all.drop (64 * j))).size : Int) := by rw [str_size, hdl]; omega
        have hsz2 : 64 ≤ (str (all.drop (64 * j))).size := by rw [str_size, hdl]; omega
        have hsz3 : (str (all.drop (64 * j))).size ≤ 1099511627840 := by rw [str_size, hdl]; omega
        have HDL := kp hdl
        obtain ⟨S, hS⟩ : ∃ S, str (all.drop (64 * j)) = S := ⟨_, rfl⟩
        rw [hS] at hsz1 hsz2 hsz3 HX1 HX2 HSL ⊢
        clear hS hdl
        have TH := fun w' hkw => through_any (hRun V j all) (hRun_ok j V all hok.out) RR N' true _ HPL.out kb w' hkw
        rw [← hRun_succ, ← HX1.out] at TH
        obtain ⟨CS, hCS⟩ : ∃ CS, stL (hRun V (j + 1) all) RR N' true = CS := ⟨_, rfl⟩
        unfold stA at TH
        rw [hCS] at TH
        unfold stL at TH
        have HTH := kp TH
        have hl11 : CS.length = 11 := by rw [← hCS]; rfl
        have h1c : ∀ x ∈ CS, x.oneCell' = true := by rw [← hCS]; exact stL_one _ _ _ _
        have H1C := kp h1c
        have HCS := kp hCS
        obtain ⟨c0, c1, c2, c3, c4, c5, c6, c7, c8, c9, c10⟩ := st_cells h0.out
        have hlw := h0.out.lt
        clear TH h1c hCS
        go_wp2
        refine wp_region_ext [0, 1, 2, 3] [4] (by kernel_rfl) (by kernel_rfl) ?_
        simp only [List.map_cons, List.map_nil, List.getD_cons_succ, List.getD_cons_zero]
        repeat (go_big_quiet_step ((go_at_call 57; exact Calls.ext_of (HTH.out _ (hk.out.bel (ext_below _ _))))))
        refine wpQuiet_nil ?_
        rintro z
        have hz0 := h0.out.bel (ext_below wr z)
        have hz1 := kp (h1.out.bel (ext_below wr z))
        have hzk := kp (hk.out.bel (ext_below wr z))
        have hzb := kp (bt' hb.out (ext_below wr z) hb.out.size)
        have SC := sc_all (P := Try.prog) (w := wr.ext z) w.heap.size 84 CS _ hz0 hl11 H1C.out
        have HX := kp (hz0.row CS.toArray)
        have HN1 := kp (hz1.out.rowfar (b := w.heap.size) (by omega) CS.toArray)
        have HNK := kp (hzk.out.rowfar (b := w.heap.size) (by omega) CS.toArray)
        have HNB := kp (bsr hzb.out (Nat.le_refl _) hzb.out.size CS.toArray)
        clear c0 c1 c2 c3 c4 c5 c6 c7 c8 c9 c10 hz0 hz1 hzk hzb h0 h1 hk hb HTH
        generalize (wr.ext z).setRow w.heap.size CS.toArray = Y at SC HX HN1 HNK HNB
        go_wp2
        go_roundw
        case measure => show (S.extract 64 S.size).size < S.size; rw [HX2.out, str_size, List.length_drop, HSL.out, HDL.out]; omega
        case rel => exact ⟨j + 1, by omega, by rw [HX2.out], by rw [HCS.out]; exact HX, HN1, HNK, HNB⟩
      · obtain rfl : j = all.length / 64 := by omega
        have hRl := congrArg List.length hmore2.out
        rw [List.length_drop] at hRl
        have HRL := kp hRl
        clear hRl
        rw [hmore2.out, hmore.out] at *
        have hs1 : ¬ (64 : Int) ≤ ((str R').size : Int) := by have := HRL.out; rw [str_size]; omega
        have hs2 : (str R').size ≤ 281474976710656 := by have := HRL.out; rw [str_size]; omega
        have CL := kp (Clone_any (str R'))
        have HS2 := kp hs2
        obtain ⟨S, hS⟩ : ∃ S, str R' = S := ⟨_, rfl⟩
        rw [hS] at hs1 CL HS2 ⊢
        have HS := kp hS
        clear hS hs2
        go_wp2_with fail
        refine (CL.out _ HS2.out).mono ?_
        rintro e w5 ⟨rfl, hb5⟩
        have hz0 := h0.out.bel hb5
        have c8 := (st_cells hz0).2.2.2.2.2.2.2.2.1
        have f8 := hz0.frozen 8
        have HZZ := kp (hz0.setL 8 (.string S))
        have HZ1 := kp ((h1.out.bel hb5).far (p := ⟨w.heap.size, 8, none⟩) (by simp) (.string S))
        have HZB := kp (bsc (bt' hb.out hb5 hb.out.size) (p := ⟨w.heap.size, 8, none⟩) (Nat.le_refl _) (.string S))
        have HZZ2 : Kp (Blk (w5.setCell ⟨w.heap.size, 8, none⟩ (.string S)) w.heap.size 84 (stL V' S N' true).toArray) := HZZ
        obtain ⟨CS, hCS⟩ : ∃ CS, stL V' S N' true = CS := ⟨_, rfl⟩
        have hl11 : CS.length = 11 := by rw [← hCS]; rfl
        have h1c : ∀ x ∈ CS, x.oneCell' = true := by rw [← hCS]; exact stL_one _ _ _ _
        rw [hCS] at HZZ2
        have HCS := kp hCS
        clear hCS hz0 h0 h1 hk hb hb5
        generalize hX : (w5.setCell ⟨w.heap.size, 8, none⟩ (.string S)) = X at HZZ2 HZ1 HZB
        have LD := ld_all (P := Try.prog) (w := X) w.heap.size 11 84 _ CS _ Try.underlying84 rfl info_st hl11 HZZ2.out
        have SC := sc_all (P := Try.prog) (w := X) (w.heap.size + 1) 84 CS _ HZ1.out hl11 h1c
        have HXX := kp (HZ1.out.row CS.toArray)
        have HBX := kp (bsr HZB.out (show w.heap.size ≤ w.heap.size + 1 by omega) HZB.out.size CS.toArray)
        have HL := kp hl11
        clear h1c
        generalize hY : X.setRow (w.heap.size + 1) CS.toArray = Y at SC HXX HBX
        clear hY
        go_wp2_with (refine wpL_load rfl 84 _ rfl rfl LD ?_)
        refine bodyPost_ret (v := .agg CS.toArray) ?_ rfl ⟨by rw [← HCS.out, ← HS.out]; rfl, HBX.out⟩
        exact res_all Try.results53 (w.heap.size + 1) 11 _ CS _ Try.underlying84 rfl info_st HL.out HXX.out _ rfl
end Go.Proofs.Ytfmfdhcmbnabpaa
