/- Texts laid together: Sha3, Sha4, Sha5, Sha6, Mac0, Mac1, Mac2, Mac3, Vol11, Vol12, Vol13. -/
import Derived.Lib.BufferWrite
import Derived.Maps.OwnSet
import Derived.Test.YtkknnnkbegigeaaVc5
/- sha: New, constants, More, Size, Key, Sum, Walk, Hex. -/
namespace Go.Proofs.Ytkknnnkbegigeaa
open Go Go.RowKit
set_option linter.unusedVariables false
set_option linter.unusedSimpArgs false
attribute [local go_sem] bmax2 bmin2 bmax bmin cell_ext frozen_ext

theorem New_any (w : World) : Calls Try.prog 85 #[] w fun e w' => e = .returned (stA h0V (str []) 0 true) ∧ Below w.heap.size w w' := by
  go_enter Try.func85, Try.ntmps85
  go_wp2
  exact bodyPost_ret (v := stA h0V (str []) 0 true) (by simp [results, Try.results85, go_sem, stA, stL, h0V, str]) rfl ⟨rfl, ba (Below.refl _ _) _⟩
set_option maxRecDepth 100000 in
theorem constants_any (w : World) : Calls Try.prog 95 #[] w fun e w' => e = .returned (arr32 kL) ∧ Below w.heap.size w w' := by
  go_enter Try.func95, Try.ntmps95
  have SC := fun (cur : Array Value) (h : cur.size = 64) => sc_new (P := Try.prog) w 142 (c32 kL) (c32_one _) cur h
  have hl : (c32 kL).length = 64 := rfl
  go_wp2_with (refine wpL_val 1 rfl rfl (.agg (c32 kL).toArray) (by kernel_rfl) ?_)
  refine bodyPost_ret (v := arr32 kL) ?_ rfl ⟨rfl, ba (Below.refl _ _) _⟩
  exact res_all Try.results95 w.heap.size 64 _ (c32 kL) _ Try.underlying142 rfl info_a64 rfl (Blk.new w _ _) _ rfl
theorem Clone_any (s : ByteArray) (w : World) (hs : s.size ≤ 281474976710656) : Calls Try.prog 97 #[.string s] w fun e w' => e = .returned (.string s) ∧ Below w.heap.size w w' := by
  have C := kp (fun w => Try.stringslite_Clone s w hs)
  go_enter Try.func97, Try.ntmps97
  go_wp2_with fail
  refine (C.out _).mono ?_
  rintro e w1 ⟨rfl, hb⟩
  go_wp2
  go_ret
  exact ⟨rfl, hb⟩

theorem st_cells {W : World} {B : Nat} {T : TypeId} {v : V8} {R : ByteArray} {n : Int} {b : Bool} (h : Blk W B T (stL v R n b).toArray) : W.cell? ⟨B, 0, none⟩ = some (.int .u32 v.a) ∧ W.cell? ⟨B, 1, none⟩ = some (.int .u32 v.b) ∧ W.cell? ⟨B, 2, none⟩ = some (.int .u32 v.c) ∧ W.cell? ⟨B, 3, none⟩ = some (.int .u32 v.d) ∧
    W.cell? ⟨B, 4, none⟩ = some (.int .u32 v.e) ∧ W.cell? ⟨B, 5, none⟩ = some (.int .u32 v.f) ∧ W.cell? ⟨B, 6, none⟩ = some (.int .u32 v.g) ∧ W.cell? ⟨B, 7, none⟩ = some (.int .u32 v.h) ∧ W.cell? ⟨B, 8, none⟩ = some (.string R) ∧ W.cell? ⟨B, 9, none⟩ = some (.int .i64 n) ∧ W.cell? ⟨B, 10, none⟩ = some (.bool b) :=
  ⟨h.atL rfl, h.atL rfl, h.atL rfl, h.atL rfl, h.atL rfl, h.atL rfl, h.atL rfl, h.atL rfl, h.atL rfl, h.atL rfl, h.atL rfl⟩

set_option maxHeartbeats 4000000 in
set_option maxRecDepth 100000 in
theorem More_any (m t : List UInt8) (v : V8) (rest : List UInt8) (n : Int) (b : Bool) (hst : (b = true ∧ v = hOf m ∧ rest = restOf m ∧ n = (m.length : Int)) ∨ (b = false ∧ m = [])) (hsz : m.length + t.length ≤ 1099511627776) (w : World) :
    Calls Try.prog 86 #[stA v (str rest) n b, .string (str t)] w fun e w' => e = .returned (stA (hOf (m ++ t)) (str (restOf (m ++ t))) ((m ++ t).length : Int) true) ∧ Below w.heap.size w w' := by
  have hts : (str t).size ≤ 1099511627776 := by rw [str_size]; omega
  have hrs : (str (restOf m)).size ≤ 64 := by rw [str_size, restOf_length]; omega
  have hA : str (restOf m) ++ str t = str (restOf m ++ t) := str_append _ _
  have hAl : (restOf m ++ t).length ≤ 1099511627840 := by rw [List.length_append, restOf_length]; omega
  have hNl : (m.length : Int) + ((str t).size : Int) = ((m ++ t).length : Int) := by rw [str_size, List.length_append]; omega
  have hN1 : (0 : Int) ≤ (m.length : Int) := by omega
  have hN2 : (m.length : Int) ≤ 1099511627776 := by omega
  have hmore := kp (hOf_more m t)
  have hmore2 := kp (restOf_more m t)
  have hok := kp (hOf_ok m)
  have h00 := kp (show m = [] → hOf m = h0V ∧ restOf m = [] ∧ (m.length : Int) = 0 from fun h => by subst h; exact ⟨rfl, rfl, rfl⟩)
  have hm0 : Kp (b = false → m = []) := kp (fun hb => hst.elim (fun h => by rw [hb] at h; cases h.1) (fun h => h.2))
  have hst2 : b = true → v = hOf m ∧ rest = restOf m ∧ n = (m.length : Int) := fun hb => hst.elim (fun h => h.2) (fun h => by rw [hb] at h; cases h.1)
  clear hst
  obtain ⟨V, hV⟩ : ∃ V, hOf m = V := ⟨_, rfl⟩
  obtain ⟨R, hR⟩ : ∃ R, restOf m = R := ⟨_, rfl⟩
  obtain ⟨N, hN⟩ : ∃ N, (m.length : Int) = N := ⟨_, rfl⟩
  obtain ⟨V', hV'⟩ : ∃ V', hOf (m ++ t) = V' := ⟨_, rfl⟩
  obtain ⟨R', hR'⟩ : ∃ R', restOf (m ++ t) = R' := ⟨_, rfl⟩
  obtain ⟨N', hN'⟩ : ∃ N', ((m ++ t).length : Int) = N' := ⟨_, rfl⟩
  rw [hV] at hst2 hok h00 hmore
  rw [hR] at hst2 hrs hA hAl h00 hmore hmore2
  rw [hN] at hst2 hNl h00 hN1 hN2
  rw [hV'] at hmore ⊢
  rw [hR'] at hmore2 ⊢
  rw [hN'] at hNl ⊢
  clear hV hR hN hV' hR' hN' hsz
  obtain ⟨T, hT⟩ : ∃ T, str t = T := ⟨_, rfl⟩
  rw [hT] at hts hA hNl ⊢
  clear hT
  obtain ⟨all, hall⟩ : ∃ all, R ++ t = all := ⟨_, rfl⟩
  rw [hall] at hA hAl hmore hmore2
  clear hall
  have pre : ∀ K : Prop, True := fun _ => trivial
  cases b
  case' false =>
    obtain ⟨rfl, rfl, rfl⟩ := h00.out (hm0.out rfl)
    clear hst2 hm0 h00 hok
    unfold stA stL
    go_enter Try.func86, Try.ntmps86
    go_wp2_with fail
    obtain ⟨CS, hCS⟩ : ∃ CS, stL h0V (str []) 0 true = CS := ⟨_, rfl⟩
    have NW := New_any
    unfold stA at NW
    rw [hCS] at NW
    refine (NW _).mono ?_
    rintro e w1 ⟨rfl, hb⟩
    have K0 := ((Blk.new w 132 (stL v (str rest) n false).toArray).alloc _).bel hb
    have K1 := (Blk.new (w.alloc _) 132 (stL ⟨0, 0, 0, 0, 0, 0, 0, 0⟩ ⟨#[]⟩ 0 false).toArray).bel hb
    rw [size_all] at K1
    have hl11 : CS.length = 11 := by rw [← hCS]; rfl
    have h1c : ∀ x ∈ CS, x.oneCell' = true := by rw [← hCS]; exact stL_one _ _ _ _
    have SC := sc_all (P := Try.prog) (w := w1) w.heap.size 132 CS _ K0 hl11 h1c
    have HB := kp (bsr ((ba (ba (Below.refl w.heap.size w) _) _).trans (hb.mono (by simp only [size_all]; omega))) (Nat.le_refl w.heap.size) (by have := hb.size; simp only [size_all] at this; omega) CS.toArray)
    have X0 := K0.row CS.toArray
    have X1 := K1.rowfar (b := w.heap.size) (by omega) CS.toArray
    have c8 : (w1.setRow w.heap.size CS.toArray).cell? ⟨w.heap.size, 8, none⟩ = some (.string (str [])) := X0.atL (by rw [← hCS]; rfl)
    have c9 : (w1.setRow w.heap.size CS.toArray).cell? ⟨w.heap.size, 9, none⟩ = some (.int .i64 0) := X0.atL (by rw [← hCS]; rfl)
    have f9 := X0.frozen 9
    have HX0 := kp X0
    have HX1 := kp X1
    have HCS := kp hCS
    clear NW hb K0 K1 X0 X1 h1c hCS
    generalize hX : w1.setRow w.heap.size CS.toArray = X at SC HB HX0 HX1 c8 c9 f9
    clear hX
    go_wp2_with fail
    have HY0 : Kp (Blk (X.setCell ⟨w.heap.size, 9, none⟩ (.int .i64 N')) w.heap.size 132 (stL h0V (str []) N' true).toArray) := kp (by
      have := HX0.out.setL 9 (.int .i64 N')
      rw [← HCS.out] at this
      exact this)
    have HY1 := kp (HX1.out.far (p := ⟨w.heap.size, 9, none⟩) (by simp) (.int .i64 N'))
    have HBY := kp (bsc HB.out (p := ⟨w.heap.size, 9, none⟩) (Nat.le_refl _) (.int .i64 N'))
    have hok := kp h0V_ok
    clear SC HB HX0 HX1 c8 c9 f9 HCS hl11
    generalize (X.setCell ⟨w.heap.size, 9, none⟩ (.int .i64 N')) = W at HY0 HY1 HBY ⊢
    obtain ⟨V, hV⟩ : ∃ V, h0V = V := ⟨_, rfl⟩
    obtain ⟨RR, hRR⟩ : ∃ RR, str [] = RR := ⟨_, rfl⟩
    rw [hV] at HY0 hok hmore
    rw [hRR] at HY0
    clear hV hRR
  case' true =>
    obtain ⟨rfl, rfl, rfl⟩ := hst2 rfl
    clear hst2 hm0 h00
    unfold stA stL
    go_enter Try.func86, Try.ntmps86
    go_wp2_with fail
    have HY0 := kp ((Blk.new w 132 (stL v (str rest) N' true).toArray).alloc (.cells (stL ⟨0, 0, 0, 0, 0, 0, 0, 0⟩ ⟨#[]⟩ 0 false).toArray 132))
    have HY1 := kp (Blk.new (w.alloc (.cells (stL v (str rest) N' true).toArray 132)) 132 (stL ⟨0, 0, 0, 0, 0, 0, 0, 0⟩ ⟨#[]⟩ 0 false).toArray)
    have HBY := kp (ba (ba (Below.refl w.heap.size w) (.cells (stL v (str rest) N' true).toArray 132)) (.cells (stL ⟨0, 0, 0, 0, 0, 0, 0, 0⟩ ⟨#[]⟩ 0 false).toArray 132))
    rw [size_all] at HY1
    change Calls Try.prog 95 #[] ((w.alloc (.cells (stL v (str rest) N' true).toArray 132)).alloc (.cells (stL ⟨0, 0, 0, 0, 0, 0, 0, 0⟩ ⟨#[]⟩ 0 false).toArray 132)) _
    generalize ((w.alloc (.cells (stL v (str rest) N' true).toArray 132)).alloc (.cells (stL ⟨0, 0, 0, 0, 0, 0, 0, 0⟩ ⟨#[]⟩ 0 false).toArray 132)) = W at HY0 HY1 HBY ⊢
    obtain ⟨V, hV⟩ : ∃ V, v = V := ⟨_, rfl⟩
    obtain ⟨RR, hRR⟩ : ∃ RR, str rest = RR := ⟨_, rfl⟩
    rw [hV] at HY0 hok hmore
    rw [hRR] at HY0
    clear hV hRR
  all_goals
    have CT := constants_any
    unfold arr32 at CT
    refine (CT _).mono ?_
    rintro e w2 ⟨rfl, hb2⟩
    have SC := fun (cur : Array Value) (h : cur.size = 64) => sc_new (P := Try.prog) w2 142 (c32 kL) (c32_one _) cur h
    have hl : (c32 kL).length = 64 := rfl
    have HZ0 := kp ((HY0.out.bel hb2).alloc (.cells (c32 kL).toArray 142))
    have HZ1 := kp ((HY1.out.bel hb2).alloc (.cells (c32 kL).toArray 142))
    have HZK := kp (Blk.new w2 142 (c32 kL).toArray)
    have HBZ := kp (ba (bt' HBY.out hb2 HBY.out.size) (.cells (c32 kL).toArray 142))
    have hkb : w.heap.size + 1 < w2.heap.size := Nat.lt_of_lt_of_le HY1.out.lt hb2.size
    clear CT hb2 HY0 HY1 HBY
    go_wp2_with fail
    generalize w2.alloc (.cells (c32 kL).toArray 142) = w3 at HZ0 HZ1 HZK HBZ ⊢
    generalize w2.heap.size = kb at HZK hkb ⊢
    clear SC hl
    go_loopw [5] (fun x wr => ∃ j : Nat, 64 * j ≤ all.length ∧ x = .string (str (all.drop (64 * j))) ∧ Kp (Blk wr w.heap.size 132 (stL (hRun V j all) RR N' true).toArray) ∧ Kp (Blk wr (w.heap.size + 1) 132 (stL ⟨0, 0, 0, 0, 0, 0, 0, 0⟩ ⟨#[]⟩ 0 false).toArray) ∧ Kp (Blk wr kb 142 (c32 kL).toArray) ∧ Kp (Below w.heap.size w wr)) (fun x _ => lenOf x)
    case atStart => exact ⟨0, by omega, by rw [Nat.mul_zero, List.drop_zero], HZ0, HZ1, HZK, HBZ⟩
    case round =>
      obtain ⟨j, hj, rfl, h0, h1, hk, hb⟩ := hrel
      by_cases hlt : 64 * j + 64 ≤ all.length
      · have hdl : (all.drop (64 * j)).length = all.length - 64 * j := List.length_drop ..
        have HSL := kp (str_size (all.drop (64 * j)))
        have HPL : Kp (((all.drop (64 * j)).take 64).length = 64) := kp (by rw [List.length_take, hdl]; omega)
        have HX1 : Kp ((str (all.drop (64 * j))).extract 0 64 = str ((all.drop (64 * j)).take 64)) := kp (by rw [extract_str]; rfl)
        have HX2 : Kp ((str (all.drop (64 * j))).extract 64 (str (all.drop (64 * j))).size = str (all.drop (64 * (j + 1)))) := kp (by rw [extract_str, str_size, List.drop_drop, hdl, List.take_of_length_le (by rw [List.length_drop]; omega)]; congr 2)
        have hsz1 : (64 : Int) ≤ ((str (all.drop (64 * j))).size : Int) := by rw [str_size, hdl]; omega
        have hsz2 : 64 ≤ (str (all.drop (64 * j))).size := by rw [str_size, hdl]; omega
        have hsz3 : (str (all.drop (64 * j))).size ≤ 1099511627840 := by rw [str_size, hdl]; omega
        have HDL := kp hdl
        obtain ⟨S, hS⟩ : ∃ S, str (all.drop (64 * j)) = S := ⟨_, rfl⟩
        rw [hS] at hsz1 hsz2 hsz3 HX1 HX2 HSL ⊢
        clear hS hdl
        have TH := fun w' hkw => through_any (hRun V j all) (hRun_ok j V all hok.out) RR N' true _ HPL.out kb w' hkw
        rw [← hRun_succ, ← HX1.out] at TH
        obtain ⟨CS, hCS⟩ : ∃ CS, stL (hRun V (j + 1) all) RR N' true = CS := ⟨_, rfl⟩
        unfold stA at TH
        rw [hCS] at TH
        unfold stL at TH
        have HTH := kp TH
        have hl11 : CS.length = 11 := by rw [← hCS]; rfl
        have h1c : ∀ x ∈ CS, x.oneCell' = true := by rw [← hCS]; exact stL_one _ _ _ _
        have H1C := kp h1c
        have HCS := kp hCS
        obtain ⟨c0, c1, c2, c3, c4, c5, c6, c7, c8, c9, c10⟩ := st_cells h0.out
        have hlw := h0.out.lt
        clear TH h1c hCS
        go_wp2
        refine wp_region_ext [0, 1, 2, 3] [4] (by kernel_rfl) (by kernel_rfl) ?_
        simp only [List.map_cons, List.map_nil, List.getD_cons_succ, List.getD_cons_zero]
        repeat (go_big_quiet_step ((go_at_call 96; exact Calls.ext_of (HTH.out _ (hk.out.bel (ext_below _ _))))))
        refine wpQuiet_nil ?_
        rintro z
        have hz0 := h0.out.bel (ext_below wr z)
        have hz1 := kp (h1.out.bel (ext_below wr z))
        have hzk := kp (hk.out.bel (ext_below wr z))
        have hzb := kp (bt' hb.out (ext_below wr z) hb.out.size)
        have SC := sc_all (P := Try.prog) (w := wr.ext z) w.heap.size 132 CS _ hz0 hl11 H1C.out
        have HX := kp (hz0.row CS.toArray)
        have HN1 := kp (hz1.out.rowfar (b := w.heap.size) (by omega) CS.toArray)
        have HNK := kp (hzk.out.rowfar (b := w.heap.size) (by omega) CS.toArray)
        have HNB := kp (bsr hzb.out (Nat.le_refl _) hzb.out.size CS.toArray)
        clear c0 c1 c2 c3 c4 c5 c6 c7 c8 c9 c10 hz0 hz1 hzk hzb h0 h1 hk hb HTH
        generalize (wr.ext z).setRow w.heap.size CS.toArray = Y at SC HX HN1 HNK HNB
        go_wp2
        go_roundw
        case measure => show (S.extract 64 S.size).size < S.size; rw [HX2.out, str_size, List.length_drop, HSL.out, HDL.out]; omega
        case rel => exact ⟨j + 1, by omega, by rw [HX2.out], by rw [HCS.out]; exact HX, HN1, HNK, HNB⟩
      · obtain rfl : j = all.length / 64 := by omega
        have hRl := congrArg List.length hmore2.out
        rw [List.length_drop] at hRl
        have HRL := kp hRl
        clear hRl
        rw [hmore2.out, hmore.out] at *
        have hs1 : ¬ (64 : Int) ≤ ((str R').size : Int) := by have := HRL.out; rw [str_size]; omega
        have hs2 : (str R').size ≤ 281474976710656 := by have := HRL.out; rw [str_size]; omega
        have CL := kp (Clone_any (str R'))
        have HS2 := kp hs2
        obtain ⟨S, hS⟩ : ∃ S, str R' = S := ⟨_, rfl⟩
        rw [hS] at hs1 CL HS2 ⊢
        have HS := kp hS
        clear hS hs2
        go_wp2_with fail
        refine (CL.out _ HS2.out).mono ?_
        rintro e w5 ⟨rfl, hb5⟩
        have hz0 := h0.out.bel hb5
        have c8 := (st_cells hz0).2.2.2.2.2.2.2.2.1
        have f8 := hz0.frozen 8
        have HZZ := kp (hz0.setL 8 (.string S))
        have HZ1 := kp ((h1.out.bel hb5).far (p := ⟨w.heap.size, 8, none⟩) (by simp) (.string S))
        have HZB := kp (bsc (bt' hb.out hb5 hb.out.size) (p := ⟨w.heap.size, 8, none⟩) (Nat.le_refl _) (.string S))
        have HZZ2 : Kp (Blk (w5.setCell ⟨w.heap.size, 8, none⟩ (.string S)) w.heap.size 132 (stL V' S N' true).toArray) := HZZ
        obtain ⟨CS, hCS⟩ : ∃ CS, stL V' S N' true = CS := ⟨_, rfl⟩
        have hl11 : CS.length = 11 := by rw [← hCS]; rfl
        have h1c : ∀ x ∈ CS, x.oneCell' = true := by rw [← hCS]; exact stL_one _ _ _ _
        rw [hCS] at HZZ2
        have HCS := kp hCS
        clear hCS hz0 h0 h1 hk hb hb5
        generalize hX : (w5.setCell ⟨w.heap.size, 8, none⟩ (.string S)) = X at HZZ2 HZ1 HZB
        have LD := ld_all (P := Try.prog) (w := X) w.heap.size 11 132 _ CS _ Try.underlying132 rfl info_st hl11 HZZ2.out
        have SC := sc_all (P := Try.prog) (w := X) (w.heap.size + 1) 132 CS _ HZ1.out hl11 h1c
        have HXX := kp (HZ1.out.row CS.toArray)
        have HBX := kp (bsr HZB.out (show w.heap.size ≤ w.heap.size + 1 by omega) HZB.out.size CS.toArray)
        have HL := kp hl11
        clear h1c
        generalize hY : X.setRow (w.heap.size + 1) CS.toArray = Y at SC HXX HBX
        clear hY
        go_wp2_with (refine wpL_load rfl 132 _ rfl rfl LD ?_)
        refine bodyPost_ret (v := .agg CS.toArray) ?_ rfl ⟨by rw [← HCS.out, ← HS.out]; rfl, HBX.out⟩
        exact res_all Try.results86 (w.heap.size + 1) 11 _ CS _ Try.underlying132 rfl info_st HL.out HXX.out _ rfl
end Go.Proofs.Ytkknnnkbegigeaa
/- sha: Key, Sum, Walk, Hex. -/
namespace Go.Proofs.Ytkknnnkbegigeaa
open Go Go.RowKit
set_option linter.unusedVariables false
set_option linter.unusedSimpArgs false
attribute [local go_sem] bmax2 bmin2 bmax bmin cell_ext frozen_ext

/-- a key, as a value -/
def keyV (k : List UInt8) : Value := .agg (cellsU8 k).toArray
theorem info_key : (Try.prog.info? 120).map (·.size) = some 32 := by kernel_rfl

theorem slice_lo (b k : Nat) (hk : k < 8) (W : World) : (Instr.sliceAt 120 (.pointer (some ⟨b, 0, none⟩)) (some (.int .i64 (4 * (k : Int)))) none none).run Try.prog W = .ok (.slice (some ⟨b, 4 * k, none⟩) (32 - 4 * k) (32 - 4 * k)) W := by
  have h1 : (0 : Int) ≤ 4 * (k : Int) := by omega
  have h2 : 4 * (k : Int) ≤ ((32 : Nat) : Int) := by omega
  have h3 : (4 * (k : Int)).toNat = 4 * k := by omega
  have h4 : (Try.prog.info? 5).map (·.size) = some 1 := by kernel_rfl
  have hl : Try.prog.arrayLen 120 = 32 := by kernel_rfl
  have he : Try.prog.elem 120 = 5 := by kernel_rfl
  have hu : Try.prog.underlying 120 = some (.array (Try.prog.arrayLen 120) (Try.prog.elem 120)) := by kernel_rfl
  rw [run_sliceAt_array_l W 120 ⟨b, 0, none⟩ hu .i64 _ h1 (by rw [hl]; exact h2), h3, hl, he]
  cases hq : Try.prog.info? 5 with
  | none => simp [hq] at h4
  | some i =>
    have hs : i.size = 1 := by simpa [hq] using h4
    have e : ¬ 32 = 4 * k := by omega
    simp [sizeOf, typeInfo, hq, hs, slicedAt, addr_add, e]

set_option maxRecDepth 100000 in
theorem copy_put {W : World} {b k : Nat} {T : TypeId} {l : List Nat} {S : ByteArray} (h : Blk W b T (cellsU8 (outP l k ++ List.replicate (32 - 4 * k) 0)).toArray) (hl : l.length = 8) (hk : k < 8) (hS : S = str (putL (l.getD k 0) 4)) : ∃ Y,
    (Builtin.copy_ #[45, 9] 3 #[.slice (some ⟨b, 4 * k, none⟩) (32 - 4 * k) (32 - 4 * k), .string S]).run Try.prog W = .ok (.int .i64 4) Y ∧
      Blk Y b T (cellsU8 (outP l (k + 1) ++ List.replicate (32 - 4 * (k + 1)) 0)).toArray ∧ W.grownBy Y (some b) := by
  have hinfo : (Try.prog.info? 5).map (·.size) = some 1 := by kernel_rfl
  have hz : S.size = 4 := by rw [hS, str_size, length_putL]
  have hol := outP_length l k (by omega)
  have := Lib.run_copy_row_string (P := Try.prog) W 45 9 3 5 b (4 * k) (32 - 4 * k) (32 - 4 * k) S _ T Try.underlying45 hinfo h (by rw [hz]; omega) (by rw [hz]; simp [cellsU8, hol]; omega)
  rw [hz] at this
  refine ⟨_, this, ?_, gbrow _ _ _⟩
  have e : (((cellsU8 (outP l k ++ List.replicate (32 - 4 * k) 0)).toArray.toList.take (4 * k) ++ Lib.byteCells S.data.toList ++ (cellsU8 (outP l k ++ List.replicate (32 - 4 * k) 0)).toArray.toList.drop (4 * k + 4)).toArray) = (cellsU8 (outP l (k + 1) ++ List.replicate (32 - 4 * (k + 1)) 0)).toArray := by
    refine congrArg List.toArray ?_
    show (cellsU8 _).take _ ++ cellsU8 S.data.toList ++ (cellsU8 _).drop _ = _
    unfold cellsU8
    rw [← List.map_take, ← List.map_drop, ← List.map_append, ← List.map_append, outP_succ l k (by omega), hS]
    refine congrArg (List.map _) ?_
    rw [show (str (putL (l.getD k 0) 4)).data.toList = putL (l.getD k 0) 4 from rfl]
    rw [List.take_left' hol, List.drop_append, List.drop_of_length_le (by omega), List.nil_append, List.drop_replicate]
    congr 2; omega
  rw [e]
  exact h.row _

set_option maxHeartbeats 4000000 in
set_option maxRecDepth 100000 in
theorem Key_any (m : List UInt8) (v : V8) (rest : List UInt8) (n : Int) (b : Bool) (hst : (b = true ∧ v = hOf m ∧ rest = restOf m ∧ n = (m.length : Int)) ∨ (b = false ∧ m = [])) (hn : n = (m.length : Int)) (hsz : m.length ≤ 549755813888) (w : World) :
    Calls Try.prog 89 #[stA v (str rest) n b] w fun e w' => e = .returned (keyV (digest m)) ∧ Below w.heap.size w w' := by
  have hMore := More_any m (padB m) v rest n b hst (by rw [padB_length]; unfold gapN; omega)
  have hg1 : 1 ≤ gapN m.length ∧ gapN m.length ≤ 64 := by unfold gapN; omega
  have hg : 64 - (n + 8) % 64 = ((gapN m.length : Nat) : Int) := by rw [hn]; unfold gapN; omega
  have hg2 : ((gapN m.length : Nat) : Int) - 1 = ((gapN m.length - 1 : Nat) : Int) := by omega
  have hn0 : 0 ≤ n := by omega
  have hn1 : n ≤ 549755813888 := by omega
  have hn8 : IntKind.u64.wrap (n * 8) = ((m.length * 8 : Nat) : Int) := by rw [IntWalk.u64_in _ (by omega), hn]; omega
  have hnn : IntKind.u64.wrap n = n := IntWalk.u64_in _ (by omega)
  have hPad : (⟨#[128]⟩ : ByteArray) ++ str (List.replicate (gapN m.length - 1) 0) ++ str (putL (m.length * 8) 8) = str (padB m) := by
    rw [show (⟨#[128]⟩ : ByteArray) = str [128] from rfl, str_append, str_append]; rfl
  have hs1 : (str (List.replicate (gapN m.length - 1) 0)).size ≤ 64 := by rw [str_size, List.length_replicate]; omega
  have hs2 : (str (putL (m.length * 8) 8)).size ≤ 8 := by rw [str_size, length_putL]; omega
  have hs3 : ((⟨#[128]⟩ : ByteArray) ++ str (List.replicate (gapN m.length - 1) 0)).size ≤ 128 := by rw [show (⟨#[128]⟩ : ByteArray) = str [128] from rfl, str_append, str_size, List.length_append, List.length_replicate]; simp; omega
  have hRep := kp (fun w' => repeat_zeros (gapN m.length - 1) w' (by omega) (by omega))
  have hPut := kp (fun w' => octet_Put_mid (m.length * 8) 8 w' (by unfold U64; omega) (by omega) 8 (by decide))
  obtain ⟨g, hgn⟩ : ∃ g, gapN m.length = g := ⟨_, rfl⟩
  rw [hgn] at hg hg2 hPad hs1 hs3 hg1 hRep
  obtain ⟨Z, hZ⟩ : ∃ Z, str (List.replicate (g - 1) 0) = Z := ⟨_, rfl⟩
  obtain ⟨U, hU⟩ : ∃ U, str (putL (m.length * 8) 8) = U := ⟨_, rfl⟩
  rw [hZ] at hPad hs1 hs3 hRep
  rw [hU] at hPad hs2 hPut
  have hok := kp (hOf_ok (m ++ padB m))
  obtain ⟨V, hV⟩ : ∃ V, hOf (m ++ padB m) = V := ⟨_, rfl⟩
  rw [hV] at hMore hok
  have HD : Kp (digest m = outB V) := kp (by rw [← hV]; rfl)
  obtain ⟨CS, hCS⟩ : ∃ CS, stL V (str (restOf (m ++ padB m))) ((m ++ padB m).length : Int) true = CS := ⟨_, rfl⟩
  have hl11 : CS.length = 11 := by rw [← hCS]; rfl
  have h1c : ∀ x ∈ CS, x.oneCell' = true := by rw [← hCS]; exact stL_one _ _ _ _
  unfold stA at hMore
  rw [hCS] at hMore
  unfold stL at hMore
  have HCS := kp hCS
  have H1C := kp h1c
  clear hV hCS h1c
  have HM := kp hMore
  have HN := kp hn
  clear hgn hZ hU hMore hst hn hsz
  unfold stA stL
  go_enter Try.func89, Try.ntmps89
  go_wp2
  have HW0 := kp ((Blk.new w 132 (stL v (str rest) n b).toArray).alloc (.cells (cellsU8 (List.replicate 32 0)).toArray 120))
  have HW1 := kp (Blk.new (w.alloc (.cells (stL v (str rest) n b).toArray 132)) 120 (cellsU8 (List.replicate 32 0)).toArray)
  have HWB := kp (ba (ba (Below.refl w.heap.size w) (.cells (stL v (str rest) n b).toArray 132)) (.cells (cellsU8 (List.replicate 32 0)).toArray 120))
  rw [size_all] at HW1
  change Code.wp _ _ _ _ ((w.alloc (.cells (stL v (str rest) n b).toArray 132)).alloc (.cells (cellsU8 (List.replicate 32 0)).toArray 120))
  generalize ((w.alloc (.cells (stL v (str rest) n b).toArray 132)).alloc (.cells (cellsU8 (List.replicate 32 0)).toArray 120)) = W at HW0 HW1 HWB ⊢
  refine wp_region_mkE [0, 1, 2, 3, 4, 5, 6, 7, 8, 9, 10, 11] [12] [13] 40 (fun _ => VA W.heap.size 132 (stL ⟨0, 0, 0, 0, 0, 0, 0, 0⟩ ⟨#[]⟩ 0 false).toArray) (· ≠ ·) (by kernel_rfl) (by kernel_rfl) rfl (fun i v W W' h hb => h.mono hb) ?_
  apply Exists.intro
  refine ⟨fun X hX => ?_, ?_, ?_⟩
  · skip
    have h0 := HW0.out.bel hX
    obtain ⟨c0, c1, c2, c3, c4, c5, c6, c7, c8, c9, c10⟩ := st_cells h0
    have hlx := h0.lt
    simp only [List.map_cons, List.map_nil, List.getD_cons_succ, List.getD_cons_zero]
    repeat (go_big_quiet_step (first | (go_at_call 94; exact Calls.ext_of (hRep.out _)) | (go_at_call 72; exact Calls.ext_of (hPut.out _)) | (go_at_call 86; exact Calls.ext_of (HM.out _))))
    exact wpQuiet_nil rfl
  · exact ⟨mk_alloc rfl (fun W => by kernel_rfl) (fun j u W h => h.ne), trivial⟩
  · intro ev _
    simp only [List.map_cons, List.map_nil, List.getD_cons_succ, List.getD_cons_zero, TailX]
    rintro X hX ⟨_, b4, rfl, hb4, hk4⟩
    have SC := sc_all (P := Try.prog) (w := X) b4 132 CS _ hk4 hl11 H1C.out
    have HE := kp (hk4.row CS.toArray)
    have hb41 : w.heap.size + 1 < b4 := Nat.lt_of_lt_of_le HW1.out.lt hb4
    have HX1 := kp ((HW1.out.bel hX).rowfar (b := b4) (by omega) CS.toArray)
    have HXB := kp (bsr (bt' HWB.out hX HWB.out.size) (b := b4) (by omega) (bt' HWB.out hX HWB.out.size).size CS.toArray)
    clear hX hk4 hb4 HW0 HW1 HWB hRep hPut HM
    generalize X.setRow b4 CS.toArray = Y at SC HE HX1 HXB
    have HO := kp (Blk.new Y 120 (cellsU8 (outP V.list 0 ++ List.replicate (32 - 4 * 0) 0)).toArray)
    have HE2 := kp (HE.out.alloc (.cells (cellsU8 (outP V.list 0 ++ List.replicate (32 - 4 * 0) 0)).toArray 120))
    have HX2 := kp (HX1.out.alloc (.cells (cellsU8 (outP V.list 0 ++ List.replicate (32 - 4 * 0) 0)).toArray 120))
    have HXB2 := kp (ba (HXB.out) (.cells (cellsU8 (outP V.list 0 ++ List.replicate (32 - 4 * 0) 0)).toArray 120))
    have LD := ld_row (P := Try.prog) (w := Y.alloc (.cells (cellsU8 (outP V.list 0 ++ List.replicate (32 - 4 * 0) 0)).toArray 120)) b4 0 8 130 (c32 V.list) _ Try.underlying130 rfl info_a8 rfl (fun j v hv => by
      rw [Nat.zero_add]
      refine HE2.out.atL ?_
      rw [← HCS.out, show stL V (str (restOf (m ++ padB m))) ((m ++ padB m).length : Int) true = c32 V.list ++ stT (str (restOf (m ++ padB m))) ((m ++ padB m).length : Int) true from rfl, List.getElem?_append_left (List.getElem?_eq_some_iff.1 hv).1]
      exact hv)
    have hyb : b4 < Y.heap.size := HE.out.lt
    go_wp2_with (refine wpL_load rfl 130 _ rfl rfl LD ?_)
    clear SC hl11 H1C HCS hn0 hn1 hn8 hnn hg1 hg2 hg hs3 hs1 hs2 hPad LD HX1 HXB HE HE2
    have hb5 : w.heap.size + 1 < Y.heap.size := by omega
    generalize Y.heap.size = b5 at HO hb5 hyb ⊢
    go_loopw [27] (fun i wr => ∃ k : Nat, k ≤ 8 ∧ i = .int .i64 k ∧ Kp (Blk wr b5 120 (cellsU8 (outP V.list k ++ List.replicate (32 - 4 * k) 0)).toArray) ∧ Kp (Blk wr (w.heap.size + 1) 120 (cellsU8 (List.replicate 32 0)).toArray) ∧ Kp (Below w.heap.size w wr)) (fun i _ => 8 - (intOf i).toNat)
    case atStart => exact ⟨0, by omega, rfl, HO, HX2, HXB2⟩
    case round =>
      obtain ⟨k, hk, rfl, h5, h1, hb⟩ := hrel
      by_cases hlt : k < 8
      · have hlt' : (k : Int) < 8 := by omega
        have i2 : (0 : Int) ≤ (k : Int) := by omega
        have hxl := getD_lt V.list hok.out k
        obtain ⟨x, hx⟩ : ∃ x, V.list.getD k 0 = x := ⟨_, rfl⟩
        have ix : ∀ W : World, (Instr.index 130 (.agg (c32 V.list).toArray) (.int .i64 k)).run Try.prog W = .ok (.int .u32 (x : Int)) W := fun W => by rw [← hx]; exact run_index32 130 60 Try.underlying130 (by kernel_rfl) (by kernel_rfl) rfl k hlt W
        rw [hx] at hxl
        have hwx : IntKind.u64.wrap (x : Int) = (x : Int) := IntWalk.u64_in _ (by have : x < 4294967296 := hxl; omega)
        have hx0 : (0 : Int) ≤ (x : Int) := by omega
        have hx1 : (x : Int) < 4294967296 := by have : x < 4294967296 := hxl; omega
        have hsl := slice_lo b5 k hlt
        have PU := kp (fun w' => octet_Put_mid x 4 w' (by unfold U64; have : x < 4294967296 := hxl; omega) (by omega) 4 (by decide))
        have HXX := kp hx
        clear hx hxl
        obtain ⟨S, hS⟩ : ∃ S, str (putL x 4) = S := ⟨_, rfl⟩
        rw [hS] at PU
        have HS := kp hS
        clear hS
        go_wp2
        refine wp_region_ext [0, 1, 2, 3, 4, 5] [6] (by kernel_rfl) (by kernel_rfl) ?_
        simp only [List.map_cons, List.map_nil, List.getD_cons_succ, List.getD_cons_zero]
        repeat (go_big_quiet_step ((go_at_call 72; exact Calls.ext_of (PU.out _))))
        refine wpQuiet_nil ?_
        rintro z
        obtain ⟨Z, hcp, hZ, hgZ⟩ := copy_put (k := k) (S := S) (h5.out.bel (ext_below wr z)) (l := V.list) rfl hlt (by rw [HXX.out]; exact HS.out.symm)
        have HZ := kp hZ
        have HZ1 := kp ((h1.out.bel (ext_below wr z)).grown hgZ (by intro e; injection e; omega))
        have HZB := kp (bgb (bt' hb.out (ext_below wr z) hb.out.size) hgZ (by omega) (bt' hb.out (ext_below wr z) hb.out.size).size)
        clear hZ hgZ h5 h1 hb
        go_wp2
        go_roundw
        case measure => simp [intOf]; omega
        case rel => exact ⟨k + 1, by omega, by go_num, HZ, HZ1, HZB⟩
      · obtain rfl : k = 8 := by omega
        have HE : Kp (Blk wr b5 120 (cellsU8 (digest m)).toArray) := by
          have := h5.out
          rw [show 32 - 4 * 8 = 0 from rfl, List.replicate_zero, List.append_nil, outP_all, ← HD.out] at this
          exact kp this
        have hdl := digest_length m
        obtain ⟨D, hD⟩ : ∃ D, digest m = D := ⟨_, rfl⟩
        rw [hD] at HE hdl
        have HDD := kp hD
        have hcl : (cellsU8 D).length = 32 := by rw [length_cellsU8, hdl]
        have LD := ld_all (P := Try.prog) (w := wr) b5 32 120 _ (cellsU8 D) _ Try.underlying120 rfl info_key hcl HE.out
        have SC := sc_all (P := Try.prog) (w := wr) (w.heap.size + 1) 120 (cellsU8 D) _ h1.out hcl (cellsU8_one _)
        have HX := kp (h1.out.row (cellsU8 D).toArray)
        have HBX := kp (bsr hb.out (show w.heap.size ≤ w.heap.size + 1 by omega) hb.out.size (cellsU8 D).toArray)
        have HL := kp hcl
        clear hD hdl h5 h1 hb HE HX2 HXB2 HO HD
        generalize hY : wr.setRow (w.heap.size + 1) (cellsU8 D).toArray = Z at SC HX HBX
        clear hY
        go_wp2_with (refine wpL_load rfl 120 _ rfl rfl LD ?_)
        refine bodyPost_ret (v := keyV D) ?_ rfl ⟨by rw [HDD.out], HBX.out⟩
        exact res_all Try.results89 (w.heap.size + 1) 32 _ (cellsU8 D) _ Try.underlying120 rfl info_key HL.out HX.out _ rfl

theorem key_cells (D : List UInt8) (h : D.length = 32) : (cellsU8 D).length = 32 := by rw [length_cellsU8, h]

set_option maxRecDepth 100000 in
theorem Sum_any (t : List UInt8) (ht : t.length ≤ 549755813888) (w : World) :
    Calls Try.prog 83 #[.string (str t)] w fun e w' => e = .returned (keyV (digest t)) ∧ Below w.heap.size w w' := by
  have HM := kp (fun w' => More_any [] t h0V [] 0 true (Or.inl ⟨rfl, rfl, rfl, rfl⟩) (by simp; omega) w')
  have HK := kp (fun w' => Key_any t (hOf t) (restOf t) (t.length : Int) true (Or.inl ⟨rfl, rfl, rfl, rfl⟩) rfl ht w')
  rw [List.nil_append] at HM
  have hcl := key_cells _ (digest_length t)
  obtain ⟨D, hD⟩ : ∃ D, digest t = D := ⟨_, rfl⟩
  rw [hD] at HK hcl
  have HD := kp hD
  clear hD
  unfold keyV at HK
  go_enter Try.func83, Try.ntmps83
  go_wp2_with fail
  refine (New_any _).mono ?_
  rintro e w1 ⟨rfl, hb1⟩
  go_wp2_with fail
  refine (HM.out _).mono ?_
  rintro e w2 ⟨rfl, hb2⟩
  go_wp2_with fail
  refine (HK.out _).mono ?_
  rintro e w3 ⟨rfl, hb3⟩
  have h0 := (((Blk.new w 120 (cellsU8 (List.replicate 32 0)).toArray).bel hb1).bel hb2).bel hb3
  have hb := bt' (bt' (bt' (ba (Below.refl w.heap.size w) _) hb1 (by simp)) hb2 (by have := hb1.size; simp at this; omega)) hb3 (by have := hb1.size; have := hb2.size; simp at *; omega)
  have SC := sc_all (P := Try.prog) (w := w3) w.heap.size 120 (cellsU8 D) _ h0 hcl (cellsU8_one _)
  have HX := kp (h0.row (cellsU8 D).toArray)
  have HBX := kp (bsr hb (Nat.le_refl _) (by have := hb1.size; have := hb2.size; have := hb3.size; simp at *; omega) (cellsU8 D).toArray)
  have HL := kp hcl
  clear h0 hb hb1 hb2 hb3
  generalize hY : w3.setRow w.heap.size (cellsU8 D).toArray = Z at SC HX HBX
  clear hY
  go_wp2
  refine bodyPost_ret (v := keyV D) ?_ rfl ⟨by rw [HD.out], HBX.out⟩
  exact res_all Try.results83 w.heap.size 32 _ (cellsU8 D) _ Try.underlying120 rfl info_key HL.out HX.out _ rfl

end Go.Proofs.Ytkknnnkbegigeaa
/- sha: Hex. -/
namespace Go.Proofs.Ytkknnnkbegigeaa
open Go Go.RowKit
set_option linter.unusedVariables false
set_option linter.unusedSimpArgs false
attribute [local go_sem] bmax2 bmin2 bmax bmin cell_ext frozen_ext

theorem digits_at : ∀ (q : Nat) (h : q < 16) (W : World), (Instr.index 9 (.string ⟨#[48, 49, 50, 51, 52, 53, 54, 55, 56, 57, 97, 98, 99, 100, 101, 102]⟩) (.int .u8 (q : Int))).run Try.prog W = .ok (.int .u8 ((dig16 q).toNat : Int)) W
  | 0, _, W => by kernel_rfl
  | 1, _, W => by kernel_rfl
  | 2, _, W => by kernel_rfl
  | 3, _, W => by kernel_rfl
  | 4, _, W => by kernel_rfl
  | 5, _, W => by kernel_rfl
  | 6, _, W => by kernel_rfl
  | 7, _, W => by kernel_rfl
  | 8, _, W => by kernel_rfl
  | 9, _, W => by kernel_rfl
  | 10, _, W => by kernel_rfl
  | 11, _, W => by kernel_rfl
  | 12, _, W => by kernel_rfl
  | 13, _, W => by kernel_rfl
  | 14, _, W => by kernel_rfl
  | 15, _, W => by kernel_rfl
  | q + 16, h, W => by omega

end Go.Proofs.Ytkknnnkbegigeaa
/- sha: what the document fixes. -/
namespace Go.Proofs.Ytkknnnkbegigeaa
open Go Go.RowKit
set_option linter.unusedVariables false
set_option linter.unusedSimpArgs false
attribute [local go_sem] bmax2 bmin2 bmax bmin cell_ext frozen_ext

/-- a state behind a text -/
def stLm (m : List UInt8) : List Value := stL (hOf m) (str (restOf m)) (m.length : Int) true
def keyC (k : List UInt8) : List Value := cellsU8 k
theorem stLm_len (m : List UInt8) : (stLm m).length = 11 := rfl
theorem stLm_one (m : List UInt8) : ∀ x ∈ stLm m, x.oneCell' = true := stL_one _ _ _ _
theorem New_st (w : World) : Calls Try.prog 85 #[] w fun e w' => e = .returned (.agg (stLm []).toArray) ∧ Below w.heap.size w w' := New_any w
theorem More_st (m : List UInt8) (t : ByteArray) (h : m.length + t.size ≤ 1099511627776) (w : World) : Calls Try.prog 86 #[.agg (stLm m).toArray, .string t] w fun e w' => e = .returned (.agg (stLm (m ++ bs t)).toArray) ∧ Below w.heap.size w w' :=
  More_any m (bs t) _ _ _ true (Or.inl ⟨rfl, rfl, rfl, rfl⟩) h w
theorem Key_st (m : List UInt8) (h : m.length ≤ 549755813888) (w : World) : Calls Try.prog 89 #[.agg (stLm m).toArray] w fun e w' => e = .returned (.agg (cellsU8 (digest m)).toArray) ∧ Below w.heap.size w w' :=
  Key_any m _ _ _ true (Or.inl ⟨rfl, rfl, rfl, rfl⟩) rfl h w
theorem Sum_st (t : ByteArray) (h : t.size ≤ 549755813888) (w : World) : Calls Try.prog 83 #[.string t] w fun e w' => e = .returned (.agg (cellsU8 (digest (bs t))).toArray) ∧ Below w.heap.size w w' := Sum_any (bs t) h w
theorem eq_same (D : List UInt8) (hD : D.length = 32) (w : World) : (Op.equalIn 10000 120 (.agg (cellsU8 D).toArray) (.agg (cellsU8 D).toArray)).run Try.prog w = .ok true w := by rw [eq_key D D hD hD]; simp
theorem eq_dig (m : List UInt8) (w : World) : (Op.equalIn 10000 120 (.agg (cellsU8 (digest m)).toArray) (.agg (cellsU8 (digest m)).toArray)).run Try.prog w = .ok true w := eq_same _ (digest_length m) w
theorem bs_append (a b : ByteArray) : bs (a ++ b) = bs a ++ bs b := by rw [bs, ByteArray.data_append, Array.toList_append]
theorem ldK (K : List UInt8) (hK : K.length = 32) {w : World} {b : Nat} (h : Blk w b 120 (cellsU8 K).toArray) : (Instr.loadAt 120 (.pointer (some ⟨b, 0, none⟩))).run Try.prog w = .ok (.agg (cellsU8 K).toArray) w :=
  ld_all b 32 120 _ (cellsU8 K) _ Try.underlying120 rfl info_key (key_cells K hK) h
theorem ldS (m : List UInt8) {w : World} {b : Nat} (h : Blk w b 132 (stLm m).toArray) : (Instr.loadAt 132 (.pointer (some ⟨b, 0, none⟩))).run Try.prog w = .ok (.agg (stLm m).toArray) w :=
  ld_all b 11 132 _ (stLm m) _ Try.underlying132 rfl info_st rfl h

theorem digest_abc : hexL (digest [97, 98, 99]) = [98, 97, 55, 56, 49, 54, 98, 102, 56, 102, 48, 49, 99, 102, 101, 97, 52, 49, 52, 49, 52, 48, 100, 101, 53, 100, 97, 101, 50, 50, 50, 51, 98, 48, 48, 51, 54, 49, 97, 51, 57, 54, 49, 55, 55, 97, 57, 99, 98, 52, 49, 48, 102, 102, 54, 49, 102, 50, 48, 48, 49, 53, 97, 100] := by decide +kernel

theorem stA_eq (v : V8) (R : ByteArray) (n : Int) (b : Bool) : stA v R n b = .agg (stL v R n b).toArray := rfl

end Go.Proofs.Ytkknnnkbegigeaa
/- mac in plain words: numbers and lists, no program in sight. -/
namespace Go.Proofs.Ytkknnnkbegigeaa
set_option linter.unusedVariables false
set_option linter.unusedSimpArgs false
open Go Go.RowKit

def xorU (l : List UInt8) (c : UInt8) : List UInt8 := l.map (· ^^^ c)
/-- a key, or its digest if it is long -/
def key1 (k : List UInt8) : List UInt8 := if k.length > 64 then digest k else k
/-- .. filled up to 64 bytes -/
def fullK (k : List UInt8) : List UInt8 := key1 k ++ List.replicate (64 - (key1 k).length) 0
def inK (k : List UInt8) : List UInt8 := xorU (fullK k) 54
def outK (k : List UInt8) : List UInt8 := xorU (fullK k) 92
/-- a tag: 32 bytes -/
def macD (k t : List UInt8) : List UInt8 := digest (outK k ++ digest (inK k ++ t))

theorem xorU_length (l : List UInt8) (c : UInt8) : (xorU l c).length = l.length := by simp [xorU]
theorem key1_length (k : List UInt8) : (key1 k).length ≤ 64 := by
  unfold key1; split
  · rw [digest_length]; omega
  · omega
theorem fullK_length (k : List UInt8) : (fullK k).length = 64 := by
  have := key1_length k
  unfold fullK; rw [List.length_append, List.length_replicate]; omega
theorem inK_length (k : List UInt8) : (inK k).length = 64 := by unfold inK; rw [xorU_length, fullK_length]
theorem outK_length (k : List UInt8) : (outK k).length = 64 := by unfold outK; rw [xorU_length, fullK_length]
theorem macD_length (k t : List UInt8) : (macD k t).length = 32 := digest_length _
theorem key1_short {k : List UInt8} (h : k.length ≤ 64) : key1 k = k := by unfold key1; rw [if_neg (by omega)]
theorem key1_long {k : List UInt8} (h : 64 < k.length) : key1 k = digest k := by unfold key1; rw [if_pos h]
/-- what the program fills up -/
def key2 (k : List UInt8) : List UInt8 := if key1 k = [] then [0] else key1 k
theorem key2_length (k : List UInt8) : 1 ≤ (key2 k).length ∧ (key2 k).length ≤ 64 := by
  have := key1_length k
  unfold key2; split
  · simp
  · rename_i h; have := List.length_pos_iff.2 h; omega
theorem pad_key2 (k : List UInt8) : key2 k ++ List.replicate ((64 - (key2 k).length % 64) % 64) 0 = fullK k := by
  have h1 := key1_length k
  unfold fullK key2
  split
  · rename_i h; rw [h]; rfl
  · rename_i h
    have := List.length_pos_iff.2 h
    congr 2
    omega
/-- the first i of s, the rest of l -/
def mixU (s l : List UInt8) (i : Nat) : List UInt8 := s.take i ++ l.drop i
theorem mixU_zero (s l : List UInt8) : mixU s l 0 = l := by simp [mixU]
theorem mixU_length (s l : List UInt8) (i : Nat) (h : s.length = l.length) (hi : i ≤ l.length) : (mixU s l i).length = l.length := by simp [mixU]; omega
theorem mixU_get (s l : List UInt8) (i : Nat) (h : s.length = l.length) (hi : i < l.length) : (mixU s l i)[i]? = some l[i] := by
  unfold mixU
  rw [List.getElem?_append_right (by simp; omega), List.getElem?_drop, List.getElem?_eq_getElem (by simp; omega)]
  congr 2; simp; omega
theorem mixU_set (s l : List UInt8) (i : Nat) (c : UInt8) (h : s.length = l.length) (hi : i < l.length) (hc : s[i]? = some c) : (mixU s l i).set i c = mixU s l (i + 1) := by
  obtain ⟨h1, h2⟩ := List.getElem?_eq_some_iff.1 hc
  unfold mixU
  rw [List.set_append_right _ _ (by simp; omega), List.drop_eq_getElem_cons hi, show i - (List.take i s).length = 0 by simp; omega, List.set_cons_zero, List.take_succ_eq_append_getElem (by omega), List.append_assoc, h2]
  rfl
theorem mixU_all (s l : List UInt8) (h : s.length = l.length) : mixU s l l.length = s := by
  unfold mixU
  rw [List.drop_of_length_le (Nat.le_refl _), List.append_nil, List.take_of_length_le (by omega)]
end Go.Proofs.Ytkknnnkbegigeaa
/- mac: xored. -/
namespace Go.Proofs.Ytkknnnkbegigeaa
open Go Go.RowKit
set_option linter.unusedVariables false
set_option linter.unusedSimpArgs false
attribute [local go_sem] bmax2 bmin2 bmax bmin cell_ext frozen_ext

set_option maxRecDepth 100000 in
theorem xored_any (l : List UInt8) (c : UInt8) (hl : l.length ≤ 4096) (w : World) :
    Calls Try.prog 87 #[.string (str l), .int .u8 (c.toNat : Int)] w fun e w' => e = .returned (.string (str (xorU l c))) ∧ Below w.heap.size w w' := by
  obtain ⟨cap, w2, hcv, hb2, hsz2, hcap, hcell, hfr⟩ := toBytes (P := Try.prog) w 9 45 (str l) Try.underlying9 Try.underlying45 Try.underlying5
  rw [str_size] at hcv hcap
  have hcell' : ∀ i (h : i < (mixU (xorU l c) l 0).length), w2.cell? ⟨w.heap.size, i, none⟩ = some (.int .u8 ((mixU (xorU l c) l 0)[i].toNat : Int)) := by
    intro i h
    have e := mixU_zero (xorU l c) l
    have : ∀ (m : List UInt8) (h : i < m.length), m = l → w2.cell? ⟨w.heap.size, i, none⟩ = some (.int .u8 (m[i].toNat : Int)) := by
      rintro m h rfl; exact hcell i h
    exact this _ h e
  have H1 := kp hcell'
  have H2 : Kp (∀ i, i < l.length → w2.frozen? ⟨w.heap.size, i, none⟩ = false) := kp hfr
  have H3 := kp (Nat.le_refl w.heap.size)
  have HB := kp hb2
  have HX := kp (xorU_length l c)
  have HXD : Kp (∀ i (h : i < l.length), (xorU l c)[i]? = some (l[i] ^^^ c)) := kp (fun i h => by simp [xorU, h])
  have HA := kp (mixU_all (xorU l c) l HX.out)
  generalize xorU l c = X at H1 HX HXD HA ⊢
  obtain ⟨n, hn⟩ : ∃ n, l.length = n := ⟨_, rfl⟩
  have hss := str_size l
  rw [hn] at hcv hcap H2 hl hss HA
  have HN := kp hn
  have HS := kp hss
  have hcap' : (n : Int) ≤ (cap : Int) := by omega
  clear hcell hcell' hfr hb2 hsz2 hn hss
  go_enter Try.func87, Try.ntmps87
  go_wp2
  go_loopw [11] (fun i wr => ∃ k : Nat, k ≤ n ∧ i = .int .i64 (k : Int) ∧ Kp (∀ i (h : i < (mixU X l k).length), wr.cell? ⟨w.heap.size, i, none⟩ = some (.int .u8 ((mixU X l k)[i].toNat : Int))) ∧ Kp (∀ i, i < n → wr.frozen? ⟨w.heap.size, i, none⟩ = false) ∧ Kp (Below w.heap.size w wr)) (fun i _ => n - (intOf i).toNat)
  case atStart => exact ⟨0, Nat.zero_le _, rfl, H1, H2, HB⟩
  case round =>
    clear H1 H2 HB
    obtain ⟨k, hk, rfl, H1, H2, HB⟩ := hrel
    by_cases hlt : k < n
    · have i1 : (k : Int) < (n : Int) := by omega
      have i2 : (0 : Int) ≤ (k : Int) := by omega
      have hkl : k < l.length := by rw [HN.out]; exact hlt
      have hml : k < (mixU X l k).length := by rw [mixU_length X l k HX.out (by omega)]; exact hkl
      have hg : (mixU X l k)[k] = l[k] := by
        have := mixU_get X l k HX.out hkl
        rw [List.getElem?_eq_getElem hml] at this
        injection this
      have hc1 := H1.out k hml
      rw [hg] at hc1
      have hset := kp (mixU_set X l k _ HX.out hkl (HXD.out k hkl))
      have hml2 := kp hml
      have he : bits .xor .u8 (l[k].toNat : Int) (c.toNat : Int) = (((l[k] ^^^ c).toNat : Nat) : Int) := by
        have := u8_xor_nat l[k].toNat c.toNat (UInt8.toNat_lt _) (UInt8.toNat_lt _)
        rw [UInt8.toNat_xor]
        exact this
      have hf1 := H2.out k hlt
      clear hg hml
      generalize l[k] ^^^ c = y at he hset
      generalize l[k] = x at he hc1
      go_wp2
      go_roundw
      case measure => simp [intOf]; omega
      case rel =>
        refine ⟨k + 1, by omega, by go_num, kp ?_, kp ?_, kp (bsc HB.out (Nat.le_refl _) _)⟩
        · rw [← hset.out]
          intro i h
          have := set_cells H1.out hml2.out y i h
          have ha : (⟨w.heap.size, 0, none⟩ : Addr).add i = ⟨w.heap.size, i, none⟩ := by rw [addr_add, Nat.zero_add]
          rw [ha] at this
          exact this
        · intro i hi
          have := H2.out i hi
          simpa [go_sem] using this
    · obtain rfl : k = n := by omega
      have hb := run_convert_bytes_back (P := Try.prog) wr 45 9 5 ⟨w.heap.size, 0, none⟩ cap (mixU X l k) Try.underlying45 Try.underlying5 Try.underlying9 (fun i h => by rw [addr_add, Nat.zero_add]; exact H1.out i h)
      rw [mixU_length X l k HX.out (by rw [HN.out]; exact Nat.le_refl _), HN.out, HA.out] at hb
      go_wp2
      go_ret
      exact ⟨rfl, HB.out⟩
end Go.Proofs.Ytkknnnkbegigeaa
/- mac: With, and what it makes. -/
namespace Go.Proofs.Ytkknnnkbegigeaa
open Go Go.RowKit
set_option linter.unusedVariables false
set_option linter.unusedSimpArgs false
attribute [local go_sem] bmax2 bmin2 bmax bmin cell_ext frozen_ext

/-- the last block but one, stored anew -/
theorem sc_new2 {P : Program} (w : World) (t : TypeId) (cs : List Value) (h1 : ∀ v ∈ cs, v.oneCell' = true) (cur : Array Value) (o : Obj) (hc : cur.size = cs.length) : (storeCells ⟨w.heap.size, 0, none⟩ cs).run P ((w.alloc (.cells cur t)).alloc o) = .ok () ((w.alloc (.cells cs.toArray t)).alloc o) := by
  have h := sc_all (P := P) w.heap.size t cs cur.toList (w := (w.alloc (.cells cur t)).alloc o) (by rw [Array.toArray_toList]; exact (Blk.new w t cur).alloc o) (by rw [Array.length_toList]; exact hc.symm) h1
  rw [h]
  congr 1
  unfold World.setRow World.alloc
  congr 1
  apply Array.ext
  · simp
  · intro i h1 h2
    simp only [Array.getElem_modify]
    split
    · rename_i he
      subst he
      simp [Array.getElem_push]
    · rename_i he
      simp only [Array.getElem_push, Array.size_push]
      by_cases hi : i < w.heap.size
      · simp [hi, Nat.lt_succ_of_lt hi]
      · have : ¬ i < w.heap.size + 1 := by omega
        simp [hi, this]
theorem sc_newS {P : Program} (w : World) (t : TypeId) (cs : List Value) (h1 : ∀ v ∈ cs, v.oneCell' = true) (o : Obj) (cur : Array Value) (hc : cur.size = cs.length) : (storeCells ⟨w.heap.size + 1, 0, none⟩ cs).run P ((w.alloc o).alloc (.cells cur t)) = .ok () ((w.alloc o).alloc (.cells cs.toArray t)) := by
  have := sc_new (P := P) (w.alloc o) t cs h1 cur hc
  rw [size_all] at this
  exact this
/-- what tells tags by a key -/
def Maker (w : World) (key : List UInt8) (b5 b6 : Nat) : Prop := Blk w b5 132 (stLm (inK key)).toArray ∧ Blk w b6 132 (stLm (outK key)).toArray
def makerV (b5 b6 : Nat) : Value := .func (.func 88) #[] #[.pointer (some ⟨b5, 0, none⟩), .pointer (some ⟨b6, 0, none⟩)]
theorem Maker.bel {w w' : World} {key : List UInt8} {b5 b6 : Nat} (h : Maker w key b5 b6) (hb : Below w.heap.size w w') : Maker w' key b5 b6 := ⟨h.1.bel hb, h.2.bel hb⟩

set_option maxHeartbeats 1000000 in
set_option maxRecDepth 100000 in
theorem Made_any (key : List UInt8) (t : ByteArray) (b5 b6 : Nat) (w : World) (h : Maker w key b5 b6) (ht : t.size ≤ 1099511627) :
    Calls Try.prog 88 #[.string t, .pointer (some ⟨b5, 0, none⟩), .pointer (some ⟨b6, 0, none⟩)] w fun e w' => e = .returned (.agg (cellsU8 (macD key (bs t))).toArray) ∧ Below w.heap.size w w' := by
  have HH := kp h
  have c1 := kp (fun w' => More_st (inK key) t (by rw [inK_length]; omega) w')
  have c2 := kp (fun w' => Key_st (inK key ++ bs t) (by rw [List.length_append, inK_length, size_bs]; omega) w')
  have hdl := digest_length (inK key ++ bs t)
  have hmd : Kp (macD key (bs t) = digest (outK key ++ digest (inK key ++ bs t))) := kp rfl
  obtain ⟨D, hD⟩ : ∃ D, digest (inK key ++ bs t) = D := ⟨_, rfl⟩
  rw [hD] at c2 hdl hmd
  have c3 := kp (fun w' => More_st (outK key) (str D) (by rw [outK_length, str_size]; omega) w')
  rw [bs_str] at c3
  have c4 := kp (fun w' => Key_st (outK key ++ D) (by rw [List.length_append, outK_length]; omega) w')
  have hml := digest_length (outK key ++ D)
  have hcl := key_cells _ hdl
  have hcl2 := key_cells _ hml
  obtain ⟨E, hE⟩ : ∃ E, digest (outK key ++ D) = E := ⟨_, rfl⟩
  rw [hE] at c4 hmd hcl2
  have L1 := kp (fun (W : World) (h : Maker W key b5 b6) => ldS (inK key) h.1)
  have L2 := kp (fun (W : World) (h : Maker W key b5 b6) => ldS (outK key) h.2)
  obtain ⟨ZL, hZL⟩ : ∃ ZL : List UInt8, List.replicate 32 0 = ZL := ⟨_, rfl⟩
  have HDL := kp hdl
  have LD0 := L1.out (w.alloc (.cells (cellsU8 (List.replicate 32 0)).toArray 120)) (HH.out.bel (ba (Below.refl _ _) _))
  have HM0 := kp (HH.out.bel (ba (Below.refl w.heap.size w) (.cells (cellsU8 (List.replicate 32 0)).toArray 120)))
  have h0 := kp (Blk.new w 120 (cellsU8 (List.replicate 32 0)).toArray)
  have hb0 := kp (ba (Below.refl w.heap.size w) (.cells (cellsU8 (List.replicate 32 0)).toArray 120))
  rw [hmd.out]
  clear hD hE hmd hdl hml h ht
  go_enter Try.func88, Try.ntmps88
  go_wp2_with (refine wpL_load rfl 132 _ rfl rfl LD0 ?_)
  clear LD0
  refine (c1.out _).mono ?_
  rintro e w1 ⟨rfl, hb1⟩
  go_wp2_with fail
  refine (c2.out _).mono ?_
  rintro e w2 ⟨rfl, hb2⟩
  have SC := fun (cur : Array Value) (h : cur.size = 32) => sc_new (P := Try.prog) w2 120 (cellsU8 D) (cellsU8_one _) cur (by rw [hcl]; exact h)
  have HM2 := kp (((HM0.out.bel hb1).bel hb2).bel (ba (Below.refl _ _) (.cells (cellsU8 D).toArray 120)))
  have h2 := kp (((h0.out.bel hb1).bel hb2).alloc (.cells (cellsU8 D).toArray 120))
  have k2 := kp (Blk.new w2 120 (cellsU8 D).toArray)
  have hbb := kp (ba (bt' (bt' hb0.out hb1 hb0.out.size) hb2 (bt' hb0.out hb1 hb0.out.size).size) (.cells (cellsU8 D).toArray 120))
  have hne : w.heap.size ≠ w2.heap.size := by have := ((h0.out.bel hb1).bel hb2).lt; omega
  clear hb1 hb2 HM0 h0 hb0
  rw [hZL] at h2
  go_wp2_with fail
  clear SC
  generalize (w2.alloc (.cells (cellsU8 D).toArray 120)) = W at HM2 h2 k2 hbb ⊢
  generalize w2.heap.size = b2 at k2 hne ⊢
  have LS := kp (fun x => L2.out (W.ext x) (HM2.out.bel (ext_below W x)))
  have HCV := kp (fun x => blk_str (P := Try.prog) 45 (e := 5) (dst := 9) (n := 32) (cap := 32) Try.underlying45 Try.underlying5 Try.underlying9 (k2.out.bel (ext_below W x)) HDL.out)
  have hcv := HCV.out
  have HZL := kp hZL
  clear hZL
  refine wp_region_ext [0, 1, 2, 3, 4] [5] (by kernel_rfl) (by kernel_rfl) ?_
  simp only [List.map_cons, List.map_nil, List.getD_cons_succ, List.getD_cons_zero]
  repeat (first
    | (go_big_quiet_want; refine quiet_load _ rfl 132 _ rfl rfl (fun w hw => by obtain ⟨x, rfl⟩ := hw; exact LS.out x) ?_; go_simp; go_big_quiet_on)
    | go_big_quiet_step (first | (go_at_call 86; with_reducible exact Calls.ext_of (c3.out _)) | (go_at_call 89; with_reducible exact Calls.ext_of (c4.out _))))
  refine wpQuiet_nil ?_
  rintro z
  have h3 := kp (h2.out.bel (ext_below W z))
  have hb3 := kp (bt' hbb.out (ext_below W z) hbb.out.size)
  clear hcv HCV LS h2 hbb k2
  generalize W.ext z = Y at h3 hb3 ⊢
  have SC := sc_all (P := Try.prog) (w := Y) w.heap.size 120 (cellsU8 E) _ h3.out (by rw [hcl2, length_cellsU8, ← HZL.out, List.length_replicate]) (cellsU8_one _)
  have HX := kp (h3.out.row (cellsU8 E).toArray)
  have HBX := kp (bsr hb3.out (Nat.le_refl w.heap.size) hb3.out.size (cellsU8 E).toArray)
  have HL := kp hcl2
  clear h3 hb3 hcl
  generalize hY : Y.setRow w.heap.size (cellsU8 E).toArray = Z at SC HX HBX
  clear hY
  go_wp2
  refine bodyPost_ret (v := .agg (cellsU8 E).toArray) ?_ rfl ⟨rfl, HBX.out⟩
  exact res_all Try.results88 w.heap.size 32 _ (cellsU8 E) _ Try.underlying120 rfl info_key HL.out HX.out _ rfl

/-- With's end -/
def WithEnd (w : World) (key : List UInt8) (e : Ending) (w' : World) : Prop := ∃ b5 b6, e = .returned (makerV b5 b6) ∧ Maker w' key b5 b6 ∧ Below w.heap.size w w'
set_option maxHeartbeats 1000000 in
set_option maxRecDepth 100000 in
theorem With_any (key : ByteArray) (hk : key.size ≤ 1099511627) (w : World) :
    Calls Try.prog 81 #[.string key] w (WithEnd w (bs key)) := by
  have hkl : key.size = (bs key).length := rfl
  have k2l := key2_length (bs key)
  have c1 : Kp (64 < key.size → ∀ w', Calls Try.prog 83 #[.string key] w' fun e w'' => e = .returned (.agg (cellsU8 (digest (bs key))).toArray) ∧ Below w'.heap.size w' w'') := kp (fun _ w' => Sum_st key (by omega) w')
  have hdl := digest_length (bs key)
  have hcl := key_cells _ hdl
  have HDL := kp hdl
  have ks : Kp (64 < key.size → str (digest (bs key)) = str (key2 (bs key))) := kp (fun h => by
    have := key1_long (k := bs key) (by rw [← hkl]; exact h)
    unfold key2
    rw [this, if_neg (by intro e; rw [e] at hdl; simp at hdl)])
  have kn : Kp (key.size = 0 → (⟨#[0]⟩ : ByteArray) = str (key2 (bs key))) := kp (fun h => by
    have h0 : bs key = [] := List.eq_nil_of_length_eq_zero h
    unfold key2
    rw [key1_short (by rw [← hkl]; omega), h0, if_pos rfl]; rfl)
  have km : Kp (1 ≤ key.size → key.size ≤ 64 → key = str (key2 (bs key))) := kp (fun h h' => by
    have h0 : bs key ≠ [] := by intro e; have : (bs key).length = 0 := by rw [e]; rfl
                                omega
    unfold key2
    rw [key1_short (by rw [← hkl]; exact h'), if_neg h0]
    exact (str_bs key).symm)
  have c2 : Kp (∀ w', Calls Try.prog 84 #[.string (str (key2 (bs key))), .int .i64 64] w' fun e w'' => e = .returned (.string (str (fullK (bs key)))) ∧ Below w'.heap.size w' w'') := kp (fun w' => by
    have := octet_Pad_any (str (key2 (bs key))) 64 w' (by decide) (by decide) (by rw [str_size]; omega)
    rw [bs_str, str_size] at this
    unfold padN at this
    rw [pad_key2] at this
    exact this)
  have hfl := fullK_length (bs key)
  have c3 := kp (fun w' => xored_any (fullK (bs key)) 54 (by omega) w')
  have c4 := kp (fun w' => xored_any (fullK (bs key)) 92 (by omega) w')
  have c5 : Kp (∀ w', Calls Try.prog 86 #[.agg (stLm []).toArray, .string (str (xorU (fullK (bs key)) 54))] w' fun e w'' => e = .returned (.agg (stLm (inK (bs key))).toArray) ∧ Below w'.heap.size w' w'') := kp (fun w' => More_st [] (str (xorU (fullK (bs key)) 54)) (by rw [str_size, xorU_length]; simp; omega) w')
  have c6 : Kp (∀ w', Calls Try.prog 86 #[.agg (stLm []).toArray, .string (str (xorU (fullK (bs key)) 92))] w' fun e w'' => e = .returned (.agg (stLm (outK (bs key))).toArray) ∧ Below w'.heap.size w' w'') := kp (fun w' => More_st [] (str (xorU (fullK (bs key)) 92)) (by rw [str_size, xorU_length]; simp; omega) w')
  generalize str (xorU (fullK (bs key)) 54) = X1 at c3 c5
  generalize str (xorU (fullK (bs key)) 92) = X2 at c4 c6
  generalize str (fullK (bs key)) = FK at c2 c3 c4
  obtain ⟨A, hA⟩ : ∃ A, inK (bs key) = A := ⟨_, rfl⟩
  obtain ⟨B, hB⟩ : ∃ B, outK (bs key) = B := ⟨_, rfl⟩
  have hla : (stLm A).length = 11 := rfl
  have hlb : (stLm B).length = 11 := rfl
  have h1a := kp (stLm_one A)
  have h1b := kp (stLm_one B)
  have HMK : Kp (∀ (W : World) b5 b6, Blk W b5 132 (stLm A).toArray → Blk W b6 132 (stLm B).toArray → Maker W (bs key) b5 b6) := kp (fun W b5 b6 h5 h6 => ⟨by rw [hA]; exact h5, by rw [hB]; exact h6⟩)
  rw [hA] at c5
  rw [hB] at c6
  generalize stLm A = SA at c5 hla h1a HMK
  generalize stLm B = SB at c6 hlb h1b HMK
  obtain ⟨K2, hK2⟩ : ∃ K2, str (key2 (bs key)) = K2 := ⟨_, rfl⟩
  rw [hK2] at ks kn km c2
  generalize digest (bs key) = D at c1 HDL ks hcl
  have c0 := kp (fun w' => New_st w')
  generalize stLm [] = S0 at *
  have hkp : 1 ≤ K2.size := by rw [← hK2, str_size]; exact k2l.1
  have hk64 : K2.size ≤ 64 := by rw [← hK2, str_size]; exact k2l.2
  have he : ∀ Z : ByteArray, 1 ≤ Z.size → Z.toList.isEmpty = false ∧ (Z.toList == []) = false := fun Z h => by
    have : Z.toList ≠ [] := by rw [toList_bs]; intro e; have h0 : Z.size = 0 := by { rw [← size_bs, e]; rfl }; omega
    cases hz : Z.toList with
    | nil => exact absurd hz this
    | cons a l => exact ⟨rfl, rfl⟩
  obtain ⟨he1, he2⟩ := he K2 hkp
  have HKL := kp hkl
  clear hkl hA hB hK2 hfl hdl k2l he
  have hcase : 64 < key.size ∨ key.size = 0 ∨ (1 ≤ key.size ∧ key.size ≤ 64) := by omega
  rcases hcase with h | h | ⟨h1, h2⟩
  · have h' : (64 : Int) < (key.size : Int) := by omega
    have hsd := ks.out h
    go_enter Try.func81, Try.ntmps81
    go_wp2_with fail
    refine (c1.out h _).mono ?_
    rintro e w1 ⟨rfl, hb1⟩
    have SC := fun (cur : Array Value) (h : cur.size = 32) => sc_new (P := Try.prog) w1 120 (cellsU8 D) (cellsU8_one _) cur (by rw [hcl]; exact h)
    have hcv := blk_str (P := Try.prog) 45 (e := 5) (dst := 9) (n := 32) (cap := 32) Try.underlying45 Try.underlying5 Try.underlying9 (Blk.new w1 120 (cellsU8 D).toArray) HDL.out
    rw [hsd] at hcv
    have HB := kp (ba hb1 (.cells (cellsU8 D).toArray 120))
    clear hb1
    go_upto_region 6 with (fail)
    clear SC hcv hsd h h'
    generalize (w1.alloc (.cells (cellsU8 D).toArray 120)) = W at HB ⊢
    clear he1 he2 hkp c1 ks kn km HDL hcl
    go_wp2_with fail
    refine (c2.out _).mono ?_
    rintro e w2 ⟨rfl, hb2⟩
    have HB2 := kp (bt' HB.out hb2 HB.out.size)
    clear HB hb2
    go_wp2_with fail
    refine (c0.out _).mono ?_
    rintro e w3 ⟨rfl, hb3⟩
    have HB3 := kp (bt' HB2.out hb3 HB2.out.size)
    clear HB2 hb3
    go_wp2_with fail
    refine (c3.out _).mono ?_
    rintro e w4 ⟨rfl, hb4⟩
    have HB4 := kp (bt' HB3.out hb4 HB3.out.size)
    clear HB3 hb4
    go_wp2_with fail
    refine (c5.out _).mono ?_
    rintro e w5 ⟨rfl, hb5⟩
    have HB5 := kp (bt' HB4.out hb5 HB4.out.size)
    clear HB4 hb5
    go_wp2_with fail
    refine (c0.out _).mono ?_
    rintro e w6 ⟨rfl, hb6⟩
    have HB6 := kp (bt' HB5.out hb6 HB5.out.size)
    clear HB5 hb6
    go_wp2_with fail
    refine (c4.out _).mono ?_
    rintro e w7 ⟨rfl, hb7⟩
    have HB7 := kp (bt' HB6.out hb7 HB6.out.size)
    clear HB6 hb7
    go_wp2_with fail
    refine (c6.out _).mono ?_
    rintro e w8 ⟨rfl, hb8⟩
    have HB8 := kp (bt' HB7.out hb8 HB7.out.size)
    clear HB7 hb8
    have HB9 := kp (ba (ba HB8.out (.cells SA.toArray 132)) (.cells SB.toArray 132))
    have hA5 := kp ((Blk.new w8 132 SA.toArray).alloc (.cells SB.toArray 132))
    have hB6 := kp (Blk.new (w8.alloc (.cells SA.toArray 132)) 132 SB.toArray)
    rw [size_all] at hB6
    have S1 := fun (cur : Array Value) (o : Obj) (h : cur.size = 11) => sc_new2 (P := Try.prog) w8 132 SA h1a.out cur o (by rw [hla]; exact h)
    have S2 := fun (o : Obj) (cur : Array Value) (h : cur.size = 11) => sc_newS (P := Try.prog) w8 132 SB h1b.out o cur (by rw [hlb]; exact h)
    go_wp2_with fail
    clear S1 S2
    refine bodyPost_ret (v := makerV w8.heap.size (w8.heap.size + 1)) (by simp [results, Try.results81, go_sem, makerV]) rfl ⟨w8.heap.size, w8.heap.size + 1, rfl, HMK.out _ _ _ hA5.out hB6.out, HB9.out⟩
  · have hlt : ¬ (64 : Int) < (key.size : Int) := by omega
    have hkn := kn.out h
    have h0 : key.toList = [] := by rw [toList_bs]; exact List.eq_nil_of_length_eq_zero h
    have h0e : key.toList.isEmpty = true := by rw [h0]; rfl
    have HB := kp (Below.refl w.heap.size w)
    go_enter Try.func81, Try.ntmps81
    go_upto_region 6 with (fail)
    rw [hkn]
    clear hkn h0 h0e hlt h
    clear he1 he2 hkp c1 ks kn km HDL hcl
    go_wp2_with fail
    refine (c2.out _).mono ?_
    rintro e w2 ⟨rfl, hb2⟩
    have HB2 := kp (bt' HB.out hb2 HB.out.size)
    clear HB hb2
    go_wp2_with fail
    refine (c0.out _).mono ?_
    rintro e w3 ⟨rfl, hb3⟩
    have HB3 := kp (bt' HB2.out hb3 HB2.out.size)
    clear HB2 hb3
    go_wp2_with fail
    refine (c3.out _).mono ?_
    rintro e w4 ⟨rfl, hb4⟩
    have HB4 := kp (bt' HB3.out hb4 HB3.out.size)
    clear HB3 hb4
    go_wp2_with fail
    refine (c5.out _).mono ?_
    rintro e w5 ⟨rfl, hb5⟩
    have HB5 := kp (bt' HB4.out hb5 HB4.out.size)
    clear HB4 hb5
    go_wp2_with fail
    refine (c0.out _).mono ?_
    rintro e w6 ⟨rfl, hb6⟩
    have HB6 := kp (bt' HB5.out hb6 HB5.out.size)
    clear HB5 hb6
    go_wp2_with fail
    refine (c4.out _).mono ?_
    rintro e w7 ⟨rfl, hb7⟩
    have HB7 := kp (bt' HB6.out hb7 HB6.out.size)
    clear HB6 hb7
    go_wp2_with fail
    refine (c6.out _).mono ?_
    rintro e w8 ⟨rfl, hb8⟩
    have HB8 := kp (bt' HB7.out hb8 HB7.out.size)
    clear HB7 hb8
    have HB9 := kp (ba (ba HB8.out (.cells SA.toArray 132)) (.cells SB.toArray 132))
    have hA5 := kp ((Blk.new w8 132 SA.toArray).alloc (.cells SB.toArray 132))
    have hB6 := kp (Blk.new (w8.alloc (.cells SA.toArray 132)) 132 SB.toArray)
    rw [size_all] at hB6
    have S1 := fun (cur : Array Value) (o : Obj) (h : cur.size = 11) => sc_new2 (P := Try.prog) w8 132 SA h1a.out cur o (by rw [hla]; exact h)
    have S2 := fun (o : Obj) (cur : Array Value) (h : cur.size = 11) => sc_newS (P := Try.prog) w8 132 SB h1b.out o cur (by rw [hlb]; exact h)
    go_wp2_with fail
    clear S1 S2
    refine bodyPost_ret (v := makerV w8.heap.size (w8.heap.size + 1)) (by simp [results, Try.results81, go_sem, makerV]) rfl ⟨w8.heap.size, w8.heap.size + 1, rfl, HMK.out _ _ _ hA5.out hB6.out, HB9.out⟩
  · have hlt : ¬ (64 : Int) < (key.size : Int) := by omega
    have hkm := km.out h1 h2
    subst hkm
    have HB := kp (Below.refl w.heap.size w)
    go_enter Try.func81, Try.ntmps81
    go_upto_region 6 with (fail)
    clear hlt h1 h2
    clear he1 he2 hkp c1 ks kn km HDL hcl
    go_wp2_with fail
    refine (c2.out _).mono ?_
    rintro e w2 ⟨rfl, hb2⟩
    have HB2 := kp (bt' HB.out hb2 HB.out.size)
    clear HB hb2
    go_wp2_with fail
    refine (c0.out _).mono ?_
    rintro e w3 ⟨rfl, hb3⟩
    have HB3 := kp (bt' HB2.out hb3 HB2.out.size)
    clear HB2 hb3
    go_wp2_with fail
    refine (c3.out _).mono ?_
    rintro e w4 ⟨rfl, hb4⟩
    have HB4 := kp (bt' HB3.out hb4 HB3.out.size)
    clear HB3 hb4
    go_wp2_with fail
    refine (c5.out _).mono ?_
    rintro e w5 ⟨rfl, hb5⟩
    have HB5 := kp (bt' HB4.out hb5 HB4.out.size)
    clear HB4 hb5
    go_wp2_with fail
    refine (c0.out _).mono ?_
    rintro e w6 ⟨rfl, hb6⟩
    have HB6 := kp (bt' HB5.out hb6 HB5.out.size)
    clear HB5 hb6
    go_wp2_with fail
    refine (c4.out _).mono ?_
    rintro e w7 ⟨rfl, hb7⟩
    have HB7 := kp (bt' HB6.out hb7 HB6.out.size)
    clear HB6 hb7
    go_wp2_with fail
    refine (c6.out _).mono ?_
    rintro e w8 ⟨rfl, hb8⟩
    have HB8 := kp (bt' HB7.out hb8 HB7.out.size)
    clear HB7 hb8
    have HB9 := kp (ba (ba HB8.out (.cells SA.toArray 132)) (.cells SB.toArray 132))
    have hA5 := kp ((Blk.new w8 132 SA.toArray).alloc (.cells SB.toArray 132))
    have hB6 := kp (Blk.new (w8.alloc (.cells SA.toArray 132)) 132 SB.toArray)
    rw [size_all] at hB6
    have S1 := fun (cur : Array Value) (o : Obj) (h : cur.size = 11) => sc_new2 (P := Try.prog) w8 132 SA h1a.out cur o (by rw [hla]; exact h)
    have S2 := fun (o : Obj) (cur : Array Value) (h : cur.size = 11) => sc_newS (P := Try.prog) w8 132 SB h1b.out o cur (by rw [hlb]; exact h)
    go_wp2_with fail
    clear S1 S2
    refine bodyPost_ret (v := makerV w8.heap.size (w8.heap.size + 1)) (by simp [results, Try.results81, go_sem, makerV]) rfl ⟨w8.heap.size, w8.heap.size + 1, rfl, HMK.out _ _ _ hA5.out hB6.out, HB9.out⟩
end Go.Proofs.Ytkknnnkbegigeaa
/- mac: Tag, Of, Short, Right. -/
namespace Go.Proofs.Ytkknnnkbegigeaa
open Go Go.RowKit
set_option linter.unusedVariables false
set_option linter.unusedSimpArgs false
attribute [local go_sem] bmax2 bmin2 bmax bmin cell_ext frozen_ext

/-- a key's beginning as a slice -/
theorem slice_hi (b N : Nat) (hN : N ≤ 32) (W : World) : (Instr.sliceAt 120 (.pointer (some ⟨b, 0, none⟩)) none (some (.int .i64 (N : Int))) none).run Try.prog W = .ok (.slice (some ⟨b, 0, none⟩) N 32) W := by
  have h1 : (0 : Int) ≤ (N : Int) := by omega
  have h2 : (N : Int) ≤ ((32 : Nat) : Int) := by omega
  have h4 : (Try.prog.info? 5).map (·.size) = some 1 := by kernel_rfl
  have hl : Try.prog.arrayLen 120 = 32 := by kernel_rfl
  have he : Try.prog.elem 120 = 5 := by kernel_rfl
  have hu : Try.prog.underlying 120 = some (.array (Try.prog.arrayLen 120) (Try.prog.elem 120)) := by kernel_rfl
  rw [run_sliceAt_array_h W 120 ⟨b, 0, none⟩ hu .i64 _ h1 (by rw [hl]; exact h2), hl, he]
  cases hq : Try.prog.info? 5 with
  | none => simp [hq] at h4
  | some i =>
    have hs : i.size = 1 := by simpa [hq] using h4
    simp [sizeOf, typeInfo, hq, hs, slicedAt, addr_add]
/-- .. made a text -/
theorem blk_strN {P : Program} {w : World} {g n cap : Nat} {T : TypeId} {l : List UInt8} (src : TypeId) {e dst : TypeId} (hs : P.underlying src = some (.slice e)) (he : P.underlying e = some (.int .u8)) (hd : P.underlying dst = some .string)
    (h : Blk w g T (cellsU8 l).toArray) (hl : n ≤ l.length) : (Go.convert src dst (.slice (some ⟨g, 0, none⟩) n cap)).run P w = .ok (.string (str (l.take n))) w := by
  have := run_convert_bytes_arg w src e hs he g 0 n cap ((l.take n).map fun c => (c.toNat : Int)) (by simp; omega) (fun i hi => by
    rw [Nat.zero_add]
    rw [h.atL (cellsU8_get l i (by omega))]
    have h2 : i < (l.take n).length := by simp; omega
    simp [List.getD_eq_getElem?_getD, List.getElem?_eq_getElem h2, List.getElem?_eq_getElem (show i < l.length by omega), hi, List.getElem?_take]) dst hd
  rw [strNums] at this
  exact this

set_option maxHeartbeats 1000000 in
set_option maxRecDepth 100000 in
theorem Tag_any (key t : ByteArray) (hk : key.size ≤ 1099511627) (ht : t.size ≤ 1099511627) (w : World) :
    Calls Try.prog 73 #[.string key, .string t] w fun e w' => e = .returned (.agg (cellsU8 (macD (bs key) (bs t))).toArray) ∧ Below w.heap.size w w' := by
  have c1 := kp (fun w' => With_any key hk w')
  have c2 := kp (fun b5 b6 w' h => Made_any (bs key) t b5 b6 w' h ht)
  have hcl := key_cells _ (macD_length (bs key) (bs t))
  generalize macD (bs key) (bs t) = E at c2 hcl ⊢
  obtain ⟨ZL, hZL⟩ : ∃ ZL : List UInt8, List.replicate 32 0 = ZL := ⟨_, rfl⟩
  have h0 := kp (Blk.new w 120 (cellsU8 (List.replicate 32 0)).toArray)
  have hb0 := kp (ba (Below.refl w.heap.size w) (.cells (cellsU8 (List.replicate 32 0)).toArray 120))
  clear hk ht
  go_enter Try.func73, Try.ntmps73
  go_wp2_with fail
  refine (c1.out _).mono ?_
  rintro e w1 ⟨b5, b6, rfl, hm, hb1⟩
  unfold makerV
  have h1 := kp (h0.out.bel hb1)
  have hbb := kp (bt' hb0.out hb1 hb0.out.size)
  have HM := kp hm
  clear hb1 hm h0 hb0
  rw [hZL] at h1
  have HZL := kp hZL
  clear hZL
  go_wp2_with fail
  refine (c2.out _ _ _ HM.out).mono ?_
  rintro e w2 ⟨rfl, hb2⟩
  have h2 := h1.out.bel hb2
  have SC := sc_all (P := Try.prog) (w := w2) w.heap.size 120 (cellsU8 E) _ h2 (by rw [hcl, length_cellsU8, ← HZL.out, List.length_replicate]) (cellsU8_one _)
  have HX := kp (h2.row (cellsU8 E).toArray)
  have HBX := kp (bsr (bt' hbb.out hb2 hbb.out.size) (Nat.le_refl w.heap.size) (bt' hbb.out hb2 hbb.out.size).size (cellsU8 E).toArray)
  have HL := kp hcl
  clear h1 h2 hb2 hbb HM
  generalize hY : w2.setRow w.heap.size (cellsU8 E).toArray = Z at SC HX HBX
  clear hY
  go_wp2
  refine bodyPost_ret (v := .agg (cellsU8 E).toArray) ?_ rfl ⟨rfl, HBX.out⟩
  exact res_all Try.results73 w.heap.size 32 _ (cellsU8 E) _ Try.underlying120 rfl info_key HL.out HX.out _ rfl

set_option maxHeartbeats 1000000 in
set_option maxRecDepth 100000 in
theorem Short_any (key t : ByteArray) (n : Int) (N : Nat) (hN : min (max n 0) 32 = (N : Int)) (hk : key.size ≤ 1099511627) (ht : t.size ≤ 1099511627) (w : World) :
    Calls Try.prog 50 #[.string key, .string t, .int .i64 n] w fun e w' => e = .returned (.string (str ((macD (bs key) (bs t)).take N))) ∧ Below w.heap.size w w' := by
  have c1 := kp (fun w' => Tag_any key t hk ht w')
  have hel := macD_length (bs key) (bs t)
  have hcl := key_cells _ hel
  generalize macD (bs key) (bs t) = E at c1 hcl hel ⊢
  have hN2 : N ≤ 32 := by omega
  clear ht hk
  go_enter Try.func50, Try.ntmps50
  go_wp2_with fail
  refine (c1.out _).mono ?_
  rintro e w1 ⟨rfl, hb1⟩
  have SC := fun (cur : Array Value) (h : cur.size = 32) => sc_new (P := Try.prog) w1 120 (cellsU8 E) (cellsU8_one _) cur (by rw [hcl]; exact h)
  have hcv := blk_strN (P := Try.prog) 45 (e := 5) (dst := 9) (n := N) (cap := 32) Try.underlying45 Try.underlying5 Try.underlying9 (Blk.new w1 120 (cellsU8 E).toArray) (by rw [hel]; exact hN2)
  have hsl := slice_hi w1.heap.size N hN2
  have HB := kp (ba hb1 (.cells (cellsU8 E).toArray 120))
  clear hb1 hel
  go_wp2
  go_ret
  exact ⟨rfl, HB.out⟩

/-- is a tag right? -/
def rightB (k t g : List UInt8) : Bool := decide (8 ≤ g.length) && decide (g.length ≤ 32) && ((macD k t).take g.length == g)
theorem rightB_no {k t g : List UInt8} (h : g.length < 8 ∨ 32 < g.length) : rightB k t g = false := by
  unfold rightB
  rcases h with h | h
  · simp [show ¬ 8 ≤ g.length by omega]
  · simp [show ¬ g.length ≤ 32 by omega]
theorem rightB_in {k t g : List UInt8} (h : 8 ≤ g.length) (h2 : g.length ≤ 32) : rightB k t g = ((macD k t).take g.length == g) := by
  unfold rightB; simp [h, h2]

set_option maxHeartbeats 1000000 in
set_option maxRecDepth 100000 in
theorem Right_any (key t g : ByteArray) (hk : key.size ≤ 1099511627) (ht : t.size ≤ 1099511627) (hg : g.size ≤ 1099511627) (w : World) :
    Calls Try.prog 53 #[.string key, .string t, .string g] w fun e w' => e = .returned (.bool (rightB (bs key) (bs t) (bs g))) ∧ Below w.heap.size w w' := by
  have hgl : (bs g).length = g.size := size_bs g
  by_cases h1 : g.size < 8
  · rw [rightB_no (Or.inl (by omega))]
    have h1' : ¬ (8 : Int) ≤ (g.size : Int) := by omega
    clear hgl
    go_enter Try.func53, Try.ntmps53
    go_wp2
    go_ret
    exact ⟨rfl, Below.refl _ _⟩
  by_cases h2 : 32 < g.size
  · rw [rightB_no (Or.inr (by omega))]
    have h1' : (8 : Int) ≤ (g.size : Int) := by omega
    have h2' : ¬ (g.size : Int) ≤ 32 := by omega
    clear hgl
    go_enter Try.func53, Try.ntmps53
    go_wp2
    go_ret
    exact ⟨rfl, Below.refl _ _⟩
  rw [rightB_in (by omega) (by omega), hgl]
  have c1 := kp (fun w' => Short_any key t (g.size : Int) g.size (by omega) hk ht w')
  have hsz : (str ((macD (bs key) (bs t)).take g.size)).size ≤ 64 := by rw [str_size, List.length_take]; omega

  have heq : ((str ((macD (bs key) (bs t)).take g.size)).toList == g.toList) = ((macD (bs key) (bs t)).take g.size == bs g) := by rw [toList_bs, toList_bs, bs_str]
  generalize str ((macD (bs key) (bs t)).take g.size) = X at c1 hsz heq
  rw [← heq]
  have h1' : (8 : Int) ≤ (g.size : Int) := by omega
  have h2' : (g.size : Int) ≤ 32 := by omega
  clear hgl heq hk ht
  go_enter Try.func53, Try.ntmps53
  go_wp2_with fail
  refine (c1.out _).mono ?_
  rintro e w1 ⟨rfl, hb1⟩
  have HB := kp hb1
  clear hb1
  go_wp2_with fail
  refine (octet_Same_any X g _ (by omega) (by omega)).mono ?_
  rintro e w2 ⟨rfl, m, rfl⟩
  go_wp2
  go_ret
  exact ⟨rfl, bd HB.out m⟩
end Go.Proofs.Ytkknnnkbegigeaa
/- volley: Round whole; a set of texts that were drawn; Answer. -/
namespace Go.Proofs.Ytkknnnkbegigeaa
open Go Go.RowKit
set_option linter.unusedVariables false
set_option linter.unusedSimpArgs false
attribute [local go_sem] bmax2 bmin2 bmax bmin cell_ext frozen_ext

def okR (t1 t2 t3 t4 r : Int) : Prop := (0 ≤ r ∧ r ≤ 100000000) ∧ t1 ≤ t4 ∧ t2 ≤ t3
instance (t1 t2 t3 t4 r : Int) : Decidable (okR t1 t2 t3 t4 r) := inferInstanceAs (Decidable (_ ∧ _))
def rndE (t1 t2 t3 t4 r : Int) : Int := if okR t1 t2 t3 t4 r then vRE t1 t2 t3 t4 r else 1
def rndS (t1 t2 t3 t4 r : Int) : List Value := if okR t1 t2 t3 t4 r then vRS t1 t2 t3 t4 r else smC 0 0 0
theorem V_Round (t1 t2 t3 t4 r : Int) (h1 : In64 t1) (h2 : In64 t2) (h3 : In64 t3) (h4 : In64 t4) (w : World) : Calls Try.prog 12 #[.int .i64 t1, .int .i64 t2, .int .i64 t3, .int .i64 t4, .int .i64 r] w fun e w' => e = .returned (.tuple #[.agg (rndS t1 t2 t3 t4 r).toArray, .int .i64 (rndE t1 t2 t3 t4 r)]) ∧ Below w.heap.size w w' := by
  unfold rndS rndE
  by_cases h : okR t1 t2 t3 t4 r
  · rw [if_pos h, if_pos h]
    exact V_Round_ok t1 t2 t3 t4 r h1 h2 h3 h4 h.1 h.2.1 h.2.2 w
  · rw [if_neg h, if_neg h]
    refine V_Round_arg t1 t2 t3 t4 r ?_ w
    unfold okR at h
    omega

/-! ### the texts that were drawn -/
theorem plainElem_bool_inv {H : Type} {P : Program} {e : TypeId} (he : P.underlying e = some .bool) {v : Value} {z : DataW H × List MemPlace} (h : plainElem P e v = some z) : ∃ x, v = .bool x ∧ z = (.lit (.bool x), []) := by
  unfold plainElem at h
  rw [he] at h
  cases v <;> simp at h
  exact ⟨_, rfl, h.symm⟩
/-- a set of texts: a map[string]bool that reads true at those of L alone -/
def Drw (w : World) (b n : Nat) (L : List (List UInt8)) : Prop := ∃ D : DataW Unit, w.ownsMap Try.prog 9 (plainElem Try.prog 4) b n D ∧ ∀ k : List UInt8, D.atKey (.string k) (.lit (.bool false)) = .lit (.bool (decide (k ∈ L)))
section
variable {w w' : World} {b n : Nat} {L : List (List UInt8)}
theorem Drw.lt (h : Drw w b n L) : b < w.heap.size := by
  obtain ⟨D, h1, h2⟩ := h
  exact h1.lt
theorem Drw.made (w : World) : Drw (w.alloc (.map #[] 0)) w.heap.size 0 [] := ⟨.map [], World.ownsMap_made w _ _ _, fun k => by simp [DataW.atKey]⟩
theorem Drw.kept {row : Option Nat} (h : Drw w b n L) (hg : w.grownBy w' row) (hne : some b ≠ row) : Drw w' b n L := by
  obtain ⟨D, h1, h2⟩ := h
  exact ⟨D, h1.kept hg hne, h2⟩
theorem Drw.bel (h : Drw w b n L) (hb : Below w.heap.size w w') : Drw w' b n L := h.kept (row := none) ⟨hb.os, hb.tape, hb.output, hb.size, fun k hk _ => hb.block k hk⟩ (by simp)
theorem Drw.far (h : Drw w b n L) {p : Addr} (hp : b ≠ p.block) (u : Value) : Drw (w.setCell p u) b n L := by
  obtain ⟨D, h1, h2⟩ := h
  exact ⟨D, h1.setCell hp u, h2⟩
set_option maxRecDepth 100000 in
theorem Drw.look (h : Drw w b n L) (k : ByteArray) (hk : k.size ≤ maxLen) : (Instr.lookup 97 (.map (some b)) (.string k) false).run Try.prog w = .ok (.bool (decide (bs k ∈ L))) w := by
  obtain ⟨D, h1, h2⟩ := h
  obtain ⟨v, ps, hr, hv⟩ := h1.lookup (t := 97) (e := 4) (z := .bool false) (zd := .lit (.bool false)) (zp := []) (key := .string k) (kl := .string k.data.toList) (Maps.string_keyed Try.underlying9) Try.underlying97 (by kernel_rfl) (plainElem_bool Try.underlying4 false) (WideMaps.keyOf_string_mk Try.underlying9 hk)
  obtain ⟨x, rfl, hx⟩ := plainElem_bool_inv Try.underlying4 hv
  simp only [Prod.mk.injEq] at hx
  rw [show k.data.toList = bs k from rfl, h2 (bs k)] at hx
  have e := hx.1
  injection e with e
  injection e with e
  rw [hr, e]
theorem Drw.put (h : Drw w b n L) (k : ByteArray) (hk : k.size ≤ maxLen) (hn : n < maxLen) : ∃ w', (Instr.mapUpdate 97 (.map (some b)) (.string k) (.bool true)).run Try.prog w = .ok () w' ∧ Drw w' b (n + 1) (bs k :: L) ∧ w.grownBy w' (some b) := by
  obtain ⟨D, h1, h2⟩ := h
  obtain ⟨w', hr, ho, hg⟩ := h1.update (t := 97) (e := 4) (key := .string k) (val := .bool true) (kl := .string k.data.toList) (d := .lit (.bool true)) (ps := []) (Maps.string_keyed Try.underlying9) Try.underlying97 hn (WideMaps.keyOf_string_mk Try.underlying9 hk) (plainElem_bool Try.underlying4 true)
  refine ⟨w', hr, ⟨_, ho, fun j => ?_⟩, hg⟩
  by_cases hj : j = bs k
  · subst hj
    rw [show k.data.toList = bs k from rfl, Maps.atKey_put_same h1.isMap (by trivial)]
    simp
  · rw [show k.data.toList = bs k from rfl, Maps.atKey_put_other (by intro e; injection e with e; exact hj e), h2 j]
    simp [hj]
end
theorem wpL_mapUpdate {P : Program} {ops : Array Oper} {rest : List Oper} {o : Oper} {a : Act} {w w' : World} {Q : Exit → Act → World → Prop} (hgd : o.guard = none) (t : TypeId) (m x y : Operand) (ho : o.op = .mapUpdate t m x y) {mv kv v : Value} (hm : a.eval m = mv) (hx : a.eval x = kv) (hy : a.eval y = v)
    (hr : (Instr.mapUpdate t mv kv v).run P w = .ok () w') (h : wpList P ops Q rest (a.put o.dst undef) w') : wpList P ops Q (o :: rest) a w :=
  wpList_plain hgd fun K hK => by
    unfold Oper.wp execOp
    simp only [ho, hm, hx, hy, Sem.run_bind, hr, Result.andThen_ok, Sem.run_pure]
    exact hK _ _ h

/-! ### Answer -/
def ansB (ask : ByteArray) (t2 t3 : Int) : ByteArray := ask ++ str (putL (uT t2) 8) ++ str (putL (uT t3) 8)
def ansT (key ask : ByteArray) (t2 t3 : Int) : ByteArray := ansB ask t2 t3 ++ str ((macD (bs key) (bs (ansB ask t2 t3))).take 16)
theorem V_Answer_no (key ask : ByteArray) (h : ask.size ≠ 24) (t2 t3 : Int) (w : World) : Calls Try.prog 18 #[.string key, .string ask, .int .i64 t2, .int .i64 t3] w fun e w' => e = .returned (.tuple #[.string ⟨#[]⟩, .int .i64 5]) ∧ w' = w := by
  have g : ((ask.size : Int) != 24) = true := by simp; omega
  go_enter Try.func18, Try.ntmps18
  go_wp2
  go_ret2
  exact ⟨rfl, rfl⟩
set_option maxHeartbeats 1000000 in
theorem V_Answer_ok (key ask : ByteArray) (h : ask.size = 24) (hk : key.size ≤ 1099511627) (t2 t3 : Int) (w : World) : Calls Try.prog 18 #[.string key, .string ask, .int .i64 t2, .int .i64 t3] w fun e w' => e = .returned (.tuple #[.string (ansT key ask t2 t3), .int .i64 0]) ∧ Below w.heap.size w w' := by
  have c2 := kp (fun w' => V_laid t2 w')
  have c3 := kp (fun w' => V_laid t3 w')
  have z2 : (str (putL (uT t2) 8)).size = 8 := by rw [str_size, length_putL]
  have z3 : (str (putL (uT t3) 8)).size = 8 := by rw [str_size, length_putL]
  unfold ansT ansB
  have zb : (ask ++ str (putL (uT t2) 8) ++ str (putL (uT t3) 8)).size = 40 := by rw [ByteArray.size_append, ByteArray.size_append, h, z2, z3]
  have cS := kp (fun w' => Short_any key (ask ++ str (putL (uT t2) 8) ++ str (putL (uT t3) 8)) 16 16 (by decide) hk (by omega) w')
  have zm : (str ((macD (bs key) (bs (ask ++ str (putL (uT t2) 8) ++ str (putL (uT t3) 8)))).take 16)).size ≤ 16 := by rw [str_size, List.length_take]; omega
  generalize str ((macD (bs key) (bs (ask ++ str (putL (uT t2) 8) ++ str (putL (uT t3) 8)))).take 16) = M at *
  generalize str (putL (uT t2) 8) = A at *
  generalize str (putL (uT t3) 8) = B at *
  have g : ((ask.size : Int) != 24) = false := by simp; omega
  have g2 : ((ask.size : Int) == 24) = true := by simp; omega
  go_enter Try.func18, Try.ntmps18
  go_wp2_with (first | (go_at_call 49; with_reducible refine (c2.out _).mono ?_; rintro e w1 ⟨rfl, hb1⟩) | (go_at_call 49; with_reducible refine (c3.out _).mono ?_; rintro e w2 ⟨rfl, hb2⟩) | (go_at_call 50; refine (cS.out _).mono ?_; rintro e w3 ⟨rfl, hb3⟩))
  go_ret2
  have HB := Below.refl w.heap.size w
  have e1 := bt' HB hb1 HB.size
  have e2 := bt' e1 hb2 e1.size
  exact ⟨rfl, bt' e2 hb3 e2.size⟩
end Go.Proofs.Ytkknnnkbegigeaa
/- volley: New, Open, Ask. -/
namespace Go.Proofs.Ytkknnnkbegigeaa
open Go Go.RowKit
set_option linter.unusedVariables false
set_option linter.unusedSimpArgs false
attribute [local go_sem] bmax2 bmin2 bmax bmin cell_ext frozen_ext

/-- a volley's cells -/
def vlL (key : ByteArray) (r : Int) (g : Nat) (ask : ByteArray) (t1 : Int) : List Value := [.string key, .int .i64 r, .map (some g), .string ask, .int .i64 t1]
/-- a volley: what was drawn, the ask that is open -/
structure Vo (w : World) (b g : Nat) (key : ByteArray) (r : Int) (n : Nat) (L : List (List UInt8)) (ask : ByteArray) (t1 : Int) : Prop where
  blk : Blk w b 99 (vlL key r g ask t1).toArray
  drw : Drw w g n L
/-- only two blocks turn -/
structure VFr (b g : Nat) (w w' : World) : Prop where
  os : w'.os = w.os
  tape : w'.tape = w.tape
  output : w'.output = w.output
  size : w.heap.size ≤ w'.heap.size
  block : ∀ k, k < w.heap.size → k ≠ b → k ≠ g → w'.heap[k]? = w.heap[k]?
theorem empty_iff (s : ByteArray) : s.toList.isEmpty = decide (s.size = 0) := by
  rw [toList_bs, ← size_bs]
  cases bs s <;> simp
section
variable {w w' w'' : World} {b g n : Nat} {key ask : ByteArray} {r t1 : Int} {L : List (List UInt8)}
theorem Vo.ne (h : Vo w b g key r n L ask t1) : b ≠ g := by
  obtain ⟨h1, D, ⟨es, cl, h2, _⟩, _⟩ := h
  intro e
  subst e
  unfold Blk at h1
  rw [h1] at h2
  injection h2 with h2
  cases h2
theorem Vo.bel (h : Vo w b g key r n L ask t1) (hb : Below w.heap.size w w') : Vo w' b g key r n L ask t1 := ⟨h.blk.bel hb, h.drw.bel hb⟩
theorem VFr.of_bel (h : Below w.heap.size w w') : VFr b g w w' := ⟨h.os, h.tape, h.output, h.size, fun k hk _ _ => h.block k hk⟩
theorem VFr.of_grownB (h : w.grownBy w' (some b)) : VFr b g w w' := ⟨h.os, h.tape, h.output, h.size, fun k hk h1 _ => h.block k hk (by simpa using h1)⟩
theorem VFr.of_grownG (h : w.grownBy w' (some g)) : VFr b g w w' := ⟨h.os, h.tape, h.output, h.size, fun k hk _ h1 => h.block k hk (by simpa using h1)⟩
theorem VFr.trans (h : VFr b g w w') (h2 : VFr b g w' w'') : VFr b g w w'' := ⟨h2.os.trans h.os, h2.tape.trans h.tape, h2.output.trans h.output, Nat.le_trans h.size h2.size, fun k hk k1 k2 => (h2.block k (Nat.lt_of_lt_of_le hk h.size) k1 k2).trans (h.block k hk k1 k2)⟩
theorem VFr.below {B : Nat} {w0 : World} (h : VFr b g w w') (hb : Below B w0 w) (h1 : B ≤ b) (h2 : B ≤ g) (hB : B ≤ w.heap.size) : Below B w0 w' := ⟨h.os.trans hb.os, h.tape.trans hb.tape, h.output.trans hb.output, Nat.le_trans hb.size h.size, fun k hk => (h.block k (by omega) (by omega) (by omega)).trans (hb.block k hk)⟩
theorem Blk.vfr {c : Nat} {t : TypeId} {cs : Array Value} (h : Blk w c t cs) (hf : VFr b g w w') (h1 : c ≠ b) (h2 : c ≠ g) : Blk w' c t cs := (hf.block c h.lt h1 h2).trans h
end
set_option maxRecDepth 100000 in
theorem V_New_no (key : ByteArray) (r : Int) (h : key.size = 0 ∨ ¬ (0 ≤ r ∧ r ≤ 100000000)) (w : World) : Calls Try.prog 16 #[.string key, .int .i64 r] w fun e w' => e = .returned (.tuple #[.pointer none, .int .i64 1]) ∧ w' = w := by
  have cM := kp (fun w' => V_may r w')
  have he := empty_iff key
  by_cases hk : key.size = 0
  · rw [decide_eq_true hk] at he
    clear h cM
    go_enter Try.func16, Try.ntmps16
    go_wp2
    go_ret2
    exact ⟨rfl, rfl⟩
  · have h := h.resolve_left hk
    rw [decide_eq_false h] at cM
    rw [decide_eq_false hk] at he
    clear h
    go_enter Try.func16, Try.ntmps16
    go_wp2_with (go_at_call 28; refine (cM.out _).mono ?_; rintro e w1 ⟨rfl, rfl⟩)
    go_ret2
    exact ⟨rfl, rfl⟩
set_option maxRecDepth 100000 in
theorem V_New_ok (key : ByteArray) (r : Int) (hk : key.size ≠ 0) (h : 0 ≤ r ∧ r ≤ 100000000) (w : World) : Calls Try.prog 16 #[.string key, .int .i64 r] w fun e w' => e = .returned (.tuple #[.pointer (some ⟨w.heap.size + 1, 0, none⟩), .int .i64 0]) ∧ Vo w' (w.heap.size + 1) w.heap.size key r 0 [] ⟨#[]⟩ 0 ∧ Below w.heap.size w w' := by
  have cM := kp (fun w' => V_may r w')
  rw [decide_eq_true h] at cM
  have he := empty_iff key
  rw [decide_eq_false hk] at he
  clear h
  have hmm := @run_makeMap Try.prog
  go_enter Try.func16, Try.ntmps16
  go_wp2_with (go_at_call 28; refine (cM.out _).mono ?_; rintro e w1 ⟨rfl, rfl⟩)
  go_ret2
  have hB := ba (ba (Below.refl w1.heap.size w1) (.map #[] 0)) (.cells (vlL key r w1.heap.size ⟨#[]⟩ 0).toArray 99)
  have hK := Blk.new (w1.alloc (.map #[] 0)) 99 (vlL key r w1.heap.size ⟨#[]⟩ 0).toArray
  rw [size_all] at hK
  exact ⟨rfl, ⟨hK, (Drw.made w1).bel (ba (Below.refl _ _) _)⟩, hB⟩
theorem V_Open (b g : Nat) (key ask : ByteArray) (r t1 : Int) (n : Nat) (L : List (List UInt8)) (w : World) (H : Vo w b g key r n L ask t1) : Calls Try.prog 24 #[.pointer (some ⟨b, 0, none⟩)] w fun e w' => e = .returned (.bool (!decide (ask.size = 0))) ∧ w' = w := by
  have he := empty_iff ask
  have x3 := H.blk.atL (show (vlL key r g ask t1)[3]? = some (.string ask) from rfl)
  have kl := H.blk.lt
  go_enter Try.func24, Try.ntmps24
  go_wp2
  go_ret
  exact ⟨by simp [he], rfl⟩
set_option maxRecDepth 100000 in
theorem V_Ask_size (b : Nat) (d : ByteArray) (now : Int) (h : d.size ≠ 16) (w : World) : Calls Try.prog 20 #[.pointer (some ⟨b, 0, none⟩), .string d, .int .i64 now] w fun e w' => e = .returned (.tuple #[.string ⟨#[]⟩, .int .i64 5]) ∧ w' = w := by
  have g : ((d.size : Int) != 16) = true := by simp; omega
  go_enter Try.func20, Try.ntmps20
  go_wp2
  go_ret2
  exact ⟨rfl, rfl⟩
set_option maxRecDepth 100000 in
theorem V_Ask_twice (b g n : Nat) (key ask d : ByteArray) (r t1 now : Int) (L : List (List UInt8)) (w : World) (H : Vo w b g key r n L ask t1) (h : d.size = 16) (hL : bs d ∈ L) : Calls Try.prog 20 #[.pointer (some ⟨b, 0, none⟩), .string d, .int .i64 now] w fun e w' => e = .returned (.tuple #[.string ⟨#[]⟩, .int .i64 11]) ∧ w' = w := by
  have g1 : ((d.size : Int) != 16) = false := by simp; omega
  have g2 : ((d.size : Int) == 16) = true := by simp; omega
  have hl := H.drw.look d (by rw [h]; decide)
  rw [decide_eq_true hL] at hl
  have x2 := H.blk.atL (show (vlL key r g ask t1)[2]? = some (.map (some g)) from rfl)
  have kl := H.blk.lt
  clear hL
  go_enter Try.func20, Try.ntmps20
  go_wp2
  go_ret2
  exact ⟨rfl, rfl⟩
/-- an ask -/
def askB (d : ByteArray) (now : Int) : ByteArray := d ++ str (putL (uT now) 8)
set_option maxHeartbeats 1000000 in
set_option maxRecDepth 100000 in
theorem V_Ask_ok (b g n : Nat) (key ask d : ByteArray) (r t1 now : Int) (L : List (List UInt8)) (w : World) (H : Vo w b g key r n L ask t1) (h : d.size = 16) (hL : bs d ∉ L) (hn : n < maxLen) : Calls Try.prog 20 #[.pointer (some ⟨b, 0, none⟩), .string d, .int .i64 now] w fun e w' => e = .returned (.tuple #[.string (askB d now), .int .i64 0]) ∧ Vo w' b g key r (n + 1) (bs d :: L) (askB d now) now ∧ VFr b g w w' := by
  have g1 : ((d.size : Int) != 16) = false := by simp; omega
  have g2 : ((d.size : Int) == 16) = true := by simp; omega
  have hl := H.drw.look d (by rw [h]; decide)
  rw [decide_eq_false hL] at hl
  obtain ⟨w2, hp, hd2, hg2⟩ := H.drw.put d (by rw [h]; decide) hn
  have hne := H.ne
  have cL := kp (fun w' => V_laid now w')
  have x2 := H.blk.atL (show (vlL key r g ask t1)[2]? = some (.map (some g)) from rfl)
  have kl := H.blk.lt
  have H2 := kp (H.blk.grown hg2 (by simpa using hne))
  have D2 := kp hd2
  have F2 := kp (VFr.of_grownG (b := b) hg2)
  have z2 : (str (putL (uT now) 8)).size = 8 := by rw [str_size, length_putL]
  have hA : askB d now = d ++ str (putL (uT now) 8) := rfl
  rw [hA]
  clear hA
  generalize str (putL (uT now) 8) = A at *
  have HA := kp (size_all)
  clear HA H hd2 hg2 hL
  go_enter Try.func20, Try.ntmps20
  go_upto_region 6 with (refine wpL_mapUpdate rfl 97 _ _ _ rfl rfl rfl rfl hp ?_)
  clear hl hp x2 kl
  go_upto_region 7 with (go_at_call 49; refine (cL.out _).mono ?_; rintro e w3 ⟨rfl, hb⟩; have G := H2.out.bel hb; have y3 := G.atL (show (vlL key r g ask t1)[3]? = some (.string ask) from rfl); have kl := G.lt; have fz := G.frozen 3; have G4 := G.setL 3 (.string (d ++ A)); have y4 := G4.atL (show ((vlL key r g ask t1).set 3 (.string (d ++ A)))[4]? = some (.int .i64 t1) from rfl); have fz4 := G4.frozen 4; have kl4 := G4.lt)
  have K := G4.setL 4 (.int .i64 now)
  have HV : Vo ((w3.setCell ⟨b, 3, none⟩ (.string (d ++ A))).setCell ⟨b, 4, none⟩ (.int .i64 now)) b g key r (n + 1) (bs d :: L) (d ++ A) now := ⟨K, ((D2.out.bel hb).far (p := ⟨b, 3, none⟩) (Ne.symm hne) _).far (p := ⟨b, 4, none⟩) (Ne.symm hne) _⟩
  have HF : VFr b g w ((w3.setCell ⟨b, 3, none⟩ (.string (d ++ A))).setCell ⟨b, 4, none⟩ (.int .i64 now)) := ((F2.out.trans (VFr.of_bel hb)).trans (VFr.of_grownB (gbset w3 b 3 _))).trans (VFr.of_grownB (gbset _ b 4 _))
  have HVK := kp HV
  have HFK := kp HF
  clear HV HF K G4 y4 fz4 kl4 G y3 kl fz hb H2 D2 F2
  generalize (w3.setCell ⟨b, 3, none⟩ (.string (d ++ A))).setCell ⟨b, 4, none⟩ (.int .i64 now) = W at HVK HFK ⊢
  have y3 := HVK.out.blk.atL (show (vlL key r g (d ++ A) now)[3]? = some (.string (d ++ A)) from rfl)
  have kl := HVK.out.blk.lt
  go_wp2
  go_ret2
  exact ⟨rfl, HVK.out, HFK.out⟩
end Go.Proofs.Ytkknnnkbegigeaa
/- volley: Take. -/
namespace Go.Proofs.Ytkknnnkbegigeaa
open Go Go.RowKit
set_option linter.unusedVariables false
set_option linter.unusedSimpArgs false
attribute [local go_sem] bmax2 bmin2 bmax bmin cell_ext frozen_ext

theorem smC_one (a b c : Int) : ∀ v ∈ smC a b c, v.oneCell' = true := by
  intro v hv
  simp only [smC, List.mem_cons, List.not_mem_nil, or_false] at hv
  rcases hv with rfl | rfl | rfl <;> rfl
theorem rndS_sm (t1 t2 t3 t4 r : Int) : ∃ o d b, rndS t1 t2 t3 t4 r = smC o d b := by
  unfold rndS vRS
  split
  · split <;> exact ⟨_, _, _, rfl⟩
  · exact ⟨_, _, _, rfl⟩
/-- a moment that an answer tells -/
def mo (a : ByteArray) (i j : Nat) : Int := wrap64 (takeN (bs ((a.extract 0 40).extract i j)) : Int)
theorem mo_64 (a : ByteArray) (i j : Nat) : In64 (mo a i j) := by unfold mo In64 wrap64; omega
def preB (a ask : ByteArray) : Bool := Lib.hasPrefix a.data.toList ask.data.toList
def macB (key a : ByteArray) : Bool := rightB (bs key) (bs (a.extract 0 40)) (bs (a.extract 40 56))
set_option maxHeartbeats 2000000 in
set_option maxRecDepth 100000 in
theorem V_Take_none (b g n : Nat) (key ask a : ByteArray) (r t1 now : Int) (L : List (List UInt8)) (w : World) (H : Vo w b g key r n L ask t1) (ho : ask.size = 0) : Calls Try.prog 22 #[.pointer (some ⟨b, 0, none⟩), .string a, .int .i64 now] w fun e w' => e = .returned (.tuple #[.agg (smC 0 0 0).toArray, .int .i64 10]) ∧ Vo w' b g key r n L ask t1 ∧ VFr b g w w' := by
  have hV := kp (H.bel (ba (Below.refl w.heap.size w) (.cells (smC 0 0 0).toArray 23)))
  have hF := kp (VFr.of_bel (b := b) (g := g) (ba (Below.refl w.heap.size w) (.cells (smC 0 0 0).toArray 23)))
  have H6 := kp (Blk.new w 23 (smC 0 0 0).toArray)
  have S0 := kp (st_same (P := Try.prog) w.heap.size 3 23 _ _ info_sm rfl H6.out (smC_one 0 0 0))
  have cO := kp (V_Open b g key ask r t1 n L _ hV.out)
  rw [decide_eq_true ho] at cO
  go_enter Try.func22, Try.ntmps22
  go_upto_region 1 with (fail)
  change Code.wp _ _ _ _ (w.alloc (.cells (smC 0 0 0).toArray 23))
  generalize w.alloc (.cells (smC 0 0 0).toArray 23) = W at hV hF H6 S0 cO ⊢
  have S0 := S0.out
  have x3 := hV.out.blk.atL (show (vlL key r g ask t1)[3]? = some (.string ask) from rfl)
  have x0 := hV.out.blk.atL (show (vlL key r g ask t1)[0]? = some (.string key) from rfl)
  have kl := hV.out.blk.lt
  go_wp2_with (first | (go_at_call 24; refine cO.out.mono ?_; rintro e w1 ⟨rfl, rfl⟩) | (refine wpL_store rfl 23 _ _ rfl rfl rfl S0 ?_))
  refine bodyPost_ret (v := .tuple #[.agg (smC 0 0 0).toArray, .int .i64 10]) ?_ rfl ⟨rfl, hV.out, hF.out⟩
  exact res2 Try.results22 w.heap.size 3 _ _ _ Try.underlying23 rfl info_sm rfl H6.out _ rfl _ rfl
set_option maxHeartbeats 2000000 in
set_option maxRecDepth 100000 in
theorem V_Take_size (b g n : Nat) (key ask a : ByteArray) (r t1 now : Int) (L : List (List UInt8)) (w : World) (H : Vo w b g key r n L ask t1) (ho : ask.size ≠ 0) (hs : a.size ≠ 56) : Calls Try.prog 22 #[.pointer (some ⟨b, 0, none⟩), .string a, .int .i64 now] w fun e w' => e = .returned (.tuple #[.agg (smC 0 0 0).toArray, .int .i64 5]) ∧ Vo w' b g key r n L ask t1 ∧ VFr b g w w' := by
  have hV := kp (H.bel (ba (Below.refl w.heap.size w) (.cells (smC 0 0 0).toArray 23)))
  have hF := kp (VFr.of_bel (b := b) (g := g) (ba (Below.refl w.heap.size w) (.cells (smC 0 0 0).toArray 23)))
  have H6 := kp (Blk.new w 23 (smC 0 0 0).toArray)
  have S0 := kp (st_same (P := Try.prog) w.heap.size 3 23 _ _ info_sm rfl H6.out (smC_one 0 0 0))
  have cO := kp (V_Open b g key ask r t1 n L _ hV.out)
  rw [decide_eq_false ho] at cO
  have g1 : ((a.size : Int) != 56) = true := by simp; omega
  go_enter Try.func22, Try.ntmps22
  go_upto_region 1 with (fail)
  change Code.wp _ _ _ _ (w.alloc (.cells (smC 0 0 0).toArray 23))
  generalize w.alloc (.cells (smC 0 0 0).toArray 23) = W at hV hF H6 S0 cO ⊢
  have S0 := S0.out
  have x3 := hV.out.blk.atL (show (vlL key r g ask t1)[3]? = some (.string ask) from rfl)
  have x0 := hV.out.blk.atL (show (vlL key r g ask t1)[0]? = some (.string key) from rfl)
  have kl := hV.out.blk.lt
  go_wp2_with (first | (go_at_call 24; refine cO.out.mono ?_; rintro e w1 ⟨rfl, rfl⟩) | (refine wpL_store rfl 23 _ _ rfl rfl rfl S0 ?_))
  refine bodyPost_ret (v := .tuple #[.agg (smC 0 0 0).toArray, .int .i64 5]) ?_ rfl ⟨rfl, hV.out, hF.out⟩
  exact res2 Try.results22 w.heap.size 3 _ _ _ Try.underlying23 rfl info_sm rfl H6.out _ rfl _ rfl
set_option maxHeartbeats 2000000 in
set_option maxRecDepth 100000 in
theorem V_Take_form (b g n : Nat) (key ask a : ByteArray) (r t1 now : Int) (L : List (List UInt8)) (w : World) (H : Vo w b g key r n L ask t1) (ho : ask.size ≠ 0) (hs : a.size = 56) (hp : preB a ask = false) : Calls Try.prog 22 #[.pointer (some ⟨b, 0, none⟩), .string a, .int .i64 now] w fun e w' => e = .returned (.tuple #[.agg (smC 0 0 0).toArray, .int .i64 2]) ∧ Vo w' b g key r n L ask t1 ∧ VFr b g w w' := by
  have hV := kp (H.bel (ba (Below.refl w.heap.size w) (.cells (smC 0 0 0).toArray 23)))
  have hF := kp (VFr.of_bel (b := b) (g := g) (ba (Below.refl w.heap.size w) (.cells (smC 0 0 0).toArray 23)))
  have H6 := kp (Blk.new w 23 (smC 0 0 0).toArray)
  have S0 := kp (st_same (P := Try.prog) w.heap.size 3 23 _ _ info_sm rfl H6.out (smC_one 0 0 0))
  have cO := kp (V_Open b g key ask r t1 n L _ hV.out)
  rw [decide_eq_false ho] at cO
  have g1 : ((a.size : Int) != 56) = false := by simp; omega
  have g2 : ((a.size : Int) == 56) = true := by simp; omega
  have cP := kp (fun w' => Try.strings_HasPrefix a ask w')
  unfold preB at hp
  rw [hp] at cP
  clear hp
  go_enter Try.func22, Try.ntmps22
  go_upto_region 1 with (fail)
  change Code.wp _ _ _ _ (w.alloc (.cells (smC 0 0 0).toArray 23))
  generalize w.alloc (.cells (smC 0 0 0).toArray 23) = W at hV hF H6 S0 cO ⊢
  have S0 := S0.out
  have x3 := hV.out.blk.atL (show (vlL key r g ask t1)[3]? = some (.string ask) from rfl)
  have x0 := hV.out.blk.atL (show (vlL key r g ask t1)[0]? = some (.string key) from rfl)
  have kl := hV.out.blk.lt
  go_wp2_with (first | (go_at_call 24; refine cO.out.mono ?_; rintro e w1 ⟨rfl, rfl⟩) | (go_at_call 52; refine (cP.out _).mono ?_; rintro e w2 ⟨rfl, rfl⟩) | (refine wpL_store rfl 23 _ _ rfl rfl rfl S0 ?_))
  refine bodyPost_ret (v := .tuple #[.agg (smC 0 0 0).toArray, .int .i64 2]) ?_ rfl ⟨rfl, hV.out, hF.out⟩
  exact res2 Try.results22 w.heap.size 3 _ _ _ Try.underlying23 rfl info_sm rfl H6.out _ rfl _ rfl
set_option maxHeartbeats 2000000 in
set_option maxRecDepth 100000 in
theorem V_Take_mac (b g n : Nat) (key ask a : ByteArray) (r t1 now : Int) (L : List (List UInt8)) (w : World) (H : Vo w b g key r n L ask t1) (ho : ask.size ≠ 0) (hk : key.size ≤ 1099511627) (hs : a.size = 56) (hp : preB a ask = true) (hm : macB key a = false) : Calls Try.prog 22 #[.pointer (some ⟨b, 0, none⟩), .string a, .int .i64 now] w fun e w' => e = .returned (.tuple #[.agg (smC 0 0 0).toArray, .int .i64 12]) ∧ Vo w' b g key r n L ask t1 ∧ VFr b g w w' := by
  have hV := kp (H.bel (ba (Below.refl w.heap.size w) (.cells (smC 0 0 0).toArray 23)))
  have hF := kp (VFr.of_bel (b := b) (g := g) (ba (Below.refl w.heap.size w) (.cells (smC 0 0 0).toArray 23)))
  have H6 := kp (Blk.new w 23 (smC 0 0 0).toArray)
  have S0 := kp (st_same (P := Try.prog) w.heap.size 3 23 _ _ info_sm rfl H6.out (smC_one 0 0 0))
  have cO := kp (V_Open b g key ask r t1 n L _ hV.out)
  rw [decide_eq_false ho] at cO
  have g1 : ((a.size : Int) != 56) = false := by simp; omega
  have g2 : ((a.size : Int) == 56) = true := by simp; omega
  have cP := kp (fun w' => Try.strings_HasPrefix a ask w')
  unfold preB at hp
  rw [hp] at cP
  have cR := kp (fun w' => Right_any key (a.extract 0 40) (a.extract 40 56) hk (by rw [ByteArray.size_extract]; omega) (by rw [ByteArray.size_extract]; omega) w')
  unfold macB at hm
  rw [hm] at cR
  clear hp hm
  go_enter Try.func22, Try.ntmps22
  go_upto_region 1 with (fail)
  change Code.wp _ _ _ _ (w.alloc (.cells (smC 0 0 0).toArray 23))
  generalize w.alloc (.cells (smC 0 0 0).toArray 23) = W at hV hF H6 S0 cO ⊢
  have S0 := S0.out
  have x3 := hV.out.blk.atL (show (vlL key r g ask t1)[3]? = some (.string ask) from rfl)
  have x0 := hV.out.blk.atL (show (vlL key r g ask t1)[0]? = some (.string key) from rfl)
  have kl := hV.out.blk.lt
  go_upto_region 7 with (first | (go_at_call 24; refine cO.out.mono ?_; rintro e w1 ⟨rfl, rfl⟩) | (go_at_call 52; refine (cP.out _).mono ?_; rintro e w2 ⟨rfl, rfl⟩) | (refine wpL_store rfl 23 _ _ rfl rfl rfl S0 ?_))
  refine wp_region_ext [0, 1, 2, 3, 4] [5] (by kernel_rfl) (by kernel_rfl) ?_
  simp only [List.map_cons, List.map_nil, List.getD_cons_succ, List.getD_cons_zero]
  repeat (go_big_quiet_step (fail))
  refine wpQuiet_nil ?_
  rintro z
  have hbz := ext_below w2 z
  have hV := kp (hV.out.bel hbz)
  have hF := kp (hF.out.trans (VFr.of_bel hbz))
  have H6 := kp (H6.out.bel hbz)
  clear hbz S0 x3 x0 kl
  generalize World.ext w2 z = V at hV hF H6 ⊢
  have S0 := st_same (P := Try.prog) w.heap.size 3 23 _ _ info_sm rfl H6.out (smC_one 0 0 0)
  have x3 := hV.out.blk.atL (show (vlL key r g ask t1)[3]? = some (.string ask) from rfl)
  have x0 := hV.out.blk.atL (show (vlL key r g ask t1)[0]? = some (.string key) from rfl)
  have kl := hV.out.blk.lt
  go_wp2_with (first | (go_at_call 53; refine (cR.out _).mono ?_; rintro e w3 ⟨rfl, hb3⟩; have S0 := st_same (P := Try.prog) w.heap.size 3 23 _ _ info_sm rfl (H6.out.bel hb3) (smC_one 0 0 0)) | (refine wpL_store rfl 23 _ _ rfl rfl rfl S0 ?_))
  refine bodyPost_ret (v := .tuple #[.agg (smC 0 0 0).toArray, .int .i64 12]) ?_ rfl ⟨rfl, hV.out.bel hb3, hF.out.trans (VFr.of_bel hb3)⟩
  exact res2 Try.results22 w.heap.size 3 _ _ _ Try.underlying23 rfl info_sm rfl (H6.out.bel hb3) _ rfl _ rfl
set_option maxHeartbeats 2000000 in
set_option maxRecDepth 100000 in
theorem V_Take_ok (b g n : Nat) (key ask a : ByteArray) (r t1 now : Int) (L : List (List UInt8)) (w : World) (H : Vo w b g key r n L ask t1) (ho : ask.size ≠ 0) (hr1 : In64 r) (h1 : In64 t1) (h4 : In64 now) (hk : key.size ≤ 1099511627) (hs : a.size = 56) (hp : preB a ask = true) (hm : macB key a = true) : Calls Try.prog 22 #[.pointer (some ⟨b, 0, none⟩), .string a, .int .i64 now] w fun e w' => e = .returned (.tuple #[.agg (rndS t1 (mo a 24 32) (mo a 32 40) now r).toArray, .int .i64 (rndE t1 (mo a 24 32) (mo a 32 40) now r)]) ∧ Vo w' b g key r n L ⟨#[]⟩ t1 ∧ VFr b g w w' := by
  have hV := kp (H.bel (ba (Below.refl w.heap.size w) (.cells (smC 0 0 0).toArray 23)))
  have hF := kp (VFr.of_bel (b := b) (g := g) (ba (Below.refl w.heap.size w) (.cells (smC 0 0 0).toArray 23)))
  have H6 := kp (Blk.new w 23 (smC 0 0 0).toArray)
  have S0 := kp (st_same (P := Try.prog) w.heap.size 3 23 _ _ info_sm rfl H6.out (smC_one 0 0 0))
  have N6 : Kp (w.heap.size ≠ b) := kp (by have := H.blk.lt; omega)
  have G6 : Kp (w.heap.size ≠ g) := kp (by have := H.drw.lt; omega)
  have cO := kp (V_Open b g key ask r t1 n L _ hV.out)
  rw [decide_eq_false ho] at cO
  have g1 : ((a.size : Int) != 56) = false := by simp; omega
  have g2 : ((a.size : Int) == 56) = true := by simp; omega
  have cP := kp (fun w' => Try.strings_HasPrefix a ask w')
  unfold preB at hp
  rw [hp] at cP
  have cR := kp (fun w' => Right_any key (a.extract 0 40) (a.extract 40 56) hk (by rw [ByteArray.size_extract]; omega) (by rw [ByteArray.size_extract]; omega) w')
  unfold macB at hm
  rw [hm] at cR
  clear hp hm
  have cT2 := kp (fun w' => octet_Take_any ((a.extract 0 40).extract 24 32) w' (by rw [ByteArray.size_extract, ByteArray.size_extract]; omega))
  have cT3 := kp (fun w' => octet_Take_any ((a.extract 0 40).extract 32 40) w' (by rw [ByteArray.size_extract, ByteArray.size_extract]; omega))
  have cN := kp (fun w' => V_Round t1 (mo a 24 32) (mo a 32 40) now r h1 (mo_64 a 24 32) (mo_64 a 32 40) h4 w')
  obtain ⟨so, sd, sb, hS⟩ := rndS_sm t1 (mo a 24 32) (mo a 32 40) now r
  rw [hS] at cN ⊢
  clear hS
  generalize rndE t1 (mo a 24 32) (mo a 32 40) now r = ER at *
  unfold mo at cN
  generalize (takeN (bs ((a.extract 0 40).extract 24 32)) : Int) = N2 at *
  generalize (takeN (bs ((a.extract 0 40).extract 32 40)) : Int) = N3 at *
  clear h1 h4 hr1
  go_enter Try.func22, Try.ntmps22
  go_upto_region 1 with (fail)
  change Code.wp _ _ _ _ (w.alloc (.cells (smC 0 0 0).toArray 23))
  generalize w.alloc (.cells (smC 0 0 0).toArray 23) = W at hV hF H6 S0 cO ⊢
  have S0 := S0.out
  have x3 := hV.out.blk.atL (show (vlL key r g ask t1)[3]? = some (.string ask) from rfl)
  have x0 := hV.out.blk.atL (show (vlL key r g ask t1)[0]? = some (.string key) from rfl)
  have kl := hV.out.blk.lt
  go_upto_region 7 with (first | (go_at_call 24; refine cO.out.mono ?_; rintro e w1 ⟨rfl, rfl⟩) | (go_at_call 52; refine (cP.out _).mono ?_; rintro e w2 ⟨rfl, rfl⟩) | (refine wpL_store rfl 23 _ _ rfl rfl rfl S0 ?_))
  refine wp_region_ext [0, 1, 2, 3, 4] [5] (by kernel_rfl) (by kernel_rfl) ?_
  simp only [List.map_cons, List.map_nil, List.getD_cons_succ, List.getD_cons_zero]
  repeat (go_big_quiet_step (fail))
  refine wpQuiet_nil ?_
  rintro z
  have hbz := ext_below w2 z
  have hV := kp (hV.out.bel hbz)
  have hF := kp (hF.out.trans (VFr.of_bel hbz))
  have H6 := kp (H6.out.bel hbz)
  clear hbz S0 x3 x0 kl
  generalize World.ext w2 z = V at hV hF H6 ⊢
  have S0 := st_same (P := Try.prog) w.heap.size 3 23 _ _ info_sm rfl H6.out (smC_one 0 0 0)
  have x3 := hV.out.blk.atL (show (vlL key r g ask t1)[3]? = some (.string ask) from rfl)
  have x0 := hV.out.blk.atL (show (vlL key r g ask t1)[0]? = some (.string key) from rfl)
  have kl := hV.out.blk.lt
  go_upto_region 10 with (go_at_call 53; refine (cR.out _).mono ?_; rintro e w3 ⟨rfl, hb3⟩)
  clear S0 x3 x0 kl
  have hV := kp (hV.out.bel hb3)
  have hF := kp (hF.out.trans (VFr.of_bel hb3))
  have H6 := kp (H6.out.bel hb3)
  have x3 := hV.out.blk.atL (show (vlL key r g ask t1)[3]? = some (.string ask) from rfl)
  have fz := hV.out.blk.frozen 3
  have kl := hV.out.blk.lt
  go_upto_region 11 with (fail)
  clear x3 fz kl hb3
  have n6 : w.heap.size ≠ b := N6.out
  have HV : Kp (Vo (w3.setCell ⟨b, 3, none⟩ (.string ⟨#[]⟩)) b g key r n L ⟨#[]⟩ t1) := kp ⟨hV.out.blk.setL 3 (.string ⟨#[]⟩), hV.out.drw.far (p := ⟨b, 3, none⟩) (Ne.symm hV.out.ne) _⟩
  have hF := kp (hF.out.trans (VFr.of_grownB (gbset w3 b 3 (.string ⟨#[]⟩))))
  have H6 := kp (H6.out.far (p := ⟨b, 3, none⟩) n6 (.string ⟨#[]⟩))
  generalize w3.setCell ⟨b, 3, none⟩ (.string ⟨#[]⟩) = W11 at HV hF H6 ⊢
  go_upto_region 13 with (first | (go_at_call 54; with_reducible refine (cT2.out _).mono ?_; rintro e w4 ⟨rfl, rfl⟩) | (go_at_call 54; with_reducible refine (cT3.out _).mono ?_; rintro e w5 ⟨rfl, rfl⟩))
  have y4 := HV.out.blk.atL (show (vlL key r g ⟨#[]⟩ t1)[4]? = some (.int .i64 t1) from rfl)
  have y1 := HV.out.blk.atL (show (vlL key r g ⟨#[]⟩ t1)[1]? = some (.int .i64 r) from rfl)
  have kl := HV.out.blk.lt
  refine wp_region_ext [0, 1, 2, 3, 4, 5, 6, 7, 8, 9, 10, 11, 12, 13, 14, 15] [16, 17] (by kernel_rfl) (by kernel_rfl) ?_
  simp only [List.map_cons, List.map_nil, List.getD_cons_succ, List.getD_cons_zero]
  repeat (go_big_quiet_step (first | (go_at_call 12; with_reducible exact Calls.ext_of (cN.out _))))
  refine wpQuiet_nil ?_
  rintro z
  clear y4 y1 kl
  have hbz := ext_below W11 z
  have HV := kp (HV.out.bel hbz)
  have hF := kp (hF.out.trans (VFr.of_bel hbz))
  have H6 := kp (H6.out.bel hbz)
  clear hbz
  generalize World.ext W11 z = V2 at HV hF H6 ⊢
  have S1 := st_all (P := Try.prog) w.heap.size 3 23 _ (smC so sd sb) (smC 0 0 0) info_sm rfl rfl H6.out (smC_one _ _ _)
  have HX := kp (H6.out.row (smC so sd sb).toArray)
  have HVX : Kp (Vo (V2.setRow w.heap.size (smC so sd sb).toArray) b g key r n L ⟨#[]⟩ t1) := kp ⟨HV.out.blk.rowfar (Ne.symm n6) _, HV.out.drw.kept (gbrow V2 w.heap.size _) (by have := G6.out; simp; omega)⟩
  have HFX : Kp (VFr b g w (V2.setRow w.heap.size (smC so sd sb).toArray)) := kp ⟨hF.out.os, hF.out.tape, hF.out.output, Nat.le_trans hF.out.size (gbrow V2 w.heap.size (smC so sd sb).toArray).size, fun k hk k1 k2 => ((gbrow V2 w.heap.size (smC so sd sb).toArray).block k (Nat.lt_of_lt_of_le hk hF.out.size) (by simp; omega)).trans (hF.out.block k hk k1 k2)⟩
  generalize V2.setRow w.heap.size (smC so sd sb).toArray = W14 at S1 HX HVX HFX
  go_wp2_with (refine wpL_store rfl 23 _ _ rfl rfl rfl S1 ?_)
  refine bodyPost_ret (v := .tuple #[.agg (smC so sd sb).toArray, .int .i64 ER]) ?_ rfl ⟨rfl, HVX.out, HFX.out⟩
  exact res2 Try.results22 w.heap.size 3 _ _ _ Try.underlying23 rfl info_sm rfl HX.out _ rfl _ rfl
end Go.Proofs.Ytkknnnkbegigeaa
