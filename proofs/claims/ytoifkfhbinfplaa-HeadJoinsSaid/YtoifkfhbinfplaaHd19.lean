/- head: the reference's Read, its loop. Printed by genhd19.py. -/
import Derived.Test.YtoifkfhbinfplaaHd18
namespace Go.Proofs.Ytoifkfhbinfplaa
open Go Go.RowKit
set_option linter.unusedVariables false
set_option linter.unusedSimpArgs false
attribute [local go_sem] bmax2 bmin2 bmax bmin cell_ext frozen_ext

def intN : Value → Nat | .int _ z => z.toNat | _ => 0
set_option maxHeartbeats 8000000 in
set_option maxRecDepth 100000 in
theorem R_Read_good (s : ByteArray) (hs : 48 ≤ s.size) (hs2 : s.size ≤ 500000) (hm : (hdOf (s.extract 0 48)).may = true) (R : List Fd × Int) (hR : rdF 17 [] (s.extract 48 s.size) = R) (w : World) :
    Calls Try.prog 20 #[.string s] w fun e w' => ReadP w (if R.2 = 0 then hdOf (s.extract 0 48) else zeroH) (if R.2 = 0 then R.1 else []) R.2 e w' := by
  have g : decide ((s.size : Int) < 48) = false := by simp; omega
  have cT : Kp (∀ w', Calls Try.prog 15 #[.string (s.extract 0 48)] w' fun e w'' => e = .returned (.tuple #[.agg (hdOf (s.extract 0 48)).cells.toArray, .int .i64 0]) ∧ Below w'.heap.size w' w'') := kp (fun w' => by
    have h := R_Take_48 (s.extract 0 48) (by simp; omega) w'
    rw [hm] at h
    exact h)
  have HBH : Kp (bs (s.extract 0 48) = (hdOf (s.extract 0 48)).bytes) := kp (bytes_hdOf _ (by simp; omega)).symm
  have hok := hdOf_ok (s.extract 0 48)
  have HB := kp (ba (Below.refl w.heap.size w) (.cells zeroH.cells.toArray 26))
  have HN := kp (Blk.new w 26 zeroH.cells.toArray)
  have HZL : Kp (zeroH.cells.length = 13) := kp rfl
  have HZO := kp zero_one
  have HBZ := kp build_zero
  obtain ⟨Z, hZ⟩ : ∃ Z, zeroH.cells = Z := ⟨_, rfl⟩
  have HZZ := kp hZ
  rw [hZ] at HZL HZO HBZ
  generalize hdOf (s.extract 0 48) = H at *
  have HHL : Kp (H.cells.length = 13) := kp rfl
  have HHO : Kp (∀ v ∈ H.cells, v.oneCell' = true) := kp (by intro v hv; simp [Hd.cells] at hv; rcases hv with rfl | rfl | rfl | rfl | rfl | rfl | rfl | rfl | rfl | rfl | rfl | rfl | rfl <;> rfl)
  have cWr : Kp (∀ (ad : Option Addr) (c : Nat) (l : List Fd) (w' : World), (bodyL l).length ≤ 1048576 → FS w' ad l → Calls Try.prog 22 #[.agg H.cells.toArray, .slice ad l.length c] w' fun e w'' => e = .returned (.tuple #[.string (str (writeL H l).1), .int .i64 (writeL H l).2]) ∧ Below w'.heap.size w' w'') := kp (fun ad c l w' h1 h2 => R_Write H hok ad c l w' h1 h2)
  obtain ⟨N, hN⟩ : ∃ N, H.cells = N := ⟨_, rfl⟩
  have HNN := kp hN
  rw [hN] at HHL HHO cT cWr
  clear hN
  have zs : (s.extract 48 s.size).size = s.size - 48 := by simp
  have HR0 := kp hR
  clear hR
  go_enter Try.func20, Try.ntmps20
  go_upto_region 1 with (fail)
  generalize hW : w.alloc _ = W
  have HB : Kp (Below w.heap.size w W) := kp (by rw [← hW]; exact HB.out)
  have HN : Kp (Blk W w.heap.size 26 Z.toArray) := kp (by rw [← hW, ← hZ]; exact HN.out)
  clear hW hZ
  go_wp2_with fail
  refine (cT.out _).mono ?_
  rintro e w1 ⟨rfl, hb1⟩
  have HNX := kp (HN.out.bel hb1)
  have HN := HNX
  have HB := kp (bt' HB.out hb1 HB.out.size)
  clear hb1
  have hzl := HZL.out
  have hnl := HHL.out
  have HN5 := kp (Blk.new w1 26 Z.toArray)
  have HN := kp (HN.out.alloc (.cells Z.toArray 26))
  have HB := kp (HB.out.alloc HB.out.size (.cells Z.toArray 26))
  have SC5 := sc_all (P := Try.prog) (w := w1.alloc (.cells Z.toArray 26)) w1.heap.size 26 N _ HN5.out (by rw [hnl, hzl]) HHO.out
  have hlt : w.heap.size < w1.heap.size := by have := HNX.out.lt; exact this
  have HB := kp (bsr HB.out (b := w1.heap.size) (Nat.le_of_lt hlt) HB.out.size N.toArray)
  have HN := kp (HN.out.rowfar (b := w1.heap.size) (Nat.ne_of_lt hlt) N.toArray)
  have H5 := kp (HN5.out.row N.toArray)
  clear HNX
  go_upto_region 6 with (refine wpL_make 5 rfl rfl (.pointer (some ⟨w1.heap.size, 0, none⟩)) (w' := w1.alloc (.cells Z.toArray 26)) (by rw [← HZZ.out]; kernel_rfl) ?_)
  clear SC5 HN5
  generalize (w1.alloc (.cells Z.toArray 26)).setRow w1.heap.size N.toArray = Y at HB HN H5 ⊢
  generalize hb5 : w1.heap.size = b5 at hlt H5 ⊢
  clear hb5
  have h5Y := H5.out.lt
  have HFO : Kp (Fo Y.heap.size (Y.alloc (.cells #[] 48)) (some ⟨Y.heap.size, 0, none⟩) [] 0) := kp (World.ownsRow_lit Y #[] 0 (Nat.le_refl _) (by unfold maxLen; omega) rfl)
  have HBY := kp ((Below.refl Y.heap.size Y).alloc (Nat.le_refl _) (.cells #[] 48))
  go_wp2
  go_loopw [7, 8] (fun sl st wr => ∃ (ad : Option Addr) (c : Nat) (a : List Fd) (at_ : Nat), sl = .slice ad a.length c ∧ st = .int .i64 (at_ : Int) ∧ a.length ≤ 16 ∧ 48 ≤ at_ ∧ at_ ≤ s.size ∧ Kp (Fo Y.heap.size wr ad a c) ∧ Kp (Below Y.heap.size Y wr) ∧ Kp (rdF (17 - a.length) a (s.extract at_ s.size) = R) ∧ Kp (a.all Fd.right = true) ∧ Kp (bs (s.extract 0 at_) = H.bytes ++ bodyL a)) (fun sl _ _ => 17 - lenS sl)
  case atStart => exact ⟨some ⟨Y.heap.size, 0, none⟩, 0, [], 48, rfl, rfl, by simp, by omega, by omega, HFO, HBY, HR0, kp rfl, kp (by rw [HBH.out]; simp [bodyL])⟩
  case round =>
    clear HFO HR0 zs HBY
    obtain ⟨ad, c, a, at_, rfl, rfl, ha, hat, hat2, HFO, HBY, HR, HAL, HPR⟩ := hrel
    have hltY : w.heap.size < Y.heap.size := Nat.lt_trans hlt h5Y
    have HNr := kp (HN.out.below HBY.out hltY)
    have H5r := kp (H5.out.below HBY.out h5Y)
    have HBr := kp (HB.out.trans (HBY.out.mono HB.out.size))
    have hN1 := HNr.out.lt
    have hN5 := H5r.out.lt
    have hnz := HNN.out
    obtain ⟨r, hr⟩ : ∃ r, s.extract at_ s.size = r := ⟨_, rfl⟩
    have zr : r.size = s.size - at_ := by rw [← hr]; simp
    have HRR := kp hr
    rw [hr] at HR
    clear hr
    obtain ⟨q, hq⟩ : ∃ q, 17 - a.length = q + 1 := ⟨16 - a.length, by omega⟩
    have hR := HR.out
    rw [hq] at hR
    unfold rdF at hR
    by_cases h0 : at_ < s.size
    · have g0 : decide ((at_ : Int) < (s.size : Int)) = true := by simp; omega
      rw [if_neg (by omega)] at hR
      by_cases h16 : a.length = 16
      · have g16 : ((a.length : Int) == 16) = true := by simp; omega
        rw [if_pos h16] at hR
        subst hR
        have SC := sc_all (P := Try.prog) (w := wr) w.heap.size 26 Z _ HNr.out rfl HZO.out
        have HRr := kp (HNr.out.row Z.toArray)
        have HBE := kp (bsr HBr.out (b := w.heap.size) (Nat.le_refl _) HBr.out.size Z.toArray)
        go_wp2_with (refine wpL_val 34 rfl rfl (.agg Z.toArray) (exec_build (parts := #[]) rfl (by simp) (HBZ.out _)) ?_)
        refine bodyPost_ret (v := .tuple #[.agg Z.toArray, .slice none 0 0, .int .i64 4]) ?_ rfl (ReadP.mk none 0 (by rw [HZZ.out]; rfl) FS.nil HBE.out)
        exact res3 Try.results20 w.heap.size 13 _ Z _ Try.underlying26 rfl info_head hzl HRr.out _ rfl _ _ rfl rfl
      · have g16 : ((a.length : Int) == 16) = false := by simp; omega
        rw [if_neg h16] at hR
        have HR := kp hR
        clear hR
        by_cases h4 : s.size < at_ + 4
        · have g4 : decide ((s.size : Int) < (at_ : Int) + 4) = true := by simp; omega
          have hR := HR.out
          rw [one_bad r (Or.inl (by omega)), if_neg (by simp)] at hR
          subst hR
          have SC := sc_all (P := Try.prog) (w := wr) w.heap.size 26 Z _ HNr.out rfl HZO.out
          have HRr := kp (HNr.out.row Z.toArray)
          have HBE := kp (bsr HBr.out (b := w.heap.size) (Nat.le_refl _) HBr.out.size Z.toArray)
          go_wp2_with (refine wpL_val 40 rfl rfl (.agg Z.toArray) (exec_build (parts := #[]) rfl (by simp) (HBZ.out _)) ?_)
          refine bodyPost_ret (v := .tuple #[.agg Z.toArray, .slice none 0 0, .int .i64 2]) ?_ rfl (ReadP.mk none 0 (by rw [HZZ.out]; rfl) FS.nil HBE.out)
          exact res3 Try.results20 w.heap.size 13 _ Z _ Try.underlying26 rfl info_head hzl HRr.out _ rfl _ _ rfl rfl
        · have g4 : decide ((s.size : Int) < (at_ : Int) + 4) = false := by simp; omega
          have hr4 : 4 ≤ r.size := by omega
          have nN : oneN r < 65536 := (two_bytes r 2 (by omega)).1
          have cN : Kp (∀ w', Calls Try.prog 34 #[.string s, .int .i64 ((at_ : Int) + 2), .int .i64 2] w' fun e w'' => e = .returned (.int .u64 (oneN r : Int)) ∧ w' = w'') := kp (fun w' => by
            have h := R_num s (at_ + 2) 2 (by omega) (by decide) (by omega) w'
            rw [show s.extract (at_ + 2) (at_ + 2 + 2) = r.extract 2 4 by rw [← HRR.out, extract_mid s at_ 2 4 (by omega)]] at h
            exact h)
          have cK : Kp (∀ w', Calls Try.prog 34 #[.string s, .int .i64 (at_ : Int), .int .i64 2] w' fun e w'' => e = .returned (.int .u64 (oneK r : Int)) ∧ w' = w'') := kp (fun w' => by
            have h := R_num s at_ 2 (by omega) (by decide) (by omega) w'
            rw [show s.extract at_ (at_ + 2) = r.extract 0 2 by rw [← HRR.out, extract_mid s at_ 0 2 (by omega)]; rfl] at h
            exact h)
          by_cases hn4 : oneN r < 4
          · have g5 : decide ((oneN r : Int) < 4) = true := by simp; omega
            have hR := HR.out
            rw [one_bad r (Or.inr (Or.inl hn4)), if_neg (by simp)] at hR
            subst hR
            go_wp2_with fail
            refine (cN.out _).mono ?_
            rintro e w3 ⟨rfl, rfl⟩
            have SC := sc_all (P := Try.prog) (w := wr) w.heap.size 26 Z _ HNr.out rfl HZO.out
            have HRr := kp (HNr.out.row Z.toArray)
            have HBE := kp (bsr HBr.out (b := w.heap.size) (Nat.le_refl _) HBr.out.size Z.toArray)
            go_wp2_with (refine wpL_val 56 rfl rfl (.agg Z.toArray) (exec_build (parts := #[]) rfl (by simp) (HBZ.out _)) ?_)
            refine bodyPost_ret (v := .tuple #[.agg Z.toArray, .slice none 0 0, .int .i64 2]) ?_ rfl (ReadP.mk none 0 (by rw [HZZ.out]; rfl) FS.nil HBE.out)
            exact res3 Try.results20 w.heap.size 13 _ Z _ Try.underlying26 rfl info_head hzl HRr.out _ rfl _ _ rfl rfl
          · have g5 : decide ((oneN r : Int) < 4) = false := by simp; omega
            by_cases hn6 : s.size < at_ + oneN r
            · have g6 : decide ((s.size : Int) < (at_ : Int) + (oneN r : Int)) = true := by simp; omega
              have hR := HR.out
              rw [one_bad r (Or.inr (Or.inr (Or.inr (by omega)))), if_neg (by simp)] at hR
              subst hR
              go_wp2_with fail
              refine (cN.out _).mono ?_
              rintro e w3 ⟨rfl, rfl⟩
              have SC := sc_all (P := Try.prog) (w := wr) w.heap.size 26 Z _ HNr.out rfl HZO.out
              have HRr := kp (HNr.out.row Z.toArray)
              have HBE := kp (bsr HBr.out (b := w.heap.size) (Nat.le_refl _) HBr.out.size Z.toArray)
              go_wp2_with (refine wpL_val 56 rfl rfl (.agg Z.toArray) (exec_build (parts := #[]) rfl (by simp) (HBZ.out _)) ?_)
              refine bodyPost_ret (v := .tuple #[.agg Z.toArray, .slice none 0 0, .int .i64 2]) ?_ rfl (ReadP.mk none 0 (by rw [HZZ.out]; rfl) FS.nil HBE.out)
              exact res3 Try.results20 w.heap.size 13 _ Z _ Try.underlying26 rfl info_head hzl HRr.out _ rfl _ _ rfl rfl
            · have g6 : decide ((s.size : Int) < (at_ : Int) + (oneN r : Int)) = false := by simp; omega
              have hn4' : 4 ≤ oneN r := by omega
              have hn6' : oneN r ≤ r.size := by omega
              have HF0 := kp (show fdOf r = ⟨oneK r, oneD r⟩ from rfl)
              have hsl := fun W => slice_str (P := Try.prog) 9 Try.underlying9 s (at_ + 4) (at_ + oneN r) ((at_ : Int) + 4) ((at_ : Int) + (oneN r : Int)) (by omega) (by omega) (by omega) (by omega) W
              have hD : s.extract (at_ + 4) (at_ + oneN r) = oneD r := by unfold oneD; rw [← HRR.out, extract_mid s at_ 4 _ (by rw [← zr]; rw [HRR.out]; exact hn6')]
              rw [hD] at hsl
              have nK : oneK r < 65536 := (two_bytes r 0 (by omega)).1
              have hbl : (bodyL (a ++ [fdOf r])).length ≤ 1048576 := by
                have h1 := congrArg List.length HPR.out
                rw [size_bs, ByteArray.size_extract, List.length_append] at h1
                have h2 : (oneD r).size ≤ r.size := by unfold oneD; rw [ByteArray.size_extract]; omega
                have h3 := (fdOf r).len
                have h4 := padN_lt (fdOf r).d.size 4 (by decide)
                have h5 : (fdOf r).d = oneD r := rfl
                rw [bodyL_append, bodyL_one, List.length_append, h3]
                rw [h5] at h4 ⊢
                omega
              have cW : Kp (∀ (g' c' : Nat) (w' : World), FS w' (some ⟨g', 0, none⟩) (a ++ [fdOf r]) → Calls Try.prog 22 #[.agg N.toArray, .slice (some ⟨g', 0, none⟩) (a.length + 1) c'] w' fun e w'' => e = .returned (.tuple #[.string (str (writeL H (a ++ [fdOf r])).1), .int .i64 (writeL H (a ++ [fdOf r])).2]) ∧ Below w'.heap.size w' w'') := kp (fun g' c' w' hf => by
                have h := cWr.out (some ⟨g', 0, none⟩) c' (a ++ [fdOf r]) w' hbl hf
                rw [List.length_append] at h
                exact h)
              have HWL : Kp (writeL H (a ++ [fdOf r]) = if (fdOf r).right = true then (H.bytes ++ bodyL a ++ (fdOf r).bytes, 0) else ([], 2)) := kp (by
                unfold writeL
                rw [hm, Bool.true_and, List.all_append, HAL.out, Bool.true_and, if_pos (show (a ++ [fdOf r]).length ≤ 16 by rw [List.length_append]; show a.length + 1 ≤ 16; omega), bodyL_append, bodyL_one, List.append_assoc]
                simp only [List.all_cons, List.all_nil, Bool.and_true])
              go_wp2_with fail
              refine (cN.out _).mono ?_
              rintro e w3 ⟨rfl, rfl⟩
              go_upto_region 16 with (fail)
              refine wp_region_plan_lit (C := fun w' => ∃ x, w' = wr.ext x) [0, 1, 2, 5, 6, 7, 8, 9, 10, 11] [3, 4, 12] [13, 14, 15] (by kernel_rfl) (by kernel_rfl) (by intro c a d v w h; cases d <;> exact h) ⟨wr.drew, (ext_of (Below.refl _ _).drew).symm⟩ ?_
              simp only [List.append_eq, List.cons_append, List.nil_append, List.map_cons, List.map_nil, List.getD_cons_succ, List.getD_cons_zero]
              repeat (go_big_quiet_step (fail))
              refine wpQuiet_nil ?_
              repeat (go_big_quiet_step (
                (go_at_call 34; with_reducible exact Calls.ext_same (cK.out _))))
              refine wpQuiet_nil ?_
              rintro _ ⟨z, rfl⟩
              have HNr := kp (HNr.out.bel (ext_below wr z))
              have H5r := kp (H5r.out.bel (ext_below wr z))
              have HBr := kp (bt' HBr.out (ext_below wr z) HBr.out.size)
              have HBY := kp (bt' HBY.out (ext_below wr z) HBY.out.size)
              have HFO := kp (HFO.out.bel (ext_below wr z))
              clear hN1 hN5 hsl
              generalize wr.ext z = W9 at HNr H5r HBr HBY HFO ⊢
              have HFD := kp (show (fdOf r).k = (oneK r : Int) from rfl)
              have HFD2 := kp (show (fdOf r).d = oneD r from rfl)
              have W1 := kp (one_wrong r hr4 hn4' hn6')
              have W2 := kp (one_yes r hr4 hn4' hn6')
              generalize fdOf r = fd at *
              have hkl := ba (Below.refl W9.heap.size W9) (.cells #[.int .i64 (oneK r : Int), .string (oneD r)] 48)
              have hkn := Blk.new W9 48 #[.int .i64 (oneK r : Int), .string (oneD r)]
              obtain ⟨g', c', Y', hr', hT, hS, hB⟩ := Fo.append (c1 := 1) (HFO.out.bel hkl) (by omega) [fd] (by simp) (by simp) (show HoldsF _ W9.heap.size 0 [fd] from fun i f' hf' => by
                cases i with
                | zero => simp only [List.getElem?_cons_zero, Option.some.injEq] at hf'; subst hf'; rw [HFD.out, HFD2.out]; exact ⟨hkn.at rfl, hkn.at rfl⟩
                | succ i => simp at hf') (bt' HBY.out hkl HBY.out.size).size
              have HB4 : Kp (Below Y.heap.size Y Y') := kp ((bt' HBY.out hkl HBY.out.size).grown hS (bt' HBY.out hkl HBY.out.size).size (fun x hx => (HFO.out.lt hx).1))
              have HT := kp hT
              clear hT hS hB hkn hkl
              have HNr := kp (HN.out.below HB4.out hltY)
              have H5r := kp (H5.out.below HB4.out h5Y)
              have HBr := kp (HB.out.trans (HB4.out.mono HB.out.size))
              have L5 := ld_all (P := Try.prog) b5 13 26 26 N _ Try.underlying26 rfl info_head hnl H5r.out
              go_wp2_with (first | (refine wpL_load rfl 26 _ rfl rfl L5 ?_) | (refine wpL_make 70 rfl rfl (.slice (some ⟨W9.heap.size, 0, none⟩) 1 1) (exec_buildSlice (parts := #[(0, .agg #[.int .i64 (oneK r : Int), .string (oneD r)])]) rfl (by simp [Act.eval, Act.put]) (slice_field _ _ _)) ?_) | (refine wpL_append 71 rfl rfl _ _ 35 rfl rfl rfl hr' ?_))
              refine (cW.out g' c' Y' HT.out.fs).mono ?_
              rintro e wr ⟨rfl, hb4⟩
              have HNr := kp (HNr.out.bel hb4)
              have H5r := kp (H5r.out.bel hb4)
              have HBr := kp (bt' HBr.out hb4 HBr.out.size)
              have HBY := kp (bt' HB4.out hb4 HB4.out.size)
              have HFO := kp (HT.out.bel hb4)
              clear hb4 L5 hr'
              have hN1 := HNr.out.lt
              have hN5 := H5r.out.lt
              have hwl := HWL.out
              cases hfr : fd.right with
              | false =>
                rw [hfr, if_neg (by simp)] at hwl
                rw [hwl]
                have hR := HR.out
                rw [W1.out hfr, if_neg (by simp)] at hR
                subst hR
                have SC := sc_all (P := Try.prog) (w := wr) w.heap.size 26 Z _ HNr.out rfl HZO.out
                have HRr := kp (HNr.out.row Z.toArray)
                have HBE := kp (bsr HBr.out (b := w.heap.size) (Nat.le_refl _) HBr.out.size Z.toArray)
                go_wp2_with (refine wpL_val 95 rfl rfl (.agg Z.toArray) (exec_build (parts := #[]) rfl (by simp) (HBZ.out _)) ?_)
                refine bodyPost_ret (v := .tuple #[.agg Z.toArray, .slice none 0 0, .int .i64 2]) ?_ rfl (ReadP.mk none 0 (by rw [HZZ.out]; rfl) FS.nil HBE.out)
                exact res3 Try.results20 w.heap.size 13 _ Z _ Try.underlying26 rfl info_head hzl HRr.out _ rfl _ _ rfl rfl
              | true =>
                rw [hfr, if_pos rfl] at hwl
                rw [hwl]
                obtain ⟨w21, w22, w23⟩ := W2.out hfr
                have hci := cut_iff s at_ (H.bytes ++ bodyL a) fd.bytes HPR.out
                rw [HRR.out] at hci
                have hUs : (str (H.bytes ++ bodyL a ++ fd.bytes)).size = at_ + fd.bytes.length := by
                  rw [str_size, List.length_append, ← HPR.out, size_bs, ByteArray.size_extract]
                  omega
                have hR := HR.out
                rw [w21, w22] at hR
                have HR := kp hR
                clear hR
                have HUU : Kp (str (H.bytes ++ bodyL a ++ fd.bytes) = str (H.bytes ++ bodyL (a ++ [fd]))) := kp (by rw [bodyL_append, bodyL_one, List.append_assoc])
                generalize str (H.bytes ++ bodyL a ++ fd.bytes) = U at *
                have HUS := kp hUs
                clear hUs
                by_cases hsz : s.size < U.size
                · have g7 : decide ((s.size : Int) < (U.size : Int)) = true := by simp; omega
                  have hno : Lib.hasPrefix (bs r) fd.bytes = false := by
                    rw [Bool.eq_false_iff]
                    intro hh
                    have := (hci.2 hh).1
                    omega
                  have hR := HR.out
                  rw [hno, if_neg (by simp)] at hR
                  subst hR
                  have SC := sc_all (P := Try.prog) (w := wr) w.heap.size 26 Z _ HNr.out rfl HZO.out
                  have HRr := kp (HNr.out.row Z.toArray)
                  have HBE := kp (bsr HBr.out (b := w.heap.size) (Nat.le_refl _) HBr.out.size Z.toArray)
                  go_wp2_with (refine wpL_val 95 rfl rfl (.agg Z.toArray) (exec_build (parts := #[]) rfl (by simp) (HBZ.out _)) ?_)
                  refine bodyPost_ret (v := .tuple #[.agg Z.toArray, .slice none 0 0, .int .i64 2]) ?_ rfl (ReadP.mk none 0 (by rw [HZZ.out]; rfl) FS.nil HBE.out)
                  exact res3 Try.results20 w.heap.size 13 _ Z _ Try.underlying26 rfl info_head hzl HRr.out _ rfl _ _ rfl rfl
                · have g7 : decide ((s.size : Int) < (U.size : Int)) = false := by simp; omega
                  have hsl2 := fun W => slice_to (P := Try.prog) 9 Try.underlying9 s U.size (U.size : Int) rfl (by omega) W
                  by_cases heq : s.extract 0 U.size = U
                  · have hyes := hci.1 ⟨by omega, heq⟩
                    have hR := HR.out
                    rw [hyes, if_pos rfl, w23 hyes] at hR
                    have g8 : (U.toList == U.toList) = true := by simp
                    have hL : s.extract U.size s.size = r.extract fd.bytes.length r.size := by rw [← HRR.out, extract_to s at_ _ hat2, ← HUS.out]
                    rw [heq] at hsl2
                    have HEX : Kp (bs (s.extract 0 U.size) = H.bytes ++ bodyL (a ++ [fd])) := kp (by rw [heq, HUU.out, bs_str])
                    have HRE : Kp (rdF (17 - (a ++ [fd]).length) (a ++ [fd]) (s.extract U.size s.size) = R) := kp (by
                      rw [hL, ← hR, List.length_append]
                      show rdF (17 - (a.length + 1)) _ _ = _
                      congr 1
                      omega)
                    have HAE : Kp ((a ++ [fd]).all Fd.right = true) := kp (by rw [List.all_append, HAL.out]; simp [hfr])
                    go_wp2
                    go_roundw
                    case measure => simp [lenS]; omega
                    case rel => exact ⟨some ⟨g', 0, none⟩, c', a ++ [fd], U.size, by rw [List.length_append]; rfl, rfl, by rw [List.length_append]; show a.length + 1 ≤ 16; omega, by have := HUS.out; omega, by omega, HFO, HBY, HRE, HAE, HEX⟩
                  · have g8 : ((s.extract 0 U.size).toList == U.toList) = false := by rw [toList_beq]; exact decide_eq_false heq
                    have hno : Lib.hasPrefix (bs r) fd.bytes = false := by
                      rw [Bool.eq_false_iff]
                      intro hh
                      exact heq (hci.2 hh).2
                    have hR := HR.out
                    rw [hno, if_neg (by simp)] at hR
                    subst hR
                    have SC := sc_all (P := Try.prog) (w := wr) w.heap.size 26 Z _ HNr.out rfl HZO.out
                    have HRr := kp (HNr.out.row Z.toArray)
                    have HBE := kp (bsr HBr.out (b := w.heap.size) (Nat.le_refl _) HBr.out.size Z.toArray)
                    go_wp2_with (refine wpL_val 95 rfl rfl (.agg Z.toArray) (exec_build (parts := #[]) rfl (by simp) (HBZ.out _)) ?_)
                    refine bodyPost_ret (v := .tuple #[.agg Z.toArray, .slice none 0 0, .int .i64 2]) ?_ rfl (ReadP.mk none 0 (by rw [HZZ.out]; rfl) FS.nil HBE.out)
                    exact res3 Try.results20 w.heap.size 13 _ Z _ Try.underlying26 rfl info_head hzl HRr.out _ rfl _ _ rfl rfl
    · have g0 : decide ((at_ : Int) < (s.size : Int)) = false := by simp; omega
      rw [if_pos (by omega)] at hR
      subst hR
      have L5 := ld_all (P := Try.prog) b5 13 26 26 N _ Try.underlying26 rfl info_head hnl H5r.out
      have SC := sc_all (P := Try.prog) (w := wr) w.heap.size 26 N _ HNr.out (by rw [hnl, hzl]) HHO.out
      have HRr := kp (HNr.out.row N.toArray)
      have HBE := kp (bsr HBr.out (b := w.heap.size) (Nat.le_refl _) HBr.out.size N.toArray)
      have HFE : Kp (FS (wr.setRow w.heap.size N.toArray) ad a) := kp (HFO.out.kept (gbrow wr w.heap.size N.toArray) (by
        cases had : ad with
        | none => exact Or.inl rfl
        | some x =>
          refine Or.inr (fun e => ?_)
          have h1 := (HFO.out.lt (g := x.block) (by rw [had]; rfl)).1
          have e2 : x.block = w.heap.size := by simpa using e
          omega)).fs
      go_wp2_with (refine wpL_load rfl 26 _ rfl rfl L5 ?_)
      refine bodyPost_ret (v := .tuple #[.agg N.toArray, .slice ad a.length c, .int .i64 0]) ?_ rfl (ReadP.mk ad c (by rw [hnz]) HFE.out HBE.out)
      exact res3 Try.results20 w.heap.size 13 _ N _ Try.underlying26 rfl info_head hnl HRr.out _ rfl _ _ rfl rfl
end Go.Proofs.Ytoifkfhbinfplaa
