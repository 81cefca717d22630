/- head: Read. -/
import Derived.Test.YtoifkfhbinfplaaHd15
namespace Go.Proofs.Ytoifkfhbinfplaa
open Go Go.RowKit
set_option linter.unusedVariables false
set_option linter.unusedSimpArgs false
attribute [local go_sem] bmax2 bmin2 bmax bmin cell_ext frozen_ext

def lenS : Value → Nat | .slice _ n _ => n | _ => 0
def ReadP (w : World) (h : Hd) (l : List Fd) (er : Int) (e : Ending) (w' : World) : Prop :=
  (∃ ad c, e = .returned (.tuple #[.agg h.cells.toArray, .slice ad l.length c, .int .i64 er]) ∧ FS w' ad l) ∧ Below w.heap.size w w'
theorem ReadP.mk {w w' : World} {h : Hd} {l : List Fd} {er : Int} {v : Value} (ad : Option Addr) (c : Nat) (hv : v = .tuple #[.agg h.cells.toArray, .slice ad l.length c, .int .i64 er]) (hf : FS w' ad l) (hb : Below w.heap.size w w') : ReadP w h l er (.returned v) w' :=
  ⟨⟨ad, c, by rw [hv], hf⟩, hb⟩
theorem M_Take (s : ByteArray) (hs : s.size = 48) (w : World) : Calls Try.prog 14 #[.string s] w fun e w' => e = .returned (.tuple #[.agg (if (hdOf s).may then (hdOf s).cells else zeroH.cells).toArray, .int .i64 (eB (hdOf s).may)]) ∧ Below w.heap.size w w' :=
  Take_48 s hs w
set_option maxHeartbeats 1000000 in
set_option maxRecDepth 100000 in
theorem M_Read_short (s : ByteArray) (hs : s.size < 48) (w : World) : Calls Try.prog 19 #[.string s] w fun e w' => ReadP w zeroH [] 5 e w' := by
  have g : decide ((s.size : Int) < 48) = true := by simp; omega
  have HB := kp (ba (Below.refl w.heap.size w) (.cells zeroH.cells.toArray 26))
  have HN := kp (Blk.new w 26 zeroH.cells.toArray)
  have HZL : Kp (zeroH.cells.length = 13) := kp rfl
  have HZO := kp zero_one
  have HBZ := kp build_zero
  obtain ⟨Z, hZ⟩ : ∃ Z, zeroH.cells = Z := ⟨_, rfl⟩
  have HZZ := kp hZ
  rw [hZ] at HZL HZO HBZ
  go_enter Try.func19, Try.ntmps19
  go_upto_region 1 with (fail)
  generalize hW : w.alloc _ = W
  have HB : Kp (Below w.heap.size w W) := kp (by rw [← hW]; exact HB.out)
  have HN : Kp (Blk W w.heap.size 26 Z.toArray) := kp (by rw [← hW, ← hZ]; exact HN.out)
  clear hW hZ
  have hzl := HZL.out
  have SC := sc_all (P := Try.prog) (w := W) w.heap.size 26 Z _ HN.out rfl HZO.out
  have HR := kp (HN.out.row Z.toArray)
  have HBE := kp (bsr HB.out (b := w.heap.size) (Nat.le_refl _) HB.out.size Z.toArray)
  go_wp2_with (refine wpL_val 15 rfl rfl (.agg Z.toArray) (exec_build (parts := #[]) rfl (by simp) (HBZ.out _)) ?_)
  refine bodyPost_ret (v := .tuple #[.agg Z.toArray, .slice none 0 0, .int .i64 5]) ?_ rfl (ReadP.mk none 0 (by rw [HZZ.out]; rfl) FS.nil HBE.out)
  exact res3 Try.results19 w.heap.size 13 _ Z _ Try.underlying26 rfl info_head hzl HR.out _ rfl _ _ rfl rfl
set_option maxHeartbeats 1000000 in
set_option maxRecDepth 100000 in
theorem M_Read_bad (s : ByteArray) (hs : 48 ≤ s.size) (hm : (hdOf (s.extract 0 48)).may = false) (w : World) : Calls Try.prog 19 #[.string s] w fun e w' => ReadP w zeroH [] 2 e w' := by
  have g : decide ((s.size : Int) < 48) = false := by simp; omega
  have cT : Kp (∀ w', Calls Try.prog 14 #[.string (s.extract 0 48)] w' fun e w'' => e = .returned (.tuple #[.agg zeroH.cells.toArray, .int .i64 2]) ∧ Below w'.heap.size w' w'') := kp (fun w' => by
    have h := M_Take (s.extract 0 48) (by simp; omega) w'
    rw [hm] at h
    exact h)
  have HB := kp (ba (Below.refl w.heap.size w) (.cells zeroH.cells.toArray 26))
  have HN := kp (Blk.new w 26 zeroH.cells.toArray)
  have HZL : Kp (zeroH.cells.length = 13) := kp rfl
  have HZO := kp zero_one
  have HBZ := kp build_zero
  obtain ⟨Z, hZ⟩ : ∃ Z, zeroH.cells = Z := ⟨_, rfl⟩
  have HZZ := kp hZ
  rw [hZ] at HZL HZO HBZ cT
  go_enter Try.func19, Try.ntmps19
  go_upto_region 1 with (fail)
  generalize hW : w.alloc _ = W
  have HB : Kp (Below w.heap.size w W) := kp (by rw [← hW]; exact HB.out)
  have HN : Kp (Blk W w.heap.size 26 Z.toArray) := kp (by rw [← hW, ← hZ]; exact HN.out)
  clear hW hZ
  go_wp2_with fail
  refine (cT.out _).mono ?_
  rintro e w1 ⟨rfl, hb1⟩
  have HNX := kp (HN.out.bel hb1)
  have HN := HNX
  have HB := kp (bt' HB.out hb1 HB.out.size)
  clear hb1
  have hzl := HZL.out
  have HN5 := kp (Blk.new w1 26 Z.toArray)
  have HN := kp (HN.out.alloc (.cells Z.toArray 26))
  have HB := kp (HB.out.alloc HB.out.size (.cells Z.toArray 26))
  have SC5 := sc_all (P := Try.prog) (w := w1.alloc (.cells Z.toArray 26)) w1.heap.size 26 Z _ HN5.out rfl HZO.out
  have hlt : w.heap.size < w1.heap.size := by have := HNX.out.lt; exact this
  have HB := kp (bsr HB.out (b := w1.heap.size) (Nat.le_of_lt hlt) HB.out.size Z.toArray)
  have HN := kp (HN.out.rowfar (b := w1.heap.size) (Nat.ne_of_lt hlt) Z.toArray)
  go_upto_region 5 with (refine wpL_make 5 rfl rfl (.pointer (some ⟨w1.heap.size, 0, none⟩)) (w' := w1.alloc (.cells Z.toArray 26)) (by rw [← HZZ.out]; kernel_rfl) ?_)
  clear SC5
  generalize (w1.alloc (.cells Z.toArray 26)).setRow w1.heap.size Z.toArray = Y at HB HN ⊢
  have SC := sc_all (P := Try.prog) (w := Y) w.heap.size 26 Z _ HN.out rfl HZO.out
  have HR := kp (HN.out.row Z.toArray)
  have HBE := kp (bsr HB.out (b := w.heap.size) (Nat.le_refl _) HB.out.size Z.toArray)
  go_wp2_with (refine wpL_val 24 rfl rfl (.agg Z.toArray) (exec_build (parts := #[]) rfl (by simp) (HBZ.out _)) ?_)
  refine bodyPost_ret (v := .tuple #[.agg Z.toArray, .slice none 0 0, .int .i64 2]) ?_ rfl (ReadP.mk none 0 (by rw [HZZ.out]; rfl) FS.nil HBE.out)
  exact res3 Try.results19 w.heap.size 13 _ Z _ Try.underlying26 rfl info_head hzl HR.out _ rfl _ _ rfl rfl
set_option maxHeartbeats 4000000 in
set_option maxRecDepth 100000 in
theorem M_Read_good (s : ByteArray) (hs : 48 ≤ s.size) (hs2 : s.size ≤ 1048576) (hm : (hdOf (s.extract 0 48)).may = true) (R : List Fd × Int) (hR : rdF 17 [] (s.extract 48 s.size) = R) (w : World) :
    Calls Try.prog 19 #[.string s] w fun e w' => ReadP w (if R.2 = 0 then hdOf (s.extract 0 48) else zeroH) (if R.2 = 0 then R.1 else []) R.2 e w' := by
  have g : decide ((s.size : Int) < 48) = false := by simp; omega
  have cT : Kp (∀ w', Calls Try.prog 14 #[.string (s.extract 0 48)] w' fun e w'' => e = .returned (.tuple #[.agg (hdOf (s.extract 0 48)).cells.toArray, .int .i64 0]) ∧ Below w'.heap.size w' w'') := kp (fun w' => by
    have h := M_Take (s.extract 0 48) (by simp; omega) w'
    rw [hm] at h
    exact h)
  have HB := kp (ba (Below.refl w.heap.size w) (.cells zeroH.cells.toArray 26))
  have HN := kp (Blk.new w 26 zeroH.cells.toArray)
  have HZL : Kp (zeroH.cells.length = 13) := kp rfl
  have HZO := kp zero_one
  have HBZ := kp build_zero
  obtain ⟨Z, hZ⟩ : ∃ Z, zeroH.cells = Z := ⟨_, rfl⟩
  have HZZ := kp hZ
  rw [hZ] at HZL HZO HBZ
  generalize hdOf (s.extract 0 48) = H at *
  have HHL : Kp (H.cells.length = 13) := kp rfl
  have HHO : Kp (∀ v ∈ H.cells, v.oneCell' = true) := kp (by intro v hv; simp [Hd.cells] at hv; rcases hv with rfl | rfl | rfl | rfl | rfl | rfl | rfl | rfl | rfl | rfl | rfl | rfl | rfl <;> rfl)
  obtain ⟨N, hN⟩ : ∃ N, H.cells = N := ⟨_, rfl⟩
  have HNN := kp hN
  rw [hN] at HHL HHO cT
  clear hN
  have zs : (s.extract 48 s.size).size = s.size - 48 := by simp
  have HR0 := kp hR
  clear hR
  go_enter Try.func19, Try.ntmps19
  go_upto_region 1 with (fail)
  generalize hW : w.alloc _ = W
  have HB : Kp (Below w.heap.size w W) := kp (by rw [← hW]; exact HB.out)
  have HN : Kp (Blk W w.heap.size 26 Z.toArray) := kp (by rw [← hW, ← hZ]; exact HN.out)
  clear hW hZ
  go_wp2_with fail
  refine (cT.out _).mono ?_
  rintro e w1 ⟨rfl, hb1⟩
  have HNX := kp (HN.out.bel hb1)
  have HN := HNX
  have HB := kp (bt' HB.out hb1 HB.out.size)
  clear hb1
  have hzl := HZL.out
  have hnl := HHL.out
  have HN5 := kp (Blk.new w1 26 Z.toArray)
  have HN := kp (HN.out.alloc (.cells Z.toArray 26))
  have HB := kp (HB.out.alloc HB.out.size (.cells Z.toArray 26))
  have SC5 := sc_all (P := Try.prog) (w := w1.alloc (.cells Z.toArray 26)) w1.heap.size 26 N _ HN5.out (by rw [hnl, hzl]) HHO.out
  have hlt : w.heap.size < w1.heap.size := by have := HNX.out.lt; exact this
  have HB := kp (bsr HB.out (b := w1.heap.size) (Nat.le_of_lt hlt) HB.out.size N.toArray)
  have HN := kp (HN.out.rowfar (b := w1.heap.size) (Nat.ne_of_lt hlt) N.toArray)
  have H5 := kp (HN5.out.row N.toArray)
  clear HNX
  go_upto_region 6 with (refine wpL_make 5 rfl rfl (.pointer (some ⟨w1.heap.size, 0, none⟩)) (w' := w1.alloc (.cells Z.toArray 26)) (by rw [← HZZ.out]; kernel_rfl) ?_)
  clear SC5 HN5
  generalize (w1.alloc (.cells Z.toArray 26)).setRow w1.heap.size N.toArray = Y at HB HN H5 ⊢
  generalize hb5 : w1.heap.size = b5 at hlt H5 ⊢
  clear hb5
  have h5Y := H5.out.lt
  go_wp2
  have HFO := kp (Fo.nil Y.heap.size Y)
  go_loopw [7, 8] (fun sl st wr => ∃ (ad : Option Addr) (c : Nat) (a : List Fd) (r : ByteArray), sl = .slice ad a.length c ∧ st = .string r ∧ a.length ≤ 16 ∧ r.size ≤ 1048576 ∧ Kp (Fo Y.heap.size wr ad a c) ∧ Kp (Below Y.heap.size Y wr) ∧ Kp (rdF (17 - a.length) a r = R)) (fun sl _ _ => 17 - lenS sl)
  case atStart => exact ⟨none, 0, [], s.extract 48 s.size, rfl, rfl, by simp, by omega, HFO, kp (Below.refl _ _), HR0⟩
  case round =>
    clear HFO HR0 zs
    obtain ⟨ad, c, a, r, rfl, rfl, ha, hr, HFO, HBY, HR⟩ := hrel
    have hltY : w.heap.size < Y.heap.size := Nat.lt_trans hlt h5Y
    have HNr := kp (HN.out.below HBY.out hltY)
    have H5r := kp (H5.out.below HBY.out h5Y)
    have HBr := kp (HB.out.trans (HBY.out.mono HB.out.size))
    have hN1 := HNr.out.lt
    have hN5 := H5r.out.lt
    have hnz := HNN.out
    by_cases h0 : r.size = 0
    · have h00 : (r.toList == []) = true := by
        rw [toList_bs]
        cases hb : bs r with
        | nil => rfl
        | cons x t => rw [← size_bs, hb] at h0; simp at h0
      have hR := HR.out
      obtain ⟨q, hq⟩ : ∃ q, 17 - a.length = q + 1 := ⟨16 - a.length, by omega⟩
      rw [hq] at hR
      unfold rdF at hR
      rw [if_pos h0] at hR
      subst hR
      have L5 := ld_all (P := Try.prog) b5 13 26 26 N _ Try.underlying26 rfl info_head hnl H5r.out
      have SC := sc_all (P := Try.prog) (w := wr) w.heap.size 26 N _ HNr.out (by rw [hnl, hzl]) HHO.out
      have HRr := kp (HNr.out.row N.toArray)
      have HBE := kp (bsr HBr.out (b := w.heap.size) (Nat.le_refl _) HBr.out.size N.toArray)
      have HFE : Kp (FS (wr.setRow w.heap.size N.toArray) ad a) := kp (HFO.out.kept (gbrow wr w.heap.size N.toArray) (by
        cases had : ad with
        | none => exact Or.inl rfl
        | some x =>
          refine Or.inr (fun e => ?_)
          have h1 := (HFO.out.lt (g := x.block) (by rw [had]; rfl)).1
          have e2 : x.block = w.heap.size := by simpa using e
          omega)).fs
      go_wp2_with (refine wpL_load rfl 26 _ rfl rfl L5 ?_)
      refine bodyPost_ret (v := .tuple #[.agg N.toArray, .slice ad a.length c, .int .i64 0]) ?_ rfl (ReadP.mk ad c (by rw [hnz]) HFE.out HBE.out)
      exact res3 Try.results19 w.heap.size 13 _ N _ Try.underlying26 rfl info_head hnl HRr.out _ rfl _ _ rfl rfl
    · have h00 : (r.toList == []) = false := by
        rw [toList_bs]
        cases hb : bs r with
        | nil => rw [← size_bs, hb] at h0; exact absurd rfl h0
        | cons x t => rfl
      by_cases h16 : a.length = 16
      · have g16 : ((a.length : Int) == 16) = true := by simp; omega
        have hR := HR.out
        rw [h16, show 17 - 16 = 0 + 1 from rfl] at hR
        unfold rdF at hR
        rw [if_neg h0, if_pos h16] at hR
        subst hR
        have SC := sc_all (P := Try.prog) (w := wr) w.heap.size 26 Z _ HNr.out rfl HZO.out
        have HRr := kp (HNr.out.row Z.toArray)
        have HBE := kp (bsr HBr.out (b := w.heap.size) (Nat.le_refl _) HBr.out.size Z.toArray)
        go_wp2_with (refine wpL_val 33 rfl rfl (.agg Z.toArray) (exec_build (parts := #[]) rfl (by simp) (HBZ.out _)) ?_)
        refine bodyPost_ret (v := .tuple #[.agg Z.toArray, .slice none 0 0, .int .i64 4]) ?_ rfl (ReadP.mk none 0 (by rw [HZZ.out]; rfl) FS.nil HBE.out)
        exact res3 Try.results19 w.heap.size 13 _ Z _ Try.underlying26 rfl info_head hzl HRr.out _ rfl _ _ rfl rfl
      · have g16 : ((a.length : Int) == 16) = false := by simp; omega
        obtain ⟨q, hq⟩ : ∃ q, 17 - a.length = q + 1 := ⟨16 - a.length, by omega⟩
        have hR := HR.out
        rw [hq] at hR
        unfold rdF at hR
        rw [if_neg h0, if_neg h16] at hR
        have HR := kp hR
        clear hR
        have cO : Kp (∀ w', Calls Try.prog 36 #[.string r] w' fun e w'' => e = .returned (.tuple #[.agg #[.int .i64 (oneF r).k, .string (oneF r).d], .string (oneRest r), .bool (oneIs r)]) ∧ Below w'.heap.size w' w'') := kp (fun w' => M_one r (by omega) w')
        have hrl := oneRest_le r
        obtain ⟨f, hf⟩ : ∃ f, oneF r = f := ⟨_, rfl⟩
        obtain ⟨r2, hr2⟩ : ∃ r2, oneRest r = r2 := ⟨_, rfl⟩
        obtain ⟨p, hp⟩ : ∃ p, oneIs r = p := ⟨_, rfl⟩
        rw [hf, hr2, hp] at cO HR
        rw [hr2] at hrl
        clear hf hr2 hp
        go_wp2_with fail
        refine (cO.out _).mono ?_
        rintro e w3 ⟨rfl, hb3⟩
        have HA := kp (ba hb3 (.cells #[.int .i64 f.k, .string f.d] 48))
        have HNr := kp (HNr.out.bel HA.out)
        have H5r := kp (H5r.out.bel HA.out)
        have HBr := kp (bt' HBr.out HA.out HBr.out.size)
        have HBY := kp (bt' HBY.out HA.out HBY.out.size)
        have HFO := kp (HFO.out.bel HA.out)
        have HF9 := kp (Blk.new w3 48 #[.int .i64 f.k, .string f.d])
        clear hb3 HA hN1 hN5
        cases p with
        | false =>
          have hR := HR.out
          rw [if_neg (by simp)] at hR
          subst hR
          go_upto_region 13 with (fail)
          generalize w3.alloc (.cells #[.int .i64 f.k, .string f.d] 48) = wr at *
          have SC := sc_all (P := Try.prog) (w := wr) w.heap.size 26 Z _ HNr.out rfl HZO.out
          have HRr := kp (HNr.out.row Z.toArray)
          have HBE := kp (bsr HBr.out (b := w.heap.size) (Nat.le_refl _) HBr.out.size Z.toArray)
          go_wp2_with (refine wpL_val 42 rfl rfl (.agg Z.toArray) (exec_build (parts := #[]) rfl (by simp) (HBZ.out _)) ?_)
          refine bodyPost_ret (v := .tuple #[.agg Z.toArray, .slice none 0 0, .int .i64 2]) ?_ rfl (ReadP.mk none 0 (by rw [HZZ.out]; rfl) FS.nil HBE.out)
          exact res3 Try.results19 w.heap.size 13 _ Z _ Try.underlying26 rfl info_head hzl HRr.out _ rfl _ _ rfl rfl
        | true =>
          have hR := HR.out
          rw [if_pos rfl] at hR
          have HR := kp hR
          clear hR
          go_upto_region 14 with (fail)
          have hb9 := HF9.out.lt
          have q0 := HF9.out.at (i := 0) rfl
          have q1 := HF9.out.at (i := 1) rfl
          generalize w3.alloc (.cells #[.int .i64 f.k, .string f.d] 48) = W9 at *
          have hkl := ba (Below.refl W9.heap.size W9) (.cells #[.int .i64 f.k, .string f.d] 48)
          have hkn := Blk.new W9 48 #[.int .i64 f.k, .string f.d]
          obtain ⟨g', c', Y', hr', hT, hS, hB⟩ := Fo.append (c1 := 1) (HFO.out.bel hkl) (by omega) [f] (by simp) (by simp) (show HoldsF _ W9.heap.size 0 [f] from fun i f' hf' => by
            cases i with
            | zero => simp only [List.getElem?_cons_zero, Option.some.injEq] at hf'; subst hf'; exact ⟨hkn.at rfl, hkn.at rfl⟩
            | succ i => simp at hf') (bt' HBY.out hkl HBY.out.size).size
          have HB4 : Kp (Below Y.heap.size Y Y') := kp ((bt' HBY.out hkl HBY.out.size).grown hS (bt' HBY.out hkl HBY.out.size).size (fun x hx => (HFO.out.lt hx).1))
          have HT := kp hT
          clear hT hS hB hkn hkl
          go_wp2_with (first | (refine wpL_make 45 rfl rfl (.slice (some ⟨W9.heap.size, 0, none⟩) 1 1) (exec_buildSlice (parts := #[(0, .agg #[.int .i64 f.k, .string f.d])]) rfl (by simp [Act.eval, Act.put]) (slice_field _ _ _)) ?_) | (refine wpL_append 46 rfl rfl _ _ 35 rfl rfl rfl hr' ?_))
          go_roundw
          case measure => simp [lenS]; omega
          case rel => exact ⟨some ⟨g', 0, none⟩, c', a ++ [f], r2, by rw [List.length_append]; rfl, rfl, by simp; omega, by omega, HT, HB4, kp (by rw [← HR.out]; congr 1; simp; omega)⟩
theorem M_Read (s : ByteArray) (hs : s.size ≤ 1048576) (w : World) : Calls Try.prog 19 #[.string s] w fun e w' => ReadP w (readL s).1 (readL s).2.1 (readL s).2.2 e w' := by
  unfold readL
  by_cases h1 : s.size < 48
  · rw [if_pos h1]
    exact M_Read_short s h1 w
  · rw [if_neg h1]
    cases hm : (hdOf (s.extract 0 48)).may with
    | false =>
      rw [if_neg (by simp)]
      exact M_Read_bad s (by omega) hm w
    | true =>
      rw [if_pos rfl]
      have h := M_Read_good s (by omega) hs hm _ rfl w
      split
      · rename_i h0
        rw [if_pos h0, if_pos h0, h0] at h
        exact h
      · rename_i h0
        rw [if_neg h0, if_neg h0] at h
        exact h
end Go.Proofs.Ytoifkfhbinfplaa
