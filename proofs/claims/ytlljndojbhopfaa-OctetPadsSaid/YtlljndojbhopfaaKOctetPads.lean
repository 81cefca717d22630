/- OctetPads: the walk. -/
import Derived.Test.YtlljndojbhopfaaOct5
namespace Go.Proofs.Ytlljndojbhopfaa
open Go Go.RowKit
set_option linter.unusedVariables false
set_option linter.unusedSimpArgs false
attribute [local go_sem] bmax2 bmin2 bmax bmin

set_option maxRecDepth 100000 in
theorem OctetPads_walk (s : ByteArray) (c : Int) (ws : s.size ≤ maxLen) (wc : (Lit.int .u16 c).wf = true) (w : World) :
    Calls Try.prog 13 #[.string s, .int .u16 c] w fun e w' => e = .returned (.bool true) ∧ Below w.heap.size w w' := by
  obtain ⟨C, rfl⟩ : ∃ C : Nat, c = C := ⟨c.toNat, by have := wf_u16 wc; omega⟩
  obtain ⟨t, ht⟩ : ∃ t, C % 4096 = t := ⟨_, rfl⟩
  have ht1 : (C : Int) % 4096 = (t : Int) := by rw [← ht]; simp
  have ht2 : t < 4096 := by omega
  have hC : (C : Int) ≤ 65535 := (wf_u16 wc).2
  obtain ⟨T, hT⟩ : ∃ T, t + 1 = T := ⟨_, rfl⟩
  have hT1 : (t : Int) + 1 = (T : Int) := by omega
  have hT2 : 0 < T := by omega
  have hT3 : T ≤ 4096 := by omega
  clear wc ws ht hT
  by_cases hla : (1024 : Int) < (s.size : Int)
  · go_enter Try.func13, Try.ntmps13
    go_wp2_with fail
    refine (octet_awake w).mono ?_
    rintro e w' ⟨rfl, hb⟩
    go_wp2
    go_ret
    exact ⟨rfl, hb⟩
  have hs : s.size ≤ 1024 := by omega
  have P1 := hid (fun w => octet_Pad_any s T w hT2 hT3 (by omega))
  have hq := padN_lt s.size T hT2
  have hd := pad_done s.size T hT2
  obtain ⟨q, hqe⟩ : ∃ q, padN s.size T = q := ⟨_, rfl⟩
  obtain ⟨P, hP⟩ : ∃ P, str (bs s ++ List.replicate (padN s.size T) 0) = P := ⟨_, rfl⟩
  rw [hP] at P1
  rw [hqe] at hP hq hd
  have hPs : P.size = s.size + q := by rw [← hP, str_size, List.length_append, size_bs]; simp
  have P2 := hid (fun w => octet_Pad_any P T w hT2 hT3 (by omega))
  have hp0 : padN P.size T = 0 := by rw [hPs]; unfold padN; rw [hd]; simp
  rw [hp0, List.replicate_zero, List.append_nil, str_bs] at P2
  have e1 : P.extract 0 s.size = s := by
    rw [← hP, extract_str, List.drop_zero, Nat.sub_zero, List.take_append_of_le_length (by rw [size_bs]; omega), List.take_of_length_le (by rw [size_bs]; omega), str_bs]
  have e2 : P.extract s.size P.size = str (List.replicate q 0) := by
    rw [hPs, ← hP, extract_str, show s.size = (bs s).length from (size_bs s).symm, List.drop_append_of_le_length (Nat.le_refl _), List.drop_of_length_le (Nat.le_refl _), List.nil_append, List.take_of_length_le (by simp)]
  obtain ⟨Z, hZ⟩ : ∃ Z, str (List.replicate q 0) = Z := ⟨_, rfl⟩
  rw [hZ] at e2
  have hZs : Z.size = q := by rw [← hZ, str_size]; simp
  have hm : ((P.size : Int) % (T : Int)) = 0 := by rw [hPs]; omega
  have hlt : ((P.size : Int) - (s.size : Int)) < (T : Int) := by omega
  have hge : s.size ≤ P.size := by omega
  have hge2 : P.size ≤ 8192 := by omega
  have HQ := hid hqe
  have HP := hid hP
  have HPS := hid hPs
  have HZ := hid hZ
  have hZb : Z.size ≤ 4096 := by omega
  have HZs := hid hZs
  have HP0 := hid hp0
  have HD := hid hd
  clear hqe hP hPs hZ hZs hp0 hd
  go_enter Try.func13, Try.ntmps13
  go_wp2_with fail
  refine (octet_awake w).mono ?_
  rintro e w1 ⟨rfl, hb⟩
  have HB := hid hb
  clear hb
  go_wp2_with fail
  refine (P1.out _).mono ?_
  rintro e w2 ⟨rfl, hb⟩
  have HB2 := hid (bt HB.out hb)
  clear hb
  go_wp2_with fail
  refine (P2.out _).mono ?_
  rintro e w3 ⟨rfl, hb⟩
  have HB3 := hid (bt HB2.out hb)
  clear hb
  obtain ⟨cap, w4, hcv, hb4, hsz4, hcap, hcell, hfr⟩ := toBytes (P := Try.prog) w3 9 55 Z Try.underlying9 Try.underlying55 Try.underlying5
  have HB4 := hid (bt HB3.out hb4)
  have HC := hid hcell
  clear hb4 hcell hfr
  go_wp2
  go_loop [63] (fun i => ∃ k : Nat, k ≤ Z.size ∧ i = .int .i64 k) (fun i => Z.size - (intOf i).toNat)
  case atStart => exact ⟨0, Nat.zero_le _, rfl⟩
  case round =>
    obtain ⟨k, hk, rfl⟩ := hrel
    by_cases hlt : k < Z.size
    · have x1 : w4.cell? ⟨w3.heap.size, k, none⟩ = some (.int .u8 0) := by
        rw [HC.out k (by rw [← size_bs] at hlt; exact hlt)]
        have : ∀ (Z : ByteArray) (h : Z = str (List.replicate q 0)) (hk : k < Z.data.toList.length), (Z.data.toList[k]).toNat = 0 := by
          intro Z h hk
          subst h
          have hk2 : k < (List.replicate q (0 : UInt8)).length := hk
          show ((List.replicate q (0 : UInt8))[k]'hk2).toNat = 0
          rw [List.getElem_replicate]
          rfl
        rw [this Z HZ.out.symm]
        rfl
      have i1 : (k : Int) < (Z.size : Int) := by omega
      have i2 : (0 : Int) ≤ (k : Int) := by omega
      go_wp2
      go_round
      case measure => simp [intOf]; omega
      case rel => exact ⟨k + 1, by omega, by go_num⟩
    · go_wp2
      go_ret
      exact ⟨rfl, HB4.out⟩
end Go.Proofs.Ytlljndojbhopfaa
