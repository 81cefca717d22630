/- MacWith: the walk. -/
import Derived.Test.YtachnjdmjifefaaMac4
import Derived.Test.YtachnjdmjifefaaMac5
import Derived.Test.YtachnjdmjifefaaEq2
namespace Go.Proofs.Ytachnjdmjifefaa
open Go Go.RowKit
set_option linter.unusedVariables false
set_option linter.unusedSimpArgs false
attribute [local go_sem] bmax2 bmin2 bmax bmin cell_ext frozen_ext

set_option maxHeartbeats 4000000 in
set_option maxRecDepth 100000 in
theorem MacWith_walk (w : World) (a0 : ByteArray) (ad : Option Addr) (c : Nat) (l : List ByteArray) (b0 : a0.size ≤ maxLen) (hb : l.length ≤ maxLen ∧ (∀ s ∈ l, s.size ≤ reachBytes) ∧ (l ≠ [] → ∃ b o, ad = some ⟨b, o, none⟩ ∧ b < w.heap.size ∧ HoldsT w b o l)) :
    Calls Try.prog 11 #[.string a0, .slice ad l.length c] w fun e w' => e = .returned (.bool true) ∧ Below w.heap.size w w' := by
  obtain ⟨hml, -, hcells⟩ := hb
  have HC : Kp (HeldT w ad l) := kp hcells
  have HML := kp hml
  have hml2 : l.length ≤ 9223372036854775807 := hml
  clear hml hcells b0
  cases hl : largeB [a0] with
  | true =>
    go_enter Try.func11, Try.ntmps11
    go_wp2_with fail
    refine (mac_awake _).mono ?_
    rintro e w1 ⟨rfl, hb⟩
    have HB := kp hb
    clear hb
    go_wp2_with fail
    refine (large_any (some ⟨w1.heap.size, 0, none⟩) 1 [a0] _ (by unfold maxLen; simp) (HeldT.lit w1 _ [a0])).mono ?_
    rintro e w' ⟨rfl, rfl⟩
    go_wp2
    go_ret
    exact ⟨rfl, ba HB.out _⟩
  | false =>
    have za0 := largeB_false hl a0 (by simp)
    cases hl2 : largeB l with
    | true =>
      go_enter Try.func11, Try.ntmps11
      go_wp2_with fail
      refine (mac_awake _).mono ?_
      rintro e w1 ⟨rfl, hb⟩
      have HB := kp hb
      have HC2 := kp ((HC.out.bel hb).bel (ba (Below.refl _ _) (.cells (List.map Value.string [a0]).toArray 9)))
      clear hb
      go_wp2_with fail
      refine (large_any (some ⟨w1.heap.size, 0, none⟩) 1 [a0] _ (by unfold maxLen; simp) (HeldT.lit w1 _ [a0])).mono ?_
      rintro e w' ⟨rfl, rfl⟩
      go_wp2_with fail
      refine (large_any ad c l _ HML.out HC2.out).mono ?_
      rintro e w' ⟨rfl, rfl⟩
      go_wp2
      go_ret
      exact ⟨rfl, ba HB.out _⟩
    | false =>
      by_cases h20 : (20 : Int) < (l.length : Int)
      · have g20 : decide ((20 : Int) < (l.length : Int)) = true := decide_eq_true h20
        go_enter Try.func11, Try.ntmps11
        go_wp2_with fail
        refine (mac_awake _).mono ?_
        rintro e w1 ⟨rfl, hb⟩
        have HB := kp hb
        have HC2 := kp ((HC.out.bel hb).bel (ba (Below.refl _ _) (.cells (List.map Value.string [a0]).toArray 9)))
        clear hb
        go_wp2_with fail
        refine (large_any (some ⟨w1.heap.size, 0, none⟩) 1 [a0] _ (by unfold maxLen; simp) (HeldT.lit w1 _ [a0])).mono ?_
        rintro e w' ⟨rfl, rfl⟩
        go_wp2_with fail
        refine (large_any ad c l _ HML.out HC2.out).mono ?_
        rintro e w' ⟨rfl, rfl⟩
        go_wp2
        go_ret
        exact ⟨rfl, ba HB.out _⟩
      · have g20 : decide ((20 : Int) < (l.length : Int)) = false := decide_eq_false h20
        have HSZ := kp (largeB_false hl2)
        have hn : l.length ≤ 20 := by omega
        go_enter Try.func11, Try.ntmps11
        go_wp2_with fail
        refine (mac_awake _).mono ?_
        rintro e w1 ⟨rfl, hb⟩
        have HB := kp (ba hb (.cells (List.map Value.string [a0]).toArray 9))
        have HC2 := kp ((HC.out.bel hb).bel (ba (Below.refl _ _) (.cells (List.map Value.string [a0]).toArray 9)))
        clear hb
        go_wp2_with fail
        refine (large_any (some ⟨w1.heap.size, 0, none⟩) 1 [a0] _ (by unfold maxLen; simp) (HeldT.lit w1 _ [a0])).mono ?_
        rintro e w' ⟨rfl, rfl⟩
        go_wp2_with fail
        refine (large_any ad c l _ HML.out HC2.out).mono ?_
        rintro e w' ⟨rfl, rfl⟩
        go_wp2_with fail
        refine (With_any a0 (by omega) _).mono ?_
        rintro e w2 ⟨b5, b6, rfl, hm, hb2⟩
        have HM := kp hm
        have HB2 := kp (bt' HB.out hb2 HB.out.size)
        have HC3 := kp (HC2.out.bel hb2)
        clear hm hb2 HB HC2 HC
        unfold makerV
        have cT : Kp (∀ s ∈ l, ∀ w', Calls Try.prog 29 #[.string a0, .string s] w' fun e w'' => e = .returned (.agg (cellsU8 (macD (bs a0) (bs s))).toArray) ∧ Below w'.heap.size w' w'') := kp (fun s hs w' => Tag_any a0 s (by omega) (by have := HSZ.out s hs; omega) w')
        have cM : Kp (∀ s ∈ l, ∀ w', Maker w' (bs a0) b5 b6 → Calls Try.prog 50 #[.string s, .pointer (some ⟨b5, 0, none⟩), .pointer (some ⟨b6, 0, none⟩)] w' fun e w'' => e = .returned (.agg (cellsU8 (macD (bs a0) (bs s))).toArray) ∧ Below w'.heap.size w' w'') := kp (fun s hs w' h => Made_any (bs a0) s b5 b6 w' h (by have := HSZ.out s hs; omega))
        clear hl hl2
        go_wp2
        go_loopw [6] (fun i wr => ∃ k : Nat, k ≤ l.length ∧ i = .int .i64 ((k : Int) - 1) ∧ Kp (Maker wr (bs a0) b5 b6) ∧ Kp (HeldT wr ad l) ∧ Kp (Below w.heap.size w wr)) (fun i _ => ((intOf i) + 1).toNat)
        case atStart => exact ⟨l.length, Nat.le_refl _, rfl, HM, HC3, HB2⟩
        case round =>
          clear HM HC3 HB2
          obtain ⟨k, hk, rfl, HM, HC, HB⟩ := hrel
          cases k with
          | succ j =>
            rw [show (((j + 1 : Nat) : Int) - 1) = (j : Int) by omega]
            have hlt : j < l.length := by omega
            have i1 : (j : Int) < (l.length : Int) := by omega
            have i2 : (0 : Int) ≤ (j : Int) := by omega
            obtain ⟨b, o, rfl, hbw, hh⟩ := HC.out (by intro e; subst e; simp at hlt)
            have hs1 := hh j _ (List.getElem?_eq_getElem hlt)
            have cT1 := kp (cT.out _ (List.getElem_mem hlt))
            have cM1 := kp (cM.out _ (List.getElem_mem hlt))
            have hel := kp (macD_length (bs a0) (bs l[j]))
            clear hh
            generalize l[j] = s at hs1 cT1 cM1 hel
            generalize macD (bs a0) (bs s) = E at cT1 cM1 hel
            have HMX := kp (fun x => HM.out.bel (ext_below wr x))
            go_wp2
            refine wp_region_ext [0, 1, 2, 3, 4, 5, 6, 7, 8, 9, 10, 11] [12] (by kernel_rfl) (by kernel_rfl) ?_
            simp only [List.map_cons, List.map_nil, List.getD_cons_succ, List.getD_cons_zero]
            repeat (go_big_quiet_step (first | (go_at_call 50; with_reducible exact Calls.ext_of (cM1.out _ (HMX.out _))) | (go_at_call 29; with_reducible exact Calls.ext_of (cT1.out _))))
            refine wpQuiet_nil ?_
            rintro z
            have HM1 := kp (HM.out.bel (ext_below wr z))
            have HC1 := kp (HC.out.bel (ext_below wr z))
            have HB1 := kp (bt' HB.out (ext_below wr z) HB.out.size)
            clear HMX HM HC HB hs1
            generalize wr.ext z = Z at HM1 HC1 HB1 ⊢
            have hnek := fun W => run_nek E E hel.out hel.out W
            rw [decide_eq_true (rfl : E = E), Bool.not_true] at hnek
            have gk := guard_key
            refine wpL_val 43 rfl rfl (.bool false) ((exec_nek rfl rfl rfl hel.out hel.out _).trans (by simp)) ?_
            clear hnek gk
            go_wp2
            go_roundw
            case measure => simp [intOf]
            case rel => exact ⟨j, by omega, rfl, HM1, HC1, HB1⟩
          | zero =>
            rw [show (((0 : Nat) : Int) - 1) = -1 from rfl]
            go_wp2
            go_loopw [46] (fun i wr => ∃ k : Nat, k ≤ l.length ∧ i = .int .i64 (k : Int) ∧ Kp (Maker wr (bs a0) b5 b6) ∧ Kp (HeldT wr ad l) ∧ Kp (Below w.heap.size w wr)) (fun i _ => l.length - (intOf i).toNat)
            case atStart => exact ⟨0, Nat.zero_le _, rfl, HM, HC, HB⟩
            case round =>
              clear HM HC HB
              obtain ⟨j, hj, rfl, HM, HC, HB⟩ := hrel
              by_cases hlt : j < l.length
              · have i1 : (j : Int) < (l.length : Int) := by omega
                have i2 : (0 : Int) ≤ (j : Int) := by omega
                obtain ⟨b, o, rfl, hbw, hh⟩ := HC.out (by intro e; subst e; simp at hlt)
                have hs1 := hh j _ (List.getElem?_eq_getElem hlt)
                have cT1 := kp (cT.out _ (List.getElem_mem hlt))
                have cM1 := kp (cM.out _ (List.getElem_mem hlt))
                have hel := kp (macD_length (bs a0) (bs l[j]))
                clear hh
                generalize l[j] = s at hs1 cT1 cM1 hel
                generalize macD (bs a0) (bs s) = E at cT1 cM1 hel
                have HMX := kp (fun x => HM.out.bel (ext_below wr x))
                go_wp2
                refine wp_region_ext [0, 1, 2, 3, 4, 5, 6, 7, 8, 9, 10, 11] [12] (by kernel_rfl) (by kernel_rfl) ?_
                simp only [List.map_cons, List.map_nil, List.getD_cons_succ, List.getD_cons_zero]
                repeat (go_big_quiet_step (first | (go_at_call 50; with_reducible exact Calls.ext_of (cM1.out _ (HMX.out _))) | (go_at_call 29; with_reducible exact Calls.ext_of (cT1.out _))))
                refine wpQuiet_nil ?_
                rintro z
                have HM1 := kp (HM.out.bel (ext_below wr z))
                have HC1 := kp (HC.out.bel (ext_below wr z))
                have HB1 := kp (bt' HB.out (ext_below wr z) HB.out.size)
                clear HMX HM HC HB hs1
                generalize wr.ext z = Z at HM1 HC1 HB1 ⊢
                have hnek := fun W => run_nek E E hel.out hel.out W
                rw [decide_eq_true (rfl : E = E), Bool.not_true] at hnek
                have gk := guard_key
                refine wpL_val 61 rfl rfl (.bool false) ((exec_nek rfl rfl rfl hel.out hel.out _).trans (by simp)) ?_
                clear hnek gk
                go_wp2
                go_roundw
                case measure => simp [intOf]; omega
                case rel => exact ⟨j + 1, by omega, by go_num, HM1, HC1, HB1⟩
              · obtain rfl : j = l.length := by omega
                go_wp2
                go_ret
                exact ⟨rfl, HB.out⟩
end Go.Proofs.Ytachnjdmjifefaa
