/- the reference's Parts and Pad. -/
import Derived.Test.YtlljndojbhopfaaOct3
namespace Go.Proofs.Ytlljndojbhopfaa
open Go Go.RowKit
set_option linter.unusedVariables false
set_option linter.unusedSimpArgs false
attribute [local go_sem] bmax2 bmin2 bmax bmin

theorem ref01_Pad_any (s : ByteArray) (tt : Nat) (w : World) (h1 : 0 < tt) (h2 : tt ≤ 4096) (hs : s.size ≤ 1099511627776) :
    Calls Try.prog 41 #[.string s, .int .i64 tt] w fun e w' => e = .returned (.string (str (bs s ++ List.replicate (padN s.size tt) 0))) ∧ w' = w := by
  have hq := padN_lt s.size tt h1
  have h1' : (0 : Int) < (tt : Int) := by omega
  go_enter Try.func41, Try.ntmps41
  go_wp2
  go_loop [0] (fun t => ∃ (j : Nat) (S : ByteArray), t = .string S ∧ j ≤ padN s.size tt ∧ Hid (S = str (bs s ++ List.replicate j 0)) ∧ S.size ≤ 1099511631872) (fun t => 1099511631872 - lenOf t)
  case atStart => exact ⟨0, s, rfl, Nat.zero_le _, by simp [Hid]; exact (str_bs s).symm, by omega⟩
  case round =>
    obtain ⟨j, S, rfl, hj, hS, hz⟩ := hrel
    have hsz : S.size = s.size + j := by rw [hS.out, str_size, List.length_append, size_bs]; simp
    by_cases hlt : j < padN s.size tt
    · have hm : ((S.size : Int) % (tt : Int)) ≠ 0 := by
        have := pad_notyet s.size tt j h1 hlt
        rw [← hsz] at this
        intro h
        omega
      have hb : (((S.size : Int) % (tt : Int)) == 0) = false := by simpa using hm
      have hb2 : (((S.size : Int) % (tt : Int)) != 0) = true := by simpa using hm
      have hs0 : (⟨#[0]⟩ : ByteArray).size ≤ 1 := by decide
      have HZ := hid hsz
      clear hsz hm
      go_wp2
      go_round
      case measure => 
        show 1099511631872 - (S ++ ⟨#[0]⟩ : ByteArray).size < 1099511631872 - S.size
        rw [ByteArray.size_append, HZ.out]
        show _ - (_ + 1) < _
        omega
      case rel =>
        refine ⟨j + 1, S ++ ⟨#[0]⟩, rfl, by omega, ?_, ?_⟩
        · rw [hS.out]
          apply bs_inj
          rw [bs_str, List.replicate_succ']
          show (str (bs s ++ List.replicate j 0) ++ ⟨#[0]⟩ : ByteArray).data.toList = _
          rw [ByteArray.data_append, Array.toList_append]
          show (bs s ++ List.replicate j 0) ++ [0] = _
          rw [List.append_assoc]
        · rw [ByteArray.size_append, HZ.out]
          show _ + 1 ≤ _
          omega
    · obtain rfl : j = padN s.size tt := by omega
      have hm : ((S.size : Int) % (tt : Int)) = 0 := by
        have := pad_done s.size tt h1
        rw [← hsz] at this
        omega
      have hb : (((S.size : Int) % (tt : Int)) == 0) = true := by simpa using hm
      have hb2 : (((S.size : Int) % (tt : Int)) != 0) = false := by simpa using hm
      clear hm hsz
      go_wp2
      go_ret
      exact ⟨congrArg _ (congrArg _ hS.out), rfl⟩

set_option maxRecDepth 100000 in
theorem ref01_Parts_some (s : ByteArray) (n : Nat) (w : World) (hn : 1 ≤ n) (hn2 : n ≤ 9223372036854775807) (hs : s.size ≤ 1099511627776) :
    Calls Try.prog 39 #[.string s, .int .i64 n] w fun e w' => ∃ v, e = .returned v ∧ w'.ownsRow w.heap.size 9 1 v (chunks n (bs s)).length (strVals (chunks n (bs s))) ∧ Below w.heap.size w w' := by
  obtain ⟨i0, hi, hz0, hz1, hz2⟩ := info_parts info_str
  have Hz2 := hid hz2
  have Hz1 := hid hz1
  clear hz2 hz1
  have hn' : (1 : Int) ≤ n := by omega
  go_enter Try.func39, Try.ntmps39
  go_wp2
  go_loopw [5, 6] (fun v i wr => ∃ (l r : List UInt8) (k : Nat), i = .int .i64 k ∧ k ≤ s.size ∧ l.length = k ∧ Hid (l ++ r = bs s) ∧ Hid (n ∣ l.length ∨ r = []) ∧ wr.ownsRow w.heap.size 9 1 v (chunks n l).length (strVals (chunks n l)) ∧ Below w.heap.size w wr) (fun _ i _ => s.size - (intOf i).toNat)
  case atStart => exact ⟨[], bs s, 0, rfl, Nat.zero_le _, rfl, rfl, Or.inl (by simp), World.ownsRow_lit w #[] 0 (Nat.le_refl _) (by unfold maxLen; omega) rfl, (Below.refl _ _).alloc (Nat.le_refl _) _⟩
  case round =>
    obtain ⟨l, r, k, rfl, hk, hkl, hc, hd, ho, hbl⟩ := hrel
    have HO := hid ho
    have HB := hid hbl
    have HK := hid hkl
    have hlr : l.length + r.length = s.size := by have := congrArg List.length hc.out; rw [List.length_append, size_bs] at this; exact this
    have hcl := Nat.le_trans (chunks_length n hn _ l (Nat.le_refl _)) (show l.length ≤ s.size by omega)
    have HLR := hid hlr
    clear ho hbl hkl hlr
    by_cases hlt : k < s.size
    · obtain ⟨wo, hwo⟩ : ∃ wo : World, wo = wr := ⟨_, rfl⟩
      rw [← hwo]
      have HO2 : Hid (wo.ownsRow w.heap.size 9 1 u5 (chunks n l).length (strVals (chunks n l))) := by rw [hwo]; exact HO.out
      have HW := hid hwo
      clear hwo
      go_wp2
      go_loop [6, 7, 8] (fun i p j => ∃ c : Nat, c ≤ n ∧ k + c ≤ s.size ∧ i = .int .i64 ((k + c : Nat) : Int) ∧ j = .int .i64 c ∧ p = .string (str (r.take c))) (fun i _ _ => s.size - (intOf i).toNat)
      case atStart => exact ⟨0, by omega, by omega, rfl, rfl, rfl⟩
      case round =>
        obtain ⟨c, hcn, hck, rfl, rfl, rfl⟩ := hrel
        by_cases h1 : c < n ∧ k + c < s.size
        · obtain ⟨h1, h2⟩ := h1
          have hz : (str (r.take c)).size ≤ 1099511627776 := by
            rw [str_size, List.length_take]
            have := HLR.out
            omega
          have h1' : (c : Int) < (n : Int) := by omega
          have h2' : ((k + c : Nat) : Int) < (s.size : Int) := by omega
          go_wp2
          go_round
          case measure => simp [intOf]; omega
          case rel => 
            refine ⟨c + 1, by omega, by omega, by go_num, by go_num, congrArg _ ?_⟩
            apply bs_inj
            have e1 := Lib.extract_toList s (k + c) (k + c + 1)
            rw [toList_bs] at e1
            have e2 : (bs s).drop (k + c) = r.drop c := by
              rw [← hc.out, ← HK.out, ← List.drop_drop, List.drop_append_of_le_length (Nat.le_refl _)]
              simp
            rw [bs_str, bs, ByteArray.data_append, Array.toList_append]
            show r.take c ++ bs (s.extract (k + c) (k + c + 1)) = r.take (c + 1)
            rw [e1, show k + c + 1 - (k + c) = 1 by omega]
            show r.take c ++ ((bs s).drop (k + c)).take 1 = _
            rw [e2, List.take_add]
        · have hr1 : r.take c = r.take n := by
            have := HLR.out
            have h2 := HK.out
            rcases Nat.lt_or_ge c n with h | h
            · rw [List.take_of_length_le (by omega), List.take_of_length_le (by omega)]
            · rw [show c = n by omega]
          have hr2 : k + c = (l ++ r.take n).length := by
            have := HLR.out
            have h2 := HK.out
            rw [List.length_append, List.length_take]; omega
          have HR1 := hid hr1
          have HR2 := hid hr2
          clear hr1 hr2
          by_cases hcn : (c : Int) < (n : Int)
          case' pos =>
            have hcs : ¬ ((k : Int) + (c : Int) < (s.size : Int)) := by omega
            have hcd : decide ((k : Int) + (c : Int) < (s.size : Int)) = false := decide_eq_false hcs
          case' neg =>
            have hcd : decide ((c : Int) < (n : Int)) = false := decide_eq_false hcn
          all_goals
            clear h1
            go_wp2_with (at_builtin; refine wpList_append_own _ rfl _ _ 63 rfl w.heap.size 9 i0 (.string ⟨#[]⟩) 1 16 Try.underlying63 hi hz0 Hz1.out Hz2.out rfl (by decide) _ _ _ rfl (HO2.out.alloc _) ⟨wo.heap.size, 0, none⟩ 1 1 [.string (str (r.take c))] rfl rfl (cell_one_new _ _ _) (by simp [Value.oneCell']) (by unfold maxLen; omega) (by omega) (by have := HB.out.size; have e := HW.out; subst e; simp; omega) ?_)
            intro v' w1 hown' hgrow' _
            have HB1 := hid (((HW.out ▸ (HB.out.alloc HB.out.size _) : Below w.heap.size w (wo.alloc _))).grown hgrow' (by have := HB.out.size; have e := HW.out; subst e; simp; omega) (fun q hq => (HO.out.lt q hq).1))
            have HO1 := hid hown'
            clear hown' hgrow'
            go_wp2
            go_roundw
            case measure =>
              have h1 := HR2.out
              have h2 := HK.out
              have h3 := HLR.out
              rw [List.length_append, List.length_take] at h1
              simp [intOf]; omega
            case rel =>
              have h3 := HLR.out
              have h2 := HK.out
              have h0 : r ≠ [] := by rintro rfl; simp at h3; omega
              obtain ⟨p1, p2, p3⟩ := parts_step n hn (bs s) l r hc.out hd.out h0
              refine ⟨l ++ r.take n, r.drop n, k + c, by go_num, hck, HR2.out.symm, p1, p2, ?_, HB1.out⟩
              rw [p3]
              have := HO1.out
              rw [HR1.out] at this
              simpa [strVals] using this
    · have h0 : r = [] := List.eq_nil_of_length_eq_zero (by have := HLR.out; have h2 := HK.out; omega)
      subst h0
      go_wp2
      go_ret
      have h := hc.out
      rw [List.append_nil] at h
      exact ⟨_, rfl, by rw [← h]; exact HO.out, HB.out⟩
end Go.Proofs.Ytlljndojbhopfaa
