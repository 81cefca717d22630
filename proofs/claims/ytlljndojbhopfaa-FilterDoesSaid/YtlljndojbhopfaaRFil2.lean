/- the reference of layer 15: Jitter, Add. -/
import Derived.Test.YtlljndojbhopfaaRFil1
namespace Go.Proofs.Ytlljndojbhopfaa
open Go Go.RowKit
set_option linter.unusedVariables false
set_option linter.unusedSimpArgs false
attribute [local go_sem] bmax2 bmin2 bmax bmin cell_ext frozen_ext

theorem BI.ne {L : List Smp} {z : Int} (h : BI L z) (hne : L ≠ []) : ∃ i : Nat, z = (i : Int) ∧ L[i]? = some (best L) := by
  rcases h with ⟨h, _⟩ | ⟨i, h1, h2, _⟩
  · exact absurd h hne
  · exact ⟨i, h1, h2⟩
/-- it is there: where the best one lies -/
theorem bi_at (L : List Smp) : BI L (bi L) := by
  have : ∀ k, k ≤ L.length → ∃ z, BI (L.take k) z := by
    intro k
    induction k with
    | zero => intro _; exact ⟨-1, Or.inl ⟨rfl, rfl⟩⟩
    | succ k ih =>
      intro hk
      obtain ⟨z, hz⟩ := ih (by omega)
      obtain ⟨y, hy⟩ : ∃ y, L[k]? = some y := ⟨_, List.getElem?_eq_getElem (by omega)⟩
      have hs := best_snoc (L.take k) y
      have ht : L.take (k + 1) = L.take k ++ [y] := by rw [List.take_add_one, hy]; rfl
      have hlk : (L.take k).length = k := by rw [List.length_take]; omega
      rw [ht]
      have hyk : (L.take k ++ [y])[k]? = some y := by rw [List.getElem?_append_right (by omega), hlk]; simp
      rcases hz with ⟨h0, rfl⟩ | ⟨i, rfl, hi, hmn⟩
      · rw [if_pos h0] at hs
        refine ⟨k, Or.inr ⟨k, rfl, by rw [hs]; exact hyk, fun j s hj _ => ?_⟩⟩
        rw [h0] at hlk; simp at hlk; omega
      · have hik := (List.getElem?_eq_some_iff.1 hi).1
        rw [if_neg (fun e => by rw [e] at hi; simp at hi)] at hs
        by_cases hd : y.del < (best (L.take k)).del
        · rw [if_pos hd] at hs
          refine ⟨k, Or.inr ⟨k, rfl, by rw [hs]; exact hyk, fun j s hj hjs => ?_⟩⟩
          rw [List.getElem?_append_left (by omega)] at hjs
          have := best_le _ s (List.mem_of_getElem? hjs)
          rw [hs]; omega
        · rw [if_neg hd] at hs
          refine ⟨i, Or.inr ⟨i, rfl, by rw [hs, List.getElem?_append_left (by omega)]; exact hi, fun j s hj hjs => ?_⟩⟩
          rw [List.getElem?_append_left (by omega)] at hjs
          rw [hs]
          exact hmn j s hj hjs
  obtain ⟨z, hz⟩ := this L.length (Nat.le_refl _)
  rw [List.take_length] at hz
  rw [bi_eq hz]
  exact hz

set_option maxHeartbeats 1000000 in
set_option maxRecDepth 100000 in
theorem RJitter (w : World) (rb c : Nat) (g r : Int) (ad : Option Addr) (L : List Smp) (h : RAt w rb g ad c L r) (hok : ∀ s ∈ L, okS s) :
    Calls Try.prog 27 #[.pointer (some ⟨rb, 0, none⟩)] w fun e w' => e = .returned (.int .i64 (jit L)) ∧ Below w.heap.size w w' := by
  have hb := h.lt
  have hL8 := h.2.2
  have H := hid h
  have HOK := hid hok
  clear h hok
  go_enter Try.func27, Try.ntmps27
  go_wp2
  go_loopw [3, 4] (fun p i wr => ∃ (k : Nat) (m : Int), k ≤ L.length ∧ i = .int .i64 k ∧ p = .int .i64 m ∧ Hid (m = (L.take k).foldl (fun m s => max m (dist s.off (best L).off)) 0) ∧ Hid (Below w.heap.size w wr)) (fun _ i _ => L.length - (intOf i).toNat)
  case atStart => exact ⟨0, 0, Nat.zero_le _, rfl, rfl, hid rfl, hid (Below.refl _ _)⟩
  case round =>
    obtain ⟨k, m, hk, rfl, rfl, hm, hbl⟩ := hrel
    have HR := hid (H.out.below hbl.out)
    have hbr := HR.out.lt
    obtain ⟨_, hc1, _⟩ := HR.out.cell
    by_cases hlt : k < L.length
    · obtain ⟨y, hy⟩ : ∃ y, L[k]? = some y := ⟨_, List.getElem?_eq_getElem hlt⟩
      rcases HR.out.2.1 with ⟨rfl, _⟩ | ⟨gg, rfl, s2, s3, s4, s5, s6⟩
      · simp at hlt
      have S6 := hid s6
      obtain ⟨c0, c1, c2⟩ := s6 k y hy
      rw [Nat.zero_add] at c0
      have i1 : (k : Int) < (L.length : Int) := by omega
      have i2 : (0 : Int) ≤ (k : Int) := by omega
      have HY := hid hy
      have hyo := HOK.out y (List.mem_of_getElem? hy)
      have hne : L ≠ [] := fun e => by rw [e] at hlt; simp at hlt
      have hBo := best_ok HOK.out
      have FA := hid (fun w => Rfar_any y.off (best L).off w hyo.1 hyo.2.1 hBo.1 hBo.2.1)
      have HNE := hid hne
      clear s6 hy hne hyo hBo c1 c2
      go_wp2
      obtain ⟨i, hie, hi⟩ := (bi_at L).ne HNE.out
      have RB := hid (fun (w : World) (h : RAt w rb g (some ⟨gg, 0, none⟩) c L r) => (RBest w rb c g r _ L h).mono (fun e w' h => (⟨h.1, h.2.2⟩ : e = .returned (.int .i64 (bi L)) ∧ Below w.heap.size w w')))
      rw [hie] at RB
      clear hie
      obtain ⟨e0, _, _⟩ := S6.out i _ hi
      rw [Nat.zero_add] at e0
      have hil := (List.getElem?_eq_some_iff.1 hi).1
      have j1 : (i : Int) < (L.length : Int) := by omega
      have j2 : (0 : Int) ≤ (i : Int) := by omega
      clear hi
      refine wp_region_plan_lit (C := fun w' => ∃ x, w' = wr.ext x) [] [0, 1, 2, 3, 4, 5, 6, 7, 8, 9, 10, 11, 12, 13, 14, 15, 16, 17, 18, 19] [20] (by kernel_rfl) (by kernel_rfl) (by intro c a d v w h; cases d <;> exact h) ⟨wr.drew, (ext_of (Below.refl _ _).drew).symm⟩ ?_
      simp only [List.map_cons, List.map_nil, List.getD_cons_succ, List.getD_cons_zero]
      refine wpQuiet_nil ?_
      repeat (go_big_quiet_step (first | (go_at_call 45; exact Calls.ext_same (FA.out _)) | (go_at_call 25; exact Calls.ext_of (RB.out _ (HR.out.below (ext_below _ _))))))
      refine wpQuiet_nil ?_
      rintro _ ⟨y', rfl⟩
      have B3 := hid (bt hbl.out (ext_below wr y'))
      go_wp2
      go_roundw
      case measure => simp [intOf]; omega
      case rel =>
        refine ⟨k + 1, _, by omega, by go_num, rfl, hid ?_, B3⟩
        rw [List.take_add_one, List.foldl_append, HY.out, ← hm.out]
        rfl
    · obtain rfl : k = L.length := by omega
      have hm' := hm.out
      rw [List.take_length] at hm'
      have HM := hid hm'
      clear hm'
      go_wp2
      go_ret
      exact ⟨by rw [HM.out]; rfl, hbl.out⟩
end Go.Proofs.Ytlljndojbhopfaa
