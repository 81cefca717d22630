/- HeadFinds: the walk. -/
import Derived.Test.YtoifkfhbinfplaaHd23
import Derived.Test.YtoifkfhbinfplaaArgH
namespace Go.Proofs.Ytoifkfhbinfplaa
open Go Go.RowKit
set_option linter.unusedVariables false
set_option linter.unusedSimpArgs false
attribute [local go_sem] bmax2 bmin2 bmax bmin cell_ext frozen_ext

theorem findF_nil (k : Int) : findF k [] = (str [], false) := rfl
set_option maxHeartbeats 4000000 in
set_option maxRecDepth 100000 in
theorem HeadFinds_walk (w : World) (ad : Option Addr) (c : Nat) (l : List Fd) (k : Int) (hb : l.length ≤ maxLen ∧ l.length ≤ c ∧ c ≤ maxLen ∧ (∀ f ∈ l, wfF f) ∧ FS w ad l) (b1 : (Lit.int .i64 k).wf = true) :
    Calls Try.prog 8 #[.slice ad l.length c, .int .i64 k] w fun e w' => e = .returned (.bool true) ∧ Below w.heap.size w w' := by
  obtain ⟨hl, _, _, _, hs⟩ := hb
  unfold maxLen at hl
  clear b1
  have HS := kp hs
  have HB := kp (Below.refl w.heap.size w)
  clear hs
  by_cases h60 : 60 < l.length
  · have g : decide ((60 : Int) < (l.length : Int)) = true := by simp; omega
    go_enter Try.func8, Try.ntmps8
    go_wp2_with fail
    refine (head_awake _).mono ?_
    rintro e w1 ⟨rfl, hb⟩
    have HB := kp (bt' HB.out hb HB.out.size)
    clear hb
    go_wp2
    go_ret
    exact ⟨rfl, HB.out⟩
  have g : decide ((60 : Int) < (l.length : Int)) = false := by simp; omega
  have cF : Kp (∀ w', FS w' ad l → Calls Try.prog 24 #[.slice ad l.length c, .int .i64 k] w' fun e w'' => e = .returned (.tuple #[.string (findF k l).1, .bool (findF k l).2]) ∧ Below w'.heap.size w' w'') := kp (fun w' hf => M_Find ad c l k w' (by omega) hf)
  have gE : (str []).toList = [] := by rw [toList_bs]; rfl
  obtain ⟨D, hD⟩ : ∃ D, (findF k l).1 = D := ⟨_, rfl⟩
  obtain ⟨I, hI⟩ : ∃ I, (findF k l).2 = I := ⟨_, rfl⟩
  have HF : Kp (findF k (l.drop 0) = (D, I)) := kp (by rw [← hD, ← hI]; rfl)
  rw [hD, hI] at cF
  clear hD hI
  go_enter Try.func8, Try.ntmps8
  go_wp2_with fail
  refine (head_awake _).mono ?_
  rintro e w1 ⟨rfl, hb⟩
  have HB := kp (bt' HB.out hb HB.out.size)
  have HS := kp (HS.out.bel hb)
  clear hb
  go_wp2_with fail
  refine (cF.out _ HS.out).mono ?_
  rintro e w2 ⟨rfl, hb⟩
  have HB := kp (bt' HB.out hb HB.out.size)
  have HS := kp (HS.out.bel hb)
  clear hb
  go_wp2
  go_loopw [21] (fun i wr => ∃ j : Nat, j ≤ l.length ∧ i = .int .i64 (j : Int) ∧ Kp (findF k (l.drop j) = (D, I)) ∧ wr = w2) (fun i _ => l.length - (intOf i).toNat)
  case atStart => exact ⟨0, by omega, rfl, HF, rfl⟩
  case round =>
    clear HF
    obtain ⟨j, hj, rfl, HF, rfl⟩ := hrel
    by_cases h : j < l.length
    · have g2 : decide ((j : Int) < (l.length : Int)) = true := by simp; omega
      obtain ⟨f, hf⟩ : ∃ f, l[j]? = some f := ⟨l[j], by simp [h]⟩
      obtain ⟨b, o, rfl, hb, hh⟩ := HS.out (fun e => by subst e; simp at h)
      obtain ⟨q0, q1⟩ := hh j f hf
      rw [findF_drop hf] at HF
      clear hh hf
      by_cases hk : f.k = k
      · have g3 : (f.k == k) = true := by simp [hk]
        have hF := HF.out
        rw [if_pos hk] at hF
        injection hF with e1 e2
        subst e1 e2
        go_wp2
        go_ret
        exact ⟨rfl, HB.out⟩
      · have g3 : (f.k == k) = false := by simp [hk]
        rw [if_neg hk] at HF
        go_wp2
        go_roundw
        case measure => simp [intOf]; omega
        case rel => exact ⟨j + 1, by omega, rfl, HF, trivial⟩
    · have g2 : decide ((j : Int) < (l.length : Int)) = false := by simp; omega
      obtain rfl : j = l.length := by omega
      have hF := HF.out
      rw [List.drop_length, findF_nil] at hF
      injection hF with e1 e2
      subst e1 e2
      go_wp2
      go_ret
      exact ⟨rfl, HB.out⟩
end Go.Proofs.Ytoifkfhbinfplaa
