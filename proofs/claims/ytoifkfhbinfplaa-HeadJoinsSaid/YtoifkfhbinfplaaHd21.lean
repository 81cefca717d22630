/- head: extensions compared; large. -/
import Derived.Test.YtoifkfhbinfplaaHd20
namespace Go.Proofs.Ytoifkfhbinfplaa
open Go Go.RowKit
set_option linter.unusedVariables false
set_option linter.unusedSimpArgs false
attribute [local go_sem] bmax2 bmin2 bmax bmin cell_ext frozen_ext

/-- what large sums up -/
def wsumF (l : List Fd) : Int := l.foldl (fun n f => wrap64 (n + wrap64 (4 + (f.d.size : Int)))) 0
def sumF (l : List Fd) : Nat := (l.map fun f => 4 + f.d.size).sum
theorem wsumF_take {l : List Fd} {j : Nat} {f : Fd} (h : l[j]? = some f) : wsumF (l.take (j + 1)) = wrap64 (wsumF (l.take j) + wrap64 (4 + (f.d.size : Int))) := by
  rw [take_snocF h]
  unfold wsumF
  rw [List.foldl_append]
  rfl
theorem sumF_append (a c : List Fd) : sumF (a ++ c) = sumF a + sumF c := by simp [sumF]
theorem wsumF_eq : ∀ (n : Nat) (l : List Fd), l.length = n → sumF l < 9223372036854775808 → wsumF l = (sumF l : Int) := by
  intro n
  induction n with
  | zero =>
    intro l hl _
    rw [List.length_eq_zero_iff.1 hl]
    rfl
  | succ n ih =>
    intro l hl hs
    obtain ⟨f, hf⟩ : ∃ f, l[n]? = some f := ⟨l[n]'(by omega), by simp [hl]⟩
    have h1 := wsumF_take hf
    have h2 : l.take (n + 1) = l := List.take_of_length_le (by omega)
    have h3 : l = l.take n ++ [f] := by rw [← take_snocF hf, h2]
    have h4 : sumF l = sumF (l.take n) + (4 + f.d.size) := by
      conv => lhs; rw [h3]
      rw [sumF_append]
      simp [sumF]
    rw [h2] at h1
    rw [h1, ih (l.take n) (by simp; omega) (by omega), IntWalk.wrap64_in (4 + (f.d.size : Int)) (by omega), IntWalk.wrap64_in _ (by omega), h4]
    omega
set_option maxHeartbeats 1000000 in
theorem L_large (ad : Option Addr) (c : Nat) (l : List Fd) (w : World) (hl : l.length ≤ maxLen) (hd : ∀ f ∈ l, f.d.size ≤ maxLen) (hs : FS w ad l) :
    Calls Try.prog 18 #[.slice ad l.length c] w fun e w' => e = .returned (.bool (decide (2048 < wsumF l))) ∧ w = w' := by
  have HS := kp hs
  have HM := kp hd
  clear hs hd
  have hlm : l.length ≤ 9223372036854775807 := by unfold maxLen at hl; omega
  clear hl
  go_enter Try.func18, Try.ntmps18
  go_wp2
  go_loopw [3, 7] (fun n i wr => ∃ (j : Nat) (z : Int), j ≤ l.length ∧ i = .int .i64 (j : Int) ∧ n = .int .i64 z ∧ Kp (z = wsumF (l.take j)) ∧ wr = w) (fun _ i _ => l.length - (intOf i).toNat)
  case atStart => exact ⟨0, 0, by omega, rfl, rfl, kp rfl, rfl⟩
  case round =>
    obtain ⟨j, z, hj, rfl, rfl, HZ, rfl⟩ := hrel
    by_cases h : j < l.length
    · have g : decide ((j : Int) < (l.length : Int)) = true := by simp; omega
      obtain ⟨f, hf⟩ : ∃ f, l[j]? = some f := ⟨l[j], by simp [h]⟩
      obtain ⟨b, o, rfl, hb, hh⟩ := HS.out (fun e => by subst e; simp at h)
      obtain ⟨q0, q1⟩ := hh j f hf
      have hds : f.d.size ≤ 9223372036854775807 := by have := HM.out f (List.mem_of_getElem? hf); unfold maxLen at this; exact this
      have HZ2 := kp (wsumF_take hf)
      rw [← HZ.out] at HZ2
      have HFF := kp hf
      clear hh hf
      go_wp2
      go_roundw
      case measure => simp [intOf]; omega
      case rel =>
        exact ⟨j + 1, _, by omega, rfl, rfl, kp HZ2.out.symm, trivial⟩
    · have g : decide ((j : Int) < (l.length : Int)) = false := by simp; omega
      obtain rfl : j = l.length := by omega
      rw [List.take_length] at HZ
      have hz := HZ.out
      subst hz
      go_wp2
      go_ret
      exact ⟨rfl, rfl⟩
/-- are extensions the same? -/
def sameF : List Fd → List Fd → Bool
  | [], [] => true
  | f :: a, g :: b => (f.k == g.k) && (f.d.toList == g.d.toList) && sameF a b
  | _, _ => false
theorem sameF_len : ∀ (a b : List Fd), a.length ≠ b.length → sameF a b = false
  | [], [], h => absurd rfl h
  | [], _ :: _, _ => rfl
  | _ :: _, [], _ => rfl
  | f :: a, g :: b, h => by
    unfold sameF
    rw [sameF_len a b (by simpa using h), Bool.and_false]
theorem sameF_self : ∀ a : List Fd, sameF a a = true
  | [] => rfl
  | f :: a => by unfold sameF; rw [sameF_self a]; simp
theorem sameF_eq : ∀ (a b : List Fd), sameF a b = true → a = b
  | [], [], _ => rfl
  | [], _ :: _, h => by cases h
  | _ :: _, [], h => by cases h
  | f :: a, g :: b, h => by
    unfold sameF at h
    simp only [Bool.and_eq_true, beq_iff_eq, toList_beq, decide_eq_true_eq] at h
    obtain ⟨⟨h1, h2⟩, h3⟩ := h
    rw [sameF_eq a b h3]
    cases f
    cases g
    simp only at h1 h2
    subst h1
    have := ByteArray.toList_eq
    simp only [Fd.mk.injEq, List.cons.injEq, and_true, true_and]
    exact bs_inj (by rw [← toList_bs, ← toList_bs, h2])
theorem sameF_drop {a b : List Fd} {j : Nat} {f g : Fd} (hf : a[j]? = some f) (hg : b[j]? = some g) : sameF (a.drop j) (b.drop j) = ((f.k == g.k) && (f.d.toList == g.d.toList) && sameF (a.drop (j + 1)) (b.drop (j + 1))) := by
  obtain ⟨h1, rfl⟩ := List.getElem?_eq_some_iff.1 hf
  obtain ⟨h2, rfl⟩ := List.getElem?_eq_some_iff.1 hg
  rw [List.drop_eq_getElem_cons h1, List.drop_eq_getElem_cons h2]
  rfl
set_option maxHeartbeats 2000000 in
theorem R_Same (ad : Option Addr) (c : Nat) (l : List Fd) (ad2 : Option Addr) (c2 : Nat) (m : List Fd) (w : World) (hl : l.length ≤ maxLen) (hm : m.length ≤ maxLen) (hs : FS w ad l) (ht : FS w ad2 m) :
    Calls Try.prog 23 #[.slice ad l.length c, .slice ad2 m.length c2] w fun e w' => e = .returned (.bool (sameF l m)) ∧ Below w.heap.size w w' := by
  have hlm : l.length ≤ 9223372036854775807 := by unfold maxLen at hl; omega
  have hmm : m.length ≤ 9223372036854775807 := by unfold maxLen at hm; omega
  clear hl hm
  by_cases hlen : l.length = m.length
  · have gl : ((l.length : Int) == (m.length : Int)) = true := by simp; omega
    have HS := kp hs
    have HT := kp ht
    obtain ⟨R, hR⟩ : ∃ R, sameF l m = R := ⟨_, rfl⟩
    have HR : Kp (sameF (l.drop 0) (m.drop 0) = R) := kp hR
    rw [hR]
    clear hs ht hR
    rw [← hlen]
    go_enter Try.func23, Try.ntmps23
    go_wp2
    go_loopw [5] (fun i wr => ∃ j : Nat, j ≤ l.length ∧ i = .int .i64 (j : Int) ∧ Kp (FS wr ad l) ∧ Kp (FS wr ad2 m) ∧ Kp (Below w.heap.size w wr) ∧ Kp (sameF (l.drop j) (m.drop j) = R)) (fun i _ => l.length - (intOf i).toNat)
    case atStart => exact ⟨0, by omega, rfl, HS, HT, kp (Below.refl _ _), HR⟩
    case round =>
      clear HS HT HR
      obtain ⟨j, hj, rfl, HS, HT, HB, HR⟩ := hrel
      by_cases h : j < l.length
      · have g : decide ((j : Int) < (l.length : Int)) = true := by simp; omega
        obtain ⟨f, hf⟩ : ∃ f, l[j]? = some f := ⟨l[j], by simp [h]⟩
        obtain ⟨f', hf'⟩ : ∃ f, m[j]? = some f := ⟨m[j]'(by omega), by simp⟩
        obtain ⟨b, o, rfl, hb, hh⟩ := HS.out (fun e => by subst e; simp at h)
        obtain ⟨b', o', rfl, hb', hh'⟩ := HT.out (fun e => by subst e; rw [List.length_nil] at hlen; omega)
        obtain ⟨q0, q1⟩ := hh j f hf
        obtain ⟨q2, q3⟩ := hh' j f' hf'
        have HR2 := kp (HR.out)
        rw [sameF_drop hf hf'] at HR2
        clear hh hf hh' hf'
        go_upto_region 6 with (fail)
        refine wp_region_ext [0, 1, 2, 3, 4, 5, 6, 7] [8] (by kernel_rfl) (by kernel_rfl) ?_
        simp only [List.append_eq, List.cons_append, List.nil_append, List.map_cons, List.map_nil, List.getD_cons_succ, List.getD_cons_zero]
        repeat (go_big_quiet_step (fail))
        refine wpQuiet_nil ?_
        rintro z
        have HS := kp (HS.out.bel (ext_below wr z))
        have HT := kp (HT.out.bel (ext_below wr z))
        have HB := kp (bt' HB.out (ext_below wr z) HB.out.size)
        generalize wr.ext z = V at HS HT HB ⊢
        have HR2 := HR2
        cases h1 : (f.k == f'.k) with
        | false =>
          rw [h1, Bool.false_and, Bool.false_and] at HR2
          have hR := HR2.out
          subst hR
          go_wp2
          go_ret
          exact ⟨rfl, HB.out⟩
        | true =>
          rw [h1, Bool.true_and] at HR2
          cases h2 : (f.d.toList == f'.d.toList) with
          | false =>
            rw [h2, Bool.false_and] at HR2
            have hR := HR2.out
            subst hR
            go_wp2
            go_ret
            exact ⟨rfl, HB.out⟩
          | true =>
            rw [h2, Bool.true_and] at HR2
            go_wp2
            go_roundw
            case measure => simp [intOf]; omega
            case rel => exact ⟨j + 1, by omega, rfl, HS, HT, HB, HR2⟩
      · have g : decide ((j : Int) < (l.length : Int)) = false := by simp; omega
        obtain rfl : j = l.length := by omega
        rw [List.drop_length, hlen, List.drop_length] at HR
        have hR := HR.out
        subst hR
        go_wp2
        go_ret
        exact ⟨rfl, HB.out⟩
  · rw [sameF_len l m hlen]
    have gl : ((l.length : Int) == (m.length : Int)) = false := by simp; omega
    go_enter Try.func23, Try.ntmps23
    go_wp2
    go_ret
    exact ⟨rfl, Below.refl _ _⟩
end Go.Proofs.Ytoifkfhbinfplaa
