/- OctetParts: the walk. -/
import Derived.Test.YtlljndojbhopfaaOct5
namespace Go.Proofs.Ytlljndojbhopfaa
open Go Go.RowKit
set_option linter.unusedVariables false
set_option linter.unusedSimpArgs false
attribute [local go_sem] bmax2 bmin2 bmax bmin

theorem ref01_Parts_none (s : ByteArray) (n : Int) (w : World) (hn : n < 1) :
    Calls Try.prog 39 #[.string s, .int .i64 n] w fun e w' => e = .returned (.slice (some ⟨w.heap.size, 0, none⟩) 0 0) ∧ Below w.heap.size w w' := by
  go_enter Try.func39, Try.ntmps39
  go_wp2
  go_ret
  exact ⟨rfl, ba (Below.refl _ _) _⟩
theorem octet_Pad_none (s : ByteArray) (n : Int) (w : World) (hn : n < 1) :
    Calls Try.prog 40 #[.string s, .int .i64 n] w fun e w' => e = .returned (.string s) ∧ Below w.heap.size w w' := by
  go_enter Try.func40, Try.ntmps40
  go_wp2
  go_ret
  exact ⟨rfl, Below.refl _ _⟩
theorem ref01_Pad_none (s : ByteArray) (n : Int) (w : World) (hn : n < 1) :
    Calls Try.prog 41 #[.string s, .int .i64 n] w fun e w' => e = .returned (.string s) ∧ w' = w := by
  go_enter Try.func41, Try.ntmps41
  go_wp2
  go_loop [0] (fun t => t = .string s) (fun _ => 0)
  case atStart => rfl
  case round =>
    subst hrel
    go_wp2
    go_ret
    exact ⟨rfl, rfl⟩

/-- what both Pads tell -/
theorem pads (s : ByteArray) (t : Int) (hs : s.size ≤ 1024) (ht : t ≤ 4096) : ∃ T : ByteArray,
    (∀ w, Calls Try.prog 40 #[.string s, .int .i64 t] w fun e w' => e = .returned (.string T) ∧ Below w.heap.size w w') ∧
    (∀ w, Calls Try.prog 41 #[.string s, .int .i64 t] w fun e w' => e = .returned (.string T) ∧ w' = w) := by
  by_cases h : t < 1
  · exact ⟨s, fun w => octet_Pad_none s t w h, fun w => ref01_Pad_none s t w h⟩
  · obtain ⟨n, rfl⟩ : ∃ n : Nat, t = n := ⟨t.toNat, by omega⟩
    exact ⟨_, fun w => octet_Pad_any s n w (by omega) (by omega) (by omega), fun w => ref01_Pad_any s n w (by omega) (by omega) (by omega)⟩

/-- n texts lie at a slice -/
def Texts (w : World) (v : Value) (l : List (List UInt8)) : Prop :=
  ∃ a cap, v = .slice a l.length cap ∧ ∀ i (h : i < l.length), ∃ g, a = some ⟨g, 0, none⟩ ∧ g < w.heap.size ∧ w.cell? ⟨g, i, none⟩ = some (.string (str l[i]))
theorem Texts.of_own {w : World} {base : Nat} {e : TypeId} {v : Value} {l : List (List UInt8)} (h : w.ownsRow base e 1 v l.length (strVals l)) : Texts w v l := by
  rcases h.2 with ⟨rfl, h0⟩ | ⟨g, cap, cur, rfl, _⟩
  · exact ⟨none, 0, by rw [h0], fun i hi => by omega⟩
  · refine ⟨_, cap, rfl, fun i hi => ⟨g, rfl, (h.lt g rfl).2, ?_⟩⟩
    rw [h.cellAt i (by omega)]
    simp [strVals, hi]
theorem Texts.below {w w' : World} {v : Value} {l : List (List UInt8)} (h : Texts w v l) (hb : Below w.heap.size w w') : Texts w' v l := by
  obtain ⟨a, cap, rfl, hc⟩ := h
  refine ⟨a, cap, rfl, fun i hi => ?_⟩
  obtain ⟨g, h1, h2, h3⟩ := hc i hi
  exact ⟨g, h1, Nat.lt_of_lt_of_le h2 hb.size, cell_later hb h3⟩

theorem parts_two (s : ByteArray) (n : Int) (hs : s.size ≤ 1024) (hn : n ≤ 9223372036854775807) : ∃ l : List (List UInt8), l.length ≤ 1024 ∧
    (∀ w, Calls Try.prog 38 #[.string s, .int .i64 n] w fun e w' => ∃ v, e = .returned v ∧ Texts w' v l ∧ Below w.heap.size w w') ∧
    (∀ w, Calls Try.prog 39 #[.string s, .int .i64 n] w fun e w' => ∃ v, e = .returned v ∧ Texts w' v l ∧ Below w.heap.size w w') := by
  by_cases h : n < 1
  · refine ⟨[], by simp, fun w => (octet_Parts_none s n w h).mono ?_, fun w => (ref01_Parts_none s n w h).mono ?_⟩
    · rintro e w' ⟨rfl, rfl⟩
      exact ⟨_, rfl, ⟨none, 0, rfl, fun i hi => by simp at hi⟩, Below.refl _ _⟩
    · rintro e w' ⟨rfl, hb⟩
      exact ⟨_, rfl, ⟨_, 0, rfl, fun i hi => by simp at hi⟩, hb⟩
  · obtain ⟨k, rfl⟩ : ∃ k : Nat, n = k := ⟨n.toNat, by omega⟩
    refine ⟨chunks k (bs s), Nat.le_trans (chunks_length k (by omega) _ _ (Nat.le_refl _)) (by rw [size_bs]; exact hs), fun w => (octet_Parts_some s k w (by omega) (by omega) (by omega)).mono ?_, fun w => (ref01_Parts_some s k w (by omega) (by omega) (by omega)).mono ?_⟩
    all_goals
      rintro e w' ⟨v, rfl, ho, hb⟩
      exact ⟨v, rfl, Texts.of_own ho, hb⟩

set_option maxRecDepth 100000 in
theorem OctetParts_walk (s : ByteArray) (n t : Int) (ws : s.size ≤ maxLen) (wn : (Lit.int .i64 n).wf = true) (wt : (Lit.int .i64 t).wf = true) (w : World) :
    Calls Try.prog 8 #[.string s, .int .i64 n, .int .i64 t] w fun e w' => e = .returned (.bool true) ∧ Below w.heap.size w w' := by
  have hn := (wf_i64 wn).2
  have ht := (wf_i64 wt).2
  clear ws wn wt
  by_cases hla : (1024 : Int) < (s.size : Int)
  · go_enter Try.func8, Try.ntmps8
    go_wp2_with fail
    refine (octet_awake w).mono ?_
    rintro e w' ⟨rfl, hb⟩
    go_wp2
    go_ret
    exact ⟨rfl, hb⟩
  by_cases hlt : (4096 : Int) < t
  · go_enter Try.func8, Try.ntmps8
    go_wp2_with fail
    refine (octet_awake w).mono ?_
    rintro e w' ⟨rfl, hb⟩
    go_wp2
    go_ret
    exact ⟨rfl, hb⟩
  obtain ⟨T, P1, P2⟩ := pads s t (by omega) (by omega)
  obtain ⟨l, hl, Q1, Q2⟩ := parts_two s n (by omega) hn
  have P1' := hid P1
  have P2' := hid P2
  have Q1' := hid Q1
  have Q2' := hid Q2
  clear P1 P2 Q1 Q2
  go_enter Try.func8, Try.ntmps8
  go_wp2_with fail
  refine (octet_awake w).mono ?_
  rintro e w1 ⟨rfl, hb⟩
  have HB := hid hb
  clear hb
  go_wp2_with fail
  refine (Q1'.out _).mono ?_
  rintro e w2 ⟨v1, rfl, hv1, hb2⟩
  have HB2 := hid (bt HB.out hb2)
  have HV1 := hid hv1
  clear hb2 hv1
  go_wp2_with fail
  refine (Q2'.out _).mono ?_
  rintro e w3 ⟨v2, rfl, hv2, hb3⟩
  have HB3 := hid (bt HB2.out hb3)
  obtain ⟨a1, c1, rfl, hc1⟩ := HV1.out.below hb3
  obtain ⟨a2, c2, rfl, hc2⟩ := hv2
  have HC1 := hid hc1
  have HC2 := hid hc2
  clear hb3 hc1 hc2
  go_wp2_with fail
  go_loopw [32] (fun i wr => ∃ k m : Nat, k ≤ l.length ∧ i = .int .i64 k ∧ wr = w3.drewN m) (fun i _ => l.length - (intOf i).toNat)
  case atStart => exact ⟨0, 0, Nat.zero_le _, rfl, rfl⟩
  case round =>
    obtain ⟨k, m, hk, rfl, rfl⟩ := hrel
    by_cases hlt : k < l.length
    · obtain ⟨g1, rfl, hg1, x1⟩ := HC1.out k hlt
      obtain ⟨g2, rfl, hg2, x2⟩ := HC2.out k hlt
      obtain ⟨S, hS⟩ : ∃ S, str l[k] = S := ⟨_, rfl⟩
      rw [hS] at x1 x2
      clear hS
      have i1 : (k : Int) < (l.length : Int) := by omega
      have i2 : (0 : Int) ≤ (k : Int) := by omega
      go_wp2
      go_quiet (fail)
      go_wp2
      go_roundw
      case measure => simp [intOf]; omega
      case rel => exact ⟨k + 1, m + nq, by omega, by go_num, rfl⟩
    · go_wp2_with fail
      refine (P1'.out _).mono ?_
      rintro e w4 ⟨rfl, hb4⟩
      have HB4 := hid (bt (bd HB3.out m) hb4)
      clear hb4
      go_wp2_with fail
      refine (P2'.out _).mono ?_
      rintro e w5 ⟨rfl, rfl⟩
      go_wp2
      go_ret
      exact ⟨rfl, HB4.out⟩
end Go.Proofs.Ytlljndojbhopfaa
