/- FilterBest: the walk. -/
import Derived.Test.YtlljndojbhopfaaFil8
namespace Go.Proofs.Ytlljndojbhopfaa
open Go Go.RowKit
set_option linter.unusedVariables false
set_option linter.unusedSimpArgs false
attribute [local go_sem] bmax2 bmin2 bmax bmin cell_ext frozen_ext

/-- the samples of an argument -/
def SmpArg (w : World) (ad : Option Addr) (l : List Smp) : Prop := l.length ≤ maxLen ∧ (∀ s ∈ l, wfS s) ∧ (l ≠ [] → ∃ b o, ad = some ⟨b, o, none⟩ ∧ b < w.heap.size ∧ Holds w b o l)

theorem fill_bad (g : Int) (ad : Option Addr) (c : Nat) (l : List Smp) (w : World) (hg : g < 1 ∨ 1125899906842624 < g) (hl : l.length ≤ maxLen) :
    Calls Try.prog 30 #[.int .i64 g, .slice ad l.length c] w fun e w' => e = .returned (.pointer none) ∧ Below w.heap.size w w' := by
  unfold maxLen at hl
  go_enter Try.func30, Try.ntmps30
  go_wp2_with fail
  refine (New_bad g w hg).mono ?_
  rintro e w1 ⟨rfl, rfl⟩
  go_wp2_with fail
  go_loop [7] (fun i => i = .int .i64 0) (fun _ => 0)
  case atStart => rfl
  case round =>
    subst hrel
    by_cases h0 : (0 : Int) < (l.length : Int)
    · go_wp2
      go_ret
      exact ⟨rfl, Below.refl _ _⟩
    · go_wp2
      go_ret
      exact ⟨rfl, Below.refl _ _⟩

set_option maxHeartbeats 1000000 in
set_option maxRecDepth 100000 in
theorem fill_good (g : Int) (ad : Option Addr) (c : Nat) (l : List Smp) (w : World) (hg1 : 1 ≤ g) (hg2 : g ≤ 1125899906842624) (hl : SmpArg w ad l) :
    Calls Try.prog 30 #[.int .i64 g, .slice ad l.length c] w fun e w' => e = .returned (.pointer (some ⟨w.heap.size, 0, none⟩)) ∧ (∃ L r, Fil w' w.heap.size g L r) ∧ Below w.heap.size w w' := by
  obtain ⟨hlen, hok, hh⟩ := hl
  unfold maxLen at hlen
  have HOK := hid hok
  have HH := hid hh
  clear hok hh
  go_enter Try.func30, Try.ntmps30
  go_wp2_with fail
  refine (New_good g w hg1 hg2).mono ?_
  rintro e w1 ⟨rfl, hf, hb⟩
  have F1 := hid (Fil_new hf hg1 hg2)
  have B1 := hid hb
  clear hf hb
  go_wp2_with fail
  go_loopw [7] (fun i wr => ∃ (k : Nat), k ≤ l.length ∧ k ≤ 60 ∧ i = .int .i64 k ∧ Hid (Below w.heap.size w wr) ∧ ∃ L r, Hid (Fil wr w.heap.size g L r)) (fun i _ => 60 - (intOf i).toNat)
  case atStart => exact ⟨0, Nat.zero_le _, Nat.zero_le _, rfl, B1, _, _, F1⟩
  case round =>
    obtain ⟨k, hk, hk6, rfl, hbl, L, r, hf⟩ := hrel
    clear B1 F1
    by_cases h1 : (k : Int) < (l.length : Int)
    · by_cases h2 : (k : Int) < 60
      · obtain ⟨ab, ao, rfl, hab, hhi⟩ := HH.out (fun e => by subst e; simp at h1; omega)
        obtain ⟨y, hy⟩ : ∃ y, l[k]? = some y := ⟨_, List.getElem?_eq_getElem (by omega)⟩
        have hwy := hid (HOK.out y (List.mem_of_getElem? hy))
        obtain ⟨c0, c1, c2⟩ := (hhi.below hbl.out) k y hy
        have hcb := World.block_lt_of_cell? wr _ c0
        have i2 : (0 : Int) ≤ (k : Int) := by omega
        clear hhi hy
        go_wp2_with fail
        refine (Add_F hf.out y).mono ?_
        rintro e w3 ⟨rfl, hf3, hg3⟩
        have F3 := hid hf3
        have B3 := hid (bgb hbl.out hg3 (Nat.le_refl _) hbl.out.size)
        clear hf3 hg3 c0 c1 c2
        go_wp2
        go_roundw
        case measure => simp [intOf]; omega
        case rel => exact ⟨k + 1, by omega, by omega, by go_num, B3, _, _, F3⟩
      · go_wp2
        go_ret
        exact ⟨rfl, ⟨L, r, hf.out⟩, hbl.out⟩
    · go_wp2
      go_ret
      exact ⟨rfl, ⟨L, r, hf.out⟩, hbl.out⟩

theorem le_minS (x : Smp) (l : List Smp) : (minS x l).del ≤ x.del ∧ ∀ s ∈ l, (minS x l).del ≤ s.del := by
  induction l generalizing x with
  | nil => simp [minS]
  | cons y l ih =>
    show (minS (if y.del < x.del then y else x) l).del ≤ x.del ∧ ∀ s ∈ y :: l, (minS (if y.del < x.del then y else x) l).del ≤ s.del
    have h := ih (if y.del < x.del then y else x)
    have h1 := h.1
    refine ⟨?_, ?_⟩
    · split at h1 <;> rename_i hc
      · rw [if_pos hc]; omega
      · rw [if_neg hc]; omega
    · intro s hs
      rcases List.mem_cons.1 hs with rfl | hs
      · split at h1 <;> rename_i hc
        · rw [if_pos hc]; omega
        · rw [if_neg hc]; omega
      · exact h.2 s hs
/-- the first of the least ones is the best one -/
theorem first_min (x : Smp) : ∀ (l : List Smp) (k : Nat) (y : Smp), (x :: l)[k]? = some y → (∀ s ∈ (x :: l).take k, s.del ≠ (minS x l).del) → y.del = (minS x l).del → y = minS x l := by
  intro l
  induction l generalizing x with
  | nil =>
    intro k y hk _ _
    cases k with
    | zero => simp at hk; subst hk; rfl
    | succ k => simp at hk
  | cons z l ih =>
    intro k y hk hn he
    have hle := le_minS (if z.del < x.del then z else x) l
    have e : minS x (z :: l) = minS (if z.del < x.del then z else x) l := rfl
    rw [e] at hn he ⊢
    by_cases hc : z.del < x.del
    · rw [if_pos hc] at hn he hle ⊢
      cases k with
      | zero => simp at hk; subst hk; exfalso; omega
      | succ k => exact ih z k y (by simpa using hk) (fun s hs => hn s (by simp [hs])) he
    · rw [if_neg hc] at hn he hle ⊢
      cases k with
      | zero => exact ih x 0 y hk (by simp) he
      | succ k =>
        cases k with
        | zero =>
          simp at hk; subst hk
          exfalso
          have := hn x (by simp)
          omega
        | succ k =>
          refine ih x (k + 1) y (by simpa using hk) (fun s hs => hn s ?_) he
          rw [List.take_succ_cons] at hs ⊢
          rw [List.take_succ_cons]
          rcases List.mem_cons.1 hs with rfl | hs
          · simp
          · simp [hs]
theorem best_le (L : List Smp) : ∀ s ∈ L, (best L).del ≤ s.del := by
  cases L with
  | nil => simp
  | cons x l =>
    intro s hs
    have := le_minS x l
    rcases List.mem_cons.1 hs with rfl | h
    · exact this.1
    · exact this.2 s h
theorem best_first (L : List Smp) (k : Nat) (y : Smp) (hk : L[k]? = some y) (hn : ∀ s ∈ L.take k, s.del ≠ (best L).del) (he : y.del = (best L).del) : y = best L := by
  cases L with
  | nil => simp at hk
  | cons x l => exact first_min x l k y hk hn he
theorem fold_max_ge (B : Int) : ∀ (l : List Smp) (m : Int), m ≤ l.foldl (fun m s => max m (dist s.off B)) m ∧ ∀ s ∈ l, dist s.off B ≤ l.foldl (fun m s => max m (dist s.off B)) m
  | [], m => by simp
  | x :: l, m => by
    have h := fold_max_ge B l (max m (dist x.off B))
    refine ⟨Int.le_trans (Int.le_max_left _ _) h.1, fun s hs => ?_⟩
    rcases List.mem_cons.1 hs with rfl | hs
    · exact Int.le_trans (Int.le_max_right _ _) h.1
    · exact h.2 s hs
theorem fold_max_at (B : Int) : ∀ (l : List Smp) (m : Int), l.foldl (fun m s => max m (dist s.off B)) m = m ∨ ∃ s ∈ l, dist s.off B = l.foldl (fun m s => max m (dist s.off B)) m
  | [], m => Or.inl rfl
  | x :: l, m => by
    rcases fold_max_at B l (max m (dist x.off B)) with h | ⟨s, hs, h⟩
    · by_cases hc : m ≤ dist x.off B
      · refine Or.inr ⟨x, by simp, ?_⟩
        show _ = l.foldl _ (max m (dist x.off B))
        rw [h, Int.max_eq_right hc]
      · left
        show l.foldl _ (max m (dist x.off B)) = m
        rw [h, Int.max_eq_left (by omega)]
    · exact Or.inr ⟨s, by simp [hs], h⟩
theorem jit_ge (L : List Smp) : ∀ s ∈ L, dist s.off (best L).off ≤ jit L := (fold_max_ge _ L 0).2
theorem jit_at (L : List Smp) (h : L ≠ []) : ∃ s ∈ L, dist s.off (best L).off = jit L := by
  rcases fold_max_at (best L).off L 0 with h0 | h0
  · refine ⟨best L, ?_, ?_⟩
    · cases L with
      | nil => exact absurd rfl h
      | cons x t => exact minS_mem x t
    · show _ = L.foldl _ 0
      rw [h0]; unfold dist; split <;> omega
  · exact h0

theorem dist_maxmin (a b : Int) : max a b - min a b = dist a b := by unfold dist; split <;> omega

set_option maxHeartbeats 4000000 in
set_option maxRecDepth 100000 in
theorem FilterBest_walk (w : World) (g : Int) (ad : Option Addr) (c : Nat) (l : List Smp) (wg : (Lit.int .i64 g).wf = true) (h : SmpArg w ad l) :
    Calls Try.prog 4 #[.int .i64 g, .slice ad l.length c] w fun e w' => e = .returned (.bool true) ∧ Below w.heap.size w w' := by
  have hll := h.1
  have HA : Hid (∀ w', Below w.heap.size w w' → SmpArg w' ad l) := hid (fun w' hb => ⟨h.1, h.2.1, fun hne => by
    obtain ⟨b, o, he, hlt, hh⟩ := h.2.2 hne
    exact ⟨b, o, he, Nat.lt_of_lt_of_le hlt hb.size, hh.below hb⟩⟩)
  clear h wg
  by_cases hg : g < 1 ∨ 1125899906842624 < g
  · by_cases hg1 : g < 1
    · go_enter Try.func4, Try.ntmps4
      go_wp2_with fail
      refine (awake15 w).mono ?_
      rintro e w1 ⟨rfl, hb⟩
      have B1 := hid hb
      clear hb
      go_wp2_with fail
      refine (fill_bad g ad c l w1 hg hll).mono ?_
      rintro e w2 ⟨rfl, hb⟩
      have B2 := hid (bt B1.out hb)
      clear hb
      go_wp2
      go_ret
      exact ⟨rfl, B2.out⟩
    · have hg2 : 1125899906842624 < g := by omega
      go_enter Try.func4, Try.ntmps4
      go_wp2_with fail
      refine (awake15 w).mono ?_
      rintro e w1 ⟨rfl, hb⟩
      have B1 := hid hb
      clear hb
      go_wp2_with fail
      refine (fill_bad g ad c l w1 hg hll).mono ?_
      rintro e w2 ⟨rfl, hb⟩
      have B2 := hid (bt B1.out hb)
      clear hb
      go_wp2
      go_ret
      exact ⟨rfl, B2.out⟩
  have hg1 : 1 ≤ g := by omega
  have hg2 : g ≤ 1125899906842624 := by omega
  clear hg
  go_enter Try.func4, Try.ntmps4
  go_wp2_with fail
  refine (awake15 w).mono ?_
  rintro e w1 ⟨rfl, hb⟩
  have B1 := hid hb
  clear hb
  go_wp2_with fail
  refine (fill_good g ad c l w1 hg1 hg2 (HA.out _ B1.out)).mono ?_
  rintro e w2 ⟨rfl, ⟨L, r, hf⟩, hb⟩
  have F2 := hid hf
  have B2 := hid (bt B1.out hb)
  clear hb hf
  generalize w1.heap.size = b at F2 ⊢
  go_wp2_with fail
  refine (Samples_F F2.out).mono ?_
  rintro e w3 ⟨v, rfl, ⟨gg, cc, rfl, k1, k2, k3, k4, k5⟩, hb⟩
  have F3 := hid (F2.out.below hb)
  have B3 := hid (bt B2.out hb)
  have H3 := hid k5
  have hL8 := F3.out.len
  clear hb k5 k3 F2
  go_wp2_with fail
  refine (Best_F F3.out).mono ?_
  rintro e w4 ⟨rfl, hb⟩
  have F4 := hid (F3.out.below hb)
  have B4 := hid (bt B3.out hb)
  have H4 := hid (H3.out.below hb)
  have k4' : gg < w4.heap.size := by have := hb.size; omega
  clear hb H3 F3 k4
  unfold Smp.val
  obtain ⟨B, hB⟩ : ∃ B, B = best L := ⟨_, rfl⟩
  rw [← hB]
  have HB := hid hB
  clear hB
  have X5 := hid (Box3.new w4 B 32)
  have F5 := hid (F4.out.below (ba (Below.refl _ _) (.cells #[.int .i64 B.off, .int .i64 B.del, .int .i64 B.bnd] 32)))
  have B5 := hid (ba B4.out (.cells #[.int .i64 B.off, .int .i64 B.del, .int .i64 B.bnd] 32))
  have H5 := hid (H4.out.below (ba (Below.refl _ _) (.cells #[.int .i64 B.off, .int .i64 B.del, .int .i64 B.bnd] 32)))
  clear F4 H4
  have d1 : ((decide (0 < L.length)) != (decide ((0 : Int) < (L.length : Int)))) = false := by simp
  have d2 : decide ((8 : Int) < (L.length : Int)) = false := decide_eq_false (by omega)
  have d3 : ¬ (8 : Int) < (L.length : Int) := by omega
  go_wp2
  have hX := X5.out.lt
  generalize (w4.alloc _) = W at F5 B5 H5 X5 hX ⊢
  have hwx : w.heap.size ≤ w4.heap.size := B4.out.size
  have k5' : gg < W.heap.size := by omega
  generalize w4.heap.size = bx at X5 hX hwx ⊢
  clear B4
  go_loopw [9, 10, 12, 13, 49] (fun fi tv xp xd i wr => ∃ (k : Nat) (fb tb : Bool), k ≤ L.length ∧ i = .int .i64 k ∧ fi = .bool fb ∧ tv = .bool tb ∧ Hid (fb = (L.take k).any (fun s => s.del == B.del)) ∧ Hid (tb = (decide (L = []) || (L.take k).any (fun s => dist s.off B.off == jit L))) ∧ Hid (Below W.heap.size W wr)) (fun _ _ _ _ i _ => L.length - (intOf i).toNat)
  case atStart => exact ⟨0, false, decide (L = []), Nat.zero_le _, rfl, rfl, by cases L with | nil => rfl | cons x t => simp; omega, by simp [Hid], by simp [Hid], hid (Below.refl _ _)⟩
  case round =>
    obtain ⟨k, fb, tb, hk, rfl, rfl, rfl, hfb, htb, hbl⟩ := hrel
    by_cases hlt : k < L.length
    · obtain ⟨y, hy⟩ : ∃ y, L[k]? = some y := ⟨_, List.getElem?_eq_getElem hlt⟩
      have hym := List.mem_of_getElem? hy
      obtain ⟨c0, c1, c2⟩ := (H5.out.below hbl.out) k y hy
      rw [Nat.zero_add] at c0 c1 c2
      have hcb := World.block_lt_of_cell? wr _ c0
      have i1 : (k : Int) < (L.length : Int) := by omega
      have i2 : (0 : Int) ≤ (k : Int) := by omega
      have hyok := F5.out.ok y hym
      have hBok : okS B := by rw [HB.out]; exact best_ok F5.out.ok
      have hdj := jit_ge L y hym
      rw [← HB.out] at hdj
      have hle := best_le L y hym
      rw [← HB.out] at hle
      have e1 : max y.off B.off - min y.off B.off = dist y.off B.off := dist_maxmin _ _
      have hdb := dist_le hyok.1 hyok.2.1 hBok.1 hBok.2.1
      obtain ⟨oy1, oy2, _⟩ := hyok
      obtain ⟨oB1, oB2, _⟩ := hBok
      have HY := hid hy
      clear hy hym
      have XB := hid (X5.out.below hbl.out)
      have HXB := XB.out.lt
      have XY := hid (Box3.new wr y 32)
      have FY := hid ((F5.out.below hbl.out).below (ba (Below.refl _ _) (.cells #[.int .i64 y.off, .int .i64 y.del, .int .i64 y.bnd] 32)))
      have hlt2 : ¬ y.del < B.del := by omega
      have hd2 : ¬ jit L < dist y.off B.off := by omega
      obtain ⟨⟨x0, x1, x2⟩, _⟩ := XB.out
      obtain ⟨d, hd⟩ : ∃ d, d = dist y.off B.off := ⟨_, rfl⟩
      rw [← hd] at e1 hdj hdb hd2
      have HD := hid hd
      clear hd
      obtain ⟨J, hJ⟩ : ∃ J, J = jit L := ⟨_, rfl⟩
      have JT := hid (fun (w : World) (h : Fil w b g L r) => Jit_F h)
      rw [← hJ] at JT hdj hd2
      have HJ := hid hJ
      clear hJ hdj
      have hcase : (y.del ≠ B.del ∧ fb = true) ∨ (y.del ≠ B.del ∧ fb = false) ∨ (y.del = B.del ∧ fb = true) ∨ (y = B ∧ fb = false) := by
        by_cases he : y.del = B.del
        · cases fb with
          | true => exact Or.inr (Or.inr (Or.inl ⟨he, rfl⟩))
          | false =>
            refine Or.inr (Or.inr (Or.inr ⟨?_, rfl⟩))
            rw [HB.out]
            refine best_first L k y HY.out (fun s hs e => ?_) (by rw [← HB.out]; exact he)
            have := hfb.out
            rw [eq_comm, List.any_eq_false] at this
            exact this s hs (by rw [HB.out]; simpa using e)
        · cases fb with
          | true => exact Or.inl ⟨he, rfl⟩
          | false => exact Or.inr (Or.inl ⟨he, rfl⟩)
      rcases hcase with ⟨he, rfl⟩ | ⟨he, rfl⟩ | ⟨he, rfl⟩ | ⟨rfl, rfl⟩
      case' inl =>
        have hb : (y.del == B.del) = false := by simpa using he
        have hfk : ((L.take (k + 1)).any fun s => s.del == B.del) = true := by rw [List.take_add_one, List.any_append, HY.out, ← hfb.out]; simp [hb]
        have hHe := hid he
      case' inr.inl =>
        have hb : (y.del == B.del) = false := by simpa using he
        have hfk : ((L.take (k + 1)).any fun s => s.del == B.del) = false := by rw [List.take_add_one, List.any_append, HY.out, ← hfb.out]; simp [hb]
        have hHe := hid he
      case' inr.inr.inl =>
        have hb : (y.del == B.del) = true := by simpa using he
        have hfk : ((L.take (k + 1)).any fun s => s.del == B.del) = true := by rw [List.take_add_one, List.any_append, HY.out, ← hfb.out]; simp
        have hHe := hid he
      case' inr.inr.inr =>
        have hb : True := trivial
        have hfk : ((L.take (k + 1)).any fun s => s.del == y.del) = true := by rw [List.take_add_one, List.any_append, HY.out]; simp
        have he : True := trivial
        obtain rfl : d = 0 := by rw [HD.out]; unfold dist; split <;> omega
      all_goals
        clear he
        have HFK := hid hfk
        clear hfk
        go_wp2_with fail
        refine (JT.out _ FY.out).mono ?_
        rintro e w6 ⟨rfl, hb6⟩
        have B6 := hid (bt (ba hbl.out (.cells #[.int .i64 y.off, .int .i64 y.del, .int .i64 y.bnd] 32)) hb6)
        have XB6 := hid ((XB.out.old (.cells #[.int .i64 y.off, .int .i64 y.del, .int .i64 y.bnd] 32)).below hb6)
        have XY6 := hid (XY.out.below hb6)
        have FY6 := hid (FY.out.below hb6)
        have hXB6 := XB6.out.lt
        have hXY6 := XY6.out.lt
        clear hb6 x0 x1 x2
        obtain ⟨⟨x0, x1, x2⟩, _⟩ := XB6.out
        obtain ⟨⟨z0, z1, z2⟩, _⟩ := XY6.out
        cases tb with
        | true =>
          go_wp2
          go_roundw
          case measure => simp [intOf]; omega
          case rel =>
            refine ⟨k + 1, _, _, by omega, by go_num, rfl, rfl, hid HFK.out.symm, hid ?_, B6⟩
            rw [eq_comm, Bool.or_eq_true]
            have h := htb.out.symm
            rw [Bool.or_eq_true] at h
            rcases h with h | h
            · exact Or.inl h
            · right
              rw [List.take_add_one, List.any_append, h]; rfl
        | false =>
          go_wp2_with fail
          refine (JT.out _ FY6.out).mono ?_
          rintro e w7 ⟨rfl, hb7⟩
          have B7 := hid (bt B6.out hb7)
          clear hb7
          go_wp2
          go_roundw
          case measure => simp [intOf]; omega
          case rel =>
            refine ⟨k + 1, _, _, by omega, by go_num, rfl, rfl, hid HFK.out.symm, hid ?_, B7⟩
            have ht := htb.out.symm
            rw [Bool.or_eq_false_iff] at ht
            rw [List.take_add_one, List.any_append, ht.1, ht.2, HY.out, HJ.out, HD.out]
            simp
    · obtain rfl : k = L.length := by omega
      have ht : tb = true := by
        rw [htb.out, List.take_length]
        by_cases hL : L = []
        · simp [hL]
        · obtain ⟨s, hs, he⟩ := jit_at L hL
          rw [Bool.or_eq_true]
          right
          exact List.any_eq_true.2 ⟨s, hs, by rw [HB.out]; simpa using he⟩
      subst ht
      go_wp2
      go_ret
      exact ⟨rfl, bt' B5.out hbl.out B5.out.size⟩
end Go.Proofs.Ytlljndojbhopfaa
