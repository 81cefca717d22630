/- filter: Add. -/
import Derived.Test.YtlljndojbhopfaaFil3
namespace Go.Proofs.Ytlljndojbhopfaa
open Go Go.RowKit
set_option linter.unusedVariables false
set_option linter.unusedSimpArgs false
attribute [local go_sem] bmax2 bmin2 bmax bmin cell_ext frozen_ext

theorem within_any (n low : Int) (w : World) :
    Calls Try.prog 43 #[.int .i64 n, .int .i64 low] w fun e w' => e = .returned (.bool (decide (low ≤ n) && decide (n ≤ 1152921504606846976))) ∧ w = w' := by
  by_cases h1 : low ≤ n
  · by_cases h2 : n ≤ 1152921504606846976
    · go_enter Try.func43, Try.ntmps43
      go_wp2
      go_ret
      exact ⟨by simp [h1, h2], rfl⟩
    · go_enter Try.func43, Try.ntmps43
      go_wp2
      go_ret
      exact ⟨by simp [h1, h2], rfl⟩
  · go_enter Try.func43, Try.ntmps43
    go_wp2
    go_ret
    exact ⟨by simp; omega, rfl⟩
theorem within_yes (n low : Int) (h1 : low ≤ n) (h2 : n ≤ 1152921504606846976) (w : World) :
    Calls Try.prog 43 #[.int .i64 n, .int .i64 low] w fun e w' => e = .returned (.bool true) ∧ w = w' := by
  have := within_any n low w
  rw [decide_eq_true h1, decide_eq_true h2] at this
  exact this
theorem within_no (n low : Int) (h : ¬ (low ≤ n ∧ n ≤ 1152921504606846976)) (w : World) :
    Calls Try.prog 43 #[.int .i64 n, .int .i64 low] w fun e w' => e = .returned (.bool false) ∧ w = w' := by
  have := within_any n low w
  rw [← Bool.decide_and, decide_eq_false h] at this
  exact this

set_option maxRecDepth 100000 in
theorem Add_bad (b : Nat) (s : Smp) (w : World) (hs : ¬ okS s) :
    Calls Try.prog 18 #[.pointer (some ⟨b, 0, none⟩), s.val] w fun e w' => e = .returned (.tuple #[.bool false, .int .i64 3]) ∧ Below w.heap.size w w' := by
  unfold Smp.val
  by_cases h1 : -1152921504606846976 ≤ s.off ∧ s.off ≤ 1152921504606846976
  · by_cases h2 : 0 ≤ s.del ∧ s.del ≤ 1152921504606846976
    · have h3 : ¬ (0 ≤ s.bnd ∧ s.bnd ≤ 1152921504606846976) := fun h3 => hs ⟨h1.1, h1.2, h2.1, h2.2, h3.1, h3.2⟩
      have W1 := hid (within_yes _ _ h1.1 h1.2)
      have W2 := hid (within_yes _ _ h2.1 h2.2)
      have W3 := hid (within_no _ _ h3)
      clear h1 h2 h3 hs
      go_enter Try.func18, Try.ntmps18
      go_wp2_with fail
      refine (W1.out _).mono ?_
      rintro e w1 ⟨rfl, rfl⟩
      go_wp2_with fail
      refine (W2.out _).mono ?_
      rintro e w1 ⟨rfl, rfl⟩
      go_wp2_with fail
      refine (W3.out _).mono ?_
      rintro e w1 ⟨rfl, rfl⟩
      go_wp2
      go_ret2
      exact ⟨rfl, ba (Below.refl _ _) _⟩
    · have W1 := hid (within_yes _ _ h1.1 h1.2)
      have W2 := hid (within_no _ _ h2)
      clear h1 h2 hs
      go_enter Try.func18, Try.ntmps18
      go_wp2_with fail
      refine (W1.out _).mono ?_
      rintro e w1 ⟨rfl, rfl⟩
      go_wp2_with fail
      refine (W2.out _).mono ?_
      rintro e w1 ⟨rfl, rfl⟩
      go_wp2
      go_ret2
      exact ⟨rfl, ba (Below.refl _ _) _⟩
  · have W1 := hid (within_no _ _ h1)
    clear h1 hs
    go_enter Try.func18, Try.ntmps18
    go_wp2_with fail
    refine (W1.out _).mono ?_
    rintro e w1 ⟨rfl, rfl⟩
    go_wp2
    go_ret2
    exact ⟨rfl, ba (Below.refl _ _) _⟩

/-- what Add makes of a filter: whether it was taken, the samples, how many, how many were refused -/
def addF (g : Int) (st : List Smp) (n : Nat) (r : Int) (s : Smp) : Bool × List Smp × Nat × Int :=
  if spikeB g (st.take n) s = true ∧ r < 2 then (false, st, n, r + 1) else (true, s :: st.take 7, min (n + 1) 8, 0)

theorem FAt.setRef {w : World} {b n : Nat} {g r : Int} {st : List Smp} (h : FAt w b g st n r) (q : Int) : FAt (w.setCell ⟨b, 26, none⟩ (.int .i64 q)) b g st n q := by
  refine ⟨h.1, h.2.1, ?_⟩
  rw [heap_setCell_same w b 26 _ _ _ h.2.2]
  obtain ⟨a, b, c, d, e, f, g, i, rfl⟩ := eight h.1
  rfl
theorem FAt.setNum {w : World} {b n : Nat} {g r : Int} {st : List Smp} (h : FAt w b g st n r) (m : Nat) (hm : m ≤ 8) : FAt (w.setCell ⟨b, 25, none⟩ (.int .i64 (m : Int))) b g st m r := by
  refine ⟨h.1, hm, ?_⟩
  rw [heap_setCell_same w b 25 _ _ _ h.2.2]
  obtain ⟨a, b, c, d, e, f, g, i, rfl⟩ := eight h.1
  rfl
theorem FAt.setFirst {w : World} {b n : Nat} {g r : Int} {st : List Smp} (h : FAt w b g st n r) (s : Smp) :
    FAt (((w.setCell ⟨b, 1, none⟩ (.int .i64 s.off)).setCell ⟨b, 2, none⟩ (.int .i64 s.del)).setCell ⟨b, 3, none⟩ (.int .i64 s.bnd)) b g (s :: st.drop 1) n r := by
  refine ⟨by have := h.1; simp; omega, h.2.1, ?_⟩
  rw [heap_setCell_same _ b 3 _ _ _ (heap_setCell_same _ b 2 _ _ _ (heap_setCell_same w b 1 _ _ _ h.2.2))]
  obtain ⟨a, b, c, d, e, f, g, i, rfl⟩ := eight h.1
  rfl
theorem FAt.shift {w : World} {b n : Nat} {g r : Int} {st : List Smp} (h : FAt w b g st n r) (x : Smp) (hx : st[0]? = some x) :
    (Builtin.copy_ #[48, 48] 3 #[.slice (some ⟨b, 4, none⟩) 7 7, .slice (some ⟨b, 1, none⟩) 8 8]).run Try.prog w =
      .ok (goInt 7) (w.setRow b (fcells g (x :: st.take 7) n r).toArray) ∧ FAt (w.setRow b (fcells g (x :: st.take 7) n r).toArray) b g (x :: st.take 7) n r := by
  have hinfo : (Try.prog.info? 32).map (·.size) = some 3 := by kernel_rfl
  obtain ⟨a, c, d, e, f, k, l, i, rfl⟩ := eight h.1
  obtain rfl : a = x := by simpa using hx
  have hh := h.2.2
  refine ⟨?_, by simp, h.2.1, ?_⟩
  · have := run_copy_rowk (P := Try.prog) w 48 48 3 32 b 4 7 7 ⟨b, 1, none⟩ 8 8 3 _ _ (([a, c, d, e, f, k, l] : List Smp).flatMap fun s => [.int .i64 s.off, .int .i64 s.del, .int .i64 s.bnd])
      Try.underlying48 hinfo hh rfl (fun j v hj => by
        have ha : (⟨b, 1, none⟩ : Addr).add j = ⟨b, 1 + j, none⟩ := by unfold Addr.add; split <;> simp_all
        rw [ha, h.cell]
        rw [show (fcells g [a, c, d, e, f, k, l, i] n r)[1 + j]? = ((([a, c, d, e, f, k, l] : List Smp).flatMap fun s => [Value.int .i64 s.off, .int .i64 s.del, .int .i64 s.bnd]) ++ [.int .i64 i.off, .int .i64 i.del, .int .i64 i.bnd, .int .i64 (n : Int), .int .i64 r])[j]? from by rw [Nat.add_comm]; rfl]
        rw [List.getElem?_append_left (by exact (List.getElem?_eq_some_iff.1 hj).1)]
        exact hj) (by simp [fcells]) (by
        intro v hv
        simp at hv
        rcases hv with h | h | h | h | h | h | h | h | h | h | h | h | h | h | h | h | h | h | h | h | h <;> rw [h] <;> rfl)
    exact this
  · exact setRow_heap w b _ _ _ _ hh

set_option maxRecDepth 100000 in
theorem Add_spike (b n : Nat) (g r : Int) (st : List Smp) (s : Smp) (w : World) (h : FAt w b g st n r) (hok : ∀ s ∈ st.take n, okS s) (hs : okS s) (hg1 : 1 ≤ g) (hg2 : g ≤ 1125899906842624)
    (hsp : spikeB g (st.take n) s = true) (hr : r < 2) (hr0 : 0 ≤ r) :
    Calls Try.prog 18 #[.pointer (some ⟨b, 0, none⟩), s.val] w fun e w' => e = .returned (.tuple #[.bool false, .int .i64 0]) ∧ FAt w' b g st n (r + 1) ∧ w.grownBy w' (some b) := by
  have SP := hid (fun w (h : FAt w b g st n r) => spike_any b n g r st s w h hok hs hg1 hg2)
  rw [hsp] at SP
  have hb := h.lt
  have H := hid h
  have W1 := hid (within_yes _ _ hs.1 hs.2.1)
  have W2 := hid (within_yes _ _ hs.2.2.1 hs.2.2.2.1)
  have W3 := hid (within_yes _ _ hs.2.2.2.2.1 hs.2.2.2.2.2)
  clear h hok hs hsp
  unfold Smp.val at *
  go_enter Try.func18, Try.ntmps18
  go_wp2_with fail
  refine (W1.out _).mono ?_
  rintro e w1 ⟨rfl, rfl⟩
  go_wp2_with fail
  refine (W2.out _).mono ?_
  rintro e w1 ⟨rfl, rfl⟩
  go_wp2_with fail
  refine (W3.out _).mono ?_
  rintro e w1 ⟨rfl, rfl⟩
  go_wp2_with fail
  refine (SP.out _ (H.out.below (ba (Below.refl _ _) _))).mono ?_
  rintro e w1 ⟨rfl, hb1⟩
  have HB1 := hid (bt (ba (Below.refl _ _) _) hb1)
  have H1 := hid (H.out.below HB1.out)
  have hbw1 := H1.out.lt
  have href := H1.out.ref
  have hfr := H1.out.frozen 26
  clear hb1
  go_wp2
  go_ret2
  exact ⟨rfl, H1.out.setRef _, gbt (gb HB1.out _) (gbset _ _ _ _)⟩

set_option maxHeartbeats 1000000 in
set_option maxRecDepth 100000 in
theorem Add_take (b n : Nat) (g r : Int) (st : List Smp) (s : Smp) (w : World) (h : FAt w b g st n r) (hok : ∀ s ∈ st.take n, okS s) (hs : okS s) (hg1 : 1 ≤ g) (hg2 : g ≤ 1125899906842624)
    (hsp : ¬ (spikeB g (st.take n) s = true ∧ r < 2)) :
    Calls Try.prog 18 #[.pointer (some ⟨b, 0, none⟩), s.val] w fun e w' => e = .returned (.tuple #[.bool true, .int .i64 0]) ∧ FAt w' b g (s :: st.take 7) (min (n + 1) 8) 0 ∧ w.grownBy w' (some b) := by
  have SP := hid (fun w (h : FAt w b g st n r) => spike_any b n g r st s w h hok hs hg1 hg2)
  have hb := h.lt
  have hn8 := h.2.1
  have H := hid h
  have W1 := hid (within_yes _ _ hs.1 hs.2.1)
  have W2 := hid (within_yes _ _ hs.2.2.1 hs.2.2.2.1)
  have W3 := hid (within_yes _ _ hs.2.2.2.2.1 hs.2.2.2.2.2)
  obtain ⟨x0, hx0⟩ : ∃ x0, st[0]? = some x0 := ⟨_, List.getElem?_eq_getElem (by rw [h.1]; omega)⟩
  have HX0 := hid hx0
  clear h hok hs hx0
  have hmin : min ((n : Int) + 1) 8 = ((min (n + 1) 8 : Nat) : Int) := by omega
  have HMN := hid hmin
  clear hmin
  cases hsp' : spikeB g (st.take n) s
  case' true =>
    rw [hsp'] at SP hsp
    have hr : ¬ r < 2 := fun hr => hsp ⟨rfl, hr⟩
  case' false =>
    rw [hsp'] at SP
  all_goals
    clear hsp hsp'
    unfold Smp.val at *
    go_enter Try.func18, Try.ntmps18
    go_wp2_with fail
    refine (W1.out _).mono ?_
    rintro e w1 ⟨rfl, rfl⟩
    go_wp2_with fail
    refine (W2.out _).mono ?_
    rintro e w1 ⟨rfl, rfl⟩
    go_wp2_with fail
    refine (W3.out _).mono ?_
    rintro e w1 ⟨rfl, rfl⟩
    go_wp2_with fail
    have HS := hid ((Box3.new w s 32))
    refine (SP.out _ (H.out.below (ba (Below.refl _ _) _))).mono ?_
    rintro e w1 ⟨rfl, hb1⟩
    have HB1 := hid (bt (ba (Below.refl _ _) _) hb1)
    have HS1 := hid (HS.out.below hb1)
    have H1 := hid (H.out.below HB1.out)
    have hbw1 := H1.out.lt
    have href := H1.out.ref
    have hfr := H1.out.frozen 26
    have hne : w.heap.size ≠ b := by omega
    clear hb1 HS
    go_wp2
    have H2 := hid (H1.out.setRef 0)
    have HG2 := hid (gbset w1 b 26 (.int .i64 0))
    have HS2 := hid (HS1.out.other (C := b) (by omega) 26 (.int .i64 0))
    generalize (w1.setCell ⟨b, 26, none⟩ (.int .i64 0)) = W at H2 HG2 HS2 ⊢
    have hbW := H2.out.lt
    clear href hfr
    refine wp_region_plan_lit (C := fun w' => ∃ x, w' = W.ext x) [] [0, 1, 2, 3, 4, 5, 6, 7] [8] (by kernel_rfl) (by kernel_rfl) (by intro c a d v w h; cases d <;> exact h) ⟨W.drew, (ext_of (Below.refl _ _).drew).symm⟩ ?_
    simp only [List.map_cons, List.map_nil, List.getD_cons_succ, List.getD_cons_zero]
    refine wpQuiet_nil ?_
    repeat (go_big_quiet_step (fail))
    refine wpQuiet_nil ?_
    rintro _ ⟨y, rfl⟩
    have H3 := hid (H2.out.below (ext_below W y))
    have HG3 := hid (gbt HG2.out (gb (ext_below W y) _))
    have HS3 := hid (HS2.out.below (ext_below W y))
    generalize (W.ext y) = X at H3 HG3 HS3 ⊢
    obtain ⟨hcp, hsh⟩ := H3.out.shift x0 HX0.out
    have H4 := hid hsh
    have HG4 := hid (gbt HG3.out (gbrow X b (fcells g (x0 :: st.take 7) n 0).toArray))
    have HS4 : Hid (Box3 (X.setRow b (fcells g (x0 :: st.take 7) n 0).toArray) w.heap.size s) := by
      have hg := gbrow X b (fcells g (x0 :: st.take 7) n 0).toArray
      have hl := HS3.out.lt
      obtain ⟨⟨k0, k1, k2⟩, q0, q1, q2⟩ := HS3.out
      have hfz : ∀ o, (X.setRow b (fcells g (x0 :: st.take 7) n 0).toArray).frozen? ⟨w.heap.size, o, none⟩ = X.frozen? ⟨w.heap.size, o, none⟩ := fun o => World.frozen?_of_block (hg.block _ hl (by simpa using hne))
      exact ⟨⟨gbcell hg k0 hne, gbcell hg k1 hne, gbcell hg k2 hne⟩, by rw [hfz, q0], by rw [hfz, q1], by rw [hfz, q2]⟩
    clear hsh
    generalize hY : (X.setRow b (fcells g (x0 :: st.take 7) n 0).toArray) = Y at hcp H4 HG4 HS4
    have HY := hid hY
    clear hY
    go_wp2
    have hbY := H4.out.lt
    have hwY := HS4.out.lt
    obtain ⟨s0, s1, s2⟩ := HS4.out.1
    refine wp_region_plan_lit (C := fun w' => ∃ x, w' = Y.ext x) [] [0, 1, 2, 3, 4] [5] (by kernel_rfl) (by kernel_rfl) (by intro c a d v w h; cases d <;> exact h) ⟨Y.drew, (ext_of (Below.refl _ _).drew).symm⟩ ?_
    simp only [List.map_cons, List.map_nil, List.getD_cons_succ, List.getD_cons_zero]
    refine wpQuiet_nil ?_
    repeat (go_big_quiet_step (fail))
    refine wpQuiet_nil ?_
    rintro _ ⟨z, rfl⟩
    have H5 := hid (H4.out.below (ext_below Y z))
    have HG5 := hid (gbt HG4.out (gb (ext_below Y z) _))
    generalize (Y.ext z) = Z at H5 HG5 ⊢
    have hbZ := H5.out.lt
    have z0 := (H5.out.holds 0 x0 rfl).1
    have z1 := (H5.out.holds 0 x0 rfl).2.1
    have z2 := (H5.out.holds 0 x0 rfl).2.2
    have q1 := H5.out.frozen 1
    have q2 := H5.out.frozen 2
    have q3 := H5.out.frozen 3
    have H6 := hid (H5.out.setFirst s)
    have HG6 := hid (gbt HG5.out (gbt (gbt (gbset Z b 1 (.int .i64 s.off)) (gbset _ b 2 (.int .i64 s.del))) (gbset _ b 3 (.int .i64 s.bnd))))
    have n6 := H6.out.num
    have f6 := H6.out.frozen 25
    go_wp2
    go_ret2
    refine ⟨rfl, ?_, gbt (gb HB1.out _) (gbt HG6.out (gbset _ _ _ _))⟩
    have := H6.out.setNum (min (n + 1) 8) (by omega)
    rw [← HMN.out] at this
    simpa using this
end Go.Proofs.Ytlljndojbhopfaa
