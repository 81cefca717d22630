/- the reference of layer 15: Add, where the sample is taken. -/
import Derived.Test.YtlljndojbhopfaaRFil3
import Derived.Deep.RegionHeld3
import Derived.Deep.RegionLaw
import Derived.Deep.AppendLies
import Derived.Laws.OwnMore
import Derived.Deep.DrawnRows
namespace Go.Proofs.Ytlljndojbhopfaa
open Go Go.RowKit
set_option linter.unusedVariables false
set_option linter.unusedSimpArgs false
attribute [local go_sem] bmax2 bmin2 bmax bmin cell_ext frozen_ext
attribute [local go_sem ↓] Go.wp_at_zero Go.wp_at_succ

theorem told_of_row' {w : World} {B n : Nat} {e : TypeId} {v : Value} {l : List Smp} (hl : l.length = n) (h : w.ownsRow B e 3 v n (smpCells l)) (hv : v ≠ .slice none 0 0) : Told B w v l := by
  rcases h.2 with ⟨h', _⟩ | ⟨g, cap, cur, h', hB, hg, hc1, hc2, hc3, ht⟩
  · exact absurd h' hv
  · refine ⟨g, cap, by rw [h', hl], by omega, hc2, hB, (Array.getElem?_eq_some_iff.1 hg).1, ?_⟩
    intro k s hk
    have hkl := (List.getElem?_eq_some_iff.1 hk).1
    obtain ⟨e0, e1, e2⟩ := smpCells_get l k s hk
    have cell : ∀ j, j < n * 3 → w.cell? ⟨g, j, none⟩ = (smpCells l)[j]? := fun j hj => by
      rw [cell_of_row w g j cur e (0, 0) hg, ← ht, List.getElem?_take, if_pos hj]; simp
    rw [Nat.zero_add]
    rw [cell _ (by omega), cell _ (by omega), cell _ (by omega)]
    exact ⟨e0, e1, e2⟩
theorem holds_cells {w : World} {b : Nat} {l : List Smp} (h : Holds w b 0 l) (j : Nat) (u : Value) (hj : (smpCells l)[j]? = some u) : w.cell? ((⟨b, 0, none⟩ : Addr).add j) = some u := by
  have hjl := (List.getElem?_eq_some_iff.1 hj).1
  rw [length_smpCells] at hjl
  obtain ⟨s, hs⟩ : ∃ s, l[j / 3]? = some s := ⟨_, List.getElem?_eq_getElem (by omega)⟩
  obtain ⟨a0, a1, a2⟩ := h (j / 3) s hs
  obtain ⟨e0, e1, e2⟩ := smpCells_get l (j / 3) s hs
  rw [add_plain]
  rcases (by omega : j = j / 3 * 3 ∨ j = j / 3 * 3 + 1 ∨ j = j / 3 * 3 + 2) with h | h | h
  · rw [h] at hj ⊢; rw [e0] at hj; injection hj with hj; subst hj; exact a0
  · rw [h] at hj ⊢; rw [e1] at hj; injection hj with hj; subst hj; exact a1
  · rw [h] at hj ⊢; rw [e2] at hj; injection hj with hj; subst hj; exact a2
theorem info_smp14 : (Try.prog.info? 38).map (fun i => (i.zero, i.size, i.bytes)) = some (some (.agg #[.int .i64 0, .int .i64 0, .int .i64 0]), 3, 24) := by kernel_rfl

/-- append onto the call's own slice, of a slice that may be nil -/
theorem step_append_may {P : Program} (w : World) {ops : Array Oper} {o : Oper} {a : Act} {K : Act → World → Prop} {Q : Exit → Act → World → Prop} {E : Prop} (hgd : o.guard = none) (s x : Operand) (t : TypeId)
    (ho : o.op = .call { callee := .builtin .append, args := #[s, x], argTypes := #[t, t] })
    (base : Nat) (e : TypeId) (i : TypeInfo) (z : Value) (size bytes : Nat) (ht : P.underlying t = some (.slice e)) (hi : P.info? e = some i) (hz : i.zero = some z)
    (hsize : i.size = size) (hby : i.bytes = bytes) (hzs : z.cells.size = size) (hsz : 0 < size)
    (v : Value) (n : Nat) (xs : List Value) (hs : a.eval s = v) (hown : w.ownsRow base e size v n xs) (hv : v ≠ .slice none 0 0)
    (ad : Option Addr) (m c : Nat) (news : List Value) (hx : a.eval x = .slice ad m c) (hl : news.length = m * size)
    (hnews : (ad = none ∧ m = 0 ∧ c = 0) ∨ ∃ a', ad = some a' ∧ ∀ j u, news[j]? = some u → w.cell? (a'.add j) = some u) (h1 : ∀ u ∈ news, u.oneCell' = true)
    (N : Nat) (hN : n + m = N) (h63 : N ≤ maxLen) (hbytes : N * bytes ≤ 140737488355328) (hbase : base ≤ w.heap.size)
    (h : ∀ g cap w', w'.ownsRow base e size (.slice (some ⟨g, 0, none⟩) N cap) N (xs ++ news) → w.grownBy w' v.ownBlock → base ≤ g → g < w'.heap.size → N ≤ cap → cap ≤ maxLen → K (a.put o.dst (.slice (some ⟨g, 0, none⟩) N cap)) w') :
    if Region.wanted o (yielded ops a.tmps) = true then Oper.wp P o a w K Q else E := by
  have hw : Region.wanted o (yielded ops a.tmps) = true := by simp [Region.wanted, hgd]
  rw [if_pos hw]
  subst hN
  have fin : ∀ v' w', w'.ownsRow base e size v' (n + m) (xs ++ news) → w.grownBy w' v.ownBlock → v' ≠ .slice none 0 0 → K (a.put o.dst v') w' := fun v' w' h1 h2 h3 => by
    rcases h1.2 with ⟨h', _⟩ | ⟨g, cap, cur, rfl, hB, hg, hc1, hc2, _, _⟩
    · exact absurd h' h3
    · exact h g cap w' h1 h2 hB (Array.getElem?_eq_some_iff.1 hg).1 hc1 hc2
  rcases hnews with ⟨rfl, rfl, rfl⟩ | ⟨a', rfl, hnews⟩
  · have hn : news = [] := by cases news with | nil => rfl | cons x y => simp at hl
    subst hn
    have hrun := run_append_owned_none (P := P) (w := w) base t o.type e i size ht hi v n xs hown
    unfold Oper.wp
    simp [execOp, ho, resolve, invoke, builtin, hs, hx, hrun, Result.andThen]
    exact fin _ _ (by simpa using hown) ⟨rfl, rfl, rfl, Nat.le_refl _, fun _ _ _ => rfl⟩ hv
  · exact wp_append_own w s x t ho base e i z size bytes ht hi hz hsize hby hzs hsz v n xs hs hown a' m c news hx hl hnews h1 h63 hbytes hbase fun v' w' h2 h3 h4 => fin v' w' h2 h3 (fun e => hv (h4.1 e).1)

set_option maxHeartbeats 4000000 in
set_option maxRecDepth 100000 in
theorem RAdd_few (w : World) (rb c : Nat) (g r : Int) (ad : Option Addr) (L : List Smp) (s : Smp) (h : RAt w rb g ad c L r) (hok : ∀ s ∈ L, okS s) (hs : okS s) (hg1 : 1 ≤ g) (hg2 : g ≤ 1125899906842624) (hL8 : L.length ≤ 8)
    (hl : L.length < 2) :
    Calls Try.prog 19 #[.pointer (some ⟨rb, 0, none⟩), s.val] w fun e w' => e = .returned (.tuple #[.bool true, .int .i64 0]) ∧ (∃ ad' c', RAt w' rb g ad' c' ((s :: L).take 8) 0) ∧ w.grownBy w' (some rb) := by
  have hb := h.lt
  have hL9 := h.2.2
  obtain ⟨i0, hi0, hz0, hz1, hz2⟩ := info_parts info_smp14
  have Hz2 := hid hz2
  have Hz1 := hid hz1
  clear hz2 hz1
  have j3 : ((L.length : Int) < 2) := by omega
  have j4 : ¬ (2 : Int) ≤ (L.length : Int) := by omega
  have j5 : decide ((2 : Int) ≤ (L.length : Int)) = false := decide_eq_false j4
  have j6 : decide ((L.length : Int) < 2) = true := decide_eq_true j3
  have H := hid h
  obtain ⟨o1, o2, o3, o4, o5, o6⟩ := hs
  clear h hok
  unfold Smp.val
  go_enter Try.func19, Try.ntmps19
  go_wp2
  have HX := hid (Box3.new w s 38)
  have HR := hid (H.out.below (ba (Below.refl _ _) (.cells #[.int .i64 s.off, .int .i64 s.del, .int .i64 s.bnd] 38)))
  have B1 := hid (ba (Below.refl w.heap.size w) (.cells #[.int .i64 s.off, .int .i64 s.del, .int .i64 s.bnd] 38))
  have hwx := HX.out.lt
  have hne : w.heap.size ≠ rb := by omega
  generalize (w.alloc _) = W at HX HR B1 hwx ⊢
  have hbW := HR.out.lt
  obtain ⟨d0, d1, d2⟩ := HR.out.cell
  obtain ⟨x0, x1, x2⟩ := HX.out.1
  refine wp_region_plan_lit (C := fun w' => ∃ x, w' = W.ext x) [] [0, 1, 2, 3, 4, 5, 6, 7, 8, 9, 10, 11, 12, 13, 14, 15, 16, 17, 18, 19, 20, 21, 22, 23, 24, 25, 26, 27, 28, 29, 30, 31, 32, 33, 34] [35] (by kernel_rfl) (by kernel_rfl) (by intro c a d v w h; cases d <;> exact h) ⟨W.drew, (ext_of (Below.refl _ _).drew).symm⟩ ?_
  simp only [List.map_cons, List.map_nil, List.getD_cons_succ, List.getD_cons_zero]
  refine wpQuiet_nil ?_
  repeat (go_big_quiet_step (fail))
  refine wpQuiet_nil ?_
  rintro _ ⟨y', rfl⟩
  have B3 := hid (bt B1.out (ext_below W y'))
  have HR3 := hid (HR.out.below (ext_below W y'))
  have HX3 := hid (HX.out.below (ext_below W y'))
  generalize (W.ext y') = X at B3 HR3 HX3 ⊢
  have hbX := HR3.out.lt
  clear d0 d1 d2 x0 x1 x2
  obtain ⟨d0, d1, d2⟩ := HR3.out.cell
  have fz := HR3.out.frozen 2
  go_wp2
  have HR4 := hid (HR3.out.setR 0)
  have HX4 := hid (HX3.out.other hne.symm 2 (.int .i64 0))
  have G4 := hid (gbt (gb B3.out _) (gbset X rb 2 (.int .i64 0)))
  generalize (X.setCell _ _) = Y at HR4 HX4 G4 ⊢
  clear d0 d1 d2 fz
  obtain ⟨d0, d1, d2⟩ := HR4.out.cell
  obtain ⟨x0, x1, x2⟩ := HX4.out.1
  have hbY := HR4.out.lt
  have hxY := HX4.out.lt
  have fz := HR4.out.frozen 1
  have n1 : rb ≠ Y.heap.size := by omega
  have n2 : w.heap.size ≠ Y.heap.size := by omega
  have APP : Hid (∀ w', w' = (Y.alloc (.cells #[.int .i64 s.off, .int .i64 s.del, .int .i64 s.bnd] 38)).drew → (ad = none ∧ L.length = 0 ∧ c = 0) ∨ ∃ a', ad = some a' ∧ ∀ j u, (smpCells L)[j]? = some u → w'.cell? (a'.add j) = some u) := by
    refine hid ?_
    rintro w' rfl
    have hbl : Below Y.heap.size Y (Y.alloc (.cells #[.int .i64 s.off, .int .i64 s.del, .int .i64 s.bnd] 38)).drew := (ba (Below.refl _ _) _).drew
    rcases HR4.out.2.1 with ⟨h0, h1, h2⟩ | ⟨gg, h1, h2, h3, h4, h5, h6⟩
    · exact Or.inl ⟨h1, by rw [h0]; rfl, h2⟩
    · exact Or.inr ⟨⟨gg, 0, none⟩, h1, fun j u hj => holds_cells (h6.below hbl) j u hj⟩
  obtain ⟨N, hN⟩ : ∃ N, N = L.length + 1 := ⟨_, rfl⟩
  have HN := hid hN
  have hN9 : N ≤ 9 := by omega
  have hl8 : N ≤ 2 := by omega
  clear hN
  have hmx : maxLen = 9223372036854775807 := rfl
  by_cases h8 : (8 : Int) < (N : Int)
  · exfalso; omega
  · skip
    go_region_law ((refine step_append_may _ (by rfl) _ _ 43 (by rfl) Y.heap.size 38 i0 (.agg #[.int .i64 0, .int .i64 0, .int .i64 0]) 3 24 Try.underlying43 hi0 hz0 Hz1.out Hz2.out rfl (by omega) (.slice (some ⟨Y.heap.size, 0, none⟩) 1 1) 1 _ (by rfl) ((World.ownsRow_lit Y #[.int .i64 s.off, .int .i64 s.del, .int .i64 s.bnd] 1 (Nat.le_refl _) (by unfold maxLen; omega) rfl).drew) (by simp) ad L.length c (smpCells L) (by rfl) (length_smpCells L) (APP.out _ rfl) (smpCells_one L) N (by rw [HN.out]; omega) (by unfold maxLen; omega) (by omega) (by simp) ?_; intro gg cap w1 hown1 hgrow hlo hhi hcap hcap2; have hcapI : (N : Int) ≤ (cap : Int) := (by omega); have hbw1 : rb < w1.heap.size := (by have := hgrow.size; simp at this; omega); have e1 : w1.cell? ⟨rb, 1, none⟩ = some (.slice ad L.length c) := (by rw [hgrow.cell_far _ (by simp; omega) (by simp [Value.ownBlock]; omega)]; exact cell_later (ba (Below.refl _ _) _).drew d1); have e2 : w1.frozen? ⟨rb, 1, none⟩ = false := (by rw [hgrow.frozen_far _ (by simp; omega) (by simp [Value.ownBlock]; omega), Below.frozen (ba (Below.refl _ _) _).drew hbY]; exact fz)))
    all_goals
     have HO := hid hown1
     have HG := hid hgrow
     clear hown1 hgrow
     have hal : Below Y.heap.size Y (Y.alloc (.cells #[.int .i64 s.off, .int .i64 s.del, .int .i64 s.bnd] 38)).drew := (ba (Below.refl _ _) _).drew
     have HRB : RAt w1 rb g ad c L 0 := by
       have hh := HR4.out.below hal
       refine ⟨by rw [HG.out.block rb hh.lt (by simp [Value.ownBlock]; omega)]; exact hh.1, ?_, hh.2.2⟩
       rcases HR4.out.2.1 with h | ⟨q, h1, h2, h3, h4, h5, h6⟩
       · exact Or.inl h
       · have hq := h6.below hal
         have hne2 : some q ≠ (Value.slice (some ⟨Y.heap.size, 0, none⟩) 1 1).ownBlock := by simp [Value.ownBlock]; omega
         refine Or.inr ⟨q, h1, h2, h3, Nat.lt_of_lt_of_le h4 (Nat.le_trans hal.size HG.out.size), h5, fun k s hk => ?_⟩
         obtain ⟨a0, a1, a2⟩ := hq k s hk
         exact ⟨HG.out.cell a0 hne2, HG.out.cell a1 hne2, HG.out.cell a2 hne2⟩
     have HT : Holds w1 gg 0 (s :: L) := by
       obtain ⟨g2, c2, he, t1, t2, t3, t4, t5⟩ := told_of_row' (l := s :: L) (by rw [HN.out]; rfl) HO.out (by simp)
       simp only [Value.slice.injEq, Option.some.injEq, Addr.mk.injEq, and_true, true_and] at he
       obtain ⟨rfl, _, rfl⟩ := he
       exact t5
     have hgr : rb < gg := by omega
     have hlN : (s :: L).length = N := by rw [HN.out]; rfl
     have HRC : Hid (RAt (w1.setCell ⟨rb, 1, none⟩ (.slice (some ⟨gg, 0, none⟩) N cap)) rb g (some ⟨gg, 0, none⟩) cap (s :: L) 0) := by
       rw [← hlN]
       exact hid (HRB.setL (by omega) (by omega) hhi hgr HT (by simp; omega))
     have GC : Hid (w.grownBy (w1.setCell ⟨rb, 1, none⟩ (.slice (some ⟨gg, 0, none⟩) N cap)) (some rb)) :=
       hid (gbt G4.out (gbt (gb (hal.grown HG.out hal.size (fun k hk => by simp [Value.ownBlock] at hk; subst hk; exact Nat.le_refl _)) _) (gbset _ _ _ _)))
     have HLN := hid hlN
     clear hal HRB HT hlN e1 e2 hbw1
     generalize (w1.setCell ⟨rb, 1, none⟩ (.slice (some ⟨gg, 0, none⟩) N cap)) = V at HRC GC ⊢
     have hbV := HRC.out.lt
     obtain ⟨_, v1, _⟩ := HRC.out.cell
     rw [HLN.out] at v1
     have fv := HRC.out.frozen 1
     go_wp2
    all_goals
     go_ret2
     refine ⟨rfl, ⟨some ⟨gg, 0, none⟩, cap, ?_⟩, GC.out⟩
     have ht : (s :: L).take 8 = s :: L := List.take_of_length_le (by rw [HLN.out]; omega)
     have hh := HRC.out
     rw [← ht] at hh
     exact hh

set_option maxHeartbeats 4000000 in
set_option maxRecDepth 100000 in
theorem RAdd_late (w : World) (rb c : Nat) (g r : Int) (ad : Option Addr) (L : List Smp) (s : Smp) (h : RAt w rb g ad c L r) (hok : ∀ s ∈ L, okS s) (hs : okS s) (hg1 : 1 ≤ g) (hg2 : g ≤ 1125899906842624) (hL8 : L.length ≤ 8)
    (hl : 2 ≤ L.length) (hr : 2 ≤ r) :
    Calls Try.prog 19 #[.pointer (some ⟨rb, 0, none⟩), s.val] w fun e w' => e = .returned (.tuple #[.bool true, .int .i64 0]) ∧ (∃ ad' c', RAt w' rb g ad' c' ((s :: L).take 8) 0) ∧ w.grownBy w' (some rb) := by
  have hb := h.lt
  have hL9 := h.2.2
  obtain ⟨i0, hi0, hz0, hz1, hz2⟩ := info_parts info_smp14
  have Hz2 := hid hz2
  have Hz1 := hid hz1
  clear hz2 hz1
  have j3 : ¬ ((L.length : Int) < 2) := by omega
  have j4 : (2 : Int) ≤ (L.length : Int) := by omega
  have j5 : decide ((2 : Int) ≤ (L.length : Int)) = true := decide_eq_true j4
  have j6 : decide ((L.length : Int) < 2) = false := decide_eq_false j3
  have j7 : ¬ r < 2 := by omega
  have j8 : decide (r < 2) = false := decide_eq_false j7
  have H := hid h
  obtain ⟨o1, o2, o3, o4, o5, o6⟩ := hs
  clear h hok
  unfold Smp.val
  go_enter Try.func19, Try.ntmps19
  go_wp2
  have HX := hid (Box3.new w s 38)
  have HR := hid (H.out.below (ba (Below.refl _ _) (.cells #[.int .i64 s.off, .int .i64 s.del, .int .i64 s.bnd] 38)))
  have B1 := hid (ba (Below.refl w.heap.size w) (.cells #[.int .i64 s.off, .int .i64 s.del, .int .i64 s.bnd] 38))
  have hwx := HX.out.lt
  have hne : w.heap.size ≠ rb := by omega
  generalize (w.alloc _) = W at HX HR B1 hwx ⊢
  have hbW := HR.out.lt
  obtain ⟨d0, d1, d2⟩ := HR.out.cell
  obtain ⟨x0, x1, x2⟩ := HX.out.1
  refine wp_region_plan_lit (C := fun w' => ∃ x, w' = W.ext x) [] [0, 1, 2, 3, 4, 5, 6, 7, 8, 9, 10, 11, 12, 13, 14, 15, 16, 17, 18, 19, 20, 21, 22, 23, 24, 25, 26, 27, 28, 29, 30, 31, 32, 33, 34] [35] (by kernel_rfl) (by kernel_rfl) (by intro c a d v w h; cases d <;> exact h) ⟨W.drew, (ext_of (Below.refl _ _).drew).symm⟩ ?_
  simp only [List.map_cons, List.map_nil, List.getD_cons_succ, List.getD_cons_zero]
  refine wpQuiet_nil ?_
  repeat (go_big_quiet_step (fail))
  refine wpQuiet_nil ?_
  rintro _ ⟨y', rfl⟩
  have B3 := hid (bt B1.out (ext_below W y'))
  have HR3 := hid (HR.out.below (ext_below W y'))
  have HX3 := hid (HX.out.below (ext_below W y'))
  generalize (W.ext y') = X at B3 HR3 HX3 ⊢
  have hbX := HR3.out.lt
  clear d0 d1 d2 x0 x1 x2
  obtain ⟨d0, d1, d2⟩ := HR3.out.cell
  have fz := HR3.out.frozen 2
  go_wp2
  have HR4 := hid (HR3.out.setR 0)
  have HX4 := hid (HX3.out.other hne.symm 2 (.int .i64 0))
  have G4 := hid (gbt (gb B3.out _) (gbset X rb 2 (.int .i64 0)))
  generalize (X.setCell _ _) = Y at HR4 HX4 G4 ⊢
  clear d0 d1 d2 fz
  obtain ⟨d0, d1, d2⟩ := HR4.out.cell
  obtain ⟨x0, x1, x2⟩ := HX4.out.1
  have hbY := HR4.out.lt
  have hxY := HX4.out.lt
  have fz := HR4.out.frozen 1
  have n1 : rb ≠ Y.heap.size := by omega
  have n2 : w.heap.size ≠ Y.heap.size := by omega
  have APP : Hid (∀ w', w' = (Y.alloc (.cells #[.int .i64 s.off, .int .i64 s.del, .int .i64 s.bnd] 38)).drew → (ad = none ∧ L.length = 0 ∧ c = 0) ∨ ∃ a', ad = some a' ∧ ∀ j u, (smpCells L)[j]? = some u → w'.cell? (a'.add j) = some u) := by
    refine hid ?_
    rintro w' rfl
    have hbl : Below Y.heap.size Y (Y.alloc (.cells #[.int .i64 s.off, .int .i64 s.del, .int .i64 s.bnd] 38)).drew := (ba (Below.refl _ _) _).drew
    rcases HR4.out.2.1 with ⟨h0, h1, h2⟩ | ⟨gg, h1, h2, h3, h4, h5, h6⟩
    · exact Or.inl ⟨h1, by rw [h0]; rfl, h2⟩
    · exact Or.inr ⟨⟨gg, 0, none⟩, h1, fun j u hj => holds_cells (h6.below hbl) j u hj⟩
  obtain ⟨N, hN⟩ : ∃ N, N = L.length + 1 := ⟨_, rfl⟩
  have HN := hid hN
  have hN9 : N ≤ 9 := by omega
  have hl8 : True := trivial
  clear hN
  have hmx : maxLen = 9223372036854775807 := rfl
  by_cases h8 : (8 : Int) < (N : Int)
  · skip
    go_region_law ((refine step_append_may _ (by rfl) _ _ 43 (by rfl) Y.heap.size 38 i0 (.agg #[.int .i64 0, .int .i64 0, .int .i64 0]) 3 24 Try.underlying43 hi0 hz0 Hz1.out Hz2.out rfl (by omega) (.slice (some ⟨Y.heap.size, 0, none⟩) 1 1) 1 _ (by rfl) ((World.ownsRow_lit Y #[.int .i64 s.off, .int .i64 s.del, .int .i64 s.bnd] 1 (Nat.le_refl _) (by unfold maxLen; omega) rfl).drew) (by simp) ad L.length c (smpCells L) (by rfl) (length_smpCells L) (APP.out _ rfl) (smpCells_one L) N (by rw [HN.out]; omega) (by unfold maxLen; omega) (by omega) (by simp) ?_; intro gg cap w1 hown1 hgrow hlo hhi hcap hcap2; have hcapI : (N : Int) ≤ (cap : Int) := (by omega); have hbw1 : rb < w1.heap.size := (by have := hgrow.size; simp at this; omega); have e1 : w1.cell? ⟨rb, 1, none⟩ = some (.slice ad L.length c) := (by rw [hgrow.cell_far _ (by simp; omega) (by simp [Value.ownBlock]; omega)]; exact cell_later (ba (Below.refl _ _) _).drew d1); have e2 : w1.frozen? ⟨rb, 1, none⟩ = false := (by rw [hgrow.frozen_far _ (by simp; omega) (by simp [Value.ownBlock]; omega), Below.frozen (ba (Below.refl _ _) _).drew hbY]; exact fz)))
    all_goals
     have HO := hid hown1
     have HG := hid hgrow
     clear hown1 hgrow
     have hal : Below Y.heap.size Y (Y.alloc (.cells #[.int .i64 s.off, .int .i64 s.del, .int .i64 s.bnd] 38)).drew := (ba (Below.refl _ _) _).drew
     have HRB : RAt w1 rb g ad c L 0 := by
       have hh := HR4.out.below hal
       refine ⟨by rw [HG.out.block rb hh.lt (by simp [Value.ownBlock]; omega)]; exact hh.1, ?_, hh.2.2⟩
       rcases HR4.out.2.1 with h | ⟨q, h1, h2, h3, h4, h5, h6⟩
       · exact Or.inl h
       · have hq := h6.below hal
         have hne2 : some q ≠ (Value.slice (some ⟨Y.heap.size, 0, none⟩) 1 1).ownBlock := by simp [Value.ownBlock]; omega
         refine Or.inr ⟨q, h1, h2, h3, Nat.lt_of_lt_of_le h4 (Nat.le_trans hal.size HG.out.size), h5, fun k s hk => ?_⟩
         obtain ⟨a0, a1, a2⟩ := hq k s hk
         exact ⟨HG.out.cell a0 hne2, HG.out.cell a1 hne2, HG.out.cell a2 hne2⟩
     have HT : Holds w1 gg 0 (s :: L) := by
       obtain ⟨g2, c2, he, t1, t2, t3, t4, t5⟩ := told_of_row' (l := s :: L) (by rw [HN.out]; rfl) HO.out (by simp)
       simp only [Value.slice.injEq, Option.some.injEq, Addr.mk.injEq, and_true, true_and] at he
       obtain ⟨rfl, _, rfl⟩ := he
       exact t5
     have hgr : rb < gg := by omega
     have hlN : (s :: L).length = N := by rw [HN.out]; rfl
     have HRC : Hid (RAt (w1.setCell ⟨rb, 1, none⟩ (.slice (some ⟨gg, 0, none⟩) N cap)) rb g (some ⟨gg, 0, none⟩) cap (s :: L) 0) := by
       rw [← hlN]
       exact hid (HRB.setL (by omega) (by omega) hhi hgr HT (by simp; omega))
     have GC : Hid (w.grownBy (w1.setCell ⟨rb, 1, none⟩ (.slice (some ⟨gg, 0, none⟩) N cap)) (some rb)) :=
       hid (gbt G4.out (gbt (gb (hal.grown HG.out hal.size (fun k hk => by simp [Value.ownBlock] at hk; subst hk; exact Nat.le_refl _)) _) (gbset _ _ _ _)))
     have HLN := hid hlN
     clear hal HRB HT hlN e1 e2 hbw1
     generalize (w1.setCell ⟨rb, 1, none⟩ (.slice (some ⟨gg, 0, none⟩) N cap)) = V at HRC GC ⊢
     have hbV := HRC.out.lt
     obtain ⟨_, v1, _⟩ := HRC.out.cell
     rw [HLN.out] at v1
     have fv := HRC.out.frozen 1
     go_wp2
    all_goals
      go_ret2
      refine ⟨rfl, ⟨some ⟨gg, 0, none⟩, cap, ?_⟩, gbt GC.out (gbset _ _ _ _)⟩
      have hcc := HRC.out
      rcases hcc.2.1 with ⟨h, _⟩ | ⟨q, h1, h2, h3, h4, h5, h6⟩
      · cases h
      · injection h1 with h1
        injection h1 with h1
        subst h1
        have hl8 : ((s :: L).take 8).length = 8 := by rw [List.length_take, HLN.out]; omega
        have := hcc.setL (L' := (s :: L).take 8) (by rw [hl8]; omega) h3 h4 h5 (h6.take 8) (by rw [hl8]; omega)
        rw [hl8] at this
        exact this

  · skip
    go_region_law ((refine step_append_may _ (by rfl) _ _ 43 (by rfl) Y.heap.size 38 i0 (.agg #[.int .i64 0, .int .i64 0, .int .i64 0]) 3 24 Try.underlying43 hi0 hz0 Hz1.out Hz2.out rfl (by omega) (.slice (some ⟨Y.heap.size, 0, none⟩) 1 1) 1 _ (by rfl) ((World.ownsRow_lit Y #[.int .i64 s.off, .int .i64 s.del, .int .i64 s.bnd] 1 (Nat.le_refl _) (by unfold maxLen; omega) rfl).drew) (by simp) ad L.length c (smpCells L) (by rfl) (length_smpCells L) (APP.out _ rfl) (smpCells_one L) N (by rw [HN.out]; omega) (by unfold maxLen; omega) (by omega) (by simp) ?_; intro gg cap w1 hown1 hgrow hlo hhi hcap hcap2; have hcapI : (N : Int) ≤ (cap : Int) := (by omega); have hbw1 : rb < w1.heap.size := (by have := hgrow.size; simp at this; omega); have e1 : w1.cell? ⟨rb, 1, none⟩ = some (.slice ad L.length c) := (by rw [hgrow.cell_far _ (by simp; omega) (by simp [Value.ownBlock]; omega)]; exact cell_later (ba (Below.refl _ _) _).drew d1); have e2 : w1.frozen? ⟨rb, 1, none⟩ = false := (by rw [hgrow.frozen_far _ (by simp; omega) (by simp [Value.ownBlock]; omega), Below.frozen (ba (Below.refl _ _) _).drew hbY]; exact fz)))
    all_goals
     have HO := hid hown1
     have HG := hid hgrow
     clear hown1 hgrow
     have hal : Below Y.heap.size Y (Y.alloc (.cells #[.int .i64 s.off, .int .i64 s.del, .int .i64 s.bnd] 38)).drew := (ba (Below.refl _ _) _).drew
     have HRB : RAt w1 rb g ad c L 0 := by
       have hh := HR4.out.below hal
       refine ⟨by rw [HG.out.block rb hh.lt (by simp [Value.ownBlock]; omega)]; exact hh.1, ?_, hh.2.2⟩
       rcases HR4.out.2.1 with h | ⟨q, h1, h2, h3, h4, h5, h6⟩
       · exact Or.inl h
       · have hq := h6.below hal
         have hne2 : some q ≠ (Value.slice (some ⟨Y.heap.size, 0, none⟩) 1 1).ownBlock := by simp [Value.ownBlock]; omega
         refine Or.inr ⟨q, h1, h2, h3, Nat.lt_of_lt_of_le h4 (Nat.le_trans hal.size HG.out.size), h5, fun k s hk => ?_⟩
         obtain ⟨a0, a1, a2⟩ := hq k s hk
         exact ⟨HG.out.cell a0 hne2, HG.out.cell a1 hne2, HG.out.cell a2 hne2⟩
     have HT : Holds w1 gg 0 (s :: L) := by
       obtain ⟨g2, c2, he, t1, t2, t3, t4, t5⟩ := told_of_row' (l := s :: L) (by rw [HN.out]; rfl) HO.out (by simp)
       simp only [Value.slice.injEq, Option.some.injEq, Addr.mk.injEq, and_true, true_and] at he
       obtain ⟨rfl, _, rfl⟩ := he
       exact t5
     have hgr : rb < gg := by omega
     have hlN : (s :: L).length = N := by rw [HN.out]; rfl
     have HRC : Hid (RAt (w1.setCell ⟨rb, 1, none⟩ (.slice (some ⟨gg, 0, none⟩) N cap)) rb g (some ⟨gg, 0, none⟩) cap (s :: L) 0) := by
       rw [← hlN]
       exact hid (HRB.setL (by omega) (by omega) hhi hgr HT (by simp; omega))
     have GC : Hid (w.grownBy (w1.setCell ⟨rb, 1, none⟩ (.slice (some ⟨gg, 0, none⟩) N cap)) (some rb)) :=
       hid (gbt G4.out (gbt (gb (hal.grown HG.out hal.size (fun k hk => by simp [Value.ownBlock] at hk; subst hk; exact Nat.le_refl _)) _) (gbset _ _ _ _)))
     have HLN := hid hlN
     clear hal HRB HT hlN e1 e2 hbw1
     generalize (w1.setCell ⟨rb, 1, none⟩ (.slice (some ⟨gg, 0, none⟩) N cap)) = V at HRC GC ⊢
     have hbV := HRC.out.lt
     obtain ⟨_, v1, _⟩ := HRC.out.cell
     rw [HLN.out] at v1
     have fv := HRC.out.frozen 1
     go_wp2
    all_goals
     go_ret2
     refine ⟨rfl, ⟨some ⟨gg, 0, none⟩, cap, ?_⟩, GC.out⟩
     have ht : (s :: L).take 8 = s :: L := List.take_of_length_le (by rw [HLN.out]; omega)
     have hh := HRC.out
     rw [← ht] at hh
     exact hh

set_option maxHeartbeats 4000000 in
set_option maxRecDepth 100000 in
theorem RAdd_near (w : World) (rb c : Nat) (g r : Int) (ad : Option Addr) (L : List Smp) (s : Smp) (h : RAt w rb g ad c L r) (hok : ∀ s ∈ L, okS s) (hs : okS s) (hg1 : 1 ≤ g) (hg2 : g ≤ 1125899906842624) (hL8 : L.length ≤ 8)
    (hl : 2 ≤ L.length) (hr : r < 2) (hfar : ¬ 3 * g + jit L < dist s.off (best L).off) :
    Calls Try.prog 19 #[.pointer (some ⟨rb, 0, none⟩), s.val] w fun e w' => e = .returned (.tuple #[.bool true, .int .i64 0]) ∧ (∃ ad' c', RAt w' rb g ad' c' ((s :: L).take 8) 0) ∧ w.grownBy w' (some rb) := by
  have hb := h.lt
  have hL9 := h.2.2
  obtain ⟨i0, hi0, hz0, hz1, hz2⟩ := info_parts info_smp14
  have Hz2 := hid hz2
  have Hz1 := hid hz1
  clear hz2 hz1
  have j3 : ¬ ((L.length : Int) < 2) := by omega
  have j4 : (2 : Int) ≤ (L.length : Int) := by omega
  have j5 : decide ((2 : Int) ≤ (L.length : Int)) = true := decide_eq_true j4
  have j6 : decide ((L.length : Int) < 2) = false := decide_eq_false j3
  have hjb := jit_bd hok
  have hne : L ≠ [] := fun e => by rw [e] at hl; simp at hl
  have hBo := best_ok hok
  have RJ := hid (fun (w : World) (h : RAt w rb g ad c L r) => RJitter w rb c g r ad L h hok)
  have FA := hid (fun w => Rfar_any s.off (best L).off w hs.1 hs.2.1 hBo.1 hBo.2.1)
  have hdb := dist_le hs.1 hs.2.1 hBo.1 hBo.2.1
  obtain ⟨D, hD⟩ : ∃ D, dist s.off (best L).off = D := ⟨_, rfl⟩
  obtain ⟨J, hJ⟩ : ∃ J, jit L = J := ⟨_, rfl⟩
  rw [hD] at hfar FA hdb
  rw [hJ] at hfar RJ hjb
  clear hD hJ
  have j7 : decide (r < 2) = true := decide_eq_true hr
  have j8 : decide (3 * g + J < D) = false := decide_eq_false hfar
  have RB := hid (fun (w : World) (h : RAt w rb g ad c L r) => (RBest w rb c g r _ L h).mono (fun e w' h => (⟨h.1, h.2.2⟩ : e = .returned (.int .i64 (bi L)) ∧ Below w.heap.size w w')))
  obtain ⟨i, hie, hi⟩ := (bi_at L).ne hne
  rw [hie] at RB
  rcases h.2.1 with ⟨h0, _⟩ | ⟨gq, rfl, s2, s3, s4, s5, s6⟩
  · exact absurd h0 hne
  have S6 := hid s6
  have HI := hid hi
  have hil := (List.getElem?_eq_some_iff.1 hi).1
  have j1 : (i : Int) < (L.length : Int) := by omega
  have j2 : (0 : Int) ≤ (i : Int) := by omega
  clear hne hBo hie hi s6
  have H := hid h
  obtain ⟨o1, o2, o3, o4, o5, o6⟩ := hs
  clear h hok
  unfold Smp.val
  go_enter Try.func19, Try.ntmps19
  go_wp2
  have HX := hid (Box3.new w s 38)
  have HR := hid (H.out.below (ba (Below.refl _ _) (.cells #[.int .i64 s.off, .int .i64 s.del, .int .i64 s.bnd] 38)))
  have B1 := hid (ba (Below.refl w.heap.size w) (.cells #[.int .i64 s.off, .int .i64 s.del, .int .i64 s.bnd] 38))
  have hwx := HX.out.lt
  have hne : w.heap.size ≠ rb := by omega
  generalize (w.alloc _) = W at HX HR B1 hwx ⊢
  have hbW := HR.out.lt
  obtain ⟨d0, d1, d2⟩ := HR.out.cell
  obtain ⟨x0, x1, x2⟩ := HX.out.1
  have S1 := hid (S6.out.below B1.out)
  obtain ⟨e0, _, _⟩ := S1.out i _ HI.out
  rw [Nat.zero_add] at e0
  have hgW := World.block_lt_of_cell? W _ e0
  refine wp_region_plan_lit (C := fun w' => ∃ x, w' = W.ext x) [] [0, 1, 2, 3, 4, 5, 6, 7, 8, 9, 10, 11, 12, 13, 14, 15, 16, 17, 18, 19, 20, 21, 22, 23, 24, 25, 26, 27, 28, 29, 30, 31, 32, 33, 34] [35] (by kernel_rfl) (by kernel_rfl) (by intro c a d v w h; cases d <;> exact h) ⟨W.drew, (ext_of (Below.refl _ _).drew).symm⟩ ?_
  simp only [List.map_cons, List.map_nil, List.getD_cons_succ, List.getD_cons_zero]
  refine wpQuiet_nil ?_
  repeat (go_big_quiet_step (first | (go_at_call 45; exact Calls.ext_same (FA.out _)) | (go_at_call 25; exact Calls.ext_of (RB.out _ (HR.out.below (ext_below _ _)))) | (go_at_call 27; exact Calls.ext_of (RJ.out _ (HR.out.below (ext_below _ _))))))
  refine wpQuiet_nil ?_
  rintro _ ⟨y', rfl⟩
  have B3 := hid (bt B1.out (ext_below W y'))
  have HR3 := hid (HR.out.below (ext_below W y'))
  have HX3 := hid (HX.out.below (ext_below W y'))
  generalize (W.ext y') = X at B3 HR3 HX3 ⊢
  have hbX := HR3.out.lt
  clear d0 d1 d2 x0 x1 x2
  obtain ⟨d0, d1, d2⟩ := HR3.out.cell
  have fz := HR3.out.frozen 2
  clear e0
  go_wp2
  have HR4 := hid (HR3.out.setR 0)
  have HX4 := hid (HX3.out.other hne.symm 2 (.int .i64 0))
  have G4 := hid (gbt (gb B3.out _) (gbset X rb 2 (.int .i64 0)))
  generalize (X.setCell _ _) = Y at HR4 HX4 G4 ⊢
  clear d0 d1 d2 fz
  obtain ⟨d0, d1, d2⟩ := HR4.out.cell
  obtain ⟨x0, x1, x2⟩ := HX4.out.1
  have hbY := HR4.out.lt
  have hxY := HX4.out.lt
  have fz := HR4.out.frozen 1
  have n1 : rb ≠ Y.heap.size := by omega
  have n2 : w.heap.size ≠ Y.heap.size := by omega
  have APP : Hid (∀ w', w' = (Y.alloc (.cells #[.int .i64 s.off, .int .i64 s.del, .int .i64 s.bnd] 38)).drew → ((some (⟨gq, 0, none⟩ : Addr)) = none ∧ L.length = 0 ∧ c = 0) ∨ ∃ a', (some (⟨gq, 0, none⟩ : Addr)) = some a' ∧ ∀ j u, (smpCells L)[j]? = some u → w'.cell? (a'.add j) = some u) := by
    refine hid ?_
    rintro w' rfl
    have hbl : Below Y.heap.size Y (Y.alloc (.cells #[.int .i64 s.off, .int .i64 s.del, .int .i64 s.bnd] 38)).drew := (ba (Below.refl _ _) _).drew
    rcases HR4.out.2.1 with ⟨h0, h1, h2⟩ | ⟨gg, h1, h2, h3, h4, h5, h6⟩
    · exact Or.inl ⟨h1, by rw [h0]; rfl, h2⟩
    · exact Or.inr ⟨⟨gg, 0, none⟩, h1, fun j u hj => holds_cells (h6.below hbl) j u hj⟩
  obtain ⟨N, hN⟩ : ∃ N, N = L.length + 1 := ⟨_, rfl⟩
  have HN := hid hN
  have hN9 : N ≤ 9 := by omega
  have hl8 : True := trivial
  clear hN
  have hmx : maxLen = 9223372036854775807 := rfl
  by_cases h8 : (8 : Int) < (N : Int)
  · skip
    go_region_law ((refine step_append_may _ (by rfl) _ _ 43 (by rfl) Y.heap.size 38 i0 (.agg #[.int .i64 0, .int .i64 0, .int .i64 0]) 3 24 Try.underlying43 hi0 hz0 Hz1.out Hz2.out rfl (by omega) (.slice (some ⟨Y.heap.size, 0, none⟩) 1 1) 1 _ (by rfl) ((World.ownsRow_lit Y #[.int .i64 s.off, .int .i64 s.del, .int .i64 s.bnd] 1 (Nat.le_refl _) (by unfold maxLen; omega) rfl).drew) (by simp) (some (⟨gq, 0, none⟩ : Addr)) L.length c (smpCells L) (by rfl) (length_smpCells L) (APP.out _ rfl) (smpCells_one L) N (by rw [HN.out]; omega) (by unfold maxLen; omega) (by omega) (by simp) ?_; intro gg cap w1 hown1 hgrow hlo hhi hcap hcap2; have hcapI : (N : Int) ≤ (cap : Int) := (by omega); have hbw1 : rb < w1.heap.size := (by have := hgrow.size; simp at this; omega); have e1 : w1.cell? ⟨rb, 1, none⟩ = some (.slice (some (⟨gq, 0, none⟩ : Addr)) L.length c) := (by rw [hgrow.cell_far _ (by simp; omega) (by simp [Value.ownBlock]; omega)]; exact cell_later (ba (Below.refl _ _) _).drew d1); have e2 : w1.frozen? ⟨rb, 1, none⟩ = false := (by rw [hgrow.frozen_far _ (by simp; omega) (by simp [Value.ownBlock]; omega), Below.frozen (ba (Below.refl _ _) _).drew hbY]; exact fz)))
    all_goals
     have HO := hid hown1
     have HG := hid hgrow
     clear hown1 hgrow
     have hal : Below Y.heap.size Y (Y.alloc (.cells #[.int .i64 s.off, .int .i64 s.del, .int .i64 s.bnd] 38)).drew := (ba (Below.refl _ _) _).drew
     have HRB : RAt w1 rb g (some (⟨gq, 0, none⟩ : Addr)) c L 0 := by
       have hh := HR4.out.below hal
       refine ⟨by rw [HG.out.block rb hh.lt (by simp [Value.ownBlock]; omega)]; exact hh.1, ?_, hh.2.2⟩
       rcases HR4.out.2.1 with h | ⟨q, h1, h2, h3, h4, h5, h6⟩
       · exact Or.inl h
       · have hq := h6.below hal
         have hne2 : some q ≠ (Value.slice (some ⟨Y.heap.size, 0, none⟩) 1 1).ownBlock := by simp [Value.ownBlock]; omega
         refine Or.inr ⟨q, h1, h2, h3, Nat.lt_of_lt_of_le h4 (Nat.le_trans hal.size HG.out.size), h5, fun k s hk => ?_⟩
         obtain ⟨a0, a1, a2⟩ := hq k s hk
         exact ⟨HG.out.cell a0 hne2, HG.out.cell a1 hne2, HG.out.cell a2 hne2⟩
     have HT : Holds w1 gg 0 (s :: L) := by
       obtain ⟨g2, c2, he, t1, t2, t3, t4, t5⟩ := told_of_row' (l := s :: L) (by rw [HN.out]; rfl) HO.out (by simp)
       simp only [Value.slice.injEq, Option.some.injEq, Addr.mk.injEq, and_true, true_and] at he
       obtain ⟨rfl, _, rfl⟩ := he
       exact t5
     have hgr : rb < gg := by omega
     have hlN : (s :: L).length = N := by rw [HN.out]; rfl
     have HRC : Hid (RAt (w1.setCell ⟨rb, 1, none⟩ (.slice (some ⟨gg, 0, none⟩) N cap)) rb g (some ⟨gg, 0, none⟩) cap (s :: L) 0) := by
       rw [← hlN]
       exact hid (HRB.setL (by omega) (by omega) hhi hgr HT (by simp; omega))
     have GC : Hid (w.grownBy (w1.setCell ⟨rb, 1, none⟩ (.slice (some ⟨gg, 0, none⟩) N cap)) (some rb)) :=
       hid (gbt G4.out (gbt (gb (hal.grown HG.out hal.size (fun k hk => by simp [Value.ownBlock] at hk; subst hk; exact Nat.le_refl _)) _) (gbset _ _ _ _)))
     have HLN := hid hlN
     clear hal HRB HT hlN e1 e2 hbw1
     generalize (w1.setCell ⟨rb, 1, none⟩ (.slice (some ⟨gg, 0, none⟩) N cap)) = V at HRC GC ⊢
     have hbV := HRC.out.lt
     obtain ⟨_, v1, _⟩ := HRC.out.cell
     rw [HLN.out] at v1
     have fv := HRC.out.frozen 1
     go_wp2
    all_goals
      go_ret2
      refine ⟨rfl, ⟨some ⟨gg, 0, none⟩, cap, ?_⟩, gbt GC.out (gbset _ _ _ _)⟩
      have hcc := HRC.out
      rcases hcc.2.1 with ⟨h, _⟩ | ⟨q, h1, h2, h3, h4, h5, h6⟩
      · cases h
      · injection h1 with h1
        injection h1 with h1
        subst h1
        have hl8 : ((s :: L).take 8).length = 8 := by rw [List.length_take, HLN.out]; omega
        have := hcc.setL (L' := (s :: L).take 8) (by rw [hl8]; omega) h3 h4 h5 (h6.take 8) (by rw [hl8]; omega)
        rw [hl8] at this
        exact this

  · skip
    go_region_law ((refine step_append_may _ (by rfl) _ _ 43 (by rfl) Y.heap.size 38 i0 (.agg #[.int .i64 0, .int .i64 0, .int .i64 0]) 3 24 Try.underlying43 hi0 hz0 Hz1.out Hz2.out rfl (by omega) (.slice (some ⟨Y.heap.size, 0, none⟩) 1 1) 1 _ (by rfl) ((World.ownsRow_lit Y #[.int .i64 s.off, .int .i64 s.del, .int .i64 s.bnd] 1 (Nat.le_refl _) (by unfold maxLen; omega) rfl).drew) (by simp) (some (⟨gq, 0, none⟩ : Addr)) L.length c (smpCells L) (by rfl) (length_smpCells L) (APP.out _ rfl) (smpCells_one L) N (by rw [HN.out]; omega) (by unfold maxLen; omega) (by omega) (by simp) ?_; intro gg cap w1 hown1 hgrow hlo hhi hcap hcap2; have hcapI : (N : Int) ≤ (cap : Int) := (by omega); have hbw1 : rb < w1.heap.size := (by have := hgrow.size; simp at this; omega); have e1 : w1.cell? ⟨rb, 1, none⟩ = some (.slice (some (⟨gq, 0, none⟩ : Addr)) L.length c) := (by rw [hgrow.cell_far _ (by simp; omega) (by simp [Value.ownBlock]; omega)]; exact cell_later (ba (Below.refl _ _) _).drew d1); have e2 : w1.frozen? ⟨rb, 1, none⟩ = false := (by rw [hgrow.frozen_far _ (by simp; omega) (by simp [Value.ownBlock]; omega), Below.frozen (ba (Below.refl _ _) _).drew hbY]; exact fz)))
    all_goals
     have HO := hid hown1
     have HG := hid hgrow
     clear hown1 hgrow
     have hal : Below Y.heap.size Y (Y.alloc (.cells #[.int .i64 s.off, .int .i64 s.del, .int .i64 s.bnd] 38)).drew := (ba (Below.refl _ _) _).drew
     have HRB : RAt w1 rb g (some (⟨gq, 0, none⟩ : Addr)) c L 0 := by
       have hh := HR4.out.below hal
       refine ⟨by rw [HG.out.block rb hh.lt (by simp [Value.ownBlock]; omega)]; exact hh.1, ?_, hh.2.2⟩
       rcases HR4.out.2.1 with h | ⟨q, h1, h2, h3, h4, h5, h6⟩
       · exact Or.inl h
       · have hq := h6.below hal
         have hne2 : some q ≠ (Value.slice (some ⟨Y.heap.size, 0, none⟩) 1 1).ownBlock := by simp [Value.ownBlock]; omega
         refine Or.inr ⟨q, h1, h2, h3, Nat.lt_of_lt_of_le h4 (Nat.le_trans hal.size HG.out.size), h5, fun k s hk => ?_⟩
         obtain ⟨a0, a1, a2⟩ := hq k s hk
         exact ⟨HG.out.cell a0 hne2, HG.out.cell a1 hne2, HG.out.cell a2 hne2⟩
     have HT : Holds w1 gg 0 (s :: L) := by
       obtain ⟨g2, c2, he, t1, t2, t3, t4, t5⟩ := told_of_row' (l := s :: L) (by rw [HN.out]; rfl) HO.out (by simp)
       simp only [Value.slice.injEq, Option.some.injEq, Addr.mk.injEq, and_true, true_and] at he
       obtain ⟨rfl, _, rfl⟩ := he
       exact t5
     have hgr : rb < gg := by omega
     have hlN : (s :: L).length = N := by rw [HN.out]; rfl
     have HRC : Hid (RAt (w1.setCell ⟨rb, 1, none⟩ (.slice (some ⟨gg, 0, none⟩) N cap)) rb g (some ⟨gg, 0, none⟩) cap (s :: L) 0) := by
       rw [← hlN]
       exact hid (HRB.setL (by omega) (by omega) hhi hgr HT (by simp; omega))
     have GC : Hid (w.grownBy (w1.setCell ⟨rb, 1, none⟩ (.slice (some ⟨gg, 0, none⟩) N cap)) (some rb)) :=
       hid (gbt G4.out (gbt (gb (hal.grown HG.out hal.size (fun k hk => by simp [Value.ownBlock] at hk; subst hk; exact Nat.le_refl _)) _) (gbset _ _ _ _)))
     have HLN := hid hlN
     clear hal HRB HT hlN e1 e2 hbw1
     generalize (w1.setCell ⟨rb, 1, none⟩ (.slice (some ⟨gg, 0, none⟩) N cap)) = V at HRC GC ⊢
     have hbV := HRC.out.lt
     obtain ⟨_, v1, _⟩ := HRC.out.cell
     rw [HLN.out] at v1
     have fv := HRC.out.frozen 1
     go_wp2
    all_goals
     go_ret2
     refine ⟨rfl, ⟨some ⟨gg, 0, none⟩, cap, ?_⟩, GC.out⟩
     have ht : (s :: L).take 8 = s :: L := List.take_of_length_le (by rw [HLN.out]; omega)
     have hh := HRC.out
     rw [← ht] at hh
     exact hh
end Go.Proofs.Ytlljndojbhopfaa
