/- the reference of layer 15: Grow, Shift. -/
import Derived.Test.YtlljndojbhopfaaRFil4
namespace Go.Proofs.Ytlljndojbhopfaa
open Go Go.RowKit
set_option linter.unusedVariables false
set_option linter.unusedSimpArgs false
attribute [local go_sem] bmax2 bmin2 bmax bmin cell_ext frozen_ext

theorem RGrow_neg (rb : Nat) (q : Int) (w : World) (hq : q < 0) :
    Calls Try.prog 21 #[.pointer (some ⟨rb, 0, none⟩), .int .i64 q] w fun e w' => e = .returned (.int .i64 1) ∧ Below w.heap.size w w' := by
  go_enter Try.func21, Try.ntmps21
  go_wp2
  go_ret
  exact ⟨rfl, Below.refl _ _⟩

set_option maxHeartbeats 4000000 in
set_option maxRecDepth 100000 in
theorem RGrow (w : World) (rb c : Nat) (g r q : Int) (ad : Option Addr) (L : List Smp) (h : RAt w rb g ad c L r) (hok : ∀ s ∈ L, okS s) (hL8 : L.length ≤ 8) (hq0 : 0 ≤ q) (hq1 : q ≤ 9223372036854775807) :
    Calls Try.prog 21 #[.pointer (some ⟨rb, 0, none⟩), .int .i64 q] w fun e w' =>
      (e = .returned (.int .i64 6) ∧ (∃ s ∈ L, 1152921504606846976 < s.bnd + q) ∧ Below w.heap.size w w') ∨
      (e = .returned (.int .i64 0) ∧ (∀ s ∈ L, s.bnd + q ≤ 1152921504606846976) ∧ (∃ ad' c', RAt w' rb g ad' c' (L.map (Smp.grow q)) r) ∧ w.grownBy w' (some rb)) := by
  have hb := h.lt
  obtain ⟨i0, hi0, hz0, hz1, hz2⟩ := info_parts info_smp14
  have Hz2 := hid hz2
  have Hz1 := hid hz1
  clear hz2 hz1
  have hnum := h.cell.2.1
  have hmx : maxLen = 9223372036854775807 := rfl
  have H := hid h
  have HOK := hid hok
  clear h hok
  have hqn : ¬ q < 0 := by omega
  go_enter Try.func21, Try.ntmps21
  go_wp2
  have B1 := hid (ba (Below.refl w.heap.size w) (.cells #[] 38))
  have O1 := hid (World.ownsRow_lit (base := w.heap.size) (e := 38) (size := 3) w #[] 0 (Nat.le_refl _) (by omega) rfl)
  generalize (w.alloc _) = W at B1 O1 ⊢
  clear hnum
  go_loopw [5, 6, 7] (fun lv i bx wr => ∃ (k : Nat), k ≤ L.length ∧ i = .int .i64 k ∧ Hid (∀ s ∈ L.take k, s.bnd + q ≤ 1152921504606846976) ∧ Hid (Below w.heap.size w wr) ∧ Hid (wr.ownsRow w.heap.size 38 3 lv k (smpCells ((L.map (Smp.grow q)).take k))) ∧ Hid (lv ≠ .slice none 0 0)) (fun _ i _ _ => L.length - (intOf i).toNat)
  case atStart => exact ⟨0, Nat.zero_le _, rfl, hid (by simp), B1, O1, hid (by simp)⟩
  case round =>
    obtain ⟨k, hk, rfl, hall, hbl, hown, hnn⟩ := hrel
    have HR := hid (H.out.below hbl.out)
    have hbr := HR.out.lt
    obtain ⟨_, hc1, _⟩ := HR.out.cell
    by_cases hlt : k < L.length
    · obtain ⟨y, hy⟩ : ∃ y, L[k]? = some y := ⟨_, List.getElem?_eq_getElem hlt⟩
      rcases HR.out.2.1 with ⟨rfl, _⟩ | ⟨gg, rfl, s2, s3, s4, s5, s6⟩
      · simp at hlt
      obtain ⟨c0, c1, c2⟩ := s6 k y hy
      rw [Nat.zero_add] at c0 c1 c2
      have i1 : (k : Int) < (L.length : Int) := by omega
      have i2 : (0 : Int) ≤ (k : Int) := by omega
      obtain ⟨y1, y2, y3, y4, y5, y6⟩ := HOK.out y (List.mem_of_getElem? hy)
      have HY := hid hy
      clear s6 hy
      have XY := hid (Box3.new wr y 38)
      have BY := hid (bt' hbl.out (ba (Below.refl _ _) (.cells #[.int .i64 y.off, .int .i64 y.del, .int .i64 y.bnd] 38)) hbl.out.size)
      have hsz := hbl.out.size
      have hX := XY.out.lt
      by_cases hov : 1152921504606846976 < y.bnd + q
      · rcases (by omega : 1152921504606846976 < q ∨ (q ≤ 1152921504606846976 ∧ 1152921504606846976 - q < y.bnd)) with m1 | ⟨m1, m2⟩
        · have m2 : min q 1152921504606846976 = 1152921504606846976 := by omega
          have m5 : decide (1152921504606846976 < q) = true := decide_eq_true m1
          go_wp2
          all_goals
           go_ret
           exact Or.inl ⟨rfl, ⟨y, List.mem_of_getElem? HY.out, by omega⟩, BY.out⟩
        · have m3 : min q 1152921504606846976 = q := by omega
          have m5 : decide (1152921504606846976 - q < y.bnd) = true := decide_eq_true m2
          go_wp2
          go_ret
          exact Or.inl ⟨rfl, ⟨y, List.mem_of_getElem? HY.out, by omega⟩, BY.out⟩
      · have m1 : min q 1152921504606846976 = q := by omega
        have m2 : ¬ 1152921504606846976 - q < y.bnd := by omega
        have m3 : ¬ 1152921504606846976 < q := by omega
        have m4 : decide (1152921504606846976 - q < y.bnd) = false := decide_eq_false m2
        have m5 : decide (1152921504606846976 < q) = false := decide_eq_false m3
        have hk1 : k + 1 ≤ maxLen := by omega
        go_wp2_with (at_builtin; refine wpList_append_own _ rfl _ _ 43 rfl w.heap.size 38 i0 (.agg #[.int .i64 0, .int .i64 0, .int .i64 0]) 3 24 Try.underlying43 hi0 hz0 Hz1.out Hz2.out rfl (by decide) u5 k _ rfl ((hown.out.alloc _).alloc _) ⟨wr.heap.size + 1, 0, none⟩ 1 1 (smpCells [(Smp.grow q y)]) rfl rfl ?c1 (smpCells_one _) ?c2 ?c3 ?c4 ?c5)
        case c1 =>
          intro j u hj
          exact hj
        case c2 => omega
        case c3 => omega
        case c4 => first | omega | (simp; omega)
        case c5 =>
          intro v' w' how hgr hnil'
          have HO : Hid (w'.ownsRow w.heap.size 38 3 v' (k + 1) (smpCells ((L.map (Smp.grow q)).take (k + 1)))) := by
            rw [List.take_add_one, List.getElem?_map, HY.out]
            have e : smpCells ((L.map (Smp.grow q)).take k ++ (Option.map (Smp.grow q) (some y)).toList) = smpCells ((L.map (Smp.grow q)).take k) ++ smpCells [Smp.grow q y] := by simp [smpCells]
            rw [e]
            exact hid how
          have HN : Hid (v' ≠ .slice none 0 0) := hid hnil'
          have BG := hid ((bt' hbl.out (ba (ba (Below.refl wr.heap.size wr) (.cells #[.int .i64 (Smp.grow q y).off, .int .i64 (Smp.grow q y).del, .int .i64 (Smp.grow q y).bnd] 38)) (.cells #[.int .i64 (Smp.grow q y).off, .int .i64 (Smp.grow q y).del, .int .i64 (Smp.grow q y).bnd] 38)) hbl.out.size).grown hgr (by simp; omega) (fun j hj => (hown.out.lt j hj).1))
          clear how hgr hnil'
          go_wp2
          go_roundw
          case measure => simp [intOf]; omega
          case rel =>
            refine ⟨k + 1, by omega, by go_num, hid ?_, BG, HO, HN⟩
            intro s hs
            rw [List.take_add_one, HY.out] at hs
            rcases List.mem_append.1 hs with h | h
            · exact hall.out s h
            · simp at h; subst h; omega

    · obtain rfl : k = L.length := by omega
      rw [List.take_length] at hall
      rw [List.take_of_length_le (by simp)] at hown
      obtain ⟨g2, c2, rfl, t1, t2, t3, t4, t5⟩ := told_of_row' (l := L.map (Smp.grow q)) (by simp) hown.out hnn.out
      have T5 := hid t5
      rw [List.length_map] at t1 ⊢
      have fz := HR.out.frozen 1
      have hg2r : rb < g2 := by omega
      have HRC : Hid (RAt (wr.setCell ⟨rb, 1, none⟩ (.slice (some ⟨g2, 0, none⟩) L.length c2)) rb g (some ⟨g2, 0, none⟩) c2 (L.map (Smp.grow q)) r) := by
        have := HR.out.setL (L' := L.map (Smp.grow q)) (by simpa using t1) t2 t4 hg2r T5.out (by simp; omega)
        rw [List.length_map] at this
        exact hid this
      clear t5 hown hnn
      go_wp2
      go_ret
      exact Or.inr ⟨rfl, hall.out, ⟨_, _, HRC.out⟩, gbt (gb hbl.out _) (gbset _ _ _ _)⟩

set_option maxHeartbeats 4000000 in
set_option maxRecDepth 100000 in
theorem RShift (w : World) (rb c : Nat) (g r q : Int) (ad : Option Addr) (L : List Smp) (h : RAt w rb g ad c L r) (hok : ∀ s ∈ L, okS s) (hL8 : L.length ≤ 8) (hq0 : -9223372036854775808 ≤ q) (hq1 : q ≤ 9223372036854775807) :
    Calls Try.prog 23 #[.pointer (some ⟨rb, 0, none⟩), .int .i64 q] w fun e w' =>
      (e = .returned (.int .i64 6) ∧ (∃ s ∈ L, ¬ (-1152921504606846976 ≤ s.off + q ∧ s.off + q ≤ 1152921504606846976)) ∧ Below w.heap.size w w') ∨
      (e = .returned (.int .i64 0) ∧ (∀ s ∈ L, -1152921504606846976 ≤ s.off + q ∧ s.off + q ≤ 1152921504606846976) ∧ (∃ ad' c', RAt w' rb g ad' c' (L.map (Smp.shift q)) r) ∧ w.grownBy w' (some rb)) := by
  have hb := h.lt
  obtain ⟨i0, hi0, hz0, hz1, hz2⟩ := info_parts info_smp14
  have Hz2 := hid hz2
  have Hz1 := hid hz1
  clear hz2 hz1
  have hnum := h.cell.2.1
  have hmx : maxLen = 9223372036854775807 := rfl
  have H := hid h
  have HOK := hid hok
  clear h hok
  go_enter Try.func23, Try.ntmps23
  go_wp2
  have B1 := hid (ba (Below.refl w.heap.size w) (.cells #[] 38))
  have O1 := hid (World.ownsRow_lit (base := w.heap.size) (e := 38) (size := 3) w #[] 0 (Nat.le_refl _) (by omega) rfl)
  generalize (w.alloc _) = W at B1 O1 ⊢
  clear hnum
  go_loopw [5, 6, 7] (fun lv i bx wr => ∃ (k : Nat), k ≤ L.length ∧ i = .int .i64 k ∧ Hid (∀ s ∈ L.take k, -1152921504606846976 ≤ s.off + q ∧ s.off + q ≤ 1152921504606846976) ∧ Hid (Below w.heap.size w wr) ∧ Hid (wr.ownsRow w.heap.size 38 3 lv k (smpCells ((L.map (Smp.shift q)).take k))) ∧ Hid (lv ≠ .slice none 0 0)) (fun _ i _ _ => L.length - (intOf i).toNat)
  case atStart => exact ⟨0, Nat.zero_le _, rfl, hid (by simp), B1, O1, hid (by simp)⟩
  case round =>
    obtain ⟨k, hk, rfl, hall, hbl, hown, hnn⟩ := hrel
    have HR := hid (H.out.below hbl.out)
    have hbr := HR.out.lt
    obtain ⟨_, hc1, _⟩ := HR.out.cell
    by_cases hlt : k < L.length
    · obtain ⟨y, hy⟩ : ∃ y, L[k]? = some y := ⟨_, List.getElem?_eq_getElem hlt⟩
      rcases HR.out.2.1 with ⟨rfl, _⟩ | ⟨gg, rfl, s2, s3, s4, s5, s6⟩
      · simp at hlt
      obtain ⟨c0, c1, c2⟩ := s6 k y hy
      rw [Nat.zero_add] at c0 c1 c2
      have i1 : (k : Int) < (L.length : Int) := by omega
      have i2 : (0 : Int) ≤ (k : Int) := by omega
      obtain ⟨y1, y2, y3, y4, y5, y6⟩ := HOK.out y (List.mem_of_getElem? hy)
      have HY := hid hy
      clear s6 hy
      have XY := hid (Box3.new wr y 38)
      have BY := hid (bt' hbl.out (ba (Below.refl _ _) (.cells #[.int .i64 y.off, .int .i64 y.del, .int .i64 y.bnd] 38)) hbl.out.size)
      have hsz := hbl.out.size
      have hX := XY.out.lt
      by_cases hov : ¬ (-1152921504606846976 ≤ y.off + q ∧ y.off + q ≤ 1152921504606846976)
      · rcases (by omega : q < -2305843009213693952 ∨ 2305843009213693952 < q ∨ (¬ q < -2305843009213693952 ∧ ¬ 2305843009213693952 < q ∧ y.off + q < -1152921504606846976) ∨ (¬ q < -2305843009213693952 ∧ ¬ 2305843009213693952 < q ∧ ¬ y.off + q < -1152921504606846976 ∧ 1152921504606846976 < y.off + q)) with m1 | m1 | ⟨m1, m2, m3⟩ | ⟨m1, m2, m3, m4⟩
        · have k1 : decide (q < -2305843009213693952) = true := decide_eq_true m1
          go_wp2
          all_goals
           go_ret
           exact Or.inl ⟨rfl, ⟨y, List.mem_of_getElem? HY.out, by omega⟩, BY.out⟩
        · have k0 : ¬ q < -2305843009213693952 := by omega
          have k1 : decide (2305843009213693952 < q) = true := decide_eq_true m1
          go_wp2
          all_goals
           go_ret
           exact Or.inl ⟨rfl, ⟨y, List.mem_of_getElem? HY.out, by omega⟩, BY.out⟩
        · have k1 : decide (y.off + q < -1152921504606846976) = true := decide_eq_true m3
          go_wp2
          go_ret
          exact Or.inl ⟨rfl, ⟨y, List.mem_of_getElem? HY.out, by omega⟩, BY.out⟩
        · have k0 : decide (y.off + q < -1152921504606846976) = false := decide_eq_false m3
          have k1 : decide (1152921504606846976 < y.off + q) = true := decide_eq_true m4
          go_wp2
          go_ret
          exact Or.inl ⟨rfl, ⟨y, List.mem_of_getElem? HY.out, by omega⟩, BY.out⟩
      · have m1 : ¬ q < -2305843009213693952 := by omega
        have m2 : ¬ 2305843009213693952 < q := by omega
        have m3 : ¬ y.off + q < -1152921504606846976 := by omega
        have m4 : ¬ 1152921504606846976 < y.off + q := by omega
        have k3 : decide (y.off + q < -1152921504606846976) = false := decide_eq_false m3
        have k4 : decide (1152921504606846976 < y.off + q) = false := decide_eq_false m4
        have hk1 : k + 1 ≤ maxLen := by omega
        go_wp2_with (at_builtin; refine wpList_append_own _ rfl _ _ 43 rfl w.heap.size 38 i0 (.agg #[.int .i64 0, .int .i64 0, .int .i64 0]) 3 24 Try.underlying43 hi0 hz0 Hz1.out Hz2.out rfl (by decide) u5 k _ rfl ((hown.out.alloc _).alloc _) ⟨wr.heap.size + 1, 0, none⟩ 1 1 (smpCells [(Smp.shift q y)]) rfl rfl ?c1 (smpCells_one _) ?c2 ?c3 ?c4 ?c5)
        case c1 =>
          intro j u hj
          exact hj
        case c2 => omega
        case c3 => omega
        case c4 => first | omega | (simp; omega)
        case c5 =>
          intro v' w' how hgr hnil'
          have HO : Hid (w'.ownsRow w.heap.size 38 3 v' (k + 1) (smpCells ((L.map (Smp.shift q)).take (k + 1)))) := by
            rw [List.take_add_one, List.getElem?_map, HY.out]
            have e : smpCells ((L.map (Smp.shift q)).take k ++ (Option.map (Smp.shift q) (some y)).toList) = smpCells ((L.map (Smp.shift q)).take k) ++ smpCells [Smp.shift q y] := by simp [smpCells]
            rw [e]
            exact hid how
          have HN : Hid (v' ≠ .slice none 0 0) := hid hnil'
          have BG := hid ((bt' hbl.out (ba (ba (Below.refl wr.heap.size wr) (.cells #[.int .i64 (Smp.shift q y).off, .int .i64 (Smp.shift q y).del, .int .i64 (Smp.shift q y).bnd] 38)) (.cells #[.int .i64 (Smp.shift q y).off, .int .i64 (Smp.shift q y).del, .int .i64 (Smp.shift q y).bnd] 38)) hbl.out.size).grown hgr (by simp; omega) (fun j hj => (hown.out.lt j hj).1))
          clear how hgr hnil'
          go_wp2
          go_roundw
          case measure => simp [intOf]; omega
          case rel =>
            refine ⟨k + 1, by omega, by go_num, hid ?_, BG, HO, HN⟩
            intro s hs
            rw [List.take_add_one, HY.out] at hs
            rcases List.mem_append.1 hs with h | h
            · exact hall.out s h
            · simp at h; subst h; omega

    · obtain rfl : k = L.length := by omega
      rw [List.take_length] at hall
      rw [List.take_of_length_le (by simp)] at hown
      obtain ⟨g2, c2, rfl, t1, t2, t3, t4, t5⟩ := told_of_row' (l := L.map (Smp.shift q)) (by simp) hown.out hnn.out
      have T5 := hid t5
      rw [List.length_map] at t1 ⊢
      have fz := HR.out.frozen 1
      have hg2r : rb < g2 := by omega
      have HRC : Hid (RAt (wr.setCell ⟨rb, 1, none⟩ (.slice (some ⟨g2, 0, none⟩) L.length c2)) rb g (some ⟨g2, 0, none⟩) c2 (L.map (Smp.shift q)) r) := by
        have := HR.out.setL (L' := L.map (Smp.shift q)) (by simpa using t1) t2 t4 hg2r T5.out (by simp; omega)
        rw [List.length_map] at this
        exact hid this
      clear t5 hown hnn
      go_wp2
      go_ret
      exact Or.inr ⟨rfl, hall.out, ⟨_, _, HRC.out⟩, gbt (gb hbl.out _) (gbset _ _ _ _)⟩
end Go.Proofs.Ytlljndojbhopfaa
