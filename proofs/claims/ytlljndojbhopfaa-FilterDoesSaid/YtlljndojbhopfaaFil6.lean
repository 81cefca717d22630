/- filter: Grow, Shift. -/
import Derived.Test.YtlljndojbhopfaaFil5
namespace Go.Proofs.Ytlljndojbhopfaa
open Go Go.RowKit
set_option linter.unusedVariables false
set_option linter.unusedSimpArgs false
attribute [local go_sem] bmax2 bmin2 bmax bmin cell_ext frozen_ext

theorem Grow_neg (b : Nat) (q : Int) (w : World) (hq : q < 0) :
    Calls Try.prog 20 #[.pointer (some ⟨b, 0, none⟩), .int .i64 q] w fun e w' => e = .returned (.int .i64 1) ∧ Below w.heap.size w w' := by
  go_enter Try.func20, Try.ntmps20
  go_wp2
  go_ret
  exact ⟨rfl, Below.refl _ _⟩

def Smp.grow (q : Int) (s : Smp) : Smp := ⟨s.off, s.del, s.bnd + q⟩
def Smp.shift (q : Int) (s : Smp) : Smp := ⟨s.off + q, s.del, s.bnd⟩
/-- the first k places are changed -/
def upto (f : Smp → Smp) (k : Nat) (st : List Smp) : List Smp := (st.take k).map f ++ st.drop k
theorem upto_length (f : Smp → Smp) (k : Nat) (st : List Smp) : (upto f k st).length = st.length := by
  simp [upto]; omega
theorem upto_zero (f : Smp → Smp) (st : List Smp) : upto f 0 st = st := by simp [upto]
theorem upto_get {f : Smp → Smp} {k : Nat} {st : List Smp} {y : Smp} (h : st[k]? = some y) : (upto f k st)[k]? = some y := by
  have hk := (List.getElem?_eq_some_iff.1 h).1
  unfold upto
  rw [List.getElem?_append_right (by simp; omega)]
  simp
  rw [show k + (k - min k st.length) = k from by omega]
  exact h
theorem upto_set {f : Smp → Smp} {k : Nat} {st : List Smp} {y : Smp} (h : st[k]? = some y) : (upto f k st).set k (f y) = upto f (k + 1) st := by
  have hk := (List.getElem?_eq_some_iff.1 h).1
  unfold upto
  rw [List.take_add_one, h, List.set_append_right _ _ (by simp; omega)]
  rw [show k - ((st.take k).map f).length = 0 from by simp; omega]
  rw [List.drop_eq_getElem_cons hk]
  rw [(List.getElem?_eq_some_iff.1 h).2]
  simp
theorem upto_take (f : Smp → Smp) (k : Nat) (st : List Smp) (h : k ≤ st.length) : (upto f k st).take k = (st.take k).map f := by
  unfold upto
  rw [List.take_left' (by simp; omega)]

theorem cells_set (l : List Smp) (k : Nat) (s t : Smp) (h : l[k]? = some s) :
    smpCells (l.set k t) = (((smpCells l).set (k * 3) (.int .i64 t.off)).set (k * 3 + 1) (.int .i64 t.del)).set (k * 3 + 2) (.int .i64 t.bnd) := by
  induction l generalizing k with
  | nil => simp at h
  | cons x l ih =>
    cases k with
    | zero => rfl
    | succ k =>
      have := ih k (by simpa using h)
      have e : ∀ j v (m : List Value), ([Value.int .i64 x.off, .int .i64 x.del, .int .i64 x.bnd] ++ m).set ((k + 1) * 3 + j) v = [Value.int .i64 x.off, .int .i64 x.del, .int .i64 x.bnd] ++ m.set (k * 3 + j) v := fun j v m => by
        rw [List.set_append_right _ _ (by simp; omega)]
        congr 2
        simp; omega
      show [Value.int .i64 x.off, .int .i64 x.del, .int .i64 x.bnd] ++ smpCells (l.set k t) = ((([Value.int .i64 x.off, .int .i64 x.del, .int .i64 x.bnd] ++ smpCells l).set ((k + 1) * 3 + 0) _).set _ _).set _ _
      rw [e, e, e, this]
      rfl
theorem set_same {α : Type} (l : List α) (k : Nat) (a : α) (h : l[k]? = some a) : l.set k a = l := by
  apply List.ext_getElem?
  intro i
  rw [List.getElem?_set]
  split
  · rename_i e; subst e; split
    · exact h.symm
    · rename_i h2; exact absurd (List.getElem?_eq_some_iff.1 h).1 h2
  · rfl
theorem fcells_set (g r : Int) (n : Nat) (st : List Smp) (k j : Nat) (v : Value) (h : j < st.length * 3) (hk : k = 1 + j) : (fcells g st n r).set k v = .int .i64 g :: (smpCells st).set j v ++ [.int .i64 (n : Int), .int .i64 r] := by
  subst hk
  unfold fcells
  rw [Nat.add_comm 1 j]
  show _ :: (smpCells st ++ _).set j v = _
  rw [List.set_append_left _ _ (by rw [length_smpCells]; exact h)]
  rfl
theorem FAt.setOff {w : World} {b n : Nat} {g r : Int} {st : List Smp} (h : FAt w b g st n r) {k : Nat} {s : Smp} (hk : st[k]? = some s) (q : Int) :
    FAt (w.setCell ⟨b, 1 + k * 3, none⟩ (.int .i64 (s.off + q))) b g (st.set k (s.shift q)) n r := by
  have hl := (List.getElem?_eq_some_iff.1 hk).1
  refine ⟨by simp [h.1], h.2.1, ?_⟩
  rw [heap_setCell_same w b _ _ _ _ h.2.2]
  congr 2
  rw [List.setIfInBounds_toArray, fcells_set g r n st _ (k * 3) _ (by omega) rfl]
  obtain ⟨e0, e1, e2⟩ := smpCells_get st k s hk
  show _ = (Value.int .i64 g :: smpCells (st.set k (s.shift q)) ++ _).toArray
  rw [cells_set st k s _ hk]
  rw [set_same (((smpCells st).set (k * 3) _)) (k * 3 + 1) _ (by rw [List.getElem?_set_ne (by omega)]; exact e1)]
  rw [set_same (((smpCells st).set (k * 3) _)) (k * 3 + 2) _ (by rw [List.getElem?_set_ne (by omega)]; exact e2)]
  rfl
theorem FAt.setBnd {w : World} {b n : Nat} {g r : Int} {st : List Smp} (h : FAt w b g st n r) {k : Nat} {s : Smp} (hk : st[k]? = some s) (q : Int) :
    FAt (w.setCell ⟨b, 1 + k * 3 + 2, none⟩ (.int .i64 (s.bnd + q))) b g (st.set k (s.grow q)) n r := by
  have hl := (List.getElem?_eq_some_iff.1 hk).1
  refine ⟨by simp [h.1], h.2.1, ?_⟩
  rw [heap_setCell_same w b _ _ _ _ h.2.2]
  congr 2
  rw [List.setIfInBounds_toArray, fcells_set g r n st _ (k * 3 + 2) _ (by omega) (by omega)]
  obtain ⟨e0, e1, e2⟩ := smpCells_get st k s hk
  show _ = (Value.int .i64 g :: smpCells (st.set k (s.grow q)) ++ _).toArray
  rw [cells_set st k s _ hk]
  rw [show (Smp.grow q s).off = s.off from rfl, show (Smp.grow q s).del = s.del from rfl, set_same (smpCells st) (k * 3) _ e0, set_same (smpCells st) (k * 3 + 1) _ e1]
  rfl

set_option maxHeartbeats 1000000 in
set_option maxRecDepth 100000 in
theorem Grow_any (b n : Nat) (g r q : Int) (st : List Smp) (w : World) (h : FAt w b g st n r) (hok : ∀ s ∈ st.take n, okS s) (hq0 : 0 ≤ q) (hq1 : q ≤ 9223372036854775807) :
    Calls Try.prog 20 #[.pointer (some ⟨b, 0, none⟩), .int .i64 q] w fun e w' =>
      (e = .returned (.int .i64 6) ∧ (∃ s ∈ st.take n, 1152921504606846976 < s.bnd + q) ∧ Below w.heap.size w w') ∨
      (e = .returned (.int .i64 0) ∧ (∀ s ∈ st.take n, s.bnd + q ≤ 1152921504606846976) ∧ FAt w' b g (upto (Smp.grow q) n st) n r ∧ w.grownBy w' (some b)) := by
  have hb := h.lt
  have hn8 := h.2.1
  have hl := h.1
  have hnum := h.num
  have H := hid h
  clear h
  have hn0 : (0 : Int) ≤ (n : Int) := by omega
  have hn8' : (n : Int) ≤ 8 := by omega
  have HL : Hid ((st.take n).length = n) := hid (by rw [List.length_take, hl]; omega)
  have HOK := hid hok
  have hqn : ¬ q < 0 := by omega
  clear hok
  go_enter Try.func20, Try.ntmps20
  go_wp2
  go_quiet (fail)
  go_wp2
  have H3 := hid (H.out.below (bd (Below.refl _ w) nq))
  have HX := hid (bd (Below.refl w.heap.size w) nq)
  generalize (w.drewN nq) = X at H3 HX ⊢
  go_loopw [19] (fun i wr => ∃ (k : Nat), k ≤ n ∧ i = .int .i64 k ∧ Hid (∀ s ∈ (st.take n).take k, s.bnd + q ≤ 1152921504606846976) ∧ Hid (Below w.heap.size w wr) ∧ Hid (FAt wr b g st n r)) (fun i _ => n - (intOf i).toNat)
  case atStart => exact ⟨0, Nat.zero_le _, rfl, by simp [Hid], HX, H3⟩
  case round =>
    obtain ⟨k, hk, rfl, hall, hbl, hf⟩ := hrel
    by_cases hlt : k < n
    · obtain ⟨y, hy⟩ : ∃ y, (st.take n)[k]? = some y := ⟨_, List.getElem?_eq_getElem (by rw [HL.out]; exact hlt)⟩
      obtain ⟨c0, c1, c2⟩ := (hf.out.holds.take n) k y hy
      have hyo := HOK.out y (List.mem_of_getElem? hy)
      have HY := hid hy
      have hbr := hf.out.lt
      have i1 : (k : Int) < (n : Int) := by omega
      have i2 : (0 : Int) ≤ (k : Int) := by omega
      obtain ⟨_, _, _, _, y1, y2⟩ := hyo
      clear hy
      by_cases hbig : 1152921504606846976 < y.bnd + q
      · have d1 : decide (1152921504606846976 - y.bnd < q) = true := decide_eq_true (by omega)
        have d2 : 1152921504606846976 - y.bnd < q := by omega
        go_wp2
        go_ret
        exact Or.inl ⟨rfl, ⟨y, List.mem_of_getElem? HY.out, hbig⟩, bt hbl.out (ba (Below.refl _ _) _)⟩
      · have d1 : decide (1152921504606846976 - y.bnd < q) = false := decide_eq_false (by omega)
        have d2 : ¬ 1152921504606846976 - y.bnd < q := by omega
        go_wp2
        go_roundw
        case measure => simp [intOf]; omega
        case rel =>
          refine ⟨k + 1, by omega, by go_num, hid ?_, hid (bt hbl.out (ba (Below.refl _ _) _)), hid (hf.out.below (ba (Below.refl _ _) _))⟩
          intro s hs
          rw [List.take_add_one, HY.out] at hs
          rcases List.mem_append.1 hs with h | h
          · exact hall.out s h
          · simp at h; subst h; omega
    · obtain rfl : k = n := by omega
      have hnum2 := hf.out.num
      have hbr := hf.out.lt
      rw [List.take_of_length_le (by rw [HL.out]; omega)] at hall
      clear hnum
      go_wp2
      go_loopw [33] (fun i w2 => ∃ (j : Nat), j ≤ k ∧ i = .int .i64 j ∧ Hid (w.grownBy w2 (some b)) ∧ Hid (FAt w2 b g (upto (Smp.grow q) j st) k r)) (fun i _ => k - (intOf i).toNat)
      case atStart => exact ⟨0, Nat.zero_le _, rfl, hid (gb hbl.out _), hid (by rw [upto_zero]; exact hf.out)⟩
      case round =>
        obtain ⟨j, hj, rfl, hgr, hf2⟩ := hrel
        by_cases hlt2 : j < k
        · obtain ⟨y, hy⟩ : ∃ y, st[j]? = some y := ⟨_, List.getElem?_eq_getElem (by omega)⟩
          have hyk : (st.take k)[j]? = some y := by rw [List.getElem?_take, if_pos hlt2]; exact hy
          have hyo := HOK.out y (List.mem_of_getElem? hyk)
          have hya := hall.out y (List.mem_of_getElem? hyk)
          obtain ⟨_, _, _, _, y1, y2⟩ := hyo
          have HY := hid hy
          have i1 : (j : Int) < (k : Int) := by omega
          have i2 : (0 : Int) ≤ (j : Int) := by omega
          have i3 : (j : Int) < 8 := by omega
          have c2 := (hf2.out.holds j y (upto_get hy)).2.2
          have fr := hf2.out.frozen (1 + j * 3 + 2)
          have hb2 := hf2.out.lt
          clear hy hyk
          go_wp2
          refine wp_region_plan_lit (C := fun w' => ∃ x, w' = wr.ext x) [] [0, 1, 2, 3, 4, 5, 6, 7, 8, 9, 10, 11, 12] [13] (by kernel_rfl) (by kernel_rfl) (by intro c a d v w h; cases d <;> exact h) ⟨wr.drew, (ext_of (Below.refl _ _).drew).symm⟩ ?_
          simp only [List.map_cons, List.map_nil, List.getD_cons_succ, List.getD_cons_zero]
          refine wpQuiet_nil ?_
          repeat (go_big_quiet_step (fail))
          refine wpQuiet_nil ?_
          rintro _ ⟨z, rfl⟩
          have H5 := hid (hf2.out.below (ext_below wr z))
          have HG5 := hid (gbt hgr.out (gb (ext_below wr z) _))
          generalize (wr.ext z) = Z at H5 HG5 ⊢
          have hbZ := H5.out.lt
          have z2 := (H5.out.holds j y (upto_get HY.out)).2.2
          have fz := H5.out.frozen (1 + j * 3 + 2)
          go_wp2
          go_roundw
          case measure => simp [intOf]; omega
          case rel =>
            refine ⟨j + 1, by omega, by go_num, hid (gbt HG5.out (gbset _ _ _ _)), hid ?_⟩
            have := H5.out.setBnd (upto_get HY.out) q
            rw [upto_set HY.out] at this
            exact this
        · obtain rfl : j = k := by omega
          go_wp2
          go_ret
          exact Or.inr ⟨rfl, hall.out, hf2.out, hgr.out⟩

set_option maxHeartbeats 1000000 in
set_option maxRecDepth 100000 in
theorem Shift_any (b n : Nat) (g r q : Int) (st : List Smp) (w : World) (h : FAt w b g st n r) (hok : ∀ s ∈ st.take n, okS s) (hq0 : -9223372036854775808 ≤ q) (hq1 : q ≤ 9223372036854775807) :
    Calls Try.prog 22 #[.pointer (some ⟨b, 0, none⟩), .int .i64 q] w fun e w' =>
      (e = .returned (.int .i64 6) ∧ (∃ s ∈ st.take n, ¬ (-1152921504606846976 ≤ s.off + q ∧ s.off + q ≤ 1152921504606846976)) ∧ Below w.heap.size w w') ∨
      (e = .returned (.int .i64 0) ∧ (∀ s ∈ st.take n, -1152921504606846976 ≤ s.off + q ∧ s.off + q ≤ 1152921504606846976) ∧ FAt w' b g (upto (Smp.shift q) n st) n r ∧ w.grownBy w' (some b)) := by
  have hb := h.lt
  have hn8 := h.2.1
  have hl := h.1
  have hnum := h.num
  have H := hid h
  clear h
  have hn0 : (0 : Int) ≤ (n : Int) := by omega
  have hn8' : (n : Int) ≤ 8 := by omega
  have HL : Hid ((st.take n).length = n) := hid (by rw [List.length_take, hl]; omega)
  have HOK := hid hok
  clear hok
  go_enter Try.func22, Try.ntmps22
  go_wp2
  go_quiet (fail)
  go_wp2
  have H3 := hid (H.out.below (bd (Below.refl _ w) nq))
  have HX := hid (bd (Below.refl w.heap.size w) nq)
  generalize (w.drewN nq) = X at H3 HX ⊢
  go_loopw [17] (fun i wr => ∃ (k : Nat), k ≤ n ∧ i = .int .i64 k ∧ Hid (∀ s ∈ (st.take n).take k, -1152921504606846976 ≤ s.off + q ∧ s.off + q ≤ 1152921504606846976) ∧ Hid (Below w.heap.size w wr) ∧ Hid (FAt wr b g st n r)) (fun i _ => n - (intOf i).toNat)
  case atStart => exact ⟨0, Nat.zero_le _, rfl, by simp [Hid], HX, H3⟩
  case round =>
    obtain ⟨k, hk, rfl, hall, hbl, hf⟩ := hrel
    by_cases hlt : k < n
    · obtain ⟨y, hy⟩ : ∃ y, (st.take n)[k]? = some y := ⟨_, List.getElem?_eq_getElem (by rw [HL.out]; exact hlt)⟩
      obtain ⟨c0, c1, c2⟩ := (hf.out.holds.take n) k y hy
      have hyo := HOK.out y (List.mem_of_getElem? hy)
      have HY := hid hy
      have hbr := hf.out.lt
      have i1 : (k : Int) < (n : Int) := by omega
      have i2 : (0 : Int) ≤ (k : Int) := by omega
      obtain ⟨y1, y2, _⟩ := hyo
      clear hy
      by_cases hbig : 1152921504606846976 < y.off + q
      · have d1 : decide (1152921504606846976 - y.off < q) = true := decide_eq_true (by omega)
        have d2 : 1152921504606846976 - y.off < q := by omega
        go_wp2
        go_ret
        exact Or.inl ⟨rfl, ⟨y, List.mem_of_getElem? HY.out, by omega⟩, bt hbl.out (ba (Below.refl _ _) _)⟩
      by_cases hsml : y.off + q < -1152921504606846976
      · have d1 : decide (1152921504606846976 - y.off < q) = false := decide_eq_false (by omega)
        have d2 : ¬ 1152921504606846976 - y.off < q := by omega
        have d3 : decide (q < -1152921504606846976 - y.off) = true := decide_eq_true (by omega)
        have d4 : q < -1152921504606846976 - y.off := by omega
        go_wp2
        go_ret
        exact Or.inl ⟨rfl, ⟨y, List.mem_of_getElem? HY.out, by omega⟩, bt hbl.out (ba (Below.refl _ _) _)⟩
      · have d1 : decide (1152921504606846976 - y.off < q) = false := decide_eq_false (by omega)
        have d2 : ¬ 1152921504606846976 - y.off < q := by omega
        have d3 : decide (q < -1152921504606846976 - y.off) = false := decide_eq_false (by omega)
        have d4 : ¬ q < -1152921504606846976 - y.off := by omega
        go_wp2
        go_roundw
        case measure => simp [intOf]; omega
        case rel =>
          refine ⟨k + 1, by omega, by go_num, hid ?_, hid (bt hbl.out (ba (Below.refl _ _) _)), hid (hf.out.below (ba (Below.refl _ _) _))⟩
          intro s hs
          rw [List.take_add_one, HY.out] at hs
          rcases List.mem_append.1 hs with h | h
          · exact hall.out s h
          · simp at h; subst h; omega
    · obtain rfl : k = n := by omega
      have hnum2 := hf.out.num
      have hbr := hf.out.lt
      rw [List.take_of_length_le (by rw [HL.out]; omega)] at hall
      clear hnum
      go_wp2
      go_loopw [38] (fun i w2 => ∃ (j : Nat), j ≤ k ∧ i = .int .i64 j ∧ Hid (w.grownBy w2 (some b)) ∧ Hid (FAt w2 b g (upto (Smp.shift q) j st) k r)) (fun i _ => k - (intOf i).toNat)
      case atStart => exact ⟨0, Nat.zero_le _, rfl, hid (gb hbl.out _), hid (by rw [upto_zero]; exact hf.out)⟩
      case round =>
        obtain ⟨j, hj, rfl, hgr, hf2⟩ := hrel
        by_cases hlt2 : j < k
        · obtain ⟨y, hy⟩ : ∃ y, st[j]? = some y := ⟨_, List.getElem?_eq_getElem (by omega)⟩
          have hyk : (st.take k)[j]? = some y := by rw [List.getElem?_take, if_pos hlt2]; exact hy
          have hyo := HOK.out y (List.mem_of_getElem? hyk)
          have hya := hall.out y (List.mem_of_getElem? hyk)
          obtain ⟨y1, y2, _⟩ := hyo
          have HY := hid hy
          have i1 : (j : Int) < (k : Int) := by omega
          have i2 : (0 : Int) ≤ (j : Int) := by omega
          have i3 : (j : Int) < 8 := by omega
          have c2 := (hf2.out.holds j y (upto_get hy)).1
          have fr := hf2.out.frozen (1 + j * 3)
          have hb2 := hf2.out.lt
          clear hy hyk
          go_wp2
          refine wp_region_plan_lit (C := fun w' => ∃ x, w' = wr.ext x) [] [0, 1, 2, 3, 4, 5, 6, 7, 8, 9, 10, 11, 12] [13] (by kernel_rfl) (by kernel_rfl) (by intro c a d v w h; cases d <;> exact h) ⟨wr.drew, (ext_of (Below.refl _ _).drew).symm⟩ ?_
          simp only [List.map_cons, List.map_nil, List.getD_cons_succ, List.getD_cons_zero]
          refine wpQuiet_nil ?_
          repeat (go_big_quiet_step (fail))
          refine wpQuiet_nil ?_
          rintro _ ⟨z, rfl⟩
          have H5 := hid (hf2.out.below (ext_below wr z))
          have HG5 := hid (gbt hgr.out (gb (ext_below wr z) _))
          generalize (wr.ext z) = Z at H5 HG5 ⊢
          have hbZ := H5.out.lt
          have z2 := (H5.out.holds j y (upto_get HY.out)).1
          have fz := H5.out.frozen (1 + j * 3)
          go_wp2
          go_roundw
          case measure => simp [intOf]; omega
          case rel =>
            refine ⟨j + 1, by omega, by go_num, hid (gbt HG5.out (gbset _ _ _ _)), hid ?_⟩
            have := H5.out.setOff (upto_get HY.out) q
            rw [upto_set HY.out] at this
            exact this
        · obtain rfl : j = k := by omega
          go_wp2
          go_ret
          exact Or.inr ⟨rfl, hall.out, hf2.out, hgr.out⟩
end Go.Proofs.Ytlljndojbhopfaa
