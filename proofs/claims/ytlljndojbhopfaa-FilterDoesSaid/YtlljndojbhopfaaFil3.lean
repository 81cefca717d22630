/- filter: Jitter, spike. -/
import Derived.Test.YtlljndojbhopfaaFil2
namespace Go.Proofs.Ytlljndojbhopfaa
open Go Go.RowKit
set_option linter.unusedVariables false
set_option linter.unusedSimpArgs false
attribute [local go_sem] bmax2 bmin2 bmax bmin cell_ext frozen_ext

/-- what a sample in a filter keeps -/
def okS (s : Smp) : Prop := -1152921504606846976 ≤ s.off ∧ s.off ≤ 1152921504606846976 ∧ 0 ≤ s.del ∧ s.del ≤ 1152921504606846976 ∧ 0 ≤ s.bnd ∧ s.bnd ≤ 1152921504606846976
def dist (a b : Int) : Int := if a < b then b - a else a - b
theorem dist_le {a b : Int} (h1 : -1152921504606846976 ≤ a) (h2 : a ≤ 1152921504606846976) (h3 : -1152921504606846976 ≤ b) (h4 : b ≤ 1152921504606846976) : 0 ≤ dist a b ∧ dist a b ≤ 2305843009213693952 := by
  unfold dist; split <;> omega

theorem apart_any (a b : Int) (w : World) :
    Calls Try.prog 48 #[.int .i64 a, .int .i64 b] w fun e w' => e = .returned (.int .i64 (wrap64 (dist a b))) ∧ w = w' := by
  unfold dist
  by_cases h1 : a < b
  · rw [if_pos h1]
    have e1 : max a b = b := by omega
    have e2 : min a b = a := by omega
    go_enter Try.func48, Try.ntmps48
    go_wp2
    go_ret
    exact ⟨rfl, rfl⟩
  · rw [if_neg h1]
    have e1 : max a b = a := by omega
    have e2 : min a b = b := by omega
    go_enter Try.func48, Try.ntmps48
    go_wp2
    go_ret
    exact ⟨rfl, rfl⟩
theorem apart_in (a b : Int) (w : World) (h1 : -1152921504606846976 ≤ a) (h2 : a ≤ 1152921504606846976) (h3 : -1152921504606846976 ≤ b) (h4 : b ≤ 1152921504606846976) :
    Calls Try.prog 48 #[.int .i64 a, .int .i64 b] w fun e w' => e = .returned (.int .i64 (dist a b)) ∧ w = w' := by
  have := apart_any a b w
  have hd := dist_le h1 h2 h3 h4
  rw [IntWalk.wrap64_in _ (by omega)] at this
  exact this

theorem minS_mem (x : Smp) (l : List Smp) : minS x l ∈ x :: l := by
  induction l generalizing x with
  | nil => simp [minS]
  | cons y l ih =>
    show minS (if y.del < x.del then y else x) l ∈ _
    have := ih (if y.del < x.del then y else x)
    rcases List.mem_cons.1 this with h | h
    · rw [h]; split <;> simp
    · exact List.mem_cons_of_mem _ (List.mem_cons_of_mem _ h)
theorem best_ok {l : List Smp} (h : ∀ s ∈ l, okS s) : okS (best l) := by
  cases l with
  | nil => exact ⟨by decide, by decide, by decide, by decide, by decide, by decide⟩
  | cons x t => exact h _ (minS_mem x t)

/-- how far samples are apart -/
def jit (l : List Smp) : Int := l.foldl (fun m s => max m (dist s.off (best l).off)) 0
theorem fold_max_bd (B : Int) : ∀ (l : List Smp) (m : Int), 0 ≤ m → m ≤ 2305843009213693952 → (∀ s ∈ l, okS s) → -1152921504606846976 ≤ B → B ≤ 1152921504606846976 →
    0 ≤ l.foldl (fun m s => max m (dist s.off B)) m ∧ l.foldl (fun m s => max m (dist s.off B)) m ≤ 2305843009213693952
  | [], m, h0, h1, _, _, _ => ⟨h0, h1⟩
  | x :: l, m, h0, h1, h, hb1, hb2 => by
    have hx := h x (by simp)
    have hd := dist_le hx.1 hx.2.1 hb1 hb2
    exact fold_max_bd B l (max m (dist x.off B)) (by omega) (by omega) (fun s hs => h s (by simp [hs])) hb1 hb2
theorem jit_bd {l : List Smp} (h : ∀ s ∈ l, okS s) : 0 ≤ jit l ∧ jit l ≤ 2305843009213693952 := by
  have hb := best_ok h
  exact fold_max_bd _ l 0 (by omega) (by omega) h hb.1 hb.2.1

set_option maxRecDepth 100000 in
theorem Jitter_any (b n : Nat) (g r : Int) (st : List Smp) (w : World) (h : FAt w b g st n r) (hok : ∀ s ∈ st.take n, okS s) :
    Calls Try.prog 26 #[.pointer (some ⟨b, 0, none⟩)] w fun e w' => e = .returned (.int .i64 (jit (st.take n))) ∧ Below w.heap.size w w' := by
  have hb := h.lt
  have hn8 := h.2.1
  have H := hid h
  clear h
  have hn0 : (0 : Int) ≤ (n : Int) := by omega
  have hn8' : (n : Int) ≤ 8 := by omega
  have hl : (st.take n).length = n := by rw [List.length_take, H.out.1]; omega
  have HL := hid hl
  have HOK := hid hok
  have HB := hid (best_ok hok)
  clear hl hok
  go_enter Try.func26, Try.ntmps26
  go_wp2_with fail
  refine (Best_any b n g r st w H.out).mono ?_
  rintro e w1 ⟨rfl, hb1⟩
  obtain ⟨Q, hQ⟩ : ∃ Q, best (st.take n) = Q := ⟨_, rfl⟩
  rw [hQ] at HB ⊢
  have HQ := hid hQ
  clear hQ
  have HB1 := hid hb1
  have H1 := hid (H.out.below hb1)
  clear hb1
  unfold Smp.val
  have hbw1 : b < w1.heap.size := H1.out.lt
  have hnum := H1.out.num
  go_wp2
  have hW : Below w1.heap.size w1 (w1.alloc (Obj.cells #[Value.int IntKind.i64 Q.off, Value.int IntKind.i64 Q.del, Value.int IntKind.i64 Q.bnd] 32)) := ba (Below.refl _ _) _
  have hBx : Box3 (w1.alloc (Obj.cells #[Value.int IntKind.i64 Q.off, Value.int IntKind.i64 Q.del, Value.int IntKind.i64 Q.bnd] 32)) w1.heap.size Q := Box3.new w1 Q _
  generalize (w1.alloc (Obj.cells #[Value.int IntKind.i64 Q.off, Value.int IntKind.i64 Q.del, Value.int IntKind.i64 Q.bnd] 32)) = W at hW hBx ⊢
  have H2 := hid (H1.out.below hW)
  have HW := hid (bt HB1.out hW)
  have HX := hid hBx
  clear hnum hW hBx
  have hnum := H2.out.num
  go_wp2
  go_quiet (fail)
  go_wp2
  have HWq := hid (bd HW.out nq)
  have HXq := hid (HX.out.below (bd (Below.refl _ W) nq))
  have H3 := hid (H2.out.below (bd (Below.refl _ W) nq))
  generalize (W.drewN nq) = X at HWq HXq H3 ⊢
  go_loopw [5, 22] (fun f i wr => ∃ (k : Nat) (m : Int), k ≤ n ∧ i = .int .i64 k ∧ f = .int .i64 m ∧ Hid (m = ((st.take n).take k).foldl (fun m s => max m (dist s.off Q.off)) 0) ∧ Hid (Below w.heap.size w wr) ∧ Hid (FAt wr b g st n r) ∧ Hid (Box3 wr w1.heap.size Q)) (fun _ i _ => n - (intOf i).toNat)
  case atStart => exact ⟨0, 0, Nat.zero_le _, rfl, rfl, by simp [Hid], HWq, H3, HXq⟩
  case round =>
    obtain ⟨k, m, hk, rfl, rfl, hm, hbl, hf, hx⟩ := hrel
    by_cases hlt : k < n
    · obtain ⟨y, hy⟩ : ∃ y, (st.take n)[k]? = some y := ⟨_, List.getElem?_eq_getElem (by rw [HL.out]; exact hlt)⟩
      obtain ⟨c0, c1, c2⟩ := (hf.out.holds.take n) k y hy
      obtain ⟨m0, m1, m2⟩ := hx.out.1
      have hyo := HOK.out y (List.mem_of_getElem? hy)
      have HY := hid hy
      have hbr := hf.out.lt
      have hwr := hx.out.lt
      have i1 : (k : Int) < (n : Int) := by omega
      have i2 : (0 : Int) ≤ (k : Int) := by omega
      have AP := hid (fun w => apart_in y.off Q.off w hyo.1 hyo.2.1 HB.out.1 HB.out.2.1)
      have hd := dist_le hyo.1 hyo.2.1 HB.out.1 HB.out.2.1
      clear hyo hy
      go_wp2_with fail
      refine (AP.out _).mono ?_
      rintro e w' ⟨rfl, rfl⟩
      go_wp2
      go_roundw
      case measure => simp [intOf]; omega
      case rel =>
        refine ⟨k + 1, max m (dist y.off Q.off), by omega, by go_num, rfl, ?_, hid (bt hbl.out (ba (Below.refl _ _) _)), hid (hf.out.below (ba (Below.refl _ _) _)), hid (hx.out.old _)⟩
        show _ = _
        rw [List.take_add_one, List.foldl_append, HY.out, ← hm.out]
        rfl
    · obtain rfl : k = n := by omega
      go_wp2
      go_ret
      refine ⟨?_, hbl.out⟩
      have := hm.out
      rw [List.take_of_length_le (by rw [HL.out]; omega), ← HQ.out] at this
      rw [this]
      rfl

/-- whether a sample is a spike -/
def spikeB (g : Int) (l : List Smp) (s : Smp) : Bool := decide (2 ≤ l.length) && decide (3 * g + jit l < dist s.off (best l).off)
set_option maxRecDepth 100000 in
theorem spike_any (b n : Nat) (g r : Int) (st : List Smp) (s : Smp) (w : World) (h : FAt w b g st n r) (hok : ∀ s ∈ st.take n, okS s) (hs : okS s) (hg1 : 1 ≤ g) (hg2 : g ≤ 1125899906842624) :
    Calls Try.prog 44 #[.pointer (some ⟨b, 0, none⟩), s.val] w fun e w' => e = .returned (.bool (spikeB g (st.take n) s)) ∧ Below w.heap.size w w' := by
  have hb := h.lt
  have hn8 := h.2.1
  have H := hid h
  clear h
  have hl : (st.take n).length = n := by rw [List.length_take, H.out.1]; omega
  have HL := hid hl
  have HOK := hid hok
  have HB := hid (best_ok hok)
  have HJ := jit_bd hok
  clear hl hok
  have hspike : spikeB g (st.take n) s = (decide (2 ≤ n) && decide (3 * g + jit (st.take n) < dist s.off (best (st.take n)).off)) := by unfold spikeB; rw [HL.out]
  obtain ⟨J, hJ⟩ : ∃ J, jit (st.take n) = J := ⟨_, rfl⟩
  obtain ⟨Q, hQ⟩ : ∃ Q, best (st.take n) = Q := ⟨_, rfl⟩
  rw [hJ] at HJ hspike
  rw [hQ] at HB hspike
  obtain ⟨hJ1, hJ2⟩ := HJ
  rw [hspike]
  have CB := hid (fun w (h : FAt w b g st n r) => Best_any b n g r st w h)
  have CJ := hid (fun w (h : FAt w b g st n r) => Jitter_any b n g r st w h HOK.out)
  rw [hQ] at CB
  rw [hJ] at CJ
  have AP := hid (fun w => apart_in s.off Q.off w hs.1 hs.2.1 HB.out.1 HB.out.2.1)
  have hD := dist_le hs.1 hs.2.1 HB.out.1 HB.out.2.1
  obtain ⟨D, hDe⟩ : ∃ D, dist s.off Q.off = D := ⟨_, rfl⟩
  rw [hDe] at hD AP ⊢
  obtain ⟨hD1, hD2⟩ := hD
  clear hJ hQ hspike hs hDe
  unfold Smp.val
  by_cases hn2 : (2 : Int) ≤ (n : Int)
  case' pos =>
    have hd : decide ((2 : Int) ≤ (n : Int)) = true := decide_eq_true hn2
    have hd2 : decide (2 ≤ n) = true := decide_eq_true (by omega)
  case' neg =>
    have hd : decide ((2 : Int) ≤ (n : Int)) = false := decide_eq_false hn2
    have hd2 : decide (2 ≤ n) = false := decide_eq_false (by omega)
  all_goals
    rw [hd2]
    clear hd2
    go_enter Try.func44, Try.ntmps44
    go_wp2_with fail
    refine (CB.out _ (H.out.below (ba (Below.refl _ _) _))).mono ?_
    rintro e w1 ⟨rfl, hb1⟩
    have HB1 := hid (bt (ba (Below.refl _ _) _) hb1)
    have HS := hid ((Box3.new w s 32).below hb1)
    have hbw1 : b < w1.heap.size := by have := HB1.out.size; omega
    clear hb1
    simp only [Smp.val]
    go_wp2
    have HQ := hid (Box3.new w1 Q 32)
    have HS2 := hid (HS.out.old (Obj.cells #[Value.int IntKind.i64 Q.off, Value.int IntKind.i64 Q.del, Value.int IntKind.i64 Q.bnd] 32))
    have HB2 := hid (ba HB1.out (Obj.cells #[Value.int IntKind.i64 Q.off, Value.int IntKind.i64 Q.del, Value.int IntKind.i64 Q.bnd] 32))
    generalize (w1.alloc (Obj.cells #[Value.int IntKind.i64 Q.off, Value.int IntKind.i64 Q.del, Value.int IntKind.i64 Q.bnd] 32)) = W at HQ HS2 HB2 ⊢
    have H2 := hid (H.out.below HB2.out)
    have hnum := H2.out.num
    have hgate := H2.out.gate
    have hbW := H2.out.lt
    have hqW := HQ.out.lt
    have hsW := HS2.out.lt
    obtain ⟨m0, m1, m2⟩ := HQ.out.1
    obtain ⟨s0, s1, s2⟩ := HS2.out.1
    clear HS
    refine wp_region_plan_lit (C := fun w' => ∃ x, w' = W.ext x) [] [0, 1, 2, 3, 4, 5, 6, 7, 8, 9, 10, 11, 12, 13, 14, 15, 16, 17, 18, 19, 20] [21] (by kernel_rfl) (by kernel_rfl) (by intro c a d v w h; cases d <;> exact h) ⟨W.drew, (ext_of (Below.refl _ _).drew).symm⟩ ?_
    simp only [List.map_cons, List.map_nil, List.getD_cons_succ, List.getD_cons_zero]
    refine wpQuiet_nil ?_
    repeat (go_big_quiet_step (first | (go_at_call 48; exact Calls.ext_same (AP.out _)) | (go_at_call 26; exact Calls.ext_of (CJ.out _ (H2.out.below (ext_below _ _))))))
    refine wpQuiet_nil ?_
    rintro _ ⟨y, rfl⟩
    go_wp2
    go_ret
    refine ⟨?_, bt HB2.out (ext_below W y)⟩
    first | rfl | simp
end Go.Proofs.Ytlljndojbhopfaa
