/- filter: a filter in memory; Best. -/
import Derived.Test.YtlljndojbhopfaaFil1
namespace Go.Proofs.Ytlljndojbhopfaa
open Go Go.RowKit
set_option linter.unusedVariables false
set_option linter.unusedSimpArgs false
attribute [local go_sem] bmax2 bmin2 bmax bmin cell_ext frozen_ext

/-- a filter's cells: the gate, the eight places, how many are filled, how many were refused -/
def fcells (g : Int) (st : List Smp) (n : Nat) (r : Int) : List Value :=
  .int .i64 g :: (st.flatMap fun s => [.int .i64 s.off, .int .i64 s.del, .int .i64 s.bnd]) ++ [.int .i64 (n : Int), .int .i64 r]
/-- block b is a filter -/
def FAt (w : World) (b : Nat) (g : Int) (st : List Smp) (n : Nat) (r : Int) : Prop :=
  st.length = 8 ∧ n ≤ 8 ∧ w.heap[b]? = some (.cells (fcells g st n r).toArray 78 (0, 0))

theorem FAt.lt {w : World} {b n : Nat} {g r : Int} {st : List Smp} (h : FAt w b g st n r) : b < w.heap.size := (Array.getElem?_eq_some_iff.1 h.2.2).1
theorem FAt.cell {w : World} {b n : Nat} {g r : Int} {st : List Smp} (h : FAt w b g st n r) (o : Nat) : w.cell? ⟨b, o, none⟩ = (fcells g st n r)[o]? := by
  rw [cell_of_row w b o _ _ _ h.2.2]; simp
theorem FAt.frozen {w : World} {b n : Nat} {g r : Int} {st : List Smp} (h : FAt w b g st n r) (o : Nat) : w.frozen? ⟨b, o, none⟩ = false := frozen_of_row w b o _ _ h.2.2
theorem FAt.below {w w' : World} {b n : Nat} {g r : Int} {st : List Smp} (h : FAt w b g st n r) (hb : Below w.heap.size w w') : FAt w' b g st n r :=
  ⟨h.1, h.2.1, by rw [hb.block b h.lt]; exact h.2.2⟩
theorem eight {st : List Smp} (h : st.length = 8) : ∃ a b c d e f g i, st = [a, b, c, d, e, f, g, i] := by
  match st, h with
  | [a, b, c, d, e, f, g, i], _ => exact ⟨a, b, c, d, e, f, g, i, rfl⟩
theorem FAt.gate {w : World} {b n : Nat} {g r : Int} {st : List Smp} (h : FAt w b g st n r) : w.cell? ⟨b, 0, none⟩ = some (.int .i64 g) := by rw [h.cell]; rfl
theorem FAt.num {w : World} {b n : Nat} {g r : Int} {st : List Smp} (h : FAt w b g st n r) : w.cell? ⟨b, 25, none⟩ = some (.int .i64 (n : Int)) := by
  rw [h.cell]; obtain ⟨a, b, c, d, e, f, g, i, rfl⟩ := eight h.1; rfl
theorem FAt.ref {w : World} {b n : Nat} {g r : Int} {st : List Smp} (h : FAt w b g st n r) : w.cell? ⟨b, 26, none⟩ = some (.int .i64 r) := by
  rw [h.cell]; obtain ⟨a, b, c, d, e, f, g, i, rfl⟩ := eight h.1; rfl
theorem FAt.holds {w : World} {b n : Nat} {g r : Int} {st : List Smp} (h : FAt w b g st n r) : Holds w b 1 st := by
  intro k s hk
  rw [h.cell, h.cell, h.cell]
  have hk8 : k < 8 := by have := (List.getElem?_eq_some_iff.1 hk).1; have := h.1; omega
  obtain ⟨a, b, c, d, e, f, g, i, rfl⟩ := eight h.1
  match k, hk8 with
  | 0, _ | 1, _ | 2, _ | 3, _ | 4, _ | 5, _ | 6, _ | 7, _ =>
    simp at hk; subst hk; exact ⟨rfl, rfl, rfl⟩

/-- the best one -/
def best : List Smp → Smp
  | [] => ⟨0, 0, 0⟩
  | x :: t => minS x t

set_option maxRecDepth 100000 in
theorem Best_any (b n : Nat) (g r : Int) (st : List Smp) (w : World) (h : FAt w b g st n r) :
    Calls Try.prog 24 #[.pointer (some ⟨b, 0, none⟩)] w fun e w' => e = .returned (.tuple #[(best (st.take n)).val, .bool (decide (0 < n))]) ∧ Below w.heap.size w w' := by
  have hb := h.lt
  have hn8 := h.2.1
  have hc := h.num
  have H := hid h
  clear h
  rcases Nat.eq_zero_or_pos n with rfl | hn
  · go_enter Try.func24, Try.ntmps24
    go_wp2
    exact bodyPost_ret (v := .tuple #[.agg #[.int .i64 0, .int .i64 0, .int .i64 0], .bool false]) (by simp [results, Try.results24, go_sem]) rfl ⟨rfl, ba (Below.refl _ _) _⟩
  obtain ⟨x, t, hxt⟩ : ∃ x t, st.take n = x :: t := by
    cases h : st.take n with
    | nil => have := congrArg List.length h; rw [List.length_take, H.out.1, List.length_nil] at this; omega
    | cons x t => exact ⟨x, t, rfl⟩
  have htl : t.length + 1 = n := by have := congrArg List.length hxt; rw [List.length_take, H.out.1, List.length_cons] at this; omega
  have hm : ∀ w1, Below w.heap.size w w1 → Calls Try.prog 46 #[.slice (some ⟨b, 1, none⟩) n 8, .func (.func 47) #[] #[]] w1 fun e w' => e = .returned (best (st.take n)).val ∧ Below w1.heap.size w1 w' := by
    intro w1 hb1
    have := minFunc_any b 1 x t 8 w1 (Nat.lt_of_lt_of_le hb hb1.size) (by omega) (by omega) (hxt ▸ ((H.out.below hb1).holds.take n))
    rw [htl] at this
    rw [hxt]
    exact this
  have HM := hid hm
  clear hm
  have h0 : ((n : Int) == 0) = false := by simp; omega
  have hn0 : (0 : Int) ≤ (n : Int) := by omega
  have hn8' : (n : Int) ≤ 8 := by omega
  have hdn : decide (0 < n) = true := decide_eq_true hn
  rw [hdn]
  obtain ⟨B, hB⟩ : ∃ B, best (st.take n) = B := ⟨_, rfl⟩
  rw [hB] at HM ⊢
  clear hxt htl hB hdn
  go_enter Try.func24, Try.ntmps24
  go_wp2
  have hW : Below w.heap.size w (w.alloc (Obj.cells #[Value.int IntKind.i64 0, Value.int IntKind.i64 0, Value.int IntKind.i64 0] 32)) := ba (Below.refl _ _) _
  have hR : Box3 (w.alloc (Obj.cells #[Value.int IntKind.i64 0, Value.int IntKind.i64 0, Value.int IntKind.i64 0] 32)) w.heap.size ⟨0, 0, 0⟩ := Box3.new w ⟨0, 0, 0⟩ _
  have hcW := cell_later hW hc
  generalize (w.alloc (Obj.cells #[Value.int IntKind.i64 0, Value.int IntKind.i64 0, Value.int IntKind.i64 0] 32)) = W at hW hR hcW ⊢
  have hbW : b < W.heap.size := by have := hW.size; omega
  have HW := hid hW
  have HR := hid hR
  clear hW hR hc
  refine wp_region_plan_lit (C := fun w' => ∃ x, w' = W.ext x) [] [0, 1, 2, 3, 4, 5, 6, 7, 8] [9, 10] (by kernel_rfl) (by kernel_rfl) (by intro c a d v w h; cases d <;> exact h) ⟨W.drew, (ext_of (Below.refl _ _).drew).symm⟩ ?_
  simp only [List.map_cons, List.map_nil, List.getD_cons_succ, List.getD_cons_zero]
  refine wpQuiet_nil ?_
  repeat (go_big_quiet_step ((go_at_call 46; exact Calls.ext_of (HM.out _ (HW.out.trans ((ext_below _ _).mono HW.out.size))))))
  refine wpQuiet_nil ?_
  rintro _ ⟨y, rfl⟩
  have HX := hid (HW.out.trans ((ext_below W y).mono HW.out.size))
  have hR2 := HR.out.below (ext_below W y)
  obtain ⟨⟨r0, r1, r2⟩, q0, q1, q2⟩ := hR2
  have h3 := hid ((HR.out.below (ext_below W y)).store B)
  unfold Smp.val
  go_wp2
  obtain ⟨⟨a0, a1, a2⟩, _⟩ := h3.out
  refine bodyPost_ret (v := .tuple #[B.val, .bool true]) (by simp [results, Try.results24, go_sem, a0, a1, a2, Smp.val]) rfl ⟨rfl, ?_⟩
  exact ((HX.out.setCell (p := ⟨w.heap.size, 0, none⟩) (by simp) _).setCell (p := ⟨w.heap.size, 1, none⟩) (by simp) _).setCell (p := ⟨w.heap.size, 2, none⟩) (by simp) _
end Go.Proofs.Ytlljndojbhopfaa
