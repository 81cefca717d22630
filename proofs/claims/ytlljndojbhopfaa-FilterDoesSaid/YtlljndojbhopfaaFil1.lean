/- filter: samples in cells; the least one. -/
import Derived.Test.YtlljndojbhopfaaProg
import Derived.Test.YtlljndojbhopfaaBase
namespace Go.Proofs.Ytlljndojbhopfaa
open Go Go.RowKit
set_option linter.unusedVariables false
set_option linter.unusedSimpArgs false
attribute [local go_sem] bmax2 bmin2 bmax bmin cell_ext frozen_ext

structure Smp where
  off : Int
  del : Int
  bnd : Int
deriving DecidableEq
def Smp.val (s : Smp) : Value := .agg #[.int .i64 s.off, .int .i64 s.del, .int .i64 s.bnd]
/-- from cell o of block b on lie the samples l -/
def Holds (w : World) (b o : Nat) (l : List Smp) : Prop :=
  ∀ (k : Nat) (s : Smp), l[k]? = some s → w.cell? ⟨b, o + k * 3, none⟩ = some (.int .i64 s.off) ∧ w.cell? ⟨b, o + k * 3 + 1, none⟩ = some (.int .i64 s.del) ∧ w.cell? ⟨b, o + k * 3 + 2, none⟩ = some (.int .i64 s.bnd)
theorem Holds.below {w w' : World} {b o : Nat} {l : List Smp} (h : Holds w b o l) (hb : Below w.heap.size w w') : Holds w' b o l := fun k s hk => by
  obtain ⟨h1, h2, h3⟩ := h k s hk
  exact ⟨cell_later hb h1, cell_later hb h2, cell_later hb h3⟩
theorem Holds.take {w : World} {b o : Nat} {l : List Smp} (h : Holds w b o l) (n : Nat) : Holds w b o (l.take n) := fun k s hk => by
  rw [List.getElem?_take] at hk
  split at hk
  · exact h k s hk
  · cases hk

/-- block B is a variable that holds the sample s -/
def Box3 (w : World) (B : Nat) (s : Smp) : Prop :=
  (w.cell? ⟨B, 0, none⟩ = some (.int .i64 s.off) ∧ w.cell? ⟨B, 1, none⟩ = some (.int .i64 s.del) ∧ w.cell? ⟨B, 2, none⟩ = some (.int .i64 s.bnd)) ∧
  (w.frozen? ⟨B, 0, none⟩ = false ∧ w.frozen? ⟨B, 1, none⟩ = false ∧ w.frozen? ⟨B, 2, none⟩ = false)
theorem Box3.lt {w : World} {B : Nat} {s : Smp} (h : Box3 w B s) : B < w.heap.size := World.block_lt_of_cell? w _ h.1.1
theorem Box3.below {w w' : World} {B : Nat} {s : Smp} (h : Box3 w B s) (hb : Below w.heap.size w w') : Box3 w' B s := by
  have hl := h.lt
  obtain ⟨⟨h0, h1, h2⟩, f0, f1, f2⟩ := h
  exact ⟨⟨cell_later hb h0, cell_later hb h1, cell_later hb h2⟩, by rw [hb.frozen hl, f0], by rw [hb.frozen hl, f1], by rw [hb.frozen hl, f2]⟩
theorem Box3.new (w : World) (s : Smp) (t : TypeId) : Box3 (w.alloc (.cells #[.int .i64 s.off, .int .i64 s.del, .int .i64 s.bnd] t)) w.heap.size s :=
  ⟨⟨by simp, by simp, by simp⟩, by simp, by simp, by simp⟩
theorem Box3.old {w : World} {B : Nat} {s : Smp} (h : Box3 w B s) (o : Obj) : Box3 (w.alloc o) B s := h.below (ba (Below.refl _ _) o)
theorem Box3.store {w : World} {B : Nat} {s : Smp} (h : Box3 w B s) (t : Smp) :
    Box3 (((w.setCell ⟨B, 0, none⟩ (.int .i64 t.off)).setCell ⟨B, 1, none⟩ (.int .i64 t.del)).setCell ⟨B, 2, none⟩ (.int .i64 t.bnd)) B t := by
  obtain ⟨⟨h0, h1, h2⟩, f0, f1, f2⟩ := h
  have n01 : (⟨B, 0, none⟩ : Addr) ≠ ⟨B, 1, none⟩ := by simp
  have n02 : (⟨B, 0, none⟩ : Addr) ≠ ⟨B, 2, none⟩ := by simp
  have n12 : (⟨B, 1, none⟩ : Addr) ≠ ⟨B, 2, none⟩ := by simp
  refine ⟨⟨?_, ?_, ?_⟩, by simp [f0], by simp [f1], by simp [f2]⟩
  · rw [World.cell?_setCell_other _ _ _ _ n02.symm, World.cell?_setCell_other _ _ _ _ n01.symm]
    exact World.cell?_setCell_same _ _ _ h0
  · rw [World.cell?_setCell_other _ _ _ _ n12.symm]
    exact World.cell?_setCell_same _ _ _ (by rw [World.cell?_setCell_other _ _ _ _ n01]; exact h1)
  · exact World.cell?_setCell_same _ _ _ (by rw [World.cell?_setCell_other _ _ _ _ n12, World.cell?_setCell_other _ _ _ _ n02]; exact h2)
theorem Box3.other {w : World} {B C : Nat} {s : Smp} (h : Box3 w B s) (hne : C ≠ B) (o : Nat) (v : Value) : Box3 (w.setCell ⟨C, o, none⟩ v) B s := by
  obtain ⟨⟨h0, h1, h2⟩, f0, f1, f2⟩ := h
  have n : ∀ i, (⟨C, o, none⟩ : Addr) ≠ ⟨B, i, none⟩ := fun i e => hne (by injection e)
  exact ⟨⟨by rw [World.cell?_setCell_other _ _ _ _ (n 0), h0], by rw [World.cell?_setCell_other _ _ _ _ (n 1), h1], by rw [World.cell?_setCell_other _ _ _ _ (n 2), h2]⟩, by simp [f0], by simp [f1], by simp [f2]⟩

/-- the first one of least delay -/
def minS (m : Smp) (l : List Smp) : Smp := l.foldl (fun m x => if x.del < m.del then x else m) m

theorem less_any (x y : Smp) (w : World) :
    Calls Try.prog 47 #[x.val, y.val] w fun e w' => e = .returned (.int .i64 (if x.del < y.del then -1 else if y.del < x.del then 1 else 0)) ∧ Below w.heap.size w w' := by
  obtain ⟨a0, a1, a2⟩ := x
  obtain ⟨b0, b1, b2⟩ := y
  unfold Smp.val
  simp only
  by_cases h1 : a1 < b1
  · rw [if_pos h1]
    go_enter Try.func47, Try.ntmps47
    go_wp2
    go_ret
    exact ⟨rfl, ba (ba (Below.refl _ _) _) _⟩
  · rw [if_neg h1]
    by_cases h2 : b1 < a1
    · rw [if_pos h2]
      go_enter Try.func47, Try.ntmps47
      go_wp2
      go_ret
      exact ⟨rfl, ba (ba (Below.refl _ _) _) _⟩
    · rw [if_neg h2]
      go_enter Try.func47, Try.ntmps47
      go_wp2
      go_ret
      exact ⟨rfl, ba (ba (Below.refl _ _) _) _⟩

set_option maxRecDepth 100000 in
theorem minFunc_any (b o : Nat) (x : Smp) (l : List Smp) (c : Nat) (w : World) (hb : b < w.heap.size) (hc : l.length + 1 ≤ c) (hc8 : c ≤ 8) (hh : Holds w b o (x :: l)) :
    Calls Try.prog 46 #[.slice (some ⟨b, o, none⟩) (l.length + 1) c, .func (.func 47) #[] #[]] w fun e w' => e = .returned (minS x l).val ∧ Below w.heap.size w w' := by
  obtain ⟨h0, h1, h2⟩ := hh 0 x rfl
  simp only [Nat.zero_mul, Nat.add_zero] at h0 h1 h2
  have hbs : b ≠ w.heap.size := by omega
  have HH := hid hh
  clear hh
  obtain ⟨L, hL⟩ : ∃ L, l.length + 1 = L := ⟨_, rfl⟩
  rw [hL] at hc ⊢
  have hL0 : ¬ ((L : Int) < 1) := by omega
  have hL1 : (0 : Int) < (L : Int) := by omega
  have HL := hid hL
  clear hL
  go_enter Try.func46, Try.ntmps46
  go_wp2
  have hW : Below w.heap.size w ((w.alloc (Obj.cells #[Value.int IntKind.i64 0, Value.int IntKind.i64 0, Value.int IntKind.i64 0] 32)).alloc (Obj.cells #[Value.int IntKind.i64 x.off, Value.int IntKind.i64 x.del, Value.int IntKind.i64 x.bnd] 32)) := ba (ba (Below.refl _ _) _) _
  have hR : Box3 ((w.alloc (Obj.cells #[Value.int IntKind.i64 0, Value.int IntKind.i64 0, Value.int IntKind.i64 0] 32)).alloc (Obj.cells #[Value.int IntKind.i64 x.off, Value.int IntKind.i64 x.del, Value.int IntKind.i64 x.bnd] 32)) w.heap.size ⟨0, 0, 0⟩ := (Box3.new w ⟨0, 0, 0⟩ _).old _
  have hM : Box3 ((w.alloc (Obj.cells #[Value.int IntKind.i64 0, Value.int IntKind.i64 0, Value.int IntKind.i64 0] 32)).alloc (Obj.cells #[Value.int IntKind.i64 x.off, Value.int IntKind.i64 x.del, Value.int IntKind.i64 x.bnd] 32)) (w.heap.size + 1) x := by
    have := Box3.new (w.alloc (Obj.cells #[Value.int IntKind.i64 0, Value.int IntKind.i64 0, Value.int IntKind.i64 0] 32)) x 32
    simpa using this
  generalize ((w.alloc (Obj.cells #[Value.int IntKind.i64 0, Value.int IntKind.i64 0, Value.int IntKind.i64 0] 32)).alloc (Obj.cells #[Value.int IntKind.i64 x.off, Value.int IntKind.i64 x.del, Value.int IntKind.i64 x.bnd] 32)) = W at hW hR hM ⊢
  have HW := hid hW
  have HR := hid hR
  have HM := hid hM
  clear hW hR hM h0 h1 h2
  go_loopw [6] (fun i wr => ∃ k : Nat, 1 ≤ k ∧ k ≤ L ∧ i = .int .i64 k ∧ Hid (Below w.heap.size w wr) ∧ Hid (Box3 wr w.heap.size ⟨0, 0, 0⟩) ∧ Hid (Box3 wr (w.heap.size + 1) (minS x (l.take (k - 1))))) (fun i _ => L - (intOf i).toNat)
  case atStart => exact ⟨1, by omega, by omega, rfl, HW, HR, HM⟩
  case round =>
    obtain ⟨k, hk1, hk, rfl, hbl, hr, hm⟩ := hrel
    obtain ⟨M, hM⟩ : ∃ M, minS x (l.take (k - 1)) = M := ⟨_, rfl⟩
    rw [hM] at hm
    have HMM := hid hM
    clear hM
    obtain ⟨m, hmr⟩ : ∃ m : World, m = wr := ⟨_, rfl⟩
    have hlW : w.heap.size + 1 < wr.heap.size := hm.out.lt
    have hbW : b < wr.heap.size := by omega
    by_cases hlt : k < L
    · obtain ⟨y, hy⟩ : ∃ y, l[k - 1]? = some y := ⟨_, List.getElem?_eq_getElem (by have := HL.out; omega)⟩
      obtain ⟨c0, c1, c2⟩ := (HH.out.below (hbl.out.mono (Nat.le_refl _))) k y (by rw [show k = (k - 1) + 1 by omega, List.getElem?_cons_succ]; exact hy)
      obtain ⟨m0, m1, m2⟩ := hm.out.1
      have i1 : (k : Int) < (L : Int) := by omega
      have i2 : (0 : Int) ≤ (k : Int) := by omega
      have hnx : minS x (l.take k) = if y.del < M.del then y else M := by
        rw [show k = (k - 1) + 1 by omega, minS, List.take_add_one, List.foldl_append, hy]
        show (if y.del < (minS x (l.take (k - 1))).del then y else minS x (l.take (k - 1))) = _
        rw [HMM.out]
      have HNX := hid hnx
      clear hnx
      obtain ⟨v, hv, hcall⟩ : ∃ v : Int, (if y.del < M.del then v = -1 else 0 ≤ v) ∧ ∀ w, Calls Try.prog 47 #[y.val, M.val] w fun e w' => e = .returned (.int .i64 v) ∧ Below w.heap.size w w' := by
        refine ⟨_, ?_, fun w => less_any y M w⟩
        split
        · rfl
        · split <;> omega
      have HV := hid hcall
      clear hcall
      have fin : ∀ (w3 : World) (s3 : Smp), Below w.heap.size w w3 → Box3 w3 w.heap.size ⟨0, 0, 0⟩ → Box3 w3 (w.heap.size + 1) s3 → s3 = minS x (l.take k) → 
          ∃ k_1, 1 ≤ k_1 ∧ k_1 ≤ L ∧ Value.int .i64 ((k : Int) + 1) = .int .i64 (k_1 : Nat) ∧ Hid (Below w.heap.size w w3) ∧ Hid (Box3 w3 w.heap.size ⟨0, 0, 0⟩) ∧ Hid (Box3 w3 (w.heap.size + 1) (minS x (l.take (k_1 - 1)))) := by
        intro w3 s3 h1 h2 h3 h4
        exact ⟨k + 1, by omega, by omega, by go_num, h1, h2, by rw [show k + 1 - 1 = k by omega, ← h4]; exact h3⟩
      have FIN := hid fin
      clear fin
      by_cases hcmp : y.del < M.del
      case' pos =>
        rw [if_pos hcmp] at hv
        rw [hv] at HV
        have HE : Hid (y = minS x (l.take k)) := by show _ = _; rw [HNX.out, if_pos hcmp]
        clear hv
      case' neg =>
        rw [if_neg hcmp] at hv
        have HE : Hid (M = minS x (l.take k)) := by show _ = _; rw [HNX.out, if_neg hcmp]
      all_goals
        clear hcmp
        go_wp2
        refine wp_region_plan_lit (C := fun w' => ∃ x, w' = wr.ext x) [0, 1, 2, 3] [4, 5, 6] [7] (by kernel_rfl) (by kernel_rfl) (by intro c a d v w h; cases d <;> exact h) ⟨wr.drew, (ext_of (Below.refl _ _).drew).symm⟩ ?_
        simp only [List.map_cons, List.map_nil, List.getD_cons_succ, List.getD_cons_zero]
        repeat (go_big_quiet_step (fail))
        refine wpQuiet_nil ?_
        repeat (go_big_quiet_step ((go_at_call 47; exact Calls.ext_of (HV.out _))))
        refine wpQuiet_nil ?_
        rintro _ ⟨g, rfl⟩
        have HX := hid (ext_below wr g)
        have hr2 := hid (hr.out.below HX.out)
        have hm2 := hid (hm.out.below HX.out)
        have hb2 := hid (hbl.out.trans (HX.out.mono hbl.out.size))
        have fr := hm2.out.2
        obtain ⟨f0, f1, f2⟩ := fr
        go_wp2
        go_roundw
        case measure => simp [intOf]; omega
        case rel =>
          first
          | exact FIN.out _ _ hb2.out hr2.out hm2.out HE.out
          | exact FIN.out _ _ (((hb2.out.setCell (p := ⟨w.heap.size + 1, 0, none⟩) (by simp) _).setCell (p := ⟨w.heap.size + 1, 1, none⟩) (by simp) _).setCell (p := ⟨w.heap.size + 1, 2, none⟩) (by simp) _)
              (((hr2.out.other (by omega) _ _).other (by omega) _ _).other (by omega) _ _) (hm2.out.store y) HE.out
    · obtain rfl : k = L := by omega
      obtain ⟨m0, m1, m2⟩ := hm.out.1
      obtain ⟨⟨r0, r1, r2⟩, q0, q1, q2⟩ := hr.out
      have hMx : M = minS x l := by
        rw [← HMM.out, List.take_of_length_le (by have := HL.out; omega)]
      have HMX := hid hMx
      clear hMx
      go_wp2
      have h3 := (hr.out.store M)
      obtain ⟨⟨a0, a1, a2⟩, _⟩ := h3
      refine bodyPost_ret (v := M.val) (by simp [results, Try.results46, go_sem, a0, a1, a2, Smp.val]) rfl ⟨by rw [HMX.out], ?_⟩
      exact ((hbl.out.setCell (p := ⟨w.heap.size, 0, none⟩) (by simp) _).setCell (p := ⟨w.heap.size, 1, none⟩) (by simp) _).setCell (p := ⟨w.heap.size, 2, none⟩) (by simp) _
end Go.Proofs.Ytlljndojbhopfaa
