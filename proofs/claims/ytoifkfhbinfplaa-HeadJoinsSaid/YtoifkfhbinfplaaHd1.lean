/- head: what a head is; within, May. Printed by genhd.py. -/
import Derived.Test.YtoifkfhbinfplaaBld
import Derived.Test.YtoifkfhbinfplaaMem
namespace Go.Proofs.Ytoifkfhbinfplaa
open Go Go.RowKit
set_option linter.unusedVariables false
set_option linter.unusedSimpArgs false
attribute [local go_sem] bmax2 bmin2 bmax bmin cell_ext frozen_ext

/-- a head: Leap, Version, Mode, Stratum, Poll, Precision; Delay, Dispersion, Id; Reference, Origin, Receive, Transmit -/
structure Hd where
  (a b c d e f : Int)
  (g h i : Nat)
  (j k l m : Nat)
def Hd.cells (h : Hd) : List Value := [.int .i64 h.a, .int .i64 h.b, .int .i64 h.c, .int .i64 h.d, .int .i64 h.e, .int .i64 h.f, .int .u32 (h.g : Int), .int .u32 (h.h : Int), .int .u32 (h.i : Int), .int .u64 (h.j : Int), .int .u64 (h.k : Int), .int .u64 (h.l : Int), .int .u64 (h.m : Int)]
def inB (n lo hi : Int) : Bool := decide (lo ≤ n) && decide (n ≤ hi)
def Hd.may (h : Hd) : Bool := inB h.a 0 3 && decide (h.b = 4) && inB h.c 0 7 && inB h.d 0 255 && inB h.e (-128) 127 && inB h.f (-128) 127
structure Hd.ok (x : Hd) : Prop where
  g : x.g < 4294967296
  h : x.h < 4294967296
  i : x.i < 4294967296
  j : x.j < 18446744073709551616
  k : x.k < 18446744073709551616
  l : x.l < 18446744073709551616
  m : x.m < 18446744073709551616

theorem six {w W : World} {a b c d e f g h i j k l m : Value} (hW : w.alloc (.cells #[a, b, c, d, e, f, g, h, i, j, k, l, m] 26) = W) :
    W.cell? ⟨w.heap.size, 0, none⟩ = some a ∧ W.cell? ⟨w.heap.size, 1, none⟩ = some b ∧ W.cell? ⟨w.heap.size, 2, none⟩ = some c ∧ W.cell? ⟨w.heap.size, 3, none⟩ = some d ∧ W.cell? ⟨w.heap.size, 4, none⟩ = some e ∧ W.cell? ⟨w.heap.size, 5, none⟩ = some f ∧ w.heap.size < W.heap.size := by
  subst hW
  have h := Blk.new w 26 #[a, b, c, d, e, f, g, h, i, j, k, l, m]
  exact ⟨h.at rfl, h.at rfl, h.at rfl, h.at rfl, h.at rfl, h.at rfl, h.lt⟩
theorem M_within (n lo hi : Int) (w : World) : Calls Try.prog 35 #[.int .i64 n, .int .i64 lo, .int .i64 hi] w fun e w' => e = .returned (.bool (inB n lo hi)) ∧ w = w' := by
  unfold inB
  by_cases h1 : lo ≤ n
  · have g1 : decide (lo ≤ n) = true := decide_eq_true h1
    rw [g1, Bool.true_and]
    go_enter Try.func35, Try.ntmps35
    go_wp2
    go_ret
    exact ⟨rfl, rfl⟩
  · have g1 : decide (lo ≤ n) = false := decide_eq_false h1
    rw [g1, Bool.false_and]
    go_enter Try.func35, Try.ntmps35
    go_wp2
    go_ret
    exact ⟨rfl, rfl⟩
set_option maxHeartbeats 2000000 in
set_option maxRecDepth 100000 in
theorem M_May (h : Hd) (w : World) : Calls Try.prog 16 #[.agg h.cells.toArray] w fun e w' => e = .returned (.bool h.may) ∧ Below w.heap.size w w' := by
  have cW := kp (fun n lo hi w' => M_within n lo hi w')
  unfold Hd.may
  obtain ⟨a, b, c, d, e, f, g, h', i, j, k, l, m⟩ := h
  simp only
  have HB := kp (ba (Below.refl w.heap.size w) (.cells (Hd.cells ⟨a, b, c, d, e, f, g, h', i, j, k, l, m⟩).toArray 26))
  unfold Hd.cells at HB ⊢
  simp only at HB ⊢
  have C1 := kp (fun w' => cW.out a 0 3 w')
  have C3 := kp (fun w' => cW.out c 0 7 w')
  have C4 := kp (fun w' => cW.out d 0 255 w')
  have C5 := kp (fun w' => cW.out e (-128) 127 w')
  have C6 := kp (fun w' => cW.out f (-128) 127 w')
  generalize inB a 0 3 = p1 at *
  obtain ⟨p2, hp2⟩ : ∃ p2, decide (b = 4) = p2 := ⟨_, rfl⟩
  rw [hp2]
  generalize inB c 0 7 = p3 at *
  generalize inB d 0 255 = p4 at *
  generalize inB e (-128) 127 = p5 at *
  generalize inB f (-128) 127 = p6 at *
  cases p1 with
  | false =>
    simp only [Bool.false_and, Bool.true_and, Bool.and_false]
    go_enter Try.func16, Try.ntmps16
    go_upto_region 1 with (fail)
    generalize hW : w.alloc _ = W at HB ⊢
    obtain ⟨q0, q1, q2, q3, q4, q5, hlb⟩ := six hW
    clear hW
    refine wp_region_extP 28 ?_
    simp only [List.append_eq, List.cons_append, List.nil_append, List.take_succ_cons, List.take_zero, List.drop_succ_cons, List.drop_zero]
    repeat (go_big_quiet_step ((go_at_call 35; first | (with_reducible exact Calls.ext_same (C1.out _)) | (with_reducible exact Calls.ext_same (C3.out _)) | (with_reducible exact Calls.ext_same (C4.out _)) | (with_reducible exact Calls.ext_same (C5.out _)) | (with_reducible exact Calls.ext_same (C6.out _)))))
    refine wpQuiet_nil ?_
    rintro z
    go_wp2
    go_ret
    exact ⟨rfl, bt' HB.out (ext_below _ z) HB.out.size⟩
  | true =>
    cases p2 with
    | false =>
      simp only [Bool.false_and, Bool.true_and, Bool.and_false]
      have hp3 : (b == 4) = false := beq_eq_false_iff_ne.2 (of_decide_eq_false hp2)
      go_enter Try.func16, Try.ntmps16
      go_upto_region 1 with (fail)
      generalize hW : w.alloc _ = W at HB ⊢
      obtain ⟨q0, q1, q2, q3, q4, q5, hlb⟩ := six hW
      clear hW
      refine wp_region_extP 28 ?_
      simp only [List.append_eq, List.cons_append, List.nil_append, List.take_succ_cons, List.take_zero, List.drop_succ_cons, List.drop_zero]
      repeat (go_big_quiet_step ((go_at_call 35; first | (with_reducible exact Calls.ext_same (C1.out _)) | (with_reducible exact Calls.ext_same (C3.out _)) | (with_reducible exact Calls.ext_same (C4.out _)) | (with_reducible exact Calls.ext_same (C5.out _)) | (with_reducible exact Calls.ext_same (C6.out _)))))
      refine wpQuiet_nil ?_
      rintro z
      go_wp2
      go_ret
      exact ⟨rfl, bt' HB.out (ext_below _ z) HB.out.size⟩
    | true =>
      obtain rfl : b = 4 := of_decide_eq_true hp2
      clear hp2
      cases p3 with
      | false =>
        simp only [Bool.false_and, Bool.true_and, Bool.and_false]
        go_enter Try.func16, Try.ntmps16
        go_upto_region 1 with (fail)
        generalize hW : w.alloc _ = W at HB ⊢
        obtain ⟨q0, q1, q2, q3, q4, q5, hlb⟩ := six hW
        clear hW
        refine wp_region_extP 28 ?_
        simp only [List.append_eq, List.cons_append, List.nil_append, List.take_succ_cons, List.take_zero, List.drop_succ_cons, List.drop_zero]
        repeat (go_big_quiet_step ((go_at_call 35; first | (with_reducible exact Calls.ext_same (C1.out _)) | (with_reducible exact Calls.ext_same (C3.out _)) | (with_reducible exact Calls.ext_same (C4.out _)) | (with_reducible exact Calls.ext_same (C5.out _)) | (with_reducible exact Calls.ext_same (C6.out _)))))
        refine wpQuiet_nil ?_
        rintro z
        go_wp2
        go_ret
        exact ⟨rfl, bt' HB.out (ext_below _ z) HB.out.size⟩
      | true =>
        cases p4 with
        | false =>
          simp only [Bool.false_and, Bool.true_and, Bool.and_false]
          go_enter Try.func16, Try.ntmps16
          go_upto_region 1 with (fail)
          generalize hW : w.alloc _ = W at HB ⊢
          obtain ⟨q0, q1, q2, q3, q4, q5, hlb⟩ := six hW
          clear hW
          refine wp_region_extP 28 ?_
          simp only [List.append_eq, List.cons_append, List.nil_append, List.take_succ_cons, List.take_zero, List.drop_succ_cons, List.drop_zero]
          repeat (go_big_quiet_step ((go_at_call 35; first | (with_reducible exact Calls.ext_same (C1.out _)) | (with_reducible exact Calls.ext_same (C3.out _)) | (with_reducible exact Calls.ext_same (C4.out _)) | (with_reducible exact Calls.ext_same (C5.out _)) | (with_reducible exact Calls.ext_same (C6.out _)))))
          refine wpQuiet_nil ?_
          rintro z
          go_wp2
          go_ret
          exact ⟨rfl, bt' HB.out (ext_below _ z) HB.out.size⟩
        | true =>
          cases p5 with
          | false =>
            simp only [Bool.false_and, Bool.true_and, Bool.and_false]
            go_enter Try.func16, Try.ntmps16
            go_upto_region 1 with (fail)
            generalize hW : w.alloc _ = W at HB ⊢
            obtain ⟨q0, q1, q2, q3, q4, q5, hlb⟩ := six hW
            clear hW
            refine wp_region_extP 28 ?_
            simp only [List.append_eq, List.cons_append, List.nil_append, List.take_succ_cons, List.take_zero, List.drop_succ_cons, List.drop_zero]
            repeat (go_big_quiet_step ((go_at_call 35; first | (with_reducible exact Calls.ext_same (C1.out _)) | (with_reducible exact Calls.ext_same (C3.out _)) | (with_reducible exact Calls.ext_same (C4.out _)) | (with_reducible exact Calls.ext_same (C5.out _)) | (with_reducible exact Calls.ext_same (C6.out _)))))
            refine wpQuiet_nil ?_
            rintro z
            go_wp2
            go_ret
            exact ⟨rfl, bt' HB.out (ext_below _ z) HB.out.size⟩
          | true =>
            cases p6 with
            | false =>
              simp only [Bool.false_and, Bool.true_and, Bool.and_false]
              go_enter Try.func16, Try.ntmps16
              go_upto_region 1 with (fail)
              generalize hW : w.alloc _ = W at HB ⊢
              obtain ⟨q0, q1, q2, q3, q4, q5, hlb⟩ := six hW
              clear hW
              refine wp_region_extP 28 ?_
              simp only [List.append_eq, List.cons_append, List.nil_append, List.take_succ_cons, List.take_zero, List.drop_succ_cons, List.drop_zero]
              repeat (go_big_quiet_step ((go_at_call 35; first | (with_reducible exact Calls.ext_same (C1.out _)) | (with_reducible exact Calls.ext_same (C3.out _)) | (with_reducible exact Calls.ext_same (C4.out _)) | (with_reducible exact Calls.ext_same (C5.out _)) | (with_reducible exact Calls.ext_same (C6.out _)))))
              refine wpQuiet_nil ?_
              rintro z
              go_wp2
              go_ret
              exact ⟨rfl, bt' HB.out (ext_below _ z) HB.out.size⟩
            | true =>
              simp only [Bool.true_and]
              go_enter Try.func16, Try.ntmps16
              go_upto_region 1 with (fail)
              generalize hW : w.alloc _ = W at HB ⊢
              obtain ⟨q0, q1, q2, q3, q4, q5, hlb⟩ := six hW
              clear hW
              refine wp_region_extP 28 ?_
              simp only [List.append_eq, List.cons_append, List.nil_append, List.take_succ_cons, List.take_zero, List.drop_succ_cons, List.drop_zero]
              repeat (go_big_quiet_step ((go_at_call 35; first | (with_reducible exact Calls.ext_same (C1.out _)) | (with_reducible exact Calls.ext_same (C3.out _)) | (with_reducible exact Calls.ext_same (C4.out _)) | (with_reducible exact Calls.ext_same (C5.out _)) | (with_reducible exact Calls.ext_same (C6.out _)))))
              refine wpQuiet_nil ?_
              rintro z
              go_wp2
              go_ret
              exact ⟨rfl, bt' HB.out (ext_below _ z) HB.out.size⟩
end Go.Proofs.Ytoifkfhbinfplaa
