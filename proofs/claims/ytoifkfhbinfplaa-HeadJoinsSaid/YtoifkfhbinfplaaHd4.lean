/- the reference's May. Printed by genhd4.py. -/
import Derived.Test.YtoifkfhbinfplaaHd3
namespace Go.Proofs.Ytoifkfhbinfplaa
open Go Go.RowKit
set_option linter.unusedVariables false
set_option linter.unusedSimpArgs false
attribute [local go_sem] bmax2 bmin2 bmax bmin cell_ext frozen_ext

set_option maxHeartbeats 4000000 in
set_option maxRecDepth 100000 in
theorem R_May (h : Hd) (w : World) : Calls Try.prog 17 #[.agg h.cells.toArray] w fun e w' => e = .returned (.bool h.may) ∧ Below w.heap.size w w' := by
  have HB := kp (ba (Below.refl w.heap.size w) (.cells h.cells.toArray 26))
  have HN := kp (Blk.new w 26 h.cells.toArray)
  have HC := kp (show h.cells = [.int .i64 h.a, .int .i64 h.b, .int .i64 h.c, .int .i64 h.d, .int .i64 h.e, .int .i64 h.f, .int .u32 (h.g : Int), .int .u32 (h.h : Int), .int .u32 (h.i : Int), .int .u64 (h.j : Int), .int .u64 (h.k : Int), .int .u64 (h.l : Int), .int .u64 (h.m : Int)] from rfl)
  have HT : Kp (h.may = true → 0 ≤ h.a ∧ h.a < 4 ∧ h.b = 4 ∧ 0 ≤ h.c ∧ h.c < 8 ∧ 0 ≤ h.d ∧ h.d < 256 ∧ -128 ≤ h.e ∧ h.e < 128 ∧ -128 ≤ h.f ∧ h.f < 128) := kp (fun hm => by have := may_bounds hm; omega)
  have HU : Kp (0 ≤ h.a ∧ h.a < 4 ∧ h.b = 4 ∧ 0 ≤ h.c ∧ h.c < 8 ∧ 0 ≤ h.d ∧ h.d < 256 ∧ -128 ≤ h.e ∧ h.e < 128 ∧ -128 ≤ h.f ∧ h.f < 128 → h.may = true) := kp (fun hm => by simp only [Hd.may, inB, Bool.and_eq_true, decide_eq_true_eq]; omega)
  obtain ⟨v, hv⟩ : ∃ v, h.may = v := ⟨_, rfl⟩
  rw [hv] at HT HU ⊢
  obtain ⟨L, hL⟩ : ∃ L, h.cells = L := ⟨_, rfl⟩
  rw [hL] at HB HN HC ⊢
  clear hL hv
  generalize hW : w.alloc (.cells L.toArray 26) = W at HB HN
  have q0 := HN.out.atL (show L[0]? = some (.int .i64 h.a) by rw [HC.out]; rfl)
  have q1 := HN.out.atL (show L[1]? = some (.int .i64 h.b) by rw [HC.out]; rfl)
  have q2 := HN.out.atL (show L[2]? = some (.int .i64 h.c) by rw [HC.out]; rfl)
  have q3 := HN.out.atL (show L[3]? = some (.int .i64 h.d) by rw [HC.out]; rfl)
  have q4 := HN.out.atL (show L[4]? = some (.int .i64 h.e) by rw [HC.out]; rfl)
  have q5 := HN.out.atL (show L[5]? = some (.int .i64 h.f) by rw [HC.out]; rfl)
  have hlb := HN.out.lt
  generalize h.a = a at *
  generalize h.b = b at *
  generalize h.c = c at *
  generalize h.d = d at *
  generalize h.e = ee at *
  generalize h.f = f at *
  by_cases h0 : 0 ≤ a
  · have g0 : decide (0 ≤ a) = true := decide_eq_true h0
    by_cases h1 : a < 4
    · have g1 : decide (a < 4) = true := decide_eq_true h1
      by_cases h2 : b = 4
      · obtain rfl : b = 4 := h2
        by_cases h3 : 0 ≤ c
        · have g3 : decide (0 ≤ c) = true := decide_eq_true h3
          by_cases h4 : c < 8
          · have g4 : decide (c < 8) = true := decide_eq_true h4
            by_cases h5 : 0 ≤ d
            · have g5 : decide (0 ≤ d) = true := decide_eq_true h5
              by_cases h6 : d < 256
              · have g6 : decide (d < 256) = true := decide_eq_true h6
                by_cases h7 : -128 ≤ ee
                · have g7 : decide (-128 ≤ ee) = true := decide_eq_true h7
                  by_cases h8 : ee < 128
                  · have g8 : decide (ee < 128) = true := decide_eq_true h8
                    by_cases h9 : -128 ≤ f
                    · have g9 : decide (-128 ≤ f) = true := decide_eq_true h9
                      by_cases h10 : f < 128
                      · have g10 : decide (f < 128) = true := decide_eq_true h10
                        obtain rfl : v = true := HU.out (by omega)
                        go_enter Try.func17, Try.ntmps17
                        go_upto_region 1 with (fail)
                        try rw [hW]
                        refine wp_region_extP 53 ?_
                        simp only [List.append_eq, List.cons_append, List.nil_append, List.take_succ_cons, List.take_zero, List.drop_succ_cons, List.drop_zero]
                        repeat (go_big_quiet_step (fail))
                        refine wpQuiet_nil ?_
                        rintro z
                        go_wp2
                        go_ret
                        exact ⟨rfl, bt' HB.out (ext_below _ z) HB.out.size⟩
                      · have g10 : decide (f < 128) = false := decide_eq_false h10
                        obtain rfl : v = false := by cases v with | false => rfl | true => exact absurd (HT.out rfl) (by omega)
                        go_enter Try.func17, Try.ntmps17
                        go_upto_region 1 with (fail)
                        try rw [hW]
                        refine wp_region_extP 53 ?_
                        simp only [List.append_eq, List.cons_append, List.nil_append, List.take_succ_cons, List.take_zero, List.drop_succ_cons, List.drop_zero]
                        repeat (go_big_quiet_step (fail))
                        refine wpQuiet_nil ?_
                        rintro z
                        go_wp2
                        go_ret
                        exact ⟨rfl, bt' HB.out (ext_below _ z) HB.out.size⟩
                    · have g9 : decide (-128 ≤ f) = false := decide_eq_false h9
                      obtain rfl : v = false := by cases v with | false => rfl | true => exact absurd (HT.out rfl) (by omega)
                      go_enter Try.func17, Try.ntmps17
                      go_upto_region 1 with (fail)
                      try rw [hW]
                      refine wp_region_extP 53 ?_
                      simp only [List.append_eq, List.cons_append, List.nil_append, List.take_succ_cons, List.take_zero, List.drop_succ_cons, List.drop_zero]
                      repeat (go_big_quiet_step (fail))
                      refine wpQuiet_nil ?_
                      rintro z
                      go_wp2
                      go_ret
                      exact ⟨rfl, bt' HB.out (ext_below _ z) HB.out.size⟩
                  · have g8 : decide (ee < 128) = false := decide_eq_false h8
                    obtain rfl : v = false := by cases v with | false => rfl | true => exact absurd (HT.out rfl) (by omega)
                    go_enter Try.func17, Try.ntmps17
                    go_upto_region 1 with (fail)
                    try rw [hW]
                    refine wp_region_extP 53 ?_
                    simp only [List.append_eq, List.cons_append, List.nil_append, List.take_succ_cons, List.take_zero, List.drop_succ_cons, List.drop_zero]
                    repeat (go_big_quiet_step (fail))
                    refine wpQuiet_nil ?_
                    rintro z
                    go_wp2
                    go_ret
                    exact ⟨rfl, bt' HB.out (ext_below _ z) HB.out.size⟩
                · have g7 : decide (-128 ≤ ee) = false := decide_eq_false h7
                  obtain rfl : v = false := by cases v with | false => rfl | true => exact absurd (HT.out rfl) (by omega)
                  go_enter Try.func17, Try.ntmps17
                  go_upto_region 1 with (fail)
                  try rw [hW]
                  refine wp_region_extP 53 ?_
                  simp only [List.append_eq, List.cons_append, List.nil_append, List.take_succ_cons, List.take_zero, List.drop_succ_cons, List.drop_zero]
                  repeat (go_big_quiet_step (fail))
                  refine wpQuiet_nil ?_
                  rintro z
                  go_wp2
                  go_ret
                  exact ⟨rfl, bt' HB.out (ext_below _ z) HB.out.size⟩
              · have g6 : decide (d < 256) = false := decide_eq_false h6
                obtain rfl : v = false := by cases v with | false => rfl | true => exact absurd (HT.out rfl) (by omega)
                go_enter Try.func17, Try.ntmps17
                go_upto_region 1 with (fail)
                try rw [hW]
                refine wp_region_extP 53 ?_
                simp only [List.append_eq, List.cons_append, List.nil_append, List.take_succ_cons, List.take_zero, List.drop_succ_cons, List.drop_zero]
                repeat (go_big_quiet_step (fail))
                refine wpQuiet_nil ?_
                rintro z
                go_wp2
                go_ret
                exact ⟨rfl, bt' HB.out (ext_below _ z) HB.out.size⟩
            · have g5 : decide (0 ≤ d) = false := decide_eq_false h5
              obtain rfl : v = false := by cases v with | false => rfl | true => exact absurd (HT.out rfl) (by omega)
              go_enter Try.func17, Try.ntmps17
              go_upto_region 1 with (fail)
              try rw [hW]
              refine wp_region_extP 53 ?_
              simp only [List.append_eq, List.cons_append, List.nil_append, List.take_succ_cons, List.take_zero, List.drop_succ_cons, List.drop_zero]
              repeat (go_big_quiet_step (fail))
              refine wpQuiet_nil ?_
              rintro z
              go_wp2
              go_ret
              exact ⟨rfl, bt' HB.out (ext_below _ z) HB.out.size⟩
          · have g4 : decide (c < 8) = false := decide_eq_false h4
            obtain rfl : v = false := by cases v with | false => rfl | true => exact absurd (HT.out rfl) (by omega)
            go_enter Try.func17, Try.ntmps17
            go_upto_region 1 with (fail)
            try rw [hW]
            refine wp_region_extP 53 ?_
            simp only [List.append_eq, List.cons_append, List.nil_append, List.take_succ_cons, List.take_zero, List.drop_succ_cons, List.drop_zero]
            repeat (go_big_quiet_step (fail))
            refine wpQuiet_nil ?_
            rintro z
            go_wp2
            go_ret
            exact ⟨rfl, bt' HB.out (ext_below _ z) HB.out.size⟩
        · have g3 : decide (0 ≤ c) = false := decide_eq_false h3
          obtain rfl : v = false := by cases v with | false => rfl | true => exact absurd (HT.out rfl) (by omega)
          go_enter Try.func17, Try.ntmps17
          go_upto_region 1 with (fail)
          try rw [hW]
          refine wp_region_extP 53 ?_
          simp only [List.append_eq, List.cons_append, List.nil_append, List.take_succ_cons, List.take_zero, List.drop_succ_cons, List.drop_zero]
          repeat (go_big_quiet_step (fail))
          refine wpQuiet_nil ?_
          rintro z
          go_wp2
          go_ret
          exact ⟨rfl, bt' HB.out (ext_below _ z) HB.out.size⟩
      · have g2 : (b == 4) = false := beq_eq_false_iff_ne.2 h2
        obtain rfl : v = false := by cases v with | false => rfl | true => exact absurd (HT.out rfl) (by omega)
        go_enter Try.func17, Try.ntmps17
        go_upto_region 1 with (fail)
        try rw [hW]
        refine wp_region_extP 53 ?_
        simp only [List.append_eq, List.cons_append, List.nil_append, List.take_succ_cons, List.take_zero, List.drop_succ_cons, List.drop_zero]
        repeat (go_big_quiet_step (fail))
        refine wpQuiet_nil ?_
        rintro z
        go_wp2
        go_ret
        exact ⟨rfl, bt' HB.out (ext_below _ z) HB.out.size⟩
    · have g1 : decide (a < 4) = false := decide_eq_false h1
      obtain rfl : v = false := by cases v with | false => rfl | true => exact absurd (HT.out rfl) (by omega)
      go_enter Try.func17, Try.ntmps17
      go_upto_region 1 with (fail)
      try rw [hW]
      refine wp_region_extP 53 ?_
      simp only [List.append_eq, List.cons_append, List.nil_append, List.take_succ_cons, List.take_zero, List.drop_succ_cons, List.drop_zero]
      repeat (go_big_quiet_step (fail))
      refine wpQuiet_nil ?_
      rintro z
      go_wp2
      go_ret
      exact ⟨rfl, bt' HB.out (ext_below _ z) HB.out.size⟩
  · have g0 : decide (0 ≤ a) = false := decide_eq_false h0
    obtain rfl : v = false := by cases v with | false => rfl | true => exact absurd (HT.out rfl) (by omega)
    go_enter Try.func17, Try.ntmps17
    go_upto_region 1 with (fail)
    try rw [hW]
    refine wp_region_extP 53 ?_
    simp only [List.append_eq, List.cons_append, List.nil_append, List.take_succ_cons, List.take_zero, List.drop_succ_cons, List.drop_zero]
    repeat (go_big_quiet_step (fail))
    refine wpQuiet_nil ?_
    rintro z
    go_wp2
    go_ret
    exact ⟨rfl, bt' HB.out (ext_below _ z) HB.out.size⟩
end Go.Proofs.Ytoifkfhbinfplaa
