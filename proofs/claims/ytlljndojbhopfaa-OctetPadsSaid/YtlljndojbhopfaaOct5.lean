/- What awake answers. -/
import Derived.Test.YtlljndojbhopfaaOct4
namespace Go.Proofs.Ytlljndojbhopfaa
open Go Go.RowKit
set_option linter.unusedVariables false
set_option linter.unusedSimpArgs false
attribute [local go_sem] bmax2 bmin2 bmax bmin

theorem aw_take1 (w : World) : Calls Try.prog 32 #[.string ⟨#[0, 1, 2]⟩] w fun e w' => e = .returned (.tuple #[.int .u64 258, .int .i64 0]) ∧ w = w' :=
  octet_Take_any ⟨#[0, 1, 2]⟩ w (by decide)
theorem aw_put (w : World) : Calls Try.prog 34 #[.int .u64 258, .int .i64 3] w fun e w' => e = .returned (.string ⟨#[0, 1, 2]⟩) ∧ Below w.heap.size w w' :=
  octet_Put_mid 258 3 w (by unfold U64; decide) (by decide) 3 (by decide)
theorem aw_left1 (w : World) : Calls Try.prog 36 #[.int .u32 2147483649, .int .i64 1] w fun e w' => e = .returned (.int .u32 3) ∧ ∃ m, w' = w.drewN m :=
  octet_Left_any 2147483649 1 w (by decide)
theorem aw_left2 (w : World) : Calls Try.prog 36 #[.int .u32 1, .int .i64 (-1)] w fun e w' => e = .returned (.int .u32 2147483648) ∧ ∃ m, w' = w.drewN m :=
  octet_Left_any 1 (-1) w (by decide)
theorem aw_pad (w : World) : Calls Try.prog 40 #[.string ⟨#[97, 98, 99]⟩, .int .i64 4] w fun e w' => e = .returned (.string ⟨#[97, 98, 99, 0]⟩) ∧ Below w.heap.size w w' :=
  octet_Pad_any ⟨#[97, 98, 99]⟩ 4 w (by decide) (by decide) (by decide)
theorem aw_parts (w : World) : Calls Try.prog 38 #[.string ⟨#[97, 98, 99, 100, 101]⟩, .int .i64 2] w fun e w' => ∃ g cap, e = .returned (.slice (some ⟨g, 0, none⟩) 3 cap) ∧ g < w'.heap.size ∧ w'.cell? ⟨g, 2, none⟩ = some (.string ⟨#[101]⟩) ∧ Below w.heap.size w w' := by
  refine (octet_Parts_some ⟨#[97, 98, 99, 100, 101]⟩ 2 w (by decide) (by decide) (by decide)).mono ?_
  rintro e w' ⟨v, rfl, ho, hb⟩
  have e1 : chunks 2 (bs ⟨#[97, 98, 99, 100, 101]⟩) = [[97, 98], [99, 100], [101]] := by decide
  rw [e1] at ho
  rcases ho.2 with ⟨_, h⟩ | ⟨g, cap, cur, rfl, _⟩
  · simp at h
  · exact ⟨g, cap, rfl, (ho.lt g rfl).2, by rw [ho.cellAt 2 (by decide)]; rfl, hb⟩

set_option maxRecDepth 100000 in
theorem octet_awake (w : World) : Calls Try.prog 31 #[] w fun e w' => e = .returned (.bool true) ∧ Below w.heap.size w w' := by
  go_enter Try.func31, Try.ntmps31
  go_wp2_with fail
  refine (aw_take1 w).mono ?_
  rintro e w' ⟨rfl, rfl⟩
  go_wp2_with fail
  refine (octet_Take_long _ w (by decide)).mono ?_
  rintro e w' ⟨rfl, rfl⟩
  go_wp2_with fail
  refine (aw_parts w).mono ?_
  rintro e w1 ⟨g, cap, rfl, hg, hc, hb1⟩
  have HB1 := hid hb1
  clear hb1
  go_wp2_with fail
  refine (aw_put w1).mono ?_
  rintro e w2 ⟨rfl, hb2⟩
  have HB2 := hid hb2
  have hc2 : w2.cell? ⟨g, 2, none⟩ = some (.string ⟨#[101]⟩) := cell_later hb2 hc
  clear hb2 hc
  go_wp2_with fail
  refine (aw_left1 _).mono ?_
  rintro e w3 ⟨rfl, m1, rfl⟩
  go_wp2_with fail
  refine (aw_left2 _).mono ?_
  rintro e w3 ⟨rfl, m2, rfl⟩
  go_wp2_with fail
  refine (octet_Same_any _ _ _ (by decide) (by decide)).mono ?_
  rintro e w3 ⟨he, m3, rfl⟩
  rw [toList_beq, decide_eq_true rfl] at he
  subst he
  go_wp2_with fail
  refine (octet_Same_any _ _ _ (by decide) (by decide)).mono ?_
  rintro e w3 ⟨he, m4, rfl⟩
  rw [toList_beq, decide_eq_false (by decide)] at he
  subst he
  go_wp2_with fail
  refine (aw_pad _).mono ?_
  rintro e w3 ⟨rfl, hb3⟩
  have HB3 := hid hb3
  clear hb3
  go_wp2
  go_ret
  exact ⟨rfl, bt (bd (bt HB1.out HB2.out) _) HB3.out⟩

end Go.Proofs.Ytlljndojbhopfaa
