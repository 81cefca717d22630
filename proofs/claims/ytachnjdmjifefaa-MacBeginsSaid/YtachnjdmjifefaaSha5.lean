/- sha: Hex. -/
import Derived.Test.YtachnjdmjifefaaSha4
namespace Go.Proofs.Ytachnjdmjifefaa
open Go Go.RowKit
set_option linter.unusedVariables false
set_option linter.unusedSimpArgs false
attribute [local go_sem] bmax2 bmin2 bmax bmin cell_ext frozen_ext

theorem digits_at : ∀ (q : Nat) (h : q < 16) (W : World), (Instr.index 9 (.string ⟨#[48, 49, 50, 51, 52, 53, 54, 55, 56, 57, 97, 98, 99, 100, 101, 102]⟩) (.int .u8 (q : Int))).run Try.prog W = .ok (.int .u8 ((dig16 q).toNat : Int)) W
  | 0, _, W => by kernel_rfl
  | 1, _, W => by kernel_rfl
  | 2, _, W => by kernel_rfl
  | 3, _, W => by kernel_rfl
  | 4, _, W => by kernel_rfl
  | 5, _, W => by kernel_rfl
  | 6, _, W => by kernel_rfl
  | 7, _, W => by kernel_rfl
  | 8, _, W => by kernel_rfl
  | 9, _, W => by kernel_rfl
  | 10, _, W => by kernel_rfl
  | 11, _, W => by kernel_rfl
  | 12, _, W => by kernel_rfl
  | 13, _, W => by kernel_rfl
  | 14, _, W => by kernel_rfl
  | 15, _, W => by kernel_rfl
  | q + 16, h, W => by omega

set_option maxHeartbeats 1000000 in
set_option maxRecDepth 100000 in
theorem Hex_any (D : List UInt8) (hD : D.length = 32) (w : World) :
    Calls Try.prog 19 #[keyV D] w fun e w' => e = .returned (.string (str (hexL D))) ∧ Below w.heap.size w w' := by
  unfold keyV
  have hcl := key_cells D hD
  have hmk : ∀ W : World, (Instr.makeSlice 42 (.int .i64 0) (.int .i64 64)).run Try.prog W = .ok (.slice (some ⟨W.heap.size, 0, none⟩) 0 64) (W.alloc (.cells (cellsU8 (List.replicate 64 0)).toArray 5)) := fun W => by kernel_rfl
  have hb0 := (Blk.new w 24 (cellsU8 D).toArray).alloc (.cells (cellsU8 (List.replicate 64 0)).toArray 5)
  have LD := ld_all (P := Try.prog) w.heap.size 32 24 _ (cellsU8 D) _ Try.underlying24 rfl info_key hcl hb0
  have hown := kp (World.ownsRow_made (base := w.heap.size) (e := 5) (size := 1) (w.alloc (.cells (cellsU8 D).toArray 24)) (cellsU8 (List.replicate 64 0)).toArray 64 (by simp) (by decide) rfl)
  have hbb := kp (ba (ba (Below.refl w.heap.size w) (.cells (cellsU8 D).toArray 24)) (.cells (cellsU8 (List.replicate 64 0)).toArray 5))
  rw [size_all] at hown
  obtain ⟨i0, hi, hz0, hz1, hz2⟩ := info_parts info_u8
  have Hz2 := kp hz2
  have Hz1 := kp hz1
  clear hz1 hz2
  have HD := kp hD
  have HCL := kp hcl
  clear hD hb0
  go_enter Try.func19, Try.ntmps19
  go_wp2_with (refine wpL_load rfl 24 _ rfl rfl LD ?_)
  clear LD hmk hcl
  go_loopw [3, 8] (fun v i wr => ∃ k : Nat, k ≤ 32 ∧ i = .int .i64 k ∧ Kp (wr.ownsRow w.heap.size 5 1 v (2 * k) (cellsU8 (hexL (D.take k)))) ∧ Kp (Below w.heap.size w wr)) (fun _ i _ => 32 - (intOf i).toNat)
  case atStart => exact ⟨0, by omega, rfl, hown, hbb⟩
  case round =>
    clear hown hbb
    obtain ⟨k, hk, rfl, ho, hb⟩ := hrel
    by_cases hlt : k < 32
    · have hlt' : (k : Int) < 32 := by omega
      have i2 : (0 : Int) ≤ (k : Int) := by omega
      obtain ⟨c, hc⟩ : ∃ c, D[k]? = some c := ⟨_, List.getElem?_eq_getElem (by rw [HD.out]; exact hlt)⟩
      have hsn : Kp (hexL (D.take (k + 1)) = hexL (D.take k) ++ [dig16 (c.toNat / 16), dig16 (c.toNat % 16)]) := kp (by rw [List.take_add_one, hc, ← hexL_snoc]; rfl)
      have ix : ∀ W : World, (Instr.index 24 (.agg (cellsU8 D).toArray) (.int .i64 k)).run Try.prog W = .ok (.int .u8 (c.toNat : Int)) W := fun W => run_index_row 24 5 Try.underlying24 (by kernel_rfl) (by kernel_rfl) HCL.out k _ (by
        obtain ⟨h1, h2⟩ := List.getElem?_eq_some_iff.1 hc
        rw [cellsU8_get D k h1, h2]) W
      have hcb := c.toNat_lt
      have d1 : ((c.toNat : Nat) : Int) / 16 = ((c.toNat / 16 : Nat) : Int) := by omega
      have d2 := u8_and15 c.toNat hcb
      have x1 := digits_at (c.toNat / 16) (by omega)
      have x2 := digits_at (c.toNat % 16) (by omega)
      clear hc
      generalize c.toNat = N at *
      generalize N / 16 = q at *
      generalize N % 16 = r at *
      have HCB := kp hcb
      clear hcb
      go_wp2
      refine wp_region_plan_lit (C := fun w' => w' = wr.drew) [0, 1, 2, 3, 4, 5, 6] [] [7, 8, 9] (by kernel_rfl) (by kernel_rfl) (by intro c a d v w h; cases d <;> exact h) rfl ?_
      simp only [List.map_cons, List.map_nil, List.getD_cons_succ, List.getD_cons_zero]
      repeat (go_big_quiet_step (fail))
      refine wpQuiet_nil ?_
      refine wpQuiet_nil ?_
      rintro _ rfl
      have hbs := hb.out.size
      go_wp2_with (at_builtin; refine wpList_append_own _ rfl _ _ 42 rfl w.heap.size 5 i0 (.int .u8 0) 1 1 Try.underlying42 hi hz0 Hz1.out Hz2.out rfl (by decide) _ _ _ rfl ((ho.out.alloc _).drew) ⟨wr.heap.size, 0, none⟩ 2 2 [.int .u8 ((dig16 q).toNat : Int), .int .u8 ((dig16 r).toNat : Int)] rfl rfl ?c1 ?c2 ?c3 ?c4 ?c5 ?_)
      case c1 => exact cell_two_new _ _ _ _
      case c2 => simp [Value.oneCell']
      case c3 => unfold maxLen; omega
      case c4 => omega
      case c5 => simp; omega
      intro v' w1 hown' hgrow' _
      have HB1 := kp (((hb.out.alloc hb.out.size _).drew).grown hgrow' (by simp; omega) (fun x hx => (ho.out.lt x hx).1))
      have HO1 := kp hown'
      clear hown' hgrow'
      go_wp2
      go_roundw
      case measure => simp [intOf]; omega
      case rel => exact ⟨k + 1, by omega, by go_num, by rw [hsn.out, cellsU8_append]; exact HO1, HB1⟩
    · obtain rfl : k = 32 := by omega
      have hh : D.take 32 = D := List.take_of_length_le (by rw [HD.out]; omega)
      rw [hh] at ho
      have hcv := own_str (P := Try.prog) 42 (dst := 9) Try.underlying42 Try.underlying5 Try.underlying9 ho.out
      go_wp2
      go_ret
      exact ⟨rfl, hb.out⟩
end Go.Proofs.Ytachnjdmjifefaa
