/- MacBegins: the walk. -/
import Derived.Test.YtachnjdmjifefaaMac4
import Derived.Test.YtachnjdmjifefaaMac5
import Derived.Test.YtachnjdmjifefaaEq2
namespace Go.Proofs.Ytachnjdmjifefaa
open Go Go.RowKit
set_option linter.unusedVariables false
set_option linter.unusedSimpArgs false
attribute [local go_sem] bmax2 bmin2 bmax bmin cell_ext frozen_ext

set_option maxHeartbeats 4000000 in
set_option maxRecDepth 100000 in
theorem MacBegins_walk (a0 a1 : ByteArray) (m n : Int) (b0 : a0.size ≤ maxLen) (b1 : a1.size ≤ maxLen) (wm : (Lit.int .u8 m).wf = true) (wn : (Lit.int .u8 n).wf = true) (w : World) :
    Calls Try.prog 15 #[.string a0, .string a1, .int .u8 m, .int .u8 n] w fun e w' => e = .returned (.bool true) ∧ Below w.heap.size w w' := by
  obtain ⟨hm0, hm1⟩ := wf_u8 wm
  obtain ⟨hn0, hn1⟩ := wf_u8 wn
  clear b0 b1 wm wn
  cases hl : largeB [a0, a1] with
  | true =>
    go_enter Try.func15, Try.ntmps15
    go_wp2_with fail
    refine (mac_awake _).mono ?_
    rintro e w1 ⟨rfl, hb⟩
    have HB := kp hb
    clear hb
    go_wp2_with fail
    refine (large_any (some ⟨w1.heap.size, 0, none⟩) 2 [a0, a1] _ (by unfold maxLen; simp) (HeldT.lit w1 _ [a0, a1])).mono ?_
    rintro e w' ⟨rfl, rfl⟩
    go_wp2
    go_ret
    exact ⟨rfl, ba HB.out _⟩
  | false =>
    have hsz := largeB_false hl
    have za0 := hsz a0 (by simp)
    have za1 := hsz a1 (by simp)
    clear hsz
    obtain ⟨A, hA⟩ : ∃ A : Nat, min (max (min m n) 0) 32 = (A : Int) := ⟨(min (max (min m n) 0) 32).toNat, by omega⟩
    obtain ⟨B, hB⟩ : ∃ B : Nat, min (max (max m n) 0) 32 = (B : Int) := ⟨(min (max (max m n) 0) 32).toNat, by omega⟩
    have hAB : A ≤ B := by omega
    have hB32 : B ≤ 32 := by omega
    have c1 := kp (fun w' => Tag_any a0 a1 (by omega) (by omega) w')
    have c2 := kp (fun w' => Short_any a0 a1 (min m n) A hA (by omega) (by omega) w')
    have c3 := kp (fun w' => Short_any a0 a1 (max m n) B hB (by omega) (by omega) w')
    have hel := macD_length (bs a0) (bs a1)
    generalize macD (bs a0) (bs a1) = E at *
    have hcl := key_cells _ hel
    have hx1 : (str (E.take A)).size = A := by rw [str_size, List.length_take]; omega
    have hx2 : (str (E.take B)).size = B := by rw [str_size, List.length_take]; omega
    have hsl : ∀ W : World, (Instr.slice 9 (.string (str (E.take B))) none (some (.int .i64 (A : Int))) none).run Try.prog W = .ok (.string (str (E.take A))) W := fun W => by
      have := slice_str (P := Try.prog) 9 Try.underlying9 (str (E.take B)) 0 A 0 A rfl rfl (by omega) (by omega) W
      rw [extract_str, List.drop_zero, Nat.sub_zero, List.take_take, Nat.min_eq_left hAB] at this
      rw [← this]
      have e1 : (A : Int) ≤ ((str (E.take B)).size : Int) := by omega
      simp [Instr.slice, run_underlying Try.underlying9, Instr.sliceBounds, run_sliceBound, e1, hx2, hAB]
    have HEL := kp hel
    have HSB := kp (fun (W : World) (b : Nat) (h : Blk W b 24 (cellsU8 E).toArray) => blk_strN (P := Try.prog) 42 (e := 5) (dst := 9) (n := B) (cap := 32) Try.underlying42 Try.underlying5 Try.underlying9 h (by rw [hel]; exact hB32))
    have HSH := kp (fun (W : World) (b : Nat) => slice_hi b B hB32 W)
    generalize str (E.take A) = X at *
    generalize str (E.take B) = Y at *
    clear hel hA hB
    go_enter Try.func15, Try.ntmps15
    go_wp2_with fail
    refine (mac_awake _).mono ?_
    rintro e w1 ⟨rfl, hb⟩
    have HB := kp hb
    clear hb
    go_wp2_with fail
    refine (large_any (some ⟨w1.heap.size, 0, none⟩) 2 [a0, a1] _ (by unfold maxLen; simp) (HeldT.lit w1 _ [a0, a1])).mono ?_
    rintro e w' ⟨rfl, rfl⟩
    have HB2 := kp (ba HB.out (.cells (List.map Value.string [a0, a1]).toArray 9))
    clear HB
    generalize w1.alloc (.cells (List.map Value.string [a0, a1]).toArray 9) = W at HB2
    go_wp2_with fail
    refine (c1.out _).mono ?_
    rintro e w3 ⟨rfl, hb3⟩
    have SC := fun (cur : Array Value) (h : cur.size = 32) => sc_new (P := Try.prog) w3 24 (cellsU8 E) (cellsU8_one _) cur (by rw [hcl]; exact h)
    have K3 := kp (Blk.new w3 24 (cellsU8 E).toArray)
    have HB3 := kp (ba (bt' HB2.out hb3 HB2.out.size) (.cells (cellsU8 E).toArray 24))
    clear hb3
    go_wp2_with fail
    clear SC
    generalize w3.alloc (.cells (cellsU8 E).toArray 24) = W3 at K3 HB3
    generalize w3.heap.size = b3 at K3 ⊢
    refine (c2.out _).mono ?_
    rintro e w4 ⟨rfl, hb4⟩
    have K4 := kp (K3.out.bel hb4)
    have HB4 := kp (bt' HB3.out hb4 HB3.out.size)
    clear hb4 K3
    go_wp2_with fail
    refine (c3.out _).mono ?_
    rintro e w5 ⟨rfl, hb5⟩
    have K5 := kp (K4.out.bel hb5)
    have HB5 := kp (bt' HB4.out hb5 HB4.out.size)
    clear hb5 K4
    have hcv := HSB.out _ _ K5.out
    have hsh := fun W => HSH.out W b3
    have hle : (A : Int) ≤ (B : Int) := by omega
    go_wp2
    go_ret
    exact ⟨rfl, HB5.out⟩
end Go.Proofs.Ytachnjdmjifefaa
