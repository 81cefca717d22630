/- the reference's mac: Of, Short, Right. -/
import Derived.Test.YtachnjdmjifefaaRMac1
namespace Go.Proofs.Ytachnjdmjifefaa
open Go Go.RowKit
set_option linter.unusedVariables false
set_option linter.unusedSimpArgs false
attribute [local go_sem] bmax2 bmin2 bmax bmin cell_ext frozen_ext

set_option maxHeartbeats 1000000 in
set_option maxRecDepth 100000 in
theorem R_Of (K : List UInt8) (t : ByteArray) (hK : K.length = 32) (ht : t.size ≤ 1099511627) (w : World) :
    Calls Try.prog 32 #[.agg (cellsU8 K).toArray, .string t] w fun e w' => e = .returned (.agg (cellsU8 (macD K (bs t))).toArray) ∧ Below w.heap.size w w' := by
  have c1 := kp (fun w' => R_Tag (str K) t (by rw [str_size]; omega) ht w')
  rw [bs_str] at c1
  have hcl := key_cells _ (macD_length K (bs t))
  generalize macD K (bs t) = E at c1 hcl ⊢
  obtain ⟨ZL, hZL⟩ : ∃ ZL : List UInt8, List.replicate 32 0 = ZL := ⟨_, rfl⟩
  have h0 := (Blk.new w 24 (cellsU8 K).toArray).alloc (.cells (cellsU8 (List.replicate 32 0)).toArray 24)
  have h1 := kp (Blk.new (w.alloc (.cells (cellsU8 K).toArray 24)) 24 (cellsU8 (List.replicate 32 0)).toArray)
  have hb0 := kp (ba (ba (Below.refl w.heap.size w) (.cells (cellsU8 K).toArray 24)) (.cells (cellsU8 (List.replicate 32 0)).toArray 24))
  rw [size_all] at h1
  have hcv := fun o => blk_str (P := Try.prog) 42 (e := 5) (dst := 9) (n := 32) (cap := 32) Try.underlying42 Try.underlying5 Try.underlying9 ((Blk.new w 24 (cellsU8 K).toArray).alloc o) hK
  clear ht hK h0
  go_enter Try.func32, Try.ntmps32
  go_wp2_with fail
  refine (c1.out _).mono ?_
  rintro e w2 ⟨rfl, hb2⟩
  have h2 := h1.out.bel hb2
  rw [hZL] at h2
  have SC := sc_all (P := Try.prog) (w := w2) (w.heap.size + 1) 24 (cellsU8 E) _ h2 (by rw [hcl, length_cellsU8, ← hZL, List.length_replicate]) (cellsU8_one _)
  have HX := kp (h2.row (cellsU8 E).toArray)
  have HBX := kp (bsr (bt' hb0.out hb2 hb0.out.size) (Nat.le_succ w.heap.size) (bt' hb0.out hb2 hb0.out.size).size (cellsU8 E).toArray)
  have HL := kp hcl
  clear h1 h2 hb2 hb0 hcv hZL
  generalize hY : w2.setRow (w.heap.size + 1) (cellsU8 E).toArray = Z at SC HX HBX
  clear hY
  go_wp2
  refine bodyPost_ret (v := .agg (cellsU8 E).toArray) ?_ rfl ⟨rfl, HBX.out⟩
  exact res_all Try.results32 (w.heap.size + 1) 32 _ (cellsU8 E) _ Try.underlying24 rfl info_key HL.out HX.out _ rfl

theorem one_str (c : UInt8) : strOfNums [(c.toNat : Int)] = str [c] := strNums [c]

set_option maxHeartbeats 1000000 in
set_option maxRecDepth 100000 in
theorem R_Short (key t : ByteArray) (n : Int) (N : Nat) (hN : min (max n 0) 32 = (N : Int)) (hk : key.size ≤ 1099511627) (ht : t.size ≤ 1099511627) (w : World) :
    Calls Try.prog 34 #[.string key, .string t, .int .i64 n] w fun e w' => e = .returned (.string (str ((macD (bs key) (bs t)).take N))) ∧ Below w.heap.size w w' := by
  have c1 := kp (fun w' => R_Tag key t hk ht w')
  have hel := macD_length (bs key) (bs t)
  have hcl := key_cells _ hel
  generalize macD (bs key) (bs t) = E at c1 hcl hel ⊢
  have hN2 : N ≤ 32 := by omega
  clear ht hk
  go_enter Try.func34, Try.ntmps34
  go_wp2_with fail
  refine (c1.out _).mono ?_
  rintro e w1 ⟨rfl, hb1⟩
  have SC := fun (cur : Array Value) (h : cur.size = 32) => sc_new (P := Try.prog) w1 24 (cellsU8 E) (cellsU8_one _) cur (by rw [hcl]; exact h)
  have h1 := kp (Blk.new w1 24 (cellsU8 E).toArray)
  have HB := kp (ba hb1 (.cells (cellsU8 E).toArray 24))
  have HEL := kp hel
  have HNN := kp hN
  clear hb1 hel hN
  go_upto_region 2 with (fail)
  clear SC hcl
  generalize (w1.alloc (.cells (cellsU8 E).toArray 24)) = W at HB h1 ⊢
  generalize w1.heap.size = b at h1 ⊢
  go_wp2
  go_loopw [8, 9] (fun s i wr => ∃ k : Nat, k ≤ N ∧ i = .int .i64 (k : Int) ∧ s = .string (str (E.take k)) ∧ Kp (Blk wr b 24 (cellsU8 E).toArray) ∧ Kp (Below w.heap.size w wr)) (fun _ i _ => N - (intOf i).toNat)
  case atStart => exact ⟨0, Nat.zero_le _, rfl, rfl, h1, HB⟩
  case round =>
    clear h1 HB
    obtain ⟨k, hk, rfl, rfl, h1, HB⟩ := hrel
    by_cases hlt : k < N
    · have i1 : (k : Int) < 32 := by omega
      have i2 : (0 : Int) ≤ (k : Int) := by omega
      have i3 : (k : Int) < n := by have := HNN.out; omega
      obtain ⟨c, hc⟩ : ∃ c, E[k]? = some c := ⟨_, List.getElem?_eq_getElem (by rw [HEL.out]; omega)⟩
      have hce : wr.cell? ⟨b, k, none⟩ = some (.int .u8 (c.toNat : Int)) := h1.out.atL (by
        obtain ⟨h1, h2⟩ := List.getElem?_eq_some_iff.1 hc
        rw [cellsU8_get E k h1, h2])
      have hsn : Kp (str (E.take k) ++ str [c] = str (E.take (k + 1))) := kp (by
        rw [List.take_add_one, hc, str_append]; rfl)
      have hsz : (str (E.take k)).size ≤ 32 := by rw [str_size, List.length_take]; omega
      have hz1 : (str [c]).size ≤ 1 := by rw [str_size]; simp
      have hbl := h1.out.lt
      clear hc
      generalize str (E.take k) = S at hsz hsn ⊢
      have hcv := conv_one (P := Try.prog) wr (e' := 5) 42 Try.underlying42 Try.underlying5 Try.underlying9 (c.toNat : Int)
      rw [one_str] at hcv
      generalize str [c] = Q1 at hz1 hsn hcv
      go_wp2
      go_roundw
      case measure => simp [intOf]; omega
      case rel => exact ⟨k + 1, by omega, by go_num, by rw [← hsn.out], kp (h1.out.alloc _), kp (ba HB.out _)⟩
    · obtain rfl : k = N := by omega
      by_cases h32 : (k : Int) < 32
      · have i3 : ¬ (k : Int) < n := by have := HNN.out; omega
        go_wp2
        go_ret
        exact ⟨rfl, HB.out⟩
      · go_wp2
        go_ret
        exact ⟨rfl, HB.out⟩

set_option maxHeartbeats 1000000 in
set_option maxRecDepth 100000 in
theorem R_Right (key t g : ByteArray) (hk : key.size ≤ 1099511627) (ht : t.size ≤ 1099511627) (hg : g.size ≤ 1099511627) (w : World) :
    Calls Try.prog 36 #[.string key, .string t, .string g] w fun e w' => e = .returned (.bool (rightB (bs key) (bs t) (bs g))) ∧ Below w.heap.size w w' := by
  have hgl : (bs g).length = g.size := size_bs g
  by_cases h1 : g.size < 8
  · rw [rightB_no (Or.inl (by omega))]
    have h1' : ¬ (8 : Int) ≤ (g.size : Int) := by omega
    clear hgl
    go_enter Try.func36, Try.ntmps36
    go_wp2
    go_ret
    exact ⟨rfl, Below.refl _ _⟩
  by_cases h2 : 32 < g.size
  · rw [rightB_no (Or.inr (by omega))]
    have h1' : (8 : Int) ≤ (g.size : Int) := by omega
    have h2' : ¬ (g.size : Int) ≤ 32 := by omega
    clear hgl
    go_enter Try.func36, Try.ntmps36
    go_wp2
    go_ret
    exact ⟨rfl, Below.refl _ _⟩
  rw [rightB_in (by omega) (by omega), hgl]
  have c1 := kp (fun w' => R_Short key t (g.size : Int) g.size (by omega) hk ht w')
  have heq : ((str ((macD (bs key) (bs t)).take g.size)).toList == g.toList) = ((macD (bs key) (bs t)).take g.size == bs g) := by rw [toList_bs, toList_bs, bs_str]
  generalize str ((macD (bs key) (bs t)).take g.size) = X at c1 heq
  rw [← heq]
  have h1' : (8 : Int) ≤ (g.size : Int) := by omega
  have h2' : (g.size : Int) ≤ 32 := by omega
  clear hgl heq hk ht
  go_enter Try.func36, Try.ntmps36
  go_wp2_with fail
  refine (c1.out _).mono ?_
  rintro e w1 ⟨rfl, hb1⟩
  have HB := kp hb1
  clear hb1
  go_wp2
  go_ret
  exact ⟨rfl, HB.out⟩
end Go.Proofs.Ytachnjdmjifefaa
