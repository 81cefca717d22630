/- mac: large, and what the document fixes. -/
import Derived.Test.YtachnjdmjifefaaRMac2
import Derived.Test.YtachnjdmjifefaaArgK
namespace Go.Proofs.Ytachnjdmjifefaa
open Go Go.RowKit
set_option linter.unusedVariables false
set_option linter.unusedSimpArgs false
attribute [local go_sem] bmax2 bmin2 bmax bmin cell_ext frozen_ext

/-- is a text among them too long? -/
def largeB (l : List ByteArray) : Bool := l.any fun s => decide (300 < s.size)
theorem largeB_false {l : List ByteArray} (h : largeB l = false) : ∀ s ∈ l, s.size ≤ 300 := by
  intro s hs
  unfold largeB at h
  have := List.any_eq_false.1 h s hs
  simp at this; omega
def HeldT (w : World) (ad : Option Addr) (l : List ByteArray) : Prop := l ≠ [] → ∃ b o, ad = some ⟨b, o, none⟩ ∧ b < w.heap.size ∧ HoldsT w b o l
theorem HeldT.bel {w w' : World} {ad : Option Addr} {l : List ByteArray} (h : HeldT w ad l) (hb : Below w.heap.size w w') : HeldT w' ad l := fun hl => by
  obtain ⟨b, o, rfl, h1, h2⟩ := h hl
  exact ⟨b, o, rfl, Nat.lt_of_lt_of_le h1 hb.size, fun i s hi => (hb.cell (p := ⟨b, o + i, none⟩) h1).trans (h2 i s hi)⟩

set_option maxRecDepth 100000 in
theorem large_any (ad : Option Addr) (c : Nat) (l : List ByteArray) (w : World) (hm : l.length ≤ maxLen) (h : HeldT w ad l) :
    Calls Try.prog 28 #[.slice ad l.length c] w fun e w' => e = .returned (.bool (largeB l)) ∧ w = w' := by
  have hm2 : l.length ≤ 9223372036854775807 := hm
  have HH := kp h
  clear h hm
  go_enter Try.func28, Try.ntmps28
  go_wp2
  go_loop [6] (fun i => ∃ k : Nat, k ≤ l.length ∧ i = .int .i64 (k : Int) ∧ Kp (largeB (l.take k) = false)) (fun i => l.length - (intOf i).toNat)
  case atStart => exact ⟨0, Nat.zero_le _, rfl, kp rfl⟩
  case round =>
    obtain ⟨k, hk, rfl, hr⟩ := hrel
    by_cases hlt : k < l.length
    · have hlt' : (k : Int) < (l.length : Int) := by omega
      have i2 : (0 : Int) ≤ (k : Int) := by omega
      obtain ⟨b, o, rfl, hbw, hh⟩ := HH.out (by intro e; subst e; simp at hlt)
      have hs1 := hh k _ (List.getElem?_eq_getElem hlt)
      have hsn : Kp (largeB (l.take (k + 1)) = (largeB (l.take k) || decide (300 < l[k].size))) := kp (by
        unfold largeB
        rw [List.take_succ_eq_append_getElem hlt, List.any_append, List.any_cons, List.any_nil, Bool.or_false])
      have hmem : Kp (300 < l[k].size → largeB l = true) := kp (fun h => List.any_eq_true.2 ⟨l[k], List.getElem_mem hlt, by simpa using h⟩)
      have HHH := kp hh
      clear hh
      generalize l[k] = s at hs1 hsn hmem
      by_cases hz : 300 < s.size
      · have hz' : (300 : Int) < (s.size : Int) := by omega
        have hlb := kp (hmem.out hz)
        go_wp2
        go_ret
        exact ⟨by rw [hlb.out]; rfl, rfl⟩
      · have hz' : ¬ (300 : Int) < (s.size : Int) := by omega
        have hsn2 : Kp (largeB (l.take (k + 1)) = false) := kp (by rw [hsn.out, hr.out]; simpa using hz)
        go_wp2
        go_round
        case measure => simp [intOf]; omega
        case rel => exact ⟨k + 1, by omega, by go_num, hsn2⟩
    · obtain rfl : k = l.length := by omega
      have := hr.out
      rw [List.take_of_length_le (Nat.le_refl _)] at this
      have hlb := kp this
      clear this
      go_wp2
      go_ret
      exact ⟨by rw [hlb.out]; rfl, rfl⟩
/-- a slice of texts, written out -/
theorem HeldT.lit (w : World) (T : TypeId) (l : List ByteArray) : HeldT (w.alloc (.cells (l.map Value.string).toArray T)) (some ⟨w.heap.size, 0, none⟩) l := fun _ =>
  ⟨w.heap.size, 0, rfl, by simp, fun i s hi => by
    rw [Nat.zero_add]
    exact (Blk.new w T (l.map Value.string).toArray).atL (by simp [hi])⟩
theorem mac_hi : hexL (macD (List.replicate 20 11) [72, 105, 32, 84, 104, 101, 114, 101]) = [98, 48, 51, 52, 52, 99, 54, 49, 100, 56, 100, 98, 51, 56, 53, 51, 53, 99, 97, 56, 97, 102, 99, 101, 97, 102, 48, 98, 102, 49, 50, 98, 56, 56, 49, 100, 99, 50, 48, 48, 99, 57, 56, 51, 51, 100, 97, 55, 50, 54, 101, 57, 51, 55, 54, 99, 50, 101, 51, 50, 99, 102, 102, 55] := by decide +kernel

theorem rightB_same {k t : List UInt8} {n : Nat} (h : 8 ≤ n) (h2 : n ≤ 32) : rightB k t ((macD k t).take n) = true := by
  have hl : ((macD k t).take n).length = n := by rw [List.length_take, macD_length]; omega
  rw [rightB_in (by omega) (by omega), hl]
  simp
set_option maxHeartbeats 4000000 in
set_option maxRecDepth 100000 in
theorem mac_awake (w : World) : Calls Try.prog 27 #[] w fun e w' => e = .returned (.bool true) ∧ Below w.heap.size w w' := by
  have c1 : Kp (∀ w', Calls Try.prog 29 #[.string ⟨#[11, 11, 11, 11, 11, 11, 11, 11, 11, 11, 11, 11, 11, 11, 11, 11, 11, 11, 11, 11]⟩, .string ⟨#[72, 105, 32, 84, 104, 101, 114, 101]⟩] w' fun e w'' => e = .returned (.agg (cellsU8 (macD (List.replicate 20 11) [72, 105, 32, 84, 104, 101, 114, 101])).toArray) ∧ Below w'.heap.size w' w'') := kp (fun w' => Tag_any _ _ (by decide) (by decide) w')
  have c2 : Kp (∀ w', Calls Try.prog 37 #[.string ⟨#[107]⟩] w' (WithEnd w' [107])) := kp (fun w' => With_any ⟨#[107]⟩ (by decide) w')
  have c3 : Kp (∀ b5 b6 w', Maker w' [107] b5 b6 → Calls Try.prog 50 #[.string ⟨#[120]⟩, .pointer (some ⟨b5, 0, none⟩), .pointer (some ⟨b6, 0, none⟩)] w' fun e w'' => e = .returned (.agg (cellsU8 (macD [107] [120])).toArray) ∧ Below w'.heap.size w' w'') := kp (fun b5 b6 w' h => Made_any [107] ⟨#[120]⟩ b5 b6 w' h (by decide))
  have c4 : Kp (∀ w', Calls Try.prog 29 #[.string ⟨#[107]⟩, .string ⟨#[120]⟩] w' fun e w'' => e = .returned (.agg (cellsU8 (macD [107] [120])).toArray) ∧ Below w'.heap.size w' w'') := kp (fun w' => Tag_any ⟨#[107]⟩ ⟨#[120]⟩ (by decide) (by decide) w')
  have c5 : Kp (∀ w', Calls Try.prog 33 #[.string ⟨#[107]⟩, .string ⟨#[120]⟩, .int .i64 10] w' fun e w'' => e = .returned (.string (str ((macD [107] [120]).take 10))) ∧ Below w'.heap.size w' w'') := kp (fun w' => Short_any ⟨#[107]⟩ ⟨#[120]⟩ 10 10 (by decide) (by decide) (by decide) w')
  have c6 : Kp (∀ w', Calls Try.prog 33 #[.string ⟨#[107]⟩, .string ⟨#[120]⟩, .int .i64 8] w' fun e w'' => e = .returned (.string (str ((macD [107] [120]).take 8))) ∧ Below w'.heap.size w' w'') := kp (fun w' => Short_any ⟨#[107]⟩ ⟨#[120]⟩ 8 8 (by decide) (by decide) (by decide) w')
  have c7 : Kp (∀ w', Calls Try.prog 33 #[.string ⟨#[107]⟩, .string ⟨#[120]⟩, .int .i64 7] w' fun e w'' => e = .returned (.string (str ((macD [107] [120]).take 7))) ∧ Below w'.heap.size w' w'') := kp (fun w' => Short_any ⟨#[107]⟩ ⟨#[120]⟩ 7 7 (by decide) (by decide) (by decide) w')
  have hml := macD_length [107] [120]
  have c8 : Kp (∀ w', Calls Try.prog 35 #[.string ⟨#[107]⟩, .string ⟨#[120]⟩, .string (str ((macD [107] [120]).take 8))] w' fun e w'' => e = .returned (.bool true) ∧ Below w'.heap.size w' w'') := kp (fun w' => by
    have := Right_any ⟨#[107]⟩ ⟨#[120]⟩ (str ((macD [107] [120]).take 8)) (by decide) (by decide) (by rw [str_size, List.length_take]; omega) w'
    rw [bs_str, show bs ⟨#[107]⟩ = [107] from rfl, show bs ⟨#[120]⟩ = [120] from rfl, rightB_same (by decide) (by decide)] at this
    exact this)
  have c9 : Kp (∀ w', Calls Try.prog 35 #[.string ⟨#[107]⟩, .string ⟨#[120]⟩, .string (str ((macD [107] [120]).take 7))] w' fun e w'' => e = .returned (.bool false) ∧ Below w'.heap.size w' w'') := kp (fun w' => by
    have := Right_any ⟨#[107]⟩ ⟨#[120]⟩ (str ((macD [107] [120]).take 7)) (by decide) (by decide) (by rw [str_size, List.length_take]; omega) w'
    rw [bs_str, rightB_no (Or.inl (by rw [List.length_take]; omega))] at this
    exact this)
  have z10 : (str ((macD [107] [120]).take 10)).size = 10 := by rw [str_size, List.length_take, hml]; rfl
  have hdl := macD_length (List.replicate 20 11) [72, 105, 32, 84, 104, 101, 114, 101]
  have hx := kp mac_hi
  have e2 := eq_same _ hml
  generalize str ((macD [107] [120]).take 10) = X10 at c5 z10
  generalize str ((macD [107] [120]).take 8) = X8 at c6 c8
  generalize str ((macD [107] [120]).take 7) = X7 at c7 c9
  generalize macD [107] [120] = E at c3 c4 e2 hml
  obtain ⟨D, hD⟩ : ∃ D, macD (List.replicate 20 11) [72, 105, 32, 84, 104, 101, 114, 101] = D := ⟨_, rfl⟩
  rw [hD] at c1 hx hdl
  clear hD
  have hcl := key_cells _ hdl
  have HDL := kp hdl
  have d1 := kp (fun w' => R_Hex D hdl w')
  obtain ⟨X, hX⟩ : ∃ X, str (hexL D) = X := ⟨_, rfl⟩
  rw [hX] at d1
  have e3 : (X.toList == [98, 48, 51, 52, 52, 99, 54, 49, 100, 56, 100, 98, 51, 56, 53, 51, 53, 99, 97, 56, 97, 102, 99, 101, 97, 102, 48, 98, 102, 49, 50, 98, 56, 56, 49, 100, 99, 50, 48, 48, 99, 57, 56, 51, 51, 100, 97, 55, 50, 54, 101, 57, 51, 55, 54, 99, 50, 101, 51, 50, 99, 102, 102, 55]) = true := by rw [← hX, hx.out, toList_bs]; rfl
  clear hX
  have d2 : Kp (∀ w', Calls Try.prog 31 #[.agg (cellsU8 D).toArray, .string ⟨#[110]⟩] w' fun e w'' => e = .returned (.agg (cellsU8 (macD D [110])).toArray) ∧ Below w'.heap.size w' w'') := kp (fun w' => Of_any D ⟨#[110]⟩ hdl (by decide) w')
  have d3 : Kp (∀ w', Calls Try.prog 29 #[.string (str D), .string ⟨#[110]⟩] w' fun e w'' => e = .returned (.agg (cellsU8 (macD D [110])).toArray) ∧ Below w'.heap.size w' w'') := kp (fun w' => Tag_any (str D) ⟨#[110]⟩ (by rw [str_size]; omega) (by decide) w')
  have e4 := eq_same _ (macD_length D [110])
  generalize macD D [110] = G at d2 d3 e4
  have g1 := guard_key
  have hnn : ∀ (b5 b6 : Nat) (W : World), (Go.binOp .neq 49 (.func (.func 50) #[] #[.pointer (some ⟨b5, 0, none⟩), .pointer (some ⟨b6, 0, none⟩)]) .nilFunc).run Try.prog W = .ok (.bool true) W := fun b5 b6 W => by kernel_rfl
  have HML := kp hml
  clear hml hdl
  go_enter Try.func27, Try.ntmps27
  go_wp2_with fail
  refine (c1.out _).mono ?_
  rintro e w1 ⟨rfl, hb1⟩
  have SC := fun (cur : Array Value) (h : cur.size = 32) => sc_new (P := Try.prog) w1 24 (cellsU8 D) (cellsU8_one _) cur (by rw [hcl]; exact h)
  have K1 := kp (Blk.new w1 24 (cellsU8 D).toArray)
  have HB := kp (ba hb1 (.cells (cellsU8 D).toArray 24))
  clear hb1
  go_wp2_with fail
  clear SC hcl
  refine (c2.out _).mono ?_
  rintro e w2 ⟨b5, b6, rfl, hm, hb2⟩
  have K2 := kp (K1.out.bel hb2)
  have HM := kp hm
  have HB2 := kp (bt' HB.out hb2 HB.out.size)
  generalize w1.heap.size = b at K2 ⊢
  clear hb2 hm K1 HB
  unfold makerV
  go_wp2_with fail
  have LK := kp (fun x => ldK D HDL.out (K2.out.bel (ext_below w2 x)))
  have HMX := kp (fun x => HM.out.bel (ext_below w2 x))
  have HCV := kp (fun x => blk_str (P := Try.prog) 42 (e := 5) (dst := 9) (n := 32) (cap := 32) Try.underlying42 Try.underlying5 Try.underlying9 (K2.out.bel (ext_below w2 x)) HDL.out)
  have hcv := HCV.out
  refine wp_region_ext [0, 1, 2, 3, 4, 5, 6, 7, 8, 9, 10, 11, 12, 13, 14, 15, 16, 17, 18, 19, 20, 21, 22, 23, 24, 25, 26, 27, 28, 29, 30, 31, 32, 33, 34] [35] (by kernel_rfl) (by kernel_rfl) ?_
  simp only [List.map_cons, List.map_nil, List.getD_cons_succ, List.getD_cons_zero]
  repeat (first
    | (go_big_quiet_want; refine quiet_load _ rfl 24 _ rfl rfl (fun w hw => by obtain ⟨x, rfl⟩ := hw; exact LK.out x) ?_; go_simp; go_big_quiet_on)
    | go_big_quiet_step (first | (go_at_call 20; with_reducible exact Calls.ext_of (d1.out _)) | (go_at_call 50; with_reducible exact Calls.ext_of (c3.out _ _ _ (HMX.out _))) | (go_at_call 29; with_reducible exact Calls.ext_of (c4.out _)) | (go_at_call 29; with_reducible exact Calls.ext_of (d3.out _)) | (go_at_call 33; with_reducible exact Calls.ext_of (c5.out _)) | (go_at_call 33; with_reducible exact Calls.ext_of (c6.out _)) | (go_at_call 33; with_reducible exact Calls.ext_of (c7.out _)) | (go_at_call 35; with_reducible exact Calls.ext_of (c8.out _)) | (go_at_call 35; with_reducible exact Calls.ext_of (c9.out _)) | (go_at_call 31; with_reducible exact Calls.ext_of (d2.out _))))
  refine wpQuiet_nil ?_
  rintro z
  go_wp2
  go_ret
  exact ⟨rfl, bt' HB2.out (ext_below w2 z) HB2.out.size⟩
end Go.Proofs.Ytachnjdmjifefaa
