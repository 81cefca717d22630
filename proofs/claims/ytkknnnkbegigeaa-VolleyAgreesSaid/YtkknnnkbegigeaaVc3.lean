/- Texts laid together: Wid4, Wid5, Vol1, Vol2, Vol3, Vol4, Vol5, RegE, Vol6, Oct1, Shelf. -/
import Derived.Test.YtkknnnkbegigeaaProg
import Derived.Shelf.Strings.Builder1
import Derived.Shelf.Strings.Builder2
import Derived.Shelf.Strings.BuilderF
import Derived.Shelf.Strings.BuilderK
import Derived.Shelf.Strings.Builder2Cap
import Derived.Shelf.LaysM
import Derived.Shelf.Strconv.Clone
import Derived.Shelf.Strings.Prefix
import Derived.Shelf.Bits.Mul64
import Derived.Shelf.Strings.Repeat
import Derived.Shelf.Strings.BuilderCap
import Derived.Test.YtkknnnkbegigeaaVc2
/- wide: products. -/
namespace Go.Proofs.Ytkknnnkbegigeaa
open Go Go.RowKit
set_option linter.unusedVariables false
set_option linter.unusedSimpArgs false
attribute [local go_sem] bmax2 bmin2 bmax bmin cell_ext frozen_ext

/-- the halves of a product -/
theorem prod_parts (x1 x0 y1 y0 l1 l0 m1 m0 o1 o0 : Nat) (hl : x0 * y0 = l1 * 4294967296 + l0) (hm : x1 * y0 + l1 = m1 * 4294967296 + m0) (ho : x0 * y1 + m0 = o1 * 4294967296 + o0) : (x1 * 4294967296 + x0) * (y1 * 4294967296 + y0) = (x1 * y1 + m1 + o1) * 18446744073709551616 + (o0 * 4294967296 + l0) := by
  have e : (x1 * 4294967296 + x0) * (y1 * 4294967296 + y0) = x1 * y1 * 18446744073709551616 + (x1 * y0 + x0 * y1) * 4294967296 + x0 * y0 := by
    simp only [Nat.add_mul, Nat.mul_add]
    have e1 : x1 * 4294967296 * (y1 * 4294967296) = x1 * y1 * 18446744073709551616 := by rw [Nat.mul_mul_mul_comm]
    have e2 : x1 * 4294967296 * y0 = x1 * y0 * 4294967296 := by rw [Nat.mul_right_comm]
    have e3 : x0 * (y1 * 4294967296) = x0 * y1 * 4294967296 := by rw [Nat.mul_assoc]
    omega
  rw [e]
  omega
theorem numL_join (T l : Nat) (h : l < 18446744073709551616) : numL ((T * 18446744073709551616 + l : Nat) : Int) = (l : Int) := by unfold numL; omega
theorem numH_join (T l : Nat) (h : l < 18446744073709551616) (g : T < 9223372036854775808) : numH ((T * 18446744073709551616 + l : Nat) : Int) = (T : Int) := by
  have e : ((T * 18446744073709551616 + l : Nat) : Int) / 18446744073709551616 = (T : Int) := by omega
  unfold numH
  rw [e]
  exact IntWalk.wrap64_in _ (by omega)
theorem lo_lt (o l : Nat) (h : o < 4294967296) (g : l < 4294967296) : o * 4294967296 + l < 18446744073709551616 := by omega
theorem mul_le32 {a b c d : Nat} (h : a ≤ c) (g : b ≤ d) : a * b ≤ c * d := Nat.mul_le_mul h g
theorem and32 (n : Nat) (h : n < 18446744073709551616) : bits .and .u64 (n : Int) 4294967295 = ((n % 4294967296 : Nat) : Int) := by
  have e3 := u64_and_nat n 4294967295 h (by omega)
  rw [show (4294967295 : Nat) = 2 ^ 32 - 1 from rfl, Nat.and_two_pow_sub_one_eq_mod] at e3
  exact e3
set_option maxHeartbeats 1000000 in
set_option maxRecDepth 100000 in
theorem W_Times (a b : Int) (ha0 : -9223372036854775808 ≤ a) (ha1 : a < 9223372036854775808) (hb0 : -9223372036854775808 ≤ b) (hb1 : b < 9223372036854775808) (w : World) : Calls Try.prog 58 #[.int .i64 a, .int .i64 b] w fun e w' => e = .returned (.agg (numC (a * b)).toArray) ∧ Below w.heap.size w w' := by
  have cX := W_size a ha0 ha1
  have cY := W_size b hb0 hb1
  obtain ⟨x, hx⟩ : ∃ x : Nat, a.natAbs = x := ⟨_, rfl⟩
  obtain ⟨y, hy⟩ : ∃ y : Nat, b.natAbs = y := ⟨_, rfl⟩
  rw [hx] at cX
  rw [hy] at cY
  have hx1 : x ≤ 9223372036854775808 := by omega
  have hy1 : y ≤ 9223372036854775808 := by omega
  obtain ⟨x1, hx1'⟩ : ∃ n, x / 4294967296 = n := ⟨_, rfl⟩
  obtain ⟨x0, hx0'⟩ : ∃ n, x % 4294967296 = n := ⟨_, rfl⟩
  obtain ⟨y1, hy1'⟩ : ∃ n, y / 4294967296 = n := ⟨_, rfl⟩
  obtain ⟨y0, hy0'⟩ : ∃ n, y % 4294967296 = n := ⟨_, rfl⟩
  have ex : x = x1 * 4294967296 + x0 := by omega
  have ey : y = y1 * 4294967296 + y0 := by omega
  have b1 : x1 ≤ 2147483648 := by omega
  have b2 : x0 ≤ 4294967295 := by omega
  have b3 : y1 ≤ 2147483648 := by omega
  have b4 : y0 ≤ 4294967295 := by omega
  have fx1 : (x : Int) / 4294967296 = (x1 : Int) := by omega
  have fx0 : bits .and .u64 (x : Int) 4294967295 = (x0 : Int) := by rw [and32 _ (by omega), hx0']
  have fy1 : (y : Int) / 4294967296 = (y1 : Int) := by omega
  have fy0 : bits .and .u64 (y : Int) 4294967295 = (y0 : Int) := by rw [and32 _ (by omega), hy0']
  have p1 : x0 * y0 ≤ 18446744065119617025 := mul_le32 b2 b4
  have p2 : x1 * y0 ≤ 9223372034707292160 := mul_le32 b1 b4
  have p3 : x0 * y1 ≤ 9223372034707292160 := mul_le32 b2 b3
  have p4 : x1 * y1 ≤ 4611686018427387904 := mul_le32 b1 b3
  obtain ⟨L, hL⟩ : ∃ n, x0 * y0 = n := ⟨_, rfl⟩
  obtain ⟨l1, hl1⟩ : ∃ n, L / 4294967296 = n := ⟨_, rfl⟩
  obtain ⟨l0, hl0⟩ : ∃ n, L % 4294967296 = n := ⟨_, rfl⟩
  obtain ⟨P, hP⟩ : ∃ n, x1 * y0 = n := ⟨_, rfl⟩
  obtain ⟨M, hM⟩ : ∃ n, P + l1 = n := ⟨_, rfl⟩
  obtain ⟨m1, hm1⟩ : ∃ n, M / 4294967296 = n := ⟨_, rfl⟩
  obtain ⟨m0, hm0⟩ : ∃ n, M % 4294967296 = n := ⟨_, rfl⟩
  obtain ⟨Q, hQ⟩ : ∃ n, x0 * y1 = n := ⟨_, rfl⟩
  obtain ⟨O, hO⟩ : ∃ n, Q + m0 = n := ⟨_, rfl⟩
  obtain ⟨o1, ho1⟩ : ∃ n, O / 4294967296 = n := ⟨_, rfl⟩
  obtain ⟨o0, ho0⟩ : ∃ n, O % 4294967296 = n := ⟨_, rfl⟩
  obtain ⟨R, hR⟩ : ∃ n, x1 * y1 = n := ⟨_, rfl⟩
  obtain ⟨S, hS⟩ : ∃ n, R + m1 = n := ⟨_, rfl⟩
  obtain ⟨T, hT⟩ : ∃ n, S + o1 = n := ⟨_, rfl⟩
  have hxy : x * y = T * 18446744073709551616 + (o0 * 4294967296 + l0) := by
    rw [ex, ey, prod_parts x1 x0 y1 y0 l1 l0 m1 m0 o1 o0 (by omega) (by omega) (by omega)]
    omega
  rw [hL] at p1
  rw [hP] at p2
  rw [hQ] at p3
  rw [hR] at p4
  have fL : IntKind.u64.wrap ((x0 : Int) * (y0 : Int)) = (L : Int) := by rw [← Int.natCast_mul, hL]; exact IntWalk.u64_in _ (by omega)
  have fL1 : (L : Int) / 4294967296 = (l1 : Int) := by omega
  have fL0 : bits .and .u64 (L : Int) 4294967295 = (l0 : Int) := by rw [and32 _ (by omega), hl0]
  have fP : IntKind.u64.wrap ((x1 : Int) * (y0 : Int)) = (P : Int) := by rw [← Int.natCast_mul, hP]; exact IntWalk.u64_in _ (by omega)
  have fM : IntKind.u64.wrap ((P : Int) + (l1 : Int)) = (M : Int) := by rw [← Int.natCast_add, hM]; exact IntWalk.u64_in _ (by omega)
  have fM1 : (M : Int) / 4294967296 = (m1 : Int) := by omega
  have fM0 : bits .and .u64 (M : Int) 4294967295 = (m0 : Int) := by rw [and32 _ (by omega), hm0]
  have fQ : IntKind.u64.wrap ((x0 : Int) * (y1 : Int)) = (Q : Int) := by rw [← Int.natCast_mul, hQ]; exact IntWalk.u64_in _ (by omega)
  have fO : IntKind.u64.wrap ((Q : Int) + (m0 : Int)) = (O : Int) := by rw [← Int.natCast_add, hO]; exact IntWalk.u64_in _ (by omega)
  have fO1 : (O : Int) / 4294967296 = (o1 : Int) := by omega
  have fR : IntKind.u64.wrap ((x1 : Int) * (y1 : Int)) = (R : Int) := by rw [← Int.natCast_mul, hR]; exact IntWalk.u64_in _ (by omega)
  have fS : IntKind.u64.wrap ((R : Int) + (m1 : Int)) = (S : Int) := by rw [← Int.natCast_add, hS]; exact IntWalk.u64_in _ (by omega)
  have fT : IntKind.u64.wrap ((S : Int) + (o1 : Int)) = (T : Int) := by rw [← Int.natCast_add, hT]; exact IntWalk.u64_in _ (by omega)
  have fW : IntKind.u64.wrap ((O : Int) * 4294967296) = ((o0 * 4294967296 : Nat) : Int) := by rw [wrapU]; omega
  have fV : bits .or .u64 ((o0 * 4294967296 : Nat) : Int) (l0 : Int) = ((o0 * 4294967296 + l0 : Nat) : Int) := by
    have e3 := u64_or_nat (o0 * 4294967296) l0 (by omega) (by omega)
    have e4 := nat_join 32 (o0 * 4294967296) l0 (by omega) (by omega)
    rw [e4] at e3
    exact e3
  have gT : IntKind.i64.wrap (T : Int) = (T : Int) := IntWalk.i64_in _ (by omega)
  have hlo : o0 * 4294967296 + l0 < 18446744073709551616 := lo_lt _ _ (ho0 ▸ Nat.mod_lt _ (by decide)) (hl0 ▸ Nat.mod_lt _ (by decide))
  have hTn : T < 9223372036854775808 := by omega
  have eC : numC ((x * y : Nat) : Int) = [.int .i64 (T : Int), .int .u64 ((o0 * 4294967296 + l0 : Nat) : Int)] := by
    have h1 : numH ((x * y : Nat) : Int) = (T : Int) := by rw [hxy]; exact numH_join _ _ hlo hTn
    have h2 : numL ((x * y : Nat) : Int) = ((o0 * 4294967296 + l0 : Nat) : Int) := by rw [hxy]; exact numL_join _ _ hlo
    unfold numC
    rw [h1, h2]
  have hTb : (T : Int) < 9223372036854775808 := Int.ofNat_lt.2 hTn
  have hab : a * b = if (decide (a < 0) != decide (b < 0)) = true then -((x * y : Nat) : Int) else ((x * y : Nat) : Int) := by
    have h1 : ((x * y : Nat) : Int) = (a * b).natAbs := by rw [Int.natAbs_mul, hx, hy]
    by_cases ga : a < 0 <;> by_cases gb : b < 0
    · rw [decide_eq_true ga, decide_eq_true gb, if_neg (by decide), h1]
      have := Int.mul_pos_of_neg_of_neg ga gb
      omega
    · rw [decide_eq_true ga, decide_eq_false gb, if_pos (by decide), h1]
      have := Int.mul_nonpos_of_nonpos_of_nonneg (show a ≤ 0 by omega) (show 0 ≤ b by omega)
      omega
    · rw [decide_eq_false ga, decide_eq_true gb, if_pos (by decide), h1]
      have := Int.mul_nonpos_of_nonneg_of_nonpos (show 0 ≤ a by omega) (show b ≤ 0 by omega)
      omega
    · rw [decide_eq_false ga, decide_eq_false gb, if_neg (by decide), h1]
      have := Int.mul_nonneg (show 0 ≤ a by omega) (show 0 ≤ b by omega)
      omega
  clear hlo hTn
  have cL := kp (fun w' => W_less ((x * y : Nat) : Int) w')
  rw [hab]
  generalize ((x * y : Nat) : Int) = Z at *
  have HE := kp eC
  have HAB := kp hab
  clear hab eC
  have hwy : (y : Int) < 18446744073709551616 := by omega
  have hwx : (x : Int) < 18446744073709551616 := by omega
  have K1 := kp hx1
  have K2 := kp hy1
  clear hx1 hy1 hx hy ex ey hx1' hx0' hy1' hy0' hL hl1 hl0 hP hM hm1 hm0 hQ hO ho1 ho0 hR hS hT hxy p1 p2 p3 p4 b1 b2 b3 b4
  generalize o0 * 4294967296 + l0 = V at *
  generalize o0 * 4294967296 = V2 at *
  have gT2 : wrap64 (T : Int) = (T : Int) := IntWalk.wrap64_in _ (by omega)
  have hCl := numC_length Z
  have hC1 := kp (numC_one Z)
  obtain ⟨C, hC⟩ : ∃ C, numC Z = C := ⟨_, rfl⟩
  rw [hC] at HE cL hCl hC1
  have HC := kp hC
  clear hC
  have hDl := numC_length (-Z)
  have hD1 := kp (numC_one (-Z))
  obtain ⟨D, hD⟩ : ∃ D, numC (-Z) = D := ⟨_, rfl⟩
  rw [hD] at cL hDl hD1
  have HD := kp hD
  clear hD
  obtain ⟨F, hF⟩ : ∃ F, numC (if (decide (a < 0) != decide (b < 0)) = true then -Z else Z) = F := ⟨_, rfl⟩
  rw [hF]
  have HF := kp hF
  clear hF
  have H4 := kp ((Blk.new w 71 #[.int .i64 0, .int .u64 0]).alloc (.cells C.toArray 71))
  have H10 := kp (Blk.new (w.alloc (.cells #[.int .i64 0, .int .u64 0] 71)) 71 C.toArray)
  have HB := kp (ba (ba (Below.refl w.heap.size w) (.cells #[.int .i64 0, .int .u64 0] 71)) (.cells C.toArray 71))
  rw [size_all] at H10
  go_enter Try.func58, Try.ntmps58
  go_wp2_with fail
  refine (cX _).mono ?_
  rintro e w' ⟨rfl, rfl⟩
  go_wp2_with fail
  refine (cY _).mono ?_
  rintro e w' ⟨rfl, rfl⟩
  clear cX cY
  go_upto_region 6 with (fail)
  change Code.wp _ _ _ _ ((w.alloc (.cells #[.int .i64 0, .int .u64 0] 71)).alloc (.cells #[.int .i64 T, .int .u64 V] 71))
  have hz : #[Value.int .i64 T, .int .u64 V] = C.toArray := by rw [HE.out]
  rw [hz]
  clear hz fx1 fx0 fy1 fy0 fL fL1 fL0 fP fM fM1 fM0 fQ fO fO1 fR fS fT gT gT2 fW fV
  generalize (w.alloc (.cells #[.int .i64 0, .int .u64 0] 71)).alloc (.cells C.toArray 71) = U at H4 H10 HB ⊢
  have LC := ld_all (P := Try.prog) (w.heap.size + 1) 2 71 71 C _ Try.underlying71 rfl info_num hCl H10.out
  by_cases ga : a < 0 <;> by_cases gb : b < 0
  all_goals
    first | (have g1 := decide_eq_false ga) | (have g1 := decide_eq_true ga)
    first | (have g2 := decide_eq_false gb) | (have g2 := decide_eq_true gb)
    have e := HF.out
    rw [g1, g2] at e
    first | rw [if_pos (by decide)] at e | rw [if_neg (by decide)] at e
    first | rw [HC.out] at e | rw [HD.out] at e
    have HE2 := kp e
    clear e
  · have SC := sc_all (P := Try.prog) (w := U) w.heap.size 71 C [.int .i64 0, .int .u64 0] H4.out (by rw [hCl]; rfl) hC1.out
    have HX := kp (H4.out.row C.toArray)
    have HBX := kp (bsr HB.out (Nat.le_refl w.heap.size) HB.out.size C.toArray)
    generalize U.setRow w.heap.size C.toArray = U2 at SC HX HBX
    go_wp2_with (refine wpL_load rfl 71 _ rfl rfl LC ?_)
    refine bodyPost_ret (v := .agg C.toArray) ?_ rfl ⟨by rw [HE2.out], HBX.out⟩
    exact res_all Try.results58 w.heap.size 2 _ _ _ Try.underlying71 rfl info_num hCl HX.out _ rfl
  · go_wp2_with (first | (refine wpL_load rfl 71 _ rfl rfl LC ?_) | (go_at_call 60; refine (cL.out _).mono ?_; rintro e w1 ⟨rfl, hb1⟩; have J4 := H4.out.bel hb1; have SC := sc_all (P := Try.prog) (w := w1) w.heap.size 71 D [.int .i64 0, .int .u64 0] J4 (by rw [hDl]; rfl) hD1.out; have HX := kp (J4.row D.toArray); have hbx := bt' HB.out hb1 HB.out.size; have HBX := kp (bsr hbx (Nat.le_refl w.heap.size) hbx.size D.toArray); clear hbx hb1 J4 LC; generalize w1.setRow w.heap.size D.toArray = U2 at SC HX HBX))
    refine bodyPost_ret (v := .agg D.toArray) ?_ rfl ⟨by rw [HE2.out], HBX.out⟩
    exact res_all Try.results58 w.heap.size 2 _ _ _ Try.underlying71 rfl info_num hDl HX.out _ rfl
  · go_wp2_with (first | (refine wpL_load rfl 71 _ rfl rfl LC ?_) | (go_at_call 60; refine (cL.out _).mono ?_; rintro e w1 ⟨rfl, hb1⟩; have J4 := H4.out.bel hb1; have SC := sc_all (P := Try.prog) (w := w1) w.heap.size 71 D [.int .i64 0, .int .u64 0] J4 (by rw [hDl]; rfl) hD1.out; have HX := kp (J4.row D.toArray); have hbx := bt' HB.out hb1 HB.out.size; have HBX := kp (bsr hbx (Nat.le_refl w.heap.size) hbx.size D.toArray); clear hbx hb1 J4 LC; generalize w1.setRow w.heap.size D.toArray = U2 at SC HX HBX))
    refine bodyPost_ret (v := .agg D.toArray) ?_ rfl ⟨by rw [HE2.out], HBX.out⟩
    exact res_all Try.results58 w.heap.size 2 _ _ _ Try.underlying71 rfl info_num hDl HX.out _ rfl
  · have SC := sc_all (P := Try.prog) (w := U) w.heap.size 71 C [.int .i64 0, .int .u64 0] H4.out (by rw [hCl]; rfl) hC1.out
    have HX := kp (H4.out.row C.toArray)
    have HBX := kp (bsr HB.out (Nat.le_refl w.heap.size) HB.out.size C.toArray)
    generalize U.setRow w.heap.size C.toArray = U2 at SC HX HBX
    go_wp2_with (refine wpL_load rfl 71 _ rfl rfl LC ?_)
    refine bodyPost_ret (v := .agg C.toArray) ?_ rfl ⟨by rw [HE2.out], HBX.out⟩
    exact res_all Try.results58 w.heap.size 2 _ _ _ Try.underlying71 rfl info_num hCl HX.out _ rfl
end Go.Proofs.Ytkknnnkbegigeaa
/- wide: numbers compared. -/
namespace Go.Proofs.Ytkknnnkbegigeaa
open Go Go.RowKit
set_option linter.unusedVariables false
set_option linter.unusedSimpArgs false
attribute [local go_sem] bmax2 bmin2 bmax bmin cell_ext frozen_ext

def cmpI (a b : Int) : Int := if a < b then -1 else if b < a then 1 else 0
theorem C_i (a b : Int) (w : World) : Calls Try.prog 70 #[.int .i64 a, .int .i64 b] w fun e w' => e = .returned (.int .i64 (cmpI a b)) ∧ w' = w := by
  have hr : ∀ c, c = cmpI a b → cmpI a b = c := fun _ h => h.symm
  obtain ⟨c, hc⟩ : ∃ c, cmpI a b = c := ⟨_, rfl⟩
  rw [hc]
  unfold cmpI at hc
  have ha : (a != a) = false := by simp
  have hb : (b != b) = false := by simp
  clear hr
  by_cases h1 : a < b
  · rw [if_pos h1] at hc
    subst hc
    have g1 := decide_eq_true h1
    go_enter Try.func70, Try.ntmps70
    go_wp2
    go_ret
    exact ⟨rfl, rfl⟩
  · rw [if_neg h1] at hc
    by_cases h2 : b < a
    · rw [if_pos h2] at hc
      subst hc
      go_enter Try.func70, Try.ntmps70
      go_wp2
      go_ret
      exact ⟨rfl, rfl⟩
    · rw [if_neg h2] at hc
      subst hc
      go_enter Try.func70, Try.ntmps70
      go_wp2
      go_ret
      exact ⟨rfl, rfl⟩
theorem C_u (a b : Int) (w : World) : Calls Try.prog 71 #[.int .u64 a, .int .u64 b] w fun e w' => e = .returned (.int .i64 (cmpI a b)) ∧ w' = w := by
  obtain ⟨c, hc⟩ : ∃ c, cmpI a b = c := ⟨_, rfl⟩
  rw [hc]
  unfold cmpI at hc
  have ha : (a != a) = false := by simp
  have hb : (b != b) = false := by simp
  by_cases h1 : a < b
  · rw [if_pos h1] at hc
    subst hc
    go_enter Try.func71, Try.ntmps71
    go_wp2
    go_ret
    exact ⟨rfl, rfl⟩
  · rw [if_neg h1] at hc
    by_cases h2 : b < a
    · rw [if_pos h2] at hc
      subst hc
      go_enter Try.func71, Try.ntmps71
      go_wp2
      go_ret
      exact ⟨rfl, rfl⟩
    · rw [if_neg h2] at hc
      subst hc
      go_enter Try.func71, Try.ntmps71
      go_wp2
      go_ret
      exact ⟨rfl, rfl⟩
/-- the first of two numbers that isn't 0 -/
theorem C_or (B : Nat) (t : TypeId) (p q : Int) (w : World) (H : Blk w B t ([.int .i64 p, .int .i64 q] : List Value).toArray) : Calls Try.prog 69 #[.slice (some ⟨B, 0, none⟩) 2 2] w fun e w' => e = .returned (.int .i64 (if p = 0 then q else p)) ∧ w' = w := by
  have x0 := H.atL (show ([.int .i64 p, .int .i64 q] : List Value)[0]? = some (.int .i64 p) from rfl)
  have x1 := H.atL (show ([.int .i64 p, .int .i64 q] : List Value)[1]? = some (.int .i64 q) from rfl)
  have kl := H.lt
  obtain ⟨c, hc⟩ : ∃ c, (if p = 0 then q else p) = c := ⟨_, rfl⟩
  rw [hc]
  have HC := kp hc
  clear hc H
  go_enter Try.func69, Try.ntmps69
  go_wp2
  go_loopw [8] (fun i wr => ∃ j : Nat, j ≤ 2 ∧ i = .int .i64 (j : Int) ∧ Kp (1 ≤ j → p = 0) ∧ Kp (2 ≤ j → q = 0) ∧ wr = w) (fun i _ => 2 - (intOf i).toNat)
  case atStart => exact ⟨0, by omega, rfl, kp (by omega), kp (by omega), rfl⟩
  case round =>
    obtain ⟨j, hj, rfl, hp, hq, rfl⟩ := hrel
    rcases j with _ | _ | _ | j
    · by_cases h : p = 0
      · have g : (p != 0) = false := by simp [h]
        have g2 : (p == 0) = true := by simp [h]
        go_wp2
        go_roundw
        case measure => simp [intOf]
        case rel => exact ⟨1, by omega, rfl, kp (fun _ => h), kp (by omega), trivial⟩
      · have g : (p != 0) = true := by simp [h]
        have g2 : (p == 0) = false := by simp [h]
        have e := HC.out
        rw [if_neg h] at e
        subst e
        go_wp2
        try rw [Exit.noGoto_ret]
        go_ret
        exact ⟨rfl, rfl⟩
    · by_cases h : q = 0
      · have g : (q != 0) = false := by simp [h]
        have g2 : (q == 0) = true := by simp [h]
        go_wp2
        go_roundw
        case measure => simp [intOf]
        case rel => exact ⟨2, by omega, rfl, kp (fun _ => hp.out (by omega)), kp (fun _ => h), trivial⟩
      · have g : (q != 0) = true := by simp [h]
        have g2 : (q == 0) = false := by simp [h]
        have e := HC.out
        rw [if_pos (hp.out (by omega))] at e
        subst e
        go_wp2
        try rw [Exit.noGoto_ret]
        go_ret
        exact ⟨rfl, rfl⟩
    · have e := HC.out
      rw [if_pos (hp.out (by omega)), hq.out (by omega)] at e
      subst e
      go_wp2
      try rw [Exit.noGoto_ret]
      go_ret
      exact ⟨rfl, rfl⟩
    · omega
/-- two numbers laid as a slice -/
theorem slice_ints (p q : Int) (W : World) : (Instr.buildSlice 124 2 #[(0, .int .i64 p), (1, .int .i64 q)]).run Try.prog W = .ok (.slice (some ⟨W.heap.size, 0, none⟩) 2 2) (W.alloc (.cells ([.int .i64 p, .int .i64 q] : List Value).toArray 3)) := by
  kernel_rfl
theorem cmp_num {x y : Int} (hx : In128 x) (hy : In128 y) : (if cmpI (numH x) (numH y) = 0 then cmpI (numL x) (numL y) else cmpI (numH x) (numH y)) = cmpI x y := by
  unfold In128 at hx hy
  have e1 : numH x = x / 18446744073709551616 := by unfold numH; exact IntWalk.wrap64_in _ (by omega)
  have e2 : numH y = y / 18446744073709551616 := by unfold numH; exact IntWalk.wrap64_in _ (by omega)
  have e3 : numL x = x % 18446744073709551616 := rfl
  have e4 : numL y = y % 18446744073709551616 := rfl
  rw [e1, e2, e3, e4]
  clear e1 e2 e3 e4
  unfold cmpI
  by_cases h1 : x / 18446744073709551616 < y / 18446744073709551616
  · rw [if_pos h1, if_neg (by decide), if_pos (by omega)]
  · rw [if_neg h1]
    by_cases h2 : y / 18446744073709551616 < x / 18446744073709551616
    · rw [if_pos h2, if_neg (by decide), if_neg (by omega), if_pos (by omega)]
    · rw [if_neg h2, if_pos rfl]
      by_cases h3 : x % 18446744073709551616 < y % 18446744073709551616
      · rw [if_pos h3, if_pos (by omega)]
      · rw [if_neg h3]
        by_cases h4 : y % 18446744073709551616 < x % 18446744073709551616
        · rw [if_pos h4, if_neg (by omega), if_pos (by omega)]
        · rw [if_neg h4, if_neg (by omega), if_neg (by omega)]
set_option maxHeartbeats 1000000 in
set_option maxRecDepth 100000 in
theorem W_Cmp (x y : Int) (hx : In128 x) (hy : In128 y) (w : World) : Calls Try.prog 47 #[.agg (numC x).toArray, .agg (numC y).toArray] w fun e w' => e = .returned (.int .i64 (cmpI x y)) ∧ Below w.heap.size w w' := by
  have HR := kp (cmp_num hx hy)
  have HX0 : Kp ((numC x)[0]? = some (.int .i64 (numH x))) := kp rfl
  have HY0 : Kp ((numC y)[0]? = some (.int .i64 (numH y))) := kp rfl
  have HX1 : Kp ((numC x)[1]? = some (.int .u64 (numL x))) := kp rfl
  have HY1 : Kp ((numC y)[1]? = some (.int .u64 (numL y))) := kp rfl
  have c1 := kp (fun w' : World => (C_i (numH x) (numH y) w').mono (fun e w'' h => (⟨h.1, h.2 ▸ Below.refl _ _⟩ : e = _ ∧ Below w'.heap.size w' w'')))
  have c2 := kp (fun w' : World => (C_u (numL x) (numL y) w').mono (fun e w'' h => (⟨h.1, h.2 ▸ Below.refl _ _⟩ : e = _ ∧ Below w'.heap.size w' w'')))
  have H1 := kp ((Blk.new w 71 (numC x).toArray).alloc (.cells (numC y).toArray 71))
  have H2 := kp (Blk.new (w.alloc (.cells (numC x).toArray 71)) 71 (numC y).toArray)
  have HB := kp (ba (ba (Below.refl w.heap.size w) (.cells (numC x).toArray 71)) (.cells (numC y).toArray 71))
  rw [size_all] at H2
  generalize cmpI x y = R at *
  generalize cmpI (numH x) (numH y) = p at *
  generalize cmpI (numL x) (numL y) = q at *
  generalize numC x = X at *
  generalize numC y = Y at *
  generalize numH x = a at *
  generalize numL x = l at *
  generalize numH y = b at *
  generalize numL y = m at *
  clear hx hy
  go_enter Try.func47, Try.ntmps47
  go_upto_region 1 with (fail)
  change Code.wp _ _ _ _ ((w.alloc (.cells X.toArray 71)).alloc (.cells Y.toArray 71))
  generalize (w.alloc (.cells X.toArray 71)).alloc (.cells Y.toArray 71) = W at H1 H2 HB ⊢
  have x0 := H1.out.atL HX0.out
  have x1 := H1.out.atL HX1.out
  have y0 := H2.out.atL HY0.out
  have y1 := H2.out.atL HY1.out
  have k1 := H1.out.lt
  have k2 := H2.out.lt
  refine wp_region_ext [0, 1, 2, 3, 4, 5, 6, 7, 8, 9] [10, 11, 12] (by kernel_rfl) (by kernel_rfl) ?_
  simp only [List.map_cons, List.map_nil, List.getD_cons_succ, List.getD_cons_zero]
  repeat (go_big_quiet_step (first | (go_at_call 70; with_reducible exact Calls.ext_of (c1.out _)) | (go_at_call 71; with_reducible exact Calls.ext_of (c2.out _))))
  refine wpQuiet_nil ?_
  rintro z
  have HBX := kp (bt' HB.out (ext_below _ z) HB.out.size)
  generalize World.ext _ z = V at HBX ⊢
  have HN := Blk.new V 3 ([.int .i64 p, .int .i64 q] : List Value).toArray
  have HBY := kp (ba HBX.out (.cells ([.int .i64 p, .int .i64 q] : List Value).toArray 3))
  have cO := C_or V.heap.size 3 p q _ HN
  rw [HR.out] at cO
  have cO := kp cO
  clear HN x0 x1 y0 y1
  go_wp2_with (first | (refine wpL_make 15 rfl rfl (.slice (some ⟨V.heap.size, 0, none⟩) 2 2) (exec_buildSlice (parts := #[(0, .int .i64 p), (1, .int .i64 q)]) rfl (by simp [Act.eval, Act.put]) (slice_ints p q _)) ?_) | (go_at_call 69; refine cO.out.mono ?_; rintro e w' ⟨rfl, rfl⟩))
  go_ret
  exact ⟨rfl, HBY.out⟩
end Go.Proofs.Ytkknnnkbegigeaa
/- volley: sums, moments' bytes; stamp.Since. -/
namespace Go.Proofs.Ytkknnnkbegigeaa
open Go Go.RowKit
set_option linter.unusedVariables false
set_option linter.unusedSimpArgs false
attribute [local go_sem] bmax2 bmin2 bmax bmin cell_ext frozen_ext

theorem W_Add_in (x y : Int) (hx : In128 x) (hy : In128 y) (hxy : In128 (x + y)) (w : World) : Calls Try.prog 34 #[.agg (numC x).toArray, .agg (numC y).toArray] w fun e w' => e = .returned (.tuple #[.agg (numC (x + y)).toArray, .int .i64 0]) ∧ Below w.heap.size w w' := by
  have h := W_Add x y hx hy w
  rwa [show overV (x + y) = .tuple #[.agg (numC (x + y)).toArray, .int .i64 0] from if_pos hxy] at h
theorem W_Sub_in (x y : Int) (hx : In128 x) (hy : In128 y) (hxy : In128 (x - y)) (w : World) : Calls Try.prog 32 #[.agg (numC x).toArray, .agg (numC y).toArray] w fun e w' => e = .returned (.tuple #[.agg (numC (x - y)).toArray, .int .i64 0]) ∧ Below w.heap.size w w' := by
  have h := W_Sub x y hx hy w
  rwa [show overV (x - y) = .tuple #[.agg (numC (x - y)).toArray, .int .i64 0] from if_pos hxy] at h
set_option maxHeartbeats 1000000 in
set_option maxRecDepth 100000 in
theorem V_sum (x y : Int) (hx : In128 x) (hy : In128 y) (hxy : In128 (x + y)) (w : World) : Calls Try.prog 37 #[.agg (numC x).toArray, .agg (numC y).toArray] w fun e w' => e = .returned (.agg (numC (x + y)).toArray) ∧ Below w.heap.size w w' := by
  have cA := kp (fun w' => W_Add_in x y hx hy hxy w')
  have hCl := numC_length (x + y)
  have HC1 := kp (numC_one (x + y))
  have H1 := kp (((Blk.new w 71 (numC x).toArray).alloc (.cells (numC y).toArray 71)).alloc (.cells #[.int .i64 0, .int .u64 0] 71))
  have H2 := kp ((Blk.new (w.alloc (.cells (numC x).toArray 71)) 71 (numC y).toArray).alloc (.cells #[.int .i64 0, .int .u64 0] 71))
  have H3 := kp (Blk.new ((w.alloc (.cells (numC x).toArray 71)).alloc (.cells (numC y).toArray 71)) 71 #[.int .i64 0, .int .u64 0])
  have HB := kp (ba (ba (ba (Below.refl w.heap.size w) (.cells (numC x).toArray 71)) (.cells (numC y).toArray 71)) (.cells #[.int .i64 0, .int .u64 0] 71))
  rw [size_all, size_all] at H3
  rw [size_all] at H2
  have hXl := numC_length x
  have hYl := numC_length y
  generalize numC (x + y) = C at *
  generalize numC x = X at *
  generalize numC y = Y at *
  clear hx hy hxy
  go_enter Try.func37, Try.ntmps37
  go_upto_region 1 with (fail)
  change Code.wp _ _ _ _ (((w.alloc (.cells X.toArray 71)).alloc (.cells Y.toArray 71)).alloc (.cells #[.int .i64 0, .int .u64 0] 71))
  generalize ((w.alloc (.cells X.toArray 71)).alloc (.cells Y.toArray 71)).alloc (.cells #[.int .i64 0, .int .u64 0] 71) = W at H1 H2 H3 HB ⊢
  have L1 := ld_all (P := Try.prog) w.heap.size 2 71 71 X _ Try.underlying71 rfl info_num hXl H1.out
  have L2 := ld_all (P := Try.prog) (w.heap.size + 1) 2 71 71 Y _ Try.underlying71 rfl info_num hYl H2.out
  go_upto_region 2 with (first | (refine wpL_load rfl 71 _ rfl rfl L1 ?_) | (refine wpL_load rfl 71 _ rfl rfl L2 ?_) | (go_at_call 34; refine (cA.out _).mono ?_; rintro e w1 ⟨rfl, hb1⟩; have SC := sc_new (P := Try.prog) w1 71 C HC1.out #[.int .i64 0, .int .u64 0] (by rw [hCl]; rfl)))
  change Code.wp _ _ _ _ (w1.alloc (.cells C.toArray 71))
  clear SC L1 L2
  have J3 := kp ((H3.out.bel hb1).alloc (.cells C.toArray 71))
  have J4 := kp (Blk.new w1 71 C.toArray)
  have JB := kp (ba (bt' HB.out hb1 HB.out.size) (.cells C.toArray 71))
  clear hb1
  generalize w1.alloc (.cells C.toArray 71) = U at J3 J4 JB ⊢
  generalize w1.heap.size = b4 at *
  have LC := ld_all (P := Try.prog) b4 2 71 71 C _ Try.underlying71 rfl info_num hCl J4.out
  have SC := sc_all (P := Try.prog) (w := U) (w.heap.size + 1 + 1) 71 C [.int .i64 0, .int .u64 0] J3.out (by rw [hCl]; rfl) HC1.out
  have HX := kp (J3.out.row C.toArray)
  have HBX := kp (bsr JB.out (show w.heap.size ≤ w.heap.size + 1 + 1 by omega) JB.out.size C.toArray)
  generalize U.setRow (w.heap.size + 1 + 1) C.toArray = U2 at SC HX HBX
  go_wp2_with (refine wpL_load rfl 71 _ rfl rfl LC ?_)
  refine bodyPost_ret (v := .agg C.toArray) ?_ rfl ⟨rfl, HBX.out⟩
  exact res_all Try.results37 (w.heap.size + 1 + 1) 2 _ _ _ Try.underlying71 rfl info_num hCl HX.out _ rfl
end Go.Proofs.Ytkknnnkbegigeaa
/- volley: how far a sample reaches (Within's inner function). -/
namespace Go.Proofs.Ytkknnnkbegigeaa
open Go Go.RowKit
set_option linter.unusedVariables false
set_option linter.unusedSimpArgs false
attribute [local go_sem] bmax2 bmin2 bmax bmin cell_ext frozen_ext

def In64 (n : Int) : Prop := -9223372036854775808 ≤ n ∧ n < 9223372036854775808
set_option maxHeartbeats 1000000 in
set_option maxRecDepth 100000 in
theorem V_far_up (n b : Int) (hn : In64 n) (hb : In64 b) (w : World) : Calls Try.prog 46 #[.int .i64 n, .int .i64 b, .bool true] w fun e w' => e = .returned (.agg (numC (n + b)).toArray) ∧ Below w.heap.size w w' := by
  have c1 := kp (fun w' => W_Of n hn.1 hn.2 w')
  have c2 := kp (fun w' => W_Of b hb.1 hb.2 w')
  unfold In64 at hn hb
  have cS := kp (fun w' => V_sum n b (by unfold In128; omega) (by unfold In128; omega) (by unfold In128; omega) w')
  have hCl := numC_length (n + b)
  have HC1 := kp (numC_one (n + b))
  generalize numC (n + b) = C at *
  have H6 := kp (Blk.new w 71 #[.int .i64 0, .int .u64 0])
  have HB := kp (ba (Below.refl w.heap.size w) (.cells #[.int .i64 0, .int .u64 0] 71))
  clear hn hb
  generalize numC n = X at *
  generalize numC b = Y at *
  go_enter Try.func46, Try.ntmps46
  go_wp2_with (first | (go_at_call 33; with_reducible refine (c1.out _).mono ?_; rintro e w1 ⟨rfl, hb1⟩) | (go_at_call 33; with_reducible refine (c2.out _).mono ?_; rintro e w2 ⟨rfl, hb2⟩) | (go_at_call 37; refine (cS.out _).mono ?_; rintro e w3 ⟨rfl, hb3⟩; have K6 := kp (((H6.out.bel hb1).bel hb2).bel hb3); have SC := sc_all (P := Try.prog) (w := w3) w.heap.size 71 C [.int .i64 0, .int .u64 0] K6.out (by rw [hCl]; rfl) HC1.out; have HX := kp (K6.out.row C.toArray); have e1 := bt' HB.out hb1 HB.out.size; have e2 := bt' e1 hb2 e1.size; have e3 := bt' e2 hb3 e2.size; have HBX := kp (bsr e3 (Nat.le_refl w.heap.size) e3.size C.toArray); clear e1 e2 e3 hb1 hb2 hb3 K6; generalize w3.setRow w.heap.size C.toArray = U2 at SC HX HBX))
  refine bodyPost_ret (v := .agg C.toArray) ?_ rfl ⟨rfl, HBX.out⟩
  exact res_all Try.results46 w.heap.size 2 _ _ _ Try.underlying71 rfl info_num hCl HX.out _ rfl
set_option maxHeartbeats 1000000 in
set_option maxRecDepth 100000 in
theorem V_far_down (n b : Int) (hn : In64 n) (hb : In64 b) (w : World) : Calls Try.prog 46 #[.int .i64 n, .int .i64 b, .bool false] w fun e w' => e = .returned (.agg (numC (n - b)).toArray) ∧ Below w.heap.size w w' := by
  have c1 := kp (fun w' => W_Of n hn.1 hn.2 w')
  have c2 := kp (fun w' => W_Of b hb.1 hb.2 w')
  unfold In64 at hn hb
  have cS := kp (fun w' => W_Sub_in n b (by unfold In128; omega) (by unfold In128; omega) (by unfold In128; omega) w')
  have hCl := numC_length (n - b)
  have HC1 := kp (numC_one (n - b))
  generalize numC (n - b) = C at *
  have H6 := kp (Blk.new w 71 #[.int .i64 0, .int .u64 0])
  have HB := kp (ba (Below.refl w.heap.size w) (.cells #[.int .i64 0, .int .u64 0] 71))
  clear hn hb
  generalize numC n = X at *
  generalize numC b = Y at *
  go_enter Try.func46, Try.ntmps46
  go_upto_region 4 with (first | (go_at_call 33; with_reducible refine (c1.out _).mono ?_; rintro e w1 ⟨rfl, hb1⟩) | (go_at_call 33; with_reducible refine (c2.out _).mono ?_; rintro e w2 ⟨rfl, hb2⟩) | (go_at_call 32; refine (cS.out _).mono ?_; rintro e w3 ⟨rfl, hb3⟩; have SC := sc_new (P := Try.prog) w3 71 C HC1.out #[.int .i64 0, .int .u64 0] (by rw [hCl]; rfl)))
  change Code.wp _ _ _ _ (w3.alloc (.cells C.toArray 71))
  clear SC
  have J6 := kp ((((H6.out.bel hb1).bel hb2).bel hb3).alloc (.cells C.toArray 71))
  have J7 := kp (Blk.new w3 71 C.toArray)
  have e1 := bt' HB.out hb1 HB.out.size
  have e2 := bt' e1 hb2 e1.size
  have e3 := bt' e2 hb3 e2.size
  have JB := kp (ba e3 (.cells C.toArray 71))
  clear e1 e2 e3 hb1 hb2 hb3
  generalize w3.alloc (.cells C.toArray 71) = U at J6 J7 JB ⊢
  generalize w3.heap.size = b7 at *
  have LC := ld_all (P := Try.prog) b7 2 71 71 C _ Try.underlying71 rfl info_num hCl J7.out
  have SC := sc_all (P := Try.prog) (w := U) w.heap.size 71 C [.int .i64 0, .int .u64 0] J6.out (by rw [hCl]; rfl) HC1.out
  have HX := kp (J6.out.row C.toArray)
  have HBX := kp (bsr JB.out (Nat.le_refl w.heap.size) JB.out.size C.toArray)
  generalize U.setRow w.heap.size C.toArray = U2 at SC HX HBX
  go_wp2_with (refine wpL_load rfl 71 _ rfl rfl LC ?_)
  refine bodyPost_ret (v := .agg C.toArray) ?_ rfl ⟨rfl, HBX.out⟩
  exact res_all Try.results46 w.heap.size 2 _ _ _ Try.underlying71 rfl info_num hCl HX.out _ rfl
end Go.Proofs.Ytkknnnkbegigeaa
/- stamp.Since; drift.New. -/
namespace Go.Proofs.Ytkknnnkbegigeaa
open Go Go.RowKit
set_option linter.unusedVariables false
set_option linter.unusedSimpArgs false
attribute [local go_sem] bmax2 bmin2 bmax bmin cell_ext frozen_ext

instance (x : Int) : Decidable (In64 x) := inferInstanceAs (Decidable (_ ∧ _))
/-- what Int answers -/
def intV (x : Int) : Int := if In64 x then x else 0
def intE (x : Int) : Int := if In64 x then 0 else 6
theorem W_Int_of (x : Int) (h : In128 x) (w : World) : Calls Try.prog 30 #[.agg (numC x).toArray] w fun e w' => e = .returned (.tuple #[.int .i64 (intV x), .int .i64 (intE x)]) ∧ Below w.heap.size w w' := by
  have h2 := W_Int x h.1 h.2 w
  have e : (if -9223372036854775808 ≤ x ∧ x < 9223372036854775808 then #[Value.int .i64 x, .int .i64 0] else #[.int .i64 0, .int .i64 6]) = #[Value.int .i64 (intV x), .int .i64 (intE x)] := by
    unfold intV intE
    by_cases g : In64 x
    · rw [if_pos g, if_pos g, if_pos (show -9223372036854775808 ≤ x ∧ x < 9223372036854775808 from g)]
    · rw [if_neg g, if_neg g, if_neg (show ¬ (-9223372036854775808 ≤ x ∧ x < 9223372036854775808) from g)]
  rwa [e] at h2
theorem intV0 (x : Int) : In64 (intV x) := by unfold intV; split; assumption; unfold In64; omega
set_option maxHeartbeats 1000000 in
set_option maxRecDepth 100000 in
theorem S_Since (x y : Int) (hx : In128 x) (hy : In128 y) (hxy : In128 (x - y)) (w : World) : Calls Try.prog 57 #[.agg (numC x).toArray, .agg (numC y).toArray] w fun e w' => e = .returned (.tuple #[.int .i64 (intV (x - y)), .int .i64 (intE (x - y))]) ∧ Below w.heap.size w w' := by
  have cA := kp (fun w' => W_Sub_in x y hx hy hxy w')
  have cI := kp (fun w' => W_Int_of (x - y) hxy w')
  have hCl := numC_length (x - y)
  have HC1 := kp (numC_one (x - y))
  have H1 := kp ((Blk.new w 71 (numC x).toArray).alloc (.cells (numC y).toArray 71))
  have H2 := kp (Blk.new (w.alloc (.cells (numC x).toArray 71)) 71 (numC y).toArray)
  have HB := kp (ba (ba (Below.refl w.heap.size w) (.cells (numC x).toArray 71)) (.cells (numC y).toArray 71))
  rw [size_all] at H2
  have hXl := numC_length x
  have hYl := numC_length y
  generalize intV (x - y) = v at *
  generalize intE (x - y) = er at *
  generalize numC (x - y) = C at *
  generalize numC x = X at *
  generalize numC y = Y at *
  clear hx hy hxy
  go_enter Try.func57, Try.ntmps57
  go_upto_region 1 with (fail)
  change Code.wp _ _ _ _ ((w.alloc (.cells X.toArray 71)).alloc (.cells Y.toArray 71))
  generalize (w.alloc (.cells X.toArray 71)).alloc (.cells Y.toArray 71) = W at H1 H2 HB ⊢
  have L1 := ld_all (P := Try.prog) w.heap.size 2 71 71 X _ Try.underlying71 rfl info_num hXl H1.out
  have L2 := ld_all (P := Try.prog) (w.heap.size + 1) 2 71 71 Y _ Try.underlying71 rfl info_num hYl H2.out
  go_upto_region 2 with (first | (refine wpL_load rfl 71 _ rfl rfl L1 ?_) | (refine wpL_load rfl 71 _ rfl rfl L2 ?_) | (go_at_call 32; refine (cA.out _).mono ?_; rintro e w1 ⟨rfl, hb1⟩; have SC := sc_new (P := Try.prog) w1 71 C HC1.out #[.int .i64 0, .int .u64 0] (by rw [hCl]; rfl)))
  change Code.wp _ _ _ _ (w1.alloc (.cells C.toArray 71))
  clear SC L1 L2
  have J4 := kp (Blk.new w1 71 C.toArray)
  have JB := kp (ba (bt' HB.out hb1 HB.out.size) (.cells C.toArray 71))
  clear hb1
  generalize w1.alloc (.cells C.toArray 71) = U at J4 JB ⊢
  generalize w1.heap.size = b4 at *
  have LC := ld_all (P := Try.prog) b4 2 71 71 C _ Try.underlying71 rfl info_num hCl J4.out
  go_wp2_with (first | (refine wpL_load rfl 71 _ rfl rfl LC ?_) | (go_at_call 30; refine (cI.out _).mono ?_; rintro e w2 ⟨rfl, hb2⟩))
  go_ret2
  exact ⟨rfl, bt' JB.out hb2 JB.out.size⟩
/-- a clock's cells -/
def clkC (a b c : Int) : List Value := [.int .i64 a, .int .i64 b, .int .i64 c]
theorem info_clk : (Try.prog.info? 63).map (·.size) = some 3 := by kernel_rfl
set_option maxHeartbeats 1000000 in
set_option maxRecDepth 100000 in
theorem D_New (a b r : Int) (hr : -100000000 ≤ r ∧ r ≤ 100000000) (w : World) : Calls Try.prog 26 #[.int .i64 a, .int .i64 b, .int .i64 r] w fun e w' => e = .returned (.tuple #[.agg (clkC a b r).toArray, .int .i64 0]) ∧ Below w.heap.size w w' := by
  have g1 : -100000000 ≤ r := hr.1
  have g2 : r ≤ 100000000 := hr.2
  clear hr
  go_enter Try.func26, Try.ntmps26
  go_wp2
  refine bodyPost_ret (v := .tuple #[.agg (clkC a b r).toArray, .int .i64 0]) ?_ rfl ⟨rfl, ?_⟩
  · exact res2 Try.results26 w.heap.size 3 _ _ _ Try.underlying63 rfl info_clk rfl (Blk.new w 63 (clkC a b r).toArray) _ rfl _ rfl
  · exact ba (Below.refl _ _) _
end Go.Proofs.Ytkknnnkbegigeaa
/- volley: Round's inner functions; may. -/
namespace Go.Proofs.Ytkknnnkbegigeaa
open Go Go.RowKit
set_option linter.unusedVariables false
set_option linter.unusedSimpArgs false
attribute [local go_sem] bmax2 bmin2 bmax bmin cell_ext frozen_ext

set_option maxHeartbeats 1000000 in
set_option maxRecDepth 100000 in
theorem V_less (n b : Int) (hn : In64 n) (hb : In64 b) (w : World) : Calls Try.prog 31 #[.int .i64 n, .int .i64 b] w fun e w' => e = .returned (.agg (numC (n - b)).toArray) ∧ Below w.heap.size w w' := by
  have c1 := kp (fun w' => W_Of n hn.1 hn.2 w')
  have c2 := kp (fun w' => W_Of b hb.1 hb.2 w')
  unfold In64 at hn hb
  have cS := kp (fun w' => W_Sub_in n b (by unfold In128; omega) (by unfold In128; omega) (by unfold In128; omega) w')
  have hCl := numC_length (n - b)
  have HC1 := kp (numC_one (n - b))
  generalize numC (n - b) = C at *
  have H6 := kp (Blk.new w 71 #[.int .i64 0, .int .u64 0])
  have HB := kp (ba (Below.refl w.heap.size w) (.cells #[.int .i64 0, .int .u64 0] 71))
  clear hn hb
  generalize numC n = X at *
  generalize numC b = Y at *
  go_enter Try.func31, Try.ntmps31
  go_upto_region 2 with (first | (go_at_call 33; with_reducible refine (c1.out _).mono ?_; rintro e w1 ⟨rfl, hb1⟩) | (go_at_call 33; with_reducible refine (c2.out _).mono ?_; rintro e w2 ⟨rfl, hb2⟩) | (go_at_call 32; refine (cS.out _).mono ?_; rintro e w3 ⟨rfl, hb3⟩; have SC := sc_new (P := Try.prog) w3 71 C HC1.out #[.int .i64 0, .int .u64 0] (by rw [hCl]; rfl)))
  change Code.wp _ _ _ _ (w3.alloc (.cells C.toArray 71))
  clear SC
  have J6 := kp ((((H6.out.bel hb1).bel hb2).bel hb3).alloc (.cells C.toArray 71))
  have J7 := kp (Blk.new w3 71 C.toArray)
  have e1 := bt' HB.out hb1 HB.out.size
  have e2 := bt' e1 hb2 e1.size
  have e3 := bt' e2 hb3 e2.size
  have JB := kp (ba e3 (.cells C.toArray 71))
  clear e1 e2 e3 hb1 hb2 hb3
  generalize w3.alloc (.cells C.toArray 71) = U at J6 J7 JB ⊢
  generalize w3.heap.size = b7 at *
  have LC := ld_all (P := Try.prog) b7 2 71 71 C _ Try.underlying71 rfl info_num hCl J7.out
  have SC := sc_all (P := Try.prog) (w := U) w.heap.size 71 C [.int .i64 0, .int .u64 0] J6.out (by rw [hCl]; rfl) HC1.out
  have HX := kp (J6.out.row C.toArray)
  have HBX := kp (bsr JB.out (Nat.le_refl w.heap.size) JB.out.size C.toArray)
  generalize U.setRow w.heap.size C.toArray = U2 at SC HX HBX
  go_wp2_with (refine wpL_load rfl 71 _ rfl rfl LC ?_)
  refine bodyPost_ret (v := .agg C.toArray) ?_ rfl ⟨rfl, HBX.out⟩
  exact res_all Try.results31 w.heap.size 2 _ _ _ Try.underlying71 rfl info_num hCl HX.out _ rfl
theorem V_may (r : Int) (w : World) : Calls Try.prog 28 #[.int .i64 r] w fun e w' => e = .returned (.bool (decide (0 ≤ r ∧ r ≤ 100000000))) ∧ w' = w := by
  by_cases h0 : 0 ≤ r
  · by_cases h1 : r ≤ 100000000
    · rw [decide_eq_true ⟨h0, h1⟩]
      go_enter Try.func28, Try.ntmps28
      go_wp2
      go_ret
      exact ⟨rfl, rfl⟩
    · rw [decide_eq_false (fun h => h1 h.2)]
      go_enter Try.func28, Try.ntmps28
      go_wp2
      go_ret
      exact ⟨rfl, rfl⟩
  · rw [decide_eq_false (fun h => h0 h.1)]
    go_enter Try.func28, Try.ntmps28
    go_wp2
    go_ret
    exact ⟨rfl, rfl⟩
end Go.Proofs.Ytkknnnkbegigeaa
/- volley: Round's 'fit'. -/
namespace Go.Proofs.Ytkknnnkbegigeaa
open Go Go.RowKit
set_option linter.unusedVariables false
set_option linter.unusedSimpArgs false
attribute [local go_sem] bmax2 bmin2 bmax bmin cell_ext frozen_ext

theorem grown_of_bel {w w' : World} (h : Below w.heap.size w w') (row : Option Nat) : w.grownBy w' row := ⟨h.os, h.tape, h.output, h.size, fun k hk _ => h.block k hk⟩
theorem grown_trans {w w1 w2 : World} {row : Option Nat} (h : w.grownBy w1 row) (g : w1.grownBy w2 row) : w.grownBy w2 row := ⟨g.os.trans h.os, g.tape.trans h.tape, g.output.trans h.output, Nat.le_trans h.size g.size, fun k hk hr => (g.block k (Nat.lt_of_lt_of_le hk h.size) hr).trans (h.block k hk hr)⟩
theorem grown_set {w w1 : World} {b : Nat} (h : w.grownBy w1 (some b)) (v : Value) : w.grownBy (w1.setCell ⟨b, 0, none⟩ v) (some b) := by
  refine grown_trans h ⟨?_, ?_, ?_, ?_, fun k hk hr => Below.heap_setCell w1 ⟨b, 0, none⟩ v k (fun e => hr (by rw [e]))⟩ <;> simp [World.setCell]
set_option maxHeartbeats 1000000 in
set_option maxRecDepth 100000 in
theorem V_fit (x : Int) (hx : In128 x) (b : Nat) (f : Int) (w : World) (H : Blk w b 25 ([.int .i64 f] : List Value).toArray) : Calls Try.prog 29 #[.agg (numC x).toArray, .pointer (some ⟨b, 0, none⟩)] w fun e w' => e = .returned (.int .i64 (intV x)) ∧ w.grownBy w' (some b) ∧ Blk w' b 25 ([.int .i64 (if f = 0 then intE x else f)] : List Value).toArray := by
  have cI := kp (fun w' => W_Int_of x hx w')
  have hXl := numC_length x
  obtain ⟨r, hr⟩ : ∃ r, (if f = 0 then intE x else f) = r := ⟨_, rfl⟩
  rw [hr]
  have HR := kp hr
  clear hr hx
  generalize intV x = v at *
  generalize intE x = er at *
  generalize numC x = X at *
  have H1 := kp (Blk.new w 71 X.toArray)
  have HF := kp (H.alloc (.cells X.toArray 71))
  have HB := kp (ba (Below.refl w.heap.size w) (.cells X.toArray 71))
  clear H
  go_enter Try.func29, Try.ntmps29
  go_upto_region 1 with (fail)
  change Code.wp _ _ _ _ (w.alloc (.cells X.toArray 71))
  generalize w.alloc (.cells X.toArray 71) = W at H1 HF HB ⊢
  have L1 := ld_all (P := Try.prog) w.heap.size 2 71 71 X _ Try.underlying71 rfl info_num hXl H1.out
  go_upto_region 2 with (first | (refine wpL_load rfl 71 _ rfl rfl L1 ?_) | (go_at_call 30; refine (cI.out _).mono ?_; rintro e w1 ⟨rfl, hb1⟩))
  clear L1
  have KF := kp (HF.out.bel hb1)
  have KG := kp (grown_of_bel (bt' HB.out hb1 HB.out.size) (some b))
  clear hb1 HF HB H1
  have f0 := KF.out.atL (show ([.int .i64 f] : List Value)[0]? = some (.int .i64 f) from rfl)
  have kl := KF.out.lt
  have fz := KF.out.frozen 0
  by_cases h : f = 0
  · have e := HR.out
    rw [if_pos h] at e
    subst e
    have g : (f == 0) = true := by simp [h]
    have g2 : (f != 0) = false := by simp [h]
    have J1 := kp (KF.out.setL 0 (.int .i64 er))
    have J2 := kp (grown_set KG.out (.int .i64 er))
    go_wp2
    go_ret
    exact ⟨rfl, J2.out, J1.out⟩
  · have e := HR.out
    rw [if_neg h] at e
    subst e
    have g : (f == 0) = false := by simp [h]
    have g2 : (f != 0) = true := by simp [h]
    go_wp2
    go_ret
    exact ⟨rfl, KG.out, KF.out⟩
end Go.Proofs.Ytkknnnkbegigeaa
/- a drawing region with makers, some of whose plain operations (E) may come behind the tail's first ones: these are taken as soon as they may be -/
namespace Go.Proofs.Ytkknnnkbegigeaa
open Go Go.RowKit
set_option linter.unusedVariables false
set_option linter.unusedSimpArgs false
section
variable {P : Program} {ops : Array Oper} {md : Region.Mode}

def earlyB : Op → Bool
  | .move _ | .assign _ | .extract .. | .pick .. => true
  | _ => false
theorem early_all {o : Oper} {a : Act} {W : World} {v : Value} {C : World → Prop} (he : earlyB o.op = true) (h : o.quietAt P a C W v) : ∀ w, (execOp a.eval o).run P w = .ok (.value v) w := by
  intro w
  unfold Oper.quietAt execOp at h
  unfold execOp
  cases ho : o.op <;> rw [ho] at he h <;> first
    | (simp [earlyB] at he; done)
    | skip
  case extract t ix =>
    simp only [Sem.run_pure, Sem.run_bind, Oper.quietUpon] at h ⊢
    cases ht : a.eval t <;> rw [ht] at h <;> simp only [Instr.extract] at h ⊢ <;> first
      | (simp [Result.andThen] at h; done)
      | skip
    all_goals
      rename_i vs
      cases hx : vs[ix]? <;> simp [hx, Result.andThen] at h ⊢
      exact h
  case pick c x y =>
    simp only [Sem.run_pure, Sem.run_bind, Oper.quietUpon] at h ⊢
    cases hc : a.eval c <;> rw [hc] at h <;> simp only [asBool] at h ⊢ <;> first
      | (simp [Result.andThen] at h; done)
      | skip
    simp only [Sem.run_pure, Result.andThen_ok] at h ⊢
    rw [h.2]
  all_goals
    simp only [Sem.run_pure, Sem.run_bind, Oper.quietUpon] at h ⊢
    rw [h.2]
/-- apart from all that may come up beside it -/
def Region.freeE (md : Region.Mode) (ops : Array Oper) (i : Nat) : Bool :=
  match ops[i]? with
  | none => false
  | some oi => (List.range ops.size).all fun j => j == i || Region.waitsFor md ops i j || match ops[j]? with
      | some oj => oj.after.any (fun e => Region.binds md e && e.on == i) || oi.apart ops oj
      | none => true
theorem free_any {i : Nat} {listed : Array Bool} (hr : i ∈ Region.ready md ops listed) (h : Region.freeE md ops i = true) : Region.free md ops listed i = true := by
  obtain ⟨_, oi', hoi', hall⟩ := mem_ready.1 hr
  unfold Region.freeE at h
  unfold Region.free
  split at h
  · cases h
  · rename_i oi hoi
    rw [hoi]
    simp only
    rw [List.all_eq_true] at h ⊢
    intro j hj
    have h1 := h j hj
    simp only [Bool.or_eq_true] at h1 ⊢
    rcases h1 with (h1 | h1) | h1
    · exact Or.inl (Or.inl h1)
    · obtain ⟨o', ho', e, he, hb, hon⟩ := Region.waitsFor_spec h1
      have : o' = oi' := Option.some.inj (ho'.symm.trans hoi')
      subst this
      have h2 := hall e he hb
      rw [hon] at h2
      refine Or.inl (Or.inr ?_)
      cases hl : listed.getD j true with
      | true => rfl
      | false => rw [getD_both hl] at h2; cases h2
    · exact Or.inr h1

def Region.sinkE (md : Region.Mode) (ops : Array Oper) (E ord : List Nat) (n : Nat) : Bool :=
  (List.range n).all fun x => E.contains (ord.getD x 0) || (List.range (n + 1)).any fun y => decide (x < y) && (decide (y = n) || !E.contains (ord.getD y 0)) && Region.waitsFor md ops (ord.getD y 0) (ord.getD x 0)
theorem tail_waitsE {E ord : List Nat} {n : Nat} {listed : Array Bool} (hs : Region.sinkE md ops E ord n = true) (hc : Region.chainI md ops ord n = true) (hn : n < ord.length) (inv : HeadI md ops ord n listed) :
    ∀ (d x : Nat), n - x = d → x < n → ord.getD x 0 ∉ E → listed.getD (ord.getD x 0) true = false → ∀ y, n ≤ y → y < ord.length → ord.getD y 0 ∉ Region.ready md ops listed := by
  intro d
  induction d using Nat.strongRecOn with
  | _ d ih =>
    intro x hd hx hxE hun y hy hyl hr
    obtain ⟨_, ot, hot, hall⟩ := mem_ready.1 hr
    by_cases hyn : y = n
    · subst hyn
      have h1 := List.all_eq_true.1 hs x (List.mem_range.2 hx)
      rw [Bool.or_eq_true] at h1
      replace h1 := h1.resolve_left (by simpa using hxE)
      obtain ⟨z, hz, hz2⟩ := List.any_eq_true.1 h1
      simp only [Bool.and_eq_true, decide_eq_true_eq] at hz2
      obtain ⟨oj, hoj, e, he, hb, hon⟩ := Region.waitsFor_spec hz2.2
      have hz3 := hz2.1.2
      simp only [Bool.or_eq_true, decide_eq_true_eq] at hz3
      replace hz2 : x < z ∧ True := ⟨hz2.1.1, trivial⟩
      have hzle : z ≤ y := by have := List.mem_range.1 hz; omega
      by_cases hzy : z = y
      · subst hzy
        have : oj = ot := Option.some.inj (hoj.symm.trans hot)
        subst this
        have h2 := hall e he hb
        rw [hon, getD_both hun] at h2
        cases h2
      · cases hl : listed.getD (ord.getD z 0) false with
        | true =>
          have h2 := inv.closed _ oj hoj hl e he hb
          rw [hon, getD_both hun] at h2
          cases h2
        | false =>
          have hjs : ord.getD z 0 < listed.size := by rw [inv.size]; exact inv.inb z (by omega)
          exact ih (y - z) (by omega) z rfl (by omega) (by have := hz3.resolve_left hzy; simpa using this) (getD_in hjs hl) y (Nat.le_refl _) hyl hr
    · have h1 := List.all_eq_true.1 hc y (List.mem_range.2 hyl)
      simp only [Bool.or_eq_true, decide_eq_true_eq] at h1
      rcases h1 with h1 | h1
      · omega
      · obtain ⟨o', ho', e, he, hb, hon⟩ := Region.waitsFor_spec h1
        have : o' = ot := Option.some.inj (ho'.symm.trans hot)
        subst this
        have h2 := hall e he hb
        rw [hon, getD_both (inv.tail (y - 1) (by omega) (by omega))] at h2
        cases h2


theorem ready_some {ord : List Nat} {listed : Array Bool} (ht : Region.topB md ops ord = true) (hin : ∀ x, x < ord.length → ord.getD x 0 < ops.size) (hsz : listed.size = ops.size) {x : Nat} (hx : x < ord.length) (hu : listed.getD (ord.getD x 0) true = false) : ∃ y, y < ord.length ∧ listed.getD (ord.getD y 0) true = false ∧ ord.getD y 0 ∈ Region.ready md ops listed := by
  induction x using Nat.strongRecOn with
  | _ x ih =>
    by_cases hall : ∀ y, y < x → listed.getD (ord.getD y 0) true = true
    · refine ⟨x, hx, hu, ?_⟩
      refine mem_ready.2 ⟨hu, _, getD_some (hin x hx), fun e he hb => ?_⟩
      have h1 := List.all_eq_true.1 ht x (List.mem_range.2 hx)
      have h2 := Array.all_eq_true'.1 h1 e he
      rw [hb] at h2
      simp only [Bool.not_true, Bool.false_or, List.contains_eq_mem, decide_eq_true_eq] at h2
      obtain ⟨y, hy, hye⟩ := List.mem_iff_getElem.1 h2
      have hyx : y < x := by rw [List.length_take] at hy; omega
      have hl := hall y hyx
      have e1 : ord.getD y 0 = e.on := by
        rw [List.getElem_take] at hye
        rw [List.getD_eq_getElem?_getD, List.getElem?_eq_getElem (by omega)]
        exact hye
      rw [e1] at hl
      have hes : e.on < listed.size := by rw [hsz, ← e1]; exact hin y (by omega)
      simp [hes] at hl ⊢
      exact hl
    · simp only [Classical.not_forall] at hall
      obtain ⟨y, hy, hn⟩ := hall
      exact ih y hy (by omega) (by simpa using hn)
theorem wpAny_mkE {Q : Exit → Act → World → Prop} {a A : Act} {w : World} {E h k t : List Nat} {V : Nat → Value → World → Prop} {N : Value → Value → Prop} (hsel : Region.noSelect ops = true) (hnd : ((h ++ k) ++ t).Nodup)
    (hEh : ∀ e ∈ E, e ∈ h) (hEp : ∀ e ∈ E, earlyB (ops.getD e default).op = true) (hEf : ∀ e ∈ E, Region.freeE md ops e = true) (hQ : ∀ c (a : Act) d v w, Q (.panic c) (a.put d v) w → Q (.panic c) a w) (hs : Region.sinkE md ops E ((h ++ k) ++ t) (h ++ k).length = true) (hc : Region.chainI md ops ((h ++ k) ++ t) (h ++ k).length = true) (ht0 : 0 < t.length) (htop : Region.topB md ops (h ++ k) = true) (hin : ∀ x, x < ((h ++ k) ++ t).length → ((h ++ k) ++ t).getD x 0 < ops.size)
    (hmk : Region.mkB md ops h k = true) (hdist : distB a.tmps.size (selOps ops (h ++ k)) = true) (hlex : LexX P ops w A (selOps ops h) a) (hk : ∀ i ∈ k, MkAt P ops (ops.getD i default) A w (V i) V N)
    (hV : ∀ i v W W', V i v W → Below W.heap.size W W' → V i v W')
    (hL : ∀ listed a' W, HeadI md ops ((h ++ k) ++ t) (h ++ k).length listed → (∀ i ∈ h ++ k, listed.getD i true = true) → InvM ops a A w h k V N listed a' W → wpAny P md ops Q t.length listed a' W) :
    ∀ (f : Nat) (listed : Array Bool) (a' : Act) (W : World), unl (h ++ k) listed = f → HeadI md ops ((h ++ k) ++ t) (h ++ k).length listed → InvM ops a A w h k V N listed a' W → wpAny P md ops Q (f + t.length) listed a' W := by
  have hn : (h ++ k).length < ((h ++ k) ++ t).length := by rw [@List.length_append Nat (h ++ k) t]; omega
  have hord : ∀ x, x < (h ++ k).length → ((h ++ k) ++ t).getD x 0 = (h ++ k).getD x 0 := fun x hx => by
    rw [List.getD_eq_getElem?_getD, List.getElem?_append_left hx, ← List.getD_eq_getElem?_getD]
  have hin' : ∀ x, x < (h ++ k).length → (h ++ k).getD x 0 < ops.size := fun x hx => by rw [← hord x hx]; exact hin x (by omega)
  simp only [Region.mkB, Bool.and_eq_true] at hmk
  obtain ⟨mk1, mk2⟩ := hmk
  have hdh : distB a.tmps.size (selOps ops h) = true := by
    simp only [distB, Bool.and_eq_true, decide_eq_true_eq] at hdist ⊢
    unfold selOps at hdist ⊢
    rw [List.map_append, List.map_append, List.all_append, Bool.and_eq_true] at hdist
    exact ⟨hdist.1.1, (List.nodup_append.1 hdist.2).1⟩
  intro f
  induction f with
  | zero =>
    intro listed a' W hu inv iv
    rw [Nat.zero_add]
    exact hL listed a' W inv (unl_zero hu) iv
  | succ f ih =>
    intro listed a' W hu inv iv
    rw [show f + 1 + t.length = (f + t.length) + 1 by omega]
    obtain ⟨x, hx, hxu⟩ : ∃ x, x < (h ++ k).length ∧ listed.getD ((h ++ k).getD x 0) true = false := by
      have hne : ((h ++ k).filter fun i => !listed.getD i true) ≠ [] := fun e => by unfold unl at hu; rw [e] at hu; cases hu
      obtain ⟨y, hy⟩ := List.exists_mem_of_ne_nil _ hne
      rw [List.mem_filter] at hy
      obtain ⟨x, hx, he⟩ := List.mem_iff_getElem.1 hy.1
      exact ⟨x, hx, by rw [List.getD_eq_getElem?_getD, List.getElem?_eq_getElem hx]; simp only [Option.getD_some]; rw [he]; simpa using hy.2⟩
    obtain ⟨x0, hx0, hx0u, hx0r⟩ := ready_some htop hin' inv.size hx hxu
    have NEXT : ∀ i, i ∈ Region.ready md ops listed → i ∈ h ++ k → ∀ {d v W'}, (ops.getD i default).dst = some d → Below W.heap.size W W' → (i ∈ h → A.tmps[d]? = some v) → (i ∈ k → V i v W') → (i ∈ k → ∀ j u, V j u W → N v u ∧ N u v) → wpAny P md ops Q (f + t.length) (listed.setIfInBounds i true) (a'.put (some d) v) W' := by
      intro i hi him d v W' hd hW h1 h2 h3
      obtain ⟨hiu, oi, hoi, hdep⟩ := mem_ready.1 hi
      have hlt : i < ops.size := (Array.getElem?_eq_some_iff.1 hoi).1
      have ho : oi = ops.getD i default := by
        have := getD_some hlt
        rw [hoi] at this; exact Option.some.inj this
      subst ho
      obtain ⟨z, hz, hzi⟩ := inv.all i hlt hiu
      have hzn : z < (h ++ k).length := by
        rcases Nat.lt_or_ge z (h ++ k).length with h1 | h1
        · exact h1
        · exfalso
          obtain ⟨q, hq, hqi⟩ := List.mem_iff_getElem.1 him
          have e1 : ((h ++ k) ++ t).getD q 0 = i := by rw [hord q hq, List.getD_eq_getElem?_getD, List.getElem?_eq_getElem hq]; exact hqi
          have hq' : q < ((h ++ k) ++ t).length := by omega
          rw [List.getD_eq_getElem?_getD, List.getElem?_eq_getElem hz, Option.getD_some] at hzi
          rw [List.getD_eq_getElem?_getD, List.getElem?_eq_getElem hq', Option.getD_some] at e1
          have := (List.getElem_inj hnd).1 (hzi.trans e1.symm)
          omega

      refine ih _ _ _ ?_ ?_ (iv.step hdist hV him hiu hd hW h1 h2 h3)
      · have := unl_set (List.nodup_append.1 hnd).1 him hiu
        omega
      · have := inv.set hnd hz (hzi.symm ▸ hi) hzn
        rw [hzi] at this
        exact this
    have GET : ∀ i, i ∈ Region.ready md ops listed → i ∈ h → ∃ d v, (ops.getD i default).dst = some d ∧ A.tmps[d]? = some v ∧ ((Region.wanted (ops.getD i default) (yielded ops a'.tmps) = true ∧ YX P (ops.getD i default) a' w v) ∨ (Region.wanted (ops.getD i default) (yielded ops a'.tmps) = false ∧ v = undef)) := by
      intro i hi hih
      obtain ⟨hiu, oi, hoi, hdep⟩ := mem_ready.1 hi
      have hlt : i < ops.size := (Array.getElem?_eq_some_iff.1 hoi).1
      have ho : oi = ops.getD i default := by
        have := getD_some hlt
        rw [hoi] at this; exact Option.some.inj this
      subst ho
      obtain ⟨z, hz, hzi⟩ := inv.all i hlt hiu
      have listedOf : ∀ j, Region.waitsFor md ops i j = true → listed.getD j false = true := fun j hj => by
        obtain ⟨oj, hoj, e, he, hb, hon⟩ := Region.waitsFor_spec hj
        have : oj = ops.getD i default := Option.some.inj (hoj.symm.trans hoi)
        subst this
        rw [← hon]; exact hdep e he hb
      have unlistedOf : ∀ j, Region.waitsFor md ops j i = true → listed.getD j false = false := fun j hj => by
        obtain ⟨oj, hoj, e, he, hb, hon⟩ := Region.waitsFor_spec hj
        cases hl : listed.getD j false with
        | false => rfl
        | true =>
          have := inv.closed j oj hoj hl e he hb
          rw [hon, getD_both hiu] at this
          cases this
      obtain ⟨p, hp, hpi⟩ := List.mem_iff_getElem.1 hih
      have hpg : h.getD p 0 = i := by rw [List.getD_eq_getElem?_getD, List.getElem?_eq_getElem hp]; exact hpi
      have hag : ∀ s ∈ (ops.getD i default).looksAt ops, a'.tmps[s]? = if ∃ x ∈ (selOps ops h).take p, x.dst = some s then A.tmps[s]? else a.tmps[s]? := fun s hs' => by
        have m := List.all_eq_true.1 (List.all_eq_true.1 mk1 p (List.mem_range.2 hp)) s (by rw [hpg]; exact hs')
        rw [Bool.and_eq_true] at m
        split
        · rename_i hx
          obtain ⟨o, ho, hos⟩ := hx
          obtain ⟨q, hq, hqo⟩ := List.mem_iff_getElem.1 ho
          have hq1 : q < p := by rw [List.length_take] at hq; omega
          have hq2 : q < h.length := by omega
          have hoq : o = ops.getD (h.getD q 0) default := by
            rw [← hqo, List.getElem_take]
            unfold selOps
            rw [List.getElem_map, List.getD_eq_getElem?_getD, List.getElem?_eq_getElem hq2]; rfl
          have m1 := List.all_eq_true.1 m.1 q (List.mem_range.2 hq2)
          rw [← hoq, hos] at m1
          simp only [bne_self_eq_false, Bool.false_or, hq1, if_true, hpg] at m1
          exact iv.hv (h.getD q 0) (by rw [List.getD_eq_getElem?_getD, List.getElem?_eq_getElem hq2]; exact List.getElem_mem _) (listedOf _ m1) s (by rw [← hoq]; exact hos)
        · rename_i hx
          refine iv.old s fun j hj hjs => ?_
          rcases List.mem_append.1 hj with hj | hj
          · obtain ⟨q, hq, hqj⟩ := List.mem_iff_getElem.1 hj
            have hqg : h.getD q 0 = j := by rw [List.getD_eq_getElem?_getD, List.getElem?_eq_getElem hq]; exact hqj
            have m1 := List.all_eq_true.1 m.1 q (List.mem_range.2 hq)
            rw [hqg, hjs] at m1
            by_cases hqp : q < p
            · exfalso
              refine hx ⟨ops.getD j default, ?_, hjs⟩
              refine List.mem_iff_getElem.2 ⟨q, by unfold selOps; simp; omega, ?_⟩
              rw [List.getElem_take]
              unfold selOps
              rw [List.getElem_map, hqj]
            · simp only [bne_self_eq_false, Bool.false_or, hqp, if_false, Bool.or_eq_true, beq_iff_eq, hpg] at m1
              rcases m1 with e | m1
              · subst e
                have : j = i := by rw [← hqj, hpi]
                subst this; exact getD_both hiu
              · exact unlistedOf j m1
          · have m2 := List.all_eq_true.1 m.2 j hj
            rw [hjs, hpg] at m2
            simp only [bne_self_eq_false, Bool.false_or] at m2
            exact unlistedOf j m2
      exact LexX.get (selOps ops h) a hdh hlex p (ops.getD i default) (by unfold selOps; rw [List.getElem?_map, List.getElem?_eq_getElem hp, hpi]; rfl) (fun cs b => Region.noSelect_spec hsel i _ cs b hoi) a' hag
    by_cases hE : ∃ e ∈ E, e ∈ Region.ready md ops listed
    · obtain ⟨i, hiE, hi⟩ := hE
      have hih := hEh i hiE
      have him : i ∈ h ++ k := List.mem_append.2 (Or.inl hih)
      have hno : i ∈ k → False := fun hk' => by
        have := (List.nodup_append.1 (List.nodup_append.1 hnd).1).2.2 i hih i hk'
        exact this rfl
      obtain ⟨hiu, oi, hoi, hdep⟩ := mem_ready.1 hi
      have hlt : i < ops.size := (Array.getElem?_eq_some_iff.1 hoi).1
      obtain ⟨d, v, hd, hv, hcase⟩ := GET i hi hih
      have hy : Yields P ops (ops.getD i default) v a' := by
        rcases hcase with ⟨hw, hy⟩ | ⟨hw, rfl⟩
        · exact Or.inl ⟨hw, early_all (hEp i hiE) (hy w (Below.refl _ _))⟩
        · exact Or.inr ⟨hw, rfl⟩
      refine wpAny_take (getD_some hlt) hsel (free_any hi (hEf i hiE)) (by simpa using hi) (fun c a w => hQ c a _ v w) hy ?_
      rw [hd]
      exact NEXT i hi him hd (Below.refl _ _) (fun _ => hv) (fun hk' => (hno hk').elim) (fun hk' => (hno hk').elim)
    have hx0E : (h ++ k).getD x0 0 ∉ E := fun hh => hE ⟨_, hh, hx0r⟩
    refine ⟨fun h0 => (by rw [h0] at hx0r; cases hx0r), fun i hi => ?_⟩
    obtain ⟨hiu, oi, hoi, hdep⟩ := mem_ready.1 hi
    have hlt : i < ops.size := (Array.getElem?_eq_some_iff.1 hoi).1
    have ho : oi = ops.getD i default := by
      have := getD_some hlt
      rw [hoi] at this; exact Option.some.inj this
    subst ho
    obtain ⟨z, hz, hzi⟩ := inv.all i hlt hiu
    have hzn : z < (h ++ k).length := by
      rcases Nat.lt_or_ge z (h ++ k).length with h1 | h1
      · exact h1
      · exact absurd (hzi ▸ hi) (tail_waitsE hs hc hn inv _ x0 rfl hx0 (by rw [hord x0 hx0]; exact hx0E) (by rw [hord x0 hx0]; exact hx0u) z h1 hz)
    have him : i ∈ h ++ k := by
      rw [← hzi, hord z hzn, List.getD_eq_getElem?_getD, List.getElem?_eq_getElem hzn]
      exact List.getElem_mem _
    have listedOf : ∀ j, Region.waitsFor md ops i j = true → listed.getD j false = true := fun j hj => by
      obtain ⟨oj, hoj, e, he, hb, hon⟩ := Region.waitsFor_spec hj
      have : oj = ops.getD i default := Option.some.inj (hoj.symm.trans hoi)
      subst this
      rw [← hon]; exact hdep e he hb
    have unlistedOf : ∀ j, Region.waitsFor md ops j i = true → listed.getD j false = false := fun j hj => by
      obtain ⟨oj, hoj, e, he, hb, hon⟩ := Region.waitsFor_spec hj
      cases hl : listed.getD j false with
      | false => rfl
      | true =>
        have := inv.closed j oj hoj hl e he hb
        rw [hon, getD_both hiu] at this
        cases this
    have next := @NEXT i hi him
    unfold wpOp
    rw [hoi]
    simp only
    by_cases hih : i ∈ h
    · obtain ⟨d, v, hd, hv, hcase⟩ := GET i hi hih
      have hno : i ∈ k → False := fun hk' => by
        have := (List.nodup_append.1 (List.nodup_append.1 hnd).1).2.2 i hih i hk'
        exact this rfl
      rcases hcase with ⟨hw, hy⟩ | ⟨hw, rfl⟩
      · rw [if_pos hw]
        refine .inl (wp_of_YX hy iv.below fun W' hW' => ?_)
        rw [hd]
        exact next hd hW' (fun _ => hv) (fun hk' => (hno hk').elim) (fun hk' => (hno hk').elim)
      · rw [if_neg (by rw [hw]; simp), hd]
        exact next hd (Below.refl _ _) (fun _ => hv) (fun hk' => (hno hk').elim) (fun hk' => (hno hk').elim)
    · have hik : i ∈ k := (List.mem_append.1 him).resolve_left hih
      obtain ⟨hw, hm⟩ := hk i hik
      have hag : ∀ s ∈ (ops.getD i default).looksAt ops, a'.tmps[s]? = A.tmps[s]? := fun s hs' => by
        have m := List.all_eq_true.1 (List.all_eq_true.1 mk2 i hik) s hs'
        rw [Bool.and_eq_true] at m
        by_cases hx : ∃ j ∈ h, (ops.getD j default).dst = some s
        · obtain ⟨j, hj, hjs⟩ := hx
          obtain ⟨q, hq, hqj⟩ := List.mem_iff_getElem.1 hj
          have hqg : h.getD q 0 = j := by rw [List.getD_eq_getElem?_getD, List.getElem?_eq_getElem hq]; exact hqj
          have m1 := List.all_eq_true.1 m.1 q (List.mem_range.2 hq)
          rw [hqg, hjs] at m1
          simp only [bne_self_eq_false, Bool.false_or] at m1
          exact iv.hv j hj (listedOf _ m1) s hjs
        · rw [lex_keeps (selOps ops h) a (fun o ho e => by
            unfold selOps at ho
            obtain ⟨j, hj, rfl⟩ := List.mem_map.1 ho
            exact hx ⟨j, hj, e⟩) hlex]
          refine iv.old s fun j hj hjs => ?_
          rcases List.mem_append.1 hj with hj | hj
          · exact absurd ⟨j, hj, hjs⟩ hx
          · have := List.all_eq_true.1 m.2 j hj
            rw [hjs] at this
            simp at this
      obtain ⟨e1, e2⟩ := looks_same (fun cs b => Region.noSelect_spec hsel i _ cs b hoi) hag
      obtain ⟨d, hd, _⟩ := (distB_get hdist).1 i him
      rw [if_pos (by rw [e2]; exact hw)]
      refine .inl (wp_of_mk (V := V i) (by rw [e1]; exact hm W iv.below) fun v W' hW' hv hf => ?_)
      rw [hd]
      exact next hd hW' (fun hh => absurd hh hih) (fun _ => hv) (fun _ => hf)


/-- the closed fact of such a region -/
def Region.planE (md : Region.Mode) (ops : Array Oper) (n : Nat) (E h k t : List Nat) : Bool :=
  Region.noSelect ops && decide ((h ++ k) ++ t).Nodup && decide (0 < t.length) && Region.sinkE md ops E ((h ++ k) ++ t) (h ++ k).length && (E.all fun e => h.contains e && earlyB (ops.getD e default).op && Region.freeE md ops e) && Region.chainI md ops ((h ++ k) ++ t) (h ++ k).length &&
  Region.topB md ops (h ++ k) && (((h ++ k) ++ t).all fun i => decide (i < ops.size)) && Region.mkB md ops h k && distB n (selOps ops (h ++ k)) &&
  ((List.range ops.size).all fun i => ((h ++ k) ++ t).contains i) && Region.seqI md ops t ((Array.range ops.size).map fun i => (h ++ k).contains i)

/-- **THE REGION**: 'h' in the order of the text, each of one value in whatever world comes, making new blocks alone; 'k' makers; 't' the tail in its one order. A: the act behind h. -/
theorem wp_region_early {id : Nat} {Q : Exit → Act → World → Prop} {a : Act} {w : World} {l : List Oper} (E h k t : List Nat) (n : Nat) (V : Nat → Value → World → Prop) (N : Value → Value → Prop) (hm : P.follows .mixedOrders = true) (hB : Region.planE .any l.toArray n E h k t = true) (hsz : a.tmps.size = n) (A : Act) (hQ : ∀ c (a : Act) d v w, Q (.panic c) (a.put d v) w → Q (.panic c) a w)
    (H : ∀ W, Below w.heap.size w W → wpQuiet P l.toArray (fun w' => ∃ x, w' = W.ext x) (· = A) (h.map (l.getD · default)) a)
    (hV : ∀ i v W W', V i v W → Below W.heap.size W W' → V i v W')
    (hk : MkAll P l.toArray A w V N k)
    (hT : TailX P l.toArray Q w (t.map (l.getD · default)) V N k [] (fun _ => True) A) :
    (Code.region id l.toArray true).wp P Q a w := by
  have esel : ∀ is, selOps l.toArray is = is.map (l.getD · default) := fun is => by
    unfold selOps
    apply List.map_congr_left
    intro i _
    simp [Array.getD, List.getD_eq_getElem?_getD]
    split <;> rename_i h
    · rw [List.getElem?_eq_getElem h]; rfl
    · rw [List.getElem?_eq_none (by omega)]; rfl
  simp only [Region.planE, Bool.and_eq_true, decide_eq_true_eq] at hB
  obtain ⟨⟨⟨⟨⟨⟨⟨⟨⟨⟨⟨hsel, hnd⟩, ht0⟩, hs⟩, hE⟩, hc⟩, htop⟩, hin⟩, hmk⟩, hdist⟩, hall⟩, hseq⟩ := hB
  subst hsz
  have hin' : ∀ x, x < ((h ++ k) ++ t).length → ((h ++ k) ++ t).getD x 0 < l.toArray.size := fun x hx => by
    have := List.all_eq_true.1 hin (((h ++ k) ++ t).getD x 0) (by rw [List.getD_eq_getElem?_getD, List.getElem?_eq_getElem hx]; exact List.getElem_mem _)
    simpa using this
  have hdh : distB a.tmps.size (selOps l.toArray h) = true := by
    have hdist' := hdist
    simp only [distB, Bool.and_eq_true, decide_eq_true_eq] at hdist' ⊢
    unfold selOps at hdist' ⊢
    rw [List.map_append, List.map_append, List.all_append, Bool.and_eq_true] at hdist'
    exact ⟨hdist'.1.1, (List.nodup_append.1 hdist'.2).1⟩
  have hlex : LexX P l.toArray w A (selOps l.toArray h) a := lex_of _ _ hdh fun W hW => by rw [esel]; exact H W hW
  obtain ⟨sz1, df1⟩ := lex_size _ _ hlex
  refine wp_region_any hm ?_
  have hsz0 : ∀ i, (Array.replicate l.toArray.size false).getD i false = false := fun i => getD_replicate_false _ _
  have hlen : unl (h ++ k) (Array.replicate l.toArray.size false) + t.length = l.toArray.size := by
    have h1 : unl (h ++ k) (Array.replicate l.toArray.size false) = (h ++ k).length := by
      unfold unl
      rw [List.filter_eq_self.2]
      intro i hi
      obtain ⟨x, hx, he⟩ := List.mem_iff_getElem.1 hi
      have := hin' x (by rw [@List.length_append Nat (h ++ k) t]; omega)
      rw [List.getD_eq_getElem?_getD, List.getElem?_append_left hx, List.getElem?_eq_getElem hx] at this
      simp only [Option.getD_some, he] at this
      have h2 : i < l.length := by simpa using this
      simp [h2]
    rw [h1, ← List.length_append]
    have h3 : ((h ++ k) ++ t).length ≤ (List.range l.toArray.size).length := nodup_le _ _ hnd fun i hi => by
      obtain ⟨x, hx, he⟩ := List.mem_iff_getElem.1 hi
      have := hin' x hx
      rw [List.getD_eq_getElem?_getD, List.getElem?_eq_getElem hx] at this
      simp only [Option.getD_some, he] at this
      exact List.mem_range.2 this
    have h4 : (List.range l.toArray.size).length ≤ ((h ++ k) ++ t).length := nodup_le _ _ List.nodup_range fun i hi => by
      have := List.all_eq_true.1 hall i hi
      simpa using this
    rw [List.length_range] at h3 h4
    omega
  have hFIN : ∀ (listed : Array Bool) (a' : Act) (W : World), HeadI .any l.toArray ((h ++ k) ++ t) (h ++ k).length listed → (∀ i ∈ h ++ k, listed.getD i true = true) → InvM l.toArray a A w h k V N listed a' W → wpAny P .any l.toArray Q t.length listed a' W := by
    intro listed a' W inv hl iv
    have hlist : listed = (Array.range l.toArray.size).map fun i => (h ++ k).contains i := by
      apply Array.ext
      · rw [inv.size]; simp
      · intro i h1 h2
        have hi : i < l.toArray.size := by rw [← inv.size]; exact h1
        simp only [Array.getElem_map, Array.getElem_range]
        by_cases hm : i ∈ h ++ k
        · have := hl i hm
          simp [h1] at this
          rw [this]
          symm
          simpa using hm
        · have hm' := List.all_eq_true.1 hall i (List.mem_range.2 hi)
          simp only [List.contains_eq_mem, decide_eq_true_eq] at hm'
          have ht' : i ∈ t := (List.mem_append.1 hm').resolve_left hm
          obtain ⟨y, hy, he⟩ := List.mem_iff_getElem.1 ht'
          have := inv.tail ((h ++ k).length + y) (by omega) (by rw [@List.length_append Nat (h ++ k) t]; omega)
          rw [List.getD_eq_getElem?_getD, List.getElem?_append_right (by omega), show (h ++ k).length + y - (h ++ k).length = y by omega, List.getElem?_eq_getElem hy] at this
          simp only [Option.getD_some, he] at this
          simp [h1] at this
          rw [this]
          symm
          simp only [List.contains_eq_mem, decide_eq_false_iff_not]
          exact hm
    have lst : ∀ i ∈ h ++ k, listed.getD i false = true := fun i hi => by
      have := hl i hi
      have hii := List.all_eq_true.1 hin i (by simp only [List.mem_append] at hi ⊢; exact Or.inl hi)
      have hii' : i < listed.size := by rw [inv.size]; simpa using hii
      simp [hii'] at this ⊢; exact this
    refine wpAny_of_seqI t listed a' W (fun i hi => ?_) (by rw [hlist]; exact hseq) ?_
    · have := List.all_eq_true.1 hin i (by simp [hi])
      simpa using this
    · rw [esel]
      refine tail_of iv.below k [] (fun _ => True) A (by rw [sz1, iv.size]) (by rw [df1, iv.defers]) (fun i hi => ?_) (fun s hs' => ?_) (List.nodup_append.1 (List.nodup_append.1 hnd).1).2.1 (fun x hx y hy hxy => iv.ap x hx y hy hxy (lst x (by simp [hx])) (lst y (by simp [hy]))) trivial hT
      · obtain ⟨d, hd, _⟩ := (distB_get hdist).1 i (by simp [hi])
        obtain ⟨v, e, hv⟩ := iv.kv i hi (by
          have := hl i (by simp [hi])
          have hii := List.all_eq_true.1 hin i (by simp [hi])
          have hii' : i < listed.size := by rw [inv.size]; simpa using hii
          simp [hii'] at this ⊢; exact this) d hd
        exact ⟨d, v, hd, e, hv, fun u hu => by cases hu⟩
      · by_cases hx : ∃ j ∈ h, (l.toArray.getD j default).dst = some s
        · obtain ⟨j, hj, hjs⟩ := hx
          refine iv.hv j hj ?_ s hjs
          have := hl j (by simp [hj])
          have hii := List.all_eq_true.1 hin j (by simp [hj])
          have hii' : j < listed.size := by rw [inv.size]; simpa using hii
          simp [hii'] at this ⊢; exact this
        · rw [lex_keeps (selOps l.toArray h) a (fun o ho e => by
            unfold selOps at ho
            obtain ⟨j, hj, rfl⟩ := List.mem_map.1 ho
            exact hx ⟨j, hj, e⟩) hlex]
          refine iv.old s fun j hj hjs => ?_
          rcases List.mem_append.1 hj with hj | hj
          · exact absurd ⟨j, hj, hjs⟩ hx
          · exact absurd hjs (hs' j hj)
  have hHD : HeadI .any l.toArray ((h ++ k) ++ t) (h ++ k).length (Array.replicate l.toArray.size false) := by
    refine ⟨by simp, fun j oj hj hl => ?_, fun i hi hl => ?_, fun y hy hyl => ?_, hin'⟩
    · rw [hsz0 j] at hl; cases hl
    · have := List.all_eq_true.1 hall i (List.mem_range.2 hi)
      simp only [List.contains_eq_mem, decide_eq_true_eq] at this
      obtain ⟨x, hx, he⟩ := List.mem_iff_getElem.1 this
      exact ⟨x, hx, by rw [List.getD_eq_getElem?_getD, List.getElem?_eq_getElem hx]; exact he⟩
    · have := hin' y hyl
      have h2 : ((h ++ k) ++ t).getD y 0 < l.length := by simpa using this
      exact getD_in (by simpa using h2) (hsz0 _)
  have hIV : InvM l.toArray a A w h k V N (Array.replicate l.toArray.size false) a w.drew := by
    exact ⟨(Below.refl w.heap.size w).drew, rfl, rfl, fun i hi hl => (by rw [hsz0 i] at hl; cases hl), fun i hi hl => (by rw [hsz0 i] at hl; cases hl), fun s _ => rfl, fun i hi j hj hij hl => (by rw [hsz0 i] at hl; cases hl)⟩
  have hE' : ∀ e ∈ E, e ∈ h ∧ earlyB (l.toArray.getD e default).op = true ∧ Region.freeE .any l.toArray e = true := fun e he => by
    have := List.all_eq_true.1 hE e he
    simp only [Bool.and_eq_true, List.contains_eq_mem, decide_eq_true_eq] at this
    exact ⟨this.1.1, this.1.2, this.2⟩
  have key := wpAny_mkE (Q := Q) (E := E) (A := A) (w := w) (h := h) (k := k) (V := V) hsel hnd (fun e he => (hE' e he).1) (fun e he => (hE' e he).2.1) (fun e he => (hE' e he).2.2) hQ hs hc ht0 htop hin' hmk hdist hlex hk.get hV hFIN _ (Array.replicate l.toArray.size false) a w.drew rfl hHD hIV
  rw [hlen] at key
  exact key
/-- .. in the form in which a walk finds A out: 'refine wp_region_earlyE ..; apply Exists.intro; refine ⟨fun X hX => ?_, ?_, ?_⟩' -/
theorem wp_region_earlyE {id : Nat} {Q : Exit → Act → World → Prop} {a : Act} {w : World} {l : List Oper} (E h k t : List Nat) (n : Nat) (V : Nat → Value → World → Prop) (N : Value → Value → Prop) (hm : P.follows .mixedOrders = true) (hB : Region.planE .any l.toArray n E h k t = true) (hsz : a.tmps.size = n)
    (hV : ∀ i v W W', V i v W → Below W.heap.size W W' → V i v W')
    (H : ∃ A, (∀ W, Below w.heap.size w W → wpQuiet P l.toArray (fun w' => ∃ x, w' = W.ext x) (· = A) (h.map (l.getD · default)) a) ∧ MkAll P l.toArray A w V N k ∧ TailX P l.toArray Q w (t.map (l.getD · default)) V N k [] (fun _ => True) A)
    (hQ : ∀ c (a : Act) d v w, Q (.panic c) (a.put d v) w → Q (.panic c) a w := by intro c a d v w h; cases d <;> exact h) :
    (Code.region id l.toArray true).wp P Q a w := by
  obtain ⟨A, h1, h2, h3⟩ := H
  exact wp_region_early E h k t n V N hm hB hsz A hQ h1 hV h2 h3
end
end Go.Proofs.Ytkknnnkbegigeaa
/- drift.Grown. -/
namespace Go.Proofs.Ytkknnnkbegigeaa
open Go Go.RowKit
set_option linter.unusedVariables false
set_option linter.unusedSimpArgs false
attribute [local go_sem] bmax2 bmin2 bmax bmin cell_ext frozen_ext

/-- a span's part, rounded up -/
def upQ (z : Int) : Int := if 0 < z % 1000000000 then z / 1000000000 + 1 else z / 1000000000
set_option maxHeartbeats 1000000 in
set_option maxRecDepth 100000 in
theorem D_Grown (s r : Int) (hs : 0 ≤ s ∧ s < 9223372036854775808) (hr : 0 ≤ r ∧ r < 9223372036854775808) (w : World) : Calls Try.prog 36 #[.int .i64 s, .int .i64 r] w fun e w' => e = .returned (.tuple #[.int .i64 (intV (upQ (s * r))), .int .i64 (intE (upQ (s * r)))]) ∧ Below w.heap.size w w' := by
  have hz0 : 0 ≤ s * r := Int.mul_nonneg hs.1 hr.1
  have hz1 : s * r < 170141183460469231731687303715884105728 := by
    have h1 : s * r ≤ 9223372036854775808 * 9223372036854775808 := Int.mul_le_mul (by omega) (by omega) hr.1 (by omega)
    omega
  have cT := kp (fun w' => W_Times s r (by omega) hs.2 (by omega) hr.2 w')
  have c0 : decide (s < 0) = false := decide_eq_false (by omega)
  have c1 : decide (r < 0) = false := decide_eq_false (by omega)
  generalize s * r = z at *
  have cD := kp (fun w' => W_Div z 1000000000 (by unfold In128; omega) (by omega) (by omega) w')
  have hq0 : 0 ≤ z / 1000000000 := by omega
  have hq1 : z / 1000000000 < 170141183460469231731687303716 := by omega
  have hm0 : 0 ≤ z % 1000000000 := by omega
  have hm1 : z % 1000000000 < 1000000000 := by omega
  have hn0 : ¬ s < 0 := by omega
  have hn1 : ¬ r < 0 := by omega
  unfold upQ
  rw [show ((1000000000 : Nat) : Int) = 1000000000 from rfl] at cD
  generalize z / 1000000000 = q at *
  generalize z % 1000000000 = m at *
  have cA := kp (fun w' => W_Add_in q 1 (by unfold In128; omega) (by unfold In128; omega) (by unfold In128; omega) w')
  have cO := kp (fun w' => W_Of 1 (by omega) (by omega) w')
  have cI := kp (fun w' => W_Int_of q (by unfold In128; omega) w')
  have cJ := kp (fun w' => W_Int_of (q + 1) (by unfold In128; omega) w')
  have hZl := numC_length z
  have hCl := numC_length q
  have HC1 := kp (numC_one q)
  have hDl := numC_length (q + 1)
  have HD1 := kp (numC_one (q + 1))
  generalize numC z = Z at *
  generalize numC (q + 1) = D at *
  generalize numC q = C at *
  generalize numC 1 = O at *
  clear hz0 hz1 hq0 hq1 hs hr
  have HB := kp (Below.refl w.heap.size w)
  by_cases hm : 0 < m
  · rw [if_pos hm]
    go_enter Try.func36, Try.ntmps36
    go_upto_region 4 with (first | (go_at_call 58; refine (cT.out _).mono ?_; rintro e w1 ⟨rfl, hb1⟩) | (go_at_call 35; refine (cD.out _).mono ?_; rintro e w2 ⟨rfl, hb2⟩; have SC := sc_new (P := Try.prog) w2 71 C HC1.out #[.int .i64 0, .int .u64 0] (by rw [hCl]; rfl)))
    change Code.wp _ _ _ _ (w2.alloc (.cells C.toArray 71))
    clear SC
    have J4 := kp (Blk.new w2 71 C.toArray)
    have e1 := bt' HB.out hb1 HB.out.size
    have e2 := bt' e1 hb2 e1.size
    have JB := kp (ba e2 (.cells C.toArray 71))
    have hle : w.heap.size ≤ w2.heap.size := e2.size
    clear e1 e2 hb1 hb2
    generalize w2.alloc (.cells C.toArray 71) = U at J4 JB ⊢
    generalize w2.heap.size = b4 at *
    go_upto_region 5 with (fail)
    refine wp_region_earlyE [5] [0, 1, 2, 3, 4, 5] [] [6] 35 (fun _ _ _ => True) (fun _ _ => True) (by kernel_rfl) (by kernel_rfl) rfl (fun i v W W' h hb => h) ?_
    apply Exists.intro
    refine ⟨fun V hV => ?_, trivial, ?_⟩
    · have L1 := kp (fun x => ld_all (P := Try.prog) b4 2 71 71 C _ Try.underlying71 rfl info_num hCl ((J4.out.bel hV).bel (ext_below V x)))
      simp only [List.append_eq, List.cons_append, List.nil_append, List.map_cons, List.map_nil, List.getD_cons_succ, List.getD_cons_zero]
      repeat (first
        | (go_big_quiet_want; refine quiet_load _ rfl 71 _ rfl rfl (fun w hw => by obtain ⟨x, rfl⟩ := hw; exact L1.out x) ?_; go_simp; go_big_quiet_on)
        | go_big_quiet_step (first | (go_at_call 33; with_reducible exact Calls.ext_of (cO.out _)) | (go_at_call 34; with_reducible exact Calls.ext_of (cA.out _))))
      exact wpQuiet_nil rfl
    simp only [List.append_eq, List.cons_append, List.nil_append, List.map_cons, List.map_nil, List.getD_cons_succ, List.getD_cons_zero, TailX]
    rintro V hV hT
    have K4 := kp (J4.out.bel hV)
    have KB := kp (bt' JB.out hV JB.out.size)
    clear hV hT
    have SC := sc_all (P := Try.prog) (w := V) b4 71 D C K4.out (by rw [hDl, hCl]) HD1.out
    have HX := kp (K4.out.row D.toArray)
    have HBX := kp (bsr KB.out hle KB.out.size D.toArray)
    generalize V.setRow b4 D.toArray = U2 at SC HX HBX
    have LC := ld_all (P := Try.prog) b4 2 71 71 D _ Try.underlying71 rfl info_num hDl HX.out
    go_wp2_with (first | (refine wpL_load rfl 71 _ rfl rfl LC ?_) | (go_at_call 30; refine (cJ.out _).mono ?_; rintro e w5 ⟨rfl, hb5⟩))
    go_ret2
    exact ⟨rfl, bt' HBX.out hb5 HBX.out.size⟩
  · rw [if_neg hm]
    go_enter Try.func36, Try.ntmps36
    go_upto_region 4 with (first | (go_at_call 58; refine (cT.out _).mono ?_; rintro e w1 ⟨rfl, hb1⟩) | (go_at_call 35; refine (cD.out _).mono ?_; rintro e w2 ⟨rfl, hb2⟩; have SC := sc_new (P := Try.prog) w2 71 C HC1.out #[.int .i64 0, .int .u64 0] (by rw [hCl]; rfl)))
    change Code.wp _ _ _ _ (w2.alloc (.cells C.toArray 71))
    clear SC
    have J4 := kp (Blk.new w2 71 C.toArray)
    have e1 := bt' HB.out hb1 HB.out.size
    have e2 := bt' e1 hb2 e1.size
    have JB := kp (ba e2 (.cells C.toArray 71))
    clear e1 e2 hb1 hb2
    generalize w2.alloc (.cells C.toArray 71) = U at J4 JB ⊢
    generalize w2.heap.size = b4 at *
    have LC := ld_all (P := Try.prog) b4 2 71 71 C _ Try.underlying71 rfl info_num hCl J4.out
    go_wp2_with (first | (refine wpL_load rfl 71 _ rfl rfl LC ?_) | (go_at_call 30; refine (cI.out _).mono ?_; rintro e w5 ⟨rfl, hb5⟩))
    go_ret2
    exact ⟨rfl, bt' JB.out hb5 JB.out.size⟩
end Go.Proofs.Ytkknnnkbegigeaa
/- octet's Take: what it tells. -/
namespace Go.Proofs.Ytkknnnkbegigeaa
open Go Go.RowKit
set_option linter.unusedVariables false
set_option linter.unusedSimpArgs false
attribute [local go_sem] bmax2 bmin2 bmax bmin

theorem octet_Take_any (s : ByteArray) (w : World) (hs : s.size ≤ 8) :
    Calls Try.prog 54 #[.string s] w fun e w' => e = .returned (.tuple #[.int .u64 (takeN (bs s)), .int .i64 0]) ∧ w = w' := by
  go_enter Try.func54, Try.ntmps54
  go_wp2
  go_loop [4, 11] (fun n i => ∃ k : Nat, k ≤ s.size ∧ i = .int .i64 k ∧ n = .int .u64 (takeN ((bs s).take k))) (fun _ i => s.size - (intOf i).toNat)
  case atStart => exact ⟨0, Nat.zero_le _, rfl, rfl⟩
  case round =>
    obtain ⟨k, hk, rfl, rfl⟩ := hrel
    by_cases hlt : k < s.size
    · go_wp2
      go_round
      case measure => simp [intOf]; omega
      case rel =>
        refine ⟨k + 1, by omega, by go_num, congrArg _ ?_⟩
        have hsn := take_snoc (bs s) k hlt
        have hl : (List.take (k + 1) (bs s)).length ≤ 8 := by rw [List.length_take]; omega
        have hlt64 := takeN_lt64 _ hl
        rw [hsn, takeN_snoc] at hlt64 ⊢
        exact shl8_or _ _ (UInt8.toNat_lt _) hlt64
    · go_wp2
      go_ret2
      exact ⟨by rw [List.take_of_length_le (by rw [size_bs]; omega)]; rfl, rfl⟩

theorem octet_Take_long (s : ByteArray) (w : World) (hs : 8 < s.size) :
    Calls Try.prog 54 #[.string s] w fun e w' => e = .returned (.tuple #[.int .u64 0, .int .i64 5]) ∧ w = w' := by
  go_enter Try.func54, Try.ntmps54
  go_wp2
  go_ret2
  exact ⟨rfl, rfl⟩


theorem octet_Left_any (n : Nat) (by' : Int) (w : World) (hn : n < 4294967296) :
    Calls Try.prog 105 #[.int .u32 n, .int .i64 by'] w fun e w' => e = .returned (.int .u32 (leftN n (by' % 32).toNat)) ∧ ∃ m, w' = w.drewN m := by
  have h1 := i64_and31 by'
  have h2 : 0 ≤ by' % 32 := by omega
  have h3 : by' % 32 < 32 := by omega
  obtain ⟨k, hk⟩ : ∃ k : Nat, by' % 32 = k := ⟨(by' % 32).toNat, by omega⟩
  rw [hk] at h1 h2 h3 ⊢
  have hn' : (n : Int) < 4294967296 := by omega
  clear hk
  go_enter Try.func105, Try.ntmps105
  go_wp2
  go_quiet (fail)
  go_wp2
  go_ret
  exact ⟨congrArg _ (congrArg _ (left_eq n k hn (by omega))), nq, rfl⟩



theorem info_u8 : (Try.prog.info? 5).map (fun i => (i.zero, i.size, i.bytes)) = some (some (.int .u8 0), 1, 1) := by kernel_rfl

theorem octet_Put_mid (n : Nat) (k : Nat) (w : World) (hn : n < U64) (h8 : k ≤ 8) (b : Int) (hb : min (max b 0) 8 = (k : Int)) :
    Calls Try.prog 72 #[.int .u64 n, .int .i64 b] w fun e w' => e = .returned (.string (str (putL n k))) ∧ Below w.heap.size w w' := by
  have h8' : (k : Int) ≤ 8 := by omega
  obtain ⟨i0, hi, hz0, hz1, hz2⟩ := info_parts info_u8
  have hby : i0.bytes * k ≤ 281474976710656 := by rw [hz2]; omega
  have hmx : k ≤ maxLen := by unfold maxLen; omega
  have Hz2 := hid hz2
  have Hz1 := hid hz1
  clear hz2 hz1
  go_enter Try.func72, Try.ntmps72
  go_wp2_with (refine wpList_make_full _ rfl _ _ 45 rfl w.heap.size 5 i0 (.int .u8 0) 1 Try.underlying45 hi hz0 Hz1.out .i64 .i64 _ _ k rfl rfl rfl rfl hby hmx (Nat.le_refl _) ?_; intro w1 hown hgr)
  have HB0 : Below w.heap.size w w1 := (Below.refl _ _).grown hgr (Nat.le_refl _) (fun _ h => by cases h)
  have HB := hid HB0
  have HO := hid hown
  have hsz := hgr.size
  clear HB0 hown hgr
  go_loopw [14] (fun i wr => ∃ j : Nat, j ≤ k ∧ i = .int .i64 j ∧ wr.ownsRow w.heap.size 5 1 (.slice (some ⟨w.heap.size, 0, none⟩) k k) k (cellsU8 (putUp n k j)) ∧ Below w.heap.size w wr) (fun i _ => k - (intOf i).toNat)
  case atStart => exact ⟨0, Nat.zero_le _, rfl, (by rw [putUp_zero, ← cellsU8_zero]; exact HO.out), HB.out⟩
  case round =>
    obtain ⟨j, hj, rfl, ho, hbl⟩ := hrel
    have hl := length_putUp n k j hj
    by_cases hlt : j < k
    · have hc := ho.cellAt j (by omega)
      have hf := ho.frozenAt j
      have hst := hid (ho.stored j (.int .u8 ((n : Int) / 2 ^ (8 * (k - 1 - j)) % 256)))
      rw [cellsU8_get _ _ (by omega)] at hc
      have Hbl := hid hbl
      clear ho hbl
      go_wp2
      go_roundw
      case measure => simp [intOf]; omega
      case rel =>
        refine ⟨j + 1, by omega, by go_num, ?_, Hbl.out.setCell (Nat.le_refl _) _⟩
        have := hst.out.1
        rw [shr_byte, cellsU8_set, putUp_set n k j hlt] at this
        rw [shr_byte]
        exact this
    · obtain rfl : j = k := by omega
      have hcv := own_str 45 Try.underlying45 Try.underlying5 Try.underlying9 ho
      go_wp2
      go_ret
      exact ⟨by rw [putUp_all]; rfl, hbl⟩

end Go.Proofs.Ytkknnnkbegigeaa
/- The shelf's contracts of Go's library at this program, as the kit's tool lays them. -/
namespace Go.Proofs
open Go.Shelf
def Try.lays170_ren : Go.Shelf.Ren := ⟨fun | 170 => 101 | n => n, fun | 70 => 148 | 3 => 3 | 0 => 0 | 72 => 150 | 37 => 45 | 5 => 5 | n => n, fun | n => n⟩
theorem Try.lays170 : Go.Proofs.Lays.n170 Try.prog Try.lays170_ren := {
  mixed := by kernel_rfl
  f170 := Try.func101.trans (congrArg some (by kernel_rfl))
  t0 := Try.underlying0
  a0 := Try.isAgg0
  z0 := Try.sizeOf0
  v0 := Try.zeroValue0
  t3 := Try.underlying3
  a3 := Try.isAgg3
  z3 := Try.sizeOf3
  v3 := Try.zeroValue3
  t37 := Try.underlying45
  a37 := Try.isAgg45
  z37 := Try.sizeOf45
  v37 := Try.zeroValue45
  t70 := Try.underlying148
  a70 := Try.isAgg148
  z70 := Try.sizeOf148
  v70 := Try.zeroValue148
  t72 := Try.underlying150
  a72 := Try.isAgg150
  z72 := Try.sizeOf150
  v72 := Try.zeroValue150 }
open Go.RowKit in
theorem Try.Builder_Len (B b : Nat) (bs : List Value) (w : World) (h : Lib.IsBuilder 150 5 B b bs w) :
    Calls Try.prog 101 #[.pointer (some ⟨b, 0, none⟩)] w fun e w' => e = .returned (.int .i64 bs.length) ∧ w' = w := Any.Builder_Len Try.lays170 B b bs w h
def Try.lays169_ren : Go.Shelf.Ren := ⟨fun | 169 => 102 | n => n, fun | 70 => 148 | 9 => 9 | 0 => 0 | 72 => 150 | 37 => 45 | 127 => 164 | 3 => 3 | 5 => 5 | n => n, fun | n => n⟩
theorem Try.lays169 : Go.Proofs.Lays.n169 Try.prog Try.lays169_ren := {
  mixed := by kernel_rfl
  f169 := Try.func102.trans (congrArg some (by kernel_rfl))
  t0 := Try.underlying0
  a0 := Try.isAgg0
  z0 := Try.sizeOf0
  v0 := Try.zeroValue0
  t3 := Try.underlying3
  a3 := Try.isAgg3
  z3 := Try.sizeOf3
  v3 := Try.zeroValue3
  t9 := Try.underlying9
  a9 := Try.isAgg9
  z9 := Try.sizeOf9
  v9 := Try.zeroValue9
  t37 := Try.underlying45
  a37 := Try.isAgg45
  z37 := Try.sizeOf45
  v37 := Try.zeroValue45
  t70 := Try.underlying148
  a70 := Try.isAgg148
  z70 := Try.sizeOf148
  v70 := Try.zeroValue148
  t72 := Try.underlying150
  a72 := Try.isAgg150
  z72 := Try.sizeOf150
  v72 := Try.zeroValue150
  t127 := Try.underlying164
  a127 := Try.isAgg164
  z127 := Try.sizeOf164
  v127 := Try.zeroValue164 }
theorem Try.Builder_Extra_169 : Builder.Extra Try.prog Try.lays169_ren := {
  sizeBuilder := by kernel_rfl
  liesBuilder := by kernel_rfl
  t5 := Try.underlying5
  a5 := Try.isAgg5
  z5 := Try.sizeOf5
  v5 := Try.zeroValue5
  infoByte := by kernel_rfl
  cellsByte := by kernel_rfl
  sizeByte := by kernel_rfl
  neB5 := by decide }
open Go.RowKit in
theorem Try.Builder_String (B b : Nat) (l : List UInt8) (w : World) (h : Lib.IsBuilder 150 5 B b (Lib.byteCells l) w) (h0 : l ≠ []) :
    Calls Try.prog 102 #[.pointer (some ⟨b, 0, none⟩)] w fun e w' => e = .returned (.string ⟨l.toArray⟩) ∧ Below B w w' := Any.Builder_String Try.lays169 Try.Builder_Extra_169 B b l w h h0
open Go.RowKit in
theorem Try.Builder_String_empty (B b : Nat) (w : World) (h : Lib.IsBuilder 150 5 B b [] w) (hBw : B ≤ w.heap.size) :
    Calls Try.prog 102 #[.pointer (some ⟨b, 0, none⟩)] w fun e w' => e = .returned (.string ⟨#[]⟩) ∧ Below B w w' := Any.Builder_String_empty Try.lays169 Try.Builder_Extra_169 B b w h hBw
open Go.RowKit in
theorem Try.Builder_String_any (B b : Nat) (l : List UInt8) (w : World) (h : Lib.IsBuilder 150 5 B b (Lib.byteCells l) w) (hBw : B ≤ w.heap.size) :
    Calls Try.prog 102 #[.pointer (some ⟨b, 0, none⟩)] w fun e w' => e = .returned (.string ⟨l.toArray⟩) ∧ Below B w w' := Any.Builder_String_any Try.lays169 Try.Builder_Extra_169 B b l w h hBw
def Try.lays241_ren : Go.Shelf.Ren := ⟨fun | 241 => 110 | 277 => 113 | n => n, fun | 70 => 148 | 3 => 3 | 0 => 0 | 72 => 150 | 37 => 45 | 5 => 5 | n => n, fun | n => n⟩
theorem Try.lays241 : Go.Proofs.Lays.n241 Try.prog Try.lays241_ren := {
  mixed := by kernel_rfl
  f241 := Try.func110.trans (congrArg some (by kernel_rfl))
  f277 := Try.func113.trans (congrArg some (by kernel_rfl))
  t0 := Try.underlying0
  a0 := Try.isAgg0
  z0 := Try.sizeOf0
  v0 := Try.zeroValue0
  t3 := Try.underlying3
  a3 := Try.isAgg3
  z3 := Try.sizeOf3
  v3 := Try.zeroValue3
  t37 := Try.underlying45
  a37 := Try.isAgg45
  z37 := Try.sizeOf45
  v37 := Try.zeroValue45
  t70 := Try.underlying148
  a70 := Try.isAgg148
  z70 := Try.sizeOf148
  v70 := Try.zeroValue148
  t72 := Try.underlying150
  a72 := Try.isAgg150
  z72 := Try.sizeOf150
  v72 := Try.zeroValue150 }
theorem Try.Builder_Extra_241 : Builder.Extra Try.prog Try.lays241_ren := {
  sizeBuilder := by kernel_rfl
  liesBuilder := by kernel_rfl
  t5 := Try.underlying5
  a5 := Try.isAgg5
  z5 := Try.sizeOf5
  v5 := Try.zeroValue5
  infoByte := by kernel_rfl
  cellsByte := by kernel_rfl
  sizeByte := by kernel_rfl
  neB5 := by decide }
open Go.RowKit in
theorem Try.Builder_grow_fresh (B b n : Nat) (w : World) (hB : B ≤ b) (hbk : w.heap[b]? = some (.cells #[.pointer (some ⟨b, 0, none⟩), .slice none 0 0] 150 (0, 0))) (hBw : B ≤ w.heap.size) (hn : n ≤ 281474976710656) :
    Calls Try.prog 110 #[.pointer (some ⟨b, 0, none⟩), .int .i64 n] w fun e w' => e = .returned (.tuple #[]) ∧ (Lib.BuilderAt 150 5 B b (.pointer (some ⟨b, 0, none⟩)) [] w' ∧ Below B w w') := Any.Builder_grow_fresh Try.lays241 Try.Builder_Extra_241 B b n w hB hbk hBw hn
def Try.lays165_ren : Go.Shelf.Ren := ⟨fun | 165 => 99 | 240 => 109 | 241 => 110 | 276 => 112 | 277 => 113 | n => n, fun | 70 => 148 | 3 => 3 | 0 => 0 | 4 => 4 | 9 => 9 | 20 => 20 | 72 => 150 | 37 => 45 | 164 => 166 | 5 => 5 | n => n, fun | n => n⟩
theorem Try.lays165 : Go.Proofs.Lays.n165 Try.prog Try.lays165_ren := {
  mixed := by kernel_rfl
  f165 := Try.func99.trans (congrArg some (by kernel_rfl))
  f240 := Try.func109.trans (congrArg some (by kernel_rfl))
  f241 := Try.func110.trans (congrArg some (by kernel_rfl))
  f276 := Try.func112.trans (congrArg some (by kernel_rfl))
  f277 := Try.func113.trans (congrArg some (by kernel_rfl))
  t0 := Try.underlying0
  a0 := Try.isAgg0
  z0 := Try.sizeOf0
  v0 := Try.zeroValue0
  t3 := Try.underlying3
  a3 := Try.isAgg3
  z3 := Try.sizeOf3
  v3 := Try.zeroValue3
  t4 := Try.underlying4
  a4 := Try.isAgg4
  z4 := Try.sizeOf4
  v4 := Try.zeroValue4
  t9 := Try.underlying9
  a9 := Try.isAgg9
  z9 := Try.sizeOf9
  v9 := Try.zeroValue9
  t20 := Try.underlying20
  a20 := Try.isAgg20
  z20 := Try.sizeOf20
  v20 := Try.zeroValue20
  t37 := Try.underlying45
  a37 := Try.isAgg45
  z37 := Try.sizeOf45
  v37 := Try.zeroValue45
  t70 := Try.underlying148
  a70 := Try.isAgg148
  z70 := Try.sizeOf148
  v70 := Try.zeroValue148
  t72 := Try.underlying150
  a72 := Try.isAgg150
  z72 := Try.sizeOf150
  v72 := Try.zeroValue150
  t164 := Try.underlying166
  a164 := Try.isAgg166
  z164 := Try.sizeOf166
  v164 := Try.zeroValue166 }
theorem Try.Builder_Extra_165 : Builder.Extra Try.prog Try.lays165_ren := {
  sizeBuilder := by kernel_rfl
  liesBuilder := by kernel_rfl
  t5 := Try.underlying5
  a5 := Try.isAgg5
  z5 := Try.sizeOf5
  v5 := Try.zeroValue5
  infoByte := by kernel_rfl
  cellsByte := by kernel_rfl
  sizeByte := by kernel_rfl
  neB5 := by decide }
open Go.RowKit in
theorem Try.Builder_Grow_fresh (B b n : Nat) (w : World) (hB : B ≤ b) (hbk : w.heap[b]? = some (.cells #[.pointer none, .slice none 0 0] 150 (0, 0))) (hBw : B ≤ w.heap.size) (hn : n ≤ 281474976710656) :
    Calls Try.prog 99 #[.pointer (some ⟨b, 0, none⟩), .int .i64 n] w fun e w' => e = .returned (.tuple #[]) ∧ (Lib.BuilderAt 150 5 B b (.pointer (some ⟨b, 0, none⟩)) [] w' ∧ Below B w w') := Any.Builder_Grow_fresh Try.lays165 Try.Builder_Extra_165 B b n w hB hbk hBw hn
open Go.RowKit in
theorem Try.Builder_Len_f (B b : Nat) (bs : List Value) (w : World) (h : Lib.IsBuilderF 150 5 B b bs w) :
    Calls Try.prog 101 #[.pointer (some ⟨b, 0, none⟩)] w fun e w' => e = .returned (.int .i64 bs.length) ∧ w' = w := Any.Builder_Len_f Try.lays170 B b bs w h
open Go.RowKit in
theorem Try.Builder_String_f (B b : Nat) (l : List UInt8) (w : World) (h : Lib.IsBuilderF 150 5 B b (Lib.byteCells l) w) (h0 : l ≠ []) :
    Calls Try.prog 102 #[.pointer (some ⟨b, 0, none⟩)] w fun e w' => e = .returned (.string ⟨l.toArray⟩) ∧ (Lib.IsBuilderF 150 5 B b (Lib.byteCells l) w' ∧ Below B w w') := Any.Builder_String_f Try.lays169 Try.Builder_Extra_169 B b l w h h0
open Go.RowKit in
theorem Try.Builder_String_empty_f (B b : Nat) (w : World) (h : Lib.IsBuilderF 150 5 B b [] w) (hBw : B ≤ w.heap.size) :
    Calls Try.prog 102 #[.pointer (some ⟨b, 0, none⟩)] w fun e w' => e = .returned (.string ⟨#[]⟩) ∧ (Lib.IsBuilderF 150 5 B b [] w' ∧ Below B w w') := Any.Builder_String_empty_f Try.lays169 Try.Builder_Extra_169 B b w h hBw
open Go.RowKit in
theorem Try.Builder_String_any_f (B b : Nat) (l : List UInt8) (w : World) (h : Lib.IsBuilderF 150 5 B b (Lib.byteCells l) w) (hBw : B ≤ w.heap.size) :
    Calls Try.prog 102 #[.pointer (some ⟨b, 0, none⟩)] w fun e w' => e = .returned (.string ⟨l.toArray⟩) ∧ (Lib.IsBuilderF 150 5 B b (Lib.byteCells l) w' ∧ Below B w w') := Any.Builder_String_any_f Try.lays169 Try.Builder_Extra_169 B b l w h hBw
open Go.RowKit in
theorem Try.Builder_String_k (B b : Nat) (l : List UInt8) (w : World) (h : Lib.IsBuilderF 150 5 B b (Lib.byteCells l) w) (h0 : l ≠ []) :
    Calls Try.prog 102 #[.pointer (some ⟨b, 0, none⟩)] w fun e w' => e = .returned (.string ⟨l.toArray⟩) ∧ (Lib.IsBuilderF 150 5 B b (Lib.byteCells l) w' ∧ Below B w w' ∧ Lib.OthersKept 5 (some b) w w') := Any.Builder_String_k Try.lays169 Try.Builder_Extra_169 B b l w h h0
open Go.RowKit in
theorem Try.Builder_String_empty_k (B b : Nat) (w : World) (h : Lib.IsBuilderF 150 5 B b [] w) (hBw : B ≤ w.heap.size) :
    Calls Try.prog 102 #[.pointer (some ⟨b, 0, none⟩)] w fun e w' => e = .returned (.string ⟨#[]⟩) ∧ (Lib.IsBuilderF 150 5 B b [] w' ∧ Below B w w' ∧ Lib.OthersKept 5 (some b) w w') := Any.Builder_String_empty_k Try.lays169 Try.Builder_Extra_169 B b w h hBw
open Go.RowKit in
theorem Try.Builder_String_any_k (B b : Nat) (l : List UInt8) (w : World) (h : Lib.IsBuilderF 150 5 B b (Lib.byteCells l) w) (hBw : B ≤ w.heap.size) :
    Calls Try.prog 102 #[.pointer (some ⟨b, 0, none⟩)] w fun e w' => e = .returned (.string ⟨l.toArray⟩) ∧ (Lib.IsBuilderF 150 5 B b (Lib.byteCells l) w' ∧ Below B w w' ∧ Lib.OthersKept 5 (some b) w w') := Any.Builder_String_any_k Try.lays169 Try.Builder_Extra_169 B b l w h hBw
open Go.RowKit in
theorem Try.Builder_grow_fresh_cap (B b n : Nat) (w : World) (hB : B ≤ b) (hbk : w.heap[b]? = some (.cells #[.pointer (some ⟨b, 0, none⟩), .slice none 0 0] 150 (0, 0))) (hBw : B ≤ w.heap.size) (hn : n ≤ 281474976710656) :
    Calls Try.prog 110 #[.pointer (some ⟨b, 0, none⟩), .int .i64 n] w fun e w' => e = .returned (.tuple #[]) ∧ (Lib.BuilderAt 150 5 B b (.pointer (some ⟨b, 0, none⟩)) [] w' ∧ Below B w w') ∧ ∃ p cap, w'.cell? ⟨b, 1, none⟩ = some (.slice p 0 cap) ∧ n ≤ cap := Any.Builder_grow_fresh_cap Try.lays241 Try.Builder_Extra_241 B b n w hB hbk hBw hn
open Go.RowKit in
theorem Try.Builder_Grow_fresh_cap (B b n : Nat) (w : World) (hB : B ≤ b) (hbk : w.heap[b]? = some (.cells #[.pointer none, .slice none 0 0] 150 (0, 0))) (hBw : B ≤ w.heap.size) (hn : n ≤ 281474976710656) :
    Calls Try.prog 99 #[.pointer (some ⟨b, 0, none⟩), .int .i64 n] w fun e w' => e = .returned (.tuple #[]) ∧ (Lib.BuilderAt 150 5 B b (.pointer (some ⟨b, 0, none⟩)) [] w' ∧ Below B w w') ∧ ∃ p cap, w'.cell? ⟨b, 1, none⟩ = some (.slice p 0 cap) ∧ n ≤ cap := Any.Builder_Grow_fresh_cap Try.lays165 Try.Builder_Extra_165 B b n w hB hbk hBw hn
def Try.laysM316_ren : Go.Shelf.Ren := ⟨fun | 316 => 106 | n => n, fun | 9 => 9 | 3 => 3 | 4 => 4 | 37 => 45 | 0 => 0 | 127 => 164 | 5 => 5 | n => n, fun | n => n⟩
theorem Try.laysM316 : Go.Proofs.LaysM.n316 Try.prog Try.laysM316_ren := {
  mixed := by kernel_rfl
  f316 := Try.func106.trans (congrArg some (by kernel_rfl))
  t0 := Try.underlying0
  a0 := Try.isAgg0
  z0 := Try.sizeOf0
  v0 := Try.zeroValue0
  t3 := Try.underlying3
  a3 := Try.isAgg3
  z3 := Try.sizeOf3
  v3 := Try.zeroValue3
  t4 := Try.underlying4
  a4 := Try.isAgg4
  z4 := Try.sizeOf4
  v4 := Try.zeroValue4
  t9 := Try.underlying9
  a9 := Try.isAgg9
  z9 := Try.sizeOf9
  v9 := Try.zeroValue9
  t37 := Try.underlying45
  a37 := Try.isAgg45
  z37 := Try.sizeOf45
  v37 := Try.zeroValue45
  t127 := Try.underlying164
  a127 := Try.isAgg164
  z127 := Try.sizeOf164
  v127 := Try.zeroValue164
  t5 := Try.underlying5
  a5 := Try.isAgg5
  z5 := Try.sizeOf5
  v5 := Try.zeroValue5
  i0 := by kernel_rfl
  i3 := by kernel_rfl
  i4 := by kernel_rfl
  i5 := by kernel_rfl
  i9 := by kernel_rfl
  i37 := by kernel_rfl
  i127 := by kernel_rfl }
open Go.RowKit in
theorem Try.stringslite_Clone (s : ByteArray) (w : World) (hlim : s.size ≤ 281474976710656) :
    Calls Try.prog 106 #[.string s] w fun e w' => e = .returned (.string s) ∧ Below w.heap.size w w' := Any.stringslite_Clone Try.laysM316 s w hlim
def Try.lays206_ren : Go.Shelf.Ren := ⟨fun | 206 => 75 | n => n, fun | 9 => 9 | 4 => 4 | 3 => 3 | n => n, fun | n => n⟩
theorem Try.lays206 : Go.Proofs.Lays.n206 Try.prog Try.lays206_ren := {
  mixed := by kernel_rfl
  f206 := Try.func75.trans (congrArg some (by kernel_rfl))
  t3 := Try.underlying3
  a3 := Try.isAgg3
  z3 := Try.sizeOf3
  v3 := Try.zeroValue3
  t4 := Try.underlying4
  a4 := Try.isAgg4
  z4 := Try.sizeOf4
  v4 := Try.zeroValue4
  t9 := Try.underlying9
  a9 := Try.isAgg9
  z9 := Try.sizeOf9
  v9 := Try.zeroValue9 }
open Go.RowKit Go.Lib in
theorem Try.stringslite_HasPrefix (s p : ByteArray) (w : World) :
    Calls Try.prog 75 #[.string s, .string p] w fun e w' => e = .returned (.bool (Lib.hasPrefix s.data.toList p.data.toList)) ∧ w' = w := Any.stringslite_HasPrefix Try.lays206 s p w
def Try.lays99_ren : Go.Shelf.Ren := ⟨fun | 99 => 52 | 206 => 75 | n => n, fun | 9 => 9 | 4 => 4 | 3 => 3 | n => n, fun | n => n⟩
theorem Try.lays99 : Go.Proofs.Lays.n99 Try.prog Try.lays99_ren := {
  mixed := by kernel_rfl
  f99 := Try.func52.trans (congrArg some (by kernel_rfl))
  f206 := Try.func75.trans (congrArg some (by kernel_rfl))
  t3 := Try.underlying3
  a3 := Try.isAgg3
  z3 := Try.sizeOf3
  v3 := Try.zeroValue3
  t4 := Try.underlying4
  a4 := Try.isAgg4
  z4 := Try.sizeOf4
  v4 := Try.zeroValue4
  t9 := Try.underlying9
  a9 := Try.isAgg9
  z9 := Try.sizeOf9
  v9 := Try.zeroValue9 }
open Go.RowKit Go.Lib in
theorem Try.strings_HasPrefix (s p : ByteArray) (w : World) :
    Calls Try.prog 52 #[.string s, .string p] w fun e w' => e = .returned (.bool (Lib.hasPrefix s.data.toList p.data.toList)) ∧ w' = w := Any.strings_HasPrefix Try.lays99 s p w
def Try.lays264_ren : Go.Shelf.Ren := ⟨fun | 264 => 108 | n => n, fun | 53 => 55 | 46 => 108 | n => n, fun | n => n⟩
theorem Try.lays264 : Go.Proofs.Lays.n264 Try.prog Try.lays264_ren := {
  mixed := by kernel_rfl
  f264 := Try.func108.trans (congrArg some (by kernel_rfl))
  t46 := Try.underlying108
  a46 := Try.isAgg108
  z46 := Try.sizeOf108
  v46 := Try.zeroValue108
  t53 := Try.underlying55
  a53 := Try.isAgg55
  z53 := Try.sizeOf55
  v53 := Try.zeroValue55 }
open Go.RowKit Go.Lib in
theorem Try.bits_Mul64 (x y : Nat) (hx : x < 18446744073709551616) (hy : y < 18446744073709551616) (w : World) :
    Calls Try.prog 108 #[.int .u64 x, .int .u64 y] w fun e w' => e = .returned (.tuple #[.int .u64 ((x * y / 18446744073709551616 : Nat) : Int), .int .u64 ((x * y % 18446744073709551616 : Nat) : Int)]) ∧ w' = w := Any.bits_Mul64 Try.lays264 x y hx hy w
def Try.lays212_ren : Go.Shelf.Ren := ⟨fun | 212 => 98 | 263 => 107 | 264 => 108 | n => n, fun | 46 => 108 | 51 => 60 | 146 => 160 | 53 => 55 | 148 => 162 | n => n, fun | n => n⟩
theorem Try.lays212 : Go.Proofs.Lays.n212 Try.prog Try.lays212_ren := {
  mixed := by kernel_rfl
  f212 := Try.func98.trans (congrArg some (by kernel_rfl))
  f263 := Try.func107.trans (congrArg some (by kernel_rfl))
  f264 := Try.func108.trans (congrArg some (by kernel_rfl))
  t46 := Try.underlying108
  a46 := Try.isAgg108
  z46 := Try.sizeOf108
  v46 := Try.zeroValue108
  t51 := Try.underlying60
  a51 := Try.isAgg60
  z51 := Try.sizeOf60
  v51 := Try.zeroValue60
  t53 := Try.underlying55
  a53 := Try.isAgg55
  z53 := Try.sizeOf55
  v53 := Try.zeroValue55
  t146 := Try.underlying160
  a146 := Try.isAgg160
  z146 := Try.sizeOf160
  v146 := Try.zeroValue160
  t148 := Try.underlying162
  a148 := Try.isAgg162
  z148 := Try.sizeOf162
  v148 := Try.zeroValue162 }
open Go.RowKit Go.Lib in
theorem Try.bits_Mul (x y : Nat) (hx : x < 18446744073709551616) (hy : y < 18446744073709551616) (w : World) :
    Calls Try.prog 98 #[.int .u64 x, .int .u64 y] w fun e w' => e = .returned (.tuple #[.int .u64 ((x * y / 18446744073709551616 : Nat) : Int), .int .u64 ((x * y % 18446744073709551616 : Nat) : Int)]) ∧ w' = w := Any.bits_Mul Try.lays212 x y hx hy w
def Try.lays105_ren : Go.Shelf.Ren := ⟨fun | 105 => 94 | 212 => 98 | 99 => 52 | 165 => 99 | 166 => 100 | 170 => 101 | 169 => 102 | 263 => 107 | 264 => 108 | 206 => 75 | 240 => 109 | 241 => 110 | 276 => 112 | 277 => 113 | n => n, fun | 9 => 9 | 3 => 3 | 4 => 4 | 20 => 20 | 0 => 0 | 46 => 108 | 109 => 146 | 5 => 5 | 72 => 150 | 76 => 154 | 51 => 60 | 146 => 160 | 53 => 55 | 148 => 162 | 70 => 148 | 37 => 45 | 75 => 153 | 127 => 164 | 164 => 166 | 80 => 157 | n => n, fun | n => n⟩
theorem Try.lays105 : Go.Proofs.Lays.n105 Try.prog Try.lays105_ren := {
  mixed := by kernel_rfl
  f99 := Try.func52.trans (congrArg some (by kernel_rfl))
  f105 := Try.func94.trans (congrArg some (by kernel_rfl))
  f165 := Try.func99.trans (congrArg some (by kernel_rfl))
  f166 := Try.func100.trans (congrArg some (by kernel_rfl))
  f169 := Try.func102.trans (congrArg some (by kernel_rfl))
  f170 := Try.func101.trans (congrArg some (by kernel_rfl))
  f206 := Try.func75.trans (congrArg some (by kernel_rfl))
  f212 := Try.func98.trans (congrArg some (by kernel_rfl))
  f240 := Try.func109.trans (congrArg some (by kernel_rfl))
  f241 := Try.func110.trans (congrArg some (by kernel_rfl))
  f263 := Try.func107.trans (congrArg some (by kernel_rfl))
  f264 := Try.func108.trans (congrArg some (by kernel_rfl))
  f276 := Try.func112.trans (congrArg some (by kernel_rfl))
  f277 := Try.func113.trans (congrArg some (by kernel_rfl))
  t0 := Try.underlying0
  a0 := Try.isAgg0
  z0 := Try.sizeOf0
  v0 := Try.zeroValue0
  t3 := Try.underlying3
  a3 := Try.isAgg3
  z3 := Try.sizeOf3
  v3 := Try.zeroValue3
  t4 := Try.underlying4
  a4 := Try.isAgg4
  z4 := Try.sizeOf4
  v4 := Try.zeroValue4
  t5 := Try.underlying5
  a5 := Try.isAgg5
  z5 := Try.sizeOf5
  v5 := Try.zeroValue5
  t9 := Try.underlying9
  a9 := Try.isAgg9
  z9 := Try.sizeOf9
  v9 := Try.zeroValue9
  t20 := Try.underlying20
  a20 := Try.isAgg20
  z20 := Try.sizeOf20
  v20 := Try.zeroValue20
  t37 := Try.underlying45
  a37 := Try.isAgg45
  z37 := Try.sizeOf45
  v37 := Try.zeroValue45
  t46 := Try.underlying108
  a46 := Try.isAgg108
  z46 := Try.sizeOf108
  v46 := Try.zeroValue108
  t51 := Try.underlying60
  a51 := Try.isAgg60
  z51 := Try.sizeOf60
  v51 := Try.zeroValue60
  t53 := Try.underlying55
  a53 := Try.isAgg55
  z53 := Try.sizeOf55
  v53 := Try.zeroValue55
  t70 := Try.underlying148
  a70 := Try.isAgg148
  z70 := Try.sizeOf148
  v70 := Try.zeroValue148
  t72 := Try.underlying150
  a72 := Try.isAgg150
  z72 := Try.sizeOf150
  v72 := Try.zeroValue150
  t75 := Try.underlying153
  a75 := Try.isAgg153
  z75 := Try.sizeOf153
  v75 := Try.zeroValue153
  t76 := Try.underlying154
  a76 := Try.isAgg154
  z76 := Try.sizeOf154
  v76 := Try.zeroValue154
  t109 := Try.underlying146
  a109 := Try.isAgg146
  z109 := Try.sizeOf146
  v109 := Try.zeroValue146
  t127 := Try.underlying164
  a127 := Try.isAgg164
  z127 := Try.sizeOf164
  v127 := Try.zeroValue164
  t146 := Try.underlying160
  a146 := Try.isAgg160
  z146 := Try.sizeOf160
  v146 := Try.zeroValue160
  t148 := Try.underlying162
  a148 := Try.isAgg162
  z148 := Try.sizeOf162
  v148 := Try.zeroValue162
  t164 := Try.underlying166
  a164 := Try.isAgg166
  z164 := Try.sizeOf166
  v164 := Try.zeroValue166 }
theorem Try.Builder_Extra_105 : Builder.Extra Try.prog Try.lays105_ren := {
  sizeBuilder := by kernel_rfl
  liesBuilder := by kernel_rfl
  t5 := Try.underlying5
  a5 := Try.isAgg5
  z5 := Try.sizeOf5
  v5 := Try.zeroValue5
  infoByte := by kernel_rfl
  cellsByte := by kernel_rfl
  sizeByte := by kernel_rfl
  neB5 := by decide }
open Go.RowKit Go.Lib in
theorem Try.strings_Repeat_main (s : ByteArray) (c : Nat) (w : World) (hc2 : 2 ≤ c) (hc : c ≤ 9223372036854775807) (hlen : s.size * c ≤ 140737488355328) (h0 : 0 < s.size) :
    Calls Try.prog 94 #[.string s, .int .i64 c] w fun e w' => e = .returned (.string ⟨(Lib.repeatL s.data.toList c).toArray⟩) ∧ Below w.heap.size w w' := Any.strings_Repeat_main Try.lays105 Try.Builder_Extra_105 s c w hc2 hc hlen h0
open Go.RowKit Go.Lib in
theorem Try.strings_Repeat_zero (s : ByteArray) (w : World) :
    Calls Try.prog 94 #[.string s, .int .i64 0] w fun e w' => e = .returned (.string ⟨#[]⟩) ∧ w' = w := Any.strings_Repeat_zero Try.lays105 s w
open Go.RowKit Go.Lib in
theorem Try.strings_Repeat_one (s : ByteArray) (w : World) :
    Calls Try.prog 94 #[.string s, .int .i64 1] w fun e w' => e = .returned (.string s) ∧ w' = w := Any.strings_Repeat_one Try.lays105 s w
open Go.RowKit Go.Lib in
theorem Try.strings_Repeat_empty (s : ByteArray) (c : Nat) (w : World) (hc2 : 2 ≤ c) (hc : c ≤ 9223372036854775807) (h0 : s.size = 0) :
    Calls Try.prog 94 #[.string s, .int .i64 c] w fun e w' => e = .returned (.string ⟨#[]⟩) ∧ w' = w := Any.strings_Repeat_empty Try.lays105 s c w hc2 hc h0
open Go.RowKit Go.Lib in
theorem Try.strings_Repeat_negative (s : ByteArray) (c : Int) (w : World) (hc : c < 0) :
    Calls Try.prog 94 #[.string s, .int .i64 c] w fun e w' => e = .panicked [{ v := repeatPanic Try.lays105_ren "strings: negative Repeat count", recovered := false }] ∧ w' = w := Any.strings_Repeat_negative Try.lays105 s c w hc
open Go.RowKit Go.Lib in
theorem Try.strings_Repeat_overflow (s : ByteArray) (c : Nat) (w : World) (hc : c ≤ 9223372036854775807) (hs : s.size ≤ 9223372036854775807) (hbig : 9223372036854775807 < s.size * c) :
    Calls Try.prog 94 #[.string s, .int .i64 c] w fun e w' => e = .panicked [{ v := repeatPanic Try.lays105_ren "strings: Repeat output length overflow", recovered := false }] ∧ w' = w := Any.strings_Repeat_overflow Try.lays105 s c w hc hs hbig
open Go.RowKit Go.Lib in
theorem Try.strings_Repeat (s : ByteArray) (c : Nat) (w : World) (hc : c ≤ 9223372036854775807) (hlen : s.size * c ≤ 140737488355328) :
    Calls Try.prog 94 #[.string s, .int .i64 c] w fun e w' => e = .returned (.string ⟨(Lib.repeatL s.data.toList c).toArray⟩) ∧ Below w.heap.size w w' := Any.strings_Repeat Try.lays105 Try.Builder_Extra_105 s c w hc hlen
end Go.Proofs
