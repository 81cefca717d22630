/- ShaHex: the walk. -/
import Derived.Test.YtachnjdmjifefaaSha6
namespace Go.Proofs.Ytachnjdmjifefaa
open Go Go.RowKit
set_option linter.unusedVariables false
set_option linter.unusedSimpArgs false
attribute [local go_sem] bmax2 bmin2 bmax bmin cell_ext frozen_ext

/-- the number that a digit is -/
def undig (c : UInt8) : Int := if 48 ≤ c.toNat ∧ c.toNat ≤ 57 then (c.toNat : Int) - 48 else (c.toNat : Int) - 97 + 10
theorem dig_num : ∀ q, q < 16 → (48 ≤ (dig16 q).toNat ∧ (dig16 q).toNat ≤ 57 ∧ ((dig16 q).toNat : Int) - 48 = q) ∨ (97 ≤ (dig16 q).toNat ∧ (dig16 q).toNat ≤ 102 ∧ ((dig16 q).toNat : Int) - 97 + 10 = q) := by decide
theorem hexL_get (D : List UInt8) (k : Nat) (c : UInt8) (h : D[k]? = some c) : ((hexL D).drop (2 * k)).take 2 = [dig16 (c.toNat / 16), dig16 (c.toNat % 16)] := by
  induction D generalizing k with
  | nil => simp at h
  | cons x D ih =>
    cases k with
    | zero =>
      obtain rfl : x = c := by simpa using h
      simp [hexL]
    | succ k =>
      have := ih k (by simpa using h)
      rw [show 2 * (k + 1) = 2 * k + 2 by omega]
      simpa [hexL] using this
/-- what has been reckoned of a byte behind j of its two digits -/
def hxN (q r j : Nat) : Nat := if j = 0 then 0 else if j = 1 then q else 16 * q + r

set_option maxHeartbeats 4000000 in
set_option maxRecDepth 100000 in
theorem ShaHex_walk (w : World) (K : List UInt8) (hK : K.length = 32) :
    Calls Try.prog 8 #[keyV K] w fun e w' => e = .returned (.bool true) ∧ Below w.heap.size w w' := by
  have c1 := kp (fun w' => Hex_st K hK w')
  have hz : (str (hexL K)).size = 64 := by rw [str_size, hexL_length, hK]
  have HG := kp (hexL_get K)
  obtain ⟨S, hS⟩ : ∃ S, str (hexL K) = S := ⟨_, rfl⟩
  rw [hS] at c1 hz
  have HS := kp hS
  have HK := kp hK
  have hz1 : ((S.size : Int) == 64) = true := by rw [hz]; rfl
  have hz2 : ((S.size : Int) != 64) = false := by rw [hz]; rfl
  have hz3 : S.size ≤ 64 := by omega
  have hz4 : 64 ≤ S.size := by omega
  have HZ := kp hz
  clear hS hK hz
  unfold keyV
  go_enter Try.func8, Try.ntmps8
  go_wp2_with fail
  refine (sha_awake _).mono ?_
  rintro e w3 ⟨rfl, hb⟩
  have K1 := kp ((Blk.new w 24 (cellsU8 K).toArray).bel hb)
  have HB := kp (bt' (ba (Below.refl w.heap.size w) _) hb (by simp))
  clear hb
  have LK := ldK K HK.out K1.out
  go_wp2_with (refine wpL_load rfl 24 _ rfl rfl LK ?_)
  clear LK
  refine (c1.out _).mono ?_
  rintro e w4 ⟨rfl, hb⟩
  have K2 := kp (K1.out.bel hb)
  have HB2 := kp (bt' HB.out hb HB.out.size)
  clear hb K1 HB
  go_wp2
  go_loopw [15] (fun i wr => ∃ k : Nat, k ≤ 32 ∧ i = .int .i64 k ∧ Kp (Blk wr w.heap.size 24 (cellsU8 K).toArray) ∧ Kp (Below w.heap.size w wr)) (fun i _ => 32 - (intOf i).toNat)
  case atStart => exact ⟨0, by omega, rfl, K2, HB2⟩
  case round =>
    clear K2 HB2
    obtain ⟨k, hk, rfl, hk1, hb⟩ := hrel
    by_cases hlt : k < 32
    · have hlt' : (k : Int) < 32 := by omega
      have i2 : (0 : Int) ≤ (k : Int) := by omega
      obtain ⟨c, hc⟩ : ∃ c, K[k]? = some c := ⟨_, List.getElem?_eq_getElem (by rw [HK.out]; exact hlt)⟩
      have hx : Kp (S.extract (2 * k) (2 * k + 2) = str [dig16 (c.toNat / 16), dig16 (c.toNat % 16)]) := kp (by rw [← HS.out, extract_str, show 2 * k + 2 - 2 * k = 2 by omega, HG.out k c hc])
      have hq : c.toNat / 16 < 16 := by have := c.toNat_lt; omega
      have hr : c.toNat % 16 < 16 := by omega
      have hcq : Kp (c.toNat = 16 * (c.toNat / 16) + c.toNat % 16) := kp (by omega)
      have hcc := hk1.out.atL (cellsU8_get K k (List.getElem?_eq_some_iff.1 hc).1)
      rw [(List.getElem?_eq_some_iff.1 hc).2] at hcc
      have hcl := c.toNat_lt
      generalize c.toNat / 16 = q at hx hq hcq
      generalize c.toNat % 16 = r at hx hr hcq
      obtain ⟨C, hCC⟩ : ∃ C, c.toNat = C := ⟨_, rfl⟩
      rw [hCC] at hcq hcc hcl
      have hC := kp hCC
      clear hCC
      have hsl := slice_str (P := Try.prog) 9 Try.underlying9 S (2 * k) (2 * k + 2) (2 * (k : Int)) (2 * (k : Int) + 2) (by omega) (by omega) (by omega) (by omega)
      rw [hx.out] at hsl
      obtain ⟨cap, w2, hcv, hbw, hlw, hcap, hcell, _⟩ := toBytes (P := Try.prog) wr 9 42 (e := 5) (str [dig16 q, dig16 r]) Try.underlying9 Try.underlying42 Try.underlying5
      have x0 := hcell 0 (by simp [str])
      have x1 := hcell 1 (by simp [str])
      have hs2 : (str [dig16 q, dig16 r]).size = 2 := rfl
      rw [hs2] at hcv hcap
      have y0 : w2.cell? ⟨wr.heap.size, 0, none⟩ = some (.int .u8 ((dig16 q).toNat : Int)) := x0
      have y1 : w2.cell? ⟨wr.heap.size, 1, none⟩ = some (.int .u8 ((dig16 r).toNat : Int)) := x1
      have hk2 := kp (hk1.out.bel hbw)
      have hb2 := kp (bt' hb.out hbw hb.out.size)
      have hlw2 := hk2.out.lt
      have z1 : 2 * (k : Int) + 2 ≤ 64 := by omega
      have z2 : (0 : Int) ≤ 2 * (k : Int) := by omega
      clear x0 x1 hcell hs2 hbw hk1 hb hcc
      have hC2 : (C : Int) < 256 := by omega
      go_upto_region 19 with (fail)
      go_loop [5, 27] (fun n x => ∃ j : Nat, j ≤ 2 ∧ x = .int .i64 j ∧ n = .int .i64 ((hxN q r j : Nat) : Int)) (fun _ x => 2 - (intOf x).toNat)
      case atStart => exact ⟨0, by omega, rfl, rfl⟩
      case round =>
        obtain ⟨j, hj, rfl, rfl⟩ := hrel
        rcases (by omega : j = 0 ∨ j = 1 ∨ j = 2) with rfl | rfl | rfl
        · have hn0 : ((hxN q r 0 : Nat) : Int) = 0 := rfl
          rcases dig_num q hq with ⟨t1, t2, t3⟩ | ⟨t1, t2, t3⟩
          all_goals
            obtain ⟨D, hD⟩ : ∃ D, (dig16 q).toNat = D := ⟨_, rfl⟩
            rw [hD] at y0 t1 t2 t3
            have T3 := kp t3
            clear t3 hD
            have u1 : (D : Int) < 256 := by omega
          · have u2 : (48 : Int) ≤ (D : Int) := by omega
            have u3 : (D : Int) ≤ 57 := by omega
            go_wp2
            go_round
            case measure => simp [intOf]
            case rel => exact ⟨1, by omega, by first | rfl | go_num, congrArg _ (by have := T3.out; have a0 : hxN q r 0 = 0 := rfl; have a1 : hxN q r 1 = q := rfl; have a2 : hxN q r 2 = 16 * q + r := rfl; omega)⟩
          · have u2 : (97 : Int) ≤ (D : Int) := by omega
            have u3 : (D : Int) ≤ 102 := by omega
            have u4 : (48 : Int) ≤ (D : Int) := by omega
            have u5 : ¬ (D : Int) ≤ 57 := by omega
            go_wp2
            go_round
            case measure => simp [intOf]
            case rel => exact ⟨1, by omega, by first | rfl | go_num, congrArg _ (by have := T3.out; have a0 : hxN q r 0 = 0 := rfl; have a1 : hxN q r 1 = q := rfl; have a2 : hxN q r 2 = 16 * q + r := rfl; omega)⟩
        · have hn1 : ((hxN q r 1 : Nat) : Int) = (q : Int) := rfl
          have hq2 : (q : Int) < 16 := by omega
          have hq1 : (0 : Int) ≤ (q : Int) := by omega
          rcases dig_num r hr with ⟨t1, t2, t3⟩ | ⟨t1, t2, t3⟩
          all_goals
            obtain ⟨D, hD⟩ : ∃ D, (dig16 r).toNat = D := ⟨_, rfl⟩
            rw [hD] at y1 t1 t2 t3
            have T3 := kp t3
            clear t3 hD
            have u1 : (D : Int) < 256 := by omega
          · have u2 : (48 : Int) ≤ (D : Int) := by omega
            have u3 : (D : Int) ≤ 57 := by omega
            go_wp2
            go_round
            case measure => simp [intOf]
            case rel => exact ⟨2, by omega, by first | rfl | go_num, congrArg _ (by have := T3.out; have a0 : hxN q r 0 = 0 := rfl; have a1 : hxN q r 1 = q := rfl; have a2 : hxN q r 2 = 16 * q + r := rfl; omega)⟩
          · have u2 : (97 : Int) ≤ (D : Int) := by omega
            have u3 : (D : Int) ≤ 102 := by omega
            have u4 : (48 : Int) ≤ (D : Int) := by omega
            have u5 : ¬ (D : Int) ≤ 57 := by omega
            go_wp2
            go_round
            case measure => simp [intOf]
            case rel => exact ⟨2, by omega, by first | rfl | go_num, congrArg _ (by have := T3.out; have a0 : hxN q r 0 = 0 := rfl; have a1 : hxN q r 1 = q := rfl; have a2 : hxN q r 2 = 16 * q + r := rfl; omega)⟩
        · have hn2 : ((hxN q r 2 : Nat) : Int) = (C : Int) := by have := hcq.out; show ((16 * q + r : Nat) : Int) = _; omega
          have hcc2 := hk2.out.atL (cellsU8_get K k (List.getElem?_eq_some_iff.1 hc).1)
          rw [(List.getElem?_eq_some_iff.1 hc).2, hC.out] at hcc2
          have hC0 : (0 : Int) ≤ (C : Int) := by omega
          clear hcv hsl
          go_wp2
          go_roundw
          case measure => simp [intOf]; omega
          case rel => exact ⟨k + 1, by omega, by go_num, hk2, hb2⟩
    · obtain rfl : k = 32 := by omega
      go_wp2
      go_ret
      exact ⟨rfl, hb.out⟩
end Go.Proofs.Ytachnjdmjifefaa
