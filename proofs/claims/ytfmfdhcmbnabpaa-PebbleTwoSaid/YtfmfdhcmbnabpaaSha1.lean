/- sha: turned, spread. -/
import Derived.Test.YtfmfdhcmbnabpaaOct3
import Derived.Test.YtfmfdhcmbnabpaaSha0
import Derived.Test.YtfmfdhcmbnabpaaMem
namespace Go.Proofs.Ytfmfdhcmbnabpaa
open Go Go.RowKit
set_option linter.unusedVariables false
set_option linter.unusedSimpArgs false
attribute [local go_sem] bmax2 bmin2 bmax bmin cell_ext frozen_ext

theorem turned_any (n c x y : Nat) (a b : Int) (w : World) (hn : n < M32) (hc : c < M32) (ha : a = x) (hb : b = y) (hx : 1 ≤ x ∧ x ≤ 31) (hy : 1 ≤ y ∧ y ≤ 31) :
    Calls Try.prog 65 #[.int .u32 n, .int .i64 a, .int .i64 b, .int .u32 c] w fun e w' => e = .returned (.int .u32 ((rr n x ^^^ rr n y ^^^ c : Nat))) ∧ ∃ m, w' = w.drewN m := by
  have e1 : (-a) % 32 = ((32 - x : Nat) : Int) := by omega
  have e2 : (-b) % 32 = ((32 - y : Nat) : Int) := by omega
  have l1 := octet_Left_any n (-a)
  have l2 := octet_Left_any n (-b)
  rw [e1] at l1
  rw [e2] at l2
  have L1 := hid l1
  have L2 := hid l2
  have b1 : -31 ≤ a ∧ a ≤ 31 := by omega
  have b2 : -31 ≤ b ∧ b ≤ 31 := by omega
  clear l1 l2 e1 e2 ha hb
  go_enter Try.func65, Try.ntmps65
  go_wp2_with fail
  refine (L1.out _ hn).mono ?_
  rintro e w' ⟨rfl, m1, rfl⟩
  go_wp2_with fail
  refine (L2.out _ hn).mono ?_
  rintro e w' ⟨rfl, m2, rfl⟩
  go_wp2
  go_ret
  refine ⟨ret_int (k := .u32) ?_, _, rfl⟩
  have f1 := leftN_lt n (32 - x) hn (by omega)
  have f2 := leftN_lt n (32 - y) hn (by omega)
  rw [u32_xor_nat _ _ f1 f2, u32_xor_nat _ _ (xor_lt32 f1 f2) hc]
  rfl

theorem turned_i (n : Nat) (c a b : Int) (w : World) (hn : n < M32) (hc : 0 ≤ c ∧ c < 4294967296) (ha : 1 ≤ a ∧ a ≤ 31) (hb : 1 ≤ b ∧ b ≤ 31) :
    Calls Try.prog 65 #[.int .u32 n, .int .i64 a, .int .i64 b, .int .u32 c] w fun e w' => e = .returned (.int .u32 ((rr n a.toNat ^^^ rr n b.toNat ^^^ c.toNat : Nat))) ∧ ∃ m, w' = w.drewN m := by
  obtain ⟨d, rfl⟩ : ∃ d : Nat, c = d := ⟨c.toNat, by omega⟩
  exact turned_any n d a.toNat b.toNat a b w hn (show d < 4294967296 by omega) (by omega) (by omega) (by omega) (by omega)

theorem turned_n (n c : Nat) (a b : Int) (w : World) (hn : n < M32) (hc : c < M32) (ha : 1 ≤ a ∧ a ≤ 31) (hb : 1 ≤ b ∧ b ≤ 31) :
    Calls Try.prog 65 #[.int .u32 n, .int .i64 a, .int .i64 b, .int .u32 c] w fun e w' => e = .returned (.int .u32 ((rr n a.toNat ^^^ rr n b.toNat ^^^ c : Nat))) ∧ ∃ m, w' = w.drewN m :=
  turned_any n c a.toNat b.toNat a b w hn hc (by omega) (by omega) (by omega) (by omega)

theorem info_a64 : (Try.prog.info? 90).map (·.size) = some 64 := by kernel_rfl
theorem run_index32 {L : List Nat} {n : Nat} (t e : TypeId) (hu : Try.prog.underlying t = some (.array n e)) (he : (Try.prog.info? e).map (·.size) = some 1) (hua : (match Try.prog.underlying e with | some (.struct _) => true | some (.array _ _) => true | none => true | _ => false) = false) (hn : L.length = n) (k : Nat) (hk : k < n) (W : World) :
    (Instr.index t (arr32 L) (.int .i64 k)).run Try.prog W = .ok (.int .u32 ((L.getD k 0 : Nat) : Int)) W := by
  cases hq : Try.prog.info? e with
  | none => simp [hq] at he
  | some i =>
    have hs : i.size = 1 := by simpa [hq] using he
    have hc := c32_get (l := L) (i := k) (by omega)
    cases hd : Try.prog.underlying e with
    | none => rw [hd] at hua; cases hua
    | some d =>
      rw [hd] at hua
      have hagg : (isAgg e).run Try.prog W = .ok false W := by
        unfold isAgg
        rw [Sem.run_bind, run_underlying hd W]
        cases d <;> simp_all
      rw [List.getD_eq_getElem?_getD] at hc
      simp [Instr.index, arr32, asIntOf, Sem.run_bind, run_underlying hu W, part, hagg, sizeOf, typeInfo, hq, hs, hk, hc]
theorem spread_facts {W : World} {B k j : Nat} {T : TypeId} {L : List Nat} (hB : Blk W B T (c32 (L ++ List.replicate (48 - k) 0)).toArray) (hL : L.length = k + 16) (hj : k + 16 = j) (hk : k < 48) :
    W.cell? ⟨B, j - 15, none⟩ = some (.int .u32 (L.getD (k + 1) 0 : Nat)) ∧ W.cell? ⟨B, j - 2, none⟩ = some (.int .u32 (L.getD (k + 14) 0 : Nat)) ∧ W.cell? ⟨B, j - 16, none⟩ = some (.int .u32 (L.getD k 0 : Nat)) ∧ W.cell? ⟨B, j - 7, none⟩ = some (.int .u32 (L.getD (k + 9) 0 : Nat)) ∧ (∃ v, W.cell? ⟨B, j, none⟩ = some v) ∧ W.frozen? ⟨B, j, none⟩ = false ∧ B < W.heap.size := by
  have hget : ∀ i, i < k + 16 → W.cell? ⟨B, i, none⟩ = some (.int .u32 ((L.getD i 0 : Nat) : Int)) := fun i hi => by
    rw [← getD_app (m := List.replicate (48 - k) 0) (by rw [hL]; exact hi)]
    exact hB.atL (c32_get (by rw [List.length_append, hL]; omega))
  have hz := hB.atL (i := k + 16) (c32_get (by rw [List.length_append, hL, List.length_replicate]; omega))
  rw [hj] at hz
  rw [show j - 15 = k + 1 by omega, show j - 2 = k + 14 by omega, show j - 16 = k by omega, show j - 7 = k + 9 by omega]
  exact ⟨hget _ (by omega), hget _ (by omega), hget _ (by omega), hget _ (by omega), ⟨_, hz⟩, hB.frozen _, hB.lt⟩

set_option maxHeartbeats 1000000 in
set_option maxRecDepth 100000 in
theorem spread_any (p : List UInt8) (hp : p.length = 64) (w : World) :
    Calls Try.prog 64 #[.string (str p)] w fun e w' => e = .returned (arr32 (sched p)) ∧ Below w.heap.size w w' := by
  have hz : (str p).size ≤ 1099511627776 := by rw [str_size]; omega
  have P1 := hid (fun w' => octet_Parts_some (str p) 4 w' (by omega) (by omega) hz)
  go_enter Try.func64, Try.ntmps64
  go_wp2_with fail
  refine (P1.out _).mono ?_
  rintro e w1 ⟨v, rfl, ho, hb⟩
  have hk := (Blk.new w _ _).bel hb
  have HB := hid ((ba (Below.refl w.heap.size w) _).trans (hb.mono (by simp)))
  obtain ⟨ad, cp, rfl, hc⟩ := Texts.of_own ho
  have hl := chunks_len 4 (by omega) 16 p (by rw [hp])
  have hl2 : (chunks 4 (bs (str p))).length = 16 := hl
  have HC : Hid (∀ i, i < 16 → ∃ g, ad = some ⟨g, 0, none⟩ ∧ g ≠ w.heap.size ∧ w1.cell? ⟨g, i, none⟩ = some (.string (str ((p.drop (4 * i)).take 4)))) := fun i hi => by
    obtain ⟨g, h1, h2, h3⟩ := hc i (by omega)
    subst h1
    refine ⟨g, rfl, ?_, ?_⟩
    · have := (ho.lt g rfl).1
      simp at this; omega
    · rw [h3, chunks_nth 4 (by omega) i _ _]; rfl
  rw [hl2]
  clear ho hc hb hl hl2 hz
  have HK : Hid (Blk w1 w.heap.size 90 (c32 (w16 p 0 ++ List.replicate 64 0)).toArray) := hk
  clear hk
  go_wp2
  go_loopw [13] (fun i wr => ∃ k : Nat, k ≤ 16 ∧ i = .int .i64 k ∧ Hid (Blk wr w.heap.size 90 (c32 (w16 p k ++ List.replicate (64 - k) 0)).toArray) ∧ Hid (w1.grownBy wr (some w.heap.size))) (fun i _ => 16 - (intOf i).toNat)
  case atStart => exact ⟨0, Nat.zero_le _, rfl, HK, World.grownBy.refl _ _⟩
  case round =>
    obtain ⟨k, hk, rfl, hB, hg⟩ := hrel
    by_cases hlt : k < 16
    · obtain ⟨g, rfl, hg1, hg2⟩ := HC.out k hlt
      have hg3 := gbcell hg.out hg2 hg1
      have hlt' : (k : Int) < 16 := by omega
      have i2 : (0 : Int) ≤ (k : Int) := by omega
      have i3 : (k : Int) < 64 := by omega
      have t4 : (str ((p.drop (4 * k)).take 4)).size ≤ 8 := by rw [str_size]; simp; omega
      have T4 := hid (fun w' => octet_Take_any (str ((p.drop (4 * k)).take 4)) w' t4)
      have hle : k < (w16 p k ++ List.replicate (64 - k) 0).length := by rw [List.length_append, w16_length, List.length_replicate]; omega
      have s0 := (hB.out).atL (c32_get hle)
      have s1 := (hB.out).frozen k
      clear hg2 t4
      go_wp2_with fail
      refine (T4.out _).mono ?_
      rintro e w' ⟨rfl, rfl⟩
      go_wp2
      go_roundw
      case measure => simp [intOf]; omega
      case rel =>
        have e1 : (((takeN (bs (str ((p.drop (4 * k)).take 4))) : Nat) : Int) % 4294967296) = ((takeN ((p.drop (4 * k)).take 4) : Nat) : Int) := by
          have h1 := takeN_lt ((p.drop (4 * k)).take 4)
          have h2 : 256 ^ ((p.drop (4 * k)).take 4).length ≤ 256 ^ 4 := Nat.pow_le_pow_right (by omega) (by simp; omega)
          rw [bs_str]
          omega
        refine ⟨k + 1, by omega, by go_num, ?_, gbt hg.out (gbset _ _ _ _)⟩
        have := (hB.out).setL k (.int .u32 (((takeN ((p.drop (4 * k)).take 4) : Nat) : Int)))
        rw [c32_set, w16_set p k (by omega)] at this
        rw [e1]
        exact this
    · obtain rfl : k = 16 := by omega
      have HB2 : Hid (Blk wr w.heap.size 90 (c32 (more (w16 p 16) 0 ++ List.replicate (48 - 0) 0)).toArray) := hB
      have HW := hid (bgb HB.out hg.out (Nat.le_refl _) (HB.out.size))
      clear HB HK HC hB hg P1
      go_wp2
      go_loopw [7] (fun i wx => ∃ k : Nat, k ≤ 48 ∧ i = .int .i64 ((k + 16 : Nat) : Int) ∧ Hid (Blk wx w.heap.size 90 (c32 (more (w16 p 16) k ++ List.replicate (48 - k) 0)).toArray) ∧ Hid (Below w.heap.size w wx)) (fun i _ => 64 - (intOf i).toNat)
      case atStart => exact ⟨0, Nat.zero_le _, rfl, HB2, HW⟩
      case round =>
        obtain ⟨k, hk, rfl, hB, hb⟩ := hrel
        by_cases hlt : k < 48
        · have hL : (more (w16 p 16) k).length = k + 16 := by rw [more_length, w16_length]; omega
          have hL2 : ∀ x ∈ more (w16 p 16) k, x < M32 := more_lt _ (w16_lt p 16) k
          have hL3 : Hid (nxt (more (w16 p 16) k) = ((more (w16 p 16) k).getD k 0 + (more (w16 p 16) k).getD (k + 9) 0 + sg0 ((more (w16 p 16) k).getD (k + 1) 0) + sg1 ((more (w16 p 16) k).getD (k + 14) 0)) % M32) := by
            show _ = _
            unfold nxt
            rw [hL, show k + 16 - 16 = k by omega, show k + 16 - 7 = k + 9 by omega, show k + 16 - 15 = k + 1 by omega, show k + 16 - 2 = k + 14 by omega]
          have hS := more_set (w16 p 16) k (w16_length p 16) hlt
          obtain ⟨L, hLn⟩ : ∃ L, more (w16 p 16) k = L := ⟨_, rfl⟩
          rw [hLn] at hL hL2 hL3 hS hB
          obtain ⟨j, hj⟩ : ∃ j, k + 16 = j := ⟨_, rfl⟩
          rw [hj] at hS ⊢
          have FA := hid (fun W h => spread_facts (W := W) (T := 90) (B := w.heap.size) (L := L) h hL hj hlt)
          have l1 := getD_lt L hL2 (k + 1)
          have l2 := getD_lt L hL2 (k + 14)
          have l3 := getD_lt L hL2 k
          have l4 := getD_lt L hL2 (k + 9)
          generalize hx1 : L.getD (k + 1) 0 = x1 at *
          generalize hx2 : L.getD (k + 14) 0 = x2 at *
          generalize hx3 : L.getD k 0 = x3 at *
          generalize hx4 : L.getD (k + 9) 0 = x4 at *
          have b1 : (16 : Int) ≤ (j : Int) := by omega
          have b2 : (j : Int) < 64 := by omega
          have HS := hid hS
          have HJ := hid hj
          clear hS hx1 hx2 hx3 hx4 hL hL2 hj hLn
          have d1 : 0 ≤ (x1 : Int) / 8 ∧ (x1 : Int) / 8 < 4294967296 := by have : x1 < 4294967296 := l1; omega
          have d2 : 0 ≤ (x2 : Int) / 1024 ∧ (x2 : Int) / 1024 < 4294967296 := by have : x2 < 4294967296 := l2; omega
          have D1 := hid d1
          have D2 := hid d2
          clear d1 d2
          obtain ⟨c1, c2, c3, c4, _, _, _⟩ := FA.out _ hB.out
          go_wp2
          go_quiet (fail)
          have HQ := hid (hB.out.drewN nq)
          have HBQ := hid (bd hb.out nq)
          clear c1 c2 c3 c4 hB hb
          generalize (wr.drewN nq) = W at HQ HBQ ⊢
          obtain ⟨c1, c2, c3, c4, ⟨cv, c5⟩, c6, c7⟩ := FA.out _ HQ.out
          go_wp2
          refine wp_region_ext [0, 1, 2, 3, 4, 5, 6, 7, 8, 9, 10, 11, 12, 13, 14, 15, 16, 17, 18, 19, 20] [21] (by kernel_rfl) (by kernel_rfl) ?_
          simp only [List.map_cons, List.map_nil, List.getD_cons_succ, List.getD_cons_zero]
          repeat (go_big_quiet_step ((go_at_call 65; exact Calls.ext_drew (turned_i _ _ _ _ _ (by assumption) (by first | exact D1.out | exact D2.out) (by decide) (by decide)))))
          refine wpQuiet_nil ?_
          rintro z
          clear c1 c2 c3 c4 c5 c6 c7
          have HZ := hid (HQ.out.bel (ext_below W z))
          have HBZ := hid (bt' HBQ.out (ext_below W z) HBQ.out.size)
          generalize (W.ext z) = Z at HZ HBZ ⊢
          obtain ⟨_, _, _, _, ⟨cv', c5⟩, c6, c7⟩ := FA.out _ HZ.out
          go_wp2
          go_roundw
          case measure => simp [intOf]; omega
          case rel =>
            have hj := HJ.out
            refine ⟨k + 1, by omega, by rw [show k + 1 + 16 = j + 1 by omega]; go_num, ?_, hid (bsc HBZ.out (Nat.le_refl _) _)⟩
            have e : ((x3 : Int) + x4 + ((rr x1 7 ^^^ rr x1 18 ^^^ x1 / 8 : Nat) : Int) + ((rr x2 17 ^^^ rr x2 19 ^^^ x2 / 1024 : Nat) : Int)) % 4294967296 = ((nxt L : Nat) : Int) := by
              rw [hL3.out]
              unfold sg0 sg1
              simp
            rw [e]
            have := HZ.out.setL j (.int .u32 ((nxt L : Nat) : Int))
            rw [c32_set, HS.out] at this
            exact this
        · obtain rfl : k = 48 := by omega
          have HBL : Hid (Blk wr w.heap.size 90 (c32 (sched p)).toArray) := by
            have := hB.out
            rw [show List.replicate (48 - 48) 0 = ([] : List Nat) from rfl, List.append_nil] at this
            exact this
          clear hB
          have hSl := sched_length p
          obtain ⟨S, hS⟩ : ∃ S, sched p = S := ⟨_, rfl⟩
          rw [hS] at HBL hSl
          have HS := hid hS
          clear hS
          have LD := ld_all (P := Try.prog) (w := wr) w.heap.size 64 90 _ (c32 S) _ Try.underlying90 rfl info_a64 (by rw [length_c32, hSl]) HBL.out
          have ST := sc_same (P := Try.prog) (w := wr) w.heap.size 90 (c32 S) HBL.out (c32_one _)
          have hSl2 : (c32 S).length = 64 := by rw [length_c32, hSl]
          have HSl := hid hSl
          clear hSl
          go_wp2_with (refine wpL_load rfl 90 _ rfl rfl LD ?_)
          refine bodyPost_ret (v := arr32 S) ?_ rfl ⟨by rw [HS.out], hb.out⟩
          exact res_all Try.results64 w.heap.size 64 _ (c32 S) _ Try.underlying90 rfl info_a64 (by rw [length_c32, HSl.out]) HBL.out _ rfl
end Go.Proofs.Ytfmfdhcmbnabpaa
