/- Texts laid together: RSha3, RSha4, Mac0, Mac1, Mac2, Mac3, RMac1, RMac2, Eq2. -/
import Derived.Maps.AppendAt
import Derived.Test.YtmblknknbbdmeaaGreatRcb4
/- the reference's sha: Sum. -/
namespace Go.Proofs.YtmblknknbbdmeaaGreat
open Go Go.RowKit
set_option linter.unusedVariables false
set_option linter.unusedSimpArgs false
attribute [local go_sem] bmax2 bmin2 bmax bmin cell_ext frozen_ext

theorem v8_own {W : World} {B g cap : Nat} {T : TypeId} {a b c d e f g' h : Nat} (hB : W.ownsRow B T 1 (.slice (some ⟨g, 0, none⟩) 8 cap) 8 (c32 [a, b, c, d, e, f, g', h])) :
    W.cell? ⟨g, 0, none⟩ = some (.int .u32 (a : Int)) ∧ W.cell? ⟨g, 1, none⟩ = some (.int .u32 (b : Int)) ∧ W.cell? ⟨g, 2, none⟩ = some (.int .u32 (c : Int)) ∧ W.cell? ⟨g, 3, none⟩ = some (.int .u32 (d : Int)) ∧ W.cell? ⟨g, 4, none⟩ = some (.int .u32 (e : Int)) ∧ W.cell? ⟨g, 5, none⟩ = some (.int .u32 (f : Int)) ∧ W.cell? ⟨g, 6, none⟩ = some (.int .u32 (g' : Int)) ∧ W.cell? ⟨g, 7, none⟩ = some (.int .u32 (h : Int)) ∧ g < W.heap.size :=
  ⟨own32_cell hB rfl 0 (by omega), own32_cell hB rfl 1 (by omega), own32_cell hB rfl 2 (by omega), own32_cell hB rfl 3 (by omega), own32_cell hB rfl 4 (by omega), own32_cell hB rfl 5 (by omega), own32_cell hB rfl 6 (by omega), own32_cell hB rfl 7 (by omega), (own_lt hB).2⟩
theorem own_cap {w : World} {B e size n : Nat} {g c : Nat} {xs : List Value} (h : w.ownsRow B e size (.slice (some ⟨g, 0, none⟩) n c) n xs) : n ≤ c := by
  rcases h.2 with ⟨h', _⟩ | ⟨g', cap', cur, h', _, hg, hc, _⟩
  · simp at h'
  · simp only [Value.slice.injEq, Option.some.injEq, Addr.mk.injEq, and_true, true_and] at h'
    obtain ⟨rfl, rfl⟩ := h'
    exact hc
theorem ch_eq' (e f g : Nat) (he : e < M32) (hf : f < M32) (hg : g < M32) :
    bits .xor .u32 (bits .and .u32 (e : Int) (f : Int)) (bits .and .u32 (bits .xor .u32 IntKind.u32.max (e : Int)) (g : Int)) = ((chN e f g : Nat) : Int) := ch_eq e f g he hf hg
theorem bg_eq (x a b c : Nat) (h : x < M32) (ha : 1 ≤ a) (hb : 1 ≤ b) (hc : 1 ≤ c) : bits .xor .u32 (bits .xor .u32 ((rr x a : Nat) : Int) ((rr x b : Nat) : Int)) ((rr x c : Nat) : Int) = ((rr x a ^^^ rr x b ^^^ rr x c : Nat) : Int) := by
  rw [u32_xor_nat _ _ (rr_lt _ _ h ha) (rr_lt _ _ h hb), u32_xor_nat _ _ (xor_lt32 (rr_lt _ _ h ha) (rr_lt _ _ h hb)) (rr_lt _ _ h hc)]
theorem ma_eq' (a b c : Nat) (ha : a < M32) (hb : b < M32) (hc : c < M32) :
    bits .xor .u32 (bits .xor .u32 (bits .and .u32 (a : Int) (b : Int)) (bits .and .u32 (a : Int) (c : Int))) (bits .and .u32 (b : Int) (c : Int)) = ((maN a b c : Nat) : Int) := by
  rw [u32_and_nat _ _ ha hb, u32_and_nat _ _ ha hc, u32_and_nat _ _ hb hc, u32_xor_nat _ _ (and_lt32 ha) (and_lt32 ha), u32_xor_nat _ _ (xor_lt32 (and_lt32 ha) (and_lt32 ha)) (and_lt32 hb), ma_xor]

theorem sum_ar {nb j q sz : Nat} (h : 64 * j = q) (hlt : j < nb) (hs : sz = 64 * nb) (hn : nb ≤ 17179869190) : (q : Int) + 64 ≤ (sz : Int) ∧ (0 : Int) ≤ (q : Int) ∧ sz ≤ 1099511628160 := by omega
theorem sum_pl {nb j : Nat} {M : List UInt8} (hlt : j < nb) (hs : M.length = 64 * nb) : ((M.drop (64 * j)).take 64).length = 64 := by simp; omega

/-- the first i of l, and bytes 0 for the others -/
def partU (l : List UInt8) (i : Nat) : List UInt8 := l.take i ++ List.replicate (l.length - i) 0
theorem partU_zero (l : List UInt8) : partU l 0 = List.replicate l.length 0 := by simp [partU]
theorem partU_all (l : List UInt8) : partU l l.length = l := by simp [partU]
theorem partU_length (l : List UInt8) (i : Nat) (h : i ≤ l.length) : (partU l i).length = l.length := by simp [partU]; omega
theorem partU_set (l : List UInt8) (i : Nat) (c : UInt8) (h : l[i]? = some c) : (partU l i).set i c = partU l (i + 1) := by
  obtain ⟨h1, h2⟩ := List.getElem?_eq_some_iff.1 h
  unfold partU
  rw [List.set_append_right _ _ (by simp; omega), show i - (l.take i).length = 0 by simp; omega, show l.length - i = (l.length - (i + 1)) + 1 by omega, List.replicate_succ, List.set_cons_zero, List.take_succ_eq_append_getElem h1, h2, List.append_assoc]
  rfl
theorem outB_at (v : V8) (q r : Nat) (hq : q < 8) (hr : r < 4) : (outB v)[4 * q + r]? = some (UInt8.ofNat (v.list.getD q 0 / 256 ^ (3 - r) % 256)) := by
  match q, r, hq, hr with
  | 0, 0, _, _ | 0, 1, _, _ | 0, 2, _, _ | 0, 3, _, _ | 1, 0, _, _ | 1, 1, _, _ | 1, 2, _, _ | 1, 3, _, _ | 2, 0, _, _ | 2, 1, _, _ | 2, 2, _, _ | 2, 3, _, _ | 3, 0, _, _ | 3, 1, _, _ | 3, 2, _, _ | 3, 3, _, _
  | 4, 0, _, _ | 4, 1, _, _ | 4, 2, _, _ | 4, 3, _, _ | 5, 0, _, _ | 5, 1, _, _ | 5, 2, _, _ | 5, 3, _, _ | 6, 0, _, _ | 6, 1, _, _ | 6, 2, _, _ | 6, 3, _, _ | 7, 0, _, _ | 7, 1, _, _ | 7, 2, _, _ | 7, 3, _, _ => rfl
  | q + 8, _, h, _ => omega
  | _, r + 4, _, h => omega

set_option maxHeartbeats 4000000 in
set_option maxRecDepth 100000 in
theorem R_Sum (m : List UInt8) (hm : m.length ≤ 1099511627776) (w : World) :
    Calls Tryz.prog 79 #[.string (str m)] w fun e w' => e = .returned (keyV (digest m)) ∧ Below w.heap.size w w' := by
  obtain ⟨i0, hi, hz0, hz1, hz2⟩ := info_parts info_u32
  have Hz2 := kp hz2
  have Hz1 := kp hz1
  clear hz1 hz2
  have HF := kp (fun w' => R_filled m hm w')
  obtain ⟨nb, hnb⟩ : ∃ nb, (m ++ padB m).length = 64 * nb := ⟨(m ++ padB m).length / 64, by rw [List.length_append, padB_length]; unfold gapN; omega⟩
  have hnb2 : nb ≤ 17179869190 := by rw [List.length_append, padB_length] at hnb; unfold gapN at hnb; omega
  have HD : Kp (digest m = outB (hRun h0V nb (m ++ padB m))) := kp (by unfold digest hOf; rw [hnb, show 64 * nb / 64 = nb by omega])
  obtain ⟨M, hMn⟩ : ∃ M, m ++ padB m = M := ⟨_, rfl⟩
  rw [hMn] at HF HD hnb
  have hsz : (str M).size = 64 * nb := by rw [str_size]; exact hnb
  have HNB := kp hnb
  have hok := kp (fun j => hRun_ok j h0V M h0V_ok)
  have HRS := kp (fun j => hRun_succ h0V j M)
  have hH0 : Kp (hRun h0V 0 M = h0V) := kp rfl
  generalize hRun h0V = H at hok HRS hH0 HD
  obtain ⟨KL, hKL⟩ : ∃ KL, c32 kL = KL := ⟨_, rfl⟩
  have HKL : Kp (∀ i, i < 64 → KL[i]? = some (.int .u32 ((kL.getD i 0 : Nat) : Int))) := kp (fun i hi => by rw [← hKL]; exact c32_get hi)
  have HRC := kp (fun w => R_constants w)
  rw [hKL] at HRC
  clear hMn hm hnb hKL
  unfold keyV
  have K2 := kp ((Blk.new w 27 (cellsU8 (List.replicate 32 0)).toArray).alloc (.cells (c32 h0V.list).toArray 22))
  have K3 := kp (Blk.new (w.alloc (.cells (cellsU8 (List.replicate 32 0)).toArray 27)) 22 (c32 h0V.list).toArray)
  have HB := kp (ba (ba (Below.refl w.heap.size w) (.cells (cellsU8 (List.replicate 32 0)).toArray 27)) (.cells (c32 h0V.list).toArray 22))
  have hws : ((w.alloc (.cells (cellsU8 (List.replicate 32 0)).toArray 27)).alloc (.cells (c32 h0V.list).toArray 22)).heap.size = w.heap.size + 1 + 1 := by rw [size_all, size_all]
  rw [size_all] at K3
  have HWS := kp hws
  clear hws
  go_enter Tryz.func79, Tryz.ntmps79
  go_wp2_with fail
  change Calls Tryz.prog _ _ ((w.alloc (.cells (cellsU8 (List.replicate 32 0)).toArray 27)).alloc (.cells (c32 h0V.list).toArray 22)) _
  generalize ((w.alloc (.cells (cellsU8 (List.replicate 32 0)).toArray 27)).alloc (.cells (c32 h0V.list).toArray 22)) = W1 at K2 K3 HB HWS ⊢
  refine (HRC.out _).mono ?_
  rintro e w2 ⟨rfl, hb2, hk2⟩
  rw [HWS.out] at hk2 ⊢
  have K4 := kp hk2
  have K3' := kp (K3.out.bel hb2)
  have K2' := kp (K2.out.bel hb2)
  have HB' := kp (bt' HB.out hb2 HB.out.size)
  clear hb2 hk2 K2 K3 HB HWS
  go_wp2_with fail
  refine (HF.out _).mono ?_
  rintro e w3 ⟨rfl, hb3⟩
  have K4 := kp (K4.out.bel hb3)
  have K3 : Kp (Blk w3 (w.heap.size + 1) 22 (c32 (H 0 M).list).toArray) := kp (by rw [hH0.out]; exact K3'.out.bel hb3)
  have K2 := kp (K2'.out.bel hb3)
  have HB := kp (bt' HB'.out hb3 HB'.out.size)
  clear hb3 K2' K3' HB' HF
  go_wp2 -- first
  go_loopw [6] (fun i wr => ∃ j : Nat, j ≤ nb ∧ i = .int .i64 ((64 * j : Nat) : Int) ∧ Kp (Blk wr w.heap.size 27 (cellsU8 (List.replicate 32 0)).toArray) ∧ Kp (Blk wr (w.heap.size + 1) 22 (c32 (H j M).list).toArray) ∧ Kp (Blk wr (w.heap.size + 1 + 1) 22 KL.toArray) ∧ Kp (Below w.heap.size w wr)) (fun i _ => 64 * nb - (intOf i).toNat)
  case atStart => exact ⟨0, Nat.zero_le _, rfl, K2, K3, K4, HB⟩
  case round =>
    clear K2 K3 K4 HB
    obtain ⟨j, hj, rfl, K2, K3, K4, HB⟩ := hrel
    by_cases hlt : j < nb
    · obtain ⟨q, hq⟩ : ∃ q, 64 * j = q := ⟨_, rfl⟩
      obtain ⟨q1, q2, q3⟩ := sum_ar hq hlt hsz hnb2
      have HJN := kp hlt
      have hx : (str M).extract q (q + 64) = str ((M.drop (64 * j)).take 64) := by rw [extract_str, hq, show q + 64 - q = 64 by omega]
      have hpl := sum_pl hlt HNB.out
      have HN := kp (fun w' => R_numbers ((M.drop (64 * j)).take 64) hpl w')
      have HQ := kp hq
      rw [hq]
      have hoj := kp (hok.out j)
      have hrs := kp (HRS.out j)
      clear hpl hq
      generalize (M.drop (64 * j)).take 64 = p at HN hrs hx
      generalize H j M = V at hrs K3 hoj
      have HSZ := kp hsz
      clear hsz
      go_wp2_with fail
      refine (HN.out _).mono ?_
      rintro e w4 ⟨gw, cw, rfl, ho, hb4⟩
      have hgw := kp (own_lt ho)
      have K2' := kp (K2.out.bel hb4)
      have K3' := kp (K3.out.bel hb4)
      have K4' := kp (K4.out.bel hb4)
      have HB' := kp (bt' HB.out hb4 HB.out.size)
      have hw1 := kp (K3.out.lt)
      have hw2 := kp (K4.out.lt)
      have HOW := kp ho
      clear K2 K3 K4 HB hb4 ho HN
      have hl8 : (c32 V.list).length = 8 := rfl
      have hnews : ∀ (i : Nat) (u : Value), (c32 V.list)[i]? = some u → (w4.alloc (.cells #[] 22)).cell? ((⟨w.heap.size + 1, 0, none⟩ : Addr).add i) = some u := fun i u hu => by
        rw [addr_add, Nat.zero_add]
        exact (K3'.out.alloc _).atL hu
      have h1c := c32_one V.list
      have hVL : Kp (c32 V.list = c32 (rounds (sched p) V 0).list) := kp rfl
      obtain ⟨VL, hVLn⟩ : ∃ VL, c32 V.list = VL := ⟨_, rfl⟩
      rw [hVLn] at hl8 hnews h1c hVL
      have HNEWS := kp hnews
      have HVN := kp hVLn
      clear hnews hVLn
      go_wp2_with (at_builtin; refine wpList_append_own _ rfl _ _ 100 rfl w4.heap.size 22 i0 (.int .u32 0) 1 4 Tryz.underlying100 hi hz0 Hz1.out Hz2.out rfl (by decide) _ _ _ rfl (World.ownsRow_lit w4 #[] 0 (Nat.le_refl _) (by unfold maxLen; omega) rfl) ⟨w.heap.size + 1, 0, none⟩ 8 8 VL rfl ?c0 ?c1 h1c ?c3 ?c4 ?c5 ?_)
      case c0 => exact hl8
      case c1 => exact HNEWS.out
      case c3 => unfold maxLen; omega
      case c4 => omega
      case c5 => simp
      intro v' w5 hown' hgrow' _
      obtain ⟨g, cap, rfl, -, -⟩ := World.ownsRow.form hown' (by omega)
      have HV : Kp (w5.ownsRow w4.heap.size 22 1 (.slice (some ⟨g, 0, none⟩) 8 cap) 8 (c32 (rounds (sched p) V 0).list)) := kp (by rw [← hVL.out]; simpa using hown')
      have HG := kp (((Below.refl w4.heap.size w4).alloc (Nat.le_refl _) (.cells #[] 22)).grown hgrow' (by simp) (fun x hx => by simp [Value.ownBlock] at hx; omega))
      clear hown' hgrow' h1c hl8
      go_wp2
      go_loopw [8, 9] (fun v i wx => ∃ (k g cap : Nat), k ≤ 64 ∧ i = .int .i64 (k : Int) ∧ v = .slice (some ⟨g, 0, none⟩) 8 cap ∧ Kp (wx.ownsRow w4.heap.size 22 1 (.slice (some ⟨g, 0, none⟩) 8 cap) 8 (c32 (rounds (sched p) V k).list)) ∧ Kp (Below w4.heap.size w4 wx)) (fun _ i _ => 64 - (intOf i).toNat)
      case atStart => exact ⟨0, g, cap, Nat.zero_le _, rfl, rfl, HV, HG⟩
      case round =>
        clear HV HG
        obtain ⟨k, g, cap, hk, rfl, rfl, HV, HG⟩ := hrel
        by_cases hlt : k < 64
        · have hlt' : (k : Int) < 64 := by clear q1 q3; omega
          have i2 : (0 : Int) ≤ (k : Int) := Int.natCast_nonneg _
          have HOK := kp (rounds_ok hoj.out (sched p) k)
          have HR : Kp (rounds (sched p) V (k + 1) = rnd (rounds (sched p) V k) (kL.getD k 0) ((sched p).getD k 0)) := kp rfl
          have cs := own32_cell HOW.out (sched_length p) k hlt
          have ck := K4'.out.atL (HKL.out k hlt)
          have HKB := kp (getD_lt kL kL_lt k)
          have HSB := kp (getD_lt (sched p) (sched_lt p) k)
          generalize kL.getD k 0 = kk at ck HKB HR
          generalize (sched p).getD k 0 = ss at cs HSB HR
          obtain ⟨R, hR⟩ : ∃ R, rounds (sched p) V k = R := ⟨_, rfl⟩
          rw [hR] at HV HOK HR
          obtain ⟨x1, x2, x3, x4, x5, x6, x7, x8⟩ := R
          have HR0 := kp hR
          clear hR
          obtain ⟨y1, y2, y3, y4, y5, y6, y7, y8⟩ := (V8.ok_iff _).1 HOK.out
          simp only at y1 y2 y3 y4 y5 y6 y7 y8
          have HY := kp HOK.out
          have Y1 := kp y1
          have Y5 := kp y5
          have CS := kp cs
          have CK := kp ck
          have FA : Kp (∀ W, Below w4.heap.size w4 W → W.ownsRow w4.heap.size 22 1 (.slice (some ⟨g, 0, none⟩) 8 cap) 8 (c32 [x1, x2, x3, x4, x5, x6, x7, x8]) → W.cell? ⟨gw, k, none⟩ = some (.int .u32 (ss : Int)) ∧ W.cell? ⟨w.heap.size + 1 + 1, k, none⟩ = some (.int .u32 (kk : Int)) ∧ gw < W.heap.size ∧ w.heap.size + 1 + 1 < W.heap.size) := kp (fun W hb _ => by
            have l1 := hgw.out.2
            have l2 := K4'.out.lt
            refine ⟨(hb.cell (p := ⟨gw, k, none⟩) l1).trans CS.out, (hb.cell (p := ⟨w.heap.size + 1 + 1, k, none⟩) l2).trans CK.out, Nat.lt_of_lt_of_le l1 hb.size, Nat.lt_of_lt_of_le l2 hb.size⟩)
          have g1 := bg_eq x5 6 11 25 y5 (by decide) (by decide) (by decide)
          have g0 := bg_eq x1 2 13 22 y1 (by decide) (by decide) (by decide)
          have gc := ch_eq x5 x6 x7 y5 y6 y7
          have gm := ma_eq' x1 x2 x3 y1 y2 y3
          clear cs ck y1 y2 y3 y4 y5 y6 y7 y8
          have HV : Kp (wr.ownsRow w4.heap.size 22 1 (.slice (some ⟨g, 0, none⟩) 8 cap) 8 (c32 [x1, x2, x3, x4, x5, x6, x7, x8])) := HV
          obtain ⟨c0, c1, c2, c3, c4, c5, c6, c7, c8⟩ := v8_own HV.out
          obtain ⟨cs, ck, cl1, cl2⟩ := FA.out _ HG.out HV.out
          go_wp2
          refine wp_region_ext [0, 1, 2, 3, 4, 5, 6, 7, 8, 9, 10, 11, 12, 13, 14, 15, 16, 17, 18, 19, 20, 21, 22, 23, 24, 25, 26, 27, 28, 29, 30, 31, 32, 33, 34] [35] (by kernel_rfl) (by kernel_rfl) ?_
          simp only [List.map_cons, List.map_nil, List.getD_cons_succ, List.getD_cons_zero]
          repeat (go_big_quiet_step ((go_at_call 113; exact Calls.ext_drew (R_right_i _ _ _ Y5.out (by decide)))))
          refine wpQuiet_nil ?_
          rintro z
          clear c0 c1 c2 c3 c4 c5 c6 c7 c8 cs ck cl1 cl2
          have HV2 := kp (own_below HV.out (ext_below wr z))
          have HG2 := kp (bt' HG.out (ext_below wr z) HG.out.size)
          clear HV HG
          generalize (wr.ext z) = Z at HV2 HG2 ⊢
          obtain ⟨c0, c1, c2, c3, c4, c5, c6, c7, c8⟩ := v8_own HV2.out
          go_wp2
          refine wp_region_ext [0, 1, 2, 3, 4, 5, 6, 7, 8, 9, 10, 11, 12, 13, 14, 15, 16, 17, 18, 19, 20, 21, 22, 23, 24, 25, 26, 27] [28] (by kernel_rfl) (by kernel_rfl) ?_
          simp only [List.map_cons, List.map_nil, List.getD_cons_succ, List.getD_cons_zero]
          repeat (go_big_quiet_step ((go_at_call 113; exact Calls.ext_drew (R_right_i _ _ _ Y1.out (by decide)))))
          refine wpQuiet_nil ?_
          rintro y
          clear c0 c1 c2 c3 c4 c5 c6 c7 c8
          have HV := kp (own_below HV2.out (ext_below Z y))
          have HG := kp (bt' HG2.out (ext_below Z y) HG2.out.size)
          clear HV2 HG2
          generalize (Z.ext y) = Y at HV HG ⊢
          have eT : ((x8 : Int) + ((rr x5 6 ^^^ rr x5 11 ^^^ rr x5 25 : Nat) : Int) + ((chN x5 x6 x7 : Nat) : Int) + (kk : Int) + (ss : Int)) % 4294967296 = ((t1N ⟨x1, x2, x3, x4, x5, x6, x7, x8⟩ kk ss : Nat) : Int) := by
            unfold t1N bg1
            simp
          have eU : (((rr x1 2 ^^^ rr x1 13 ^^^ rr x1 22 : Nat) : Int) + ((maN x1 x2 x3 : Nat) : Int)) % 4294967296 = ((t2N ⟨x1, x2, x3, x4, x5, x6, x7, x8⟩ : Nat) : Int) := by
            unfold t2N bg0
            simp
          rw [eT, eU]
          have HRR : Kp ((rounds (sched p) V (k + 1)).list = [(t1N ⟨x1, x2, x3, x4, x5, x6, x7, x8⟩ kk ss + t2N ⟨x1, x2, x3, x4, x5, x6, x7, x8⟩) % M32, x1, x2, x3, (x4 + t1N ⟨x1, x2, x3, x4, x5, x6, x7, x8⟩ kk ss) % M32, x5, x6, x7]) := kp (by rw [HR.out]; rfl)
          clear g1 g0 gc gm eT eU
          generalize t1N ⟨x1, x2, x3, x4, x5, x6, x7, x8⟩ kk ss = tt at HRR ⊢
          generalize t2N ⟨x1, x2, x3, x4, x5, x6, x7, x8⟩ = uu at HRR ⊢
          have e0 : ((tt : Int) + (uu : Int)) % 4294967296 = (((tt + uu) % M32 : Nat) : Int) := by simp
          have e4 : ((x4 : Int) + (tt : Int)) % 4294967296 = (((x4 + tt) % M32 : Nat) : Int) := by simp
          generalize (tt + uu) % M32 = n0 at HRR e0
          generalize (x4 + tt) % M32 = n4 at HRR e4
          have hbs := HG.out.size
          have hc8 := own_cap HV.out
          have hc7 : (7 : Int) ≤ (cap : Int) := by clear q1 q3; omega
          have hl7 : (c32 [x1, x2, x3, x4, x5, x6, x7]).length = 7 := rfl
          have h7c := c32_one [x1, x2, x3, x4, x5, x6, x7]
          have HNEWS := kp (fun (i : Nat) (u : Value) (hu : (c32 [x1, x2, x3, x4, x5, x6, x7])[i]? = some u) => (World.ownsRow.cells (HV.out.alloc (.cells #[.int .u32 (n0 : Int)] 22)) (g := g) rfl i u (by
            rw [show c32 [x1, x2, x3, x4, x5, x6, x7, x8] = c32 [x1, x2, x3, x4, x5, x6, x7] ++ [.int .u32 (x8 : Int)] from rfl, List.getElem?_append_left (List.getElem?_eq_some_iff.1 hu).1]
            exact hu)))
          have HXS : Kp ([Value.int .u32 (n0 : Int)] ++ c32 [x1, x2, x3, x4, x5, x6, x7] = c32 [n0, x1, x2, x3, x4, x5, x6, x7]) := kp rfl
          generalize c32 [x1, x2, x3, x4, x5, x6, x7] = N7 at HNEWS HXS hl7 h7c
          go_wp2_with (at_builtin; refine wpList_append_own _ rfl _ _ 100 rfl w4.heap.size 22 i0 (.int .u32 0) 1 4 Tryz.underlying100 hi hz0 Hz1.out Hz2.out rfl (by decide) _ _ _ rfl (World.ownsRow_lit Y #[.int .u32 (n0 : Int)] 1 hbs (by unfold maxLen; omega) rfl) ⟨g, 0, none⟩ 7 cap N7 rfl ?c0 ?c1 h7c ?c3 ?c4 ?c5 ?_)
          case c0 => exact hl7
          case c1 => exact HNEWS.out
          case c3 => unfold maxLen; omega
          case c4 => omega
          case c5 => simp; omega
          intro v' w5 hown' hgrow' _
          obtain ⟨g', cap', rfl, -, -⟩ := World.ownsRow.form hown' (by omega)
          have HV3 : Kp (w5.ownsRow w4.heap.size 22 1 (.slice (some ⟨g', 0, none⟩) 8 cap') 8 (c32 [n0, x1, x2, x3, x4, x5, x6, x7])) := kp (by rw [← HXS.out]; simpa using hown')
          have HG3 := kp ((HG.out.alloc hbs (.cells #[.int .u32 (n0 : Int)] 22)).grown hgrow' (by simp; omega) (fun x hx => by simp [Value.ownBlock] at hx; omega))
          clear hown' hgrow' h7c hl7 hbs HV HG
          obtain ⟨c0, c1, c2, c3, c4, c5, c6, c7, c8⟩ := v8_own HV3.out
          have f4 := World.ownsRow.frozenAt HV3.out 4
          go_wp2
          go_roundw
          case measure => clear q1 q3; simp [intOf]; omega
          case rel =>
            refine ⟨k + 1, g', cap', by clear q1 q3; omega, by go_num, rfl, kp ?_, kp (bsc HG3.out (own_lt HV3.out).1 _)⟩
            rw [HRR.out]
            exact (World.ownsRow.stored HV3.out 4 _).1
        · obtain rfl : k = 64 := by clear q1 q3; omega
          obtain ⟨F, hF⟩ : ∃ F, rounds (sched p) V 64 = F := ⟨_, rfl⟩
          have HPF : Kp (press V p = addV V F) := kp (by rw [← hF]; rfl)
          rw [hF] at HV
          have hgl := own_lt HV.out
          have h3 : Kp (Blk wr (w.heap.size + 1) 22 (c32 (mixL (addV V F).list V.list 0)).toArray) := kp (K3'.out.bel HG.out)
          have h2 := kp (K2'.out.bel HG.out)
          have h4 := kp (K4'.out.bel HG.out)
          have hbb := kp (bt' HB'.out HG.out HB'.out.size)
          have hgne : g ≠ w.heap.size + 1 := by have := K3'.out.lt; clear q1 q3; omega
          have HGN := kp hgne
          clear hgl hgne HG K2' K3' K4' HB' HOW hgw hF
          go_wp2
          go_loopw [14] (fun i wx => ∃ k : Nat, k ≤ 8 ∧ i = .int .i64 (k : Int) ∧ Kp (Blk wx (w.heap.size + 1) 22 (c32 (mixL (addV V F).list V.list k)).toArray) ∧ Kp (wx.ownsRow w4.heap.size 22 1 (.slice (some ⟨g, 0, none⟩) 8 cap) 8 (c32 F.list)) ∧ Kp (Blk wx w.heap.size 27 (cellsU8 (List.replicate 32 0)).toArray) ∧ Kp (Blk wx (w.heap.size + 1 + 1) 22 KL.toArray) ∧ Kp (Below w.heap.size w wx)) (fun i _ => 8 - (intOf i).toNat)
          case atStart => exact ⟨0, Nat.zero_le _, rfl, h3, HV, h2, h4, hbb⟩
          case round =>
            clear h3 HV h2 h4 hbb
            obtain ⟨k, hk, rfl, h3, HV, h2, h4, hbb⟩ := hrel
            by_cases hlt : k < 8
            · have hlt' : (k : Int) < 8 := by clear q1 q3; omega
              have i2 : (0 : Int) ≤ (k : Int) := Int.natCast_nonneg _
              have hset := mixL_set (addV V F).list V.list k rfl hlt
              rw [addV_get _ _ k hlt] at hset
              have HSET := kp hset
              have FA : Kp (∀ W : World, Blk W (w.heap.size + 1) 22 (c32 (mixL (addV V F).list V.list k)).toArray → W.ownsRow w4.heap.size 22 1 (.slice (some ⟨g, 0, none⟩) 8 cap) 8 (c32 F.list) →
                  W.cell? ⟨w.heap.size + 1, k, none⟩ = some (.int .u32 ((V.list.getD k 0 : Nat) : Int)) ∧ W.cell? ⟨g, k, none⟩ = some (.int .u32 ((F.list.getD k 0 : Nat) : Int)) ∧ W.frozen? ⟨w.heap.size + 1, k, none⟩ = false ∧ g < W.heap.size ∧ w.heap.size + 1 < W.heap.size) := kp (fun W a b => by
                refine ⟨?_, own32_cell b rfl k hlt, a.frozen _, (own_lt b).2, a.lt⟩
                refine a.atL ?_
                rw [c32_get (by rw [mixL_length (addV V F).list V.list k rfl (Nat.le_of_lt hlt)]; exact hlt), mixL_get (addV V F).list V.list k rfl hlt])
              clear hset
              generalize V.list.getD k 0 = x at FA HSET
              generalize F.list.getD k 0 = y at FA HSET
              obtain ⟨c1, c2, c3, c4, c5⟩ := FA.out _ h3.out HV.out
              go_wp2
              refine wp_region_ext [0, 1, 2, 3, 4, 5, 6, 7, 8, 9, 10, 11] [12] (by kernel_rfl) (by kernel_rfl) ?_
              simp only [List.map_cons, List.map_nil, List.getD_cons_succ, List.getD_cons_zero]
              repeat (go_big_quiet_step (fail))
              refine wpQuiet_nil ?_
              rintro z
              have z3 := kp (h3.out.bel (ext_below wr z))
              have zv := kp (own_below HV.out (ext_below wr z))
              have z2 := kp (h2.out.bel (ext_below wr z))
              have z4 := kp (h4.out.bel (ext_below wr z))
              have zb := kp (bt' hbb.out (ext_below wr z) hbb.out.size)
              clear c1 c2 c3 c4 c5 h3 HV h2 h4 hbb
              generalize (wr.ext z) = Z at z3 zv z2 z4 zb ⊢
              obtain ⟨c1, c2, c3, c4, c5⟩ := FA.out _ z3.out zv.out
              go_wp2
              go_roundw
              case measure => clear q1 q3; simp [intOf]; omega
              case rel =>
                refine ⟨k + 1, by clear q1 q3; omega, by go_num, kp ?_, kp (zv.out.kept (gbset _ _ _ _) (Or.inr (by intro e; injection e with e; exact HGN.out e))), kp (z2.out.far (by simp) _), kp (z4.out.far (by simp) _), kp (bsc zb.out (by simp) _)⟩
                have e : ((x : Int) + (y : Int)) % 4294967296 = (((x + y) % M32 : Nat) : Int) := by simp
                rw [e]
                have := z3.out.setL k (.int .u32 (((x + y) % M32 : Nat) : Int))
                rw [c32_set, HSET.out] at this
                exact this
            · obtain rfl : k = 8 := by clear q1 q3; omega
              have h3 : Kp (Blk wr (w.heap.size + 1) 22 (c32 (H (j + 1) M).list).toArray) := kp (by
                have := h3.out
                rw [show mixL (addV V F).list V.list 8 = (addV V F).list from mixL_all _ V.list rfl, ← HPF.out, ← hrs.out] at this
                exact this)
              go_wp2
              go_roundw
              case measure => have a := HQ.out; have b := HJN.out; clear q1 q3; simp [intOf]; omega
              case rel => exact ⟨j + 1, HJN.out, by rw [show 64 * (j + 1) = q + 64 by have a := HQ.out; clear q1 q3; omega]; go_num, h2, h3, h4, hbb⟩
    · obtain rfl : j = nb := by omega
      obtain ⟨q, hq⟩ : ∃ q, 64 * j = q := ⟨_, rfl⟩
      rw [hq] at hsz ⊢
      have hsi : ((str M).size : Int) = (q : Int) := by rw [hsz]
      have hdc : decide ((q : Int) < ((str M).size : Int)) = false := by rw [hsi]; simp
      clear hsz hq
      have HSI := kp hsi
      go_upto_region 22 with (fail)
      clear hdc hsi
      obtain ⟨ZL, hZL⟩ : ∃ ZL : List UInt8, List.replicate 32 0 = ZL := ⟨_, rfl⟩
      have hl32 : (cellsU8 ZL).length = 32 := by rw [length_cellsU8, ← hZL, List.length_replicate]
      have SC := fun (cur : Array Value) (h : cur.size = 32) => sc_new (P := Tryz.prog) wr 27 (cellsU8 ZL) (cellsU8_one _) cur (by rw [hl32]; exact h)
      rw [hZL] at K2
      have HZL := kp hZL
      clear hZL
      go_wp2_with (refine wpL_val 139 rfl rfl (.agg (cellsU8 ZL).toArray) (by rw [← HZL.out]; kernel_rfl) ?_)
      clear SC
      have hol := outB_length (H j M)
      have hok' := hok.out j
      generalize H j M = V at hol hok' K3 HD
      have h5 : Kp (Blk (wr.alloc (.cells (cellsU8 (ZL)).toArray 27)) wr.heap.size 27 (cellsU8 (partU (outB V) 0)).toArray) := kp (by rw [partU_zero, hol, HZL.out]; exact Blk.new wr _ _)
      have h2 := kp (K2.out.alloc (.cells (cellsU8 (ZL)).toArray 27))
      have h3 := kp (K3.out.alloc (.cells (cellsU8 (ZL)).toArray 27))
      have hbb := kp (ba HB.out (.cells (cellsU8 (ZL)).toArray 27))
      have hbs := HB.out.size
      have hb3 : w.heap.size + 1 < wr.heap.size := K3.out.lt
      generalize wr.heap.size = b5 at h5 hb3 ⊢
      have HOL := kp hol
      have HB3 := kp hb3
      clear K2 K3 K4 HB hbs hol hb3 HRS hH0 hok hl32
      go_loopw [16] (fun i wx => ∃ k : Nat, k ≤ 32 ∧ i = .int .i64 (k : Int) ∧ Kp (Blk wx b5 27 (cellsU8 (partU (outB V) k)).toArray) ∧ Kp (Blk wx w.heap.size 27 (cellsU8 (ZL)).toArray) ∧ Kp (Blk wx (w.heap.size + 1) 22 (c32 V.list).toArray) ∧ Kp (Below w.heap.size w wx)) (fun i _ => 32 - (intOf i).toNat)
      case atStart => exact ⟨0, Nat.zero_le _, rfl, h5, h2, h3, hbb⟩
      case round =>
        clear h5 h2 h3 hbb
        obtain ⟨k, hk, rfl, h5, h2, h3, hbb⟩ := hrel
        by_cases hlt : k < 32
        · obtain ⟨q, r, hqr, hr⟩ : ∃ q r, 4 * q + r = k ∧ r < 4 := ⟨k / 4, k % 4, by omega, Nat.mod_lt _ (by decide)⟩
          have hq : q < 8 := by omega
          have d1 : (k : Int) / 4 = (q : Int) := by omega
          have d2 : (k : Int) % 4 = (r : Int) := by omega
          have d3 : 8 * (3 - (r : Int)) = ((8 * (3 - r) : Nat) : Int) := by omega
          have i1 : (k : Int) < 32 := by omega
          have i2 : (0 : Int) ≤ (k : Int) := by omega
          have i3 : (q : Int) < 8 := by omega
          have i4 : (0 : Int) ≤ (q : Int) := by omega
          have i5 : 8 * (3 - r) < 32 := by omega
          have hset := kp (partU_set (outB V) k _ (by rw [← hqr]; exact outB_at V q r hq hr))
          have hc1 : wr.cell? ⟨w.heap.size + 1, q, none⟩ = some (.int .u32 ((V.list.getD q 0 : Nat) : Int)) := h3.out.atL (c32_get hq)
          obtain ⟨c2, hc2⟩ : ∃ c2, wr.cell? ⟨b5, k, none⟩ = some c2 := by
            have : k < (cellsU8 (partU (outB V) k)).length := by rw [length_cellsU8, partU_length _ _ (by rw [HOL.out]; exact hk), HOL.out]; exact hlt
            exact ⟨_, h5.out.atL (List.getElem?_eq_getElem this)⟩
          have hf2 := h5.out.frozen k
          have hx := getD_lt V.list hok' q
          generalize V.list.getD q 0 = x at hc1 hset hx
          have hx2 : x < 4294967296 := hx
          go_wp2
          have hv := shr_byte x (3 - r)
          have H5 : Kp (Blk (wr.setCell ⟨b5, k, none⟩ (.int .u8 ((x : Int) / 2 ^ (8 * (3 - r)) % 256))) b5 27 (cellsU8 (partU (outB V) (k + 1))).toArray) := kp (by
            have := h5.out.setL k (.int .u8 ((x : Int) / 2 ^ (8 * (3 - r)) % 256))
            rw [hv, cellsU8_set, hset.out] at this
            rw [hv]
            exact this)
          have hb3 := HB3.out
          have hne : w.heap.size ≠ b5 := by omega
          have hne2 : w.heap.size + 1 ≠ b5 := by omega
          go_roundw
          case measure => simp [intOf]; omega
          case rel => exact ⟨k + 1, by omega, by go_num, H5, kp (h2.out.far hne _), kp (h3.out.far hne2 _), kp (bsc hbb.out (by simp; omega) _)⟩
        · obtain rfl : k = 32 := by omega
          have HE : Kp (Blk wr b5 27 (cellsU8 (digest m)).toArray) := by
            have := h5.out
            rw [show partU (outB V) 32 = outB V by rw [← HOL.out]; exact partU_all _, ← HD.out] at this
            exact kp this
          have hdl := digest_length m
          obtain ⟨D, hD⟩ : ∃ D, digest m = D := ⟨_, rfl⟩
          rw [hD] at HE hdl
          have HDD := kp hD
          have hcl : (cellsU8 D).length = 32 := by rw [length_cellsU8, hdl]
          have LD := ld_all (P := Tryz.prog) (w := wr) b5 32 27 _ (cellsU8 D) _ Tryz.underlying27 rfl info_key hcl HE.out
          have SC := sc_all (P := Tryz.prog) (w := wr) w.heap.size 27 (cellsU8 D) _ h2.out (by rw [hcl, length_cellsU8, ← HZL.out, List.length_replicate]) (cellsU8_one _)
          have HX := kp (h2.out.row (cellsU8 D).toArray)
          have HBX := kp (bsr hbb.out (Nat.le_refl w.heap.size) hbb.out.size (cellsU8 D).toArray)
          have HL := kp hcl
          clear hD hdl h5 h2 h3 hbb HE HD
          generalize hY : wr.setRow w.heap.size (cellsU8 D).toArray = Z at SC HX HBX
          clear hY
          go_wp2_with (refine wpL_load rfl 27 _ rfl rfl LD ?_)
          refine bodyPost_ret (v := keyV D) ?_ rfl ⟨by rw [HDD.out]; rfl, HBX.out⟩
          exact res_all Tryz.results79 w.heap.size 32 _ (cellsU8 D) _ Tryz.underlying27 rfl info_key HL.out HX.out _ rfl
end Go.Proofs.YtmblknknbbdmeaaGreat
/- the reference's sha: Walk, Hex. -/
namespace Go.Proofs.YtmblknknbbdmeaaGreat
open Go Go.RowKit
set_option linter.unusedVariables false
set_option linter.unusedSimpArgs false
attribute [local go_sem] bmax2 bmin2 bmax bmin cell_ext frozen_ext

theorem R_Sum_st (t : ByteArray) (h : t.size ≤ 549755813888) (w : World) : Calls Tryz.prog 79 #[.string t] w fun e w' => e = .returned (.agg (cellsU8 (digest (bs t))).toArray) ∧ Below w.heap.size w w' := R_Sum (bs t) (by rw [size_bs]; omega) w

theorem digits_slice : ∀ (q : Nat) (h : q < 16) (W : World), (Instr.slice 9 (.string ⟨#[48, 49, 50, 51, 52, 53, 54, 55, 56, 57, 97, 98, 99, 100, 101, 102]⟩) (some (.int .u8 (q : Int))) (some (.int .u8 ((q : Int) + 1))) none).run Tryz.prog W = .ok (.string (str [dig16 q])) W
  | 0, _, W => by kernel_rfl
  | 1, _, W => by kernel_rfl
  | 2, _, W => by kernel_rfl
  | 3, _, W => by kernel_rfl
  | 4, _, W => by kernel_rfl
  | 5, _, W => by kernel_rfl
  | 6, _, W => by kernel_rfl
  | 7, _, W => by kernel_rfl
  | 8, _, W => by kernel_rfl
  | 9, _, W => by kernel_rfl
  | 10, _, W => by kernel_rfl
  | 11, _, W => by kernel_rfl
  | 12, _, W => by kernel_rfl
  | 13, _, W => by kernel_rfl
  | 14, _, W => by kernel_rfl
  | 15, _, W => by kernel_rfl
  | q + 16, h, W => by omega

end Go.Proofs.YtmblknknbbdmeaaGreat
/- mac in plain words: numbers and lists, no program in sight. -/
namespace Go.Proofs.YtmblknknbbdmeaaGreat
set_option linter.unusedVariables false
set_option linter.unusedSimpArgs false
open Go Go.RowKit

def xorU (l : List UInt8) (c : UInt8) : List UInt8 := l.map (· ^^^ c)
/-- a key, or its digest if it is long -/
def key1 (k : List UInt8) : List UInt8 := if k.length > 64 then digest k else k
/-- .. filled up to 64 bytes -/
def fullK (k : List UInt8) : List UInt8 := key1 k ++ List.replicate (64 - (key1 k).length) 0
def inK (k : List UInt8) : List UInt8 := xorU (fullK k) 54
def outK (k : List UInt8) : List UInt8 := xorU (fullK k) 92
/-- a tag: 32 bytes -/
def macD (k t : List UInt8) : List UInt8 := digest (outK k ++ digest (inK k ++ t))

theorem xorU_length (l : List UInt8) (c : UInt8) : (xorU l c).length = l.length := by simp [xorU]
theorem key1_length (k : List UInt8) : (key1 k).length ≤ 64 := by
  unfold key1; split
  · rw [digest_length]; omega
  · omega
theorem fullK_length (k : List UInt8) : (fullK k).length = 64 := by
  have := key1_length k
  unfold fullK; rw [List.length_append, List.length_replicate]; omega
theorem inK_length (k : List UInt8) : (inK k).length = 64 := by unfold inK; rw [xorU_length, fullK_length]
theorem outK_length (k : List UInt8) : (outK k).length = 64 := by unfold outK; rw [xorU_length, fullK_length]
theorem macD_length (k t : List UInt8) : (macD k t).length = 32 := digest_length _
theorem key1_short {k : List UInt8} (h : k.length ≤ 64) : key1 k = k := by unfold key1; rw [if_neg (by omega)]
theorem key1_long {k : List UInt8} (h : 64 < k.length) : key1 k = digest k := by unfold key1; rw [if_pos h]
/-- what the program fills up -/
def key2 (k : List UInt8) : List UInt8 := if key1 k = [] then [0] else key1 k
theorem key2_length (k : List UInt8) : 1 ≤ (key2 k).length ∧ (key2 k).length ≤ 64 := by
  have := key1_length k
  unfold key2; split
  · simp
  · rename_i h; have := List.length_pos_iff.2 h; omega
theorem pad_key2 (k : List UInt8) : key2 k ++ List.replicate ((64 - (key2 k).length % 64) % 64) 0 = fullK k := by
  have h1 := key1_length k
  unfold fullK key2
  split
  · rename_i h; rw [h]; rfl
  · rename_i h
    have := List.length_pos_iff.2 h
    congr 2
    omega
/-- the first i of s, the rest of l -/
def mixU (s l : List UInt8) (i : Nat) : List UInt8 := s.take i ++ l.drop i
theorem mixU_zero (s l : List UInt8) : mixU s l 0 = l := by simp [mixU]
theorem mixU_length (s l : List UInt8) (i : Nat) (h : s.length = l.length) (hi : i ≤ l.length) : (mixU s l i).length = l.length := by simp [mixU]; omega
theorem mixU_get (s l : List UInt8) (i : Nat) (h : s.length = l.length) (hi : i < l.length) : (mixU s l i)[i]? = some l[i] := by
  unfold mixU
  rw [List.getElem?_append_right (by simp; omega), List.getElem?_drop, List.getElem?_eq_getElem (by simp; omega)]
  congr 2; simp; omega
theorem mixU_set (s l : List UInt8) (i : Nat) (c : UInt8) (h : s.length = l.length) (hi : i < l.length) (hc : s[i]? = some c) : (mixU s l i).set i c = mixU s l (i + 1) := by
  obtain ⟨h1, h2⟩ := List.getElem?_eq_some_iff.1 hc
  unfold mixU
  rw [List.set_append_right _ _ (by simp; omega), List.drop_eq_getElem_cons hi, show i - (List.take i s).length = 0 by simp; omega, List.set_cons_zero, List.take_succ_eq_append_getElem (by omega), List.append_assoc, h2]
  rfl
theorem mixU_all (s l : List UInt8) (h : s.length = l.length) : mixU s l l.length = s := by
  unfold mixU
  rw [List.drop_of_length_le (Nat.le_refl _), List.append_nil, List.take_of_length_le (by omega)]
end Go.Proofs.YtmblknknbbdmeaaGreat
/- mac: xored. -/
namespace Go.Proofs.YtmblknknbbdmeaaGreat
open Go Go.RowKit
set_option linter.unusedVariables false
set_option linter.unusedSimpArgs false
attribute [local go_sem] bmax2 bmin2 bmax bmin cell_ext frozen_ext

set_option maxRecDepth 100000 in
theorem xored_any (l : List UInt8) (c : UInt8) (hl : l.length ≤ 4096) (w : World) :
    Calls Tryz.prog 157 #[.string (str l), .int .u8 (c.toNat : Int)] w fun e w' => e = .returned (.string (str (xorU l c))) ∧ Below w.heap.size w w' := by
  obtain ⟨cap, w2, hcv, hb2, hsz2, hcap, hcell, hfr⟩ := toBytes (P := Tryz.prog) w 9 93 (str l) Tryz.underlying9 Tryz.underlying93 Tryz.underlying5
  rw [str_size] at hcv hcap
  have hcell' : ∀ i (h : i < (mixU (xorU l c) l 0).length), w2.cell? ⟨w.heap.size, i, none⟩ = some (.int .u8 ((mixU (xorU l c) l 0)[i].toNat : Int)) := by
    intro i h
    have e := mixU_zero (xorU l c) l
    have : ∀ (m : List UInt8) (h : i < m.length), m = l → w2.cell? ⟨w.heap.size, i, none⟩ = some (.int .u8 (m[i].toNat : Int)) := by
      rintro m h rfl; exact hcell i h
    exact this _ h e
  have H1 := kp hcell'
  have H2 : Kp (∀ i, i < l.length → w2.frozen? ⟨w.heap.size, i, none⟩ = false) := kp hfr
  have H3 := kp (Nat.le_refl w.heap.size)
  have HB := kp hb2
  have HX := kp (xorU_length l c)
  have HXD : Kp (∀ i (h : i < l.length), (xorU l c)[i]? = some (l[i] ^^^ c)) := kp (fun i h => by simp [xorU, h])
  have HA := kp (mixU_all (xorU l c) l HX.out)
  generalize xorU l c = X at H1 HX HXD HA ⊢
  obtain ⟨n, hn⟩ : ∃ n, l.length = n := ⟨_, rfl⟩
  have hss := str_size l
  rw [hn] at hcv hcap H2 hl hss HA
  have HN := kp hn
  have HS := kp hss
  have hcap' : (n : Int) ≤ (cap : Int) := by omega
  clear hcell hcell' hfr hb2 hsz2 hn hss
  go_enter Tryz.func157, Tryz.ntmps157
  go_wp2
  go_loopw [11] (fun i wr => ∃ k : Nat, k ≤ n ∧ i = .int .i64 (k : Int) ∧ Kp (∀ i (h : i < (mixU X l k).length), wr.cell? ⟨w.heap.size, i, none⟩ = some (.int .u8 ((mixU X l k)[i].toNat : Int))) ∧ Kp (∀ i, i < n → wr.frozen? ⟨w.heap.size, i, none⟩ = false) ∧ Kp (Below w.heap.size w wr)) (fun i _ => n - (intOf i).toNat)
  case atStart => exact ⟨0, Nat.zero_le _, rfl, H1, H2, HB⟩
  case round =>
    clear H1 H2 HB
    obtain ⟨k, hk, rfl, H1, H2, HB⟩ := hrel
    by_cases hlt : k < n
    · have i1 : (k : Int) < (n : Int) := by omega
      have i2 : (0 : Int) ≤ (k : Int) := by omega
      have hkl : k < l.length := by rw [HN.out]; exact hlt
      have hml : k < (mixU X l k).length := by rw [mixU_length X l k HX.out (by omega)]; exact hkl
      have hg : (mixU X l k)[k] = l[k] := by
        have := mixU_get X l k HX.out hkl
        rw [List.getElem?_eq_getElem hml] at this
        injection this
      have hc1 := H1.out k hml
      rw [hg] at hc1
      have hset := kp (mixU_set X l k _ HX.out hkl (HXD.out k hkl))
      have hml2 := kp hml
      have he : bits .xor .u8 (l[k].toNat : Int) (c.toNat : Int) = (((l[k] ^^^ c).toNat : Nat) : Int) := by
        have := u8_xor_nat l[k].toNat c.toNat (UInt8.toNat_lt _) (UInt8.toNat_lt _)
        rw [UInt8.toNat_xor]
        exact this
      have hf1 := H2.out k hlt
      clear hg hml
      generalize l[k] ^^^ c = y at he hset
      generalize l[k] = x at he hc1
      go_wp2
      go_roundw
      case measure => simp [intOf]; omega
      case rel =>
        refine ⟨k + 1, by omega, by go_num, kp ?_, kp ?_, kp (bsc HB.out (Nat.le_refl _) _)⟩
        · rw [← hset.out]
          intro i h
          have := set_cells H1.out hml2.out y i h
          have ha : (⟨w.heap.size, 0, none⟩ : Addr).add i = ⟨w.heap.size, i, none⟩ := by rw [addr_add, Nat.zero_add]
          rw [ha] at this
          exact this
        · intro i hi
          have := H2.out i hi
          simpa [go_sem] using this
    · obtain rfl : k = n := by omega
      have hb := run_convert_bytes_back (P := Tryz.prog) wr 93 9 5 ⟨w.heap.size, 0, none⟩ cap (mixU X l k) Tryz.underlying93 Tryz.underlying5 Tryz.underlying9 (fun i h => by rw [addr_add, Nat.zero_add]; exact H1.out i h)
      rw [mixU_length X l k HX.out (by rw [HN.out]; exact Nat.le_refl _), HN.out, HA.out] at hb
      go_wp2
      go_ret
      exact ⟨rfl, HB.out⟩
end Go.Proofs.YtmblknknbbdmeaaGreat
/- mac: With, and what it makes. -/
namespace Go.Proofs.YtmblknknbbdmeaaGreat
open Go Go.RowKit
set_option linter.unusedVariables false
set_option linter.unusedSimpArgs false
attribute [local go_sem] bmax2 bmin2 bmax bmin cell_ext frozen_ext

/-- the last block but one, stored anew -/
theorem sc_new2 {P : Program} (w : World) (t : TypeId) (cs : List Value) (h1 : ∀ v ∈ cs, v.oneCell' = true) (cur : Array Value) (o : Obj) (hc : cur.size = cs.length) : (storeCells ⟨w.heap.size, 0, none⟩ cs).run P ((w.alloc (.cells cur t)).alloc o) = .ok () ((w.alloc (.cells cs.toArray t)).alloc o) := by
  have h := sc_all (P := P) w.heap.size t cs cur.toList (w := (w.alloc (.cells cur t)).alloc o) (by rw [Array.toArray_toList]; exact (Blk.new w t cur).alloc o) (by rw [Array.length_toList]; exact hc.symm) h1
  rw [h]
  congr 1
  unfold World.setRow World.alloc
  congr 1
  apply Array.ext
  · simp
  · intro i h1 h2
    simp only [Array.getElem_modify]
    split
    · rename_i he
      subst he
      simp [Array.getElem_push]
    · rename_i he
      simp only [Array.getElem_push, Array.size_push]
      by_cases hi : i < w.heap.size
      · simp [hi, Nat.lt_succ_of_lt hi]
      · have : ¬ i < w.heap.size + 1 := by omega
        simp [hi, this]
theorem sc_newS {P : Program} (w : World) (t : TypeId) (cs : List Value) (h1 : ∀ v ∈ cs, v.oneCell' = true) (o : Obj) (cur : Array Value) (hc : cur.size = cs.length) : (storeCells ⟨w.heap.size + 1, 0, none⟩ cs).run P ((w.alloc o).alloc (.cells cur t)) = .ok () ((w.alloc o).alloc (.cells cs.toArray t)) := by
  have := sc_new (P := P) (w.alloc o) t cs h1 cur hc
  rw [size_all] at this
  exact this
/-- what tells tags by a key -/
def Maker (w : World) (key : List UInt8) (b5 b6 : Nat) : Prop := Blk w b5 245 (stLm (inK key)).toArray ∧ Blk w b6 245 (stLm (outK key)).toArray
def makerV (b5 b6 : Nat) : Value := .func (.func 158) #[] #[.pointer (some ⟨b5, 0, none⟩), .pointer (some ⟨b6, 0, none⟩)]
theorem Maker.bel {w w' : World} {key : List UInt8} {b5 b6 : Nat} (h : Maker w key b5 b6) (hb : Below w.heap.size w w') : Maker w' key b5 b6 := ⟨h.1.bel hb, h.2.bel hb⟩

set_option maxHeartbeats 1000000 in
set_option maxRecDepth 100000 in
theorem Made_any (key : List UInt8) (t : ByteArray) (b5 b6 : Nat) (w : World) (h : Maker w key b5 b6) (ht : t.size ≤ 1099511627) :
    Calls Tryz.prog 158 #[.string t, .pointer (some ⟨b5, 0, none⟩), .pointer (some ⟨b6, 0, none⟩)] w fun e w' => e = .returned (.agg (cellsU8 (macD key (bs t))).toArray) ∧ Below w.heap.size w w' := by
  have HH := kp h
  have c1 := kp (fun w' => More_st (inK key) t (by rw [inK_length]; omega) w')
  have c2 := kp (fun w' => Key_st (inK key ++ bs t) (by rw [List.length_append, inK_length, size_bs]; omega) w')
  have hdl := digest_length (inK key ++ bs t)
  have hmd : Kp (macD key (bs t) = digest (outK key ++ digest (inK key ++ bs t))) := kp rfl
  obtain ⟨D, hD⟩ : ∃ D, digest (inK key ++ bs t) = D := ⟨_, rfl⟩
  rw [hD] at c2 hdl hmd
  have c3 := kp (fun w' => More_st (outK key) (str D) (by rw [outK_length, str_size]; omega) w')
  rw [bs_str] at c3
  have c4 := kp (fun w' => Key_st (outK key ++ D) (by rw [List.length_append, outK_length]; omega) w')
  have hml := digest_length (outK key ++ D)
  have hcl := key_cells _ hdl
  have hcl2 := key_cells _ hml
  obtain ⟨E, hE⟩ : ∃ E, digest (outK key ++ D) = E := ⟨_, rfl⟩
  rw [hE] at c4 hmd hcl2
  have L1 := kp (fun (W : World) (h : Maker W key b5 b6) => ldS (inK key) h.1)
  have L2 := kp (fun (W : World) (h : Maker W key b5 b6) => ldS (outK key) h.2)
  obtain ⟨ZL, hZL⟩ : ∃ ZL : List UInt8, List.replicate 32 0 = ZL := ⟨_, rfl⟩
  have HDL := kp hdl
  have LD0 := L1.out (w.alloc (.cells (cellsU8 (List.replicate 32 0)).toArray 27)) (HH.out.bel (ba (Below.refl _ _) _))
  have HM0 := kp (HH.out.bel (ba (Below.refl w.heap.size w) (.cells (cellsU8 (List.replicate 32 0)).toArray 27)))
  have h0 := kp (Blk.new w 27 (cellsU8 (List.replicate 32 0)).toArray)
  have hb0 := kp (ba (Below.refl w.heap.size w) (.cells (cellsU8 (List.replicate 32 0)).toArray 27))
  rw [hmd.out]
  clear hD hE hmd hdl hml h ht
  go_enter Tryz.func158, Tryz.ntmps158
  go_wp2_with (refine wpL_load rfl 245 _ rfl rfl LD0 ?_)
  clear LD0
  refine (c1.out _).mono ?_
  rintro e w1 ⟨rfl, hb1⟩
  go_wp2_with fail
  refine (c2.out _).mono ?_
  rintro e w2 ⟨rfl, hb2⟩
  have SC := fun (cur : Array Value) (h : cur.size = 32) => sc_new (P := Tryz.prog) w2 27 (cellsU8 D) (cellsU8_one _) cur (by rw [hcl]; exact h)
  have HM2 := kp (((HM0.out.bel hb1).bel hb2).bel (ba (Below.refl _ _) (.cells (cellsU8 D).toArray 27)))
  have h2 := kp (((h0.out.bel hb1).bel hb2).alloc (.cells (cellsU8 D).toArray 27))
  have k2 := kp (Blk.new w2 27 (cellsU8 D).toArray)
  have hbb := kp (ba (bt' (bt' hb0.out hb1 hb0.out.size) hb2 (bt' hb0.out hb1 hb0.out.size).size) (.cells (cellsU8 D).toArray 27))
  have hne : w.heap.size ≠ w2.heap.size := by have := ((h0.out.bel hb1).bel hb2).lt; omega
  clear hb1 hb2 HM0 h0 hb0
  rw [hZL] at h2
  go_wp2_with fail
  clear SC
  generalize (w2.alloc (.cells (cellsU8 D).toArray 27)) = W at HM2 h2 k2 hbb ⊢
  generalize w2.heap.size = b2 at k2 hne ⊢
  have LS := kp (fun x => L2.out (W.ext x) (HM2.out.bel (ext_below W x)))
  have HCV := kp (fun x => blk_str (P := Tryz.prog) 93 (e := 5) (dst := 9) (n := 32) (cap := 32) Tryz.underlying93 Tryz.underlying5 Tryz.underlying9 (k2.out.bel (ext_below W x)) HDL.out)
  have hcv := HCV.out
  have HZL := kp hZL
  clear hZL
  refine wp_region_ext [0, 1, 2, 3, 4] [5] (by kernel_rfl) (by kernel_rfl) ?_
  simp only [List.map_cons, List.map_nil, List.getD_cons_succ, List.getD_cons_zero]
  repeat (first
    | (go_big_quiet_want; refine quiet_load _ rfl 245 _ rfl rfl (fun w hw => by obtain ⟨x, rfl⟩ := hw; exact LS.out x) ?_; go_simp; go_big_quiet_on)
    | go_big_quiet_step (first | (go_at_call 145; with_reducible exact Calls.ext_of (c3.out _)) | (go_at_call 146; with_reducible exact Calls.ext_of (c4.out _))))
  refine wpQuiet_nil ?_
  rintro z
  have h3 := kp (h2.out.bel (ext_below W z))
  have hb3 := kp (bt' hbb.out (ext_below W z) hbb.out.size)
  clear hcv HCV LS h2 hbb k2
  generalize W.ext z = Y at h3 hb3 ⊢
  have SC := sc_all (P := Tryz.prog) (w := Y) w.heap.size 27 (cellsU8 E) _ h3.out (by rw [hcl2, length_cellsU8, ← HZL.out, List.length_replicate]) (cellsU8_one _)
  have HX := kp (h3.out.row (cellsU8 E).toArray)
  have HBX := kp (bsr hb3.out (Nat.le_refl w.heap.size) hb3.out.size (cellsU8 E).toArray)
  have HL := kp hcl2
  clear h3 hb3 hcl
  generalize hY : Y.setRow w.heap.size (cellsU8 E).toArray = Z at SC HX HBX
  clear hY
  go_wp2
  refine bodyPost_ret (v := .agg (cellsU8 E).toArray) ?_ rfl ⟨rfl, HBX.out⟩
  exact res_all Tryz.results158 w.heap.size 32 _ (cellsU8 E) _ Tryz.underlying27 rfl info_key HL.out HX.out _ rfl

/-- With's end -/
def WithEnd (w : World) (key : List UInt8) (e : Ending) (w' : World) : Prop := ∃ b5 b6, e = .returned (makerV b5 b6) ∧ Maker w' key b5 b6 ∧ Below w.heap.size w w'
set_option maxHeartbeats 1000000 in
set_option maxRecDepth 100000 in
theorem With_any (key : ByteArray) (hk : key.size ≤ 1099511627) (w : World) :
    Calls Tryz.prog 143 #[.string key] w (WithEnd w (bs key)) := by
  have hkl : key.size = (bs key).length := rfl
  have k2l := key2_length (bs key)
  have c1 : Kp (64 < key.size → ∀ w', Calls Tryz.prog 124 #[.string key] w' fun e w'' => e = .returned (.agg (cellsU8 (digest (bs key))).toArray) ∧ Below w'.heap.size w' w'') := kp (fun _ w' => Sum_st key (by omega) w')
  have hdl := digest_length (bs key)
  have hcl := key_cells _ hdl
  have HDL := kp hdl
  have ks : Kp (64 < key.size → str (digest (bs key)) = str (key2 (bs key))) := kp (fun h => by
    have := key1_long (k := bs key) (by rw [← hkl]; exact h)
    unfold key2
    rw [this, if_neg (by intro e; rw [e] at hdl; simp at hdl)])
  have kn : Kp (key.size = 0 → (⟨#[0]⟩ : ByteArray) = str (key2 (bs key))) := kp (fun h => by
    have h0 : bs key = [] := List.eq_nil_of_length_eq_zero h
    unfold key2
    rw [key1_short (by rw [← hkl]; omega), h0, if_pos rfl]; rfl)
  have km : Kp (1 ≤ key.size → key.size ≤ 64 → key = str (key2 (bs key))) := kp (fun h h' => by
    have h0 : bs key ≠ [] := by intro e; have : (bs key).length = 0 := by rw [e]; rfl
                                omega
    unfold key2
    rw [key1_short (by rw [← hkl]; exact h'), if_neg h0]
    exact (str_bs key).symm)
  have c2 : Kp (∀ w', Calls Tryz.prog 156 #[.string (str (key2 (bs key))), .int .i64 64] w' fun e w'' => e = .returned (.string (str (fullK (bs key)))) ∧ Below w'.heap.size w' w'') := kp (fun w' => by
    have := octet_Pad_any (str (key2 (bs key))) 64 w' (by decide) (by decide) (by rw [str_size]; omega)
    rw [bs_str, str_size] at this
    unfold padN at this
    rw [pad_key2] at this
    exact this)
  have hfl := fullK_length (bs key)
  have c3 := kp (fun w' => xored_any (fullK (bs key)) 54 (by omega) w')
  have c4 := kp (fun w' => xored_any (fullK (bs key)) 92 (by omega) w')
  have c5 : Kp (∀ w', Calls Tryz.prog 145 #[.agg (stLm []).toArray, .string (str (xorU (fullK (bs key)) 54))] w' fun e w'' => e = .returned (.agg (stLm (inK (bs key))).toArray) ∧ Below w'.heap.size w' w'') := kp (fun w' => More_st [] (str (xorU (fullK (bs key)) 54)) (by rw [str_size, xorU_length]; simp; omega) w')
  have c6 : Kp (∀ w', Calls Tryz.prog 145 #[.agg (stLm []).toArray, .string (str (xorU (fullK (bs key)) 92))] w' fun e w'' => e = .returned (.agg (stLm (outK (bs key))).toArray) ∧ Below w'.heap.size w' w'') := kp (fun w' => More_st [] (str (xorU (fullK (bs key)) 92)) (by rw [str_size, xorU_length]; simp; omega) w')
  generalize str (xorU (fullK (bs key)) 54) = X1 at c3 c5
  generalize str (xorU (fullK (bs key)) 92) = X2 at c4 c6
  generalize str (fullK (bs key)) = FK at c2 c3 c4
  obtain ⟨A, hA⟩ : ∃ A, inK (bs key) = A := ⟨_, rfl⟩
  obtain ⟨B, hB⟩ : ∃ B, outK (bs key) = B := ⟨_, rfl⟩
  have hla : (stLm A).length = 11 := rfl
  have hlb : (stLm B).length = 11 := rfl
  have h1a := kp (stLm_one A)
  have h1b := kp (stLm_one B)
  have HMK : Kp (∀ (W : World) b5 b6, Blk W b5 245 (stLm A).toArray → Blk W b6 245 (stLm B).toArray → Maker W (bs key) b5 b6) := kp (fun W b5 b6 h5 h6 => ⟨by rw [hA]; exact h5, by rw [hB]; exact h6⟩)
  rw [hA] at c5
  rw [hB] at c6
  generalize stLm A = SA at c5 hla h1a HMK
  generalize stLm B = SB at c6 hlb h1b HMK
  obtain ⟨K2, hK2⟩ : ∃ K2, str (key2 (bs key)) = K2 := ⟨_, rfl⟩
  rw [hK2] at ks kn km c2
  generalize digest (bs key) = D at c1 HDL ks hcl
  have c0 := kp (fun w' => New_st w')
  generalize stLm [] = S0 at *
  have hkp : 1 ≤ K2.size := by rw [← hK2, str_size]; exact k2l.1
  have hk64 : K2.size ≤ 64 := by rw [← hK2, str_size]; exact k2l.2
  have he : ∀ Z : ByteArray, 1 ≤ Z.size → Z.toList.isEmpty = false ∧ (Z.toList == []) = false := fun Z h => by
    have : Z.toList ≠ [] := by rw [toList_bs]; intro e; have h0 : Z.size = 0 := by { rw [← size_bs, e]; rfl }; omega
    cases hz : Z.toList with
    | nil => exact absurd hz this
    | cons a l => exact ⟨rfl, rfl⟩
  obtain ⟨he1, he2⟩ := he K2 hkp
  have HKL := kp hkl
  clear hkl hA hB hK2 hfl hdl k2l he
  have hcase : 64 < key.size ∨ key.size = 0 ∨ (1 ≤ key.size ∧ key.size ≤ 64) := by omega
  rcases hcase with h | h | ⟨h1, h2⟩
  · have h' : (64 : Int) < (key.size : Int) := by omega
    have hsd := ks.out h
    go_enter Tryz.func143, Tryz.ntmps143
    go_wp2_with fail
    refine (c1.out h _).mono ?_
    rintro e w1 ⟨rfl, hb1⟩
    have SC := fun (cur : Array Value) (h : cur.size = 32) => sc_new (P := Tryz.prog) w1 27 (cellsU8 D) (cellsU8_one _) cur (by rw [hcl]; exact h)
    have hcv := blk_str (P := Tryz.prog) 93 (e := 5) (dst := 9) (n := 32) (cap := 32) Tryz.underlying93 Tryz.underlying5 Tryz.underlying9 (Blk.new w1 27 (cellsU8 D).toArray) HDL.out
    rw [hsd] at hcv
    have HB := kp (ba hb1 (.cells (cellsU8 D).toArray 27))
    clear hb1
    go_upto_region 6 with (fail)
    clear SC hcv hsd h h'
    generalize (w1.alloc (.cells (cellsU8 D).toArray 27)) = W at HB ⊢
    clear he1 he2 hkp c1 ks kn km HDL hcl
    go_wp2_with fail
    refine (c2.out _).mono ?_
    rintro e w2 ⟨rfl, hb2⟩
    have HB2 := kp (bt' HB.out hb2 HB.out.size)
    clear HB hb2
    go_wp2_with fail
    refine (c0.out _).mono ?_
    rintro e w3 ⟨rfl, hb3⟩
    have HB3 := kp (bt' HB2.out hb3 HB2.out.size)
    clear HB2 hb3
    go_wp2_with fail
    refine (c3.out _).mono ?_
    rintro e w4 ⟨rfl, hb4⟩
    have HB4 := kp (bt' HB3.out hb4 HB3.out.size)
    clear HB3 hb4
    go_wp2_with fail
    refine (c5.out _).mono ?_
    rintro e w5 ⟨rfl, hb5⟩
    have HB5 := kp (bt' HB4.out hb5 HB4.out.size)
    clear HB4 hb5
    go_wp2_with fail
    refine (c0.out _).mono ?_
    rintro e w6 ⟨rfl, hb6⟩
    have HB6 := kp (bt' HB5.out hb6 HB5.out.size)
    clear HB5 hb6
    go_wp2_with fail
    refine (c4.out _).mono ?_
    rintro e w7 ⟨rfl, hb7⟩
    have HB7 := kp (bt' HB6.out hb7 HB6.out.size)
    clear HB6 hb7
    go_wp2_with fail
    refine (c6.out _).mono ?_
    rintro e w8 ⟨rfl, hb8⟩
    have HB8 := kp (bt' HB7.out hb8 HB7.out.size)
    clear HB7 hb8
    have HB9 := kp (ba (ba HB8.out (.cells SA.toArray 245)) (.cells SB.toArray 245))
    have hA5 := kp ((Blk.new w8 245 SA.toArray).alloc (.cells SB.toArray 245))
    have hB6 := kp (Blk.new (w8.alloc (.cells SA.toArray 245)) 245 SB.toArray)
    rw [size_all] at hB6
    have S1 := fun (cur : Array Value) (o : Obj) (h : cur.size = 11) => sc_new2 (P := Tryz.prog) w8 245 SA h1a.out cur o (by rw [hla]; exact h)
    have S2 := fun (o : Obj) (cur : Array Value) (h : cur.size = 11) => sc_newS (P := Tryz.prog) w8 245 SB h1b.out o cur (by rw [hlb]; exact h)
    go_wp2_with fail
    clear S1 S2
    refine bodyPost_ret (v := makerV w8.heap.size (w8.heap.size + 1)) (by simp [results, Tryz.results143, go_sem, makerV]) rfl ⟨w8.heap.size, w8.heap.size + 1, rfl, HMK.out _ _ _ hA5.out hB6.out, HB9.out⟩
  · have hlt : ¬ (64 : Int) < (key.size : Int) := by omega
    have hkn := kn.out h
    have h0 : key.toList = [] := by rw [toList_bs]; exact List.eq_nil_of_length_eq_zero h
    have h0e : key.toList.isEmpty = true := by rw [h0]; rfl
    have HB := kp (Below.refl w.heap.size w)
    go_enter Tryz.func143, Tryz.ntmps143
    go_upto_region 6 with (fail)
    rw [hkn]
    clear hkn h0 h0e hlt h
    clear he1 he2 hkp c1 ks kn km HDL hcl
    go_wp2_with fail
    refine (c2.out _).mono ?_
    rintro e w2 ⟨rfl, hb2⟩
    have HB2 := kp (bt' HB.out hb2 HB.out.size)
    clear HB hb2
    go_wp2_with fail
    refine (c0.out _).mono ?_
    rintro e w3 ⟨rfl, hb3⟩
    have HB3 := kp (bt' HB2.out hb3 HB2.out.size)
    clear HB2 hb3
    go_wp2_with fail
    refine (c3.out _).mono ?_
    rintro e w4 ⟨rfl, hb4⟩
    have HB4 := kp (bt' HB3.out hb4 HB3.out.size)
    clear HB3 hb4
    go_wp2_with fail
    refine (c5.out _).mono ?_
    rintro e w5 ⟨rfl, hb5⟩
    have HB5 := kp (bt' HB4.out hb5 HB4.out.size)
    clear HB4 hb5
    go_wp2_with fail
    refine (c0.out _).mono ?_
    rintro e w6 ⟨rfl, hb6⟩
    have HB6 := kp (bt' HB5.out hb6 HB5.out.size)
    clear HB5 hb6
    go_wp2_with fail
    refine (c4.out _).mono ?_
    rintro e w7 ⟨rfl, hb7⟩
    have HB7 := kp (bt' HB6.out hb7 HB6.out.size)
    clear HB6 hb7
    go_wp2_with fail
    refine (c6.out _).mono ?_
    rintro e w8 ⟨rfl, hb8⟩
    have HB8 := kp (bt' HB7.out hb8 HB7.out.size)
    clear HB7 hb8
    have HB9 := kp (ba (ba HB8.out (.cells SA.toArray 245)) (.cells SB.toArray 245))
    have hA5 := kp ((Blk.new w8 245 SA.toArray).alloc (.cells SB.toArray 245))
    have hB6 := kp (Blk.new (w8.alloc (.cells SA.toArray 245)) 245 SB.toArray)
    rw [size_all] at hB6
    have S1 := fun (cur : Array Value) (o : Obj) (h : cur.size = 11) => sc_new2 (P := Tryz.prog) w8 245 SA h1a.out cur o (by rw [hla]; exact h)
    have S2 := fun (o : Obj) (cur : Array Value) (h : cur.size = 11) => sc_newS (P := Tryz.prog) w8 245 SB h1b.out o cur (by rw [hlb]; exact h)
    go_wp2_with fail
    clear S1 S2
    refine bodyPost_ret (v := makerV w8.heap.size (w8.heap.size + 1)) (by simp [results, Tryz.results143, go_sem, makerV]) rfl ⟨w8.heap.size, w8.heap.size + 1, rfl, HMK.out _ _ _ hA5.out hB6.out, HB9.out⟩
  · have hlt : ¬ (64 : Int) < (key.size : Int) := by omega
    have hkm := km.out h1 h2
    subst hkm
    have HB := kp (Below.refl w.heap.size w)
    go_enter Tryz.func143, Tryz.ntmps143
    go_upto_region 6 with (fail)
    clear hlt h1 h2
    clear he1 he2 hkp c1 ks kn km HDL hcl
    go_wp2_with fail
    refine (c2.out _).mono ?_
    rintro e w2 ⟨rfl, hb2⟩
    have HB2 := kp (bt' HB.out hb2 HB.out.size)
    clear HB hb2
    go_wp2_with fail
    refine (c0.out _).mono ?_
    rintro e w3 ⟨rfl, hb3⟩
    have HB3 := kp (bt' HB2.out hb3 HB2.out.size)
    clear HB2 hb3
    go_wp2_with fail
    refine (c3.out _).mono ?_
    rintro e w4 ⟨rfl, hb4⟩
    have HB4 := kp (bt' HB3.out hb4 HB3.out.size)
    clear HB3 hb4
    go_wp2_with fail
    refine (c5.out _).mono ?_
    rintro e w5 ⟨rfl, hb5⟩
    have HB5 := kp (bt' HB4.out hb5 HB4.out.size)
    clear HB4 hb5
    go_wp2_with fail
    refine (c0.out _).mono ?_
    rintro e w6 ⟨rfl, hb6⟩
    have HB6 := kp (bt' HB5.out hb6 HB5.out.size)
    clear HB5 hb6
    go_wp2_with fail
    refine (c4.out _).mono ?_
    rintro e w7 ⟨rfl, hb7⟩
    have HB7 := kp (bt' HB6.out hb7 HB6.out.size)
    clear HB6 hb7
    go_wp2_with fail
    refine (c6.out _).mono ?_
    rintro e w8 ⟨rfl, hb8⟩
    have HB8 := kp (bt' HB7.out hb8 HB7.out.size)
    clear HB7 hb8
    have HB9 := kp (ba (ba HB8.out (.cells SA.toArray 245)) (.cells SB.toArray 245))
    have hA5 := kp ((Blk.new w8 245 SA.toArray).alloc (.cells SB.toArray 245))
    have hB6 := kp (Blk.new (w8.alloc (.cells SA.toArray 245)) 245 SB.toArray)
    rw [size_all] at hB6
    have S1 := fun (cur : Array Value) (o : Obj) (h : cur.size = 11) => sc_new2 (P := Tryz.prog) w8 245 SA h1a.out cur o (by rw [hla]; exact h)
    have S2 := fun (o : Obj) (cur : Array Value) (h : cur.size = 11) => sc_newS (P := Tryz.prog) w8 245 SB h1b.out o cur (by rw [hlb]; exact h)
    go_wp2_with fail
    clear S1 S2
    refine bodyPost_ret (v := makerV w8.heap.size (w8.heap.size + 1)) (by simp [results, Tryz.results143, go_sem, makerV]) rfl ⟨w8.heap.size, w8.heap.size + 1, rfl, HMK.out _ _ _ hA5.out hB6.out, HB9.out⟩
end Go.Proofs.YtmblknknbbdmeaaGreat
/- mac: Tag, Of, Short, Right. -/
namespace Go.Proofs.YtmblknknbbdmeaaGreat
open Go Go.RowKit
set_option linter.unusedVariables false
set_option linter.unusedSimpArgs false
attribute [local go_sem] bmax2 bmin2 bmax bmin cell_ext frozen_ext

/-- a key's beginning as a slice -/
theorem slice_hi (b N : Nat) (hN : N ≤ 32) (W : World) : (Instr.sliceAt 27 (.pointer (some ⟨b, 0, none⟩)) none (some (.int .i64 (N : Int))) none).run Tryz.prog W = .ok (.slice (some ⟨b, 0, none⟩) N 32) W := by
  have h1 : (0 : Int) ≤ (N : Int) := by omega
  have h2 : (N : Int) ≤ ((32 : Nat) : Int) := by omega
  have h4 : (Tryz.prog.info? 5).map (·.size) = some 1 := by kernel_rfl
  have hl : Tryz.prog.arrayLen 27 = 32 := by kernel_rfl
  have he : Tryz.prog.elem 27 = 5 := by kernel_rfl
  have hu : Tryz.prog.underlying 27 = some (.array (Tryz.prog.arrayLen 27) (Tryz.prog.elem 27)) := by kernel_rfl
  rw [run_sliceAt_array_h W 27 ⟨b, 0, none⟩ hu .i64 _ h1 (by rw [hl]; exact h2), hl, he]
  cases hq : Tryz.prog.info? 5 with
  | none => simp [hq] at h4
  | some i =>
    have hs : i.size = 1 := by simpa [hq] using h4
    simp [sizeOf, typeInfo, hq, hs, slicedAt, addr_add]
/-- .. made a text -/
theorem blk_strN {P : Program} {w : World} {g n cap : Nat} {T : TypeId} {l : List UInt8} (src : TypeId) {e dst : TypeId} (hs : P.underlying src = some (.slice e)) (he : P.underlying e = some (.int .u8)) (hd : P.underlying dst = some .string)
    (h : Blk w g T (cellsU8 l).toArray) (hl : n ≤ l.length) : (Go.convert src dst (.slice (some ⟨g, 0, none⟩) n cap)).run P w = .ok (.string (str (l.take n))) w := by
  have := run_convert_bytes_arg w src e hs he g 0 n cap ((l.take n).map fun c => (c.toNat : Int)) (by simp; omega) (fun i hi => by
    rw [Nat.zero_add]
    rw [h.atL (cellsU8_get l i (by omega))]
    have h2 : i < (l.take n).length := by simp; omega
    simp [List.getD_eq_getElem?_getD, List.getElem?_eq_getElem h2, List.getElem?_eq_getElem (show i < l.length by omega), hi, List.getElem?_take]) dst hd
  rw [strNums] at this
  exact this

set_option maxHeartbeats 1000000 in
set_option maxRecDepth 100000 in
theorem Tag_any (key t : ByteArray) (hk : key.size ≤ 1099511627) (ht : t.size ≤ 1099511627) (w : World) :
    Calls Tryz.prog 120 #[.string key, .string t] w fun e w' => e = .returned (.agg (cellsU8 (macD (bs key) (bs t))).toArray) ∧ Below w.heap.size w w' := by
  have c1 := kp (fun w' => With_any key hk w')
  have c2 := kp (fun b5 b6 w' h => Made_any (bs key) t b5 b6 w' h ht)
  have hcl := key_cells _ (macD_length (bs key) (bs t))
  generalize macD (bs key) (bs t) = E at c2 hcl ⊢
  obtain ⟨ZL, hZL⟩ : ∃ ZL : List UInt8, List.replicate 32 0 = ZL := ⟨_, rfl⟩
  have h0 := kp (Blk.new w 27 (cellsU8 (List.replicate 32 0)).toArray)
  have hb0 := kp (ba (Below.refl w.heap.size w) (.cells (cellsU8 (List.replicate 32 0)).toArray 27))
  clear hk ht
  go_enter Tryz.func120, Tryz.ntmps120
  go_wp2_with fail
  refine (c1.out _).mono ?_
  rintro e w1 ⟨b5, b6, rfl, hm, hb1⟩
  unfold makerV
  have h1 := kp (h0.out.bel hb1)
  have hbb := kp (bt' hb0.out hb1 hb0.out.size)
  have HM := kp hm
  clear hb1 hm h0 hb0
  rw [hZL] at h1
  have HZL := kp hZL
  clear hZL
  go_wp2_with fail
  refine (c2.out _ _ _ HM.out).mono ?_
  rintro e w2 ⟨rfl, hb2⟩
  have h2 := h1.out.bel hb2
  have SC := sc_all (P := Tryz.prog) (w := w2) w.heap.size 27 (cellsU8 E) _ h2 (by rw [hcl, length_cellsU8, ← HZL.out, List.length_replicate]) (cellsU8_one _)
  have HX := kp (h2.row (cellsU8 E).toArray)
  have HBX := kp (bsr (bt' hbb.out hb2 hbb.out.size) (Nat.le_refl w.heap.size) (bt' hbb.out hb2 hbb.out.size).size (cellsU8 E).toArray)
  have HL := kp hcl
  clear h1 h2 hb2 hbb HM
  generalize hY : w2.setRow w.heap.size (cellsU8 E).toArray = Z at SC HX HBX
  clear hY
  go_wp2
  refine bodyPost_ret (v := .agg (cellsU8 E).toArray) ?_ rfl ⟨rfl, HBX.out⟩
  exact res_all Tryz.results120 w.heap.size 32 _ (cellsU8 E) _ Tryz.underlying27 rfl info_key HL.out HX.out _ rfl

set_option maxHeartbeats 1000000 in
set_option maxRecDepth 100000 in
theorem Of_any (K : List UInt8) (t : ByteArray) (hK : K.length = 32) (ht : t.size ≤ 1099511627) (w : World) :
    Calls Tryz.prog 99 #[.agg (cellsU8 K).toArray, .string t] w fun e w' => e = .returned (.agg (cellsU8 (macD K (bs t))).toArray) ∧ Below w.heap.size w w' := by
  have c1 := kp (fun w' => Tag_any (str K) t (by rw [str_size]; omega) ht w')
  rw [bs_str] at c1
  have hcl := key_cells _ (macD_length K (bs t))
  generalize macD K (bs t) = E at c1 hcl ⊢
  obtain ⟨ZL, hZL⟩ : ∃ ZL : List UInt8, List.replicate 32 0 = ZL := ⟨_, rfl⟩
  have h0 := (Blk.new w 27 (cellsU8 K).toArray).alloc (.cells (cellsU8 (List.replicate 32 0)).toArray 27)
  have h1 := kp (Blk.new (w.alloc (.cells (cellsU8 K).toArray 27)) 27 (cellsU8 (List.replicate 32 0)).toArray)
  have hb0 := kp (ba (ba (Below.refl w.heap.size w) (.cells (cellsU8 K).toArray 27)) (.cells (cellsU8 (List.replicate 32 0)).toArray 27))
  rw [size_all] at h1
  have hcv := fun o => blk_str (P := Tryz.prog) 93 (e := 5) (dst := 9) (n := 32) (cap := 32) Tryz.underlying93 Tryz.underlying5 Tryz.underlying9 ((Blk.new w 27 (cellsU8 K).toArray).alloc o) hK
  clear ht hK h0
  go_enter Tryz.func99, Tryz.ntmps99
  go_wp2_with fail
  refine (c1.out _).mono ?_
  rintro e w2 ⟨rfl, hb2⟩
  have h2 := h1.out.bel hb2
  rw [hZL] at h2
  have SC := sc_all (P := Tryz.prog) (w := w2) (w.heap.size + 1) 27 (cellsU8 E) _ h2 (by rw [hcl, length_cellsU8, ← hZL, List.length_replicate]) (cellsU8_one _)
  have HX := kp (h2.row (cellsU8 E).toArray)
  have HBX := kp (bsr (bt' hb0.out hb2 hb0.out.size) (Nat.le_succ w.heap.size) (bt' hb0.out hb2 hb0.out.size).size (cellsU8 E).toArray)
  have HL := kp hcl
  clear h1 h2 hb2 hb0 hcv hZL
  generalize hY : w2.setRow (w.heap.size + 1) (cellsU8 E).toArray = Z at SC HX HBX
  clear hY
  go_wp2
  refine bodyPost_ret (v := .agg (cellsU8 E).toArray) ?_ rfl ⟨rfl, HBX.out⟩
  exact res_all Tryz.results99 (w.heap.size + 1) 32 _ (cellsU8 E) _ Tryz.underlying27 rfl info_key HL.out HX.out _ rfl

set_option maxHeartbeats 1000000 in
set_option maxRecDepth 100000 in
theorem Short_any (key t : ByteArray) (n : Int) (N : Nat) (hN : min (max n 0) 32 = (N : Int)) (hk : key.size ≤ 1099511627) (ht : t.size ≤ 1099511627) (w : World) :
    Calls Tryz.prog 91 #[.string key, .string t, .int .i64 n] w fun e w' => e = .returned (.string (str ((macD (bs key) (bs t)).take N))) ∧ Below w.heap.size w w' := by
  have c1 := kp (fun w' => Tag_any key t hk ht w')
  have hel := macD_length (bs key) (bs t)
  have hcl := key_cells _ hel
  generalize macD (bs key) (bs t) = E at c1 hcl hel ⊢
  have hN2 : N ≤ 32 := by omega
  clear ht hk
  go_enter Tryz.func91, Tryz.ntmps91
  go_wp2_with fail
  refine (c1.out _).mono ?_
  rintro e w1 ⟨rfl, hb1⟩
  have SC := fun (cur : Array Value) (h : cur.size = 32) => sc_new (P := Tryz.prog) w1 27 (cellsU8 E) (cellsU8_one _) cur (by rw [hcl]; exact h)
  have hcv := blk_strN (P := Tryz.prog) 93 (e := 5) (dst := 9) (n := N) (cap := 32) Tryz.underlying93 Tryz.underlying5 Tryz.underlying9 (Blk.new w1 27 (cellsU8 E).toArray) (by rw [hel]; exact hN2)
  have hsl := slice_hi w1.heap.size N hN2
  have HB := kp (ba hb1 (.cells (cellsU8 E).toArray 27))
  clear hb1 hel
  go_wp2
  go_ret
  exact ⟨rfl, HB.out⟩

/-- is a tag right? -/
def rightB (k t g : List UInt8) : Bool := decide (8 ≤ g.length) && decide (g.length ≤ 32) && ((macD k t).take g.length == g)
theorem rightB_no {k t g : List UInt8} (h : g.length < 8 ∨ 32 < g.length) : rightB k t g = false := by
  unfold rightB
  rcases h with h | h
  · simp [show ¬ 8 ≤ g.length by omega]
  · simp [show ¬ g.length ≤ 32 by omega]
theorem rightB_in {k t g : List UInt8} (h : 8 ≤ g.length) (h2 : g.length ≤ 32) : rightB k t g = ((macD k t).take g.length == g) := by
  unfold rightB; simp [h, h2]

set_option maxHeartbeats 1000000 in
set_option maxRecDepth 100000 in
theorem Right_any (key t g : ByteArray) (hk : key.size ≤ 1099511627) (ht : t.size ≤ 1099511627) (hg : g.size ≤ 1099511627) (w : World) :
    Calls Tryz.prog 136 #[.string key, .string t, .string g] w fun e w' => e = .returned (.bool (rightB (bs key) (bs t) (bs g))) ∧ Below w.heap.size w w' := by
  have hgl : (bs g).length = g.size := size_bs g
  by_cases h1 : g.size < 8
  · rw [rightB_no (Or.inl (by omega))]
    have h1' : ¬ (8 : Int) ≤ (g.size : Int) := by omega
    clear hgl
    go_enter Tryz.func136, Tryz.ntmps136
    go_wp2
    go_ret
    exact ⟨rfl, Below.refl _ _⟩
  by_cases h2 : 32 < g.size
  · rw [rightB_no (Or.inr (by omega))]
    have h1' : (8 : Int) ≤ (g.size : Int) := by omega
    have h2' : ¬ (g.size : Int) ≤ 32 := by omega
    clear hgl
    go_enter Tryz.func136, Tryz.ntmps136
    go_wp2
    go_ret
    exact ⟨rfl, Below.refl _ _⟩
  rw [rightB_in (by omega) (by omega), hgl]
  have c1 := kp (fun w' => Short_any key t (g.size : Int) g.size (by omega) hk ht w')
  have hsz : (str ((macD (bs key) (bs t)).take g.size)).size ≤ 64 := by rw [str_size, List.length_take]; omega

  have heq : ((str ((macD (bs key) (bs t)).take g.size)).toList == g.toList) = ((macD (bs key) (bs t)).take g.size == bs g) := by rw [toList_bs, toList_bs, bs_str]
  generalize str ((macD (bs key) (bs t)).take g.size) = X at c1 hsz heq
  rw [← heq]
  have h1' : (8 : Int) ≤ (g.size : Int) := by omega
  have h2' : (g.size : Int) ≤ 32 := by omega
  clear hgl heq hk ht
  go_enter Tryz.func136, Tryz.ntmps136
  go_wp2_with fail
  refine (c1.out _).mono ?_
  rintro e w1 ⟨rfl, hb1⟩
  have HB := kp hb1
  clear hb1
  go_wp2_with fail
  refine (octet_Same_any X g _ (by omega) (by omega)).mono ?_
  rintro e w2 ⟨rfl, m, rfl⟩
  go_wp2
  go_ret
  exact ⟨rfl, bd HB.out m⟩
end Go.Proofs.YtmblknknbbdmeaaGreat
/- the reference's mac: Tag. -/
namespace Go.Proofs.YtmblknknbbdmeaaGreat
open Go Go.RowKit
set_option linter.unusedVariables false
set_option linter.unusedSimpArgs false
attribute [local go_sem] bmax2 bmin2 bmax bmin cell_ext frozen_ext

theorem xorU_snoc (F : List UInt8) (c : UInt8) (k : Nat) (x : UInt8) (h : F[k]? = some x) : xorU (F.take (k + 1)) c = xorU (F.take k) c ++ [x ^^^ c] := by
  unfold xorU
  rw [List.take_add_one, h, List.map_append]; rfl
theorem fullK_in {k : List UInt8} {i : Nat} (h : i < (key1 k).length) : (fullK k)[i]? = some (key1 k)[i] := by
  unfold fullK
  rw [List.getElem?_append_left h, List.getElem?_eq_getElem h]
theorem fullK_out {k : List UInt8} {i : Nat} (h : (key1 k).length ≤ i) (h2 : i < 64) : (fullK k)[i]? = some 0 := by
  unfold fullK
  rw [List.getElem?_append_right h, List.getElem?_replicate, if_pos (by omega)]
theorem u8_xor (x c : UInt8) : bits .xor .u8 (x.toNat : Int) (c.toNat : Int) = (((x ^^^ c).toNat : Nat) : Int) := by
  have := u8_xor_nat x.toNat c.toNat (UInt8.toNat_lt _) (UInt8.toNat_lt _)
  rw [UInt8.toNat_xor]
  exact this

set_option maxHeartbeats 1000000 in
set_option maxRecDepth 100000 in
theorem R_Tag (key t : ByteArray) (hk : key.size ≤ 1099511627) (ht : t.size ≤ 1099511627) (w : World) :
    Calls Tryz.prog 109 #[.string key, .string t] w fun e w' => e = .returned (.agg (cellsU8 (macD (bs key) (bs t))).toArray) ∧ Below w.heap.size w w' := by
  obtain ⟨i0, hi, hz0, hz1, hz2⟩ := info_parts info_u8
  have Hz2 := kp hz2
  have Hz1 := kp hz1
  clear hz1 hz2
  have hkl : key.size = (bs key).length := rfl
  have c1 : Kp (64 < key.size → ∀ w', Calls Tryz.prog 79 #[.string key] w' fun e w'' => e = .returned (.agg (cellsU8 (digest (bs key))).toArray) ∧ Below w'.heap.size w' w'') := kp (fun _ w' => R_Sum_st key (by omega) w')
  have hcl := key_cells _ (digest_length (bs key))
  have HDL := kp (digest_length (bs key))
  have ks : Kp (64 < key.size → str (digest (bs key)) = str (key1 (bs key))) := kp (fun h => by rw [key1_long (k := bs key) (by rw [← hkl]; exact h)])
  have km : Kp (key.size ≤ 64 → str (key1 (bs key)) = key) := kp (fun h => by rw [key1_short (k := bs key) (by rw [← hkl]; exact h)]; exact str_bs key)
  have hm : Kp (macD (bs key) (bs t) = digest (outK (bs key) ++ digest (inK (bs key) ++ bs t))) := kp rfl
  have hel := macD_length (bs key) (bs t)
  have hcl2 := key_cells _ hel
  have hil := inK_length (bs key)
  have hol := outK_length (bs key)
  have hik : Kp (inK (bs key) = xorU (fullK (bs key)) 54) := kp rfl
  have hok : Kp (outK (bs key) = xorU (fullK (bs key)) 92) := kp rfl
  generalize macD (bs key) (bs t) = E at hm hcl2 ⊢
  have hfl := fullK_length (bs key)
  have hk1 := key1_length (bs key)
  have F1 := kp (fun i h => fullK_in (k := bs key) (i := i) h)
  have F2 := kp (fun i h => fullK_out (k := bs key) (i := i) h)
  generalize fullK (bs key) = F at hik hok hfl F1 F2
  have hi1 : Kp (str (inK (bs key)) ++ t = str (inK (bs key) ++ bs t)) := kp (by rw [← str_append]; rw [str_bs])
  have c3 := kp (fun w' => R_Sum_st (str (inK (bs key) ++ bs t)) (by rw [str_size, List.length_append, hil, size_bs]; omega) w')
  rw [bs_str] at c3
  have hdl := digest_length (inK (bs key) ++ bs t)
  generalize digest (inK (bs key) ++ bs t) = D1 at c3 hm hdl
  have c4 := kp (fun w' => R_Sum_st (str (outK (bs key) ++ D1)) (by rw [str_size, List.length_append, hol, hdl]; omega) w')
  rw [bs_str, ← hm.out] at c4
  have ho1 : Kp (str (outK (bs key)) ++ str D1 = str (outK (bs key) ++ D1)) := kp (str_append _ _)
  have hs1 : (str (inK (bs key))).size ≤ 64 := by rw [str_size, hil]; omega
  have hs2 : (str (outK (bs key))).size ≤ 64 := by rw [str_size, hol]; omega
  have hs3 : (str D1).size ≤ 32 := by rw [str_size, hdl]; omega
  generalize str (inK (bs key) ++ bs t) = SI at c3 hi1
  generalize str (outK (bs key) ++ D1) = SO at c4 ho1
  generalize inK (bs key) = I at *
  generalize outK (bs key) = O at *
  obtain ⟨K1, hK1⟩ : ∃ K1, key1 (bs key) = K1 := ⟨_, rfl⟩
  rw [hK1] at F1 F2 hk1 ks km
  have hcl3 := key_cells _ hdl
  obtain ⟨ZL, hZL⟩ : ∃ ZL : List UInt8, List.replicate 32 0 = ZL := ⟨_, rfl⟩
  have h0 := kp (Blk.new w 27 (cellsU8 (List.replicate 32 0)).toArray)
  have hb0 := kp (ba (Below.refl w.heap.size w) (.cells (cellsU8 (List.replicate 32 0)).toArray 27))
  have HZL := kp hZL
  generalize digest (bs key) = D at c1 HDL ks hcl
  clear hkl hK1 hel hdl hil hol
  by_cases h : 64 < key.size
  · have h' : (64 : Int) < (key.size : Int) := by omega
    have hsd := ks.out h
    go_enter Tryz.func109, Tryz.ntmps109
    go_wp2_with fail
    change Calls _ _ _ (w.alloc (.cells (cellsU8 (List.replicate 32 0)).toArray 27)) _
    rw [hZL] at h0 hb0 ⊢
    refine (c1.out h _).mono ?_
    rintro e w1 ⟨rfl, hb1⟩
    have SC := fun (cur : Array Value) (h : cur.size = 32) => sc_new (P := Tryz.prog) w1 27 (cellsU8 D) (cellsU8_one _) cur (by rw [hcl]; exact h)
    have hcv := blk_str (P := Tryz.prog) 93 (e := 5) (dst := 9) (n := 32) (cap := 32) Tryz.underlying93 Tryz.underlying5 Tryz.underlying9 (Blk.new w1 27 (cellsU8 D).toArray) HDL.out
    rw [hsd] at hcv
    have h1 := kp ((h0.out.bel hb1).alloc (.cells (cellsU8 D).toArray 27))
    have HB := kp (ba (bt' hb0.out hb1 hb0.out.size) (.cells (cellsU8 D).toArray 27))
    clear hb1 hZL
    go_upto_region 4 with (fail)
    clear SC hcv hsd h h' h0 hb0 c1 ks km HDL hcl
    generalize (w1.alloc (.cells (cellsU8 D).toArray 27)) = W at HB h1 ⊢
    obtain ⟨KS, hKS⟩ : ∃ KS, str K1 = KS := ⟨_, rfl⟩
    rw [hKS]
    have hks : KS.size = K1.length := by rw [← hKS, str_size]
    have IX : Kp (∀ (k : Nat) (h : k < K1.length) (W : World), (Instr.index 9 (.string KS) (.int .i64 (k : Int))).run Tryz.prog W = .ok (.int .u8 (K1[k].toNat : Int)) W) := kp (fun k h W => by
      subst hKS
      rw [run_index_string W 9 (str K1) .i64 (k : Int) Tryz.underlying9, dif_pos ⟨by omega, by rw [str_size]; omega⟩]
      rfl)
    have HKS := kp hks
    clear hks hKS
    have HIL := kp (show xorU (F.take 0) 54 = [] from rfl)
    have HO1 : Kp ((((W.alloc (.cells #[] 5)).alloc (.cells #[] 5))).ownsRow (w.heap.size + 1) 5 1 (.slice (some ⟨W.heap.size, 0, none⟩) 0 0) 0 (cellsU8 (xorU (F.take 0) 54))) := kp ((World.ownsRow_lit W #[] 0 (by have := h1.out.lt; omega) (by decide) rfl).alloc _)
    have HO2 : Kp ((((W.alloc (.cells #[] 5)).alloc (.cells #[] 5))).ownsRow (w.heap.size + 1) 5 1 (.slice (some ⟨W.heap.size + 1, 0, none⟩) 0 0) 0 (cellsU8 (xorU (F.take 0) 92))) := kp (by
      have := World.ownsRow_lit (base := w.heap.size + 1) (e := 5) (size := 1) (W.alloc (.cells #[] 5)) #[] 0 (by have := h1.out.lt; simp; omega) (by decide) rfl
      rw [size_all] at this
      exact this)
    have h1' := kp ((h1.out.alloc (.cells #[] 5)).alloc (.cells #[] 5))
    have HB1 := kp (ba (ba HB.out (.cells #[] 5)) (.cells #[] 5))
    clear h1 HB
    go_wp2
    go_loopw [6, 7, 8] (fun vi vo i wr => ∃ (k gi go ci co : Nat), k ≤ 64 ∧ i = .int .i64 (k : Int) ∧ vi = .slice (some ⟨gi, 0, none⟩) k ci ∧ vo = .slice (some ⟨go, 0, none⟩) k co ∧ Kp (gi ≠ go) ∧ Kp (wr.ownsRow (w.heap.size + 1) 5 1 (.slice (some ⟨gi, 0, none⟩) k ci) k (cellsU8 (xorU (F.take k) 54))) ∧ Kp (wr.ownsRow (w.heap.size + 1) 5 1 (.slice (some ⟨go, 0, none⟩) k co) k (cellsU8 (xorU (F.take k) 92))) ∧ Kp (Blk wr w.heap.size 27 (cellsU8 ZL).toArray) ∧ Kp (Below w.heap.size w wr)) (fun _ _ i _ => 64 - (intOf i).toNat)
    case atStart => exact ⟨0, W.heap.size, W.heap.size + 1, 0, 0, by omega, rfl, rfl, rfl, kp (by omega), HO1, HO2, h1', HB1⟩
    case round =>
      clear HO1 HO2 h1' HB1
      obtain ⟨k, gi, go, ci, co, hk, rfl, rfl, rfl, hne, HO1, HO2, h1, HB⟩ := hrel
      by_cases hlt : k < 64
      · have hlt' : (k : Int) < 64 := by omega
        have i2 : (0 : Int) ≤ (k : Int) := by omega
        have hbs := h1.out.lt
        by_cases hin : k < K1.length
        all_goals
          obtain ⟨x, hx⟩ : ∃ x, F[k]? = some x := ⟨_, List.getElem?_eq_getElem (by rw [hfl]; exact hlt)⟩
          have hs1 := kp (xorU_snoc F 54 k x hx)
          have hs2 := kp (xorU_snoc F 92 k x hx)
          have hxi : Kp (∀ (h : k < K1.length), K1[k] = x) := kp (fun h => by have := F1.out k h; rw [hx] at this; injection this with this; exact this.symm)
          have hxo : Kp (K1.length ≤ k → x = 0) := kp (fun h => by have := F2.out k h hlt; rw [hx] at this; injection this)
          clear hx
          have x1 := u8_xor x 54
          have x2 := u8_xor x 92
          rw [show (((54 : UInt8).toNat : Nat) : Int) = 54 from rfl] at x1
          rw [show (((92 : UInt8).toNat : Nat) : Int) = 92 from rfl] at x2
          generalize x ^^^ 54 = a1 at x1 hs1
          generalize x ^^^ 92 = a2 at x2 hs2
        · have ix := IX.out k hin
          rw [hxi.out hin] at ix
          have hin' : (k : Int) < (KS.size : Int) := by have := HKS.out; omega
          clear hxi hxo
          go_wp2_with (at_builtin; refine wpList_append_own_at _ rfl _ _ 93 rfl (w.heap.size + 1) 5 i0 (.int .u8 0) 1 1 Tryz.underlying93 hi hz0 Hz1.out Hz2.out rfl (by decide) _ _ _ rfl (HO1.out.alloc _) ⟨wr.heap.size, 0, none⟩ 1 1 [.int .u8 (a1.toNat : Int)] rfl rfl ?h0c1 ?h0c2 ?h0c3 ?h0c4 ?h0c5 ?_)
          case h0c1 => exact cell_one_new _ _ _
          case h0c2 => simp [Value.oneCell']
          case h0c3 => unfold maxLen; omega
          case h0c4 => omega
          case h0c5 => first | (simp; omega) | omega
          intro v1 w1 hown1 hgrow1 _ hat1
          obtain ⟨g1, p1, rfl, -, -⟩ := World.ownsRow.form hown1 (by omega)
          have hne1 : g1 ≠ go := by
            rcases hat1 with h | h
            · simp [Value.ownBlock] at h; rw [h]; exact hne.out
            · simp [Value.ownBlock] at h; have := (own_lt HO2.out).2; omega
          have HP1 : Kp (w1.ownsRow (w.heap.size + 1) 5 1 (.slice (some ⟨g1, 0, none⟩) (k + 1) p1) (k + 1) (cellsU8 (xorU (F.take (k + 1)) 54))) := kp (by rw [hs1.out, cellsU8_append]; exact hown1)
          have HP2 := kp ((HO2.out.alloc (.cells #[.int .u8 (a1.toNat : Int)] 5)).kept hgrow1 (Or.inr (by simp [Value.ownBlock]; exact fun e => hne.out e.symm)))
          have hg0 := (own_lt HO1.out).1
          have HH1 := kp ((h1.out.alloc (.cells #[.int .u8 (a1.toNat : Int)] 5)).grown hgrow1 (by simp [Value.ownBlock]; omega))
          have HBB1 := kp ((HB.out.alloc HB.out.size (.cells #[.int .u8 (a1.toNat : Int)] 5)).grown hgrow1 (by have := HB.out.size; simp; omega) (fun x hx => by simp [Value.ownBlock] at hx; omega))
          have hbs1 := HH1.out.lt
          clear hown1 hgrow1 hat1 h1 HB HO1
          go_wp2_with (at_builtin; refine wpList_append_own_at _ rfl _ _ 93 rfl (w.heap.size + 1) 5 i0 (.int .u8 0) 1 1 Tryz.underlying93 hi hz0 Hz1.out Hz2.out rfl (by decide) _ _ _ rfl (HP2.out.alloc _) ⟨w1.heap.size, 0, none⟩ 1 1 [.int .u8 (a2.toNat : Int)] rfl rfl ?h1c1 ?h1c2 ?h1c3 ?h1c4 ?h1c5 ?_)
          case h1c1 => exact cell_one_new _ _ _
          case h1c2 => simp [Value.oneCell']
          case h1c3 => unfold maxLen; omega
          case h1c4 => omega
          case h1c5 => first | (simp; omega) | omega
          intro v2 w2 hown2 hgrow2 _ hat2
          obtain ⟨g2, p2, rfl, -, -⟩ := World.ownsRow.form hown2 (by omega)
          have hne2 : g1 ≠ g2 := by
            rcases hat2 with h | h
            · simp [Value.ownBlock] at h; rw [h]; exact hne1
            · simp [Value.ownBlock] at h; have := (own_lt HP1.out).2; omega
          have HQ2 : Kp (w2.ownsRow (w.heap.size + 1) 5 1 (.slice (some ⟨g2, 0, none⟩) (k + 1) p2) (k + 1) (cellsU8 (xorU (F.take (k + 1)) 92))) := kp (by rw [hs2.out, cellsU8_append]; exact hown2)
          have HQ1 := kp ((HP1.out.alloc (.cells #[.int .u8 (a2.toNat : Int)] 5)).kept hgrow2 (Or.inr (by simp [Value.ownBlock]; exact hne1)))
          have hg0' := (own_lt HP2.out).1
          have HH2 := kp ((HH1.out.alloc (.cells #[.int .u8 (a2.toNat : Int)] 5)).grown hgrow2 (by simp [Value.ownBlock]; omega))
          have HBB2 := kp ((HBB1.out.alloc HBB1.out.size (.cells #[.int .u8 (a2.toNat : Int)] 5)).grown hgrow2 (by have := HBB1.out.size; simp; omega) (fun x hx => by simp [Value.ownBlock] at hx; omega))
          clear hown2 hgrow2 hat2 HH1 HBB1 HP1 HP2
          go_wp2
          go_roundw
          case measure => simp [intOf]; omega
          case rel => exact ⟨k + 1, g1, g2, p1, p2, by omega, by go_num, rfl, rfl, kp hne2, HQ1, HQ2, HH2, HBB2⟩
        · have hx0 := hxo.out (by omega)
          have hin' : ¬ (k : Int) < (KS.size : Int) := by have := HKS.out; omega
          rw [hx0, show (((0 : UInt8).toNat : Nat) : Int) = 0 from rfl] at x1 x2
          clear hxi hxo
          go_wp2_with (at_builtin; refine wpList_append_own_at _ rfl _ _ 93 rfl (w.heap.size + 1) 5 i0 (.int .u8 0) 1 1 Tryz.underlying93 hi hz0 Hz1.out Hz2.out rfl (by decide) _ _ _ rfl (HO1.out.alloc _) ⟨wr.heap.size, 0, none⟩ 1 1 [.int .u8 (a1.toNat : Int)] rfl rfl (cell_one_new _ _ _) ?h2c2 ?h2c3 ?h2c4 ?h2c5 ?_)
          case h2c2 => simp [Value.oneCell']
          case h2c3 => unfold maxLen; omega
          case h2c4 => omega
          case h2c5 => first | (simp; omega) | omega
          intro v1 w1 hown1 hgrow1 _ hat1
          obtain ⟨g1, p1, rfl, -, -⟩ := World.ownsRow.form hown1 (by omega)
          have hne1 : g1 ≠ go := by
            rcases hat1 with h | h
            · simp [Value.ownBlock] at h; rw [h]; exact hne.out
            · simp [Value.ownBlock] at h; have := (own_lt HO2.out).2; omega
          have HP1 : Kp (w1.ownsRow (w.heap.size + 1) 5 1 (.slice (some ⟨g1, 0, none⟩) (k + 1) p1) (k + 1) (cellsU8 (xorU (F.take (k + 1)) 54))) := kp (by rw [hs1.out, cellsU8_append]; exact hown1)
          have HP2 := kp ((HO2.out.alloc (.cells #[.int .u8 (a1.toNat : Int)] 5)).kept hgrow1 (Or.inr (by simp [Value.ownBlock]; exact fun e => hne.out e.symm)))
          have hg0 := (own_lt HO1.out).1
          have HH1 := kp ((h1.out.alloc (.cells #[.int .u8 (a1.toNat : Int)] 5)).grown hgrow1 (by simp [Value.ownBlock]; omega))
          have HBB1 := kp ((HB.out.alloc HB.out.size (.cells #[.int .u8 (a1.toNat : Int)] 5)).grown hgrow1 (by have := HB.out.size; simp; omega) (fun x hx => by simp [Value.ownBlock] at hx; omega))
          have hbs1 := HH1.out.lt
          clear hown1 hgrow1 hat1 h1 HB HO1
          go_wp2_with (at_builtin; refine wpList_append_own_at _ rfl _ _ 93 rfl (w.heap.size + 1) 5 i0 (.int .u8 0) 1 1 Tryz.underlying93 hi hz0 Hz1.out Hz2.out rfl (by decide) _ _ _ rfl (HP2.out.alloc _) ⟨w1.heap.size, 0, none⟩ 1 1 [.int .u8 (a2.toNat : Int)] rfl rfl ?h3c1 ?h3c2 ?h3c3 ?h3c4 ?h3c5 ?_)
          case h3c1 => exact cell_one_new _ _ _
          case h3c2 => simp [Value.oneCell']
          case h3c3 => unfold maxLen; omega
          case h3c4 => omega
          case h3c5 => first | (simp; omega) | omega
          intro v2 w2 hown2 hgrow2 _ hat2
          obtain ⟨g2, p2, rfl, -, -⟩ := World.ownsRow.form hown2 (by omega)
          have hne2 : g1 ≠ g2 := by
            rcases hat2 with h | h
            · simp [Value.ownBlock] at h; rw [h]; exact hne1
            · simp [Value.ownBlock] at h; have := (own_lt HP1.out).2; omega
          have HQ2 : Kp (w2.ownsRow (w.heap.size + 1) 5 1 (.slice (some ⟨g2, 0, none⟩) (k + 1) p2) (k + 1) (cellsU8 (xorU (F.take (k + 1)) 92))) := kp (by rw [hs2.out, cellsU8_append]; exact hown2)
          have HQ1 := kp ((HP1.out.alloc (.cells #[.int .u8 (a2.toNat : Int)] 5)).kept hgrow2 (Or.inr (by simp [Value.ownBlock]; exact hne1)))
          have hg0' := (own_lt HP2.out).1
          have HH2 := kp ((HH1.out.alloc (.cells #[.int .u8 (a2.toNat : Int)] 5)).grown hgrow2 (by simp [Value.ownBlock]; omega))
          have HBB2 := kp ((HBB1.out.alloc HBB1.out.size (.cells #[.int .u8 (a2.toNat : Int)] 5)).grown hgrow2 (by have := HBB1.out.size; simp; omega) (fun x hx => by simp [Value.ownBlock] at hx; omega))
          clear hown2 hgrow2 hat2 HH1 HBB1 HP1 HP2
          go_wp2
          go_roundw
          case measure => simp [intOf]; omega
          case rel => exact ⟨k + 1, g1, g2, p1, p2, by omega, by go_num, rfl, rfl, kp hne2, HQ1, HQ2, HH2, HBB2⟩
      · obtain rfl : k = 64 := by omega
        have hta : F.take 64 = F := List.take_of_length_le (by omega)
        rw [hta, ← hik.out] at HO1
        rw [hta, ← hok.out] at HO2
        have hcv := own_str (P := Tryz.prog) 93 (dst := 9) Tryz.underlying93 Tryz.underlying5 Tryz.underlying9 HO1.out
        have hcv' : (Go.convert 93 9 (.slice (some ⟨gi, 0, none⟩) 64 ci)).run Tryz.prog wr = .ok (.string (str I)) wr := hcv
        clear hcv
        have hi1' := hi1.out
        go_wp2_with fail
        refine (c3.out _).mono ?_
        rintro e w3 ⟨rfl, hb3⟩
        clear hcv' hi1'
        have SC := fun (cur : Array Value) (h : cur.size = 32) => sc_new (P := Tryz.prog) w3 27 (cellsU8 D1) (cellsU8_one _) cur (by rw [hcl3]; exact h)
        have hbA := ba hb3 (.cells (cellsU8 D1).toArray 27)
        have K3 := kp (Blk.new w3 27 (cellsU8 D1).toArray)
        have H3 := kp (h1.out.bel hbA)
        have O3 := kp (own_below HO2.out hbA)
        have B3 := kp (bt' HB.out hbA HB.out.size)
        clear hb3 hbA h1 HO1 HO2 HB
        go_wp2_with fail
        clear SC
        generalize (w3.alloc (.cells (cellsU8 D1).toArray 27)) = W4 at K3 H3 O3 B3 ⊢
        generalize w3.heap.size = b3 at K3 ⊢
        have hcv1 : ∀ x, (Go.convert 93 9 (.slice (some ⟨go, 0, none⟩) 64 co)).run Tryz.prog (W4.ext x) = .ok (.string (str O)) (W4.ext x) := fun x => own_str (P := Tryz.prog) 93 (dst := 9) Tryz.underlying93 Tryz.underlying5 Tryz.underlying9 (own_below O3.out (ext_below W4 x))
        have hcv2 := fun x => blk_str (P := Tryz.prog) 93 (e := 5) (dst := 9) (n := 32) (cap := 32) Tryz.underlying93 Tryz.underlying5 Tryz.underlying9 (K3.out.bel (ext_below W4 x)) (by rw [← length_cellsU8]; exact hcl3)
        have ho1' := ho1.out
        refine wp_region_ext [0, 1, 2, 3, 4, 5] [6] (by kernel_rfl) (by kernel_rfl) ?_
        simp only [List.map_cons, List.map_nil, List.getD_cons_succ, List.getD_cons_zero]
        repeat (go_big_quiet_step ((go_at_call 79; with_reducible exact Calls.ext_of (c4.out _))))
        refine wpQuiet_nil ?_
        rintro z
        have h5 := kp (H3.out.bel (ext_below W4 z))
        have b5 := kp (bt' B3.out (ext_below W4 z) B3.out.size)
        clear hcv1 hcv2 ho1' H3 B3 O3 K3
        generalize W4.ext z = Y at h5 b5 ⊢
        have SC := sc_all (P := Tryz.prog) (w := Y) w.heap.size 27 (cellsU8 E) _ h5.out (by rw [hcl2, length_cellsU8, ← HZL.out, List.length_replicate]) (cellsU8_one _)
        have HX := kp (h5.out.row (cellsU8 E).toArray)
        have HBX := kp (bsr b5.out (Nat.le_refl w.heap.size) b5.out.size (cellsU8 E).toArray)
        have HL := kp hcl2
        clear h5 b5
        generalize hY : Y.setRow w.heap.size (cellsU8 E).toArray = Z at SC HX HBX
        clear hY
        go_wp2
        refine bodyPost_ret (v := .agg (cellsU8 E).toArray) ?_ rfl ⟨rfl, HBX.out⟩
        exact res_all Tryz.results109 w.heap.size 32 _ (cellsU8 E) _ Tryz.underlying27 rfl info_key HL.out HX.out _ rfl
  · have hlt : ¬ (64 : Int) < (key.size : Int) := by omega
    have hkm := km.out (by omega)
    have HB := kp hb0.out
    have h1 := kp h0.out
    go_enter Tryz.func109, Tryz.ntmps109
    go_upto_region 4 with (fail)
    change Code.wp _ _ _ _ (w.alloc (.cells (cellsU8 (List.replicate 32 0)).toArray 27))
    rw [hZL] at h1 HB ⊢
    clear hlt h h0 hb0 c1 ks km HDL hcl hZL
    generalize (w.alloc (.cells (cellsU8 ZL).toArray 27)) = W at HB h1 ⊢
    rw [← hkm]
    clear hkm
    obtain ⟨KS, hKS⟩ : ∃ KS, str K1 = KS := ⟨_, rfl⟩
    rw [hKS]
    have hks : KS.size = K1.length := by rw [← hKS, str_size]
    have IX : Kp (∀ (k : Nat) (h : k < K1.length) (W : World), (Instr.index 9 (.string KS) (.int .i64 (k : Int))).run Tryz.prog W = .ok (.int .u8 (K1[k].toNat : Int)) W) := kp (fun k h W => by
      subst hKS
      rw [run_index_string W 9 (str K1) .i64 (k : Int) Tryz.underlying9, dif_pos ⟨by omega, by rw [str_size]; omega⟩]
      rfl)
    have HKS := kp hks
    clear hks hKS
    have HIL := kp (show xorU (F.take 0) 54 = [] from rfl)
    have HO1 : Kp ((((W.alloc (.cells #[] 5)).alloc (.cells #[] 5))).ownsRow (w.heap.size + 1) 5 1 (.slice (some ⟨W.heap.size, 0, none⟩) 0 0) 0 (cellsU8 (xorU (F.take 0) 54))) := kp ((World.ownsRow_lit W #[] 0 (by have := h1.out.lt; omega) (by decide) rfl).alloc _)
    have HO2 : Kp ((((W.alloc (.cells #[] 5)).alloc (.cells #[] 5))).ownsRow (w.heap.size + 1) 5 1 (.slice (some ⟨W.heap.size + 1, 0, none⟩) 0 0) 0 (cellsU8 (xorU (F.take 0) 92))) := kp (by
      have := World.ownsRow_lit (base := w.heap.size + 1) (e := 5) (size := 1) (W.alloc (.cells #[] 5)) #[] 0 (by have := h1.out.lt; simp; omega) (by decide) rfl
      rw [size_all] at this
      exact this)
    have h1' := kp ((h1.out.alloc (.cells #[] 5)).alloc (.cells #[] 5))
    have HB1 := kp (ba (ba HB.out (.cells #[] 5)) (.cells #[] 5))
    clear h1 HB
    go_wp2
    go_loopw [6, 7, 8] (fun vi vo i wr => ∃ (k gi go ci co : Nat), k ≤ 64 ∧ i = .int .i64 (k : Int) ∧ vi = .slice (some ⟨gi, 0, none⟩) k ci ∧ vo = .slice (some ⟨go, 0, none⟩) k co ∧ Kp (gi ≠ go) ∧ Kp (wr.ownsRow (w.heap.size + 1) 5 1 (.slice (some ⟨gi, 0, none⟩) k ci) k (cellsU8 (xorU (F.take k) 54))) ∧ Kp (wr.ownsRow (w.heap.size + 1) 5 1 (.slice (some ⟨go, 0, none⟩) k co) k (cellsU8 (xorU (F.take k) 92))) ∧ Kp (Blk wr w.heap.size 27 (cellsU8 ZL).toArray) ∧ Kp (Below w.heap.size w wr)) (fun _ _ i _ => 64 - (intOf i).toNat)
    case atStart => exact ⟨0, W.heap.size, W.heap.size + 1, 0, 0, by omega, rfl, rfl, rfl, kp (by omega), HO1, HO2, h1', HB1⟩
    case round =>
      clear HO1 HO2 h1' HB1
      obtain ⟨k, gi, go, ci, co, hk, rfl, rfl, rfl, hne, HO1, HO2, h1, HB⟩ := hrel
      by_cases hlt : k < 64
      · have hlt' : (k : Int) < 64 := by omega
        have i2 : (0 : Int) ≤ (k : Int) := by omega
        have hbs := h1.out.lt
        by_cases hin : k < K1.length
        all_goals
          obtain ⟨x, hx⟩ : ∃ x, F[k]? = some x := ⟨_, List.getElem?_eq_getElem (by rw [hfl]; exact hlt)⟩
          have hs1 := kp (xorU_snoc F 54 k x hx)
          have hs2 := kp (xorU_snoc F 92 k x hx)
          have hxi : Kp (∀ (h : k < K1.length), K1[k] = x) := kp (fun h => by have := F1.out k h; rw [hx] at this; injection this with this; exact this.symm)
          have hxo : Kp (K1.length ≤ k → x = 0) := kp (fun h => by have := F2.out k h hlt; rw [hx] at this; injection this)
          clear hx
          have x1 := u8_xor x 54
          have x2 := u8_xor x 92
          rw [show (((54 : UInt8).toNat : Nat) : Int) = 54 from rfl] at x1
          rw [show (((92 : UInt8).toNat : Nat) : Int) = 92 from rfl] at x2
          generalize x ^^^ 54 = a1 at x1 hs1
          generalize x ^^^ 92 = a2 at x2 hs2
        · have ix := IX.out k hin
          rw [hxi.out hin] at ix
          have hin' : (k : Int) < (KS.size : Int) := by have := HKS.out; omega
          clear hxi hxo
          go_wp2_with (at_builtin; refine wpList_append_own_at _ rfl _ _ 93 rfl (w.heap.size + 1) 5 i0 (.int .u8 0) 1 1 Tryz.underlying93 hi hz0 Hz1.out Hz2.out rfl (by decide) _ _ _ rfl (HO1.out.alloc _) ⟨wr.heap.size, 0, none⟩ 1 1 [.int .u8 (a1.toNat : Int)] rfl rfl ?g0c1 ?g0c2 ?g0c3 ?g0c4 ?g0c5 ?_)
          case g0c1 => exact cell_one_new _ _ _
          case g0c2 => simp [Value.oneCell']
          case g0c3 => unfold maxLen; omega
          case g0c4 => omega
          case g0c5 => first | (simp; omega) | omega
          intro v1 w1 hown1 hgrow1 _ hat1
          obtain ⟨g1, p1, rfl, -, -⟩ := World.ownsRow.form hown1 (by omega)
          have hne1 : g1 ≠ go := by
            rcases hat1 with h | h
            · simp [Value.ownBlock] at h; rw [h]; exact hne.out
            · simp [Value.ownBlock] at h; have := (own_lt HO2.out).2; omega
          have HP1 : Kp (w1.ownsRow (w.heap.size + 1) 5 1 (.slice (some ⟨g1, 0, none⟩) (k + 1) p1) (k + 1) (cellsU8 (xorU (F.take (k + 1)) 54))) := kp (by rw [hs1.out, cellsU8_append]; exact hown1)
          have HP2 := kp ((HO2.out.alloc (.cells #[.int .u8 (a1.toNat : Int)] 5)).kept hgrow1 (Or.inr (by simp [Value.ownBlock]; exact fun e => hne.out e.symm)))
          have hg0 := (own_lt HO1.out).1
          have HH1 := kp ((h1.out.alloc (.cells #[.int .u8 (a1.toNat : Int)] 5)).grown hgrow1 (by simp [Value.ownBlock]; omega))
          have HBB1 := kp ((HB.out.alloc HB.out.size (.cells #[.int .u8 (a1.toNat : Int)] 5)).grown hgrow1 (by have := HB.out.size; simp; omega) (fun x hx => by simp [Value.ownBlock] at hx; omega))
          have hbs1 := HH1.out.lt
          clear hown1 hgrow1 hat1 h1 HB HO1
          go_wp2_with (at_builtin; refine wpList_append_own_at _ rfl _ _ 93 rfl (w.heap.size + 1) 5 i0 (.int .u8 0) 1 1 Tryz.underlying93 hi hz0 Hz1.out Hz2.out rfl (by decide) _ _ _ rfl (HP2.out.alloc _) ⟨w1.heap.size, 0, none⟩ 1 1 [.int .u8 (a2.toNat : Int)] rfl rfl ?g1c1 ?g1c2 ?g1c3 ?g1c4 ?g1c5 ?_)
          case g1c1 => exact cell_one_new _ _ _
          case g1c2 => simp [Value.oneCell']
          case g1c3 => unfold maxLen; omega
          case g1c4 => omega
          case g1c5 => first | (simp; omega) | omega
          intro v2 w2 hown2 hgrow2 _ hat2
          obtain ⟨g2, p2, rfl, -, -⟩ := World.ownsRow.form hown2 (by omega)
          have hne2 : g1 ≠ g2 := by
            rcases hat2 with h | h
            · simp [Value.ownBlock] at h; rw [h]; exact hne1
            · simp [Value.ownBlock] at h; have := (own_lt HP1.out).2; omega
          have HQ2 : Kp (w2.ownsRow (w.heap.size + 1) 5 1 (.slice (some ⟨g2, 0, none⟩) (k + 1) p2) (k + 1) (cellsU8 (xorU (F.take (k + 1)) 92))) := kp (by rw [hs2.out, cellsU8_append]; exact hown2)
          have HQ1 := kp ((HP1.out.alloc (.cells #[.int .u8 (a2.toNat : Int)] 5)).kept hgrow2 (Or.inr (by simp [Value.ownBlock]; exact hne1)))
          have hg0' := (own_lt HP2.out).1
          have HH2 := kp ((HH1.out.alloc (.cells #[.int .u8 (a2.toNat : Int)] 5)).grown hgrow2 (by simp [Value.ownBlock]; omega))
          have HBB2 := kp ((HBB1.out.alloc HBB1.out.size (.cells #[.int .u8 (a2.toNat : Int)] 5)).grown hgrow2 (by have := HBB1.out.size; simp; omega) (fun x hx => by simp [Value.ownBlock] at hx; omega))
          clear hown2 hgrow2 hat2 HH1 HBB1 HP1 HP2
          go_wp2
          go_roundw
          case measure => simp [intOf]; omega
          case rel => exact ⟨k + 1, g1, g2, p1, p2, by omega, by go_num, rfl, rfl, kp hne2, HQ1, HQ2, HH2, HBB2⟩
        · have hx0 := hxo.out (by omega)
          have hin' : ¬ (k : Int) < (KS.size : Int) := by have := HKS.out; omega
          rw [hx0, show (((0 : UInt8).toNat : Nat) : Int) = 0 from rfl] at x1 x2
          clear hxi hxo
          go_wp2_with (at_builtin; refine wpList_append_own_at _ rfl _ _ 93 rfl (w.heap.size + 1) 5 i0 (.int .u8 0) 1 1 Tryz.underlying93 hi hz0 Hz1.out Hz2.out rfl (by decide) _ _ _ rfl (HO1.out.alloc _) ⟨wr.heap.size, 0, none⟩ 1 1 [.int .u8 (a1.toNat : Int)] rfl rfl (cell_one_new _ _ _) ?g2c2 ?g2c3 ?g2c4 ?g2c5 ?_)
          case g2c2 => simp [Value.oneCell']
          case g2c3 => unfold maxLen; omega
          case g2c4 => omega
          case g2c5 => first | (simp; omega) | omega
          intro v1 w1 hown1 hgrow1 _ hat1
          obtain ⟨g1, p1, rfl, -, -⟩ := World.ownsRow.form hown1 (by omega)
          have hne1 : g1 ≠ go := by
            rcases hat1 with h | h
            · simp [Value.ownBlock] at h; rw [h]; exact hne.out
            · simp [Value.ownBlock] at h; have := (own_lt HO2.out).2; omega
          have HP1 : Kp (w1.ownsRow (w.heap.size + 1) 5 1 (.slice (some ⟨g1, 0, none⟩) (k + 1) p1) (k + 1) (cellsU8 (xorU (F.take (k + 1)) 54))) := kp (by rw [hs1.out, cellsU8_append]; exact hown1)
          have HP2 := kp ((HO2.out.alloc (.cells #[.int .u8 (a1.toNat : Int)] 5)).kept hgrow1 (Or.inr (by simp [Value.ownBlock]; exact fun e => hne.out e.symm)))
          have hg0 := (own_lt HO1.out).1
          have HH1 := kp ((h1.out.alloc (.cells #[.int .u8 (a1.toNat : Int)] 5)).grown hgrow1 (by simp [Value.ownBlock]; omega))
          have HBB1 := kp ((HB.out.alloc HB.out.size (.cells #[.int .u8 (a1.toNat : Int)] 5)).grown hgrow1 (by have := HB.out.size; simp; omega) (fun x hx => by simp [Value.ownBlock] at hx; omega))
          have hbs1 := HH1.out.lt
          clear hown1 hgrow1 hat1 h1 HB HO1
          go_wp2_with (at_builtin; refine wpList_append_own_at _ rfl _ _ 93 rfl (w.heap.size + 1) 5 i0 (.int .u8 0) 1 1 Tryz.underlying93 hi hz0 Hz1.out Hz2.out rfl (by decide) _ _ _ rfl (HP2.out.alloc _) ⟨w1.heap.size, 0, none⟩ 1 1 [.int .u8 (a2.toNat : Int)] rfl rfl ?g3c1 ?g3c2 ?g3c3 ?g3c4 ?g3c5 ?_)
          case g3c1 => exact cell_one_new _ _ _
          case g3c2 => simp [Value.oneCell']
          case g3c3 => unfold maxLen; omega
          case g3c4 => omega
          case g3c5 => first | (simp; omega) | omega
          intro v2 w2 hown2 hgrow2 _ hat2
          obtain ⟨g2, p2, rfl, -, -⟩ := World.ownsRow.form hown2 (by omega)
          have hne2 : g1 ≠ g2 := by
            rcases hat2 with h | h
            · simp [Value.ownBlock] at h; rw [h]; exact hne1
            · simp [Value.ownBlock] at h; have := (own_lt HP1.out).2; omega
          have HQ2 : Kp (w2.ownsRow (w.heap.size + 1) 5 1 (.slice (some ⟨g2, 0, none⟩) (k + 1) p2) (k + 1) (cellsU8 (xorU (F.take (k + 1)) 92))) := kp (by rw [hs2.out, cellsU8_append]; exact hown2)
          have HQ1 := kp ((HP1.out.alloc (.cells #[.int .u8 (a2.toNat : Int)] 5)).kept hgrow2 (Or.inr (by simp [Value.ownBlock]; exact hne1)))
          have hg0' := (own_lt HP2.out).1
          have HH2 := kp ((HH1.out.alloc (.cells #[.int .u8 (a2.toNat : Int)] 5)).grown hgrow2 (by simp [Value.ownBlock]; omega))
          have HBB2 := kp ((HBB1.out.alloc HBB1.out.size (.cells #[.int .u8 (a2.toNat : Int)] 5)).grown hgrow2 (by have := HBB1.out.size; simp; omega) (fun x hx => by simp [Value.ownBlock] at hx; omega))
          clear hown2 hgrow2 hat2 HH1 HBB1 HP1 HP2
          go_wp2
          go_roundw
          case measure => simp [intOf]; omega
          case rel => exact ⟨k + 1, g1, g2, p1, p2, by omega, by go_num, rfl, rfl, kp hne2, HQ1, HQ2, HH2, HBB2⟩
      · obtain rfl : k = 64 := by omega
        have hta : F.take 64 = F := List.take_of_length_le (by omega)
        rw [hta, ← hik.out] at HO1
        rw [hta, ← hok.out] at HO2
        have hcv := own_str (P := Tryz.prog) 93 (dst := 9) Tryz.underlying93 Tryz.underlying5 Tryz.underlying9 HO1.out
        have hcv' : (Go.convert 93 9 (.slice (some ⟨gi, 0, none⟩) 64 ci)).run Tryz.prog wr = .ok (.string (str I)) wr := hcv
        clear hcv
        have hi1' := hi1.out
        go_wp2_with fail
        refine (c3.out _).mono ?_
        rintro e w3 ⟨rfl, hb3⟩
        clear hcv' hi1'
        have SC := fun (cur : Array Value) (h : cur.size = 32) => sc_new (P := Tryz.prog) w3 27 (cellsU8 D1) (cellsU8_one _) cur (by rw [hcl3]; exact h)
        have hbA := ba hb3 (.cells (cellsU8 D1).toArray 27)
        have K3 := kp (Blk.new w3 27 (cellsU8 D1).toArray)
        have H3 := kp (h1.out.bel hbA)
        have O3 := kp (own_below HO2.out hbA)
        have B3 := kp (bt' HB.out hbA HB.out.size)
        clear hb3 hbA h1 HO1 HO2 HB
        go_wp2_with fail
        clear SC
        generalize (w3.alloc (.cells (cellsU8 D1).toArray 27)) = W4 at K3 H3 O3 B3 ⊢
        generalize w3.heap.size = b3 at K3 ⊢
        have hcv1 : ∀ x, (Go.convert 93 9 (.slice (some ⟨go, 0, none⟩) 64 co)).run Tryz.prog (W4.ext x) = .ok (.string (str O)) (W4.ext x) := fun x => own_str (P := Tryz.prog) 93 (dst := 9) Tryz.underlying93 Tryz.underlying5 Tryz.underlying9 (own_below O3.out (ext_below W4 x))
        have hcv2 := fun x => blk_str (P := Tryz.prog) 93 (e := 5) (dst := 9) (n := 32) (cap := 32) Tryz.underlying93 Tryz.underlying5 Tryz.underlying9 (K3.out.bel (ext_below W4 x)) (by rw [← length_cellsU8]; exact hcl3)
        have ho1' := ho1.out
        refine wp_region_ext [0, 1, 2, 3, 4, 5] [6] (by kernel_rfl) (by kernel_rfl) ?_
        simp only [List.map_cons, List.map_nil, List.getD_cons_succ, List.getD_cons_zero]
        repeat (go_big_quiet_step ((go_at_call 79; with_reducible exact Calls.ext_of (c4.out _))))
        refine wpQuiet_nil ?_
        rintro z
        have h5 := kp (H3.out.bel (ext_below W4 z))
        have b5 := kp (bt' B3.out (ext_below W4 z) B3.out.size)
        clear hcv1 hcv2 ho1' H3 B3 O3 K3
        generalize W4.ext z = Y at h5 b5 ⊢
        have SC := sc_all (P := Tryz.prog) (w := Y) w.heap.size 27 (cellsU8 E) _ h5.out (by rw [hcl2, length_cellsU8, ← HZL.out, List.length_replicate]) (cellsU8_one _)
        have HX := kp (h5.out.row (cellsU8 E).toArray)
        have HBX := kp (bsr b5.out (Nat.le_refl w.heap.size) b5.out.size (cellsU8 E).toArray)
        have HL := kp hcl2
        clear h5 b5
        generalize hY : Y.setRow w.heap.size (cellsU8 E).toArray = Z at SC HX HBX
        clear hY
        go_wp2
        refine bodyPost_ret (v := .agg (cellsU8 E).toArray) ?_ rfl ⟨rfl, HBX.out⟩
        exact res_all Tryz.results109 w.heap.size 32 _ (cellsU8 E) _ Tryz.underlying27 rfl info_key HL.out HX.out _ rfl
end Go.Proofs.YtmblknknbbdmeaaGreat
/- the reference's mac: Of, Short, Right. -/
namespace Go.Proofs.YtmblknknbbdmeaaGreat
open Go Go.RowKit
set_option linter.unusedVariables false
set_option linter.unusedSimpArgs false
attribute [local go_sem] bmax2 bmin2 bmax bmin cell_ext frozen_ext

set_option maxHeartbeats 1000000 in
set_option maxRecDepth 100000 in
theorem R_Of (K : List UInt8) (t : ByteArray) (hK : K.length = 32) (ht : t.size ≤ 1099511627) (w : World) :
    Calls Tryz.prog 78 #[.agg (cellsU8 K).toArray, .string t] w fun e w' => e = .returned (.agg (cellsU8 (macD K (bs t))).toArray) ∧ Below w.heap.size w w' := by
  have c1 := kp (fun w' => R_Tag (str K) t (by rw [str_size]; omega) ht w')
  rw [bs_str] at c1
  have hcl := key_cells _ (macD_length K (bs t))
  generalize macD K (bs t) = E at c1 hcl ⊢
  obtain ⟨ZL, hZL⟩ : ∃ ZL : List UInt8, List.replicate 32 0 = ZL := ⟨_, rfl⟩
  have h0 := (Blk.new w 27 (cellsU8 K).toArray).alloc (.cells (cellsU8 (List.replicate 32 0)).toArray 27)
  have h1 := kp (Blk.new (w.alloc (.cells (cellsU8 K).toArray 27)) 27 (cellsU8 (List.replicate 32 0)).toArray)
  have hb0 := kp (ba (ba (Below.refl w.heap.size w) (.cells (cellsU8 K).toArray 27)) (.cells (cellsU8 (List.replicate 32 0)).toArray 27))
  rw [size_all] at h1
  have hcv := fun o => blk_str (P := Tryz.prog) 93 (e := 5) (dst := 9) (n := 32) (cap := 32) Tryz.underlying93 Tryz.underlying5 Tryz.underlying9 ((Blk.new w 27 (cellsU8 K).toArray).alloc o) hK
  clear ht hK h0
  go_enter Tryz.func78, Tryz.ntmps78
  go_wp2_with fail
  refine (c1.out _).mono ?_
  rintro e w2 ⟨rfl, hb2⟩
  have h2 := h1.out.bel hb2
  rw [hZL] at h2
  have SC := sc_all (P := Tryz.prog) (w := w2) (w.heap.size + 1) 27 (cellsU8 E) _ h2 (by rw [hcl, length_cellsU8, ← hZL, List.length_replicate]) (cellsU8_one _)
  have HX := kp (h2.row (cellsU8 E).toArray)
  have HBX := kp (bsr (bt' hb0.out hb2 hb0.out.size) (Nat.le_succ w.heap.size) (bt' hb0.out hb2 hb0.out.size).size (cellsU8 E).toArray)
  have HL := kp hcl
  clear h1 h2 hb2 hb0 hcv hZL
  generalize hY : w2.setRow (w.heap.size + 1) (cellsU8 E).toArray = Z at SC HX HBX
  clear hY
  go_wp2
  refine bodyPost_ret (v := .agg (cellsU8 E).toArray) ?_ rfl ⟨rfl, HBX.out⟩
  exact res_all Tryz.results78 (w.heap.size + 1) 32 _ (cellsU8 E) _ Tryz.underlying27 rfl info_key HL.out HX.out _ rfl

theorem one_str (c : UInt8) : strOfNums [(c.toNat : Int)] = str [c] := strNums [c]

set_option maxHeartbeats 1000000 in
set_option maxRecDepth 100000 in
theorem R_Short (key t : ByteArray) (n : Int) (N : Nat) (hN : min (max n 0) 32 = (N : Int)) (hk : key.size ≤ 1099511627) (ht : t.size ≤ 1099511627) (w : World) :
    Calls Tryz.prog 92 #[.string key, .string t, .int .i64 n] w fun e w' => e = .returned (.string (str ((macD (bs key) (bs t)).take N))) ∧ Below w.heap.size w w' := by
  have c1 := kp (fun w' => R_Tag key t hk ht w')
  have hel := macD_length (bs key) (bs t)
  have hcl := key_cells _ hel
  generalize macD (bs key) (bs t) = E at c1 hcl hel ⊢
  have hN2 : N ≤ 32 := by omega
  clear ht hk
  go_enter Tryz.func92, Tryz.ntmps92
  go_wp2_with fail
  refine (c1.out _).mono ?_
  rintro e w1 ⟨rfl, hb1⟩
  have SC := fun (cur : Array Value) (h : cur.size = 32) => sc_new (P := Tryz.prog) w1 27 (cellsU8 E) (cellsU8_one _) cur (by rw [hcl]; exact h)
  have h1 := kp (Blk.new w1 27 (cellsU8 E).toArray)
  have HB := kp (ba hb1 (.cells (cellsU8 E).toArray 27))
  have HEL := kp hel
  have HNN := kp hN
  clear hb1 hel hN
  go_upto_region 2 with (fail)
  clear SC hcl
  generalize (w1.alloc (.cells (cellsU8 E).toArray 27)) = W at HB h1 ⊢
  generalize w1.heap.size = b at h1 ⊢
  go_wp2
  go_loopw [8, 9] (fun s i wr => ∃ k : Nat, k ≤ N ∧ i = .int .i64 (k : Int) ∧ s = .string (str (E.take k)) ∧ Kp (Blk wr b 27 (cellsU8 E).toArray) ∧ Kp (Below w.heap.size w wr)) (fun _ i _ => N - (intOf i).toNat)
  case atStart => exact ⟨0, Nat.zero_le _, rfl, rfl, h1, HB⟩
  case round =>
    clear h1 HB
    obtain ⟨k, hk, rfl, rfl, h1, HB⟩ := hrel
    by_cases hlt : k < N
    · have i1 : (k : Int) < 32 := by omega
      have i2 : (0 : Int) ≤ (k : Int) := by omega
      have i3 : (k : Int) < n := by have := HNN.out; omega
      obtain ⟨c, hc⟩ : ∃ c, E[k]? = some c := ⟨_, List.getElem?_eq_getElem (by rw [HEL.out]; omega)⟩
      have hce : wr.cell? ⟨b, k, none⟩ = some (.int .u8 (c.toNat : Int)) := h1.out.atL (by
        obtain ⟨h1, h2⟩ := List.getElem?_eq_some_iff.1 hc
        rw [cellsU8_get E k h1, h2])
      have hsn : Kp (str (E.take k) ++ str [c] = str (E.take (k + 1))) := kp (by
        rw [List.take_add_one, hc, str_append]; rfl)
      have hsz : (str (E.take k)).size ≤ 32 := by rw [str_size, List.length_take]; omega
      have hz1 : (str [c]).size ≤ 1 := by rw [str_size]; simp
      have hbl := h1.out.lt
      clear hc
      generalize str (E.take k) = S at hsz hsn ⊢
      have hcv := conv_one (P := Tryz.prog) wr (e' := 5) 93 Tryz.underlying93 Tryz.underlying5 Tryz.underlying9 (c.toNat : Int)
      rw [one_str] at hcv
      generalize str [c] = Q1 at hz1 hsn hcv
      go_wp2
      go_roundw
      case measure => simp [intOf]; omega
      case rel => exact ⟨k + 1, by omega, by go_num, by rw [← hsn.out], kp (h1.out.alloc _), kp (ba HB.out _)⟩
    · obtain rfl : k = N := by omega
      by_cases h32 : (k : Int) < 32
      · have i3 : ¬ (k : Int) < n := by have := HNN.out; omega
        go_wp2
        go_ret
        exact ⟨rfl, HB.out⟩
      · go_wp2
        go_ret
        exact ⟨rfl, HB.out⟩

end Go.Proofs.YtmblknknbbdmeaaGreat
/- keys compared, as one step of a quiet region. -/
namespace Go.Proofs.YtmblknknbbdmeaaGreat
open Go Go.RowKit
set_option linter.unusedVariables false
set_option linter.unusedSimpArgs false

theorem run_eqk (D E : List UInt8) (hD : D.length = 32) (hE : E.length = 32) (w : World) : (Go.binOp .eql 27 (.agg (cellsU8 D).toArray) (.agg (cellsU8 E).toArray)).run Tryz.prog w = .ok (.bool (decide (D = E))) w := by
  have e : (Op.equal 27 (.agg (cellsU8 D).toArray) (.agg (cellsU8 E).toArray)).run Tryz.prog w = .ok (decide (D = E)) w := eq_key D E hD hE w
  generalize (Value.agg (cellsU8 D).toArray) = A at *
  unfold Go.binOp
  simp only [Sem.run_bind, e, Result.andThen_ok, Sem.run_pure]
theorem exec_eqk {o : Oper} {a : Act} {x y : Operand} {t' : TypeId} (ho : o.op = .binOp .eql 27 x y t') {D E : List UInt8} (hx : a.eval x = .agg (cellsU8 D).toArray) (hy : a.eval y = .agg (cellsU8 E).toArray) (hD : D.length = 32) (hE : E.length = 32) (w : World) :
    (execOp a.eval o).run Tryz.prog w = .ok (.value (.bool (decide (D = E)))) w := by
  have e := run_eqk D E hD hE w
  have g := guard_key
  unfold execOp
  simp only [ho, hx, hy]
  unfold eqGuard
  simp [Sem.run_bind, e, g]
theorem quiet_eqk {o : Oper} {a : Act} {C : World → Prop} {K : Act → Prop} (d : Tmp) (hd : o.dst = some d) {x y : Operand} {t' : TypeId} (ho : o.op = .binOp .eql 27 x y t') {D E : List UInt8} (hx : a.eval x = .agg (cellsU8 D).toArray) (hy : a.eval y = .agg (cellsU8 E).toArray) (hD : D.length = 32) (hE : E.length = 32)
    (h : K { a with tmps := a.tmps.setIfInBounds d (.bool (decide (D = E))) }) : o.quiet Tryz.prog a C K := by
  refine ⟨.bool (decide (D = E)), fun w hw => ?_, by rw [hd]; exact h⟩
  unfold Oper.quietAt
  rw [exec_eqk ho hx hy hD hE w]
  exact ⟨rfl, rfl⟩
theorem run_nek (D E : List UInt8) (hD : D.length = 32) (hE : E.length = 32) (w : World) : (Go.binOp .neq 27 (.agg (cellsU8 D).toArray) (.agg (cellsU8 E).toArray)).run Tryz.prog w = .ok (.bool (!decide (D = E))) w := by
  have e : (Op.equal 27 (.agg (cellsU8 D).toArray) (.agg (cellsU8 E).toArray)).run Tryz.prog w = .ok (decide (D = E)) w := eq_key D E hD hE w
  generalize (Value.agg (cellsU8 D).toArray) = A at *
  unfold Go.binOp
  simp only [Sem.run_bind, e, Result.andThen_ok, Sem.run_pure]
theorem exec_nek {o : Oper} {a : Act} {x y : Operand} {t' : TypeId} (ho : o.op = .binOp .neq 27 x y t') {D E : List UInt8} (hx : a.eval x = .agg (cellsU8 D).toArray) (hy : a.eval y = .agg (cellsU8 E).toArray) (hD : D.length = 32) (hE : E.length = 32) (w : World) :
    (execOp a.eval o).run Tryz.prog w = .ok (.value (.bool (!decide (D = E)))) w := by
  have e := run_nek D E hD hE w
  have g := guard_key
  unfold execOp
  simp only [ho, hx, hy]
  unfold eqGuard
  simp [Sem.run_bind, e, g]
theorem quiet_nek {o : Oper} {a : Act} {C : World → Prop} {K : Act → Prop} (d : Tmp) (hd : o.dst = some d) {x y : Operand} {t' : TypeId} (ho : o.op = .binOp .neq 27 x y t') {D E : List UInt8} (hx : a.eval x = .agg (cellsU8 D).toArray) (hy : a.eval y = .agg (cellsU8 E).toArray) (hD : D.length = 32) (hE : E.length = 32)
    (h : K { a with tmps := a.tmps.setIfInBounds d (.bool (!decide (D = E))) }) : o.quiet Tryz.prog a C K := by
  refine ⟨.bool (!decide (D = E)), fun w hw => ?_, by rw [hd]; exact h⟩
  unfold Oper.quietAt
  rw [exec_nek ho hx hy hD hE w]
  exact ⟨rfl, rfl⟩
end Go.Proofs.YtmblknknbbdmeaaGreat
