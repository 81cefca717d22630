/- the reference's sha: Sum. -/
import Derived.Test.YtfmfdhcmbnabpaaRSha2
namespace Go.Proofs.Ytfmfdhcmbnabpaa
open Go Go.RowKit
set_option linter.unusedVariables false
set_option linter.unusedSimpArgs false
attribute [local go_sem] bmax2 bmin2 bmax bmin cell_ext frozen_ext

theorem v8_own {W : World} {B g cap : Nat} {T : TypeId} {a b c d e f g' h : Nat} (hB : W.ownsRow B T 1 (.slice (some ⟨g, 0, none⟩) 8 cap) 8 (c32 [a, b, c, d, e, f, g', h])) :
    W.cell? ⟨g, 0, none⟩ = some (.int .u32 (a : Int)) ∧ W.cell? ⟨g, 1, none⟩ = some (.int .u32 (b : Int)) ∧ W.cell? ⟨g, 2, none⟩ = some (.int .u32 (c : Int)) ∧ W.cell? ⟨g, 3, none⟩ = some (.int .u32 (d : Int)) ∧ W.cell? ⟨g, 4, none⟩ = some (.int .u32 (e : Int)) ∧ W.cell? ⟨g, 5, none⟩ = some (.int .u32 (f : Int)) ∧ W.cell? ⟨g, 6, none⟩ = some (.int .u32 (g' : Int)) ∧ W.cell? ⟨g, 7, none⟩ = some (.int .u32 (h : Int)) ∧ g < W.heap.size :=
  ⟨own32_cell hB rfl 0 (by omega), own32_cell hB rfl 1 (by omega), own32_cell hB rfl 2 (by omega), own32_cell hB rfl 3 (by omega), own32_cell hB rfl 4 (by omega), own32_cell hB rfl 5 (by omega), own32_cell hB rfl 6 (by omega), own32_cell hB rfl 7 (by omega), (own_lt hB).2⟩
theorem own_cap {w : World} {B e size n : Nat} {g c : Nat} {xs : List Value} (h : w.ownsRow B e size (.slice (some ⟨g, 0, none⟩) n c) n xs) : n ≤ c := by
  rcases h.2 with ⟨h', _⟩ | ⟨g', cap', cur, h', _, hg, hc, _⟩
  · simp at h'
  · simp only [Value.slice.injEq, Option.some.injEq, Addr.mk.injEq, and_true, true_and] at h'
    obtain ⟨rfl, rfl⟩ := h'
    exact hc
theorem ch_eq' (e f g : Nat) (he : e < M32) (hf : f < M32) (hg : g < M32) :
    bits .xor .u32 (bits .and .u32 (e : Int) (f : Int)) (bits .and .u32 (bits .xor .u32 IntKind.u32.max (e : Int)) (g : Int)) = ((chN e f g : Nat) : Int) := ch_eq e f g he hf hg
theorem bg_eq (x a b c : Nat) (h : x < M32) (ha : 1 ≤ a) (hb : 1 ≤ b) (hc : 1 ≤ c) : bits .xor .u32 (bits .xor .u32 ((rr x a : Nat) : Int) ((rr x b : Nat) : Int)) ((rr x c : Nat) : Int) = ((rr x a ^^^ rr x b ^^^ rr x c : Nat) : Int) := by
  rw [u32_xor_nat _ _ (rr_lt _ _ h ha) (rr_lt _ _ h hb), u32_xor_nat _ _ (xor_lt32 (rr_lt _ _ h ha) (rr_lt _ _ h hb)) (rr_lt _ _ h hc)]
theorem ma_eq' (a b c : Nat) (ha : a < M32) (hb : b < M32) (hc : c < M32) :
    bits .xor .u32 (bits .xor .u32 (bits .and .u32 (a : Int) (b : Int)) (bits .and .u32 (a : Int) (c : Int))) (bits .and .u32 (b : Int) (c : Int)) = ((maN a b c : Nat) : Int) := by
  rw [u32_and_nat _ _ ha hb, u32_and_nat _ _ ha hc, u32_and_nat _ _ hb hc, u32_xor_nat _ _ (and_lt32 ha) (and_lt32 ha), u32_xor_nat _ _ (xor_lt32 (and_lt32 ha) (and_lt32 ha)) (and_lt32 hb), ma_xor]

theorem sum_ar {nb j q sz : Nat} (h : 64 * j = q) (hlt : j < nb) (hs : sz = 64 * nb) (hn : nb ≤ 17179869190) : (q : Int) + 64 ≤ (sz : Int) ∧ (0 : Int) ≤ (q : Int) ∧ sz ≤ 1099511628160 := by omega
theorem sum_pl {nb j : Nat} {M : List UInt8} (hlt : j < nb) (hs : M.length = 64 * nb) : ((M.drop (64 * j)).take 64).length = 64 := by simp; omega

/-- the first i of l, and bytes 0 for the others -/
def partU (l : List UInt8) (i : Nat) : List UInt8 := l.take i ++ List.replicate (l.length - i) 0
theorem partU_zero (l : List UInt8) : partU l 0 = List.replicate l.length 0 := by simp [partU]
theorem partU_all (l : List UInt8) : partU l l.length = l := by simp [partU]
theorem partU_length (l : List UInt8) (i : Nat) (h : i ≤ l.length) : (partU l i).length = l.length := by simp [partU]; omega
theorem partU_set (l : List UInt8) (i : Nat) (c : UInt8) (h : l[i]? = some c) : (partU l i).set i c = partU l (i + 1) := by
  obtain ⟨h1, h2⟩ := List.getElem?_eq_some_iff.1 h
  unfold partU
  rw [List.set_append_right _ _ (by simp; omega), show i - (l.take i).length = 0 by simp; omega, show l.length - i = (l.length - (i + 1)) + 1 by omega, List.replicate_succ, List.set_cons_zero, List.take_succ_eq_append_getElem h1, h2, List.append_assoc]
  rfl
theorem outB_at (v : V8) (q r : Nat) (hq : q < 8) (hr : r < 4) : (outB v)[4 * q + r]? = some (UInt8.ofNat (v.list.getD q 0 / 256 ^ (3 - r) % 256)) := by
  match q, r, hq, hr with
  | 0, 0, _, _ | 0, 1, _, _ | 0, 2, _, _ | 0, 3, _, _ | 1, 0, _, _ | 1, 1, _, _ | 1, 2, _, _ | 1, 3, _, _ | 2, 0, _, _ | 2, 1, _, _ | 2, 2, _, _ | 2, 3, _, _ | 3, 0, _, _ | 3, 1, _, _ | 3, 2, _, _ | 3, 3, _, _
  | 4, 0, _, _ | 4, 1, _, _ | 4, 2, _, _ | 4, 3, _, _ | 5, 0, _, _ | 5, 1, _, _ | 5, 2, _, _ | 5, 3, _, _ | 6, 0, _, _ | 6, 1, _, _ | 6, 2, _, _ | 6, 3, _, _ | 7, 0, _, _ | 7, 1, _, _ | 7, 2, _, _ | 7, 3, _, _ => rfl
  | q + 8, _, h, _ => omega
  | _, r + 4, _, h => omega

set_option maxHeartbeats 4000000 in
set_option maxRecDepth 100000 in
theorem R_Sum (m : List UInt8) (hm : m.length ≤ 1099511627776) (w : World) :
    Calls Try.prog 27 #[.string (str m)] w fun e w' => e = .returned (keyV (digest m)) ∧ Below w.heap.size w w' := by
  obtain ⟨i0, hi, hz0, hz1, hz2⟩ := info_parts info_u32
  have Hz2 := kp hz2
  have Hz1 := kp hz1
  clear hz1 hz2
  have HF := kp (fun w' => R_filled m hm w')
  obtain ⟨nb, hnb⟩ : ∃ nb, (m ++ padB m).length = 64 * nb := ⟨(m ++ padB m).length / 64, by rw [List.length_append, padB_length]; unfold gapN; omega⟩
  have hnb2 : nb ≤ 17179869190 := by rw [List.length_append, padB_length] at hnb; unfold gapN at hnb; omega
  have HD : Kp (digest m = outB (hRun h0V nb (m ++ padB m))) := kp (by unfold digest hOf; rw [hnb, show 64 * nb / 64 = nb by omega])
  obtain ⟨M, hMn⟩ : ∃ M, m ++ padB m = M := ⟨_, rfl⟩
  rw [hMn] at HF HD hnb
  have hsz : (str M).size = 64 * nb := by rw [str_size]; exact hnb
  have HNB := kp hnb
  have hok := kp (fun j => hRun_ok j h0V M h0V_ok)
  have HRS := kp (fun j => hRun_succ h0V j M)
  have hH0 : Kp (hRun h0V 0 M = h0V) := kp rfl
  generalize hRun h0V = H at hok HRS hH0 HD
  obtain ⟨KL, hKL⟩ : ∃ KL, c32 kL = KL := ⟨_, rfl⟩
  have HKL : Kp (∀ i, i < 64 → KL[i]? = some (.int .u32 ((kL.getD i 0 : Nat) : Int))) := kp (fun i hi => by rw [← hKL]; exact c32_get hi)
  have HRC := kp (fun w => R_constants w)
  rw [hKL] at HRC
  clear hMn hm hnb hKL
  unfold keyV
  have K2 := kp ((Blk.new w 23 (cellsU8 (List.replicate 32 0)).toArray).alloc (.cells (c32 h0V.list).toArray 65))
  have K3 := kp (Blk.new (w.alloc (.cells (cellsU8 (List.replicate 32 0)).toArray 23)) 65 (c32 h0V.list).toArray)
  have HB := kp (ba (ba (Below.refl w.heap.size w) (.cells (cellsU8 (List.replicate 32 0)).toArray 23)) (.cells (c32 h0V.list).toArray 65))
  have hws : ((w.alloc (.cells (cellsU8 (List.replicate 32 0)).toArray 23)).alloc (.cells (c32 h0V.list).toArray 65)).heap.size = w.heap.size + 1 + 1 := by rw [size_all, size_all]
  rw [size_all] at K3
  have HWS := kp hws
  clear hws
  go_enter Try.func27, Try.ntmps27
  go_wp2_with fail
  change Calls Try.prog _ _ ((w.alloc (.cells (cellsU8 (List.replicate 32 0)).toArray 23)).alloc (.cells (c32 h0V.list).toArray 65)) _
  generalize ((w.alloc (.cells (cellsU8 (List.replicate 32 0)).toArray 23)).alloc (.cells (c32 h0V.list).toArray 65)) = W1 at K2 K3 HB HWS ⊢
  refine (HRC.out _).mono ?_
  rintro e w2 ⟨rfl, hb2, hk2⟩
  rw [HWS.out] at hk2 ⊢
  have K4 := kp hk2
  have K3' := kp (K3.out.bel hb2)
  have K2' := kp (K2.out.bel hb2)
  have HB' := kp (bt' HB.out hb2 HB.out.size)
  clear hb2 hk2 K2 K3 HB HWS
  go_wp2_with fail
  refine (HF.out _).mono ?_
  rintro e w3 ⟨rfl, hb3⟩
  have K4 := kp (K4.out.bel hb3)
  have K3 : Kp (Blk w3 (w.heap.size + 1) 65 (c32 (H 0 M).list).toArray) := kp (by rw [hH0.out]; exact K3'.out.bel hb3)
  have K2 := kp (K2'.out.bel hb3)
  have HB := kp (bt' HB'.out hb3 HB'.out.size)
  clear hb3 K2' K3' HB' HF
  go_wp2 -- first
  go_loopw [6] (fun i wr => ∃ j : Nat, j ≤ nb ∧ i = .int .i64 ((64 * j : Nat) : Int) ∧ Kp (Blk wr w.heap.size 23 (cellsU8 (List.replicate 32 0)).toArray) ∧ Kp (Blk wr (w.heap.size + 1) 65 (c32 (H j M).list).toArray) ∧ Kp (Blk wr (w.heap.size + 1 + 1) 65 KL.toArray) ∧ Kp (Below w.heap.size w wr)) (fun i _ => 64 * nb - (intOf i).toNat)
  case atStart => exact ⟨0, Nat.zero_le _, rfl, K2, K3, K4, HB⟩
  case round =>
    clear K2 K3 K4 HB
    obtain ⟨j, hj, rfl, K2, K3, K4, HB⟩ := hrel
    by_cases hlt : j < nb
    · obtain ⟨q, hq⟩ : ∃ q, 64 * j = q := ⟨_, rfl⟩
      obtain ⟨q1, q2, q3⟩ := sum_ar hq hlt hsz hnb2
      have HJN := kp hlt
      have hx : (str M).extract q (q + 64) = str ((M.drop (64 * j)).take 64) := by rw [extract_str, hq, show q + 64 - q = 64 by omega]
      have hpl := sum_pl hlt HNB.out
      have HN := kp (fun w' => R_numbers ((M.drop (64 * j)).take 64) hpl w')
      have HQ := kp hq
      rw [hq]
      have hoj := kp (hok.out j)
      have hrs := kp (HRS.out j)
      clear hpl hq
      generalize (M.drop (64 * j)).take 64 = p at HN hrs hx
      generalize H j M = V at hrs K3 hoj
      have HSZ := kp hsz
      clear hsz
      go_wp2_with fail
      refine (HN.out _).mono ?_
      rintro e w4 ⟨gw, cw, rfl, ho, hb4⟩
      have hgw := kp (own_lt ho)
      have K2' := kp (K2.out.bel hb4)
      have K3' := kp (K3.out.bel hb4)
      have K4' := kp (K4.out.bel hb4)
      have HB' := kp (bt' HB.out hb4 HB.out.size)
      have hw1 := kp (K3.out.lt)
      have hw2 := kp (K4.out.lt)
      have HOW := kp ho
      clear K2 K3 K4 HB hb4 ho HN
      have hl8 : (c32 V.list).length = 8 := rfl
      have hnews : ∀ (i : Nat) (u : Value), (c32 V.list)[i]? = some u → (w4.alloc (.cells #[] 65)).cell? ((⟨w.heap.size + 1, 0, none⟩ : Addr).add i) = some u := fun i u hu => by
        rw [addr_add, Nat.zero_add]
        exact (K3'.out.alloc _).atL hu
      have h1c := c32_one V.list
      have hVL : Kp (c32 V.list = c32 (rounds (sched p) V 0).list) := kp rfl
      obtain ⟨VL, hVLn⟩ : ∃ VL, c32 V.list = VL := ⟨_, rfl⟩
      rw [hVLn] at hl8 hnews h1c hVL
      have HNEWS := kp hnews
      have HVN := kp hVLn
      clear hnews hVLn
      go_wp2_with (at_builtin; refine wpList_append_own _ rfl _ _ 66 rfl w4.heap.size 65 i0 (.int .u32 0) 1 4 Try.underlying66 hi hz0 Hz1.out Hz2.out rfl (by decide) _ _ _ rfl (World.ownsRow_lit w4 #[] 0 (Nat.le_refl _) (by unfold maxLen; omega) rfl) ⟨w.heap.size + 1, 0, none⟩ 8 8 VL rfl ?c0 ?c1 h1c ?c3 ?c4 ?c5 ?_)
      case c0 => exact hl8
      case c1 => exact HNEWS.out
      case c3 => unfold maxLen; omega
      case c4 => omega
      case c5 => simp
      intro v' w5 hown' hgrow' _
      obtain ⟨g, cap, rfl, -, -⟩ := World.ownsRow.form hown' (by omega)
      have HV : Kp (w5.ownsRow w4.heap.size 65 1 (.slice (some ⟨g, 0, none⟩) 8 cap) 8 (c32 (rounds (sched p) V 0).list)) := kp (by rw [← hVL.out]; simpa using hown')
      have HG := kp (((Below.refl w4.heap.size w4).alloc (Nat.le_refl _) (.cells #[] 65)).grown hgrow' (by simp) (fun x hx => by simp [Value.ownBlock] at hx; omega))
      clear hown' hgrow' h1c hl8
      go_wp2
      go_loopw [8, 9] (fun v i wx => ∃ (k g cap : Nat), k ≤ 64 ∧ i = .int .i64 (k : Int) ∧ v = .slice (some ⟨g, 0, none⟩) 8 cap ∧ Kp (wx.ownsRow w4.heap.size 65 1 (.slice (some ⟨g, 0, none⟩) 8 cap) 8 (c32 (rounds (sched p) V k).list)) ∧ Kp (Below w4.heap.size w4 wx)) (fun _ i _ => 64 - (intOf i).toNat)
      case atStart => exact ⟨0, g, cap, Nat.zero_le _, rfl, rfl, HV, HG⟩
      case round =>
        clear HV HG
        obtain ⟨k, g, cap, hk, rfl, rfl, HV, HG⟩ := hrel
        by_cases hlt : k < 64
        · have hlt' : (k : Int) < 64 := by clear q1 q3; omega
          have i2 : (0 : Int) ≤ (k : Int) := Int.natCast_nonneg _
          have HOK := kp (rounds_ok hoj.out (sched p) k)
          have HR : Kp (rounds (sched p) V (k + 1) = rnd (rounds (sched p) V k) (kL.getD k 0) ((sched p).getD k 0)) := kp rfl
          have cs := own32_cell HOW.out (sched_length p) k hlt
          have ck := K4'.out.atL (HKL.out k hlt)
          have HKB := kp (getD_lt kL kL_lt k)
          have HSB := kp (getD_lt (sched p) (sched_lt p) k)
          generalize kL.getD k 0 = kk at ck HKB HR
          generalize (sched p).getD k 0 = ss at cs HSB HR
          obtain ⟨R, hR⟩ : ∃ R, rounds (sched p) V k = R := ⟨_, rfl⟩
          rw [hR] at HV HOK HR
          obtain ⟨x1, x2, x3, x4, x5, x6, x7, x8⟩ := R
          have HR0 := kp hR
          clear hR
          obtain ⟨y1, y2, y3, y4, y5, y6, y7, y8⟩ := (V8.ok_iff _).1 HOK.out
          simp only at y1 y2 y3 y4 y5 y6 y7 y8
          have HY := kp HOK.out
          have Y1 := kp y1
          have Y5 := kp y5
          have CS := kp cs
          have CK := kp ck
          have FA : Kp (∀ W, Below w4.heap.size w4 W → W.ownsRow w4.heap.size 65 1 (.slice (some ⟨g, 0, none⟩) 8 cap) 8 (c32 [x1, x2, x3, x4, x5, x6, x7, x8]) → W.cell? ⟨gw, k, none⟩ = some (.int .u32 (ss : Int)) ∧ W.cell? ⟨w.heap.size + 1 + 1, k, none⟩ = some (.int .u32 (kk : Int)) ∧ gw < W.heap.size ∧ w.heap.size + 1 + 1 < W.heap.size) := kp (fun W hb _ => by
            have l1 := hgw.out.2
            have l2 := K4'.out.lt
            refine ⟨(hb.cell (p := ⟨gw, k, none⟩) l1).trans CS.out, (hb.cell (p := ⟨w.heap.size + 1 + 1, k, none⟩) l2).trans CK.out, Nat.lt_of_lt_of_le l1 hb.size, Nat.lt_of_lt_of_le l2 hb.size⟩)
          have g1 := bg_eq x5 6 11 25 y5 (by decide) (by decide) (by decide)
          have g0 := bg_eq x1 2 13 22 y1 (by decide) (by decide) (by decide)
          have gc := ch_eq x5 x6 x7 y5 y6 y7
          have gm := ma_eq' x1 x2 x3 y1 y2 y3
          clear cs ck y1 y2 y3 y4 y5 y6 y7 y8
          have HV : Kp (wr.ownsRow w4.heap.size 65 1 (.slice (some ⟨g, 0, none⟩) 8 cap) 8 (c32 [x1, x2, x3, x4, x5, x6, x7, x8])) := HV
          obtain ⟨c0, c1, c2, c3, c4, c5, c6, c7, c8⟩ := v8_own HV.out
          obtain ⟨cs, ck, cl1, cl2⟩ := FA.out _ HG.out HV.out
          go_wp2
          refine wp_region_ext [0, 1, 2, 3, 4, 5, 6, 7, 8, 9, 10, 11, 12, 13, 14, 15, 16, 17, 18, 19, 20, 21, 22, 23, 24, 25, 26, 27, 28, 29, 30, 31, 32, 33, 34] [35] (by kernel_rfl) (by kernel_rfl) ?_
          simp only [List.map_cons, List.map_nil, List.getD_cons_succ, List.getD_cons_zero]
          repeat (go_big_quiet_step ((go_at_call 45; exact Calls.ext_drew (R_right_i _ _ _ Y5.out (by decide)))))
          refine wpQuiet_nil ?_
          rintro z
          clear c0 c1 c2 c3 c4 c5 c6 c7 c8 cs ck cl1 cl2
          have HV2 := kp (own_below HV.out (ext_below wr z))
          have HG2 := kp (bt' HG.out (ext_below wr z) HG.out.size)
          clear HV HG
          generalize (wr.ext z) = Z at HV2 HG2 ⊢
          obtain ⟨c0, c1, c2, c3, c4, c5, c6, c7, c8⟩ := v8_own HV2.out
          go_wp2
          refine wp_region_ext [0, 1, 2, 3, 4, 5, 6, 7, 8, 9, 10, 11, 12, 13, 14, 15, 16, 17, 18, 19, 20, 21, 22, 23, 24, 25, 26, 27] [28] (by kernel_rfl) (by kernel_rfl) ?_
          simp only [List.map_cons, List.map_nil, List.getD_cons_succ, List.getD_cons_zero]
          repeat (go_big_quiet_step ((go_at_call 45; exact Calls.ext_drew (R_right_i _ _ _ Y1.out (by decide)))))
          refine wpQuiet_nil ?_
          rintro y
          clear c0 c1 c2 c3 c4 c5 c6 c7 c8
          have HV := kp (own_below HV2.out (ext_below Z y))
          have HG := kp (bt' HG2.out (ext_below Z y) HG2.out.size)
          clear HV2 HG2
          generalize (Z.ext y) = Y at HV HG ⊢
          have eT : ((x8 : Int) + ((rr x5 6 ^^^ rr x5 11 ^^^ rr x5 25 : Nat) : Int) + ((chN x5 x6 x7 : Nat) : Int) + (kk : Int) + (ss : Int)) % 4294967296 = ((t1N ⟨x1, x2, x3, x4, x5, x6, x7, x8⟩ kk ss : Nat) : Int) := by
            unfold t1N bg1
            simp
          have eU : (((rr x1 2 ^^^ rr x1 13 ^^^ rr x1 22 : Nat) : Int) + ((maN x1 x2 x3 : Nat) : Int)) % 4294967296 = ((t2N ⟨x1, x2, x3, x4, x5, x6, x7, x8⟩ : Nat) : Int) := by
            unfold t2N bg0
            simp
          rw [eT, eU]
          have HRR : Kp ((rounds (sched p) V (k + 1)).list = [(t1N ⟨x1, x2, x3, x4, x5, x6, x7, x8⟩ kk ss + t2N ⟨x1, x2, x3, x4, x5, x6, x7, x8⟩) % M32, x1, x2, x3, (x4 + t1N ⟨x1, x2, x3, x4, x5, x6, x7, x8⟩ kk ss) % M32, x5, x6, x7]) := kp (by rw [HR.out]; rfl)
          clear g1 g0 gc gm eT eU
          generalize t1N ⟨x1, x2, x3, x4, x5, x6, x7, x8⟩ kk ss = tt at HRR ⊢
          generalize t2N ⟨x1, x2, x3, x4, x5, x6, x7, x8⟩ = uu at HRR ⊢
          have e0 : ((tt : Int) + (uu : Int)) % 4294967296 = (((tt + uu) % M32 : Nat) : Int) := by simp
          have e4 : ((x4 : Int) + (tt : Int)) % 4294967296 = (((x4 + tt) % M32 : Nat) : Int) := by simp
          generalize (tt + uu) % M32 = n0 at HRR e0
          generalize (x4 + tt) % M32 = n4 at HRR e4
          have hbs := HG.out.size
          have hc8 := own_cap HV.out
          have hc7 : (7 : Int) ≤ (cap : Int) := by clear q1 q3; omega
          have hl7 : (c32 [x1, x2, x3, x4, x5, x6, x7]).length = 7 := rfl
          have h7c := c32_one [x1, x2, x3, x4, x5, x6, x7]
          have HNEWS := kp (fun (i : Nat) (u : Value) (hu : (c32 [x1, x2, x3, x4, x5, x6, x7])[i]? = some u) => (World.ownsRow.cells (HV.out.alloc (.cells #[.int .u32 (n0 : Int)] 65)) (g := g) rfl i u (by
            rw [show c32 [x1, x2, x3, x4, x5, x6, x7, x8] = c32 [x1, x2, x3, x4, x5, x6, x7] ++ [.int .u32 (x8 : Int)] from rfl, List.getElem?_append_left (List.getElem?_eq_some_iff.1 hu).1]
            exact hu)))
          have HXS : Kp ([Value.int .u32 (n0 : Int)] ++ c32 [x1, x2, x3, x4, x5, x6, x7] = c32 [n0, x1, x2, x3, x4, x5, x6, x7]) := kp rfl
          generalize c32 [x1, x2, x3, x4, x5, x6, x7] = N7 at HNEWS HXS hl7 h7c
          go_wp2_with (at_builtin; refine wpList_append_own _ rfl _ _ 66 rfl w4.heap.size 65 i0 (.int .u32 0) 1 4 Try.underlying66 hi hz0 Hz1.out Hz2.out rfl (by decide) _ _ _ rfl (World.ownsRow_lit Y #[.int .u32 (n0 : Int)] 1 hbs (by unfold maxLen; omega) rfl) ⟨g, 0, none⟩ 7 cap N7 rfl ?c0 ?c1 h7c ?c3 ?c4 ?c5 ?_)
          case c0 => exact hl7
          case c1 => exact HNEWS.out
          case c3 => unfold maxLen; omega
          case c4 => omega
          case c5 => simp; omega
          intro v' w5 hown' hgrow' _
          obtain ⟨g', cap', rfl, -, -⟩ := World.ownsRow.form hown' (by omega)
          have HV3 : Kp (w5.ownsRow w4.heap.size 65 1 (.slice (some ⟨g', 0, none⟩) 8 cap') 8 (c32 [n0, x1, x2, x3, x4, x5, x6, x7])) := kp (by rw [← HXS.out]; simpa using hown')
          have HG3 := kp ((HG.out.alloc hbs (.cells #[.int .u32 (n0 : Int)] 65)).grown hgrow' (by simp; omega) (fun x hx => by simp [Value.ownBlock] at hx; omega))
          clear hown' hgrow' h7c hl7 hbs HV HG
          obtain ⟨c0, c1, c2, c3, c4, c5, c6, c7, c8⟩ := v8_own HV3.out
          have f4 := World.ownsRow.frozenAt HV3.out 4
          go_wp2
          go_roundw
          case measure => clear q1 q3; simp [intOf]; omega
          case rel =>
            refine ⟨k + 1, g', cap', by clear q1 q3; omega, by go_num, rfl, kp ?_, kp (bsc HG3.out (own_lt HV3.out).1 _)⟩
            rw [HRR.out]
            exact (World.ownsRow.stored HV3.out 4 _).1
        · obtain rfl : k = 64 := by clear q1 q3; omega
          obtain ⟨F, hF⟩ : ∃ F, rounds (sched p) V 64 = F := ⟨_, rfl⟩
          have HPF : Kp (press V p = addV V F) := kp (by rw [← hF]; rfl)
          rw [hF] at HV
          have hgl := own_lt HV.out
          have h3 : Kp (Blk wr (w.heap.size + 1) 65 (c32 (mixL (addV V F).list V.list 0)).toArray) := kp (K3'.out.bel HG.out)
          have h2 := kp (K2'.out.bel HG.out)
          have h4 := kp (K4'.out.bel HG.out)
          have hbb := kp (bt' HB'.out HG.out HB'.out.size)
          have hgne : g ≠ w.heap.size + 1 := by have := K3'.out.lt; clear q1 q3; omega
          have HGN := kp hgne
          clear hgl hgne HG K2' K3' K4' HB' HOW hgw hF
          go_wp2
          go_loopw [14] (fun i wx => ∃ k : Nat, k ≤ 8 ∧ i = .int .i64 (k : Int) ∧ Kp (Blk wx (w.heap.size + 1) 65 (c32 (mixL (addV V F).list V.list k)).toArray) ∧ Kp (wx.ownsRow w4.heap.size 65 1 (.slice (some ⟨g, 0, none⟩) 8 cap) 8 (c32 F.list)) ∧ Kp (Blk wx w.heap.size 23 (cellsU8 (List.replicate 32 0)).toArray) ∧ Kp (Blk wx (w.heap.size + 1 + 1) 65 KL.toArray) ∧ Kp (Below w.heap.size w wx)) (fun i _ => 8 - (intOf i).toNat)
          case atStart => exact ⟨0, Nat.zero_le _, rfl, h3, HV, h2, h4, hbb⟩
          case round =>
            clear h3 HV h2 h4 hbb
            obtain ⟨k, hk, rfl, h3, HV, h2, h4, hbb⟩ := hrel
            by_cases hlt : k < 8
            · have hlt' : (k : Int) < 8 := by clear q1 q3; omega
              have i2 : (0 : Int) ≤ (k : Int) := Int.natCast_nonneg _
              have hset := mixL_set (addV V F).list V.list k rfl hlt
              rw [addV_get _ _ k hlt] at hset
              have HSET := kp hset
              have FA : Kp (∀ W : World, Blk W (w.heap.size + 1) 65 (c32 (mixL (addV V F).list V.list k)).toArray → W.ownsRow w4.heap.size 65 1 (.slice (some ⟨g, 0, none⟩) 8 cap) 8 (c32 F.list) →
                  W.cell? ⟨w.heap.size + 1, k, none⟩ = some (.int .u32 ((V.list.getD k 0 : Nat) : Int)) ∧ W.cell? ⟨g, k, none⟩ = some (.int .u32 ((F.list.getD k 0 : Nat) : Int)) ∧ W.frozen? ⟨w.heap.size + 1, k, none⟩ = false ∧ g < W.heap.size ∧ w.heap.size + 1 < W.heap.size) := kp (fun W a b => by
                refine ⟨?_, own32_cell b rfl k hlt, a.frozen _, (own_lt b).2, a.lt⟩
                refine a.atL ?_
                rw [c32_get (by rw [mixL_length (addV V F).list V.list k rfl (Nat.le_of_lt hlt)]; exact hlt), mixL_get (addV V F).list V.list k rfl hlt])
              clear hset
              generalize V.list.getD k 0 = x at FA HSET
              generalize F.list.getD k 0 = y at FA HSET
              obtain ⟨c1, c2, c3, c4, c5⟩ := FA.out _ h3.out HV.out
              go_wp2
              refine wp_region_ext [0, 1, 2, 3, 4, 5, 6, 7, 8, 9, 10, 11] [12] (by kernel_rfl) (by kernel_rfl) ?_
              simp only [List.map_cons, List.map_nil, List.getD_cons_succ, List.getD_cons_zero]
              repeat (go_big_quiet_step (fail))
              refine wpQuiet_nil ?_
              rintro z
              have z3 := kp (h3.out.bel (ext_below wr z))
              have zv := kp (own_below HV.out (ext_below wr z))
              have z2 := kp (h2.out.bel (ext_below wr z))
              have z4 := kp (h4.out.bel (ext_below wr z))
              have zb := kp (bt' hbb.out (ext_below wr z) hbb.out.size)
              clear c1 c2 c3 c4 c5 h3 HV h2 h4 hbb
              generalize (wr.ext z) = Z at z3 zv z2 z4 zb ⊢
              obtain ⟨c1, c2, c3, c4, c5⟩ := FA.out _ z3.out zv.out
              go_wp2
              go_roundw
              case measure => clear q1 q3; simp [intOf]; omega
              case rel =>
                refine ⟨k + 1, by clear q1 q3; omega, by go_num, kp ?_, kp (zv.out.kept (gbset _ _ _ _) (Or.inr (by intro e; injection e with e; exact HGN.out e))), kp (z2.out.far (by simp) _), kp (z4.out.far (by simp) _), kp (bsc zb.out (by simp) _)⟩
                have e : ((x : Int) + (y : Int)) % 4294967296 = (((x + y) % M32 : Nat) : Int) := by simp
                rw [e]
                have := z3.out.setL k (.int .u32 (((x + y) % M32 : Nat) : Int))
                rw [c32_set, HSET.out] at this
                exact this
            · obtain rfl : k = 8 := by clear q1 q3; omega
              have h3 : Kp (Blk wr (w.heap.size + 1) 65 (c32 (H (j + 1) M).list).toArray) := kp (by
                have := h3.out
                rw [show mixL (addV V F).list V.list 8 = (addV V F).list from mixL_all _ V.list rfl, ← HPF.out, ← hrs.out] at this
                exact this)
              go_wp2
              go_roundw
              case measure => have a := HQ.out; have b := HJN.out; clear q1 q3; simp [intOf]; omega
              case rel => exact ⟨j + 1, HJN.out, by rw [show 64 * (j + 1) = q + 64 by have a := HQ.out; clear q1 q3; omega]; go_num, h2, h3, h4, hbb⟩
    · obtain rfl : j = nb := by omega
      obtain ⟨q, hq⟩ : ∃ q, 64 * j = q := ⟨_, rfl⟩
      rw [hq] at hsz ⊢
      have hsi : ((str M).size : Int) = (q : Int) := by rw [hsz]
      have hdc : decide ((q : Int) < ((str M).size : Int)) = false := by rw [hsi]; simp
      clear hsz hq
      have HSI := kp hsi
      go_upto_region 22 with (fail)
      clear hdc hsi
      obtain ⟨ZL, hZL⟩ : ∃ ZL : List UInt8, List.replicate 32 0 = ZL := ⟨_, rfl⟩
      have hl32 : (cellsU8 ZL).length = 32 := by rw [length_cellsU8, ← hZL, List.length_replicate]
      have SC := fun (cur : Array Value) (h : cur.size = 32) => sc_new (P := Try.prog) wr 23 (cellsU8 ZL) (cellsU8_one _) cur (by rw [hl32]; exact h)
      rw [hZL] at K2
      have HZL := kp hZL
      clear hZL
      go_wp2_with (refine wpL_val 139 rfl rfl (.agg (cellsU8 ZL).toArray) (by rw [← HZL.out]; kernel_rfl) ?_)
      clear SC
      have hol := outB_length (H j M)
      have hok' := hok.out j
      generalize H j M = V at hol hok' K3 HD
      have h5 : Kp (Blk (wr.alloc (.cells (cellsU8 (ZL)).toArray 23)) wr.heap.size 23 (cellsU8 (partU (outB V) 0)).toArray) := kp (by rw [partU_zero, hol, HZL.out]; exact Blk.new wr _ _)
      have h2 := kp (K2.out.alloc (.cells (cellsU8 (ZL)).toArray 23))
      have h3 := kp (K3.out.alloc (.cells (cellsU8 (ZL)).toArray 23))
      have hbb := kp (ba HB.out (.cells (cellsU8 (ZL)).toArray 23))
      have hbs := HB.out.size
      have hb3 : w.heap.size + 1 < wr.heap.size := K3.out.lt
      generalize wr.heap.size = b5 at h5 hb3 ⊢
      have HOL := kp hol
      have HB3 := kp hb3
      clear K2 K3 K4 HB hbs hol hb3 HRS hH0 hok hl32
      go_loopw [16] (fun i wx => ∃ k : Nat, k ≤ 32 ∧ i = .int .i64 (k : Int) ∧ Kp (Blk wx b5 23 (cellsU8 (partU (outB V) k)).toArray) ∧ Kp (Blk wx w.heap.size 23 (cellsU8 (ZL)).toArray) ∧ Kp (Blk wx (w.heap.size + 1) 65 (c32 V.list).toArray) ∧ Kp (Below w.heap.size w wx)) (fun i _ => 32 - (intOf i).toNat)
      case atStart => exact ⟨0, Nat.zero_le _, rfl, h5, h2, h3, hbb⟩
      case round =>
        clear h5 h2 h3 hbb
        obtain ⟨k, hk, rfl, h5, h2, h3, hbb⟩ := hrel
        by_cases hlt : k < 32
        · obtain ⟨q, r, hqr, hr⟩ : ∃ q r, 4 * q + r = k ∧ r < 4 := ⟨k / 4, k % 4, by omega, Nat.mod_lt _ (by decide)⟩
          have hq : q < 8 := by omega
          have d1 : (k : Int) / 4 = (q : Int) := by omega
          have d2 : (k : Int) % 4 = (r : Int) := by omega
          have d3 : 8 * (3 - (r : Int)) = ((8 * (3 - r) : Nat) : Int) := by omega
          have i1 : (k : Int) < 32 := by omega
          have i2 : (0 : Int) ≤ (k : Int) := by omega
          have i3 : (q : Int) < 8 := by omega
          have i4 : (0 : Int) ≤ (q : Int) := by omega
          have i5 : 8 * (3 - r) < 32 := by omega
          have hset := kp (partU_set (outB V) k _ (by rw [← hqr]; exact outB_at V q r hq hr))
          have hc1 : wr.cell? ⟨w.heap.size + 1, q, none⟩ = some (.int .u32 ((V.list.getD q 0 : Nat) : Int)) := h3.out.atL (c32_get hq)
          obtain ⟨c2, hc2⟩ : ∃ c2, wr.cell? ⟨b5, k, none⟩ = some c2 := by
            have : k < (cellsU8 (partU (outB V) k)).length := by rw [length_cellsU8, partU_length _ _ (by rw [HOL.out]; exact hk), HOL.out]; exact hlt
            exact ⟨_, h5.out.atL (List.getElem?_eq_getElem this)⟩
          have hf2 := h5.out.frozen k
          have hx := getD_lt V.list hok' q
          generalize V.list.getD q 0 = x at hc1 hset hx
          have hx2 : x < 4294967296 := hx
          go_wp2
          have hv := shr_byte x (3 - r)
          have H5 : Kp (Blk (wr.setCell ⟨b5, k, none⟩ (.int .u8 ((x : Int) / 2 ^ (8 * (3 - r)) % 256))) b5 23 (cellsU8 (partU (outB V) (k + 1))).toArray) := kp (by
            have := h5.out.setL k (.int .u8 ((x : Int) / 2 ^ (8 * (3 - r)) % 256))
            rw [hv, cellsU8_set, hset.out] at this
            rw [hv]
            exact this)
          have hb3 := HB3.out
          have hne : w.heap.size ≠ b5 := by omega
          have hne2 : w.heap.size + 1 ≠ b5 := by omega
          go_roundw
          case measure => simp [intOf]; omega
          case rel => exact ⟨k + 1, by omega, by go_num, H5, kp (h2.out.far hne _), kp (h3.out.far hne2 _), kp (bsc hbb.out (by simp; omega) _)⟩
        · obtain rfl : k = 32 := by omega
          have HE : Kp (Blk wr b5 23 (cellsU8 (digest m)).toArray) := by
            have := h5.out
            rw [show partU (outB V) 32 = outB V by rw [← HOL.out]; exact partU_all _, ← HD.out] at this
            exact kp this
          have hdl := digest_length m
          obtain ⟨D, hD⟩ : ∃ D, digest m = D := ⟨_, rfl⟩
          rw [hD] at HE hdl
          have HDD := kp hD
          have hcl : (cellsU8 D).length = 32 := by rw [length_cellsU8, hdl]
          have LD := ld_all (P := Try.prog) (w := wr) b5 32 23 _ (cellsU8 D) _ Try.underlying23 rfl info_key hcl HE.out
          have SC := sc_all (P := Try.prog) (w := wr) w.heap.size 23 (cellsU8 D) _ h2.out (by rw [hcl, length_cellsU8, ← HZL.out, List.length_replicate]) (cellsU8_one _)
          have HX := kp (h2.out.row (cellsU8 D).toArray)
          have HBX := kp (bsr hbb.out (Nat.le_refl w.heap.size) hbb.out.size (cellsU8 D).toArray)
          have HL := kp hcl
          clear hD hdl h5 h2 h3 hbb HE HD
          generalize hY : wr.setRow w.heap.size (cellsU8 D).toArray = Z at SC HX HBX
          clear hY
          go_wp2_with (refine wpL_load rfl 23 _ rfl rfl LD ?_)
          refine bodyPost_ret (v := keyV D) ?_ rfl ⟨by rw [HDD.out]; rfl, HBX.out⟩
          exact res_all Try.results27 w.heap.size 32 _ (cellsU8 D) _ Try.underlying23 rfl info_key HL.out HX.out _ rfl
end Go.Proofs.Ytfmfdhcmbnabpaa
