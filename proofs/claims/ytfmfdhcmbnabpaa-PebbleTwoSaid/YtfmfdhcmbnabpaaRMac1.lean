/- the reference's mac: Tag. -/
import Derived.Test.YtfmfdhcmbnabpaaRSha4
import Derived.Test.YtfmfdhcmbnabpaaMac3
import Derived.Maps.AppendAt
namespace Go.Proofs.Ytfmfdhcmbnabpaa
open Go Go.RowKit
set_option linter.unusedVariables false
set_option linter.unusedSimpArgs false
attribute [local go_sem] bmax2 bmin2 bmax bmin cell_ext frozen_ext

theorem xorU_snoc (F : List UInt8) (c : UInt8) (k : Nat) (x : UInt8) (h : F[k]? = some x) : xorU (F.take (k + 1)) c = xorU (F.take k) c ++ [x ^^^ c] := by
  unfold xorU
  rw [List.take_add_one, h, List.map_append]; rfl
theorem fullK_in {k : List UInt8} {i : Nat} (h : i < (key1 k).length) : (fullK k)[i]? = some (key1 k)[i] := by
  unfold fullK
  rw [List.getElem?_append_left h, List.getElem?_eq_getElem h]
theorem fullK_out {k : List UInt8} {i : Nat} (h : (key1 k).length ≤ i) (h2 : i < 64) : (fullK k)[i]? = some 0 := by
  unfold fullK
  rw [List.getElem?_append_right h, List.getElem?_replicate, if_pos (by omega)]
theorem u8_xor (x c : UInt8) : bits .xor .u8 (x.toNat : Int) (c.toNat : Int) = (((x ^^^ c).toNat : Nat) : Int) := by
  have := u8_xor_nat x.toNat c.toNat (UInt8.toNat_lt _) (UInt8.toNat_lt _)
  rw [UInt8.toNat_xor]
  exact this

set_option maxHeartbeats 1000000 in
set_option maxRecDepth 100000 in
theorem R_Tag (key t : ByteArray) (hk : key.size ≤ 1099511627) (ht : t.size ≤ 1099511627) (w : World) :
    Calls Try.prog 41 #[.string key, .string t] w fun e w' => e = .returned (.agg (cellsU8 (macD (bs key) (bs t))).toArray) ∧ Below w.heap.size w w' := by
  obtain ⟨i0, hi, hz0, hz1, hz2⟩ := info_parts info_u8
  have Hz2 := kp hz2
  have Hz1 := kp hz1
  clear hz1 hz2
  have hkl : key.size = (bs key).length := rfl
  have c1 : Kp (64 < key.size → ∀ w', Calls Try.prog 27 #[.string key] w' fun e w'' => e = .returned (.agg (cellsU8 (digest (bs key))).toArray) ∧ Below w'.heap.size w' w'') := kp (fun _ w' => R_Sum_st key (by omega) w')
  have hcl := key_cells _ (digest_length (bs key))
  have HDL := kp (digest_length (bs key))
  have ks : Kp (64 < key.size → str (digest (bs key)) = str (key1 (bs key))) := kp (fun h => by rw [key1_long (k := bs key) (by rw [← hkl]; exact h)])
  have km : Kp (key.size ≤ 64 → str (key1 (bs key)) = key) := kp (fun h => by rw [key1_short (k := bs key) (by rw [← hkl]; exact h)]; exact str_bs key)
  have hm : Kp (macD (bs key) (bs t) = digest (outK (bs key) ++ digest (inK (bs key) ++ bs t))) := kp rfl
  have hel := macD_length (bs key) (bs t)
  have hcl2 := key_cells _ hel
  have hil := inK_length (bs key)
  have hol := outK_length (bs key)
  have hik : Kp (inK (bs key) = xorU (fullK (bs key)) 54) := kp rfl
  have hok : Kp (outK (bs key) = xorU (fullK (bs key)) 92) := kp rfl
  generalize macD (bs key) (bs t) = E at hm hcl2 ⊢
  have hfl := fullK_length (bs key)
  have hk1 := key1_length (bs key)
  have F1 := kp (fun i h => fullK_in (k := bs key) (i := i) h)
  have F2 := kp (fun i h => fullK_out (k := bs key) (i := i) h)
  generalize fullK (bs key) = F at hik hok hfl F1 F2
  have hi1 : Kp (str (inK (bs key)) ++ t = str (inK (bs key) ++ bs t)) := kp (by rw [← str_append]; rw [str_bs])
  have c3 := kp (fun w' => R_Sum_st (str (inK (bs key) ++ bs t)) (by rw [str_size, List.length_append, hil, size_bs]; omega) w')
  rw [bs_str] at c3
  have hdl := digest_length (inK (bs key) ++ bs t)
  generalize digest (inK (bs key) ++ bs t) = D1 at c3 hm hdl
  have c4 := kp (fun w' => R_Sum_st (str (outK (bs key) ++ D1)) (by rw [str_size, List.length_append, hol, hdl]; omega) w')
  rw [bs_str, ← hm.out] at c4
  have ho1 : Kp (str (outK (bs key)) ++ str D1 = str (outK (bs key) ++ D1)) := kp (str_append _ _)
  have hs1 : (str (inK (bs key))).size ≤ 64 := by rw [str_size, hil]; omega
  have hs2 : (str (outK (bs key))).size ≤ 64 := by rw [str_size, hol]; omega
  have hs3 : (str D1).size ≤ 32 := by rw [str_size, hdl]; omega
  generalize str (inK (bs key) ++ bs t) = SI at c3 hi1
  generalize str (outK (bs key) ++ D1) = SO at c4 ho1
  generalize inK (bs key) = I at *
  generalize outK (bs key) = O at *
  obtain ⟨K1, hK1⟩ : ∃ K1, key1 (bs key) = K1 := ⟨_, rfl⟩
  rw [hK1] at F1 F2 hk1 ks km
  have hcl3 := key_cells _ hdl
  obtain ⟨ZL, hZL⟩ : ∃ ZL : List UInt8, List.replicate 32 0 = ZL := ⟨_, rfl⟩
  have h0 := kp (Blk.new w 23 (cellsU8 (List.replicate 32 0)).toArray)
  have hb0 := kp (ba (Below.refl w.heap.size w) (.cells (cellsU8 (List.replicate 32 0)).toArray 23))
  have HZL := kp hZL
  generalize digest (bs key) = D at c1 HDL ks hcl
  clear hkl hK1 hel hdl hil hol
  by_cases h : 64 < key.size
  · have h' : (64 : Int) < (key.size : Int) := by omega
    have hsd := ks.out h
    go_enter Try.func41, Try.ntmps41
    go_wp2_with fail
    change Calls _ _ _ (w.alloc (.cells (cellsU8 (List.replicate 32 0)).toArray 23)) _
    rw [hZL] at h0 hb0 ⊢
    refine (c1.out h _).mono ?_
    rintro e w1 ⟨rfl, hb1⟩
    have SC := fun (cur : Array Value) (h : cur.size = 32) => sc_new (P := Try.prog) w1 23 (cellsU8 D) (cellsU8_one _) cur (by rw [hcl]; exact h)
    have hcv := blk_str (P := Try.prog) 44 (e := 5) (dst := 9) (n := 32) (cap := 32) Try.underlying44 Try.underlying5 Try.underlying9 (Blk.new w1 23 (cellsU8 D).toArray) HDL.out
    rw [hsd] at hcv
    have h1 := kp ((h0.out.bel hb1).alloc (.cells (cellsU8 D).toArray 23))
    have HB := kp (ba (bt' hb0.out hb1 hb0.out.size) (.cells (cellsU8 D).toArray 23))
    clear hb1 hZL
    go_upto_region 4 with (fail)
    clear SC hcv hsd h h' h0 hb0 c1 ks km HDL hcl
    generalize (w1.alloc (.cells (cellsU8 D).toArray 23)) = W at HB h1 ⊢
    obtain ⟨KS, hKS⟩ : ∃ KS, str K1 = KS := ⟨_, rfl⟩
    rw [hKS]
    have hks : KS.size = K1.length := by rw [← hKS, str_size]
    have IX : Kp (∀ (k : Nat) (h : k < K1.length) (W : World), (Instr.index 9 (.string KS) (.int .i64 (k : Int))).run Try.prog W = .ok (.int .u8 (K1[k].toNat : Int)) W) := kp (fun k h W => by
      subst hKS
      rw [run_index_string W 9 (str K1) .i64 (k : Int) Try.underlying9, dif_pos ⟨by omega, by rw [str_size]; omega⟩]
      rfl)
    have HKS := kp hks
    clear hks hKS
    have HIL := kp (show xorU (F.take 0) 54 = [] from rfl)
    have HO1 : Kp ((((W.alloc (.cells #[] 5)).alloc (.cells #[] 5))).ownsRow (w.heap.size + 1) 5 1 (.slice (some ⟨W.heap.size, 0, none⟩) 0 0) 0 (cellsU8 (xorU (F.take 0) 54))) := kp ((World.ownsRow_lit W #[] 0 (by have := h1.out.lt; omega) (by decide) rfl).alloc _)
    have HO2 : Kp ((((W.alloc (.cells #[] 5)).alloc (.cells #[] 5))).ownsRow (w.heap.size + 1) 5 1 (.slice (some ⟨W.heap.size + 1, 0, none⟩) 0 0) 0 (cellsU8 (xorU (F.take 0) 92))) := kp (by
      have := World.ownsRow_lit (base := w.heap.size + 1) (e := 5) (size := 1) (W.alloc (.cells #[] 5)) #[] 0 (by have := h1.out.lt; simp; omega) (by decide) rfl
      rw [size_all] at this
      exact this)
    have h1' := kp ((h1.out.alloc (.cells #[] 5)).alloc (.cells #[] 5))
    have HB1 := kp (ba (ba HB.out (.cells #[] 5)) (.cells #[] 5))
    clear h1 HB
    go_wp2
    go_loopw [6, 7, 8] (fun vi vo i wr => ∃ (k gi go ci co : Nat), k ≤ 64 ∧ i = .int .i64 (k : Int) ∧ vi = .slice (some ⟨gi, 0, none⟩) k ci ∧ vo = .slice (some ⟨go, 0, none⟩) k co ∧ Kp (gi ≠ go) ∧ Kp (wr.ownsRow (w.heap.size + 1) 5 1 (.slice (some ⟨gi, 0, none⟩) k ci) k (cellsU8 (xorU (F.take k) 54))) ∧ Kp (wr.ownsRow (w.heap.size + 1) 5 1 (.slice (some ⟨go, 0, none⟩) k co) k (cellsU8 (xorU (F.take k) 92))) ∧ Kp (Blk wr w.heap.size 23 (cellsU8 ZL).toArray) ∧ Kp (Below w.heap.size w wr)) (fun _ _ i _ => 64 - (intOf i).toNat)
    case atStart => exact ⟨0, W.heap.size, W.heap.size + 1, 0, 0, by omega, rfl, rfl, rfl, kp (by omega), HO1, HO2, h1', HB1⟩
    case round =>
      clear HO1 HO2 h1' HB1
      obtain ⟨k, gi, go, ci, co, hk, rfl, rfl, rfl, hne, HO1, HO2, h1, HB⟩ := hrel
      by_cases hlt : k < 64
      · have hlt' : (k : Int) < 64 := by omega
        have i2 : (0 : Int) ≤ (k : Int) := by omega
        have hbs := h1.out.lt
        by_cases hin : k < K1.length
        all_goals
          obtain ⟨x, hx⟩ : ∃ x, F[k]? = some x := ⟨_, List.getElem?_eq_getElem (by rw [hfl]; exact hlt)⟩
          have hs1 := kp (xorU_snoc F 54 k x hx)
          have hs2 := kp (xorU_snoc F 92 k x hx)
          have hxi : Kp (∀ (h : k < K1.length), K1[k] = x) := kp (fun h => by have := F1.out k h; rw [hx] at this; injection this with this; exact this.symm)
          have hxo : Kp (K1.length ≤ k → x = 0) := kp (fun h => by have := F2.out k h hlt; rw [hx] at this; injection this)
          clear hx
          have x1 := u8_xor x 54
          have x2 := u8_xor x 92
          rw [show (((54 : UInt8).toNat : Nat) : Int) = 54 from rfl] at x1
          rw [show (((92 : UInt8).toNat : Nat) : Int) = 92 from rfl] at x2
          generalize x ^^^ 54 = a1 at x1 hs1
          generalize x ^^^ 92 = a2 at x2 hs2
        · have ix := IX.out k hin
          rw [hxi.out hin] at ix
          have hin' : (k : Int) < (KS.size : Int) := by have := HKS.out; omega
          clear hxi hxo
          go_wp2_with (at_builtin; refine wpList_append_own_at _ rfl _ _ 44 rfl (w.heap.size + 1) 5 i0 (.int .u8 0) 1 1 Try.underlying44 hi hz0 Hz1.out Hz2.out rfl (by decide) _ _ _ rfl (HO1.out.alloc _) ⟨wr.heap.size, 0, none⟩ 1 1 [.int .u8 (a1.toNat : Int)] rfl rfl ?h0c1 ?h0c2 ?h0c3 ?h0c4 ?h0c5 ?_)
          case h0c1 => exact cell_one_new _ _ _
          case h0c2 => simp [Value.oneCell']
          case h0c3 => unfold maxLen; omega
          case h0c4 => omega
          case h0c5 => first | (simp; omega) | omega
          intro v1 w1 hown1 hgrow1 _ hat1
          obtain ⟨g1, p1, rfl, -, -⟩ := World.ownsRow.form hown1 (by omega)
          have hne1 : g1 ≠ go := by
            rcases hat1 with h | h
            · simp [Value.ownBlock] at h; rw [h]; exact hne.out
            · simp [Value.ownBlock] at h; have := (own_lt HO2.out).2; omega
          have HP1 : Kp (w1.ownsRow (w.heap.size + 1) 5 1 (.slice (some ⟨g1, 0, none⟩) (k + 1) p1) (k + 1) (cellsU8 (xorU (F.take (k + 1)) 54))) := kp (by rw [hs1.out, cellsU8_append]; exact hown1)
          have HP2 := kp ((HO2.out.alloc (.cells #[.int .u8 (a1.toNat : Int)] 5)).kept hgrow1 (Or.inr (by simp [Value.ownBlock]; exact fun e => hne.out e.symm)))
          have hg0 := (own_lt HO1.out).1
          have HH1 := kp ((h1.out.alloc (.cells #[.int .u8 (a1.toNat : Int)] 5)).grown hgrow1 (by simp [Value.ownBlock]; omega))
          have HBB1 := kp ((HB.out.alloc HB.out.size (.cells #[.int .u8 (a1.toNat : Int)] 5)).grown hgrow1 (by have := HB.out.size; simp; omega) (fun x hx => by simp [Value.ownBlock] at hx; omega))
          have hbs1 := HH1.out.lt
          clear hown1 hgrow1 hat1 h1 HB HO1
          go_wp2_with (at_builtin; refine wpList_append_own_at _ rfl _ _ 44 rfl (w.heap.size + 1) 5 i0 (.int .u8 0) 1 1 Try.underlying44 hi hz0 Hz1.out Hz2.out rfl (by decide) _ _ _ rfl (HP2.out.alloc _) ⟨w1.heap.size, 0, none⟩ 1 1 [.int .u8 (a2.toNat : Int)] rfl rfl ?h1c1 ?h1c2 ?h1c3 ?h1c4 ?h1c5 ?_)
          case h1c1 => exact cell_one_new _ _ _
          case h1c2 => simp [Value.oneCell']
          case h1c3 => unfold maxLen; omega
          case h1c4 => omega
          case h1c5 => first | (simp; omega) | omega
          intro v2 w2 hown2 hgrow2 _ hat2
          obtain ⟨g2, p2, rfl, -, -⟩ := World.ownsRow.form hown2 (by omega)
          have hne2 : g1 ≠ g2 := by
            rcases hat2 with h | h
            · simp [Value.ownBlock] at h; rw [h]; exact hne1
            · simp [Value.ownBlock] at h; have := (own_lt HP1.out).2; omega
          have HQ2 : Kp (w2.ownsRow (w.heap.size + 1) 5 1 (.slice (some ⟨g2, 0, none⟩) (k + 1) p2) (k + 1) (cellsU8 (xorU (F.take (k + 1)) 92))) := kp (by rw [hs2.out, cellsU8_append]; exact hown2)
          have HQ1 := kp ((HP1.out.alloc (.cells #[.int .u8 (a2.toNat : Int)] 5)).kept hgrow2 (Or.inr (by simp [Value.ownBlock]; exact hne1)))
          have hg0' := (own_lt HP2.out).1
          have HH2 := kp ((HH1.out.alloc (.cells #[.int .u8 (a2.toNat : Int)] 5)).grown hgrow2 (by simp [Value.ownBlock]; omega))
          have HBB2 := kp ((HBB1.out.alloc HBB1.out.size (.cells #[.int .u8 (a2.toNat : Int)] 5)).grown hgrow2 (by have := HBB1.out.size; simp; omega) (fun x hx => by simp [Value.ownBlock] at hx; omega))
          clear hown2 hgrow2 hat2 HH1 HBB1 HP1 HP2
          go_wp2
          go_roundw
          case measure => simp [intOf]; omega
          case rel => exact ⟨k + 1, g1, g2, p1, p2, by omega, by go_num, rfl, rfl, kp hne2, HQ1, HQ2, HH2, HBB2⟩
        · have hx0 := hxo.out (by omega)
          have hin' : ¬ (k : Int) < (KS.size : Int) := by have := HKS.out; omega
          rw [hx0, show (((0 : UInt8).toNat : Nat) : Int) = 0 from rfl] at x1 x2
          clear hxi hxo
          go_wp2_with (at_builtin; refine wpList_append_own_at _ rfl _ _ 44 rfl (w.heap.size + 1) 5 i0 (.int .u8 0) 1 1 Try.underlying44 hi hz0 Hz1.out Hz2.out rfl (by decide) _ _ _ rfl (HO1.out.alloc _) ⟨wr.heap.size, 0, none⟩ 1 1 [.int .u8 (a1.toNat : Int)] rfl rfl (cell_one_new _ _ _) ?h2c2 ?h2c3 ?h2c4 ?h2c5 ?_)
          case h2c2 => simp [Value.oneCell']
          case h2c3 => unfold maxLen; omega
          case h2c4 => omega
          case h2c5 => first | (simp; omega) | omega
          intro v1 w1 hown1 hgrow1 _ hat1
          obtain ⟨g1, p1, rfl, -, -⟩ := World.ownsRow.form hown1 (by omega)
          have hne1 : g1 ≠ go := by
            rcases hat1 with h | h
            · simp [Value.ownBlock] at h; rw [h]; exact hne.out
            · simp [Value.ownBlock] at h; have := (own_lt HO2.out).2; omega
          have HP1 : Kp (w1.ownsRow (w.heap.size + 1) 5 1 (.slice (some ⟨g1, 0, none⟩) (k + 1) p1) (k + 1) (cellsU8 (xorU (F.take (k + 1)) 54))) := kp (by rw [hs1.out, cellsU8_append]; exact hown1)
          have HP2 := kp ((HO2.out.alloc (.cells #[.int .u8 (a1.toNat : Int)] 5)).kept hgrow1 (Or.inr (by simp [Value.ownBlock]; exact fun e => hne.out e.symm)))
          have hg0 := (own_lt HO1.out).1
          have HH1 := kp ((h1.out.alloc (.cells #[.int .u8 (a1.toNat : Int)] 5)).grown hgrow1 (by simp [Value.ownBlock]; omega))
          have HBB1 := kp ((HB.out.alloc HB.out.size (.cells #[.int .u8 (a1.toNat : Int)] 5)).grown hgrow1 (by have := HB.out.size; simp; omega) (fun x hx => by simp [Value.ownBlock] at hx; omega))
          have hbs1 := HH1.out.lt
          clear hown1 hgrow1 hat1 h1 HB HO1
          go_wp2_with (at_builtin; refine wpList_append_own_at _ rfl _ _ 44 rfl (w.heap.size + 1) 5 i0 (.int .u8 0) 1 1 Try.underlying44 hi hz0 Hz1.out Hz2.out rfl (by decide) _ _ _ rfl (HP2.out.alloc _) ⟨w1.heap.size, 0, none⟩ 1 1 [.int .u8 (a2.toNat : Int)] rfl rfl ?h3c1 ?h3c2 ?h3c3 ?h3c4 ?h3c5 ?_)
          case h3c1 => exact cell_one_new _ _ _
          case h3c2 => simp [Value.oneCell']
          case h3c3 => unfold maxLen; omega
          case h3c4 => omega
          case h3c5 => first | (simp; omega) | omega
          intro v2 w2 hown2 hgrow2 _ hat2
          obtain ⟨g2, p2, rfl, -, -⟩ := World.ownsRow.form hown2 (by omega)
          have hne2 : g1 ≠ g2 := by
            rcases hat2 with h | h
            · simp [Value.ownBlock] at h; rw [h]; exact hne1
            · simp [Value.ownBlock] at h; have := (own_lt HP1.out).2; omega
          have HQ2 : Kp (w2.ownsRow (w.heap.size + 1) 5 1 (.slice (some ⟨g2, 0, none⟩) (k + 1) p2) (k + 1) (cellsU8 (xorU (F.take (k + 1)) 92))) := kp (by rw [hs2.out, cellsU8_append]; exact hown2)
          have HQ1 := kp ((HP1.out.alloc (.cells #[.int .u8 (a2.toNat : Int)] 5)).kept hgrow2 (Or.inr (by simp [Value.ownBlock]; exact hne1)))
          have hg0' := (own_lt HP2.out).1
          have HH2 := kp ((HH1.out.alloc (.cells #[.int .u8 (a2.toNat : Int)] 5)).grown hgrow2 (by simp [Value.ownBlock]; omega))
          have HBB2 := kp ((HBB1.out.alloc HBB1.out.size (.cells #[.int .u8 (a2.toNat : Int)] 5)).grown hgrow2 (by have := HBB1.out.size; simp; omega) (fun x hx => by simp [Value.ownBlock] at hx; omega))
          clear hown2 hgrow2 hat2 HH1 HBB1 HP1 HP2
          go_wp2
          go_roundw
          case measure => simp [intOf]; omega
          case rel => exact ⟨k + 1, g1, g2, p1, p2, by omega, by go_num, rfl, rfl, kp hne2, HQ1, HQ2, HH2, HBB2⟩
      · obtain rfl : k = 64 := by omega
        have hta : F.take 64 = F := List.take_of_length_le (by omega)
        rw [hta, ← hik.out] at HO1
        rw [hta, ← hok.out] at HO2
        have hcv := own_str (P := Try.prog) 44 (dst := 9) Try.underlying44 Try.underlying5 Try.underlying9 HO1.out
        have hcv' : (Go.convert 44 9 (.slice (some ⟨gi, 0, none⟩) 64 ci)).run Try.prog wr = .ok (.string (str I)) wr := hcv
        clear hcv
        have hi1' := hi1.out
        go_wp2_with fail
        refine (c3.out _).mono ?_
        rintro e w3 ⟨rfl, hb3⟩
        clear hcv' hi1'
        have SC := fun (cur : Array Value) (h : cur.size = 32) => sc_new (P := Try.prog) w3 23 (cellsU8 D1) (cellsU8_one _) cur (by rw [hcl3]; exact h)
        have hbA := ba hb3 (.cells (cellsU8 D1).toArray 23)
        have K3 := kp (Blk.new w3 23 (cellsU8 D1).toArray)
        have H3 := kp (h1.out.bel hbA)
        have O3 := kp (own_below HO2.out hbA)
        have B3 := kp (bt' HB.out hbA HB.out.size)
        clear hb3 hbA h1 HO1 HO2 HB
        go_wp2_with fail
        clear SC
        generalize (w3.alloc (.cells (cellsU8 D1).toArray 23)) = W4 at K3 H3 O3 B3 ⊢
        generalize w3.heap.size = b3 at K3 ⊢
        have hcv1 : ∀ x, (Go.convert 44 9 (.slice (some ⟨go, 0, none⟩) 64 co)).run Try.prog (W4.ext x) = .ok (.string (str O)) (W4.ext x) := fun x => own_str (P := Try.prog) 44 (dst := 9) Try.underlying44 Try.underlying5 Try.underlying9 (own_below O3.out (ext_below W4 x))
        have hcv2 := fun x => blk_str (P := Try.prog) 44 (e := 5) (dst := 9) (n := 32) (cap := 32) Try.underlying44 Try.underlying5 Try.underlying9 (K3.out.bel (ext_below W4 x)) (by rw [← length_cellsU8]; exact hcl3)
        have ho1' := ho1.out
        refine wp_region_ext [0, 1, 2, 3, 4, 5] [6] (by kernel_rfl) (by kernel_rfl) ?_
        simp only [List.map_cons, List.map_nil, List.getD_cons_succ, List.getD_cons_zero]
        repeat (go_big_quiet_step ((go_at_call 27; with_reducible exact Calls.ext_of (c4.out _))))
        refine wpQuiet_nil ?_
        rintro z
        have h5 := kp (H3.out.bel (ext_below W4 z))
        have b5 := kp (bt' B3.out (ext_below W4 z) B3.out.size)
        clear hcv1 hcv2 ho1' H3 B3 O3 K3
        generalize W4.ext z = Y at h5 b5 ⊢
        have SC := sc_all (P := Try.prog) (w := Y) w.heap.size 23 (cellsU8 E) _ h5.out (by rw [hcl2, length_cellsU8, ← HZL.out, List.length_replicate]) (cellsU8_one _)
        have HX := kp (h5.out.row (cellsU8 E).toArray)
        have HBX := kp (bsr b5.out (Nat.le_refl w.heap.size) b5.out.size (cellsU8 E).toArray)
        have HL := kp hcl2
        clear h5 b5
        generalize hY : Y.setRow w.heap.size (cellsU8 E).toArray = Z at SC HX HBX
        clear hY
        go_wp2
        refine bodyPost_ret (v := .agg (cellsU8 E).toArray) ?_ rfl ⟨rfl, HBX.out⟩
        exact res_all Try.results41 w.heap.size 32 _ (cellsU8 E) _ Try.underlying23 rfl info_key HL.out HX.out _ rfl
  · have hlt : ¬ (64 : Int) < (key.size : Int) := by omega
    have hkm := km.out (by omega)
    have HB := kp hb0.out
    have h1 := kp h0.out
    go_enter Try.func41, Try.ntmps41
    go_upto_region 4 with (fail)
    change Code.wp _ _ _ _ (w.alloc (.cells (cellsU8 (List.replicate 32 0)).toArray 23))
    rw [hZL] at h1 HB ⊢
    clear hlt h h0 hb0 c1 ks km HDL hcl hZL
    generalize (w.alloc (.cells (cellsU8 ZL).toArray 23)) = W at HB h1 ⊢
    rw [← hkm]
    clear hkm
    obtain ⟨KS, hKS⟩ : ∃ KS, str K1 = KS := ⟨_, rfl⟩
    rw [hKS]
    have hks : KS.size = K1.length := by rw [← hKS, str_size]
    have IX : Kp (∀ (k : Nat) (h : k < K1.length) (W : World), (Instr.index 9 (.string KS) (.int .i64 (k : Int))).run Try.prog W = .ok (.int .u8 (K1[k].toNat : Int)) W) := kp (fun k h W => by
      subst hKS
      rw [run_index_string W 9 (str K1) .i64 (k : Int) Try.underlying9, dif_pos ⟨by omega, by rw [str_size]; omega⟩]
      rfl)
    have HKS := kp hks
    clear hks hKS
    have HIL := kp (show xorU (F.take 0) 54 = [] from rfl)
    have HO1 : Kp ((((W.alloc (.cells #[] 5)).alloc (.cells #[] 5))).ownsRow (w.heap.size + 1) 5 1 (.slice (some ⟨W.heap.size, 0, none⟩) 0 0) 0 (cellsU8 (xorU (F.take 0) 54))) := kp ((World.ownsRow_lit W #[] 0 (by have := h1.out.lt; omega) (by decide) rfl).alloc _)
    have HO2 : Kp ((((W.alloc (.cells #[] 5)).alloc (.cells #[] 5))).ownsRow (w.heap.size + 1) 5 1 (.slice (some ⟨W.heap.size + 1, 0, none⟩) 0 0) 0 (cellsU8 (xorU (F.take 0) 92))) := kp (by
      have := World.ownsRow_lit (base := w.heap.size + 1) (e := 5) (size := 1) (W.alloc (.cells #[] 5)) #[] 0 (by have := h1.out.lt; simp; omega) (by decide) rfl
      rw [size_all] at this
      exact this)
    have h1' := kp ((h1.out.alloc (.cells #[] 5)).alloc (.cells #[] 5))
    have HB1 := kp (ba (ba HB.out (.cells #[] 5)) (.cells #[] 5))
    clear h1 HB
    go_wp2
    go_loopw [6, 7, 8] (fun vi vo i wr => ∃ (k gi go ci co : Nat), k ≤ 64 ∧ i = .int .i64 (k : Int) ∧ vi = .slice (some ⟨gi, 0, none⟩) k ci ∧ vo = .slice (some ⟨go, 0, none⟩) k co ∧ Kp (gi ≠ go) ∧ Kp (wr.ownsRow (w.heap.size + 1) 5 1 (.slice (some ⟨gi, 0, none⟩) k ci) k (cellsU8 (xorU (F.take k) 54))) ∧ Kp (wr.ownsRow (w.heap.size + 1) 5 1 (.slice (some ⟨go, 0, none⟩) k co) k (cellsU8 (xorU (F.take k) 92))) ∧ Kp (Blk wr w.heap.size 23 (cellsU8 ZL).toArray) ∧ Kp (Below w.heap.size w wr)) (fun _ _ i _ => 64 - (intOf i).toNat)
    case atStart => exact ⟨0, W.heap.size, W.heap.size + 1, 0, 0, by omega, rfl, rfl, rfl, kp (by omega), HO1, HO2, h1', HB1⟩
    case round =>
      clear HO1 HO2 h1' HB1
      obtain ⟨k, gi, go, ci, co, hk, rfl, rfl, rfl, hne, HO1, HO2, h1, HB⟩ := hrel
      by_cases hlt : k < 64
      · have hlt' : (k : Int) < 64 := by omega
        have i2 : (0 : Int) ≤ (k : Int) := by omega
        have hbs := h1.out.lt
        by_cases hin : k < K1.length
        all_goals
          obtain ⟨x, hx⟩ : ∃ x, F[k]? = some x := ⟨_, List.getElem?_eq_getElem (by rw [hfl]; exact hlt)⟩
          have hs1 := kp (xorU_snoc F 54 k x hx)
          have hs2 := kp (xorU_snoc F 92 k x hx)
          have hxi : Kp (∀ (h : k < K1.length), K1[k] = x) := kp (fun h => by have := F1.out k h; rw [hx] at this; injection this with this; exact this.symm)
          have hxo : Kp (K1.length ≤ k → x = 0) := kp (fun h => by have := F2.out k h hlt; rw [hx] at this; injection this)
          clear hx
          have x1 := u8_xor x 54
          have x2 := u8_xor x 92
          rw [show (((54 : UInt8).toNat : Nat) : Int) = 54 from rfl] at x1
          rw [show (((92 : UInt8).toNat : Nat) : Int) = 92 from rfl] at x2
          generalize x ^^^ 54 = a1 at x1 hs1
          generalize x ^^^ 92 = a2 at x2 hs2
        · have ix := IX.out k hin
          rw [hxi.out hin] at ix
          have hin' : (k : Int) < (KS.size : Int) := by have := HKS.out; omega
          clear hxi hxo
          go_wp2_with (at_builtin; refine wpList_append_own_at _ rfl _ _ 44 rfl (w.heap.size + 1) 5 i0 (.int .u8 0) 1 1 Try.underlying44 hi hz0 Hz1.out Hz2.out rfl (by decide) _ _ _ rfl (HO1.out.alloc _) ⟨wr.heap.size, 0, none⟩ 1 1 [.int .u8 (a1.toNat : Int)] rfl rfl ?g0c1 ?g0c2 ?g0c3 ?g0c4 ?g0c5 ?_)
          case g0c1 => exact cell_one_new _ _ _
          case g0c2 => simp [Value.oneCell']
          case g0c3 => unfold maxLen; omega
          case g0c4 => omega
          case g0c5 => first | (simp; omega) | omega
          intro v1 w1 hown1 hgrow1 _ hat1
          obtain ⟨g1, p1, rfl, -, -⟩ := World.ownsRow.form hown1 (by omega)
          have hne1 : g1 ≠ go := by
            rcases hat1 with h | h
            · simp [Value.ownBlock] at h; rw [h]; exact hne.out
            · simp [Value.ownBlock] at h; have := (own_lt HO2.out).2; omega
          have HP1 : Kp (w1.ownsRow (w.heap.size + 1) 5 1 (.slice (some ⟨g1, 0, none⟩) (k + 1) p1) (k + 1) (cellsU8 (xorU (F.take (k + 1)) 54))) := kp (by rw [hs1.out, cellsU8_append]; exact hown1)
          have HP2 := kp ((HO2.out.alloc (.cells #[.int .u8 (a1.toNat : Int)] 5)).kept hgrow1 (Or.inr (by simp [Value.ownBlock]; exact fun e => hne.out e.symm)))
          have hg0 := (own_lt HO1.out).1
          have HH1 := kp ((h1.out.alloc (.cells #[.int .u8 (a1.toNat : Int)] 5)).grown hgrow1 (by simp [Value.ownBlock]; omega))
          have HBB1 := kp ((HB.out.alloc HB.out.size (.cells #[.int .u8 (a1.toNat : Int)] 5)).grown hgrow1 (by have := HB.out.size; simp; omega) (fun x hx => by simp [Value.ownBlock] at hx; omega))
          have hbs1 := HH1.out.lt
          clear hown1 hgrow1 hat1 h1 HB HO1
          go_wp2_with (at_builtin; refine wpList_append_own_at _ rfl _ _ 44 rfl (w.heap.size + 1) 5 i0 (.int .u8 0) 1 1 Try.underlying44 hi hz0 Hz1.out Hz2.out rfl (by decide) _ _ _ rfl (HP2.out.alloc _) ⟨w1.heap.size, 0, none⟩ 1 1 [.int .u8 (a2.toNat : Int)] rfl rfl ?g1c1 ?g1c2 ?g1c3 ?g1c4 ?g1c5 ?_)
          case g1c1 => exact cell_one_new _ _ _
          case g1c2 => simp [Value.oneCell']
          case g1c3 => unfold maxLen; omega
          case g1c4 => omega
          case g1c5 => first | (simp; omega) | omega
          intro v2 w2 hown2 hgrow2 _ hat2
          obtain ⟨g2, p2, rfl, -, -⟩ := World.ownsRow.form hown2 (by omega)
          have hne2 : g1 ≠ g2 := by
            rcases hat2 with h | h
            · simp [Value.ownBlock] at h; rw [h]; exact hne1
            · simp [Value.ownBlock] at h; have := (own_lt HP1.out).2; omega
          have HQ2 : Kp (w2.ownsRow (w.heap.size + 1) 5 1 (.slice (some ⟨g2, 0, none⟩) (k + 1) p2) (k + 1) (cellsU8 (xorU (F.take (k + 1)) 92))) := kp (by rw [hs2.out, cellsU8_append]; exact hown2)
          have HQ1 := kp ((HP1.out.alloc (.cells #[.int .u8 (a2.toNat : Int)] 5)).kept hgrow2 (Or.inr (by simp [Value.ownBlock]; exact hne1)))
          have hg0' := (own_lt HP2.out).1
          have HH2 := kp ((HH1.out.alloc (.cells #[.int .u8 (a2.toNat : Int)] 5)).grown hgrow2 (by simp [Value.ownBlock]; omega))
          have HBB2 := kp ((HBB1.out.alloc HBB1.out.size (.cells #[.int .u8 (a2.toNat : Int)] 5)).grown hgrow2 (by have := HBB1.out.size; simp; omega) (fun x hx => by simp [Value.ownBlock] at hx; omega))
          clear hown2 hgrow2 hat2 HH1 HBB1 HP1 HP2
          go_wp2
          go_roundw
          case measure => simp [intOf]; omega
          case rel => exact ⟨k + 1, g1, g2, p1, p2, by omega, by go_num, rfl, rfl, kp hne2, HQ1, HQ2, HH2, HBB2⟩
        · have hx0 := hxo.out (by omega)
          have hin' : ¬ (k : Int) < (KS.size : Int) := by have := HKS.out; omega
          rw [hx0, show (((0 : UInt8).toNat : Nat) : Int) = 0 from rfl] at x1 x2
          clear hxi hxo
          go_wp2_with (at_builtin; refine wpList_append_own_at _ rfl _ _ 44 rfl (w.heap.size + 1) 5 i0 (.int .u8 0) 1 1 Try.underlying44 hi hz0 Hz1.out Hz2.out rfl (by decide) _ _ _ rfl (HO1.out.alloc _) ⟨wr.heap.size, 0, none⟩ 1 1 [.int .u8 (a1.toNat : Int)] rfl rfl (cell_one_new _ _ _) ?g2c2 ?g2c3 ?g2c4 ?g2c5 ?_)
          case g2c2 => simp [Value.oneCell']
          case g2c3 => unfold maxLen; omega
          case g2c4 => omega
          case g2c5 => first | (simp; omega) | omega
          intro v1 w1 hown1 hgrow1 _ hat1
          obtain ⟨g1, p1, rfl, -, -⟩ := World.ownsRow.form hown1 (by omega)
          have hne1 : g1 ≠ go := by
            rcases hat1 with h | h
            · simp [Value.ownBlock] at h; rw [h]; exact hne.out
            · simp [Value.ownBlock] at h; have := (own_lt HO2.out).2; omega
          have HP1 : Kp (w1.ownsRow (w.heap.size + 1) 5 1 (.slice (some ⟨g1, 0, none⟩) (k + 1) p1) (k + 1) (cellsU8 (xorU (F.take (k + 1)) 54))) := kp (by rw [hs1.out, cellsU8_append]; exact hown1)
          have HP2 := kp ((HO2.out.alloc (.cells #[.int .u8 (a1.toNat : Int)] 5)).kept hgrow1 (Or.inr (by simp [Value.ownBlock]; exact fun e => hne.out e.symm)))
          have hg0 := (own_lt HO1.out).1
          have HH1 := kp ((h1.out.alloc (.cells #[.int .u8 (a1.toNat : Int)] 5)).grown hgrow1 (by simp [Value.ownBlock]; omega))
          have HBB1 := kp ((HB.out.alloc HB.out.size (.cells #[.int .u8 (a1.toNat : Int)] 5)).grown hgrow1 (by have := HB.out.size; simp; omega) (fun x hx => by simp [Value.ownBlock] at hx; omega))
          have hbs1 := HH1.out.lt
          clear hown1 hgrow1 hat1 h1 HB HO1
          go_wp2_with (at_builtin; refine wpList_append_own_at _ rfl _ _ 44 rfl (w.heap.size + 1) 5 i0 (.int .u8 0) 1 1 Try.underlying44 hi hz0 Hz1.out Hz2.out rfl (by decide) _ _ _ rfl (HP2.out.alloc _) ⟨w1.heap.size, 0, none⟩ 1 1 [.int .u8 (a2.toNat : Int)] rfl rfl ?g3c1 ?g3c2 ?g3c3 ?g3c4 ?g3c5 ?_)
          case g3c1 => exact cell_one_new _ _ _
          case g3c2 => simp [Value.oneCell']
          case g3c3 => unfold maxLen; omega
          case g3c4 => omega
          case g3c5 => first | (simp; omega) | omega
          intro v2 w2 hown2 hgrow2 _ hat2
          obtain ⟨g2, p2, rfl, -, -⟩ := World.ownsRow.form hown2 (by omega)
          have hne2 : g1 ≠ g2 := by
            rcases hat2 with h | h
            · simp [Value.ownBlock] at h; rw [h]; exact hne1
            · simp [Value.ownBlock] at h; have := (own_lt HP1.out).2; omega
          have HQ2 : Kp (w2.ownsRow (w.heap.size + 1) 5 1 (.slice (some ⟨g2, 0, none⟩) (k + 1) p2) (k + 1) (cellsU8 (xorU (F.take (k + 1)) 92))) := kp (by rw [hs2.out, cellsU8_append]; exact hown2)
          have HQ1 := kp ((HP1.out.alloc (.cells #[.int .u8 (a2.toNat : Int)] 5)).kept hgrow2 (Or.inr (by simp [Value.ownBlock]; exact hne1)))
          have hg0' := (own_lt HP2.out).1
          have HH2 := kp ((HH1.out.alloc (.cells #[.int .u8 (a2.toNat : Int)] 5)).grown hgrow2 (by simp [Value.ownBlock]; omega))
          have HBB2 := kp ((HBB1.out.alloc HBB1.out.size (.cells #[.int .u8 (a2.toNat : Int)] 5)).grown hgrow2 (by have := HBB1.out.size; simp; omega) (fun x hx => by simp [Value.ownBlock] at hx; omega))
          clear hown2 hgrow2 hat2 HH1 HBB1 HP1 HP2
          go_wp2
          go_roundw
          case measure => simp [intOf]; omega
          case rel => exact ⟨k + 1, g1, g2, p1, p2, by omega, by go_num, rfl, rfl, kp hne2, HQ1, HQ2, HH2, HBB2⟩
      · obtain rfl : k = 64 := by omega
        have hta : F.take 64 = F := List.take_of_length_le (by omega)
        rw [hta, ← hik.out] at HO1
        rw [hta, ← hok.out] at HO2
        have hcv := own_str (P := Try.prog) 44 (dst := 9) Try.underlying44 Try.underlying5 Try.underlying9 HO1.out
        have hcv' : (Go.convert 44 9 (.slice (some ⟨gi, 0, none⟩) 64 ci)).run Try.prog wr = .ok (.string (str I)) wr := hcv
        clear hcv
        have hi1' := hi1.out
        go_wp2_with fail
        refine (c3.out _).mono ?_
        rintro e w3 ⟨rfl, hb3⟩
        clear hcv' hi1'
        have SC := fun (cur : Array Value) (h : cur.size = 32) => sc_new (P := Try.prog) w3 23 (cellsU8 D1) (cellsU8_one _) cur (by rw [hcl3]; exact h)
        have hbA := ba hb3 (.cells (cellsU8 D1).toArray 23)
        have K3 := kp (Blk.new w3 23 (cellsU8 D1).toArray)
        have H3 := kp (h1.out.bel hbA)
        have O3 := kp (own_below HO2.out hbA)
        have B3 := kp (bt' HB.out hbA HB.out.size)
        clear hb3 hbA h1 HO1 HO2 HB
        go_wp2_with fail
        clear SC
        generalize (w3.alloc (.cells (cellsU8 D1).toArray 23)) = W4 at K3 H3 O3 B3 ⊢
        generalize w3.heap.size = b3 at K3 ⊢
        have hcv1 : ∀ x, (Go.convert 44 9 (.slice (some ⟨go, 0, none⟩) 64 co)).run Try.prog (W4.ext x) = .ok (.string (str O)) (W4.ext x) := fun x => own_str (P := Try.prog) 44 (dst := 9) Try.underlying44 Try.underlying5 Try.underlying9 (own_below O3.out (ext_below W4 x))
        have hcv2 := fun x => blk_str (P := Try.prog) 44 (e := 5) (dst := 9) (n := 32) (cap := 32) Try.underlying44 Try.underlying5 Try.underlying9 (K3.out.bel (ext_below W4 x)) (by rw [← length_cellsU8]; exact hcl3)
        have ho1' := ho1.out
        refine wp_region_ext [0, 1, 2, 3, 4, 5] [6] (by kernel_rfl) (by kernel_rfl) ?_
        simp only [List.map_cons, List.map_nil, List.getD_cons_succ, List.getD_cons_zero]
        repeat (go_big_quiet_step ((go_at_call 27; with_reducible exact Calls.ext_of (c4.out _))))
        refine wpQuiet_nil ?_
        rintro z
        have h5 := kp (H3.out.bel (ext_below W4 z))
        have b5 := kp (bt' B3.out (ext_below W4 z) B3.out.size)
        clear hcv1 hcv2 ho1' H3 B3 O3 K3
        generalize W4.ext z = Y at h5 b5 ⊢
        have SC := sc_all (P := Try.prog) (w := Y) w.heap.size 23 (cellsU8 E) _ h5.out (by rw [hcl2, length_cellsU8, ← HZL.out, List.length_replicate]) (cellsU8_one _)
        have HX := kp (h5.out.row (cellsU8 E).toArray)
        have HBX := kp (bsr b5.out (Nat.le_refl w.heap.size) b5.out.size (cellsU8 E).toArray)
        have HL := kp hcl2
        clear h5 b5
        generalize hY : Y.setRow w.heap.size (cellsU8 E).toArray = Z at SC HX HBX
        clear hY
        go_wp2
        refine bodyPost_ret (v := .agg (cellsU8 E).toArray) ?_ rfl ⟨rfl, HBX.out⟩
        exact res_all Try.results41 w.heap.size 32 _ (cellsU8 E) _ Try.underlying23 rfl info_key HL.out HX.out _ rfl
end Go.Proofs.Ytfmfdhcmbnabpaa
