/- mac: With, and what it makes. -/
import Derived.Test.YtfmfdhcmbnabpaaMac1
namespace Go.Proofs.Ytfmfdhcmbnabpaa
open Go Go.RowKit
set_option linter.unusedVariables false
set_option linter.unusedSimpArgs false
attribute [local go_sem] bmax2 bmin2 bmax bmin cell_ext frozen_ext

/-- the last block but one, stored anew -/
theorem sc_new2 {P : Program} (w : World) (t : TypeId) (cs : List Value) (h1 : ∀ v ∈ cs, v.oneCell' = true) (cur : Array Value) (o : Obj) (hc : cur.size = cs.length) : (storeCells ⟨w.heap.size, 0, none⟩ cs).run P ((w.alloc (.cells cur t)).alloc o) = .ok () ((w.alloc (.cells cs.toArray t)).alloc o) := by
  have h := sc_all (P := P) w.heap.size t cs cur.toList (w := (w.alloc (.cells cur t)).alloc o) (by rw [Array.toArray_toList]; exact (Blk.new w t cur).alloc o) (by rw [Array.length_toList]; exact hc.symm) h1
  rw [h]
  congr 1
  unfold World.setRow World.alloc
  congr 1
  apply Array.ext
  · simp
  · intro i h1 h2
    simp only [Array.getElem_modify]
    split
    · rename_i he
      subst he
      simp [Array.getElem_push]
    · rename_i he
      simp only [Array.getElem_push, Array.size_push]
      by_cases hi : i < w.heap.size
      · simp [hi, Nat.lt_succ_of_lt hi]
      · have : ¬ i < w.heap.size + 1 := by omega
        simp [hi, this]
theorem sc_newS {P : Program} (w : World) (t : TypeId) (cs : List Value) (h1 : ∀ v ∈ cs, v.oneCell' = true) (o : Obj) (cur : Array Value) (hc : cur.size = cs.length) : (storeCells ⟨w.heap.size + 1, 0, none⟩ cs).run P ((w.alloc o).alloc (.cells cur t)) = .ok () ((w.alloc o).alloc (.cells cs.toArray t)) := by
  have := sc_new (P := P) (w.alloc o) t cs h1 cur hc
  rw [size_all] at this
  exact this
/-- what tells tags by a key -/
def Maker (w : World) (key : List UInt8) (b5 b6 : Nat) : Prop := Blk w b5 84 (stLm (inK key)).toArray ∧ Blk w b6 84 (stLm (outK key)).toArray
def makerV (b5 b6 : Nat) : Value := .func (.func 63) #[] #[.pointer (some ⟨b5, 0, none⟩), .pointer (some ⟨b6, 0, none⟩)]
theorem Maker.bel {w w' : World} {key : List UInt8} {b5 b6 : Nat} (h : Maker w key b5 b6) (hb : Below w.heap.size w w') : Maker w' key b5 b6 := ⟨h.1.bel hb, h.2.bel hb⟩

set_option maxHeartbeats 1000000 in
set_option maxRecDepth 100000 in
theorem Made_any (key : List UInt8) (t : ByteArray) (b5 b6 : Nat) (w : World) (h : Maker w key b5 b6) (ht : t.size ≤ 1099511627) :
    Calls Try.prog 63 #[.string t, .pointer (some ⟨b5, 0, none⟩), .pointer (some ⟨b6, 0, none⟩)] w fun e w' => e = .returned (.agg (cellsU8 (macD key (bs t))).toArray) ∧ Below w.heap.size w w' := by
  have HH := kp h
  have c1 := kp (fun w' => More_st (inK key) t (by rw [inK_length]; omega) w')
  have c2 := kp (fun w' => Key_st (inK key ++ bs t) (by rw [List.length_append, inK_length, size_bs]; omega) w')
  have hdl := digest_length (inK key ++ bs t)
  have hmd : Kp (macD key (bs t) = digest (outK key ++ digest (inK key ++ bs t))) := kp rfl
  obtain ⟨D, hD⟩ : ∃ D, digest (inK key ++ bs t) = D := ⟨_, rfl⟩
  rw [hD] at c2 hdl hmd
  have c3 := kp (fun w' => More_st (outK key) (str D) (by rw [outK_length, str_size]; omega) w')
  rw [bs_str] at c3
  have c4 := kp (fun w' => Key_st (outK key ++ D) (by rw [List.length_append, outK_length]; omega) w')
  have hml := digest_length (outK key ++ D)
  have hcl := key_cells _ hdl
  have hcl2 := key_cells _ hml
  obtain ⟨E, hE⟩ : ∃ E, digest (outK key ++ D) = E := ⟨_, rfl⟩
  rw [hE] at c4 hmd hcl2
  have L1 := kp (fun (W : World) (h : Maker W key b5 b6) => ldS (inK key) h.1)
  have L2 := kp (fun (W : World) (h : Maker W key b5 b6) => ldS (outK key) h.2)
  obtain ⟨ZL, hZL⟩ : ∃ ZL : List UInt8, List.replicate 32 0 = ZL := ⟨_, rfl⟩
  have HDL := kp hdl
  have LD0 := L1.out (w.alloc (.cells (cellsU8 (List.replicate 32 0)).toArray 23)) (HH.out.bel (ba (Below.refl _ _) _))
  have HM0 := kp (HH.out.bel (ba (Below.refl w.heap.size w) (.cells (cellsU8 (List.replicate 32 0)).toArray 23)))
  have h0 := kp (Blk.new w 23 (cellsU8 (List.replicate 32 0)).toArray)
  have hb0 := kp (ba (Below.refl w.heap.size w) (.cells (cellsU8 (List.replicate 32 0)).toArray 23))
  rw [hmd.out]
  clear hD hE hmd hdl hml h ht
  go_enter Try.func63, Try.ntmps63
  go_wp2_with (refine wpL_load rfl 84 _ rfl rfl LD0 ?_)
  clear LD0
  refine (c1.out _).mono ?_
  rintro e w1 ⟨rfl, hb1⟩
  go_wp2_with fail
  refine (c2.out _).mono ?_
  rintro e w2 ⟨rfl, hb2⟩
  have SC := fun (cur : Array Value) (h : cur.size = 32) => sc_new (P := Try.prog) w2 23 (cellsU8 D) (cellsU8_one _) cur (by rw [hcl]; exact h)
  have HM2 := kp (((HM0.out.bel hb1).bel hb2).bel (ba (Below.refl _ _) (.cells (cellsU8 D).toArray 23)))
  have h2 := kp (((h0.out.bel hb1).bel hb2).alloc (.cells (cellsU8 D).toArray 23))
  have k2 := kp (Blk.new w2 23 (cellsU8 D).toArray)
  have hbb := kp (ba (bt' (bt' hb0.out hb1 hb0.out.size) hb2 (bt' hb0.out hb1 hb0.out.size).size) (.cells (cellsU8 D).toArray 23))
  have hne : w.heap.size ≠ w2.heap.size := by have := ((h0.out.bel hb1).bel hb2).lt; omega
  clear hb1 hb2 HM0 h0 hb0
  rw [hZL] at h2
  go_wp2_with fail
  clear SC
  generalize (w2.alloc (.cells (cellsU8 D).toArray 23)) = W at HM2 h2 k2 hbb ⊢
  generalize w2.heap.size = b2 at k2 hne ⊢
  have LS := kp (fun x => L2.out (W.ext x) (HM2.out.bel (ext_below W x)))
  have HCV := kp (fun x => blk_str (P := Try.prog) 44 (e := 5) (dst := 9) (n := 32) (cap := 32) Try.underlying44 Try.underlying5 Try.underlying9 (k2.out.bel (ext_below W x)) HDL.out)
  have hcv := HCV.out
  have HZL := kp hZL
  clear hZL
  refine wp_region_ext [0, 1, 2, 3, 4] [5] (by kernel_rfl) (by kernel_rfl) ?_
  simp only [List.map_cons, List.map_nil, List.getD_cons_succ, List.getD_cons_zero]
  repeat (first
    | (go_big_quiet_want; refine quiet_load _ rfl 84 _ rfl rfl (fun w hw => by obtain ⟨x, rfl⟩ := hw; exact LS.out x) ?_; go_simp; go_big_quiet_on)
    | go_big_quiet_step (first | (go_at_call 53; with_reducible exact Calls.ext_of (c3.out _)) | (go_at_call 54; with_reducible exact Calls.ext_of (c4.out _))))
  refine wpQuiet_nil ?_
  rintro z
  have h3 := kp (h2.out.bel (ext_below W z))
  have hb3 := kp (bt' hbb.out (ext_below W z) hbb.out.size)
  clear hcv HCV LS h2 hbb k2
  generalize W.ext z = Y at h3 hb3 ⊢
  have SC := sc_all (P := Try.prog) (w := Y) w.heap.size 23 (cellsU8 E) _ h3.out (by rw [hcl2, length_cellsU8, ← HZL.out, List.length_replicate]) (cellsU8_one _)
  have HX := kp (h3.out.row (cellsU8 E).toArray)
  have HBX := kp (bsr hb3.out (Nat.le_refl w.heap.size) hb3.out.size (cellsU8 E).toArray)
  have HL := kp hcl2
  clear h3 hb3 hcl
  generalize hY : Y.setRow w.heap.size (cellsU8 E).toArray = Z at SC HX HBX
  clear hY
  go_wp2
  refine bodyPost_ret (v := .agg (cellsU8 E).toArray) ?_ rfl ⟨rfl, HBX.out⟩
  exact res_all Try.results63 w.heap.size 32 _ (cellsU8 E) _ Try.underlying23 rfl info_key HL.out HX.out _ rfl

/-- With's end -/
def WithEnd (w : World) (key : List UInt8) (e : Ending) (w' : World) : Prop := ∃ b5 b6, e = .returned (makerV b5 b6) ∧ Maker w' key b5 b6 ∧ Below w.heap.size w w'
set_option maxHeartbeats 1000000 in
set_option maxRecDepth 100000 in
theorem With_any (key : ByteArray) (hk : key.size ≤ 1099511627) (w : World) :
    Calls Try.prog 55 #[.string key] w (WithEnd w (bs key)) := by
  have hkl : key.size = (bs key).length := rfl
  have k2l := key2_length (bs key)
  have c1 : Kp (64 < key.size → ∀ w', Calls Try.prog 48 #[.string key] w' fun e w'' => e = .returned (.agg (cellsU8 (digest (bs key))).toArray) ∧ Below w'.heap.size w' w'') := kp (fun _ w' => Sum_st key (by omega) w')
  have hdl := digest_length (bs key)
  have hcl := key_cells _ hdl
  have HDL := kp hdl
  have ks : Kp (64 < key.size → str (digest (bs key)) = str (key2 (bs key))) := kp (fun h => by
    have := key1_long (k := bs key) (by rw [← hkl]; exact h)
    unfold key2
    rw [this, if_neg (by intro e; rw [e] at hdl; simp at hdl)])
  have kn : Kp (key.size = 0 → (⟨#[0]⟩ : ByteArray) = str (key2 (bs key))) := kp (fun h => by
    have h0 : bs key = [] := List.eq_nil_of_length_eq_zero h
    unfold key2
    rw [key1_short (by rw [← hkl]; omega), h0, if_pos rfl]; rfl)
  have km : Kp (1 ≤ key.size → key.size ≤ 64 → key = str (key2 (bs key))) := kp (fun h h' => by
    have h0 : bs key ≠ [] := by intro e; have : (bs key).length = 0 := by rw [e]; rfl
                                omega
    unfold key2
    rw [key1_short (by rw [← hkl]; exact h'), if_neg h0]
    exact (str_bs key).symm)
  have c2 : Kp (∀ w', Calls Try.prog 61 #[.string (str (key2 (bs key))), .int .i64 64] w' fun e w'' => e = .returned (.string (str (fullK (bs key)))) ∧ Below w'.heap.size w' w'') := kp (fun w' => by
    have := octet_Pad_any (str (key2 (bs key))) 64 w' (by decide) (by decide) (by rw [str_size]; omega)
    rw [bs_str, str_size] at this
    unfold padN at this
    rw [pad_key2] at this
    exact this)
  have hfl := fullK_length (bs key)
  have c3 := kp (fun w' => xored_any (fullK (bs key)) 54 (by omega) w')
  have c4 := kp (fun w' => xored_any (fullK (bs key)) 92 (by omega) w')
  have c5 : Kp (∀ w', Calls Try.prog 53 #[.agg (stLm []).toArray, .string (str (xorU (fullK (bs key)) 54))] w' fun e w'' => e = .returned (.agg (stLm (inK (bs key))).toArray) ∧ Below w'.heap.size w' w'') := kp (fun w' => More_st [] (str (xorU (fullK (bs key)) 54)) (by rw [str_size, xorU_length]; simp; omega) w')
  have c6 : Kp (∀ w', Calls Try.prog 53 #[.agg (stLm []).toArray, .string (str (xorU (fullK (bs key)) 92))] w' fun e w'' => e = .returned (.agg (stLm (outK (bs key))).toArray) ∧ Below w'.heap.size w' w'') := kp (fun w' => More_st [] (str (xorU (fullK (bs key)) 92)) (by rw [str_size, xorU_length]; simp; omega) w')
  generalize str (xorU (fullK (bs key)) 54) = X1 at c3 c5
  generalize str (xorU (fullK (bs key)) 92) = X2 at c4 c6
  generalize str (fullK (bs key)) = FK at c2 c3 c4
  obtain ⟨A, hA⟩ : ∃ A, inK (bs key) = A := ⟨_, rfl⟩
  obtain ⟨B, hB⟩ : ∃ B, outK (bs key) = B := ⟨_, rfl⟩
  have hla : (stLm A).length = 11 := rfl
  have hlb : (stLm B).length = 11 := rfl
  have h1a := kp (stLm_one A)
  have h1b := kp (stLm_one B)
  have HMK : Kp (∀ (W : World) b5 b6, Blk W b5 84 (stLm A).toArray → Blk W b6 84 (stLm B).toArray → Maker W (bs key) b5 b6) := kp (fun W b5 b6 h5 h6 => ⟨by rw [hA]; exact h5, by rw [hB]; exact h6⟩)
  rw [hA] at c5
  rw [hB] at c6
  generalize stLm A = SA at c5 hla h1a HMK
  generalize stLm B = SB at c6 hlb h1b HMK
  obtain ⟨K2, hK2⟩ : ∃ K2, str (key2 (bs key)) = K2 := ⟨_, rfl⟩
  rw [hK2] at ks kn km c2
  generalize digest (bs key) = D at c1 HDL ks hcl
  have c0 := kp (fun w' => New_st w')
  generalize stLm [] = S0 at *
  have hkp : 1 ≤ K2.size := by rw [← hK2, str_size]; exact k2l.1
  have hk64 : K2.size ≤ 64 := by rw [← hK2, str_size]; exact k2l.2
  have he : ∀ Z : ByteArray, 1 ≤ Z.size → Z.toList.isEmpty = false ∧ (Z.toList == []) = false := fun Z h => by
    have : Z.toList ≠ [] := by rw [toList_bs]; intro e; have h0 : Z.size = 0 := by { rw [← size_bs, e]; rfl }; omega
    cases hz : Z.toList with
    | nil => exact absurd hz this
    | cons a l => exact ⟨rfl, rfl⟩
  obtain ⟨he1, he2⟩ := he K2 hkp
  have HKL := kp hkl
  clear hkl hA hB hK2 hfl hdl k2l he
  have hcase : 64 < key.size ∨ key.size = 0 ∨ (1 ≤ key.size ∧ key.size ≤ 64) := by omega
  rcases hcase with h | h | ⟨h1, h2⟩
  · have h' : (64 : Int) < (key.size : Int) := by omega
    have hsd := ks.out h
    go_enter Try.func55, Try.ntmps55
    go_wp2_with fail
    refine (c1.out h _).mono ?_
    rintro e w1 ⟨rfl, hb1⟩
    have SC := fun (cur : Array Value) (h : cur.size = 32) => sc_new (P := Try.prog) w1 23 (cellsU8 D) (cellsU8_one _) cur (by rw [hcl]; exact h)
    have hcv := blk_str (P := Try.prog) 44 (e := 5) (dst := 9) (n := 32) (cap := 32) Try.underlying44 Try.underlying5 Try.underlying9 (Blk.new w1 23 (cellsU8 D).toArray) HDL.out
    rw [hsd] at hcv
    have HB := kp (ba hb1 (.cells (cellsU8 D).toArray 23))
    clear hb1
    go_upto_region 6 with (fail)
    clear SC hcv hsd h h'
    generalize (w1.alloc (.cells (cellsU8 D).toArray 23)) = W at HB ⊢
    clear he1 he2 hkp c1 ks kn km HDL hcl
    go_wp2_with fail
    refine (c2.out _).mono ?_
    rintro e w2 ⟨rfl, hb2⟩
    have HB2 := kp (bt' HB.out hb2 HB.out.size)
    clear HB hb2
    go_wp2_with fail
    refine (c0.out _).mono ?_
    rintro e w3 ⟨rfl, hb3⟩
    have HB3 := kp (bt' HB2.out hb3 HB2.out.size)
    clear HB2 hb3
    go_wp2_with fail
    refine (c3.out _).mono ?_
    rintro e w4 ⟨rfl, hb4⟩
    have HB4 := kp (bt' HB3.out hb4 HB3.out.size)
    clear HB3 hb4
    go_wp2_with fail
    refine (c5.out _).mono ?_
    rintro e w5 ⟨rfl, hb5⟩
    have HB5 := kp (bt' HB4.out hb5 HB4.out.size)
    clear HB4 hb5
    go_wp2_with fail
    refine (c0.out _).mono ?_
    rintro e w6 ⟨rfl, hb6⟩
    have HB6 := kp (bt' HB5.out hb6 HB5.out.size)
    clear HB5 hb6
    go_wp2_with fail
    refine (c4.out _).mono ?_
    rintro e w7 ⟨rfl, hb7⟩
    have HB7 := kp (bt' HB6.out hb7 HB6.out.size)
    clear HB6 hb7
    go_wp2_with fail
    refine (c6.out _).mono ?_
    rintro e w8 ⟨rfl, hb8⟩
    have HB8 := kp (bt' HB7.out hb8 HB7.out.size)
    clear HB7 hb8
    have HB9 := kp (ba (ba HB8.out (.cells SA.toArray 84)) (.cells SB.toArray 84))
    have hA5 := kp ((Blk.new w8 84 SA.toArray).alloc (.cells SB.toArray 84))
    have hB6 := kp (Blk.new (w8.alloc (.cells SA.toArray 84)) 84 SB.toArray)
    rw [size_all] at hB6
    have S1 := fun (cur : Array Value) (o : Obj) (h : cur.size = 11) => sc_new2 (P := Try.prog) w8 84 SA h1a.out cur o (by rw [hla]; exact h)
    have S2 := fun (o : Obj) (cur : Array Value) (h : cur.size = 11) => sc_newS (P := Try.prog) w8 84 SB h1b.out o cur (by rw [hlb]; exact h)
    go_wp2_with fail
    clear S1 S2
    refine bodyPost_ret (v := makerV w8.heap.size (w8.heap.size + 1)) (by simp [results, Try.results55, go_sem, makerV]) rfl ⟨w8.heap.size, w8.heap.size + 1, rfl, HMK.out _ _ _ hA5.out hB6.out, HB9.out⟩
  · have hlt : ¬ (64 : Int) < (key.size : Int) := by omega
    have hkn := kn.out h
    have h0 : key.toList = [] := by rw [toList_bs]; exact List.eq_nil_of_length_eq_zero h
    have h0e : key.toList.isEmpty = true := by rw [h0]; rfl
    have HB := kp (Below.refl w.heap.size w)
    go_enter Try.func55, Try.ntmps55
    go_upto_region 6 with (fail)
    rw [hkn]
    clear hkn h0 h0e hlt h
    clear he1 he2 hkp c1 ks kn km HDL hcl
    go_wp2_with fail
    refine (c2.out _).mono ?_
    rintro e w2 ⟨rfl, hb2⟩
    have HB2 := kp (bt' HB.out hb2 HB.out.size)
    clear HB hb2
    go_wp2_with fail
    refine (c0.out _).mono ?_
    rintro e w3 ⟨rfl, hb3⟩
    have HB3 := kp (bt' HB2.out hb3 HB2.out.size)
    clear HB2 hb3
    go_wp2_with fail
    refine (c3.out _).mono ?_
    rintro e w4 ⟨rfl, hb4⟩
    have HB4 := kp (bt' HB3.out hb4 HB3.out.size)
    clear HB3 hb4
    go_wp2_with fail
    refine (c5.out _).mono ?_
    rintro e w5 ⟨rfl, hb5⟩
    have HB5 := kp (bt' HB4.out hb5 HB4.out.size)
    clear HB4 hb5
    go_wp2_with fail
    refine (c0.out _).mono ?_
    rintro e w6 ⟨rfl, hb6⟩
    have HB6 := kp (bt' HB5.out hb6 HB5.out.size)
    clear HB5 hb6
    go_wp2_with fail
    refine (c4.out _).mono ?_
    rintro e w7 ⟨rfl, hb7⟩
    have HB7 := kp (bt' HB6.out hb7 HB6.out.size)
    clear HB6 hb7
    go_wp2_with fail
    refine (c6.out _).mono ?_
    rintro e w8 ⟨rfl, hb8⟩
    have HB8 := kp (bt' HB7.out hb8 HB7.out.size)
    clear HB7 hb8
    have HB9 := kp (ba (ba HB8.out (.cells SA.toArray 84)) (.cells SB.toArray 84))
    have hA5 := kp ((Blk.new w8 84 SA.toArray).alloc (.cells SB.toArray 84))
    have hB6 := kp (Blk.new (w8.alloc (.cells SA.toArray 84)) 84 SB.toArray)
    rw [size_all] at hB6
    have S1 := fun (cur : Array Value) (o : Obj) (h : cur.size = 11) => sc_new2 (P := Try.prog) w8 84 SA h1a.out cur o (by rw [hla]; exact h)
    have S2 := fun (o : Obj) (cur : Array Value) (h : cur.size = 11) => sc_newS (P := Try.prog) w8 84 SB h1b.out o cur (by rw [hlb]; exact h)
    go_wp2_with fail
    clear S1 S2
    refine bodyPost_ret (v := makerV w8.heap.size (w8.heap.size + 1)) (by simp [results, Try.results55, go_sem, makerV]) rfl ⟨w8.heap.size, w8.heap.size + 1, rfl, HMK.out _ _ _ hA5.out hB6.out, HB9.out⟩
  · have hlt : ¬ (64 : Int) < (key.size : Int) := by omega
    have hkm := km.out h1 h2
    subst hkm
    have HB := kp (Below.refl w.heap.size w)
    go_enter Try.func55, Try.ntmps55
    go_upto_region 6 with (fail)
    clear hlt h1 h2
    clear he1 he2 hkp c1 ks kn km HDL hcl
    go_wp2_with fail
    refine (c2.out _).mono ?_
    rintro e w2 ⟨rfl, hb2⟩
    have HB2 := kp (bt' HB.out hb2 HB.out.size)
    clear HB hb2
    go_wp2_with fail
    refine (c0.out _).mono ?_
    rintro e w3 ⟨rfl, hb3⟩
    have HB3 := kp (bt' HB2.out hb3 HB2.out.size)
    clear HB2 hb3
    go_wp2_with fail
    refine (c3.out _).mono ?_
    rintro e w4 ⟨rfl, hb4⟩
    have HB4 := kp (bt' HB3.out hb4 HB3.out.size)
    clear HB3 hb4
    go_wp2_with fail
    refine (c5.out _).mono ?_
    rintro e w5 ⟨rfl, hb5⟩
    have HB5 := kp (bt' HB4.out hb5 HB4.out.size)
    clear HB4 hb5
    go_wp2_with fail
    refine (c0.out _).mono ?_
    rintro e w6 ⟨rfl, hb6⟩
    have HB6 := kp (bt' HB5.out hb6 HB5.out.size)
    clear HB5 hb6
    go_wp2_with fail
    refine (c4.out _).mono ?_
    rintro e w7 ⟨rfl, hb7⟩
    have HB7 := kp (bt' HB6.out hb7 HB6.out.size)
    clear HB6 hb7
    go_wp2_with fail
    refine (c6.out _).mono ?_
    rintro e w8 ⟨rfl, hb8⟩
    have HB8 := kp (bt' HB7.out hb8 HB7.out.size)
    clear HB7 hb8
    have HB9 := kp (ba (ba HB8.out (.cells SA.toArray 84)) (.cells SB.toArray 84))
    have hA5 := kp ((Blk.new w8 84 SA.toArray).alloc (.cells SB.toArray 84))
    have hB6 := kp (Blk.new (w8.alloc (.cells SA.toArray 84)) 84 SB.toArray)
    rw [size_all] at hB6
    have S1 := fun (cur : Array Value) (o : Obj) (h : cur.size = 11) => sc_new2 (P := Try.prog) w8 84 SA h1a.out cur o (by rw [hla]; exact h)
    have S2 := fun (o : Obj) (cur : Array Value) (h : cur.size = 11) => sc_newS (P := Try.prog) w8 84 SB h1b.out o cur (by rw [hlb]; exact h)
    go_wp2_with fail
    clear S1 S2
    refine bodyPost_ret (v := makerV w8.heap.size (w8.heap.size + 1)) (by simp [results, Try.results55, go_sem, makerV]) rfl ⟨w8.heap.size, w8.heap.size + 1, rfl, HMK.out _ _ _ hA5.out hB6.out, HB9.out⟩
end Go.Proofs.Ytfmfdhcmbnabpaa
