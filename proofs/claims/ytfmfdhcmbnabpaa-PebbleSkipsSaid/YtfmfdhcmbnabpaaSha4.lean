/- sha: Key, Sum, Walk, Hex. -/
import Derived.Test.YtfmfdhcmbnabpaaSha3
import Derived.Test.YtfmfdhcmbnabpaaReg
import Derived.Lib.BufferWrite
namespace Go.Proofs.Ytfmfdhcmbnabpaa
open Go Go.RowKit
set_option linter.unusedVariables false
set_option linter.unusedSimpArgs false
attribute [local go_sem] bmax2 bmin2 bmax bmin cell_ext frozen_ext

/-- a key, as a value -/
def keyV (k : List UInt8) : Value := .agg (cellsU8 k).toArray
theorem info_key : (Try.prog.info? 23).map (·.size) = some 32 := by kernel_rfl

theorem slice_lo (b k : Nat) (hk : k < 8) (W : World) : (Instr.sliceAt 23 (.pointer (some ⟨b, 0, none⟩)) (some (.int .i64 (4 * (k : Int)))) none none).run Try.prog W = .ok (.slice (some ⟨b, 4 * k, none⟩) (32 - 4 * k) (32 - 4 * k)) W := by
  have h1 : (0 : Int) ≤ 4 * (k : Int) := by omega
  have h2 : 4 * (k : Int) ≤ ((32 : Nat) : Int) := by omega
  have h3 : (4 * (k : Int)).toNat = 4 * k := by omega
  have h4 : (Try.prog.info? 5).map (·.size) = some 1 := by kernel_rfl
  have hl : Try.prog.arrayLen 23 = 32 := by kernel_rfl
  have he : Try.prog.elem 23 = 5 := by kernel_rfl
  have hu : Try.prog.underlying 23 = some (.array (Try.prog.arrayLen 23) (Try.prog.elem 23)) := by kernel_rfl
  rw [run_sliceAt_array_l W 23 ⟨b, 0, none⟩ hu .i64 _ h1 (by rw [hl]; exact h2), h3, hl, he]
  cases hq : Try.prog.info? 5 with
  | none => simp [hq] at h4
  | some i =>
    have hs : i.size = 1 := by simpa [hq] using h4
    have e : ¬ 32 = 4 * k := by omega
    simp [sizeOf, typeInfo, hq, hs, slicedAt, addr_add, e]

set_option maxRecDepth 100000 in
theorem copy_put {W : World} {b k : Nat} {T : TypeId} {l : List Nat} {S : ByteArray} (h : Blk W b T (cellsU8 (outP l k ++ List.replicate (32 - 4 * k) 0)).toArray) (hl : l.length = 8) (hk : k < 8) (hS : S = str (putL (l.getD k 0) 4)) : ∃ Y,
    (Builtin.copy_ #[44, 9] 3 #[.slice (some ⟨b, 4 * k, none⟩) (32 - 4 * k) (32 - 4 * k), .string S]).run Try.prog W = .ok (.int .i64 4) Y ∧
      Blk Y b T (cellsU8 (outP l (k + 1) ++ List.replicate (32 - 4 * (k + 1)) 0)).toArray ∧ W.grownBy Y (some b) := by
  have hinfo : (Try.prog.info? 5).map (·.size) = some 1 := by kernel_rfl
  have hz : S.size = 4 := by rw [hS, str_size, length_putL]
  have hol := outP_length l k (by omega)
  have := Lib.run_copy_row_string (P := Try.prog) W 44 9 3 5 b (4 * k) (32 - 4 * k) (32 - 4 * k) S _ T Try.underlying44 hinfo h (by rw [hz]; omega) (by rw [hz]; simp [cellsU8, hol]; omega)
  rw [hz] at this
  refine ⟨_, this, ?_, gbrow _ _ _⟩
  have e : (((cellsU8 (outP l k ++ List.replicate (32 - 4 * k) 0)).toArray.toList.take (4 * k) ++ Lib.byteCells S.data.toList ++ (cellsU8 (outP l k ++ List.replicate (32 - 4 * k) 0)).toArray.toList.drop (4 * k + 4)).toArray) = (cellsU8 (outP l (k + 1) ++ List.replicate (32 - 4 * (k + 1)) 0)).toArray := by
    refine congrArg List.toArray ?_
    show (cellsU8 _).take _ ++ cellsU8 S.data.toList ++ (cellsU8 _).drop _ = _
    unfold cellsU8
    rw [← List.map_take, ← List.map_drop, ← List.map_append, ← List.map_append, outP_succ l k (by omega), hS]
    refine congrArg (List.map _) ?_
    rw [show (str (putL (l.getD k 0) 4)).data.toList = putL (l.getD k 0) 4 from rfl]
    rw [List.take_left' hol, List.drop_append, List.drop_of_length_le (by omega), List.nil_append, List.drop_replicate]
    congr 2; omega
  rw [e]
  exact h.row _

set_option maxHeartbeats 4000000 in
set_option maxRecDepth 100000 in
theorem Key_any (m : List UInt8) (v : V8) (rest : List UInt8) (n : Int) (b : Bool) (hst : (b = true ∧ v = hOf m ∧ rest = restOf m ∧ n = (m.length : Int)) ∨ (b = false ∧ m = [])) (hn : n = (m.length : Int)) (hsz : m.length ≤ 549755813888) (w : World) :
    Calls Try.prog 54 #[stA v (str rest) n b] w fun e w' => e = .returned (keyV (digest m)) ∧ Below w.heap.size w w' := by
  have hMore := More_any m (padB m) v rest n b hst (by rw [padB_length]; unfold gapN; omega)
  have hg1 : 1 ≤ gapN m.length ∧ gapN m.length ≤ 64 := by unfold gapN; omega
  have hg : 64 - (n + 8) % 64 = ((gapN m.length : Nat) : Int) := by rw [hn]; unfold gapN; omega
  have hg2 : ((gapN m.length : Nat) : Int) - 1 = ((gapN m.length - 1 : Nat) : Int) := by omega
  have hn0 : 0 ≤ n := by omega
  have hn1 : n ≤ 549755813888 := by omega
  have hn8 : IntKind.u64.wrap (n * 8) = ((m.length * 8 : Nat) : Int) := by rw [IntWalk.u64_in _ (by omega), hn]; omega
  have hnn : IntKind.u64.wrap n = n := IntWalk.u64_in _ (by omega)
  have hPad : (⟨#[128]⟩ : ByteArray) ++ str (List.replicate (gapN m.length - 1) 0) ++ str (putL (m.length * 8) 8) = str (padB m) := by
    rw [show (⟨#[128]⟩ : ByteArray) = str [128] from rfl, str_append, str_append]; rfl
  have hs1 : (str (List.replicate (gapN m.length - 1) 0)).size ≤ 64 := by rw [str_size, List.length_replicate]; omega
  have hs2 : (str (putL (m.length * 8) 8)).size ≤ 8 := by rw [str_size, length_putL]; omega
  have hs3 : ((⟨#[128]⟩ : ByteArray) ++ str (List.replicate (gapN m.length - 1) 0)).size ≤ 128 := by rw [show (⟨#[128]⟩ : ByteArray) = str [128] from rfl, str_append, str_size, List.length_append, List.length_replicate]; simp; omega
  have hRep := kp (fun w' => repeat_zeros (gapN m.length - 1) w' (by omega) (by omega))
  have hPut := kp (fun w' => octet_Put_mid (m.length * 8) 8 w' (by unfold U64; omega) (by omega) 8 (by decide))
  obtain ⟨g, hgn⟩ : ∃ g, gapN m.length = g := ⟨_, rfl⟩
  rw [hgn] at hg hg2 hPad hs1 hs3 hg1 hRep
  obtain ⟨Z, hZ⟩ : ∃ Z, str (List.replicate (g - 1) 0) = Z := ⟨_, rfl⟩
  obtain ⟨U, hU⟩ : ∃ U, str (putL (m.length * 8) 8) = U := ⟨_, rfl⟩
  rw [hZ] at hPad hs1 hs3 hRep
  rw [hU] at hPad hs2 hPut
  have hok := kp (hOf_ok (m ++ padB m))
  obtain ⟨V, hV⟩ : ∃ V, hOf (m ++ padB m) = V := ⟨_, rfl⟩
  rw [hV] at hMore hok
  have HD : Kp (digest m = outB V) := kp (by rw [← hV]; rfl)
  obtain ⟨CS, hCS⟩ : ∃ CS, stL V (str (restOf (m ++ padB m))) ((m ++ padB m).length : Int) true = CS := ⟨_, rfl⟩
  have hl11 : CS.length = 11 := by rw [← hCS]; rfl
  have h1c : ∀ x ∈ CS, x.oneCell' = true := by rw [← hCS]; exact stL_one _ _ _ _
  unfold stA at hMore
  rw [hCS] at hMore
  unfold stL at hMore
  have HCS := kp hCS
  have H1C := kp h1c
  clear hV hCS h1c
  have HM := kp hMore
  have HN := kp hn
  clear hgn hZ hU hMore hst hn hsz
  unfold stA stL
  go_enter Try.func54, Try.ntmps54
  go_wp2
  have HW0 := kp ((Blk.new w 84 (stL v (str rest) n b).toArray).alloc (.cells (cellsU8 (List.replicate 32 0)).toArray 23))
  have HW1 := kp (Blk.new (w.alloc (.cells (stL v (str rest) n b).toArray 84)) 23 (cellsU8 (List.replicate 32 0)).toArray)
  have HWB := kp (ba (ba (Below.refl w.heap.size w) (.cells (stL v (str rest) n b).toArray 84)) (.cells (cellsU8 (List.replicate 32 0)).toArray 23))
  rw [size_all] at HW1
  change Code.wp _ _ _ _ ((w.alloc (.cells (stL v (str rest) n b).toArray 84)).alloc (.cells (cellsU8 (List.replicate 32 0)).toArray 23))
  generalize ((w.alloc (.cells (stL v (str rest) n b).toArray 84)).alloc (.cells (cellsU8 (List.replicate 32 0)).toArray 23)) = W at HW0 HW1 HWB ⊢
  refine wp_region_mkE [0, 1, 2, 3, 4, 5, 6, 7, 8, 9, 10, 11] [12] [13] 40 (fun _ => VA W.heap.size 84 (stL ⟨0, 0, 0, 0, 0, 0, 0, 0⟩ ⟨#[]⟩ 0 false).toArray) (· ≠ ·) (by kernel_rfl) (by kernel_rfl) rfl (fun i v W W' h hb => h.mono hb) ?_
  apply Exists.intro
  refine ⟨fun X hX => ?_, ?_, ?_⟩
  · skip
    have h0 := HW0.out.bel hX
    obtain ⟨c0, c1, c2, c3, c4, c5, c6, c7, c8, c9, c10⟩ := st_cells h0
    have hlx := h0.lt
    simp only [List.map_cons, List.map_nil, List.getD_cons_succ, List.getD_cons_zero]
    repeat (go_big_quiet_step (first | (go_at_call 59; exact Calls.ext_of (hRep.out _)) | (go_at_call 60; exact Calls.ext_of (hPut.out _)) | (go_at_call 53; exact Calls.ext_of (HM.out _))))
    exact wpQuiet_nil rfl
  · exact ⟨mk_alloc rfl (fun W => by kernel_rfl) (fun j u W h => h.ne), trivial⟩
  · intro ev _
    simp only [List.map_cons, List.map_nil, List.getD_cons_succ, List.getD_cons_zero, TailX]
    rintro X hX ⟨_, b4, rfl, hb4, hk4⟩
    have SC := sc_all (P := Try.prog) (w := X) b4 84 CS _ hk4 hl11 H1C.out
    have HE := kp (hk4.row CS.toArray)
    have hb41 : w.heap.size + 1 < b4 := Nat.lt_of_lt_of_le HW1.out.lt hb4
    have HX1 := kp ((HW1.out.bel hX).rowfar (b := b4) (by omega) CS.toArray)
    have HXB := kp (bsr (bt' HWB.out hX HWB.out.size) (b := b4) (by omega) (bt' HWB.out hX HWB.out.size).size CS.toArray)
    clear hX hk4 hb4 HW0 HW1 HWB hRep hPut HM
    generalize X.setRow b4 CS.toArray = Y at SC HE HX1 HXB
    have HO := kp (Blk.new Y 23 (cellsU8 (outP V.list 0 ++ List.replicate (32 - 4 * 0) 0)).toArray)
    have HE2 := kp (HE.out.alloc (.cells (cellsU8 (outP V.list 0 ++ List.replicate (32 - 4 * 0) 0)).toArray 23))
    have HX2 := kp (HX1.out.alloc (.cells (cellsU8 (outP V.list 0 ++ List.replicate (32 - 4 * 0) 0)).toArray 23))
    have HXB2 := kp (ba (HXB.out) (.cells (cellsU8 (outP V.list 0 ++ List.replicate (32 - 4 * 0) 0)).toArray 23))
    have LD := ld_row (P := Try.prog) (w := Y.alloc (.cells (cellsU8 (outP V.list 0 ++ List.replicate (32 - 4 * 0) 0)).toArray 23)) b4 0 8 82 (c32 V.list) _ Try.underlying82 rfl info_a8 rfl (fun j v hv => by
      rw [Nat.zero_add]
      refine HE2.out.atL ?_
      rw [← HCS.out, show stL V (str (restOf (m ++ padB m))) ((m ++ padB m).length : Int) true = c32 V.list ++ stT (str (restOf (m ++ padB m))) ((m ++ padB m).length : Int) true from rfl, List.getElem?_append_left (List.getElem?_eq_some_iff.1 hv).1]
      exact hv)
    have hyb : b4 < Y.heap.size := HE.out.lt
    go_wp2_with (refine wpL_load rfl 82 _ rfl rfl LD ?_)
    clear SC hl11 H1C HCS hn0 hn1 hn8 hnn hg1 hg2 hg hs3 hs1 hs2 hPad LD HX1 HXB HE HE2
    have hb5 : w.heap.size + 1 < Y.heap.size := by omega
    generalize Y.heap.size = b5 at HO hb5 hyb ⊢
    go_loopw [27] (fun i wr => ∃ k : Nat, k ≤ 8 ∧ i = .int .i64 k ∧ Kp (Blk wr b5 23 (cellsU8 (outP V.list k ++ List.replicate (32 - 4 * k) 0)).toArray) ∧ Kp (Blk wr (w.heap.size + 1) 23 (cellsU8 (List.replicate 32 0)).toArray) ∧ Kp (Below w.heap.size w wr)) (fun i _ => 8 - (intOf i).toNat)
    case atStart => exact ⟨0, by omega, rfl, HO, HX2, HXB2⟩
    case round =>
      obtain ⟨k, hk, rfl, h5, h1, hb⟩ := hrel
      by_cases hlt : k < 8
      · have hlt' : (k : Int) < 8 := by omega
        have i2 : (0 : Int) ≤ (k : Int) := by omega
        have hxl := getD_lt V.list hok.out k
        obtain ⟨x, hx⟩ : ∃ x, V.list.getD k 0 = x := ⟨_, rfl⟩
        have ix : ∀ W : World, (Instr.index 82 (.agg (c32 V.list).toArray) (.int .i64 k)).run Try.prog W = .ok (.int .u32 (x : Int)) W := fun W => by rw [← hx]; exact run_index32 82 65 Try.underlying82 (by kernel_rfl) (by kernel_rfl) rfl k hlt W
        rw [hx] at hxl
        have hwx : IntKind.u64.wrap (x : Int) = (x : Int) := IntWalk.u64_in _ (by have : x < 4294967296 := hxl; omega)
        have hx0 : (0 : Int) ≤ (x : Int) := by omega
        have hx1 : (x : Int) < 4294967296 := by have : x < 4294967296 := hxl; omega
        have hsl := slice_lo b5 k hlt
        have PU := kp (fun w' => octet_Put_mid x 4 w' (by unfold U64; have : x < 4294967296 := hxl; omega) (by omega) 4 (by decide))
        have HXX := kp hx
        clear hx hxl
        obtain ⟨S, hS⟩ : ∃ S, str (putL x 4) = S := ⟨_, rfl⟩
        rw [hS] at PU
        have HS := kp hS
        clear hS
        go_wp2
        refine wp_region_ext [0, 1, 2, 3, 4, 5] [6] (by kernel_rfl) (by kernel_rfl) ?_
        simp only [List.map_cons, List.map_nil, List.getD_cons_succ, List.getD_cons_zero]
        repeat (go_big_quiet_step ((go_at_call 60; exact Calls.ext_of (PU.out _))))
        refine wpQuiet_nil ?_
        rintro z
        obtain ⟨Z, hcp, hZ, hgZ⟩ := copy_put (k := k) (S := S) (h5.out.bel (ext_below wr z)) (l := V.list) rfl hlt (by rw [HXX.out]; exact HS.out.symm)
        have HZ := kp hZ
        have HZ1 := kp ((h1.out.bel (ext_below wr z)).grown hgZ (by intro e; injection e; omega))
        have HZB := kp (bgb (bt' hb.out (ext_below wr z) hb.out.size) hgZ (by omega) (bt' hb.out (ext_below wr z) hb.out.size).size)
        clear hZ hgZ h5 h1 hb
        go_wp2
        go_roundw
        case measure => simp [intOf]; omega
        case rel => exact ⟨k + 1, by omega, by go_num, HZ, HZ1, HZB⟩
      · obtain rfl : k = 8 := by omega
        have HE : Kp (Blk wr b5 23 (cellsU8 (digest m)).toArray) := by
          have := h5.out
          rw [show 32 - 4 * 8 = 0 from rfl, List.replicate_zero, List.append_nil, outP_all, ← HD.out] at this
          exact kp this
        have hdl := digest_length m
        obtain ⟨D, hD⟩ : ∃ D, digest m = D := ⟨_, rfl⟩
        rw [hD] at HE hdl
        have HDD := kp hD
        have hcl : (cellsU8 D).length = 32 := by rw [length_cellsU8, hdl]
        have LD := ld_all (P := Try.prog) (w := wr) b5 32 23 _ (cellsU8 D) _ Try.underlying23 rfl info_key hcl HE.out
        have SC := sc_all (P := Try.prog) (w := wr) (w.heap.size + 1) 23 (cellsU8 D) _ h1.out hcl (cellsU8_one _)
        have HX := kp (h1.out.row (cellsU8 D).toArray)
        have HBX := kp (bsr hb.out (show w.heap.size ≤ w.heap.size + 1 by omega) hb.out.size (cellsU8 D).toArray)
        have HL := kp hcl
        clear hD hdl h5 h1 hb HE HX2 HXB2 HO HD
        generalize hY : wr.setRow (w.heap.size + 1) (cellsU8 D).toArray = Z at SC HX HBX
        clear hY
        go_wp2_with (refine wpL_load rfl 23 _ rfl rfl LD ?_)
        refine bodyPost_ret (v := keyV D) ?_ rfl ⟨by rw [HDD.out], HBX.out⟩
        exact res_all Try.results54 (w.heap.size + 1) 32 _ (cellsU8 D) _ Try.underlying23 rfl info_key HL.out HX.out _ rfl

theorem key_cells (D : List UInt8) (h : D.length = 32) : (cellsU8 D).length = 32 := by rw [length_cellsU8, h]

set_option maxRecDepth 100000 in
theorem Sum_any (t : List UInt8) (ht : t.length ≤ 549755813888) (w : World) :
    Calls Try.prog 48 #[.string (str t)] w fun e w' => e = .returned (keyV (digest t)) ∧ Below w.heap.size w w' := by
  have HM := kp (fun w' => More_any [] t h0V [] 0 true (Or.inl ⟨rfl, rfl, rfl, rfl⟩) (by simp; omega) w')
  have HK := kp (fun w' => Key_any t (hOf t) (restOf t) (t.length : Int) true (Or.inl ⟨rfl, rfl, rfl, rfl⟩) rfl ht w')
  rw [List.nil_append] at HM
  have hcl := key_cells _ (digest_length t)
  obtain ⟨D, hD⟩ : ∃ D, digest t = D := ⟨_, rfl⟩
  rw [hD] at HK hcl
  have HD := kp hD
  clear hD
  unfold keyV at HK
  go_enter Try.func48, Try.ntmps48
  go_wp2_with fail
  refine (New_any _).mono ?_
  rintro e w1 ⟨rfl, hb1⟩
  go_wp2_with fail
  refine (HM.out _).mono ?_
  rintro e w2 ⟨rfl, hb2⟩
  go_wp2_with fail
  refine (HK.out _).mono ?_
  rintro e w3 ⟨rfl, hb3⟩
  have h0 := (((Blk.new w 23 (cellsU8 (List.replicate 32 0)).toArray).bel hb1).bel hb2).bel hb3
  have hb := bt' (bt' (bt' (ba (Below.refl w.heap.size w) _) hb1 (by simp)) hb2 (by have := hb1.size; simp at this; omega)) hb3 (by have := hb1.size; have := hb2.size; simp at *; omega)
  have SC := sc_all (P := Try.prog) (w := w3) w.heap.size 23 (cellsU8 D) _ h0 hcl (cellsU8_one _)
  have HX := kp (h0.row (cellsU8 D).toArray)
  have HBX := kp (bsr hb (Nat.le_refl _) (by have := hb1.size; have := hb2.size; have := hb3.size; simp at *; omega) (cellsU8 D).toArray)
  have HL := kp hcl
  clear h0 hb hb1 hb2 hb3
  generalize hY : w3.setRow w.heap.size (cellsU8 D).toArray = Z at SC HX HBX
  clear hY
  go_wp2
  refine bodyPost_ret (v := keyV D) ?_ rfl ⟨by rw [HD.out], HBX.out⟩
  exact res_all Try.results48 w.heap.size 32 _ (cellsU8 D) _ Try.underlying23 rfl info_key HL.out HX.out _ rfl

set_option maxHeartbeats 1000000 in
set_option maxRecDepth 100000 in
theorem Walk_any (K : List UInt8) (hK : K.length = 32) (n : Int) (N : Nat) (hN : min (max n 0) 4096 = (N : Int)) (w : World) :
    Calls Try.prog 39 #[keyV K, .int .i64 n] w fun e w' => e = .returned (keyV (walkD K N)) ∧ Below w.heap.size w w' := by
  unfold keyV
  have hk0 := key_cells K hK
  have HK := kp hK
  clear hK
  go_enter Try.func39, Try.ntmps39
  go_wp2
  have hN2 : N ≤ 4096 := by omega
  have HN := kp hN
  clear hN
  have h0 := kp ((Blk.new w 23 (cellsU8 (walkD K 0)).toArray).alloc (.cells (cellsU8 (List.replicate 32 0)).toArray 23))
  have h1 := kp (Blk.new (w.alloc (.cells (cellsU8 (walkD K 0)).toArray 23)) 23 (cellsU8 (List.replicate 32 0)).toArray)
  have hb := kp (ba (ba (Below.refl w.heap.size w) (.cells (cellsU8 (walkD K 0)).toArray 23)) (.cells (cellsU8 (List.replicate 32 0)).toArray 23))
  rw [size_all] at h1
  go_loopw [8] (fun i wr => ∃ j : Nat, j ≤ N ∧ i = .int .i64 j ∧ Kp (Blk wr w.heap.size 23 (cellsU8 (walkD K j)).toArray) ∧ Kp (Blk wr (w.heap.size + 1) 23 (cellsU8 (List.replicate 32 0)).toArray) ∧ Kp (Below w.heap.size w wr)) (fun i _ => N - (intOf i).toNat)
  case atStart => exact ⟨0, Nat.zero_le _, rfl, h0, h1, hb⟩
  case round =>
    clear h0 h1 hb
    obtain ⟨j, hj, rfl, h0, h1, hb⟩ := hrel
    have hwl := walkD_length K HK.out j
    by_cases hlt : j < N
    · have hlt' : (j : Int) < (N : Int) := by omega
      have hcv := blk_str (P := Try.prog) 44 (e := 5) (dst := 9) (n := 32) (cap := 32) Try.underlying44 Try.underlying5 Try.underlying9 h0.out hwl
      have SU := kp (fun w' => Sum_any (walkD K j) (by rw [hwl]; omega) w')
      have hdl := digest_length (walkD K j)
      have HS : Kp (walkD K (j + 1) = digest (walkD K j)) := kp rfl
      have HCV := kp hwl
      clear hwl
      obtain ⟨D, hD⟩ : ∃ D, digest (walkD K j) = D := ⟨_, rfl⟩
      rw [hD] at SU hdl HS
      clear hD
      have hcl := key_cells D hdl
      clear hdl
      unfold keyV at SU
      go_wp2_with fail
      refine (SU.out _).mono ?_
      rintro e w1 ⟨rfl, hb1⟩
      have SC := sc_all (P := Try.prog) (w := w1) w.heap.size 23 (cellsU8 D) _ (h0.out.bel hb1) (by rw [hcl, length_cellsU8, HCV.out]) (cellsU8_one _)
      have HX := kp ((h0.out.bel hb1).row (cellsU8 D).toArray)
      have HX1 := kp ((h1.out.bel hb1).rowfar (b := w.heap.size) (by omega) (cellsU8 D).toArray)
      have HBX := kp (bsr (bt' hb.out hb1 hb.out.size) (Nat.le_refl _) (by have := hb1.size; have := hb.out.size; omega) (cellsU8 D).toArray)
      clear h0 h1 hb hb1
      generalize hY : w1.setRow w.heap.size (cellsU8 D).toArray = Z at SC HX HX1 HBX
      clear hY hcv
      go_wp2
      go_roundw
      case measure => simp [intOf]; omega
      case rel => exact ⟨j + 1, by omega, by go_num, by rw [HS.out]; exact HX, HX1, HBX⟩
    · obtain rfl : j = N := by omega
      have hcl := key_cells _ hwl
      obtain ⟨D, hD⟩ : ∃ D, walkD K j = D := ⟨_, rfl⟩
      rw [hD] at h0 hcl
      have HD := kp hD
      have LD := ld_all (P := Try.prog) (w := wr) w.heap.size 32 23 _ (cellsU8 D) _ Try.underlying23 rfl info_key hcl h0.out
      have SC := sc_all (P := Try.prog) (w := wr) (w.heap.size + 1) 23 (cellsU8 D) _ h1.out hcl (cellsU8_one _)
      have HX := kp (h1.out.row (cellsU8 D).toArray)
      have HBX := kp (bsr hb.out (show w.heap.size ≤ w.heap.size + 1 by omega) hb.out.size (cellsU8 D).toArray)
      have HL := kp hcl
      clear hD hwl h0 h1 hb
      generalize hY : wr.setRow (w.heap.size + 1) (cellsU8 D).toArray = Z at SC HX HBX
      clear hY
      go_wp2_with (refine wpL_load rfl 23 _ rfl rfl LD ?_)
      refine bodyPost_ret (v := keyV D) ?_ rfl ⟨by rw [HD.out]; rfl, HBX.out⟩
      exact res_all Try.results39 (w.heap.size + 1) 32 _ (cellsU8 D) _ Try.underlying23 rfl info_key HL.out HX.out _ rfl
end Go.Proofs.Ytfmfdhcmbnabpaa
