/- Texts laid together: Buf7, Iter, Buf8, Sha0, Sha1, Sha2, Sha3. -/
import Derived.Shelf.SlIterI.Nil
import Derived.Shelf.SortM.Plain
import Derived.Shelf.SortM.SortNone
import Derived.Ground.GgzProg
import Derived.Ground.SlgmProg
import Derived.Test.YtmblknknbbdmeaaGreatProg
import Derived.Test.YtmblknknbbdmeaaGreatRcb2
/- buffer: Take of a slot. -/
namespace Go.Proofs.YtmblknknbbdmeaaGreat
open Go Go.RowKit Go.Conc
set_option linter.unusedVariables false
set_option linter.unusedSimpArgs false
attribute [local go_sem] bmax2 bmin2 bmax bmin cell_ext frozen_ext

theorem BF.keepO {w w' : World} {bb gm n : Nat} {F : List (Int × (Nat × Nat))} {B : Bf} (h : BF w bb gm n F B) {row : Option Nat} (hg : w.grownBy w' row) (h1 : some bb ≠ row) (h2 : some gm ≠ row) (h3 : ∀ i c g, fnd F i = some (c, g) → some c ≠ row ∧ some g ≠ row) : BF w' bb gm n F B :=
  ⟨h.blk.grown hg h1, h.im.kept hg h2, h.keys, fun i c g hf => by
    obtain ⟨ts, s, r, m, k1, k2, k3, k4⟩ := h.slot i c g hf
    exact ⟨ts, s, r, m, k1, (hg.block c (Array.getElem?_eq_some_iff.1 k2).1 (h3 i c g hf).1).trans k2, k3, k4.kept hg (h3 i c g hf).2⟩, h.inj, h.sets⟩
theorem BF.lts {w : World} {bb gm n : Nat} {F : List (Int × (Nat × Nat))} {B : Bf} (h : BF w bb gm n F B) : bb < w.heap.size ∧ gm < w.heap.size ∧ ∀ i c g, fnd F i = some (c, g) → c < w.heap.size ∧ g < w.heap.size := ⟨h.blk.lt, h.im.lt, fun i c g hf => by
  obtain ⟨ts, s, r, m, k1, k2, k3, k4⟩ := h.slot i c g hf
  exact ⟨(Array.getElem?_eq_some_iff.1 k2).1, k4.lt⟩⟩
theorem BFr.newO {bb gm : Nat} {F : List (Int × (Nat × Nat))} {w w' w'' : World} {row : Option Nat} (h : BFr bb gm F w w') (hg : w'.grownBy w'' row) (hb : ∀ k, row = some k → w.heap.size ≤ k) : BFr bb gm F w w'' := ⟨hg.os.trans h.os, hg.tape.trans h.tape, hg.output.trans h.output, Nat.le_trans h.size hg.size, fun k hk h1 h2 h3 => (hg.block k (Nat.lt_of_lt_of_le hk h.size) (fun e => by have := hb k e.symm; omega)).trans (h.block k hk h1 h2 h3)⟩
theorem lineV_drop (ts : List (List UInt8)) (j : Nat) (h : j < ts.length) : (lineV (ts.drop j)).extract 1 (lineV (ts.drop j)).size = lineV (ts.drop (j + 1)) := by
  unfold lineV
  rw [← List.drop_drop]
  simp [List.extract_toArray, List.extract_eq_take_drop]
  rw [List.take_of_length_le (by simp; omega)]
theorem lineV_head (ts : List (List UInt8)) (j : Nat) (h : j < ts.length) : (lineV (ts.drop j)).getD 0 undef = .string (str ts[j]) := by
  unfold lineV
  rw [List.drop_eq_getElem_cons h]
  rfl
theorem lineV_pos (ts : List (List UInt8)) (j : Nat) (h : j < ts.length) : 0 < (lineV (ts.drop j)).size := by
  rw [lineV_size, List.length_drop]; omega
/-- how many things are in a line -/
def lineN (w : World) (c : Nat) : Nat := match w.heap[c]? with | some (.chan _ buf _ _ _ _) => buf.size | _ => 0
/-- while a slot is taken: j things are out -/
structure TkI (w : World) (bb gm n : Nat) (F : List (Int × (Nat × Nat))) (B : Bf) (t5 c g : Nat) (ts : List (List UInt8)) (v : Value) (j : Nat) (W : World) : Prop where
  le : j ≤ ts.length
  bf : BF W bb gm n F { B with sz := B.sz - j }
  blk : Blk W t5 181 ([.chan (some c), .map (some g)] : List Value).toArray
  ln : ∃ s r, W.heap[c]? = some (.chan B.each (lineV (ts.drop j)) false s r false)
  own : W.ownsRow (w.heap.size + 1) 9 1 v j (strVals (ts.take j))
  below : w.heap.size + 1 ≤ W.heap.size
def TkA (w : World) (bb gm n : Nat) (F : List (Int × (Nat × Nat))) (B : Bf) (t5 c g : Nat) (ts : List (List UInt8)) (Fr : World → Prop) (a : Act) (W : World) : Prop :=
  ∃ v j y1 y2 y3 y4 y6 y8 y9 y10 y11 y12 y13 y14 y15 y16 y17 y18 y19 y20 y21 y22 y23 y24 y25 y26 y27 y28 y29 y30 y31 y32 y33 y34 y35 y36 y37 y38 y39 y40 y41 y42, a = { tmps := #[.pointer (some ⟨bb, 0, none⟩), y1, y2, y3, y4, .pointer (some ⟨t5, 0, none⟩), y6, v, y8, y9, y10, y11, y12, y13, y14, y15, y16, y17, y18, y19, y20, y21, y22, y23, y24, y25, y26, y27, y28, y29, y30, y31, y32, y33, y34, y35, y36, y37, y38, y39, y40, y41, y42], defers := [] } ∧ TkI w bb gm n F B t5 c g ts v j W ∧ Fr W
def TkM (c : Nat) (a : Act) (W : World) : Nat := lineN W c
set_option maxHeartbeats 4000000 in
set_option maxRecDepth 100000 in
theorem U_Take_some (bb gm n : Nat) (F : List (Int × (Nat × Nat))) (B : Bf) (i : Int) (hi : (kI i).wf = true) (c g : Nat) (hf : fnd F i = some (c, g)) (ts : List (List UInt8)) (htB : fnd B.sl i = some ts) (hlen : ts.length ≤ 1000) (hsz : 0 ≤ B.sz ∧ B.sz < 4611686018427387904) (w : World) (H : BF w bb gm n F B) : Calls Tryz.prog 97 #[.pointer (some ⟨bb, 0, none⟩), .int .i64 i] w fun e w' => ∃ v, e = .returned v ∧ w'.ownsRow (w.heap.size + 1) 9 1 v ts.length (strVals ts) ∧ BF w' bb gm n (del F i) { B with sl := del B.sl i, sz := B.sz - ts.length } ∧ BFr bb gm F w w' := by
  have hl : (Instr.lookup 176 (.map (some gm)) (.int .i64 i) true).run Tryz.prog w = .ok (.tuple #[((fnd F i).map SL.val).getD SL.z, .bool (fnd F i).isSome]) w := H.im.look i hi
  rw [hf] at hl
  obtain ⟨V, hV⟩ : ∃ V : List Value, [Value.chan (some c), Value.map (some g)] = V := ⟨_, rfl⟩
  have hV2 : V.length = 2 := by rw [← hV]; rfl
  have hV1 : ∀ v ∈ V, v.oneCell' = true := by rw [← hV]; exact sl_one _ _ rfl rfl
  replace hl : (Instr.lookup 176 (.map (some gm)) (.int .i64 i) true).run Tryz.prog w = .ok (.tuple #[.agg V.toArray, .bool true]) w := by rw [← hV]; exact hl
  have HV := kp hV
  have HV1 := kp hV1
  clear hV hV1
  have x2 := H.blk.atL (show (bufC B.each B.room gm B.sz B.dr)[2]? = some (.map (some gm)) from rfl)
  have kl := H.blk.lt
  have SC := sc_new (P := Tryz.prog) w 181 V HV1.out #[.chan none, .map none] (by rw [hV2]; rfl)
  have HS := kp (Blk.new w 181 V.toArray)
  have HH := kp (H.bel (ba (Below.refl w.heap.size w) (.cells V.toArray 181)))
  have HB := kp (ba (Below.refl w.heap.size w) (.cells V.toArray 181))
  refine callsN Tryz.func97 rfl ?_
  simp only [Tryz.ntmps97, List.size_toArray, List.length_cons, List.length_nil, Nat.reduceAdd, Nat.reduceSub, Array.replicate_succ,
     Array.replicate_zero, List.push_toArray, List.append_toArray, List.nil_append, List.cons_append]
  refine wpN_seq_plain fun K hK => ?_
  go_wp2
  refine wpN_seq_plain fun K hK => ?_
  go_wp2
  clear SC hl x2 kl
  change wpN _ _ _ _ (w.alloc (.cells V.toArray 181))
  generalize w.alloc (.cells V.toArray 181) = W at HS HH HB ⊢
  refine wpN_seq_plain fun K hK => ?_
  go_wp2
  obtain ⟨ts0, s0, r0, m0, ht0, hc0, hm0, hd0⟩ := HH.out.slot i c g hf
  obtain rfl : ts = ts0 := Option.some.inj (htB.symm.trans ht0)
  have q := HH.out.gm_chan hf
  have qb := HH.out.chan_ne hf HH.out.blk
  have qs := HH.out.chan_ne hf HS.out
  have qgs := HH.out.gm_ne HS.out
  obtain ⟨W3, hdel, him, htn⟩ := HH.out.im.drop i hi 0
  have hdel : (Builtin.delete_ #[176, 3] 0 #[.map (some gm), .int .i64 i]).run Tryz.prog W = .ok (.tuple #[]) W3 := hdel
  have g3 := htn.grown
  have HN := kp (HH.out.gone him g3)
  have hc3 := (g3.block c (Array.getElem?_eq_some_iff.1 hc0).1 (by simpa using Ne.symm q.1)).trans hc0
  have HS3 := kp (HS.out.grown g3 (by simpa using qgs))
  rw [← HV.out] at HS3
  have HG := kp ((BFr.of_bel (bb := bb) (gm := gm) (F := F) HB.out).trans (BFr.of_grown g3 (Or.inr (Or.inl rfl))))
  have hw3 : w.heap.size + 1 ≤ W3.heap.size := Nat.lt_of_lt_of_le HS.out.lt g3.size
  have y2 := HH.out.blk.atL (show (bufC B.each B.room gm B.sz B.dr)[2]? = some (.map (some gm)) from rfl)
  have kb := HH.out.blk.lt
  have hbb : bb < w.heap.size := H.blk.lt
  have hcb : c < w.heap.size := by
    obtain ⟨ts9, s9, r9, m9, _, h9, _⟩ := H.slot i c g hf
    exact (Array.getElem?_eq_some_iff.1 h9).1
  clear him htn hd0 ht0
  refine wpN_seq_plain fun K hK => ?_
  go_wp2
  clear hdel y2 kb HS HH HB g3 hc0
  refine wpN_seq_plain fun K hK => ?_
  go_wp2
  refine wpN_block ?_
  have hlts := H.lts
  have hfr : ∀ j' c' g', fnd (del F i) j' = some (c', g') → c ≠ c' ∧ c ≠ g' := fun j' c' g' hj => by
    obtain ⟨e, hj⟩ := fnd_del hj
    refine ⟨fun e1 => e (H.inj _ _ _ _ _ _ hj hf (Or.inl e1.symm)), ?_⟩
    obtain ⟨t1, s1, r1, m1, _, k2, _, _⟩ := H.slot i c g hf
    obtain ⟨t2, s2, r2, m2, _, _, _, D, ⟨es, cl, hb, _⟩, _⟩ := H.slot j' c' g' hj
    rintro rfl
    rw [hb] at k2; cases k2
  have hdl : ∀ j' c' g', fnd (del F i) j' = some (c', g') → c' < w.heap.size ∧ g' < w.heap.size := fun j' c' g' hj => hlts.2.2 j' c' g' (fnd_del hj).2
  obtain ⟨i0, hi0, hz0, hz1, hz2⟩ := info_parts info_str
  have Hz2 := kp hz2
  have Hz1 := kp hz1
  clear hz2 hz1
  refine wpN_loop (TkA w bb gm n (del F i) { B with sl := del B.sl i } w.heap.size c g ts (fun W => BFr bb gm F w W)) (TkM c) ?h0 ?round
  case h0 => exact ⟨.slice none 0 0, 0, _, _, _, _, _, _, _, _, _, _, _, _, _, _, _, _, _, _, _, _, _, _, _, _, _, _, _, _, _, _, _, _, _, _, _, _, _, _, _, _, rfl, ⟨Nat.zero_le _, by have := HN.out; simpa using this, HS3.out, ⟨s0, r0, hc3⟩, by rw [List.take_zero]; exact World.ownsRow_nil _ _ _ _, hw3⟩, HG.out⟩
  case round =>
    clear HN HS3 hc3 HG hw3
    intro a W0 hI
    obtain ⟨v, j, y1, y2, y3, y4, y6, y8, y9, y10, y11, y12, y13, y14, y15, y16, y17, y18, y19, y20, y21, y22, y23, y24, y25, y26, y27, y28, y29, y30, y31, y32, y33, y34, y35, y36, y37, y38, y39, y40, y41, y42, rfl, hT, hG⟩ := hI
    have v0 := hT.blk.atL (show ([.chan (some c), .map (some g)] : List Value)[0]? = some (.chan (some c)) from rfl)
    have ks := hT.blk.lt
    obtain ⟨s, r, hc⟩ := hT.ln
    by_cases hj : j < ts.length
    · refine wpN_block ?_
      refine wpN_seq_plain fun K hK => ?_
      go_wp2
      refine wpN_seq_k fun K hK => ?_
      refine wpN_selRecv_buf 27 rfl rfl rfl (c := c) rfl hc (lineV_pos ts j hj) ?_
      rw [lineV_drop ts j hj, lineV_head ts j hj]
      clear v0 ks
      have g1 := gbchan W0 c B.each (lineV (ts.drop (j + 1))) false s (r + 1) false
      have hc1 := heap_setChan W0 c B.each (lineV (ts.drop (j + 1))) false s (r + 1) false (Array.getElem?_eq_some_iff.1 hc).1
      have HS2 := kp (hT.blk.grown g1 (by simp; omega))
      have HF2 := kp (hT.bf.keep g1 (by omega) (by exact Ne.symm q.1) hfr)
      have HO2 := kp (hT.own.kept g1 (by
        cases hv : v.ownBlock with
        | none => exact Or.inl rfl
        | some k => exact Or.inr (by have := (hT.own.lt k hv).1; simp; omega)))
      have HG2 := kp (hG.trans (BFr.of_grown g1 (Or.inr (Or.inr ⟨i, c, g, hf, Or.inl rfl⟩))))
      have HM := kp (show lineN W0 c = ts.length - j by unfold lineN; rw [hc]; simp only; rw [lineV_size, List.length_drop])
      have hw2 : w.heap.size + 1 ≤ (W0.setChan c B.each (lineV (ts.drop (j + 1))) false s (r + 1) false).heap.size := Nat.le_trans hT.below g1.size
      clear hT hc g1 hG
      generalize W0.setChan c B.each (lineV (ts.drop (j + 1))) false s (r + 1) false = W2 at hc1 HS2 HF2 HO2 HG2 hw2 ⊢
      obtain ⟨x, hx⟩ : ∃ x : ByteArray, str ts[j] = x := ⟨_, rfl⟩
      rw [hx]
      have HX := kp hx
      clear hx
      go_wp2
      refine wpN_of_wp ?_
      have htl : (strVals (ts.take j)).length = j := by unfold strVals; rw [List.length_map, List.length_take]; omega
      have hcat : strVals (ts.take j) ++ [.string x] = strVals (ts.take (j + 1)) := by
        unfold strVals
        rw [← HX.out, List.take_succ_eq_append_getElem hj, List.map_append]
        rfl
      have HCAT := kp hcat
      clear hcat htl
      go_wp2_with (at_builtin; refine wpList_append_own _ rfl _ _ 74 rfl (w.heap.size + 1) 9 i0 (.string ⟨#[]⟩) 1 16 Tryz.underlying74 hi0 hz0 Hz1.out Hz2.out rfl (by decide) _ _ _ rfl (HO2.out.alloc _) ⟨W2.heap.size, 0, none⟩ 1 1 [.string x] rfl rfl ?c1 ?c2 ?c3 ?c4 ?c5 ?_)
      case c1 => exact cell_one_new _ _ _
      case c2 => simp [Value.oneCell']
      case c3 => unfold maxLen; omega
      case c4 => omega
      case c5 => simp; omega
      intro v' w1 hown' hgrow' _
      have hal := ba (Below.refl W2.heap.size W2) (.cells #[.string x] 9)
      have hob : ∀ k, k < w.heap.size + 1 → some k ≠ v.ownBlock := fun k hk e => by have := (HO2.out.lt k e.symm).1; omega
      have HF3 := kp ((HF2.out.bel hal).keepO hgrow' (hob _ (by omega)) (hob _ (by omega)) (fun i' c' g' h' => ⟨hob _ (by have := (hdl i' c' g' h').1; omega), hob _ (by have := (hdl i' c' g' h').2; omega)⟩))
      have HS3 := kp ((HS2.out.bel hal).grown hgrow' (hob _ (by omega)))
      have hc3 := (hgrow'.block c (by have := (Array.getElem?_eq_some_iff.1 (heap_bel hc1 hal)).1; exact this) (hob _ (by omega))).trans (heap_bel hc1 hal)
      have HG3 := kp ((HG2.out.trans (BFr.of_bel hal)).newO hgrow' (fun k hk => by have := (HO2.out.lt k hk).1; omega))
      have HO3 := kp hown'
      have hw4 : w.heap.size + 1 ≤ w1.heap.size := Nat.le_trans hw2 (Nat.le_trans hal.size hgrow'.size)
      clear hown' hgrow' hal hob HF2 HS2 HO2 HG2 hc1 hw2
      have y3 := HF3.out.blk.atL (show (bufC B.each B.room gm (B.sz - j) B.dr)[3]? = some (.int .i64 (B.sz - j)) from rfl)
      have kb := HF3.out.blk.lt
      have fz := HF3.out.blk.frozen 3
      have hb1 : -4611686018427387904 ≤ B.sz - (j : Int) ∧ B.sz - (j : Int) < 4611686018427387904 := by omega
      have HF4 := kp (HF3.out.set { each := B.each, room := B.room, sl := del B.sl i, sz := B.sz - j - 1, dr := B.dr } 3 (.int .i64 (B.sz - j - 1)) rfl rfl rfl)
      have g5 := gbset w1 bb 3 (.int .i64 (B.sz - j - 1))
      have HS4 := kp (HS3.out.grown g5 (by simp; omega))
      have hc4 := (g5.block c (Array.getElem?_eq_some_iff.1 hc3).1 (by simp; omega)).trans hc3
      have HO4 := kp (HO3.out.kept g5 (by
        cases hv : v'.ownBlock with
        | none => exact Or.inl rfl
        | some k => exact Or.inr (by have := (HO3.out.lt k hv).1; simp; omega)))
      have HG4 := kp (HG3.out.trans (BFr.of_grown g5 (Or.inl rfl)))
      have hw5 : w.heap.size + 1 ≤ (w1.setCell ⟨bb, 3, none⟩ (.int .i64 (B.sz - j - 1))).heap.size := Nat.le_trans hw4 g5.size
      clear g5 HF3 HS3 HO3 HG3 hc3 hw4
      go_wp2
      refine ⟨⟨v', j + 1, _, _, _, _, _, _, _, _, _, _, _, _, _, _, _, _, _, _, _, _, _, _, _, _, _, _, _, _, _, _, _, _, _, _, _, _, _, _, _, _, rfl, ⟨hj, ?_, HS4.out, ⟨s, r + 1, hc4⟩, ?_, hw5⟩, HG4.out⟩, ?_⟩
      · show BF _ _ _ _ _ (Bf.mk B.each B.room (del B.sl i) (B.sz - ((j + 1 : Nat) : Int)) B.dr)
        rw [show B.sz - ((j + 1 : Nat) : Int) = B.sz - (j : Int) - 1 by omega]
        exact HF4.out
      · rw [← HCAT.out]
        exact HO4.out
      · show lineN _ c < lineN W0 c
        rw [HM.out]
        unfold lineN
        rw [hc4]
        simp only
        rw [lineV_size, List.length_drop]
        omega
    · have hjl : j = ts.length := by have := hT.le; omega
      have hcn : W0.heap[c]? = some (.chan B.each #[] false s r false) := by rw [hc, hjl, List.drop_length]; rfl
      refine wpN_block ?_
      refine wpN_seq_plain fun K hK => ?_
      go_wp2
      refine wpN_seq_k fun K hK => ?_
      refine wpN_selRecv_none 27 rfl rfl rfl (c := c) rfl hcn ?_
      have HT := kp hT
      have HGk := kp hG
      have HJ := kp hjl
      clear v0 ks hc hT hG hcn hjl
      go_wp2
      refine wpN_of_wp ?_
      go_wp2
      go_ret
      have ho := HT.out.own
      rw [HJ.out, List.take_length] at ho
      exact ⟨_, rfl, ho, by have := HT.out.bf; rw [HJ.out] at this; exact this, HGk.out⟩
end Go.Proofs.YtmblknknbbdmeaaGreat
/- The contracts of maps.Keys and slices.Sorted at this program, as the kit's tool lays them. -/
namespace Go.Proofs
open Go.Shelf
def Tryz.keysA_ren : Go.Shelf.Ren := ⟨fun | 7 => 126 | 10 => 149 | n => n, fun | 23 => 176 | 26 => 3 | 3 => 181 | 28 => 224 | 0 => 0 | 27 => 223 | 33 => 249 | 4 => 4 | n => n, fun | n => n⟩
theorem Tryz.keysA : Go.Proofs.SlLaysZI.n7 Tryz.prog Tryz.keysA_ren := {
  mixed := by kernel_rfl
  f7 := ⟨Tryz.f126.name, by decide, Tryz.func126.trans (congrArg some (by kernel_rfl))⟩
  f10 := ⟨Tryz.f149.name, by decide, Tryz.func149.trans (congrArg some (by kernel_rfl))⟩
  t0 := Tryz.underlying0
  a0 := Tryz.isAgg0
  z0 := Tryz.sizeOf0
  v0 := Tryz.zeroValue0
  t4 := Tryz.underlying4
  a4 := Tryz.isAgg4
  z4 := Tryz.sizeOf4
  v4 := Tryz.zeroValue4
  t23 := Tryz.underlying176
  a23 := Tryz.isAgg176
  z23 := Tryz.sizeOf176
  v23 := Tryz.zeroValue176
  t26 := Tryz.underlying3
  a26 := Tryz.isAgg3
  z26 := Tryz.sizeOf3
  v26 := Tryz.zeroValue3
  t27 := Tryz.underlying223
  a27 := Tryz.isAgg223
  z27 := Tryz.sizeOf223
  v27 := Tryz.zeroValue223
  t28 := Tryz.underlying224
  a28 := Tryz.isAgg224
  z28 := Tryz.sizeOf224
  v28 := Tryz.zeroValue224
  t33 := Tryz.underlying249
  a33 := Tryz.isAgg249
  z33 := Tryz.sizeOf249
  v33 := Tryz.zeroValue249 }
def Tryz.sortedA_ren : Go.Shelf.Ren := ⟨fun | 6 => 125 | 8 => 147 | 9 => 148 | 11 => 163 | 13 => 165 | 12 => 164 | 23 => 184 | 24 => 185 | 14 => 175 | 15 => 176 | 16 => 177 | 17 => 178 | 18 => 179 | 19 => 180 | 20 => 181 | 21 => 182 | 22 => 183 | 25 => 191 | 26 => 192 | 27 => 193 | 28 => 194 | 29 => 195 | 30 => 196 | 31 => 199 | n => n, fun | 26 => 3 | 28 => 224 | 24 => 184 | 0 => 0 | 3 => 3 | 37 => 229 | 48 => 22 | 50 => 172 | 4 => 4 | 40 => 275 | 39 => 274 | 45 => 280 | 5 => 5 | 9 => 9 | 51 => 290 | 55 => 294 | 57 => 299 | 58 => 95 | 33 => 249 | n => n, fun | n => n⟩
theorem Tryz.sortedA : Go.Proofs.SlLaysZI.n6 Tryz.prog Tryz.sortedA_ren := {
  mixed := by kernel_rfl
  f6 := ⟨Tryz.f125.name, by decide, Tryz.func125.trans (congrArg some (by kernel_rfl))⟩
  f8 := ⟨Tryz.f147.name, by decide, Tryz.func147.trans (congrArg some (by kernel_rfl))⟩
  f11 := ⟨Tryz.f163.name, by decide, Tryz.func163.trans (congrArg some (by kernel_rfl))⟩
  t0 := Tryz.underlying0
  a0 := Tryz.isAgg0
  z0 := Tryz.sizeOf0
  v0 := Tryz.zeroValue0
  t24 := Tryz.underlying184
  a24 := Tryz.isAgg184
  z24 := Tryz.sizeOf184
  v24 := Tryz.zeroValue184
  t26 := Tryz.underlying3
  a26 := Tryz.isAgg3
  z26 := Tryz.sizeOf3
  v26 := Tryz.zeroValue3
  t28 := Tryz.underlying224
  a28 := Tryz.isAgg224
  z28 := Tryz.sizeOf224
  v28 := Tryz.zeroValue224
  i26 := by kernel_rfl }
def Tryz.sortA_ren : Go.Shelf.Ren := ⟨fun | 5 => 148 | 8 => 165 | 7 => 164 | 19 => 184 | 20 => 185 | 10 => 175 | 11 => 176 | 12 => 177 | 13 => 178 | 14 => 179 | 15 => 180 | 16 => 181 | 17 => 182 | 18 => 183 | 30 => 191 | 31 => 192 | 32 => 193 | 33 => 194 | 34 => 195 | 35 => 196 | 40 => 199 | n => n, fun | 23 => 184 | 25 => 3 | 3 => 3 | 32 => 229 | 22 => 184 | 0 => 0 | 44 => 22 | 46 => 172 | 4 => 4 | 36 => 275 | 35 => 274 | 41 => 280 | 5 => 5 | 9 => 9 | 53 => 290 | 57 => 294 | 63 => 299 | 64 => 95 | n => n, fun | n => n⟩
theorem Tryz.sortA : Go.Proofs.SlLaysM.n5 Tryz.prog Tryz.sortA_ren := {
  mixed := by kernel_rfl
  f5 := ⟨Tryz.f148.name, by decide, Tryz.func148.trans (congrArg some (by kernel_rfl))⟩
  f7 := ⟨Tryz.f164.name, by decide, Tryz.func164.trans (congrArg some (by kernel_rfl))⟩
  f8 := Tryz.func165.trans (congrArg some (by kernel_rfl))
  f10 := ⟨Tryz.f175.name, by decide, Tryz.func175.trans (congrArg some (by kernel_rfl))⟩
  f11 := ⟨Tryz.f176.name, by decide, Tryz.func176.trans (congrArg some (by kernel_rfl))⟩
  f12 := ⟨Tryz.f177.name, by decide, Tryz.func177.trans (congrArg some (by kernel_rfl))⟩
  f13 := ⟨Tryz.f178.name, by decide, Tryz.func178.trans (congrArg some (by kernel_rfl))⟩
  f14 := ⟨Tryz.f179.name, by decide, Tryz.func179.trans (congrArg some (by kernel_rfl))⟩
  f15 := ⟨Tryz.f180.name, by decide, Tryz.func180.trans (congrArg some (by kernel_rfl))⟩
  f16 := ⟨Tryz.f181.name, by decide, Tryz.func181.trans (congrArg some (by kernel_rfl))⟩
  f17 := ⟨Tryz.f182.name, by decide, Tryz.func182.trans (congrArg some (by kernel_rfl))⟩
  f18 := ⟨Tryz.f183.name, by decide, Tryz.func183.trans (congrArg some (by kernel_rfl))⟩
  f19 := Tryz.func184.trans (congrArg some (by kernel_rfl))
  f20 := Tryz.func185.trans (congrArg some (by kernel_rfl))
  f30 := ⟨Tryz.f191.name, by decide, Tryz.func191.trans (congrArg some (by kernel_rfl))⟩
  f31 := Tryz.func192.trans (congrArg some (by kernel_rfl))
  f32 := Tryz.func193.trans (congrArg some (by kernel_rfl))
  f33 := ⟨Tryz.f194.name, by decide, Tryz.func194.trans (congrArg some (by kernel_rfl))⟩
  f34 := ⟨Tryz.f195.name, by decide, Tryz.func195.trans (congrArg some (by kernel_rfl))⟩
  f35 := ⟨Tryz.f196.name, by decide, Tryz.func196.trans (congrArg some (by kernel_rfl))⟩
  f40 := ⟨Tryz.f199.name, by decide, Tryz.func199.trans (congrArg some (by kernel_rfl))⟩
  t0 := Tryz.underlying0
  a0 := Tryz.isAgg0
  z0 := Tryz.sizeOf0
  v0 := Tryz.zeroValue0
  t3 := Tryz.underlying3
  a3 := Tryz.isAgg3
  z3 := Tryz.sizeOf3
  v3 := Tryz.zeroValue3
  t4 := Tryz.underlying4
  a4 := Tryz.isAgg4
  z4 := Tryz.sizeOf4
  v4 := Tryz.zeroValue4
  t5 := Tryz.underlying5
  a5 := Tryz.isAgg5
  z5 := Tryz.sizeOf5
  v5 := Tryz.zeroValue5
  t9 := Tryz.underlying9
  a9 := Tryz.isAgg9
  z9 := Tryz.sizeOf9
  v9 := Tryz.zeroValue9
  t22 := Tryz.underlying184
  a22 := Tryz.isAgg184
  z22 := Tryz.sizeOf184
  v22 := Tryz.zeroValue184
  t23 := Tryz.underlying184
  a23 := Tryz.isAgg184
  z23 := Tryz.sizeOf184
  v23 := Tryz.zeroValue184
  t25 := Tryz.underlying3
  a25 := Tryz.isAgg3
  z25 := Tryz.sizeOf3
  v25 := Tryz.zeroValue3
  t32 := Tryz.underlying229
  a32 := Tryz.isAgg229
  z32 := Tryz.sizeOf229
  v32 := Tryz.zeroValue229
  t35 := Tryz.underlying274
  a35 := Tryz.isAgg274
  z35 := Tryz.sizeOf274
  v35 := Tryz.zeroValue274
  t36 := Tryz.underlying275
  a36 := Tryz.isAgg275
  z36 := Tryz.sizeOf275
  v36 := Tryz.zeroValue275
  t41 := Tryz.underlying280
  a41 := Tryz.isAgg280
  z41 := Tryz.sizeOf280
  v41 := Tryz.zeroValue280
  t44 := Tryz.underlying22
  a44 := Tryz.isAgg22
  z44 := Tryz.sizeOf22
  v44 := Tryz.zeroValue22
  t46 := Tryz.underlying172
  a46 := Tryz.isAgg172
  z46 := Tryz.sizeOf172
  v46 := Tryz.zeroValue172
  t53 := Tryz.underlying290
  a53 := Tryz.isAgg290
  z53 := Tryz.sizeOf290
  v53 := Tryz.zeroValue290
  t57 := Tryz.underlying294
  a57 := Tryz.isAgg294
  z57 := Tryz.sizeOf294
  v57 := Tryz.zeroValue294
  t63 := Tryz.underlying299
  a63 := Tryz.isAgg299
  z63 := Tryz.sizeOf299
  v63 := Tryz.zeroValue299
  t64 := Tryz.underlying95
  a64 := Tryz.isAgg95
  z64 := Tryz.sizeOf95
  v64 := Tryz.zeroValue95 }
end Go.Proofs
/- buffer: Intervals. -/
namespace Go.Proofs.YtmblknknbbdmeaaGreat
open Go Go.RowKit Go.Maps Go.Sort Go.Shelf
set_option linter.unusedVariables false
set_option linter.unusedSimpArgs false

theorem sortsA (m : Nat) : AnyZI.SortsIn Tryz.prog Tryz.sortedA_ren Fence.wide m :=
  ⟨fun blk off cap ss W hH hblk hsz => callsIn_wide.2 (AnyM.slices_Sort_int Tryz.sortA blk off cap ss W hH hblk hsz),
   fun p cap W => callsIn_wide.2 (AnyM.slices_Sort_int_none Tryz.sortA p cap W)⟩
/-- the intervals that have something, in order -/
def ivs (B : Bf) : List Int := (B.sl.map (·.1)).mergeSort leI
set_option maxHeartbeats 1000000 in
theorem U_Intervals (bb gm n : Nat) (F : List (Int × (Nat × Nat))) (B : Bf) (hmax : B.sl.length ≤ 1000) (w : World) (H : BF w bb gm n F B) : Calls Tryz.prog 96 #[.pointer (some ⟨bb, 0, none⟩)] w fun e w' => ∃ v, e = .returned v ∧ w'.ownsRow w.heap.size 3 1 v (ivs B).length ((ivs B).map encZ) ∧ Below w.heap.size w w' := by
  obtain ⟨D0, hown, hperm, hsize⟩ := H.im.keys
  have hFl : F.length = B.sl.length := by rw [← List.length_map (f := fun p : Int × (Nat × Nat) => p.1), H.keys, List.length_map]
  have x2 := H.blk.atL (show (bufC B.each B.room gm B.sz B.dr)[2]? = some (.map (some gm)) from rfl)
  have kl := H.blk.lt
  refine (callsIn_wide (n := 6)).1 ?_
  have hbl := hown.lt
  have hseq : SeqGives Fence.wide 2 Tryz.prog 149 #[.pointer (some ⟨w.heap.size, 0, none⟩)] encZ (fun ss => ss.Perm (intKeys D0)) (Maps.size D0) (w.alloc (.cells #[.map (some gm)] 176)) :=
    AnyZI.keys_gives (ρ := Tryz.keysA_ren) { Tryz.keysA with } Fence.wide _ trivial rfl (by omega) w.heap.size gm n D0 _ (by simp) (by simp) (by
      obtain ⟨es, clock, hb, Ft, hs, hD⟩ := hown
      exact ⟨es, clock, (Below.heap_alloc _ _ gm hbl).trans hb, Ft, hs, hD⟩)
  have cK : ∀ mb W, CallsIn Fence.wide 5 Tryz.prog 126 #[.map mb] W fun e w' => e = .returned (.func (.func 149) #[] #[.pointer (some ⟨W.heap.size, 0, none⟩)]) ∧ w' = W.alloc (.cells #[.map mb] 176) := fun mb W => AnyZI.keys_in Tryz.keysA Fence.wide 5 trivial rfl mb W
  have cS := AnyZI.sorted_in Tryz.sortedA Fence.wide 5 trivial trivial trivial trivial rfl (by omega) (sortsA _) (enters_of Tryz.func148 (by kernel_rfl) rfl) 149 #[.pointer (some ⟨w.heap.size, 0, none⟩)] trivial (enters_of Tryz.func149 (by kernel_rfl) rfl) _ _ (by unfold maxLen; omega) (by omega) _ hseq
  change CallsIn _ _ Tryz.prog 125 _ _ _ at cS
  have hfK : Fence.wide.fn 126 := trivial
  have hfS : Fence.wide.fn 125 := trivial
  refine callsIn_of_wp Tryz.func96 rfl trivial ?_ rfl
  simp only [Tryz.ntmps96, List.size_toArray, List.length_cons, List.length_nil, Nat.reduceAdd, Nat.reduceSub, Array.replicate_succ, Array.replicate_zero, List.push_toArray, List.append_toArray, List.nil_append, List.cons_append]
  gi_wp2_with (first
    | (gi_at_call 126; refine (cK _ _).mono ?_; rintro e w' ⟨rfl, rfl⟩)
    | (gi_at_call 125; refine cS.mono ?_; rintro e w' ⟨v, ss, rfl, hS, hrow, hnil, hb⟩))
  go_ret
  have he : ss.mergeSort (fun x y => decide (x ≤ y)) = ivs B := by
    unfold ivs
    rw [← H.keys]
    exact mergeSort_of_perm_i (hS.trans hperm.symm)
  rw [he] at hrow
  have hl : ss.length = (ivs B).length := by rw [← he, List.length_mergeSort]
  rw [hl] at hrow
  exact ⟨v, rfl, ownsRow_base_a hrow (by simp), ((Below.refl _ w).alloc (Nat.le_refl _) _).trans (hb.mono (by simp))⟩
end Go.Proofs.YtmblknknbbdmeaaGreat
/- sha in plain words: numbers and lists, no program in sight. -/
namespace Go.Proofs.YtmblknknbbdmeaaGreat
set_option linter.unusedVariables false
set_option linter.unusedSimpArgs false
open Go Go.RowKit

abbrev M32 : Nat := 4294967296
def rr (n k : Nat) : Nat := leftN n (32 - k)
def sg0 (x : Nat) : Nat := rr x 7 ^^^ rr x 18 ^^^ x / 8
def sg1 (x : Nat) : Nat := rr x 17 ^^^ rr x 19 ^^^ x / 1024
def bg0 (x : Nat) : Nat := rr x 2 ^^^ rr x 13 ^^^ rr x 22
def bg1 (x : Nat) : Nat := rr x 6 ^^^ rr x 11 ^^^ rr x 25
def chN (e f g : Nat) : Nat := (e &&& f) ^^^ ((4294967295 - e) &&& g)
def maN (a b c : Nat) : Nat := (a &&& b) ||| (a &&& c) ||| (b &&& c)

structure V8 where
  (a b c d e f g h : Nat)
def V8.list (v : V8) : List Nat := [v.a, v.b, v.c, v.d, v.e, v.f, v.g, v.h]
def V8.ok (v : V8) : Prop := ∀ x ∈ v.list, x < M32
def t1N (v : V8) (k w : Nat) : Nat := (v.h + bg1 v.e + chN v.e v.f v.g + k + w) % M32
def t2N (v : V8) : Nat := (bg0 v.a + maN v.a v.b v.c) % M32
def rnd (v : V8) (k w : Nat) : V8 := ⟨(t1N v k w + t2N v) % M32, v.a, v.b, v.c, (v.d + t1N v k w) % M32, v.e, v.f, v.g⟩

def kL : List Nat := [
  0x428a2f98, 0x71374491, 0xb5c0fbcf, 0xe9b5dba5, 0x3956c25b, 0x59f111f1, 0x923f82a4, 0xab1c5ed5,
  0xd807aa98, 0x12835b01, 0x243185be, 0x550c7dc3, 0x72be5d74, 0x80deb1fe, 0x9bdc06a7, 0xc19bf174,
  0xe49b69c1, 0xefbe4786, 0x0fc19dc6, 0x240ca1cc, 0x2de92c6f, 0x4a7484aa, 0x5cb0a9dc, 0x76f988da,
  0x983e5152, 0xa831c66d, 0xb00327c8, 0xbf597fc7, 0xc6e00bf3, 0xd5a79147, 0x06ca6351, 0x14292967,
  0x27b70a85, 0x2e1b2138, 0x4d2c6dfc, 0x53380d13, 0x650a7354, 0x766a0abb, 0x81c2c92e, 0x92722c85,
  0xa2bfe8a1, 0xa81a664b, 0xc24b8b70, 0xc76c51a3, 0xd192e819, 0xd6990624, 0xf40e3585, 0x106aa070,
  0x19a4c116, 0x1e376c08, 0x2748774c, 0x34b0bcb5, 0x391c0cb3, 0x4ed8aa4a, 0x5b9cca4f, 0x682e6ff3,
  0x748f82ee, 0x78a5636f, 0x84c87814, 0x8cc70208, 0x90befffa, 0xa4506ceb, 0xbef9a3f7, 0xc67178f2]
def h0V : V8 := ⟨0x6a09e667, 0xbb67ae85, 0x3c6ef372, 0xa54ff53a, 0x510e527f, 0x9b05688c, 0x1f83d9ab, 0x5be0cd19⟩

/-- the first 16 numbers of a block -/
def w16 (p : List UInt8) : Nat → List Nat
  | 0 => []
  | n + 1 => w16 p n ++ [takeN ((p.drop (4 * n)).take 4)]
/-- one number more -/
def nxt (l : List Nat) : Nat := (l.getD (l.length - 16) 0 + l.getD (l.length - 7) 0 + sg0 (l.getD (l.length - 15) 0) + sg1 (l.getD (l.length - 2) 0)) % M32
def more (l : List Nat) : Nat → List Nat
  | 0 => l
  | n + 1 => more l n ++ [nxt (more l n)]
/-- a block's 64 numbers -/
def sched (p : List UInt8) : List Nat := more (w16 p 16) 48
def rounds (w : List Nat) (v : V8) : Nat → V8
  | 0 => v
  | n + 1 => let u := rounds w v n; rnd u (kL.getD n 0) (w.getD n 0)
def addV (x y : V8) : V8 := ⟨(x.a + y.a) % M32, (x.b + y.b) % M32, (x.c + y.c) % M32, (x.d + y.d) % M32, (x.e + y.e) % M32, (x.f + y.f) % M32, (x.g + y.g) % M32, (x.h + y.h) % M32⟩
def press (h : V8) (p : List UInt8) : V8 := addV h (rounds (sched p) h 64)
/-- n blocks -/
def hRun (h : V8) : Nat → List UInt8 → V8
  | 0, _ => h
  | n + 1, l => hRun (press h (l.take 64)) n (l.drop 64)
def hOf (m : List UInt8) : V8 := hRun h0V (m.length / 64) m
def restOf (m : List UInt8) : List UInt8 := m.drop (64 * (m.length / 64))
def gapN (n : Nat) : Nat := 64 - (n + 8) % 64
def padB (m : List UInt8) : List UInt8 := [0x80] ++ List.replicate (gapN m.length - 1) 0 ++ putL (m.length * 8) 8
def outB (v : V8) : List UInt8 := (v.list.map (putL · 4)).flatten
/-- a text's digest: 32 bytes -/
def digest (m : List UInt8) : List UInt8 := outB (hOf (m ++ padB m))
def walkD (k : List UInt8) : Nat → List UInt8
  | 0 => k
  | n + 1 => digest (walkD k n)

theorem leftN_lt (n k : Nat) (h : n < M32) (hk : k < 32) : leftN n k < M32 := leftUp_lt n h k hk
theorem rr_lt (n k : Nat) (h : n < M32) (hk : 1 ≤ k) : rr n k < M32 := leftN_lt n _ h (by omega)
theorem xor_lt32 {a b : Nat} (ha : a < M32) (hb : b < M32) : a ^^^ b < M32 := Nat.xor_lt_two_pow (n := 32) ha hb
theorem or_lt32 {a b : Nat} (ha : a < M32) (hb : b < M32) : a ||| b < M32 := Nat.or_lt_two_pow (n := 32) ha hb
theorem and_lt32 {a b : Nat} (ha : a < M32) : a &&& b < M32 := Nat.lt_of_le_of_lt Nat.and_le_left ha
theorem V8.ok_mk {a b c d e f g h : Nat} (h1 : a < M32) (h2 : b < M32) (h3 : c < M32) (h4 : d < M32) (h5 : e < M32) (h6 : f < M32) (h7 : g < M32) (h8 : h < M32) : (V8.mk a b c d e f g h).ok := by
  intro x hx
  simp only [V8.list, List.mem_cons, List.not_mem_nil, or_false] at hx
  rcases hx with rfl | rfl | rfl | rfl | rfl | rfl | rfl | rfl <;> assumption
theorem V8.ok_iff (v : V8) : v.ok ↔ v.a < M32 ∧ v.b < M32 ∧ v.c < M32 ∧ v.d < M32 ∧ v.e < M32 ∧ v.f < M32 ∧ v.g < M32 ∧ v.h < M32 := by
  constructor
  · intro h
    exact ⟨h _ (by simp [V8.list]), h _ (by simp [V8.list]), h _ (by simp [V8.list]), h _ (by simp [V8.list]), h _ (by simp [V8.list]), h _ (by simp [V8.list]), h _ (by simp [V8.list]), h _ (by simp [V8.list])⟩
  · rintro ⟨h1, h2, h3, h4, h5, h6, h7, h8⟩
    exact V8.ok_mk h1 h2 h3 h4 h5 h6 h7 h8
theorem mod32 (n : Nat) : n % M32 < M32 := Nat.mod_lt _ (by decide)
theorem rnd_ok {v : V8} (h : v.ok) (k w : Nat) : (rnd v k w).ok := by
  obtain ⟨h1, h2, h3, h4, h5, h6, h7, h8⟩ := (V8.ok_iff v).1 h
  exact V8.ok_mk (mod32 _) h1 h2 h3 (mod32 _) h5 h6 h7
theorem rounds_ok {v : V8} (h : v.ok) (w : List Nat) : ∀ n, (rounds w v n).ok
  | 0 => h
  | n + 1 => rnd_ok (rounds_ok h w n) _ _
theorem addV_ok (x y : V8) : (addV x y).ok := V8.ok_mk (mod32 _) (mod32 _) (mod32 _) (mod32 _) (mod32 _) (mod32 _) (mod32 _) (mod32 _)
theorem h0V_ok : h0V.ok := V8.ok_mk (by decide) (by decide) (by decide) (by decide) (by decide) (by decide) (by decide) (by decide)
theorem hRun_ok : ∀ (n : Nat) (h : V8) (l : List UInt8), h.ok → (hRun h n l).ok
  | 0, h, l, hh => hh
  | n + 1, h, l, hh => hRun_ok n _ _ (addV_ok _ _)
theorem hOf_ok (m : List UInt8) : (hOf m).ok := hRun_ok _ _ _ h0V_ok

theorem hRun_add : ∀ (a b : Nat) (h : V8) (l : List UInt8), hRun h (a + b) l = hRun (hRun h a l) b (l.drop (64 * a))
  | 0, b, h, l => by simp [hRun]
  | a + 1, b, h, l => by
    rw [show a + 1 + b = (a + b) + 1 by omega]
    simp only [hRun]
    rw [hRun_add a b, List.drop_drop, show 64 + 64 * a = 64 * (a + 1) by omega]
theorem hRun_app : ∀ (n : Nat) (h : V8) (l t : List UInt8), 64 * n ≤ l.length → hRun h n (l ++ t) = hRun h n l
  | 0, h, l, t, _ => rfl
  | n + 1, h, l, t, hl => by
    simp only [hRun]
    rw [List.take_append_of_le_length (by omega), List.drop_append_of_le_length (by omega)]
    exact hRun_app n _ _ _ (by rw [List.length_drop]; omega)
theorem restOf_length (m : List UInt8) : (restOf m).length = m.length % 64 := by unfold restOf; rw [List.length_drop]; omega
theorem blocks_add (m t : List UInt8) : (m ++ t).length / 64 = m.length / 64 + (restOf m ++ t).length / 64 := by
  rw [List.length_append, List.length_append, restOf_length]; omega
theorem drop_rest (m t : List UInt8) : (m ++ t).drop (64 * (m.length / 64)) = restOf m ++ t := by
  unfold restOf
  rw [List.drop_append_of_le_length (by omega)]
theorem hOf_more (m t : List UInt8) : hRun (hOf m) ((restOf m ++ t).length / 64) (restOf m ++ t) = hOf (m ++ t) := by
  show _ = hRun h0V ((m ++ t).length / 64) (m ++ t)
  rw [blocks_add m t, hRun_add, drop_rest, hRun_app (m.length / 64) h0V m t (by omega)]
  rfl
theorem restOf_more (m t : List UInt8) : (restOf m ++ t).drop (64 * ((restOf m ++ t).length / 64)) = restOf (m ++ t) := by
  rw [← drop_rest, List.drop_drop]
  unfold restOf
  rw [blocks_add, drop_rest]
  congr 1; omega
theorem padB_length (m : List UInt8) : (padB m).length = gapN m.length + 8 := by
  unfold padB gapN
  simp only [List.length_append, List.length_cons, List.length_nil, List.length_replicate, length_putL]
  omega
theorem outB_length (v : V8) : (outB v).length = 32 := by simp [outB, V8.list, length_putL]
theorem digest_length (m : List UInt8) : (digest m).length = 32 := outB_length _

theorem w16_length (p : List UInt8) : ∀ n, (w16 p n).length = n
  | 0 => rfl
  | n + 1 => by simp [w16, w16_length p n]
theorem more_length (l : List Nat) : ∀ n, (more l n).length = l.length + n
  | 0 => rfl
  | n + 1 => by simp [more, more_length l n]; omega
theorem sched_length (p : List UInt8) : (sched p).length = 64 := by unfold sched; rw [more_length, w16_length]
theorem w16_lt (p : List UInt8) : ∀ n, ∀ x ∈ w16 p n, x < M32
  | 0, x, h => by simp [w16] at h
  | n + 1, x, h => by
    simp only [w16, List.mem_append, List.mem_singleton] at h
    rcases h with h | rfl
    · exact w16_lt p n x h
    · refine Nat.lt_of_lt_of_le (takeN_lt _) (Nat.pow_le_pow_right (n := 256) (i := _) (j := 4) (by omega) ?_)
      simp; omega
theorem more_lt (l : List Nat) (hl : ∀ x ∈ l, x < M32) : ∀ n, ∀ x ∈ more l n, x < M32
  | 0, x, h => hl x h
  | n + 1, x, h => by
    simp only [more, List.mem_append, List.mem_singleton] at h
    rcases h with h | rfl
    · exact more_lt l hl n x h
    · exact mod32 _
theorem sched_lt (p : List UInt8) : ∀ x ∈ sched p, x < M32 := more_lt _ (w16_lt p 16) 48
theorem getD_lt (l : List Nat) (hl : ∀ x ∈ l, x < M32) (i : Nat) : l.getD i 0 < M32 := by
  rw [List.getD_eq_getElem?_getD]
  by_cases h : i < l.length
  · rw [List.getElem?_eq_getElem h]; exact hl _ (List.getElem_mem h)
  · rw [List.getElem?_eq_none (by omega)]; decide
theorem kL_lt : ∀ x ∈ kL, x < M32 := by decide
theorem sg0_lt {x : Nat} (h : x < M32) : sg0 x < M32 := xor_lt32 (xor_lt32 (rr_lt _ _ h (by omega)) (rr_lt _ _ h (by omega))) (Nat.lt_of_le_of_lt (Nat.div_le_self _ _) h)
theorem sg1_lt {x : Nat} (h : x < M32) : sg1 x < M32 := xor_lt32 (xor_lt32 (rr_lt _ _ h (by omega)) (rr_lt _ _ h (by omega))) (Nat.lt_of_le_of_lt (Nat.div_le_self _ _) h)
theorem bg0_lt {x : Nat} (h : x < M32) : bg0 x < M32 := xor_lt32 (xor_lt32 (rr_lt _ _ h (by omega)) (rr_lt _ _ h (by omega))) (rr_lt _ _ h (by omega))
theorem bg1_lt {x : Nat} (h : x < M32) : bg1 x < M32 := xor_lt32 (xor_lt32 (rr_lt _ _ h (by omega)) (rr_lt _ _ h (by omega))) (rr_lt _ _ h (by omega))
theorem chN_lt {e f g : Nat} (h : e < M32) : chN e f g < M32 := xor_lt32 (and_lt32 h) (and_lt32 (show 4294967295 - e < 4294967296 by omega))
theorem maN_lt {a b c : Nat} (ha : a < M32) (hb : b < M32) : maN a b c < M32 := or_lt32 (or_lt32 (and_lt32 ha) (and_lt32 ha)) (and_lt32 hb)
/-- xor of the three is their or: the reference's word -/
theorem ma_xor (a b c : Nat) : (a &&& b) ^^^ (a &&& c) ^^^ (b &&& c) = maN a b c := by
  unfold maN
  apply Nat.eq_of_testBit_eq
  intro i
  simp only [Nat.testBit_xor, Nat.testBit_or, Nat.testBit_and]
  cases a.testBit i <;> cases b.testBit i <;> cases c.testBit i <;> rfl
theorem chunks_len (n : Nat) (hn : 1 ≤ n) : ∀ (k : Nat) (l : List UInt8), l.length = n * k → (chunks n l).length = k
  | 0, l, h => by
    have : l = [] := List.eq_nil_of_length_eq_zero (by simpa using h)
    subst this; rfl
  | k + 1, l, h => by
    have hm : n * (k + 1) = n * k + n := Nat.mul_succ n k
    have h0 : l ≠ [] := by intro e; subst e; simp at h; omega
    rw [chunks_cons n hn l h0, List.length_cons, chunks_len n hn k (l.drop n) (by rw [List.length_drop]; omega)]
theorem chunks_nth (n : Nat) (hn : 1 ≤ n) : ∀ (i : Nat) (l : List UInt8) (h : i < (chunks n l).length), (chunks n l)[i] = (l.drop (n * i)).take n
  | i, [], h => by simp [chunks_nil] at h
  | 0, c :: l, h => by simp [chunks_cons n hn (c :: l) (by simp)]
  | i + 1, c :: l, h => by
    have e := chunks_cons n hn (c :: l) (by simp)
    have h' : i < (chunks n ((c :: l).drop n)).length := by rw [e] at h; simpa using h
    have e2 : (chunks n (c :: l))[i + 1]'h = (chunks n ((c :: l).drop n))[i] := by simp [e]
    rw [e2, chunks_nth n hn i _ h', List.drop_drop]
    congr 2
    rw [Nat.mul_succ]; omega
theorem w16_set (p : List UInt8) (k : Nat) (h : k < 64) : (w16 p k ++ List.replicate (64 - k) 0).set k (takeN ((p.drop (4 * k)).take 4)) = w16 p (k + 1) ++ List.replicate (64 - (k + 1)) 0 := by
  rw [List.set_append_right _ _ (by rw [w16_length]; omega), w16_length, Nat.sub_self, show 64 - k = (64 - (k + 1)) + 1 by omega, List.replicate_succ, List.set_cons_zero]
  simp [w16]
theorem more_set (l : List Nat) (k : Nat) (hl : l.length = 16) (h : k < 48) : (more l k ++ List.replicate (48 - k) 0).set (k + 16) (nxt (more l k)) = more l (k + 1) ++ List.replicate (48 - (k + 1)) 0 := by
  rw [List.set_append_right _ _ (by rw [more_length]; omega), more_length, show k + 16 - (l.length + k) = 0 by omega, show 48 - k = (48 - (k + 1)) + 1 by omega, List.replicate_succ, List.set_cons_zero]
  simp [more]
theorem getD_app {l m : List Nat} {i : Nat} (h : i < l.length) : (l ++ m).getD i 0 = l.getD i 0 := by
  rw [List.getD_eq_getElem?_getD, List.getD_eq_getElem?_getD, List.getElem?_append_left h]
theorem not32 (e : Nat) (h : e < M32) : 4294967295 ^^^ e = 4294967295 - e := by
  have h1 : 4294967295 - e = 2 ^ 32 - (e + 1) := by have : e < 4294967296 := h; omega
  rw [h1]
  apply Nat.eq_of_testBit_eq
  intro i
  rw [Nat.testBit_xor, Nat.testBit_two_pow_sub_succ h, show (4294967295 : Nat) = 2 ^ 32 - 1 from rfl, Nat.testBit_two_pow_sub_one]
  by_cases hi : i < 32
  · simp [hi]
  · simp [hi, testBit_far e i h (by omega)]
theorem ch_eq (e f g : Nat) (he : e < M32) (hf : f < M32) (hg : g < M32) :
    bits .xor .u32 (bits .and .u32 (e : Int) (f : Int)) (bits .and .u32 (bits .xor .u32 IntKind.u32.max (e : Int)) (g : Int)) = ((chN e f g : Nat) : Int) := by
  have hm : IntKind.u32.max = ((4294967295 : Nat) : Int) := by decide
  have hn : 4294967295 - e < M32 := show 4294967295 - e < 4294967296 by omega
  rw [hm, u32_xor_nat _ _ (by decide) he, not32 e he, u32_and_nat _ _ he hf, u32_and_nat _ _ hn hg, u32_xor_nat _ _ (and_lt32 he) (and_lt32 hn)]
  rfl
theorem ma_eq (a b c : Nat) (ha : a < M32) (hb : b < M32) (hc : c < M32) :
    bits .or .u32 (bits .or .u32 (bits .and .u32 (a : Int) (b : Int)) (bits .and .u32 (a : Int) (c : Int))) (bits .and .u32 (b : Int) (c : Int)) = ((maN a b c : Nat) : Int) := by
  rw [u32_and_nat _ _ ha hb, u32_and_nat _ _ ha hc, u32_and_nat _ _ hb hc, u32_or_nat _ _ (and_lt32 ha) (and_lt32 ha), u32_or_nat _ _ (or_lt32 (and_lt32 ha) (and_lt32 ha)) (and_lt32 hb)]
  rfl
/-- the first i of s, the rest of l -/
def mixL (s l : List Nat) (i : Nat) : List Nat := s.take i ++ l.drop i
theorem mixL_length (s l : List Nat) (i : Nat) (h : s.length = l.length) (hi : i ≤ l.length) : (mixL s l i).length = l.length := by simp [mixL]; omega
theorem mixL_get (s l : List Nat) (i : Nat) (h : s.length = l.length) (hi : i < l.length) : (mixL s l i).getD i 0 = l.getD i 0 := by
  unfold mixL
  rw [List.getD_eq_getElem?_getD, List.getElem?_append_right (by simp; omega), List.getD_eq_getElem?_getD, List.getElem?_drop]
  congr 2; simp; omega
theorem mixL_set (s l : List Nat) (i : Nat) (h : s.length = l.length) (hi : i < l.length) : (mixL s l i).set i (s.getD i 0) = mixL s l (i + 1) := by
  unfold mixL
  rw [List.set_append_right _ _ (by simp; omega), List.drop_eq_getElem_cons hi, show i - (List.take i s).length = 0 by simp; omega, List.set_cons_zero, List.take_succ_eq_append_getElem (by omega), List.append_assoc]
  simp [List.getD_eq_getElem?_getD, show i < s.length by omega]
theorem mixL_all (s l : List Nat) (h : s.length = l.length) : mixL s l l.length = s := by
  unfold mixL
  rw [List.drop_of_length_le (Nat.le_refl _), List.append_nil, List.take_of_length_le (by omega)]
theorem addV_get (x y : V8) (i : Nat) (hi : i < 8) : (addV x y).list.getD i 0 = (x.list.getD i 0 + y.list.getD i 0) % M32 := by
  match i, hi with
  | 0, _ | 1, _ | 2, _ | 3, _ | 4, _ | 5, _ | 6, _ | 7, _ => rfl
  | i + 8, h => omega
theorem hRun_succ (h : V8) (j : Nat) (l : List UInt8) : hRun h (j + 1) l = press (hRun h j l) ((l.drop (64 * j)).take 64) := by
  rw [hRun_add j 1]; rfl
theorem str_append (a b : List UInt8) : str a ++ str b = str (a ++ b) := by
  apply bs_inj
  rw [bs_str, bs, ByteArray.data_append, Array.toList_append]
  simp [str]
/-- the first k numbers' bytes -/
def outP (l : List Nat) (k : Nat) : List UInt8 := ((l.take k).map (putL · 4)).flatten
theorem outP_length (l : List Nat) : ∀ k, k ≤ l.length → (outP l k).length = 4 * k
  | 0, _ => rfl
  | k + 1, h => by
    have := outP_length l k (by omega)
    unfold outP at *
    rw [List.take_succ_eq_append_getElem (by omega), List.map_append, List.flatten_append, List.length_append, this]
    simp [length_putL]; omega
theorem outP_succ (l : List Nat) (k : Nat) (h : k < l.length) : outP l (k + 1) = outP l k ++ putL (l.getD k 0) 4 := by
  unfold outP
  rw [List.take_succ_eq_append_getElem h, List.map_append, List.flatten_append]
  simp [List.getD_eq_getElem?_getD, h]
theorem outP_all (v : V8) : outP v.list 8 = outB v := rfl
theorem walkD_length (K : List UInt8) (h : K.length = 32) : ∀ n, (walkD K n).length = 32
  | 0 => h
  | n + 1 => digest_length _
theorem walkD_add (K : List UInt8) (a : Nat) : ∀ b, walkD (walkD K a) b = walkD K (a + b)
  | 0 => rfl
  | b + 1 => by simp only [walkD, walkD_add K a b]; rfl
/-- a digit of sixteen -/
def dig16 (n : Nat) : UInt8 := ([48, 49, 50, 51, 52, 53, 54, 55, 56, 57, 97, 98, 99, 100, 101, 102] : List UInt8).getD n 0
def hexL (D : List UInt8) : List UInt8 := D.flatMap fun c => [dig16 (c.toNat / 16), dig16 (c.toNat % 16)]
theorem hexL_snoc (l : List UInt8) (c : UInt8) : hexL (l ++ [c]) = hexL l ++ [dig16 (c.toNat / 16), dig16 (c.toNat % 16)] := by simp [hexL]
theorem hexL_length (l : List UInt8) : (hexL l).length = 2 * l.length := by
  induction l with
  | nil => rfl
  | cons c l ih => simp [hexL] at ih ⊢; omega
theorem u8_and15 (c : Nat) (h : c < 256) : bits .and .u8 (c : Int) 15 = ((c % 16 : Nat) : Int) := by
  have := u8_and_nat c 15 h (by omega)
  rw [show (15 : Nat) = 2 ^ 4 - 1 from rfl, Nat.and_two_pow_sub_one_eq_mod] at this
  exact this
end Go.Proofs.YtmblknknbbdmeaaGreat
/- sha: turned, spread. -/
namespace Go.Proofs.YtmblknknbbdmeaaGreat
open Go Go.RowKit
set_option linter.unusedVariables false
set_option linter.unusedSimpArgs false
attribute [local go_sem] bmax2 bmin2 bmax bmin cell_ext frozen_ext

theorem turned_any (n c x y : Nat) (a b : Int) (w : World) (hn : n < M32) (hc : c < M32) (ha : a = x) (hb : b = y) (hx : 1 ≤ x ∧ x ≤ 31) (hy : 1 ≤ y ∧ y ≤ 31) :
    Calls Tryz.prog 167 #[.int .u32 n, .int .i64 a, .int .i64 b, .int .u32 c] w fun e w' => e = .returned (.int .u32 ((rr n x ^^^ rr n y ^^^ c : Nat))) ∧ ∃ m, w' = w.drewN m := by
  have e1 : (-a) % 32 = ((32 - x : Nat) : Int) := by omega
  have e2 : (-b) % 32 = ((32 - y : Nat) : Int) := by omega
  have l1 := octet_Left_any n (-a)
  have l2 := octet_Left_any n (-b)
  rw [e1] at l1
  rw [e2] at l2
  have L1 := hid l1
  have L2 := hid l2
  have b1 : -31 ≤ a ∧ a ≤ 31 := by omega
  have b2 : -31 ≤ b ∧ b ≤ 31 := by omega
  clear l1 l2 e1 e2 ha hb
  go_enter Tryz.func167, Tryz.ntmps167
  go_wp2_with fail
  refine (L1.out _ hn).mono ?_
  rintro e w' ⟨rfl, m1, rfl⟩
  go_wp2_with fail
  refine (L2.out _ hn).mono ?_
  rintro e w' ⟨rfl, m2, rfl⟩
  go_wp2
  go_ret
  refine ⟨ret_int (k := .u32) ?_, _, rfl⟩
  have f1 := leftN_lt n (32 - x) hn (by omega)
  have f2 := leftN_lt n (32 - y) hn (by omega)
  rw [u32_xor_nat _ _ f1 f2, u32_xor_nat _ _ (xor_lt32 f1 f2) hc]
  rfl

theorem turned_i (n : Nat) (c a b : Int) (w : World) (hn : n < M32) (hc : 0 ≤ c ∧ c < 4294967296) (ha : 1 ≤ a ∧ a ≤ 31) (hb : 1 ≤ b ∧ b ≤ 31) :
    Calls Tryz.prog 167 #[.int .u32 n, .int .i64 a, .int .i64 b, .int .u32 c] w fun e w' => e = .returned (.int .u32 ((rr n a.toNat ^^^ rr n b.toNat ^^^ c.toNat : Nat))) ∧ ∃ m, w' = w.drewN m := by
  obtain ⟨d, rfl⟩ : ∃ d : Nat, c = d := ⟨c.toNat, by omega⟩
  exact turned_any n d a.toNat b.toNat a b w hn (show d < 4294967296 by omega) (by omega) (by omega) (by omega) (by omega)

theorem turned_n (n c : Nat) (a b : Int) (w : World) (hn : n < M32) (hc : c < M32) (ha : 1 ≤ a ∧ a ≤ 31) (hb : 1 ≤ b ∧ b ≤ 31) :
    Calls Tryz.prog 167 #[.int .u32 n, .int .i64 a, .int .i64 b, .int .u32 c] w fun e w' => e = .returned (.int .u32 ((rr n a.toNat ^^^ rr n b.toNat ^^^ c : Nat))) ∧ ∃ m, w' = w.drewN m :=
  turned_any n c a.toNat b.toNat a b w hn hc (by omega) (by omega) (by omega) (by omega)

theorem info_a64 : (Tryz.prog.info? 254).map (·.size) = some 64 := by kernel_rfl
theorem run_index32 {L : List Nat} {n : Nat} (t e : TypeId) (hu : Tryz.prog.underlying t = some (.array n e)) (he : (Tryz.prog.info? e).map (·.size) = some 1) (hua : (match Tryz.prog.underlying e with | some (.struct _) => true | some (.array _ _) => true | none => true | _ => false) = false) (hn : L.length = n) (k : Nat) (hk : k < n) (W : World) :
    (Instr.index t (arr32 L) (.int .i64 k)).run Tryz.prog W = .ok (.int .u32 ((L.getD k 0 : Nat) : Int)) W := by
  cases hq : Tryz.prog.info? e with
  | none => simp [hq] at he
  | some i =>
    have hs : i.size = 1 := by simpa [hq] using he
    have hc := c32_get (l := L) (i := k) (by omega)
    cases hd : Tryz.prog.underlying e with
    | none => rw [hd] at hua; cases hua
    | some d =>
      rw [hd] at hua
      have hagg : (isAgg e).run Tryz.prog W = .ok false W := by
        unfold isAgg
        rw [Sem.run_bind, run_underlying hd W]
        cases d <;> simp_all
      rw [List.getD_eq_getElem?_getD] at hc
      simp [Instr.index, arr32, asIntOf, Sem.run_bind, run_underlying hu W, part, hagg, sizeOf, typeInfo, hq, hs, hk, hc]
theorem spread_facts {W : World} {B k j : Nat} {T : TypeId} {L : List Nat} (hB : Blk W B T (c32 (L ++ List.replicate (48 - k) 0)).toArray) (hL : L.length = k + 16) (hj : k + 16 = j) (hk : k < 48) :
    W.cell? ⟨B, j - 15, none⟩ = some (.int .u32 (L.getD (k + 1) 0 : Nat)) ∧ W.cell? ⟨B, j - 2, none⟩ = some (.int .u32 (L.getD (k + 14) 0 : Nat)) ∧ W.cell? ⟨B, j - 16, none⟩ = some (.int .u32 (L.getD k 0 : Nat)) ∧ W.cell? ⟨B, j - 7, none⟩ = some (.int .u32 (L.getD (k + 9) 0 : Nat)) ∧ (∃ v, W.cell? ⟨B, j, none⟩ = some v) ∧ W.frozen? ⟨B, j, none⟩ = false ∧ B < W.heap.size := by
  have hget : ∀ i, i < k + 16 → W.cell? ⟨B, i, none⟩ = some (.int .u32 ((L.getD i 0 : Nat) : Int)) := fun i hi => by
    rw [← getD_app (m := List.replicate (48 - k) 0) (by rw [hL]; exact hi)]
    exact hB.atL (c32_get (by rw [List.length_append, hL]; omega))
  have hz := hB.atL (i := k + 16) (c32_get (by rw [List.length_append, hL, List.length_replicate]; omega))
  rw [hj] at hz
  rw [show j - 15 = k + 1 by omega, show j - 2 = k + 14 by omega, show j - 16 = k by omega, show j - 7 = k + 9 by omega]
  exact ⟨hget _ (by omega), hget _ (by omega), hget _ (by omega), hget _ (by omega), ⟨_, hz⟩, hB.frozen _, hB.lt⟩

set_option maxHeartbeats 1000000 in
set_option maxRecDepth 100000 in
theorem spread_any (p : List UInt8) (hp : p.length = 64) (w : World) :
    Calls Tryz.prog 166 #[.string (str p)] w fun e w' => e = .returned (arr32 (sched p)) ∧ Below w.heap.size w w' := by
  have hz : (str p).size ≤ 1099511627776 := by rw [str_size]; omega
  have P1 := hid (fun w' => octet_Parts_some (str p) 4 w' (by omega) (by omega) hz)
  go_enter Tryz.func166, Tryz.ntmps166
  go_wp2_with fail
  refine (P1.out _).mono ?_
  rintro e w1 ⟨v, rfl, ho, hb⟩
  have hk := (Blk.new w _ _).bel hb
  have HB := hid ((ba (Below.refl w.heap.size w) _).trans (hb.mono (by simp)))
  obtain ⟨ad, cp, rfl, hc⟩ := Texts.of_own ho
  have hl := chunks_len 4 (by omega) 16 p (by rw [hp])
  have hl2 : (chunks 4 (bs (str p))).length = 16 := hl
  have HC : Hid (∀ i, i < 16 → ∃ g, ad = some ⟨g, 0, none⟩ ∧ g ≠ w.heap.size ∧ w1.cell? ⟨g, i, none⟩ = some (.string (str ((p.drop (4 * i)).take 4)))) := fun i hi => by
    obtain ⟨g, h1, h2, h3⟩ := hc i (by omega)
    subst h1
    refine ⟨g, rfl, ?_, ?_⟩
    · have := (ho.lt g rfl).1
      simp at this; omega
    · rw [h3, chunks_nth 4 (by omega) i _ _]; rfl
  rw [hl2]
  clear ho hc hb hl hl2 hz
  have HK : Hid (Blk w1 w.heap.size 254 (c32 (w16 p 0 ++ List.replicate 64 0)).toArray) := hk
  clear hk
  go_wp2
  go_loopw [13] (fun i wr => ∃ k : Nat, k ≤ 16 ∧ i = .int .i64 k ∧ Hid (Blk wr w.heap.size 254 (c32 (w16 p k ++ List.replicate (64 - k) 0)).toArray) ∧ Hid (w1.grownBy wr (some w.heap.size))) (fun i _ => 16 - (intOf i).toNat)
  case atStart => exact ⟨0, Nat.zero_le _, rfl, HK, World.grownBy.refl _ _⟩
  case round =>
    obtain ⟨k, hk, rfl, hB, hg⟩ := hrel
    by_cases hlt : k < 16
    · obtain ⟨g, rfl, hg1, hg2⟩ := HC.out k hlt
      have hg3 := gbcell hg.out hg2 hg1
      have hlt' : (k : Int) < 16 := by omega
      have i2 : (0 : Int) ≤ (k : Int) := by omega
      have i3 : (k : Int) < 64 := by omega
      have t4 : (str ((p.drop (4 * k)).take 4)).size ≤ 8 := by rw [str_size]; simp; omega
      have T4 := hid (fun w' => octet_Take_any (str ((p.drop (4 * k)).take 4)) w' t4)
      have hle : k < (w16 p k ++ List.replicate (64 - k) 0).length := by rw [List.length_append, w16_length, List.length_replicate]; omega
      have s0 := (hB.out).atL (c32_get hle)
      have s1 := (hB.out).frozen k
      clear hg2 t4
      go_wp2_with fail
      refine (T4.out _).mono ?_
      rintro e w' ⟨rfl, rfl⟩
      go_wp2
      go_roundw
      case measure => simp [intOf]; omega
      case rel =>
        have e1 : (((takeN (bs (str ((p.drop (4 * k)).take 4))) : Nat) : Int) % 4294967296) = ((takeN ((p.drop (4 * k)).take 4) : Nat) : Int) := by
          have h1 := takeN_lt ((p.drop (4 * k)).take 4)
          have h2 : 256 ^ ((p.drop (4 * k)).take 4).length ≤ 256 ^ 4 := Nat.pow_le_pow_right (by omega) (by simp; omega)
          rw [bs_str]
          omega
        refine ⟨k + 1, by omega, by go_num, ?_, gbt hg.out (gbset _ _ _ _)⟩
        have := (hB.out).setL k (.int .u32 (((takeN ((p.drop (4 * k)).take 4) : Nat) : Int)))
        rw [c32_set, w16_set p k (by omega)] at this
        rw [e1]
        exact this
    · obtain rfl : k = 16 := by omega
      have HB2 : Hid (Blk wr w.heap.size 254 (c32 (more (w16 p 16) 0 ++ List.replicate (48 - 0) 0)).toArray) := hB
      have HW := hid (bgb HB.out hg.out (Nat.le_refl _) (HB.out.size))
      clear HB HK HC hB hg P1
      go_wp2
      go_loopw [7] (fun i wx => ∃ k : Nat, k ≤ 48 ∧ i = .int .i64 ((k + 16 : Nat) : Int) ∧ Hid (Blk wx w.heap.size 254 (c32 (more (w16 p 16) k ++ List.replicate (48 - k) 0)).toArray) ∧ Hid (Below w.heap.size w wx)) (fun i _ => 64 - (intOf i).toNat)
      case atStart => exact ⟨0, Nat.zero_le _, rfl, HB2, HW⟩
      case round =>
        obtain ⟨k, hk, rfl, hB, hb⟩ := hrel
        by_cases hlt : k < 48
        · have hL : (more (w16 p 16) k).length = k + 16 := by rw [more_length, w16_length]; omega
          have hL2 : ∀ x ∈ more (w16 p 16) k, x < M32 := more_lt _ (w16_lt p 16) k
          have hL3 : Hid (nxt (more (w16 p 16) k) = ((more (w16 p 16) k).getD k 0 + (more (w16 p 16) k).getD (k + 9) 0 + sg0 ((more (w16 p 16) k).getD (k + 1) 0) + sg1 ((more (w16 p 16) k).getD (k + 14) 0)) % M32) := by
            show _ = _
            unfold nxt
            rw [hL, show k + 16 - 16 = k by omega, show k + 16 - 7 = k + 9 by omega, show k + 16 - 15 = k + 1 by omega, show k + 16 - 2 = k + 14 by omega]
          have hS := more_set (w16 p 16) k (w16_length p 16) hlt
          obtain ⟨L, hLn⟩ : ∃ L, more (w16 p 16) k = L := ⟨_, rfl⟩
          rw [hLn] at hL hL2 hL3 hS hB
          obtain ⟨j, hj⟩ : ∃ j, k + 16 = j := ⟨_, rfl⟩
          rw [hj] at hS ⊢
          have FA := hid (fun W h => spread_facts (W := W) (T := 254) (B := w.heap.size) (L := L) h hL hj hlt)
          have l1 := getD_lt L hL2 (k + 1)
          have l2 := getD_lt L hL2 (k + 14)
          have l3 := getD_lt L hL2 k
          have l4 := getD_lt L hL2 (k + 9)
          generalize hx1 : L.getD (k + 1) 0 = x1 at *
          generalize hx2 : L.getD (k + 14) 0 = x2 at *
          generalize hx3 : L.getD k 0 = x3 at *
          generalize hx4 : L.getD (k + 9) 0 = x4 at *
          have b1 : (16 : Int) ≤ (j : Int) := by omega
          have b2 : (j : Int) < 64 := by omega
          have HS := hid hS
          have HJ := hid hj
          clear hS hx1 hx2 hx3 hx4 hL hL2 hj hLn
          have d1 : 0 ≤ (x1 : Int) / 8 ∧ (x1 : Int) / 8 < 4294967296 := by have : x1 < 4294967296 := l1; omega
          have d2 : 0 ≤ (x2 : Int) / 1024 ∧ (x2 : Int) / 1024 < 4294967296 := by have : x2 < 4294967296 := l2; omega
          have D1 := hid d1
          have D2 := hid d2
          clear d1 d2
          obtain ⟨c1, c2, c3, c4, _, _, _⟩ := FA.out _ hB.out
          go_wp2
          go_quiet (fail)
          have HQ := hid (hB.out.drewN nq)
          have HBQ := hid (bd hb.out nq)
          clear c1 c2 c3 c4 hB hb
          generalize (wr.drewN nq) = W at HQ HBQ ⊢
          obtain ⟨c1, c2, c3, c4, ⟨cv, c5⟩, c6, c7⟩ := FA.out _ HQ.out
          go_wp2
          refine wp_region_ext [0, 1, 2, 3, 4, 5, 6, 7, 8, 9, 10, 11, 12, 13, 14, 15, 16, 17, 18, 19, 20] [21] (by kernel_rfl) (by kernel_rfl) ?_
          simp only [List.map_cons, List.map_nil, List.getD_cons_succ, List.getD_cons_zero]
          repeat (go_big_quiet_step ((go_at_call 167; exact Calls.ext_drew (turned_i _ _ _ _ _ (by assumption) (by first | exact D1.out | exact D2.out) (by decide) (by decide)))))
          refine wpQuiet_nil ?_
          rintro z
          clear c1 c2 c3 c4 c5 c6 c7
          have HZ := hid (HQ.out.bel (ext_below W z))
          have HBZ := hid (bt' HBQ.out (ext_below W z) HBQ.out.size)
          generalize (W.ext z) = Z at HZ HBZ ⊢
          obtain ⟨_, _, _, _, ⟨cv', c5⟩, c6, c7⟩ := FA.out _ HZ.out
          go_wp2
          go_roundw
          case measure => simp [intOf]; omega
          case rel =>
            have hj := HJ.out
            refine ⟨k + 1, by omega, by rw [show k + 1 + 16 = j + 1 by omega]; go_num, ?_, hid (bsc HBZ.out (Nat.le_refl _) _)⟩
            have e : ((x3 : Int) + x4 + ((rr x1 7 ^^^ rr x1 18 ^^^ x1 / 8 : Nat) : Int) + ((rr x2 17 ^^^ rr x2 19 ^^^ x2 / 1024 : Nat) : Int)) % 4294967296 = ((nxt L : Nat) : Int) := by
              rw [hL3.out]
              unfold sg0 sg1
              simp
            rw [e]
            have := HZ.out.setL j (.int .u32 ((nxt L : Nat) : Int))
            rw [c32_set, HS.out] at this
            exact this
        · obtain rfl : k = 48 := by omega
          have HBL : Hid (Blk wr w.heap.size 254 (c32 (sched p)).toArray) := by
            have := hB.out
            rw [show List.replicate (48 - 48) 0 = ([] : List Nat) from rfl, List.append_nil] at this
            exact this
          clear hB
          have hSl := sched_length p
          obtain ⟨S, hS⟩ : ∃ S, sched p = S := ⟨_, rfl⟩
          rw [hS] at HBL hSl
          have HS := hid hS
          clear hS
          have LD := ld_all (P := Tryz.prog) (w := wr) w.heap.size 64 254 _ (c32 S) _ Tryz.underlying254 rfl info_a64 (by rw [length_c32, hSl]) HBL.out
          have ST := sc_same (P := Tryz.prog) (w := wr) w.heap.size 254 (c32 S) HBL.out (c32_one _)
          have hSl2 : (c32 S).length = 64 := by rw [length_c32, hSl]
          have HSl := hid hSl
          clear hSl
          go_wp2_with (refine wpL_load rfl 254 _ rfl rfl LD ?_)
          refine bodyPost_ret (v := arr32 S) ?_ rfl ⟨by rw [HS.out], hb.out⟩
          exact res_all Tryz.results166 w.heap.size 64 _ (c32 S) _ Tryz.underlying254 rfl info_a64 (by rw [length_c32, HSl.out]) HBL.out _ rfl
end Go.Proofs.YtmblknknbbdmeaaGreat
/- sha: through. -/
namespace Go.Proofs.YtmblknknbbdmeaaGreat
open Go Go.RowKit
set_option linter.unusedVariables false
set_option linter.unusedSimpArgs false
attribute [local go_sem] bmax2 bmin2 bmax bmin cell_ext frozen_ext

/-- a state of this shape, as a value -/
def stL (v : V8) (rest : ByteArray) (n : Int) (b : Bool) : List Value := [.int .u32 v.a, .int .u32 v.b, .int .u32 v.c, .int .u32 v.d, .int .u32 v.e, .int .u32 v.f, .int .u32 v.g, .int .u32 v.h, .string rest, .int .i64 n, .bool b]
theorem stL_one (v : V8) (rest : ByteArray) (n : Int) (b : Bool) : ∀ x ∈ stL v rest n b, x.oneCell' = true := by
  intro x hx; simp [stL] at hx; rcases hx with h | h | h | h | h | h | h | h | h | h | h <;> rw [h] <;> rfl
/-- what stands behind a state's numbers -/
def stT (rest : ByteArray) (n : Int) (b : Bool) : List Value := [.string rest, .int .i64 n, .bool b]
def stA (v : V8) (rest : ByteArray) (n : Int) (b : Bool) : Value := .agg (stL v rest n b).toArray
theorem info_st : (Tryz.prog.info? 245).map (·.size) = some 11 := by kernel_rfl
theorem info_a8 : (Tryz.prog.info? 243).map (·.size) = some 8 := by kernel_rfl

def v8L (v : V8) : List Value := [.int .u32 v.a, .int .u32 v.b, .int .u32 v.c, .int .u32 v.d, .int .u32 v.e, .int .u32 v.f, .int .u32 v.g, .int .u32 v.h]
theorem v8_cells {w : World} {B : Nat} {T : TypeId} {v : V8} (h : Blk w B T (v8L v).toArray) : w.cell? ⟨B, 0, none⟩ = some (.int .u32 v.a) ∧ w.cell? ⟨B, 1, none⟩ = some (.int .u32 v.b) ∧ w.cell? ⟨B, 2, none⟩ = some (.int .u32 v.c) ∧ w.cell? ⟨B, 3, none⟩ = some (.int .u32 v.d) ∧
    w.cell? ⟨B, 4, none⟩ = some (.int .u32 v.e) ∧ w.cell? ⟨B, 5, none⟩ = some (.int .u32 v.f) ∧ w.cell? ⟨B, 6, none⟩ = some (.int .u32 v.g) ∧ w.cell? ⟨B, 7, none⟩ = some (.int .u32 v.h) :=
  ⟨h.atL rfl, h.atL rfl, h.atL rfl, h.atL rfl, h.atL rfl, h.atL rfl, h.atL rfl, h.atL rfl⟩

theorem copy_v8 {W : World} {B : Nat} {T : TypeId} {x1 x2 x3 x4 x5 x6 x7 x8 : Nat} (h : Blk W B T (v8L ⟨x1, x2, x3, x4, x5, x6, x7, x8⟩).toArray) : ∃ Y,
    (Builtin.copy_ #[100, 100] 3 #[.slice (some ⟨B, 1, none⟩) 7 7, .slice (some ⟨B, 0, none⟩) 7 8]).run Tryz.prog W = .ok (.int .i64 7) Y ∧
      Blk Y B T (v8L ⟨x1, x1, x2, x3, x4, x5, x6, x7⟩).toArray ∧ W.grownBy Y (some B) := by
  have hinfo : (Tryz.prog.info? 22).map (·.size) = some 1 := by kernel_rfl
  refine ⟨_, ?_, h.row _, gbrow _ _ _⟩
  have := run_copy_rowk (P := Tryz.prog) W 100 100 3 22 B 1 7 7 ⟨B, 0, none⟩ 7 8 1 _ T ((v8L ⟨x1, x2, x3, x4, x5, x6, x7, x8⟩).take 7) Tryz.underlying100 hinfo h rfl (fun j v hj => by
    rw [addr_add, Nat.zero_add, h.cell]
    have hlt := (List.getElem?_eq_some_iff.1 hj).1
    rw [List.getElem?_take] at hj
    split at hj
    · simpa using hj
    · cases hj) (by simp [v8L]) (by intro v hv; simp [v8L] at hv; rcases hv with h | h | h | h | h | h | h <;> rw [h] <;> rfl)
  exact this

set_option maxHeartbeats 1000000 in
set_option maxRecDepth 100000 in
theorem through_any (v : V8) (hv : v.ok) (rest : ByteArray) (n : Int) (b : Bool) (p : List UInt8) (hp : p.length = 64) (kb : Nat) (w : World) (hk : Blk w kb 254 (c32 kL).toArray) :
    Calls Tryz.prog 160 #[stA v rest n b, .string (str p), .pointer (some ⟨kb, 0, none⟩)] w fun e w' => e = .returned (stA (press v p) rest n b) ∧ Below w.heap.size w w' := by
  obtain ⟨a1, a2, a3, a4, a5, a6, a7, a8⟩ := v
  have SP := kp (fun w' => spread_any p hp w')
  obtain ⟨P, hP⟩ : ∃ P, press ⟨a1, a2, a3, a4, a5, a6, a7, a8⟩ p = P := ⟨_, rfl⟩
  rw [hP]
  have HP := kp hP
  have hS1 := sched_length p
  have hS2 := sched_lt p
  obtain ⟨S, hS⟩ : ∃ S, sched p = S := ⟨_, rfl⟩
  rw [hS] at hS1 hS2 SP
  have HS := kp hS
  have HS1 := kp hS1
  have HS2 := kp hS2
  have HK := kp hk
  have HV := kp hv
  have HPL := kp hp
  clear hP hS hS1 hS2 hk hv hp
  unfold stA stL
  go_enter Tryz.func160, Tryz.ntmps160
  go_wp2_with fail
  refine (SP.out _).mono ?_
  rintro e w1 ⟨rfl, hb⟩
  have HK0 : Kp (Blk w1 w.heap.size 245 (stL ⟨a1, a2, a3, a4, a5, a6, a7, a8⟩ rest n b).toArray) := kp ((((Blk.new w _ _).alloc _).alloc _).bel hb)
  have HK1 : Kp (Blk w1 (w.heap.size + 1) 245 (stL ⟨0, 0, 0, 0, 0, 0, 0, 0⟩ ⟨#[]⟩ 0 false).toArray) := by
    have := ((Blk.new (w.alloc _) _ _).alloc _).bel hb
    rw [size_all] at this
    exact kp this
  have HK2 : Kp (Blk w1 (w.heap.size + 2) 243 (v8L (rounds S ⟨a1, a2, a3, a4, a5, a6, a7, a8⟩ 0)).toArray) := by
    have := (Blk.new ((w.alloc _) |>.alloc _) _ _).bel hb
    rw [size_all, size_all] at this
    exact kp this
  have HKK : Kp (Blk w1 kb 254 (c32 kL).toArray) := kp ((((HK.out.alloc _).alloc _).alloc _).bel hb)
  have hkb := HK.out.lt
  have HB := kp ((ba (ba (ba (Below.refl w.heap.size w) _) _) _).trans (hb.mono (by simp only [size_all]; omega)))
  have hs1 := HK2.out.lt
  clear hb HK SP
  go_wp2
  go_loopw [23] (fun i wr => ∃ k : Nat, k ≤ 64 ∧ i = .int .i64 k ∧ Kp (Blk wr (w.heap.size + 2) 243 (v8L (rounds S ⟨a1, a2, a3, a4, a5, a6, a7, a8⟩ k)).toArray) ∧ Kp (w1.grownBy wr (some (w.heap.size + 2)))) (fun i _ => 64 - (intOf i).toNat)
  case atStart => exact ⟨0, Nat.zero_le _, rfl, HK2, kp (World.grownBy.refl _ _)⟩
  case round =>
    obtain ⟨k, hk, rfl, hB, hg⟩ := hrel
    by_cases hlt : k < 64
    · have hlt' : (k : Int) < 64 := by omega
      have i2 : (0 : Int) ≤ (k : Int) := by omega
      have HR : Kp (rounds S ⟨a1, a2, a3, a4, a5, a6, a7, a8⟩ (k + 1) = rnd (rounds S ⟨a1, a2, a3, a4, a5, a6, a7, a8⟩ k) (kL.getD k 0) (S.getD k 0)) := kp rfl
      have hok := rounds_ok HV.out S k
      obtain ⟨V, hV⟩ : ∃ V, rounds S ⟨a1, a2, a3, a4, a5, a6, a7, a8⟩ k = V := ⟨_, rfl⟩
      rw [hV] at hok HR hB
      clear hV
      obtain ⟨x1, x2, x3, x4, x5, x6, x7, x8⟩ := V
      obtain ⟨y1, y2, y3, y4, y5, y6, y7, y8⟩ := (V8.ok_iff _).1 hok
      have Z1 := kp (leftN_lt x5 7 y5 (by omega))
      have Z2 := kp (leftN_lt x1 10 y1 (by omega))
      have Y1 : Kp (x1 < M32) := kp y1
      have Y5 : Kp (x5 < M32) := kp y5
      have HOK := kp hok
      clear y1 y2 y3 y4 y5 y6 y7 y8 hok
      obtain ⟨c0, c1, c2, c3, c4, c5, c6, c7⟩ := v8_cells hB.out
      have hlw := hB.out.lt
      obtain ⟨ss, hss⟩ : ∃ ss, S.getD k 0 = ss := ⟨_, rfl⟩
      have HSL := kp (getD_lt S HS2.out k)
      have ix : ∀ W : World, (Instr.index 254 (arr32 S) (.int .i64 k)).run Tryz.prog W = .ok (.int .u32 (ss : Int)) W := fun W => by rw [← hss]; exact run_index32 254 22 Tryz.underlying254 (by kernel_rfl) (by kernel_rfl) HS1.out k hlt W
      rw [hss] at HR HSL
      clear hss
      simp only at c0 c1 c2 c3 c4 c5 c6 c7
      go_wp2
      go_quiet (fail)
      have HQ := kp (hB.out.drewN nq)
      have HGQ := kp (gbt hg.out (gb (bd (Below.refl _ wr) nq) _))
      clear c0 c1 c2 c3 c4 c5 c6 c7 hB hg ix
      generalize (wr.drewN nq) = W at HQ HGQ ⊢
      obtain ⟨c0, c1, c2, c3, c4, c5, c6, c7⟩ := v8_cells HQ.out
      simp only at c0 c1 c2 c3 c4 c5 c6 c7
      have HKW := kp (HKK.out.grown HGQ.out (by intro e; injection e; omega))
      have ck := HKW.out.atL (i := k) (c32_get (by show k < 64; omega))
      have hkw := HKW.out.lt
      have hbw := HQ.out.lt
      have HKL := kp (getD_lt kL kL_lt k)
      generalize kL.getD k 0 = kk at ck HKL HR
      go_wp2
      refine wp_region_ext [0, 1, 2, 3, 4, 5, 6, 7, 8, 9, 10, 11, 12, 13, 14, 15, 16, 17, 18, 19, 20, 21, 22, 23] [24] (by kernel_rfl) (by kernel_rfl) ?_
      simp only [List.map_cons, List.map_nil, List.getD_cons_succ, List.getD_cons_zero]
      repeat (go_big_quiet_step (first | (go_at_call 167; exact Calls.ext_drew (turned_n _ _ _ _ _ Y5.out Z1.out (by decide) (by decide))) | (go_at_call 168; exact Calls.ext_drew (octet_Left_any _ _ _ Y5.out))))
      refine wpQuiet_nil ?_
      rintro z
      have HZ := kp (HQ.out.bel (ext_below W z))
      have HGZ := kp (gbt HGQ.out (gb (ext_below W z) _))
      clear c0 c1 c2 c3 c4 c5 c6 c7 HQ HGQ ck hkw hbw HKW
      generalize (W.ext z) = Z at HZ HGZ ⊢
      go_wp2_with fail
      refine (octet_Left_any _ _ _ Y1.out).mono ?_
      rintro e w' ⟨rfl, m1, rfl⟩
      go_wp2_with fail
      refine (turned_n _ _ _ _ _ Y1.out Z2.out (by decide) (by decide)).mono ?_
      rintro e w' ⟨rfl, m2, rfl⟩
      go_wp2
      refine wp_region_ext [0, 1] [2] (by kernel_rfl) (by kernel_rfl) ?_
      simp only [List.map_cons, List.map_nil, List.getD_cons_succ, List.getD_cons_zero]
      repeat (go_big_quiet_step (fail))
      refine wpQuiet_nil ?_
      rintro z
      have HX := kp (HZ.out.bel ((bd (Below.refl _ Z) (m1 + m2)).trans ((ext_below _ z).mono (by simp))))
      have HGX := kp (gbt HGZ.out (gb ((bd (Below.refl _ Z) (m1 + m2)).trans ((ext_below _ z).mono (by simp))) (some (w.heap.size + 2))))
      generalize World.ext _ z = X at HX HGX ⊢
      obtain ⟨Y, hcp, hX, hgY⟩ := copy_v8 HX.out
      have HX2 := kp hX
      have HGX2 := kp (gbt HGX.out hgY)
      clear HX HGX hX hgY
      obtain ⟨_, _, _, _, c4, _, _, _⟩ := v8_cells HX2.out
      simp only at c4
      have f4 := HX2.out.frozen 4
      have f0 := HX2.out.frozen 0
      have hyw := HX2.out.lt
      go_wp2
      go_roundw
      case measure => simp [intOf]; omega
      case rel =>
        obtain ⟨y1, y2, y3, y4, y5, y6, y7, y8⟩ := (V8.ok_iff _).1 HOK.out
        refine ⟨k + 1, by omega, by go_num, kp ?_, kp (gbt HGX2.out (gbt (gbset _ _ _ _) (gbset _ _ _ _)))⟩
        rw [ch_eq x5 x6 x7 y5 y6 y7, ma_eq x1 x2 x3 y1 y2 y3, HR.out]
        have e1 : ∀ x : Nat, ((x : Int) + ((x8 : Int) + ((rr x5 6 ^^^ rr x5 11 ^^^ leftN x5 7 : Nat) : Int) + ((chN x5 x6 x7 : Nat) : Int) + (kk : Int) + (ss : Int))) % 4294967296 = (((x + t1N ⟨x1, x2, x3, x4, x5, x6, x7, x8⟩ kk ss) % M32 : Nat) : Int) := fun x => by
          show _ = (((x + (x8 + (rr x5 6 ^^^ rr x5 11 ^^^ leftN x5 7) + chN x5 x6 x7 + kk + ss) % M32) % M32 : Nat) : Int)
          simp
        have e2 : ((x8 : Int) + ((rr x5 6 ^^^ rr x5 11 ^^^ leftN x5 7 : Nat) : Int) + ((chN x5 x6 x7 : Nat) : Int) + (kk : Int) + (ss : Int) + (((rr x1 2 ^^^ rr x1 13 ^^^ leftN x1 10 : Nat) : Int) + ((maN x1 x2 x3 : Nat) : Int))) % 4294967296 = (((t1N ⟨x1, x2, x3, x4, x5, x6, x7, x8⟩ kk ss + t2N ⟨x1, x2, x3, x4, x5, x6, x7, x8⟩) % M32 : Nat) : Int) := by
          show _ = ((((x8 + (rr x5 6 ^^^ rr x5 11 ^^^ leftN x5 7) + chN x5 x6 x7 + kk + ss) % M32 + ((rr x1 2 ^^^ rr x1 13 ^^^ leftN x1 10) + maN x1 x2 x3) % M32) % M32 : Nat) : Int)
          simp
        rw [e1, e2]
        exact (HX2.out.setL 4 _).setL 0 _
    · obtain rfl : k = 64 := by omega
      obtain ⟨F, hF⟩ : ∃ F, rounds S ⟨a1, a2, a3, a4, a5, a6, a7, a8⟩ 64 = F := ⟨_, rfl⟩
      have HPF : Kp (P = addV ⟨a1, a2, a3, a4, a5, a6, a7, a8⟩ F) := kp (by rw [← HP.out, ← hF, ← HS.out]; rfl)
      rw [hF] at hB
      have h0 : Kp (Blk wr w.heap.size 245 (c32 (mixL (addV ⟨a1, a2, a3, a4, a5, a6, a7, a8⟩ F).list (V8.mk a1 a2 a3 a4 a5 a6 a7 a8).list 0) ++ stT rest n b).toArray) := kp (HK0.out.grown hg.out (by intro e; injection e; omega))
      have h1 := kp (HK1.out.grown hg.out (by intro e; injection e; omega))
      have h2 : Kp (Blk wr (w.heap.size + 2) 243 (c32 F.list).toArray) := hB
      have hw := kp (bgb HB.out hg.out (by omega) HB.out.size)
      have hlF : F.list.length = (V8.mk a1 a2 a3 a4 a5 a6 a7 a8).list.length := rfl
      have hbw := h2.out.lt
      clear hB hg HK0 HK1 HK2 HKK HB HP HS HS1 HS2 HV hF HPL hs1
      go_wp2
      go_loopw [92] (fun i wx => ∃ k : Nat, k ≤ 8 ∧ i = .int .i64 k ∧ Kp (Blk wx w.heap.size 245 (c32 (mixL (addV ⟨a1, a2, a3, a4, a5, a6, a7, a8⟩ F).list (V8.mk a1 a2 a3 a4 a5 a6 a7 a8).list k) ++ stT rest n b).toArray) ∧
        Kp (Blk wx (w.heap.size + 1) 245 (stL ⟨0, 0, 0, 0, 0, 0, 0, 0⟩ ⟨#[]⟩ 0 false).toArray) ∧ Kp (Blk wx (w.heap.size + 2) 243 (c32 F.list).toArray) ∧ Kp (Below w.heap.size w wx)) (fun i _ => 8 - (intOf i).toNat)
      case atStart => exact ⟨0, Nat.zero_le _, rfl, h0, h1, h2, hw⟩
      case round =>
        obtain ⟨k, hk, rfl, hb0, hb1, hb2, hbb⟩ := hrel
        by_cases hlt : k < 8
        · have hlt' : (k : Int) < 8 := by omega
          have i2 : (0 : Int) ≤ (k : Int) := by omega
          have hl8 : (V8.mk a1 a2 a3 a4 a5 a6 a7 a8).list.length = 8 := rfl
          have hm8 : ∀ i, i ≤ 8 → (mixL (addV ⟨a1, a2, a3, a4, a5, a6, a7, a8⟩ F).list (V8.mk a1 a2 a3 a4 a5 a6 a7 a8).list i).length = 8 := fun i hi => mixL_length _ _ i rfl hi
          have FA : ∀ W : World, Blk W w.heap.size 245 (c32 (mixL (addV ⟨a1, a2, a3, a4, a5, a6, a7, a8⟩ F).list (V8.mk a1 a2 a3 a4 a5 a6 a7 a8).list k) ++ stT rest n b).toArray → Blk W (w.heap.size + 2) 243 (c32 F.list).toArray →
              W.cell? ⟨w.heap.size, k, none⟩ = some (.int .u32 (((V8.mk a1 a2 a3 a4 a5 a6 a7 a8).list.getD k 0 : Nat) : Int)) ∧ W.cell? ⟨w.heap.size + 2, k, none⟩ = some (.int .u32 ((F.list.getD k 0 : Nat) : Int)) ∧ W.frozen? ⟨w.heap.size, k, none⟩ = false ∧ w.heap.size + 2 < W.heap.size ∧ w.heap.size < W.heap.size := fun W g0 g2 => by
            refine ⟨?_, g2.atL (c32_get hlt), g0.frozen _, g2.lt, g0.lt⟩
            refine g0.atL ?_
            rw [List.getElem?_append_left (by rw [length_c32, hm8 k (by omega)]; exact hlt), c32_get (by rw [hm8 k (by omega)]; exact hlt), mixL_get (addV ⟨a1, a2, a3, a4, a5, a6, a7, a8⟩ F).list (V8.mk a1 a2 a3 a4 a5 a6 a7 a8).list k rfl hlt]
          have hset := mixL_set (addV ⟨a1, a2, a3, a4, a5, a6, a7, a8⟩ F).list (V8.mk a1 a2 a3 a4 a5 a6 a7 a8).list k rfl hlt
          rw [addV_get _ _ k hlt] at hset
          have HFA := kp FA
          have HSET := kp hset
          have HM8 := kp hm8
          clear FA hset hm8 hl8 hlF
          generalize (V8.mk a1 a2 a3 a4 a5 a6 a7 a8).list.getD k 0 = x at HFA HSET
          generalize F.list.getD k 0 = y at HFA HSET
          obtain ⟨c1, c2, c3, c4, c5⟩ := HFA.out _ hb0.out hb2.out
          go_wp2
          refine wp_region_ext [0, 1, 2, 3, 4, 5, 6, 7, 8, 9] [10] (by kernel_rfl) (by kernel_rfl) ?_
          simp only [List.map_cons, List.map_nil, List.getD_cons_succ, List.getD_cons_zero]
          repeat (go_big_quiet_step (fail))
          refine wpQuiet_nil ?_
          rintro z
          have hz0 := kp (hb0.out.bel (ext_below wr z))
          have hz1 := kp (hb1.out.bel (ext_below wr z))
          have hz2 := kp (hb2.out.bel (ext_below wr z))
          have hzb := kp (bt' hbb.out (ext_below wr z) hbb.out.size)
          clear c1 c2 c3 c4 c5 hb0 hb1 hb2 hbb
          generalize (wr.ext z) = Z at hz0 hz1 hz2 hzb ⊢
          obtain ⟨c1, c2, c3, c4, c5⟩ := HFA.out _ hz0.out hz2.out
          go_wp2
          go_roundw
          case measure => simp [intOf]; omega
          case rel =>
            refine ⟨k + 1, by omega, by go_num, kp ?_, kp (hz1.out.far (by simp) _), kp (hz2.out.far (by simp) _), kp (bsc hzb.out (Nat.le_refl _) _)⟩
            have := hz0.out.setL k (.int .u32 (((x + y) % M32 : Nat) : Int))
            rw [List.set_append_left _ _ (by rw [length_c32, HM8.out k (by omega)]; exact hlt), c32_set, HSET.out] at this
            have e : ((x : Int) + (y : Int)) % 4294967296 = (((x + y) % M32 : Nat) : Int) := by simp
            rw [e]
            exact this
        · obtain rfl : k = 8 := by omega
          have HE : Kp (Blk wr w.heap.size 245 (stL P rest n b).toArray) := by
            have := hb0.out
            rw [show mixL (addV ⟨a1, a2, a3, a4, a5, a6, a7, a8⟩ F).list (V8.mk a1 a2 a3 a4 a5 a6 a7 a8).list 8 = (addV ⟨a1, a2, a3, a4, a5, a6, a7, a8⟩ F).list from mixL_all _ (V8.mk a1 a2 a3 a4 a5 a6 a7 a8).list rfl] at this
            rw [HPF.out]
            exact kp this
          have hL11 : (stL P rest n b).length = 11 := rfl
          have h1c := stL_one P rest n b
          obtain ⟨CS, hCS⟩ : ∃ CS, stL P rest n b = CS := ⟨_, rfl⟩
          rw [hCS] at HE hL11 h1c
          have HCS := kp hCS
          have LD := ld_all (P := Tryz.prog) (w := wr) w.heap.size 11 245 _ CS _ Tryz.underlying245 rfl info_st hL11 HE.out
          have SC := sc_all (P := Tryz.prog) (w := wr) (w.heap.size + 1) 245 CS (stL ⟨0, 0, 0, 0, 0, 0, 0, 0⟩ ⟨#[]⟩ 0 false) hb1.out hL11 h1c
          have HX := kp (hb1.out.row CS.toArray)
          have HBX := kp (bsr hbb.out (show w.heap.size ≤ w.heap.size + 1 by omega) hbb.out.size CS.toArray)
          have HL := kp hL11
          clear hCS h1c hb0 hb1 hb2 hbb HPF h0 h1 h2 hw hbw hlF
          generalize hX : wr.setRow (w.heap.size + 1) CS.toArray = X at SC HX HBX
          clear hX
          go_wp2_with (refine wpL_load rfl 245 _ rfl rfl LD ?_)
          refine bodyPost_ret (v := .agg CS.toArray) ?_ rfl ⟨by rw [← HCS.out]; rfl, HBX.out⟩
          exact res_all Tryz.results160 (w.heap.size + 1) 11 _ CS _ Tryz.underlying245 rfl info_st HL.out HX.out _ rfl
end Go.Proofs.YtmblknknbbdmeaaGreat
/- sha: New, constants, More, Size, Key, Sum, Walk, Hex. -/
namespace Go.Proofs.YtmblknknbbdmeaaGreat
open Go Go.RowKit
set_option linter.unusedVariables false
set_option linter.unusedSimpArgs false
attribute [local go_sem] bmax2 bmin2 bmax bmin cell_ext frozen_ext

theorem New_any (w : World) : Calls Tryz.prog 144 #[] w fun e w' => e = .returned (stA h0V (str []) 0 true) ∧ Below w.heap.size w w' := by
  go_enter Tryz.func144, Tryz.ntmps144
  go_wp2
  exact bodyPost_ret (v := stA h0V (str []) 0 true) (by simp [results, Tryz.results144, go_sem, stA, stL, h0V, str]) rfl ⟨rfl, ba (Below.refl _ _) _⟩
set_option maxRecDepth 100000 in
theorem constants_any (w : World) : Calls Tryz.prog 159 #[] w fun e w' => e = .returned (arr32 kL) ∧ Below w.heap.size w w' := by
  go_enter Tryz.func159, Tryz.ntmps159
  have SC := fun (cur : Array Value) (h : cur.size = 64) => sc_new (P := Tryz.prog) w 254 (c32 kL) (c32_one _) cur h
  have hl : (c32 kL).length = 64 := rfl
  go_wp2_with (refine wpL_val 1 rfl rfl (.agg (c32 kL).toArray) (by kernel_rfl) ?_)
  refine bodyPost_ret (v := arr32 kL) ?_ rfl ⟨rfl, ba (Below.refl _ _) _⟩
  exact res_all Tryz.results159 w.heap.size 64 _ (c32 kL) _ Tryz.underlying254 rfl info_a64 rfl (Blk.new w _ _) _ rfl
theorem Clone_any (s : ByteArray) (w : World) (hs : s.size ≤ 281474976710656) : Calls Tryz.prog 161 #[.string s] w fun e w' => e = .returned (.string s) ∧ Below w.heap.size w w' := by
  have C := kp (fun w => Tryz.stringslite_Clone s w hs)
  go_enter Tryz.func161, Tryz.ntmps161
  go_wp2_with fail
  refine (C.out _).mono ?_
  rintro e w1 ⟨rfl, hb⟩
  go_wp2
  go_ret
  exact ⟨rfl, hb⟩

theorem st_cells {W : World} {B : Nat} {T : TypeId} {v : V8} {R : ByteArray} {n : Int} {b : Bool} (h : Blk W B T (stL v R n b).toArray) : W.cell? ⟨B, 0, none⟩ = some (.int .u32 v.a) ∧ W.cell? ⟨B, 1, none⟩ = some (.int .u32 v.b) ∧ W.cell? ⟨B, 2, none⟩ = some (.int .u32 v.c) ∧ W.cell? ⟨B, 3, none⟩ = some (.int .u32 v.d) ∧
    W.cell? ⟨B, 4, none⟩ = some (.int .u32 v.e) ∧ W.cell? ⟨B, 5, none⟩ = some (.int .u32 v.f) ∧ W.cell? ⟨B, 6, none⟩ = some (.int .u32 v.g) ∧ W.cell? ⟨B, 7, none⟩ = some (.int .u32 v.h) ∧ W.cell? ⟨B, 8, none⟩ = some (.string R) ∧ W.cell? ⟨B, 9, none⟩ = some (.int .i64 n) ∧ W.cell? ⟨B, 10, none⟩ = some (.bool b) :=
  ⟨h.atL rfl, h.atL rfl, h.atL rfl, h.atL rfl, h.atL rfl, h.atL rfl, h.atL rfl, h.atL rfl, h.atL rfl, h.atL rfl, h.atL rfl⟩

set_option maxHeartbeats 4000000 in
set_option maxRecDepth 100000 in
theorem More_any (m t : List UInt8) (v : V8) (rest : List UInt8) (n : Int) (b : Bool) (hst : (b = true ∧ v = hOf m ∧ rest = restOf m ∧ n = (m.length : Int)) ∨ (b = false ∧ m = [])) (hsz : m.length + t.length ≤ 1099511627776) (w : World) :
    Calls Tryz.prog 145 #[stA v (str rest) n b, .string (str t)] w fun e w' => e = .returned (stA (hOf (m ++ t)) (str (restOf (m ++ t))) ((m ++ t).length : Int) true) ∧ Below w.heap.size w w' := by
  have hts : (str t).size ≤ 1099511627776 := by rw [str_size]; omega
  have hrs : (str (restOf m)).size ≤ 64 := by rw [str_size, restOf_length]; omega
  have hA : str (restOf m) ++ str t = str (restOf m ++ t) := str_append _ _
  have hAl : (restOf m ++ t).length ≤ 1099511627840 := by rw [List.length_append, restOf_length]; omega
  have hNl : (m.length : Int) + ((str t).size : Int) = ((m ++ t).length : Int) := by rw [str_size, List.length_append]; omega
  have hN1 : (0 : Int) ≤ (m.length : Int) := by omega
  have hN2 : (m.length : Int) ≤ 1099511627776 := by omega
  have hmore := kp (hOf_more m t)
  have hmore2 := kp (restOf_more m t)
  have hok := kp (hOf_ok m)
  have h00 := kp (show m = [] → hOf m = h0V ∧ restOf m = [] ∧ (m.length : Int) = 0 from fun h => by subst h; exact ⟨rfl, rfl, rfl⟩)
  have hm0 : Kp (b = false → m = []) := kp (fun hb => hst.elim (fun h => by rw [hb] at h; cases h.1) (fun h => h.2))
  have hst2 : b = true → v = hOf m ∧ rest = restOf m ∧ n = (m.length : Int) := fun hb => hst.elim (fun h => h.2) (fun h => by rw [hb] at h; cases h.1)
  clear hst
  obtain ⟨V, hV⟩ : ∃ V, hOf m = V := ⟨_, rfl⟩
  obtain ⟨R, hR⟩ : ∃ R, restOf m = R := ⟨_, rfl⟩
  obtain ⟨N, hN⟩ : ∃ N, (m.length : Int) = N := ⟨_, rfl⟩
  obtain ⟨V', hV'⟩ : ∃ V', hOf (m ++ t) = V' := ⟨_, rfl⟩
  obtain ⟨R', hR'⟩ : ∃ R', restOf (m ++ t) = R' := ⟨_, rfl⟩
  obtain ⟨N', hN'⟩ : ∃ N', ((m ++ t).length : Int) = N' := ⟨_, rfl⟩
  rw [hV] at hst2 hok h00 hmore
  rw [hR] at hst2 hrs hA hAl h00 hmore hmore2
  rw [hN] at hst2 hNl h00 hN1 hN2
  rw [hV'] at hmore ⊢
  rw [hR'] at hmore2 ⊢
  rw [hN'] at hNl ⊢
  clear hV hR hN hV' hR' hN' hsz
  obtain ⟨T, hT⟩ : ∃ T, str t = T := ⟨_, rfl⟩
  rw [hT] at hts hA hNl ⊢
  clear hT
  obtain ⟨all, hall⟩ : ∃ all, R ++ t = all := ⟨_, rfl⟩
  rw [hall] at hA hAl hmore hmore2
  clear hall
  have pre : ∀ K : Prop, True := fun _ => trivial
  cases b
  case' false =>
    obtain ⟨rfl, rfl, rfl⟩ := h00.out (hm0.out rfl)
    clear hst2 hm0 h00 hok
    unfold stA stL
    go_enter Tryz.func145, Tryz.ntmps145
    go_wp2_with fail
    obtain ⟨CS, hCS⟩ : ∃ CS, stL h0V (str []) 0 true = CS := ⟨_, rfl⟩
    have NW := New_any
    unfold stA at NW
    rw [hCS] at NW
    refine (NW _).mono ?_
    rintro e w1 ⟨rfl, hb⟩
    have K0 := ((Blk.new w 245 (stL v (str rest) n false).toArray).alloc _).bel hb
    have K1 := (Blk.new (w.alloc _) 245 (stL ⟨0, 0, 0, 0, 0, 0, 0, 0⟩ ⟨#[]⟩ 0 false).toArray).bel hb
    rw [size_all] at K1
    have hl11 : CS.length = 11 := by rw [← hCS]; rfl
    have h1c : ∀ x ∈ CS, x.oneCell' = true := by rw [← hCS]; exact stL_one _ _ _ _
    have SC := sc_all (P := Tryz.prog) (w := w1) w.heap.size 245 CS _ K0 hl11 h1c
    have HB := kp (bsr ((ba (ba (Below.refl w.heap.size w) _) _).trans (hb.mono (by simp only [size_all]; omega))) (Nat.le_refl w.heap.size) (by have := hb.size; simp only [size_all] at this; omega) CS.toArray)
    have X0 := K0.row CS.toArray
    have X1 := K1.rowfar (b := w.heap.size) (by omega) CS.toArray
    have c8 : (w1.setRow w.heap.size CS.toArray).cell? ⟨w.heap.size, 8, none⟩ = some (.string (str [])) := X0.atL (by rw [← hCS]; rfl)
    have c9 : (w1.setRow w.heap.size CS.toArray).cell? ⟨w.heap.size, 9, none⟩ = some (.int .i64 0) := X0.atL (by rw [← hCS]; rfl)
    have f9 := X0.frozen 9
    have HX0 := kp X0
    have HX1 := kp X1
    have HCS := kp hCS
    clear NW hb K0 K1 X0 X1 h1c hCS
    generalize hX : w1.setRow w.heap.size CS.toArray = X at SC HB HX0 HX1 c8 c9 f9
    clear hX
    go_wp2_with fail
    have HY0 : Kp (Blk (X.setCell ⟨w.heap.size, 9, none⟩ (.int .i64 N')) w.heap.size 245 (stL h0V (str []) N' true).toArray) := kp (by
      have := HX0.out.setL 9 (.int .i64 N')
      rw [← HCS.out] at this
      exact this)
    have HY1 := kp (HX1.out.far (p := ⟨w.heap.size, 9, none⟩) (by simp) (.int .i64 N'))
    have HBY := kp (bsc HB.out (p := ⟨w.heap.size, 9, none⟩) (Nat.le_refl _) (.int .i64 N'))
    have hok := kp h0V_ok
    clear SC HB HX0 HX1 c8 c9 f9 HCS hl11
    generalize (X.setCell ⟨w.heap.size, 9, none⟩ (.int .i64 N')) = W at HY0 HY1 HBY ⊢
    obtain ⟨V, hV⟩ : ∃ V, h0V = V := ⟨_, rfl⟩
    obtain ⟨RR, hRR⟩ : ∃ RR, str [] = RR := ⟨_, rfl⟩
    rw [hV] at HY0 hok hmore
    rw [hRR] at HY0
    clear hV hRR
  case' true =>
    obtain ⟨rfl, rfl, rfl⟩ := hst2 rfl
    clear hst2 hm0 h00
    unfold stA stL
    go_enter Tryz.func145, Tryz.ntmps145
    go_wp2_with fail
    have HY0 := kp ((Blk.new w 245 (stL v (str rest) N' true).toArray).alloc (.cells (stL ⟨0, 0, 0, 0, 0, 0, 0, 0⟩ ⟨#[]⟩ 0 false).toArray 245))
    have HY1 := kp (Blk.new (w.alloc (.cells (stL v (str rest) N' true).toArray 245)) 245 (stL ⟨0, 0, 0, 0, 0, 0, 0, 0⟩ ⟨#[]⟩ 0 false).toArray)
    have HBY := kp (ba (ba (Below.refl w.heap.size w) (.cells (stL v (str rest) N' true).toArray 245)) (.cells (stL ⟨0, 0, 0, 0, 0, 0, 0, 0⟩ ⟨#[]⟩ 0 false).toArray 245))
    rw [size_all] at HY1
    change Calls Tryz.prog 159 #[] ((w.alloc (.cells (stL v (str rest) N' true).toArray 245)).alloc (.cells (stL ⟨0, 0, 0, 0, 0, 0, 0, 0⟩ ⟨#[]⟩ 0 false).toArray 245)) _
    generalize ((w.alloc (.cells (stL v (str rest) N' true).toArray 245)).alloc (.cells (stL ⟨0, 0, 0, 0, 0, 0, 0, 0⟩ ⟨#[]⟩ 0 false).toArray 245)) = W at HY0 HY1 HBY ⊢
    obtain ⟨V, hV⟩ : ∃ V, v = V := ⟨_, rfl⟩
    obtain ⟨RR, hRR⟩ : ∃ RR, str rest = RR := ⟨_, rfl⟩
    rw [hV] at HY0 hok hmore
    rw [hRR] at HY0
    clear hV hRR
  all_goals
    have CT := constants_any
    unfold arr32 at CT
    refine (CT _).mono ?_
    rintro e w2 ⟨rfl, hb2⟩
    have SC := fun (cur : Array Value) (h : cur.size = 64) => sc_new (P := Tryz.prog) w2 254 (c32 kL) (c32_one _) cur h
    have hl : (c32 kL).length = 64 := rfl
    have HZ0 := kp ((HY0.out.bel hb2).alloc (.cells (c32 kL).toArray 254))
    have HZ1 := kp ((HY1.out.bel hb2).alloc (.cells (c32 kL).toArray 254))
    have HZK := kp (Blk.new w2 254 (c32 kL).toArray)
    have HBZ := kp (ba (bt' HBY.out hb2 HBY.out.size) (.cells (c32 kL).toArray 254))
    have hkb : w.heap.size + 1 < w2.heap.size := Nat.lt_of_lt_of_le HY1.out.lt hb2.size
    clear CT hb2 HY0 HY1 HBY
    go_wp2_with fail
    generalize w2.alloc (.cells (c32 kL).toArray 254) = w3 at HZ0 HZ1 HZK HBZ ⊢
    generalize w2.heap.size = kb at HZK hkb ⊢
    clear SC hl
    go_loopw [5] (fun x wr => ∃ j : Nat, 64 * j ≤ all.length ∧ x = .string (str (all.drop (64 * j))) ∧ Kp (Blk wr w.heap.size 245 (stL (hRun V j all) RR N' true).toArray) ∧ Kp (Blk wr (w.heap.size + 1) 245 (stL ⟨0, 0, 0, 0, 0, 0, 0, 0⟩ ⟨#[]⟩ 0 false).toArray) ∧ Kp (Blk wr kb 254 (c32 kL).toArray) ∧ Kp (Below w.heap.size w wr)) (fun x _ => lenOf x)
    case atStart => exact ⟨0, by omega, by rw [Nat.mul_zero, List.drop_zero], HZ0, HZ1, HZK, HBZ⟩
    case round =>
      obtain ⟨j, hj, rfl, h0, h1, hk, hb⟩ := hrel
      by_cases hlt : 64 * j + 64 ≤ all.length
      · have hdl : (all.drop (64 * j)).length = all.length - 64 * j := List.length_drop ..
        have HSL := kp (str_size (all.drop (64 * j)))
        have HPL : Kp (((all.drop (64 * j)).take 64).length = 64) := kp (by rw [List.length_take, hdl]; omega)
        have HX1 : Kp ((str (all.drop (64 * j))).extract 0 64 = str ((all.drop (64 * j)).take 64)) := kp (by rw [extract_str]; rfl)
        have HX2 : Kp ((str (all.drop (64 * j))).extract 64 (str (all.drop (64 * j))).size = str (all.drop (64 * (j + 1)))) := kp (by rw [extract_str, str_size, List.drop_drop, hdl, List.take_of_length_le (by rw [List.length_drop]; omega)]; congr 2)
        have hsz1 : (64 : Int) ≤ ((str (all.drop (64 * j))).size : Int) := by rw [str_size, hdl]; omega
        have hsz2 : 64 ≤ (str (all.drop (64 * j))).size := by rw [str_size, hdl]; omega
        have hsz3 : (str (all.drop (64 * j))).size ≤ 1099511627840 := by rw [str_size, hdl]; omega
        have HDL := kp hdl
        obtain ⟨S, hS⟩ : ∃ S, str (all.drop (64 * j)) = S := ⟨_, rfl⟩
        rw [hS] at hsz1 hsz2 hsz3 HX1 HX2 HSL ⊢
        clear hS hdl
        have TH := fun w' hkw => through_any (hRun V j all) (hRun_ok j V all hok.out) RR N' true _ HPL.out kb w' hkw
        rw [← hRun_succ, ← HX1.out] at TH
        obtain ⟨CS, hCS⟩ : ∃ CS, stL (hRun V (j + 1) all) RR N' true = CS := ⟨_, rfl⟩
        unfold stA at TH
        rw [hCS] at TH
        unfold stL at TH
        have HTH := kp TH
        have hl11 : CS.length = 11 := by rw [← hCS]; rfl
        have h1c : ∀ x ∈ CS, x.oneCell' = true := by rw [← hCS]; exact stL_one _ _ _ _
        have H1C := kp h1c
        have HCS := kp hCS
        obtain ⟨c0, c1, c2, c3, c4, c5, c6, c7, c8, c9, c10⟩ := st_cells h0.out
        have hlw := h0.out.lt
        clear TH h1c hCS
        go_wp2
        refine wp_region_ext [0, 1, 2, 3] [4] (by kernel_rfl) (by kernel_rfl) ?_
        simp only [List.map_cons, List.map_nil, List.getD_cons_succ, List.getD_cons_zero]
        repeat (go_big_quiet_step ((go_at_call 160; exact Calls.ext_of (HTH.out _ (hk.out.bel (ext_below _ _))))))
        refine wpQuiet_nil ?_
        rintro z
        have hz0 := h0.out.bel (ext_below wr z)
        have hz1 := kp (h1.out.bel (ext_below wr z))
        have hzk := kp (hk.out.bel (ext_below wr z))
        have hzb := kp (bt' hb.out (ext_below wr z) hb.out.size)
        have SC := sc_all (P := Tryz.prog) (w := wr.ext z) w.heap.size 245 CS _ hz0 hl11 H1C.out
        have HX := kp (hz0.row CS.toArray)
        have HN1 := kp (hz1.out.rowfar (b := w.heap.size) (by omega) CS.toArray)
        have HNK := kp (hzk.out.rowfar (b := w.heap.size) (by omega) CS.toArray)
        have HNB := kp (bsr hzb.out (Nat.le_refl _) hzb.out.size CS.toArray)
        clear c0 c1 c2 c3 c4 c5 c6 c7 c8 c9 c10 hz0 hz1 hzk hzb h0 h1 hk hb HTH
        generalize (wr.ext z).setRow w.heap.size CS.toArray = Y at SC HX HN1 HNK HNB
        go_wp2
        go_roundw
        case measure => show (S.extract 64 S.size).size < S.size; rw [HX2.out, str_size, List.length_drop, HSL.out, HDL.out]; omega
        case rel => exact ⟨j + 1, by omega, by rw [HX2.out], by rw [HCS.out]; exact HX, HN1, HNK, HNB⟩
      · obtain rfl : j = all.length / 64 := by omega
        have hRl := congrArg List.length hmore2.out
        rw [List.length_drop] at hRl
        have HRL := kp hRl
        clear hRl
        rw [hmore2.out, hmore.out] at *
        have hs1 : ¬ (64 : Int) ≤ ((str R').size : Int) := by have := HRL.out; rw [str_size]; omega
        have hs2 : (str R').size ≤ 281474976710656 := by have := HRL.out; rw [str_size]; omega
        have CL := kp (Clone_any (str R'))
        have HS2 := kp hs2
        obtain ⟨S, hS⟩ : ∃ S, str R' = S := ⟨_, rfl⟩
        rw [hS] at hs1 CL HS2 ⊢
        have HS := kp hS
        clear hS hs2
        go_wp2_with fail
        refine (CL.out _ HS2.out).mono ?_
        rintro e w5 ⟨rfl, hb5⟩
        have hz0 := h0.out.bel hb5
        have c8 := (st_cells hz0).2.2.2.2.2.2.2.2.1
        have f8 := hz0.frozen 8
        have HZZ := kp (hz0.setL 8 (.string S))
        have HZ1 := kp ((h1.out.bel hb5).far (p := ⟨w.heap.size, 8, none⟩) (by simp) (.string S))
        have HZB := kp (bsc (bt' hb.out hb5 hb.out.size) (p := ⟨w.heap.size, 8, none⟩) (Nat.le_refl _) (.string S))
        have HZZ2 : Kp (Blk (w5.setCell ⟨w.heap.size, 8, none⟩ (.string S)) w.heap.size 245 (stL V' S N' true).toArray) := HZZ
        obtain ⟨CS, hCS⟩ : ∃ CS, stL V' S N' true = CS := ⟨_, rfl⟩
        have hl11 : CS.length = 11 := by rw [← hCS]; rfl
        have h1c : ∀ x ∈ CS, x.oneCell' = true := by rw [← hCS]; exact stL_one _ _ _ _
        rw [hCS] at HZZ2
        have HCS := kp hCS
        clear hCS hz0 h0 h1 hk hb hb5
        generalize hX : (w5.setCell ⟨w.heap.size, 8, none⟩ (.string S)) = X at HZZ2 HZ1 HZB
        have LD := ld_all (P := Tryz.prog) (w := X) w.heap.size 11 245 _ CS _ Tryz.underlying245 rfl info_st hl11 HZZ2.out
        have SC := sc_all (P := Tryz.prog) (w := X) (w.heap.size + 1) 245 CS _ HZ1.out hl11 h1c
        have HXX := kp (HZ1.out.row CS.toArray)
        have HBX := kp (bsr HZB.out (show w.heap.size ≤ w.heap.size + 1 by omega) HZB.out.size CS.toArray)
        have HL := kp hl11
        clear h1c
        generalize hY : X.setRow (w.heap.size + 1) CS.toArray = Y at SC HXX HBX
        clear hY
        go_wp2_with (refine wpL_load rfl 245 _ rfl rfl LD ?_)
        refine bodyPost_ret (v := .agg CS.toArray) ?_ rfl ⟨by rw [← HCS.out, ← HS.out]; rfl, HBX.out⟩
        exact res_all Tryz.results145 (w.heap.size + 1) 11 _ CS _ Tryz.underlying245 rfl info_st HL.out HXX.out _ rfl
end Go.Proofs.YtmblknknbbdmeaaGreat
