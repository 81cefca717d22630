/- Texts laid together: Buf2, Buf3, Buf4, Buf5, Oct1, Shelf, Oct2, Oct3, Buf6. -/
import Derived.Test.YtmblknknbbdmeaaGreatProg
import Derived.Shelf.Strings.Builder1
import Derived.Shelf.Strings.Builder2
import Derived.Shelf.Small.Bits
import Derived.Shelf.Small.Wraps
import Derived.Shelf.Strings.BuilderF
import Derived.Shelf.Strings.BuilderK
import Derived.Shelf.Strings.Builder2Cap
import Derived.Shelf.Strconv.Itoa0
import Derived.Shelf.LaysM
import Derived.Shelf.Strconv.Clone
import Derived.Shelf.Sort.Plain
import Derived.Shelf.Strings.Prefix
import Derived.Shelf.Bits.Mul64
import Derived.Shelf.Strings.Repeat
import Derived.Shelf.Strings.BuilderCap
import Derived.Ground.Names2Prog
import Derived.Shelf.Slices.SearchI
import Derived.Shelf.Slices.In.SortNone
import Derived.Test.YtmblknknbbdmeaaGreatRcb1
/- buffer: New, Size, Dropped. -/
namespace Go.Proofs.YtmblknknbbdmeaaGreat
open Go Go.RowKit
set_option linter.unusedVariables false
set_option linter.unusedSimpArgs false
attribute [local go_sem] bmax2 bmin2 bmax bmin cell_ext frozen_ext

section
variable {w w' : World} {bb gm n : Nat} {F : List (Int × (Nat × Nat))} {B : Bf}
theorem BF.bel (h : BF w bb gm n F B) (hb : Below w.heap.size w w') : BF w' bb gm n F B :=
  ⟨h.blk.bel hb, h.im.bel hb, h.keys, fun i c g hf => by
    obtain ⟨ts, s, r, m, h1, h2, h3, h4⟩ := h.slot i c g hf
    exact ⟨ts, s, r, m, h1, (hb.block c (Array.getElem?_eq_some_iff.1 h2).1).trans h2, h3, h4.bel hb⟩, h.inj, h.sets⟩
end
theorem U_Size (bb gm n : Nat) (F : List (Int × (Nat × Nat))) (B : Bf) (w : World) (H : BF w bb gm n F B) : Calls Tryz.prog 71 #[.pointer (some ⟨bb, 0, none⟩)] w fun e w' => e = .returned (.int .i64 B.sz) ∧ w' = w := by
  have x3 := H.blk.atL (show (bufC B.each B.room gm B.sz B.dr)[3]? = some (.int .i64 B.sz) from rfl)
  have kl := H.blk.lt
  generalize B.sz = z at *
  go_enter Tryz.func71, Tryz.ntmps71
  go_wp2
  go_ret
  exact ⟨rfl, rfl⟩
theorem U_Dropped (bb gm n : Nat) (F : List (Int × (Nat × Nat))) (B : Bf) (w : World) (H : BF w bb gm n F B) : Calls Tryz.prog 81 #[.pointer (some ⟨bb, 0, none⟩)] w fun e w' => e = .returned (.int .i64 B.dr) ∧ w' = w := by
  have x3 := H.blk.atL (show (bufC B.each B.room gm B.sz B.dr)[4]? = some (.int .i64 B.dr) from rfl)
  have kl := H.blk.lt
  generalize B.dr = z at *
  go_enter Tryz.func81, Tryz.ntmps81
  go_wp2
  go_ret
  exact ⟨rfl, rfl⟩
theorem U_New_ok (a s : Nat) (h1 : 1 ≤ a ∧ a ≤ 64) (h2 : 1 ≤ s ∧ s ≤ 64) (w : World) : Calls Tryz.prog 64 #[.int .i64 (a : Int), .int .i64 (s : Int)] w fun e w' => e = .returned (.tuple #[.pointer (some ⟨w.heap.size + 1, 0, none⟩), .int .i64 0]) ∧ BF w' (w.heap.size + 1) w.heap.size 0 [] ⟨a, s, [], 0, 0⟩ ∧ Below w.heap.size w w' := by
  have g1 : ¬ min (a : Int) (s : Int) < 1 := by omega
  have g2 : ¬ 64 < max (a : Int) (s : Int) := by omega
  have hmm := @run_makeMap Tryz.prog
  go_enter Tryz.func64, Tryz.ntmps64
  go_wp2
  go_ret2
  have hB := ba (ba (Below.refl w.heap.size w) (.map #[] 0)) (.cells (bufC a s w.heap.size 0 0).toArray 178)
  have hK := Blk.new (w.alloc (.map #[] 0)) 178 (bufC a s w.heap.size 0 0).toArray
  rw [size_all] at hK
  exact ⟨rfl, ⟨hK, (IM.made SL w).bel (ba (Below.refl _ _) _), rfl, fun i c g h => by simp [fnd] at h, fun i j c g c' g' h => by simp [fnd] at h, fun i c g h => by simp [fnd] at h⟩, hB⟩
theorem U_New_bad (a s : Int) (h : ¬ (1 ≤ a ∧ a ≤ 64 ∧ 1 ≤ s ∧ s ≤ 64)) (w : World) : Calls Tryz.prog 64 #[.int .i64 a, .int .i64 s] w fun e w' => e = .returned (.tuple #[.pointer none, .int .i64 1]) ∧ w' = w := by
  by_cases g : min a s < 1
  · clear h
    go_enter Tryz.func64, Tryz.ntmps64
    go_wp2
    go_ret2
    exact ⟨rfl, rfl⟩
  · have g2 : 64 < max a s := by omega
    clear h
    go_enter Tryz.func64, Tryz.ntmps64
    go_wp2
    go_ret2
    exact ⟨rfl, rfl⟩
end Go.Proofs.YtmblknknbbdmeaaGreat
/- buffer: Put, refused. -/
namespace Go.Proofs.YtmblknknbbdmeaaGreat
open Go Go.RowKit
set_option linter.unusedVariables false
set_option linter.unusedSimpArgs false
attribute [local go_sem] bmax2 bmin2 bmax bmin cell_ext frozen_ext

theorem info_sl : (Tryz.prog.info? 181).map (·.size) = some 2 := by kernel_rfl
theorem sl_one (c g : Value) (h1 : c.oneCell' = true) (h2 : g.oneCell' = true) : ∀ v ∈ ([c, g] : List Value), v.oneCell' = true := by
  intro v hv
  simp only [List.mem_cons, List.not_mem_nil, or_false] at hv
  rcases hv with rfl | rfl
  · exact h1
  · exact h2
/-- a block of the heap stays -/
theorem heap_bel {w w' : World} {k : Nat} {o : Obj} (h : w.heap[k]? = some o) (hb : Below w.heap.size w w') : w'.heap[k]? = some o := (hb.block k (Array.getElem?_eq_some_iff.1 h).1).trans h
/-- a look-up in a set of texts that may be nil -/
theorem look_none (k : ByteArray) (hk : k.size ≤ maxLen) (w : World) : (Instr.lookup 79 (.map none) (.string k) false).run Tryz.prog w = .ok (.bool false) w := Maps.look_nil false (Maps.string_keyed Tryz.underlying9) Tryz.underlying79 (z := .bool false) (by kernel_rfl) (WideMaps.keyOf_string_mk Tryz.underlying9 hk)
theorem heap_setC (w : World) (p : Addr) (u : Value) {k : Nat} (h : k ≠ p.block) : (w.setCell p u).heap[k]? = w.heap[k]? := Below.heap_setCell w p u k h
/-- the counts turn -/
theorem BF.set {w : World} {bb gm n : Nat} {F : List (Int × (Nat × Nat))} {B : Bf} (h : BF w bb gm n F B) (B' : Bf) (o : Nat) (v : Value) (h1 : (bufC B.each B.room gm B.sz B.dr).set o v = bufC B'.each B'.room gm B'.sz B'.dr) (h2 : B'.sl = B.sl) (h3 : B'.each = B.each) : BF (w.setCell ⟨bb, o, none⟩ v) bb gm n F B' := by
  have hcb : ∀ c : Nat, (∃ cap buf s r, w.heap[c]? = some (.chan cap buf false s r false)) → c ≠ bb := by
    rintro c ⟨cap, buf, s, r, hc⟩ rfl
    have := h.blk
    unfold Blk at this
    rw [hc] at this
    cases this
  have hmb : ∀ (g m : Nat) (ts : List (List UInt8)), Drw w g m ts → g ≠ bb := by
    rintro g m ts ⟨D, ⟨es, cl, hb, _⟩, _⟩ rfl
    have := h.blk
    unfold Blk at this
    rw [hb] at this
    cases this
  have hgb : gm ≠ bb := by
    obtain ⟨D, ⟨es, cl, hb, _⟩, _⟩ := h.im.own
    rintro rfl
    have := h.blk
    unfold Blk at this
    rw [hb] at this
    cases this
  refine ⟨?_, h.im.far (p := ⟨bb, o, none⟩) hgb v, by rw [h.keys, h2], fun i c g hf => ?_, h.inj, h.sets⟩
  · have := h.blk.setL o v
    rwa [h1] at this
  · obtain ⟨ts, s, r, m, k1, k2, k3, k4⟩ := h.slot i c g hf
    exact ⟨ts, s, r, m, by rw [h2]; exact k1, by rw [heap_setC w ⟨bb, o, none⟩ v (hcb c ⟨_, _, _, _, k2⟩), h3]; exact k2, k3, k4.far (p := ⟨bb, o, none⟩) (hmb g m ts k4) v⟩
set_option maxHeartbeats 4000000 in
set_option maxRecDepth 100000 in
theorem U_Put_arg (bb gm n : Nat) (F : List (Int × (Nat × Nat))) (B : Bf) (i : Int) (tx : ByteArray) (hi : (kI i).wf = true) (h : i < 1) (w : World) (H : BF w bb gm n F B) : Calls Tryz.prog 67 #[.pointer (some ⟨bb, 0, none⟩), .int .i64 i, .string tx] w fun e w' => e = .returned (.int .i64 1) ∧ Below w.heap.size w w' := by
  have hl : (Instr.lookup 176 (.map (some gm)) (.int .i64 i) true).run Tryz.prog w = .ok (.tuple #[((fnd F i).map SL.val).getD SL.z, .bool (fnd F i).isSome]) w := H.im.look i hi
  obtain ⟨V, hV, hV2, hV1⟩ : ∃ V : List Value, ((fnd F i).map SL.val).getD SL.z = .agg V.toArray ∧ V.length = 2 ∧ ∀ v ∈ V, v.oneCell' = true := by
    cases fnd F i with
    | none => exact ⟨_, rfl, rfl, sl_one _ _ rfl rfl⟩
    | some x => exact ⟨_, rfl, rfl, sl_one _ _ rfl rfl⟩
  rw [hV] at hl
  clear hV
  have HV1 := kp hV1
  clear hV1
  have x2 := H.blk.atL (show (bufC B.each B.room gm B.sz B.dr)[2]? = some (.map (some gm)) from rfl)
  have kl := H.blk.lt
  have SC := sc_new (P := Tryz.prog) w 181 V HV1.out #[.chan none, .map none] (by rw [hV2]; rfl)
  have HS := kp (Blk.new w 181 V.toArray)
  have HH := kp (H.bel (ba (Below.refl w.heap.size w) (.cells V.toArray 181)))
  have HB := kp (ba (Below.refl w.heap.size w) (.cells V.toArray 181))
  refine callsN Tryz.func67 rfl ?_
  simp only [Tryz.ntmps67, List.size_toArray, List.length_cons, List.length_nil, Nat.reduceAdd, Nat.reduceSub, Array.replicate_succ,
     Array.replicate_zero, List.push_toArray, List.append_toArray, List.nil_append, List.cons_append]
  refine wpN_seq_plain fun K hK => ?_
  go_wp2
  refine wpN_seq_plain fun K hK => ?_
  go_wp2
  clear SC hl x2 kl
  change wpN _ _ _ _ (w.alloc (.cells V.toArray 181))
  generalize w.alloc (.cells V.toArray 181) = W at HS HH HB ⊢
  refine wpN_seq_plain fun K hK => ?_
  go_wp2
  go_ret
  exact ⟨rfl, HB.out⟩
set_option maxHeartbeats 4000000 in
set_option maxRecDepth 100000 in
theorem U_Put_twice (bb gm n : Nat) (F : List (Int × (Nat × Nat))) (B : Bf) (i : Int) (tx : ByteArray) (hi : (kI i).wf = true) (h : 1 ≤ i) (htx : tx.size ≤ maxLen) (c g : Nat) (hf : fnd F i = some (c, g)) (ht0 : ∀ ts, fnd B.sl i = some ts → bs tx ∈ ts) (w : World) (H : BF w bb gm n F B) : Calls Tryz.prog 67 #[.pointer (some ⟨bb, 0, none⟩), .int .i64 i, .string tx] w fun e w' => e = .returned (.int .i64 11) ∧ Below w.heap.size w w' := by
  have hl : (Instr.lookup 176 (.map (some gm)) (.int .i64 i) true).run Tryz.prog w = .ok (.tuple #[((fnd F i).map SL.val).getD SL.z, .bool (fnd F i).isSome]) w := H.im.look i hi
  rw [hf] at hl
  obtain ⟨V, hV⟩ : ∃ V : List Value, [Value.chan (some c), Value.map (some g)] = V := ⟨_, rfl⟩
  have hV2 : V.length = 2 := by rw [← hV]; rfl
  have hV1 : ∀ v ∈ V, v.oneCell' = true := by rw [← hV]; exact sl_one _ _ rfl rfl
  have V0 : Kp (V[0]? = some (.chan (some c))) := kp (by rw [← hV]; rfl)
  have V1 : Kp (V[1]? = some (.map (some g))) := kp (by rw [← hV]; rfl)
  replace hl : (Instr.lookup 176 (.map (some gm)) (.int .i64 i) true).run Tryz.prog w = .ok (.tuple #[.agg V.toArray, .bool true]) w := by rw [← hV]; exact hl
  have HV := kp hV
  clear hV
  have HV1 := kp hV1
  clear hV1
  have x2 := H.blk.atL (show (bufC B.each B.room gm B.sz B.dr)[2]? = some (.map (some gm)) from rfl)
  have kl := H.blk.lt
  have SC := sc_new (P := Tryz.prog) w 181 V HV1.out #[.chan none, .map none] (by rw [hV2]; rfl)
  have HS := kp (Blk.new w 181 V.toArray)
  have HH := kp (H.bel (ba (Below.refl w.heap.size w) (.cells V.toArray 181)))
  have HB := kp (ba (Below.refl w.heap.size w) (.cells V.toArray 181))
  refine callsN Tryz.func67 rfl ?_
  simp only [Tryz.ntmps67, List.size_toArray, List.length_cons, List.length_nil, Nat.reduceAdd, Nat.reduceSub, Array.replicate_succ,
     Array.replicate_zero, List.push_toArray, List.append_toArray, List.nil_append, List.cons_append]
  refine wpN_seq_plain fun K hK => ?_
  go_wp2
  refine wpN_seq_plain fun K hK => ?_
  go_wp2
  clear SC hl x2 kl
  change wpN _ _ _ _ (w.alloc (.cells V.toArray 181))
  generalize w.alloc (.cells V.toArray 181) = W at HS HH HB ⊢
  obtain ⟨ts, s, r, m, ht, hc, hm, hd⟩ := HH.out.slot i c g hf
  have hlk := hd.look tx htx
  rw [decide_eq_true (ht0 ts ht)] at hlk
  have v1 := HS.out.atL V1.out
  have kl := HS.out.lt
  have h1 : ¬ i < 1 := by omega
  clear hd hc ht0
  refine wpN_seq_plain fun K hK => ?_
  go_wp2
  go_ret
  exact ⟨rfl, HB.out⟩
set_option maxHeartbeats 4000000 in
set_option maxRecDepth 100000 in
theorem U_Put_room (bb gm n : Nat) (F : List (Int × (Nat × Nat))) (B : Bf) (i : Int) (tx : ByteArray) (hi : (kI i).wf = true) (h : 1 ≤ i) (htx : tx.size ≤ maxLen) (hf : fnd F i = none) (hr : B.sl.length = B.room) (hdr : 0 ≤ B.dr ∧ B.dr < 4611686018427387904) (w : World) (H : BF w bb gm n F B) : Calls Tryz.prog 67 #[.pointer (some ⟨bb, 0, none⟩), .int .i64 i, .string tx] w fun e w' => e = .returned (.int .i64 4) ∧ BF w' bb gm n F { B with dr := B.dr + 1 } ∧ w.grownBy w' (some bb) := by
  have hl : (Instr.lookup 176 (.map (some gm)) (.int .i64 i) true).run Tryz.prog w = .ok (.tuple #[((fnd F i).map SL.val).getD SL.z, .bool (fnd F i).isSome]) w := H.im.look i hi
  rw [hf] at hl
  obtain ⟨V, hV⟩ : ∃ V : List Value, [Value.chan none, Value.map none] = V := ⟨_, rfl⟩
  have hV2 : V.length = 2 := by rw [← hV]; rfl
  have hV1 : ∀ v ∈ V, v.oneCell' = true := by rw [← hV]; exact sl_one _ _ rfl rfl
  have V0 : Kp (V[0]? = some (.chan none)) := kp (by rw [← hV]; rfl)
  have V1 : Kp (V[1]? = some (.map none)) := kp (by rw [← hV]; rfl)
  replace hl : (Instr.lookup 176 (.map (some gm)) (.int .i64 i) true).run Tryz.prog w = .ok (.tuple #[.agg V.toArray, .bool false]) w := by rw [← hV]; exact hl
  have HV := kp hV
  clear hV
  have HV1 := kp hV1
  clear hV1
  have x2 := H.blk.atL (show (bufC B.each B.room gm B.sz B.dr)[2]? = some (.map (some gm)) from rfl)
  have kl := H.blk.lt
  have SC := sc_new (P := Tryz.prog) w 181 V HV1.out #[.chan none, .map none] (by rw [hV2]; rfl)
  have HS := kp (Blk.new w 181 V.toArray)
  have HH := kp (H.bel (ba (Below.refl w.heap.size w) (.cells V.toArray 181)))
  have HB := kp (ba (Below.refl w.heap.size w) (.cells V.toArray 181))
  refine callsN Tryz.func67 rfl ?_
  simp only [Tryz.ntmps67, List.size_toArray, List.length_cons, List.length_nil, Nat.reduceAdd, Nat.reduceSub, Array.replicate_succ,
     Array.replicate_zero, List.push_toArray, List.append_toArray, List.nil_append, List.cons_append]
  refine wpN_seq_plain fun K hK => ?_
  go_wp2
  refine wpN_seq_plain fun K hK => ?_
  go_wp2
  clear SC hl x2 kl
  change wpN _ _ _ _ (w.alloc (.cells V.toArray 181))
  generalize w.alloc (.cells V.toArray 181) = W at HS HH HB ⊢
  have hlk := fun w => look_none tx htx w
  have v1 := HS.out.atL V1.out
  have ks := HS.out.lt
  have h1 : ¬ i < 1 := by omega
  have hlen : F.length = B.room := by rw [← hr, ← List.length_map (f := fun p : Int × (Nat × Nat) => p.1), HH.out.keys, List.length_map]
  have y2 := HH.out.blk.atL (show (bufC B.each B.room gm B.sz B.dr)[2]? = some (.map (some gm)) from rfl)
  have y1 := HH.out.blk.atL (show (bufC B.each B.room gm B.sz B.dr)[1]? = some (.int .i64 B.room) from rfl)
  have kb := HH.out.blk.lt
  refine wpN_seq_plain fun K hK => ?_
  go_upto_region 6 with (fail)
  have hle := fun (z : World) (ty : TypeId) => (HH.out.im.bel (ext_below W z)).len ty
  have hle : ∀ (z : World) (ty : TypeId), (Builtin.len_ #[176] ty #[.map (some gm)]).run Tryz.prog (W.ext z) = .ok (.int .i64 (B.room : Int)) (W.ext z) := fun z ty => by rw [← hlen]; exact hle z ty
  refine wp_region_ext [0, 1, 2, 3, 4, 5, 6, 7, 8, 9, 10, 11, 12, 13] [14] (by kernel_rfl) (by kernel_rfl) ?_
  simp only [List.map_cons, List.map_nil, List.getD_cons_succ, List.getD_cons_zero]
  repeat (go_big_quiet_step (fail))
  refine wpQuiet_nil ?_
  rintro z
  clear hle y2 y1 kb v1 ks hlk
  have HH := kp (HH.out.bel (ext_below W z))
  have HB := kp (bt' HB.out (ext_below W z) HB.out.size)
  clear HS
  generalize World.ext W z = X at HH HB ⊢
  have y4 := HH.out.blk.atL (show (bufC B.each B.room gm B.sz B.dr)[4]? = some (.int .i64 B.dr) from rfl)
  have kb := HH.out.blk.lt
  have fz := HH.out.blk.frozen 4
  have HN := kp (HH.out.set { B with dr := B.dr + 1 } 4 (.int .i64 (B.dr + 1)) rfl rfl rfl)
  have HG := kp (gbt (gb HB.out (some bb)) (gbset X bb 4 (.int .i64 (B.dr + 1))))
  clear hr hlen
  go_wp2
  go_ret
  exact ⟨rfl, HN.out, HG.out⟩
end Go.Proofs.YtmblknknbbdmeaaGreat
/- buffer: how its memory turns. -/
namespace Go.Proofs.YtmblknknbbdmeaaGreat
open Go Go.RowKit Go.Conc
set_option linter.unusedVariables false
set_option linter.unusedSimpArgs false

/-- a slot's things, anew -/
def upd (sl : List (Int × List (List UInt8))) (i : Int) (ts : List (List UInt8)) : List (Int × List (List UInt8)) := sl.map fun p => if p.1 = i then (i, ts) else p
theorem upd_keys (sl : List (Int × List (List UInt8))) (i : Int) (ts : List (List UInt8)) : (upd sl i ts).map (·.1) = sl.map (·.1) := by
  unfold upd
  rw [List.map_map]
  apply List.map_congr_left
  intro p hp
  simp only [Function.comp]
  split
  · rename_i h; exact h.symm
  · rfl
theorem fnd_upd_same {sl : List (Int × List (List UInt8))} {i : Int} {ts ts0 : List (List UInt8)} (h : fnd sl i = some ts0) : fnd (upd sl i ts) i = some ts := by
  induction sl with
  | nil => simp [fnd] at h
  | cons p l ih =>
    by_cases hp : p.1 = i
    · unfold upd
      rw [List.map_cons, if_pos hp, fnd_cons_same]
    · obtain ⟨a, b⟩ := p
      have hp' : i ≠ a := fun e => hp e.symm
      rw [fnd_cons_other hp'] at h
      have := ih h
      unfold upd at this ⊢
      rw [List.map_cons, if_neg hp, fnd_cons_other hp']
      exact this
theorem fnd_upd_other {sl : List (Int × List (List UInt8))} {i j : Int} (hj : j ≠ i) (ts : List (List UInt8)) : fnd (upd sl i ts) j = fnd sl j := by
  induction sl with
  | nil => rfl
  | cons p l ih =>
    unfold upd at ih ⊢
    rw [List.map_cons]
    obtain ⟨a, b⟩ := p
    by_cases hp : a = i
    · subst hp
      simp only [if_pos]
      rw [fnd_cons_other hj, fnd_cons_other hj, ih]
    · simp only [if_neg hp]
      by_cases ha : j = a
      · subst ha
        rw [fnd_cons_same, fnd_cons_same]
      · rw [fnd_cons_other ha, fnd_cons_other ha, ih]
theorem del_none {α : Type} {F : List (Int × α)} {i : Int} (h : fnd F i = none) : del F i = F := by
  unfold del
  rw [List.filter_eq_self]
  intro p hp
  rw [fnd_eq_none] at h
  simp only [bne_iff_ne, ne_eq]
  intro e
  exact h (e ▸ List.mem_map_of_mem hp)
theorem fnd_keys {α β : Type} {F : List (Int × α)} {G : List (Int × β)} (h : F.map (·.1) = G.map (·.1)) (i : Int) : (fnd F i = none ↔ fnd G i = none) := by rw [fnd_eq_none, fnd_eq_none, h]
theorem upd_none {sl : List (Int × List (List UInt8))} {i : Int} (h : fnd sl i = none) (ts : List (List UInt8)) : upd sl i ts = sl := by
  unfold upd
  rw [fnd_eq_none] at h
  conv => rhs; rw [← List.map_id sl]
  apply List.map_congr_left
  intro p hp
  have hne : ¬ p.1 = i := fun e => h (e ▸ List.mem_map_of_mem hp)
  rw [if_neg hne]
  rfl
theorem Drw.congr {w : World} {g n : Nat} {L L' : List (List UInt8)} (h : Drw w g n L) (hL : ∀ k, k ∈ L ↔ k ∈ L') : Drw w g n L' := by
  obtain ⟨D, h1, h2⟩ := h
  exact ⟨D, h1, fun k => by rw [h2 k]; simp [hL k]⟩
section
variable {w w' : World} {bb gm n : Nat} {F : List (Int × (Nat × Nat))} {B : Bf}
/-- kinds of its blocks -/
theorem BF.chan_ne (h : BF w bb gm n F B) {i : Int} {c g : Nat} (hf : fnd F i = some (c, g)) {k : Nat} {T : TypeId} {cs : Array Value} (hk : Blk w k T cs) : k ≠ c ∧ k ≠ g := by
  obtain ⟨ts, s, r, m, k1, k2, k3, D, ⟨es, cl, hb, _⟩, _⟩ := h.slot i c g hf
  unfold Blk at hk
  constructor
  · rintro rfl; rw [hk] at k2; cases k2
  · rintro rfl; rw [hk] at hb; cases hb
theorem BF.gm_ne (h : BF w bb gm n F B) {k : Nat} {T : TypeId} {cs : Array Value} (hk : Blk w k T cs) : k ≠ gm := by
  obtain ⟨D, ⟨es, cl, hb, _⟩, _⟩ := h.im.own
  unfold Blk at hk
  rintro rfl; rw [hk] at hb; cases hb
theorem BF.gm_chan (h : BF w bb gm n F B) {i : Int} {c g : Nat} (hf : fnd F i = some (c, g)) : gm ≠ c ∧ c ≠ g ∧ gm ≠ g := by
  obtain ⟨ts, s, r, m, k1, k2, k3, D, ⟨es, cl, hb, _⟩, _⟩ := h.slot i c g hf
  obtain ⟨D', ⟨es', cl', hb', _⟩, _⟩ := h.im.own
  refine ⟨?_, ?_, Ne.symm (h.sets i c g hf)⟩
  · rintro rfl; rw [hb'] at k2; cases k2
  · rintro rfl; rw [hb] at k2; cases k2
/-- another block turns -/
theorem BF.keep (h : BF w bb gm n F B) {k : Nat} (hg : w.grownBy w' (some k)) (h1 : k ≠ bb) (h2 : k ≠ gm) (h3 : ∀ i c g, fnd F i = some (c, g) → k ≠ c ∧ k ≠ g) : BF w' bb gm n F B :=
  ⟨h.blk.grown hg (by simpa using Ne.symm h1), h.im.kept hg (by simpa using Ne.symm h2), h.keys, fun i c g hf => by
    obtain ⟨ts, s, r, m, k1, k2, k3, k4⟩ := h.slot i c g hf
    exact ⟨ts, s, r, m, k1, (hg.block c (Array.getElem?_eq_some_iff.1 k2).1 (by simpa using Ne.symm (h3 i c g hf).1)).trans k2, k3, k4.kept hg (by simpa using Ne.symm (h3 i c g hf).2)⟩, h.inj, h.sets⟩
/-- a cell of another block turns -/
theorem BF.keepB (h : BF w bb gm n F B) {k : Nat} {T : TypeId} {cs : Array Value} (hk : Blk w k T cs) (hT : T ≠ 178) (hg : w.grownBy w' (some k)) : BF w' bb gm n F B :=
  h.keep hg (hk.ne_ h.blk hT) (h.gm_ne hk) (fun i c g hf => h.chan_ne hf hk)
/-- a slot more -/
theorem BF.more (h : BF w bb gm n F B) {i : Int} {c g : Nat} (hf : fnd F i = none) (hi : IM SL w' gm (n + 1) ((i, (c, g)) :: del F i)) (hg : w.grownBy w' (some gm)) {s r : Nat} (hc : w.heap[c]? = some (.chan B.each #[] false s r false)) (hd : Drw w g 0 [])
    (hn : ∀ j c' g', fnd F j = some (c', g') → c ≠ c' ∧ g ≠ g') (hgm : g ≠ gm) : BF w' bb gm (n + 1) ((i, (c, g)) :: F) { B with sl := (i, []) :: B.sl } := by
  rw [del_none hf] at hi
  have hbg := h.gm_ne h.blk
  have hcg : c ≠ gm := by
    obtain ⟨D', ⟨es', cl', hb', _⟩, _⟩ := h.im.own
    rintro rfl; rw [hb'] at hc; cases hc
  have hmem : ∀ j c' g', fnd ((i, (c, g)) :: F) j = some (c', g') → (j = i ∧ c' = c ∧ g' = g) ∨ (j ≠ i ∧ fnd F j = some (c', g')) := by
    intro j c' g' hj
    by_cases e : j = i
    · subst e
      rw [fnd_cons_same] at hj
      injection hj with hj
      injection hj with h1 h2
      exact Or.inl ⟨rfl, h1.symm, h2.symm⟩
    · rw [fnd_cons_other e] at hj
      exact Or.inr ⟨e, hj⟩
  refine ⟨h.blk.grown hg (by simpa using hbg), hi, by simp [h.keys], fun j c' g' hj => ?_, fun j j' c1 g1 c2 g2 h1 h2 he => ?_, fun j c' g' hj => ?_⟩
  · rcases hmem j c' g' hj with ⟨rfl, rfl, rfl⟩ | ⟨e, hj⟩
    · exact ⟨[], s, r, 0, fnd_cons_same _ _, (hg.block _ (Array.getElem?_eq_some_iff.1 hc).1 (by simpa using hcg)).trans hc, Nat.le_refl _, hd.kept hg (by simpa using hgm)⟩
    · obtain ⟨ts, s, r, m, k1, k2, k3, k4⟩ := h.slot j c' g' hj
      have q := h.gm_chan hj
      exact ⟨ts, s, r, m, by rw [fnd_cons_other e]; exact k1, (hg.block _ (Array.getElem?_eq_some_iff.1 k2).1 (by simpa using Ne.symm q.1)).trans k2, k3, k4.kept hg (by simpa using Ne.symm q.2.2)⟩
  · rcases hmem j c1 g1 h1 with ⟨e1, e2, e3⟩ | ⟨e, k1⟩ <;> rcases hmem j' c2 g2 h2 with ⟨f1, f2, f3⟩ | ⟨e', k2⟩
    · rw [e1, f1]
    · have := hn _ _ _ k2
      rw [e2, e3] at he
      rcases he with he | he
      · exact absurd he this.1
      · exact absurd he this.2
    · have := hn _ _ _ k1
      rw [f2, f3] at he
      rcases he with he | he
      · exact absurd he.symm this.1
      · exact absurd he.symm this.2
    · exact h.inj _ _ _ _ _ _ k1 k2 he
  · rcases hmem j c' g' hj with ⟨rfl, rfl, rfl⟩ | ⟨e, hj⟩
    · exact hgm
    · exact h.sets _ _ _ hj
/-- a thing is sent into a slot's line, and laid in its set -/
theorem BF.sent (h : BF w bb gm n F B) {i : Int} {c g : Nat} (hf : fnd F i = some (c, g)) {ts : List (List UInt8)} (ht : fnd B.sl i = some ts) (t : List UInt8) {s r m : Nat} (hm : m ≤ ts.length + 1)
    {w1 : World} (h1 : w.grownBy w1 (some c)) (hc : w1.heap[c]? = some (.chan B.each (lineV (ts ++ [t])) false s r false)) (h2 : w1.grownBy w' (some g)) (hd : Drw w' g m (ts ++ [t])) : BF w' bb gm n F { B with sl := upd B.sl i (ts ++ [t]) } := by
  have q := h.gm_chan hf
  have qb := h.chan_ne hf h.blk
  refine ⟨(h.blk.grown h1 (by simpa using qb.1)).grown h2 (by simpa using qb.2), (h.im.kept h1 (by simpa using q.1)).kept h2 (by simpa using q.2.2), by rw [upd_keys]; exact h.keys, fun j c' g' hj => ?_, h.inj, h.sets⟩
  by_cases e : j = i
  · subst e
    rw [hf] at hj
    injection hj with hj
    injection hj with e1 e2
    subst e1 e2
    exact ⟨_, s, r, m, fnd_upd_same ht, (h2.block _ (Array.getElem?_eq_some_iff.1 hc).1 (by simpa using q.2.1)).trans hc, by simpa using hm, hd⟩
  · obtain ⟨ts', s', r', m', k1, k2, k3, k4⟩ := h.slot j c' g' hj
    have n1 : c' ≠ c := fun e1 => e (h.inj _ _ _ _ _ _ hj hf (Or.inl e1))
    have n2 : g' ≠ g := fun e1 => e (h.inj _ _ _ _ _ _ hj hf (Or.inr e1))
    have n3 : c' ≠ g := by
      rintro rfl
      obtain ⟨ts2, s2, r2, m2, _, _, _, D, ⟨es, cl, hb, _⟩, _⟩ := h.slot i c c' hf
      rw [hb] at k2; cases k2
    have n4 : g' ≠ c := by
      rintro rfl
      obtain ⟨ts2, s2, r2, m2, _, hc2, _, _⟩ := h.slot i g' g hf
      obtain ⟨D, ⟨es, cl, hb, _⟩, _⟩ := k4
      rw [hb] at hc2; cases hc2
    have a1 := (h1.block _ (Array.getElem?_eq_some_iff.1 k2).1 (by simpa using n1)).trans k2
    exact ⟨ts', s', r', m', by rw [fnd_upd_other e]; exact k1, (h2.block _ (Array.getElem?_eq_some_iff.1 a1).1 (by simpa using n3)).trans a1, k3, (k4.kept h1 (by simpa using n4)).kept h2 (by simpa using n2)⟩
end
/-- a channel's block turns -/
theorem gbchan (w : World) (c cap : Nat) (buf : Array Value) (cl : Bool) (s r : Nat) (tm : Bool) : w.grownBy (w.setChan c cap buf cl s r tm) (some c) :=
  ⟨rfl, rfl, rfl, by simp [World.setChan], fun k hk hne => by
    simp only [World.setChan]
    rw [Array.getElem?_setIfInBounds_ne (fun e => hne (by rw [e]))]⟩
end Go.Proofs.YtmblknknbbdmeaaGreat
/- buffer: Put, taken. -/
namespace Go.Proofs.YtmblknknbbdmeaaGreat
open Go Go.RowKit Go.Conc
set_option linter.unusedVariables false
set_option linter.unusedSimpArgs false
attribute [local go_sem] bmax2 bmin2 bmax bmin cell_ext frozen_ext

/-- all but a buffer's own blocks stay -/
structure BFr (bb gm : Nat) (F : List (Int × (Nat × Nat))) (w w' : World) : Prop where
  os : w'.os = w.os
  tape : w'.tape = w.tape
  output : w'.output = w.output
  size : w.heap.size ≤ w'.heap.size
  block : ∀ k, k < w.heap.size → k ≠ bb → k ≠ gm → (∀ i c g, fnd F i = some (c, g) → k ≠ c ∧ k ≠ g) → w'.heap[k]? = w.heap[k]?
theorem BFr.of_bel {bb gm : Nat} {F : List (Int × (Nat × Nat))} {w w' : World} (h : Below w.heap.size w w') : BFr bb gm F w w' := ⟨h.os, h.tape, h.output, h.size, fun k hk _ _ _ => h.block k hk⟩
theorem BFr.of_grown {bb gm : Nat} {F : List (Int × (Nat × Nat))} {w w' : World} {b : Nat} (h : w.grownBy w' (some b)) (hb : b = bb ∨ b = gm ∨ (∃ i c g, fnd F i = some (c, g) ∧ (b = c ∨ b = g))) : BFr bb gm F w w' := ⟨h.os, h.tape, h.output, h.size, fun k hk h1 h2 h3 => h.block k hk (by
  intro e
  injection e with e
  subst e
  rcases hb with hb | hb | ⟨i, c, g, hf, hb⟩
  · exact h1 hb
  · exact h2 hb
  · rcases hb with hb | hb
    · exact (h3 i c g hf).1 hb
    · exact (h3 i c g hf).2 hb)⟩
theorem BFr.new {bb gm : Nat} {F : List (Int × (Nat × Nat))} {w w' w'' : World} {b : Nat} (h : BFr bb gm F w w') (hg : w'.grownBy w'' (some b)) (hb : w.heap.size ≤ b) : BFr bb gm F w w'' := ⟨hg.os.trans h.os, hg.tape.trans h.tape, hg.output.trans h.output, Nat.le_trans h.size hg.size, fun k hk h1 h2 h3 => (hg.block k (Nat.lt_of_lt_of_le hk h.size) (by simp; omega)).trans (h.block k hk h1 h2 h3)⟩
theorem BFr.trans {bb gm : Nat} {F : List (Int × (Nat × Nat))} {w w' w'' : World} (h : BFr bb gm F w w') (g : BFr bb gm F w' w'') : BFr bb gm F w w'' := ⟨g.os.trans h.os, g.tape.trans h.tape, g.output.trans h.output, Nat.le_trans h.size g.size, fun k hk h1 h2 h3 => (g.block k (Nat.lt_of_lt_of_le hk h.size) h1 h2 h3).trans (h.block k hk h1 h2 h3)⟩
theorem lineV_push (ts : List (List UInt8)) (t : ByteArray) : (lineV ts).push (.string t) = lineV (ts ++ [bs t]) := by
  unfold lineV
  rw [List.map_append, List.push_toArray]
  rfl
theorem run_chan (n : Nat) (hn : n ≤ 64) (X : World) : (Instr.makeChan 179 (.int .i64 (n : Int))).run Tryz.prog X = .ok (.chan (some X.heap.size)) (X.alloc (.chan n #[] false 0 0 false)) := by
  have h0 : (Tryz.prog.info? 9).map (fun i => i.bytes) = some 16 := by kernel_rfl
  obtain ⟨i, hi, hb⟩ : ∃ i, Tryz.prog.info? 9 = some i ∧ i.bytes = 16 := by
    cases h : Tryz.prog.info? 9 with
    | none => rw [h] at h0; cases h0
    | some i => rw [h] at h0; exact ⟨i, rfl, by simpa using h0⟩
  exact run_makeChan Tryz.underlying179 hi .i64 n (by omega) (by rw [hb]; omega)
theorem lineV_size (ts : List (List UInt8)) : (lineV ts).size = ts.length := by unfold lineV; simp
set_option maxHeartbeats 4000000 in
set_option maxRecDepth 100000 in
theorem U_Put_some (bb gm n : Nat) (F : List (Int × (Nat × Nat))) (B : Bf) (i : Int) (tx : ByteArray) (hi : (kI i).wf = true) (h : 1 ≤ i) (htx : tx.size ≤ maxLen) (c g : Nat) (hf : fnd F i = some (c, g)) (ts : List (List UInt8)) (htB : fnd B.sl i = some ts) (hnt : bs tx ∉ ts) (hroom : ts.length < B.each) (hmax : B.each ≤ 64) (hsz : 0 ≤ B.sz ∧ B.sz < 4611686018427387904) (w : World) (H : BF w bb gm n F B) : Calls Tryz.prog 67 #[.pointer (some ⟨bb, 0, none⟩), .int .i64 i, .string tx] w fun e w' => e = .returned (.int .i64 0) ∧ BF w' bb gm n F { B with sl := upd B.sl i (ts ++ [bs tx]), sz := B.sz + 1 } ∧ BFr bb gm F w w' := by
  have hl : (Instr.lookup 176 (.map (some gm)) (.int .i64 i) true).run Tryz.prog w = .ok (.tuple #[((fnd F i).map SL.val).getD SL.z, .bool (fnd F i).isSome]) w := H.im.look i hi
  rw [hf] at hl
  obtain ⟨V, hV⟩ : ∃ V : List Value, [Value.chan (some c), Value.map (some g)] = V := ⟨_, rfl⟩
  have hV2 : V.length = 2 := by rw [← hV]; rfl
  have hV1 : ∀ v ∈ V, v.oneCell' = true := by rw [← hV]; exact sl_one _ _ rfl rfl
  have V0 : Kp (V[0]? = some (.chan (some c))) := kp (by rw [← hV]; rfl)
  have V1 : Kp (V[1]? = some (.map (some g))) := kp (by rw [← hV]; rfl)
  replace hl : (Instr.lookup 176 (.map (some gm)) (.int .i64 i) true).run Tryz.prog w = .ok (.tuple #[.agg V.toArray, .bool true]) w := by rw [← hV]; exact hl
  have HV := kp hV
  clear hV
  have HV1 := kp hV1
  clear hV1
  have x2 := H.blk.atL (show (bufC B.each B.room gm B.sz B.dr)[2]? = some (.map (some gm)) from rfl)
  have kl := H.blk.lt
  have SC := sc_new (P := Tryz.prog) w 181 V HV1.out #[.chan none, .map none] (by rw [hV2]; rfl)
  have HS := kp (Blk.new w 181 V.toArray)
  have HH := kp (H.bel (ba (Below.refl w.heap.size w) (.cells V.toArray 181)))
  have HB := kp (ba (Below.refl w.heap.size w) (.cells V.toArray 181))
  refine callsN Tryz.func67 rfl ?_
  simp only [Tryz.ntmps67, List.size_toArray, List.length_cons, List.length_nil, Nat.reduceAdd, Nat.reduceSub, Array.replicate_succ,
     Array.replicate_zero, List.push_toArray, List.append_toArray, List.nil_append, List.cons_append]
  refine wpN_seq_plain fun K hK => ?_
  go_wp2
  refine wpN_seq_plain fun K hK => ?_
  go_wp2
  clear SC hl x2 kl
  change wpN _ _ _ _ (w.alloc (.cells V.toArray 181))
  generalize w.alloc (.cells V.toArray 181) = W at HS HH HB ⊢
  have h1 : ¬ i < 1 := by omega
  have hfF := hf
  have v1 := HS.out.atL V1.out
  have ks := HS.out.lt
  obtain ⟨ts0, s0, r0, m0, ht0, hc0, hm0, hd0⟩ := HH.out.slot i c g hf
  obtain rfl : ts = ts0 := Option.some.inj (htB.symm.trans ht0)
  have hlk := hd0.look tx htx
  rw [decide_eq_false hnt] at hlk
  clear hd0 hc0 ht0 hm0
  refine wpN_seq_plain fun K hK => ?_
  go_upto_region 6 with (fail)
  refine wp_region_ext [0, 1, 2, 3, 4, 5, 6, 7, 8, 9, 10, 11, 12, 13] [14] (by kernel_rfl) (by kernel_rfl) ?_
  simp only [List.map_cons, List.map_nil, List.getD_cons_succ, List.getD_cons_zero]
  repeat (go_big_quiet_step (fail))
  refine wpQuiet_nil ?_
  rintro z
  clear v1 ks hlk
  have HH := kp (HH.out.bel (ext_below W z))
  have HB := kp (bt' HB.out (ext_below W z) HB.out.size)
  have HS := kp (HS.out.bel (ext_below W z))
  rw [← HV.out] at HS
  generalize World.ext W z = Y at HH HB HS ⊢
  have HG := kp (BFr.of_bel (bb := bb) (gm := gm) (F := F) HB.out)
  go_wp2
  obtain ⟨ts1, s, r, m, ht1, hc, hm1, hd⟩ := HH.out.slot i c g hfF
  obtain rfl : ts = ts1 := Option.some.inj (htB.symm.trans ht1)
  have hmx : m < maxLen := by unfold maxLen; omega
  have v0 := HS.out.atL (show ([.chan (some c), .map (some g)] : List Value)[0]? = some (.chan (some c)) from rfl)
  have ks := HS.out.lt
  have qg := HH.out.gm_chan hfF
  have q7 := HH.out.chan_ne hfF HS.out
  refine wpN_seq_plain fun K hK => ?_
  go_wp2
  refine wpN_seq_k fun K hK => ?_
  refine wpN_selSend_room 67 rfl rfl rfl (c := c) (v := .string tx) rfl rfl hc (by rw [lineV_size]; exact hroom) ?_
  clear v0 ks
  have hc1 := heap_setChan Y c B.each ((lineV ts).push (.string tx)) false (s + 1) r false (Array.getElem?_eq_some_iff.1 hc).1
  rw [lineV_push] at hc1 ⊢
  have g1 := gbchan Y c B.each (lineV (ts ++ [bs tx])) false (s + 1) r false
  have HS := kp (HS.out.grown g1 (by simpa using q7.1))
  have hd := hd.kept g1 (by simpa using Ne.symm qg.2.1)
  have HSZ := kp g1.size
  have hbk := HH.out.blk.grown g1 (by simpa using (HH.out.chan_ne hfF HH.out.blk).1)
  generalize hY2 : Y.setChan c B.each (lineV (ts ++ [bs tx])) false (s + 1) r false = Y2 at hc1 g1 HS hd hbk ⊢
  obtain ⟨w3, hp, hd3, g3⟩ := hd.put tx htx hmx
  have hd3 := hd3.congr (L' := ts ++ [bs tx]) (fun k => by simp [or_comm])
  have HN := kp (HH.out.sent hfF htB (bs tx) (s := s + 1) (r := r) (by omega) g1 hc1 g3 hd3)
  have HS3 := kp (HS.out.grown g3 (by simpa using q7.2))
  have HG3 := kp ((HG.out.trans (BFr.of_grown g1 (Or.inr (Or.inr ⟨i, c, g, hf, Or.inl rfl⟩)))).trans (BFr.of_grown g3 (Or.inr (Or.inr ⟨i, c, g, hf, Or.inr rfl⟩))))
  clear g1 g3 hc1 hbk hd3 hd
  go_wp2
  have v1 := HS.out.atL (show ([.chan (some c), .map (some g)] : List Value)[1]? = some (.map (some g)) from rfl)
  have ks := HS.out.lt
  refine wpN_of_wp ?_
  go_upto_region 18 with (refine wpL_mapUpdate rfl 79 _ _ _ rfl rfl rfl rfl hp ?_)
  clear v1 ks hp
  have y3 := HN.out.blk.atL (show (bufC B.each B.room gm B.sz B.dr)[3]? = some (.int .i64 B.sz) from rfl)
  have kb := HN.out.blk.lt
  have fz := HN.out.blk.frozen 3
  have HZ := kp (HN.out.set { B with sl := upd B.sl i (ts ++ [bs tx]), sz := B.sz + 1 } 3 (.int .i64 (B.sz + 1)) rfl rfl rfl)
  have HGZ := kp (HG3.out.trans (BFr.of_grown (gbset w3 bb 3 (.int .i64 (B.sz + 1))) (Or.inl rfl)))
  clear HN HG3
  go_wp2
  go_ret
  exact ⟨rfl, HZ.out, HGZ.out⟩
set_option maxHeartbeats 4000000 in
set_option maxRecDepth 100000 in
theorem U_Put_full (bb gm n : Nat) (F : List (Int × (Nat × Nat))) (B : Bf) (i : Int) (tx : ByteArray) (hi : (kI i).wf = true) (h : 1 ≤ i) (htx : tx.size ≤ maxLen) (c g : Nat) (hf : fnd F i = some (c, g)) (ts : List (List UInt8)) (htB : fnd B.sl i = some ts) (hnt : bs tx ∉ ts) (hfull : B.each ≤ ts.length) (hdr : 0 ≤ B.dr ∧ B.dr < 4611686018427387904) (w : World) (H : BF w bb gm n F B) : Calls Tryz.prog 67 #[.pointer (some ⟨bb, 0, none⟩), .int .i64 i, .string tx] w fun e w' => e = .returned (.int .i64 4) ∧ BF w' bb gm n F { B with dr := B.dr + 1 } ∧ BFr bb gm F w w' := by
  have hl : (Instr.lookup 176 (.map (some gm)) (.int .i64 i) true).run Tryz.prog w = .ok (.tuple #[((fnd F i).map SL.val).getD SL.z, .bool (fnd F i).isSome]) w := H.im.look i hi
  rw [hf] at hl
  obtain ⟨V, hV⟩ : ∃ V : List Value, [Value.chan (some c), Value.map (some g)] = V := ⟨_, rfl⟩
  have hV2 : V.length = 2 := by rw [← hV]; rfl
  have hV1 : ∀ v ∈ V, v.oneCell' = true := by rw [← hV]; exact sl_one _ _ rfl rfl
  have V0 : Kp (V[0]? = some (.chan (some c))) := kp (by rw [← hV]; rfl)
  have V1 : Kp (V[1]? = some (.map (some g))) := kp (by rw [← hV]; rfl)
  replace hl : (Instr.lookup 176 (.map (some gm)) (.int .i64 i) true).run Tryz.prog w = .ok (.tuple #[.agg V.toArray, .bool true]) w := by rw [← hV]; exact hl
  have HV := kp hV
  clear hV
  have HV1 := kp hV1
  clear hV1
  have x2 := H.blk.atL (show (bufC B.each B.room gm B.sz B.dr)[2]? = some (.map (some gm)) from rfl)
  have kl := H.blk.lt
  have SC := sc_new (P := Tryz.prog) w 181 V HV1.out #[.chan none, .map none] (by rw [hV2]; rfl)
  have HS := kp (Blk.new w 181 V.toArray)
  have HH := kp (H.bel (ba (Below.refl w.heap.size w) (.cells V.toArray 181)))
  have HB := kp (ba (Below.refl w.heap.size w) (.cells V.toArray 181))
  refine callsN Tryz.func67 rfl ?_
  simp only [Tryz.ntmps67, List.size_toArray, List.length_cons, List.length_nil, Nat.reduceAdd, Nat.reduceSub, Array.replicate_succ,
     Array.replicate_zero, List.push_toArray, List.append_toArray, List.nil_append, List.cons_append]
  refine wpN_seq_plain fun K hK => ?_
  go_wp2
  refine wpN_seq_plain fun K hK => ?_
  go_wp2
  clear SC hl x2 kl
  change wpN _ _ _ _ (w.alloc (.cells V.toArray 181))
  generalize w.alloc (.cells V.toArray 181) = W at HS HH HB ⊢
  have h1 : ¬ i < 1 := by omega
  have hfF := hf
  have v1 := HS.out.atL V1.out
  have ks := HS.out.lt
  obtain ⟨ts0, s0, r0, m0, ht0, hc0, hm0, hd0⟩ := HH.out.slot i c g hf
  obtain rfl : ts = ts0 := Option.some.inj (htB.symm.trans ht0)
  have hlk := hd0.look tx htx
  rw [decide_eq_false hnt] at hlk
  clear hd0 hc0 ht0 hm0
  refine wpN_seq_plain fun K hK => ?_
  go_upto_region 6 with (fail)
  refine wp_region_ext [0, 1, 2, 3, 4, 5, 6, 7, 8, 9, 10, 11, 12, 13] [14] (by kernel_rfl) (by kernel_rfl) ?_
  simp only [List.map_cons, List.map_nil, List.getD_cons_succ, List.getD_cons_zero]
  repeat (go_big_quiet_step (fail))
  refine wpQuiet_nil ?_
  rintro z
  clear v1 ks hlk
  have HH := kp (HH.out.bel (ext_below W z))
  have HB := kp (bt' HB.out (ext_below W z) HB.out.size)
  have HS := kp (HS.out.bel (ext_below W z))
  rw [← HV.out] at HS
  generalize World.ext W z = Y at HH HB HS ⊢
  have HG := kp (BFr.of_bel (bb := bb) (gm := gm) (F := F) HB.out)
  go_wp2
  obtain ⟨ts1, s, r, m, ht1, hc, hm1, hd⟩ := HH.out.slot i c g hfF
  obtain rfl : ts = ts1 := Option.some.inj (htB.symm.trans ht1)
  have v0 := HS.out.atL (show ([.chan (some c), .map (some g)] : List Value)[0]? = some (.chan (some c)) from rfl)
  have ks := HS.out.lt
  refine wpN_seq_plain fun K hK => ?_
  go_wp2
  refine wpN_seq_k fun K hK => ?_
  refine wpN_selSend_full 67 rfl rfl rfl (c := c) (v := .string tx) rfl rfl hc (by rw [lineV_size]; exact hfull) ?_
  clear v0 ks hc hd ht1
  go_wp2
  refine wpN_of_wp ?_
  have y3 := HH.out.blk.atL (show (bufC B.each B.room gm B.sz B.dr)[4]? = some (.int .i64 B.dr) from rfl)
  have kb := HH.out.blk.lt
  have fz := HH.out.blk.frozen 4
  have HZ := kp (HH.out.set { B with dr := B.dr + 1 } 4 (.int .i64 (B.dr + 1)) rfl rfl rfl)
  have HGZ := kp (HG.out.trans (BFr.of_grown (gbset Y bb 4 (.int .i64 (B.dr + 1))) (Or.inl rfl)))
  go_wp2
  go_ret
  exact ⟨rfl, HZ.out, HGZ.out⟩
set_option maxHeartbeats 4000000 in
set_option maxRecDepth 100000 in
theorem U_Put_new (bb gm n : Nat) (F : List (Int × (Nat × Nat))) (B : Bf) (i : Int) (tx : ByteArray) (hi : (kI i).wf = true) (h : 1 ≤ i) (htx : tx.size ≤ maxLen) (hf : fnd F i = none) (hr : B.sl.length < B.room) (hrm : B.room ≤ 64) (heach : 1 ≤ B.each ∧ B.each ≤ 64) (hn : n < maxLen) (hsz : 0 ≤ B.sz ∧ B.sz < 4611686018427387904) (w : World) (H : BF w bb gm n F B) : Calls Tryz.prog 67 #[.pointer (some ⟨bb, 0, none⟩), .int .i64 i, .string tx] w fun e w' => e = .returned (.int .i64 0) ∧ ∃ c g, BF w' bb gm (n + 1) ((i, (c, g)) :: F) { B with sl := (i, [bs tx]) :: B.sl, sz := B.sz + 1 } ∧ BFr bb gm F w w' ∧ w.heap.size ≤ c ∧ w.heap.size ≤ g := by
  have hl : (Instr.lookup 176 (.map (some gm)) (.int .i64 i) true).run Tryz.prog w = .ok (.tuple #[((fnd F i).map SL.val).getD SL.z, .bool (fnd F i).isSome]) w := H.im.look i hi
  rw [hf] at hl
  obtain ⟨V, hV⟩ : ∃ V : List Value, [Value.chan none, Value.map none] = V := ⟨_, rfl⟩
  have hV2 : V.length = 2 := by rw [← hV]; rfl
  have hV1 : ∀ v ∈ V, v.oneCell' = true := by rw [← hV]; exact sl_one _ _ rfl rfl
  have V0 : Kp (V[0]? = some (.chan none)) := kp (by rw [← hV]; rfl)
  have V1 : Kp (V[1]? = some (.map none)) := kp (by rw [← hV]; rfl)
  replace hl : (Instr.lookup 176 (.map (some gm)) (.int .i64 i) true).run Tryz.prog w = .ok (.tuple #[.agg V.toArray, .bool false]) w := by rw [← hV]; exact hl
  have HV := kp hV
  clear hV
  have HV1 := kp hV1
  clear hV1
  have x2 := H.blk.atL (show (bufC B.each B.room gm B.sz B.dr)[2]? = some (.map (some gm)) from rfl)
  have kl := H.blk.lt
  have SC := sc_new (P := Tryz.prog) w 181 V HV1.out #[.chan none, .map none] (by rw [hV2]; rfl)
  have HS := kp (Blk.new w 181 V.toArray)
  have HH := kp (H.bel (ba (Below.refl w.heap.size w) (.cells V.toArray 181)))
  have HB := kp (ba (Below.refl w.heap.size w) (.cells V.toArray 181))
  refine callsN Tryz.func67 rfl ?_
  simp only [Tryz.ntmps67, List.size_toArray, List.length_cons, List.length_nil, Nat.reduceAdd, Nat.reduceSub, Array.replicate_succ,
     Array.replicate_zero, List.push_toArray, List.append_toArray, List.nil_append, List.cons_append]
  refine wpN_seq_plain fun K hK => ?_
  go_wp2
  refine wpN_seq_plain fun K hK => ?_
  go_wp2
  clear SC hl x2 kl
  change wpN _ _ _ _ (w.alloc (.cells V.toArray 181))
  generalize w.alloc (.cells V.toArray 181) = W at HS HH HB ⊢
  have hlk := fun w => look_none tx htx w
  have v1 := HS.out.atL V1.out
  have ks := HS.out.lt
  have h1 : ¬ i < 1 := by omega
  have hkeys := H.keys
  have hlen : F.length = B.sl.length := by rw [← List.length_map (f := fun p : Int × (Nat × Nat) => p.1), HH.out.keys, List.length_map]
  have y2 := HH.out.blk.atL (show (bufC B.each B.room gm B.sz B.dr)[2]? = some (.map (some gm)) from rfl)
  have y1 := HH.out.blk.atL (show (bufC B.each B.room gm B.sz B.dr)[1]? = some (.int .i64 B.room) from rfl)
  have kb := HH.out.blk.lt
  have gr : ((B.sl.length : Int) == (B.room : Int)) = false := by simp; omega
  refine wpN_seq_plain fun K hK => ?_
  go_upto_region 6 with (fail)
  have hle := fun (z : World) (ty : TypeId) => (HH.out.im.bel (ext_below W z)).len ty
  have hle : ∀ (z : World) (ty : TypeId), (Builtin.len_ #[176] ty #[.map (some gm)]).run Tryz.prog (W.ext z) = .ok (.int .i64 (B.sl.length : Int)) (W.ext z) := fun z ty => by rw [← hlen]; exact hle z ty
  refine wp_region_ext [0, 1, 2, 3, 4, 5, 6, 7, 8, 9, 10, 11, 12, 13] [14] (by kernel_rfl) (by kernel_rfl) ?_
  simp only [List.map_cons, List.map_nil, List.getD_cons_succ, List.getD_cons_zero]
  repeat (go_big_quiet_step (fail))
  refine wpQuiet_nil ?_
  rintro z
  clear hle y2 y1 kb v1 ks hlk
  have HH := kp (HH.out.bel (ext_below W z))
  have HB := kp (bt' HB.out (ext_below W z) HB.out.size)
  have HS := kp (HS.out.bel (ext_below W z))
  generalize World.ext W z = X at HH HB HS ⊢
  have y0 := HH.out.blk.atL (show (bufC B.each B.room gm B.sz B.dr)[0]? = some (.int .i64 B.each) from rfl)
  have hmc := run_chan B.each heach.2 X
  have hmm := @run_makeMap Tryz.prog
  have kb := HH.out.blk.lt
  have ks := HS.out.lt
  have ST := st_all (P := Tryz.prog) (w := (X.alloc (.chan B.each #[] false 0 0 false)).alloc (.map #[] 0)) w.heap.size 2 181 181 [.chan (some X.heap.size), .map (some (X.heap.size + 1))] V info_sl rfl hV2 (by have := (HS.out.alloc (.chan B.each #[] false 0 0 false)).alloc (.map #[] 0); exact this) (sl_one _ _ rfl rfl)
  go_upto_region 11 with (refine wpL_store rfl 181 _ _ rfl rfl rfl ST ?_)
  clear ST y0 kb ks hmc hmm
  have hab := ba (ba (Below.refl X.heap.size X) (.chan B.each #[] false 0 0 false)) (.map #[] 0)
  have hHS := (HS.out.alloc (.chan B.each #[] false 0 0 false)).alloc (.map #[] 0)
  have g0 := gbrow ((X.alloc (.chan B.each #[] false 0 0 false)).alloc (.map #[] 0)) w.heap.size ([.chan (some X.heap.size), .map (some (X.heap.size + 1))] : List Value).toArray
  have hw0 : w.heap.size ≠ X.heap.size := by have := HS.out.lt; omega
  have hw1 : w.heap.size ≠ X.heap.size + 1 := by have := HS.out.lt; omega
  have HH1 := kp ((HH.out.bel hab).keepB hHS (by decide) g0)
  have HS1 := kp (hHS.row ([.chan (some X.heap.size), .map (some (X.heap.size + 1))] : List Value).toArray)
  have hc1 : (((X.alloc (.chan B.each #[] false 0 0 false)).alloc (.map #[] 0)).setRow w.heap.size ([.chan (some X.heap.size), .map (some (X.heap.size + 1))] : List Value).toArray).heap[X.heap.size]? = some (.chan B.each #[] false 0 0 false) := (g0.block _ (by simp; omega) (by simpa using Ne.symm hw0)).trans ((Below.heap_alloc (X.alloc (.chan B.each #[] false 0 0 false)) (.map #[] 0) X.heap.size (by simp)).trans (heap_alloc_new X _))
  have hd1 := Drw.made (X.alloc (.chan B.each #[] false 0 0 false))
  rw [size_all] at hd1
  have hd1 := hd1.kept g0 (by simpa using Ne.symm hw1)
  have hfr : ∀ j c' g', fnd F j = some (c', g') → X.heap.size ≠ c' ∧ X.heap.size + 1 ≠ g' := fun j c' g' hj => by
    obtain ⟨ts, s, r, m, k1, k2, k3, k4⟩ := HH.out.slot j c' g' hj
    have a1 := (Array.getElem?_eq_some_iff.1 k2).1
    have a2 := k4.lt
    omega
  have hgm : X.heap.size + 1 ≠ gm := by have := HH.out.im.lt; omega
  have lc : w.heap.size ≤ X.heap.size := HB.out.size
  have HG := kp (((BFr.of_bel (bb := bb) (gm := gm) (F := F) (bt' HB.out hab HB.out.size))).new g0 (Nat.le_refl _))
  have lg : w.heap.size ≤ X.heap.size + 1 := by omega
  change Code.wp _ _ _ _ (((X.alloc (.chan B.each #[] false 0 0 false)).alloc (.map #[] 0)).setRow w.heap.size ([.chan (some X.heap.size), .map (some (X.heap.size + 1))] : List Value).toArray)
  clear HS HH HB hHS hab g0
  generalize ((X.alloc (.chan B.each #[] false 0 0 false)).alloc (.map #[] 0)).setRow w.heap.size ([.chan (some X.heap.size), .map (some (X.heap.size + 1))] : List Value).toArray = Z at HH1 HS1 hc1 hd1 HG ⊢
  generalize X.heap.size + 1 = g at *
  generalize X.heap.size = c at *
  have v0 := HS1.out.atL (show ([.chan (some c), .map (some g)] : List Value)[0]? = some (.chan (some c)) from rfl)
  have v1 := HS1.out.atL (show ([.chan (some c), .map (some g)] : List Value)[1]? = some (.map (some g)) from rfl)
  have ks := HS1.out.lt
  have y2 := HH1.out.blk.atL (show (bufC B.each B.room gm B.sz B.dr)[2]? = some (.map (some gm)) from rfl)
  have kb := HH1.out.blk.lt
  try dsimp only [Act.put]
  refine wp_region_ext [0, 1, 2, 3, 4, 5] [6] (by kernel_rfl) (by kernel_rfl) ?_
  simp only [List.map_cons, List.map_nil, List.getD_cons_succ, List.getD_cons_zero]
  repeat (go_big_quiet_step (fail))
  refine wpQuiet_nil ?_
  rintro z
  clear v0 v1 ks y2 kb
  have HH := kp (HH1.out.bel (ext_below Z z))
  have HS := kp (HS1.out.bel (ext_below Z z))
  have hc1 := heap_bel hc1 (ext_below Z z)
  have hd1 := hd1.bel (ext_below Z z)
  have HG := kp (HG.out.trans (BFr.of_bel (ext_below Z z)))
  clear HH1 HS1
  generalize World.ext Z z = V1 at HH HS hc1 hd1 HG ⊢
  obtain ⟨Y, hp, him, htn⟩ := HH.out.im.put i hi hn (c, g)
  have hp : (Instr.mapUpdate 176 (.map (some gm)) (.int .i64 i) (.agg #[.chan (some c), .map (some g)])).run Tryz.prog V1 = .ok () Y := hp
  have g3 := htn.grown
  have HM := kp (HH.out.more hf him g3 hc1 hd1 hfr hgm)
  have HS3 := kp (HS.out.grown g3 (by simpa using HH.out.gm_ne HS.out))
  have HG3 := kp (HG.out.trans (BFr.of_grown g3 (Or.inr (Or.inl rfl))))
  clear him htn g3 hc1 hd1 hfr HG HS HH
  go_wp2_with (refine wpL_mapUpdate rfl 176 _ _ _ rfl rfl rfl rfl hp ?_)
  have HH := HM
  have HS := HS3
  have HG := HG3
  have hfF : fnd ((i, (c, g)) :: F) i = some (c, g) := fnd_cons_same _ _
  have htB : fnd ((i, []) :: B.sl) i = some ([] : List (List UInt8)) := fnd_cons_same _ _
  have hroom : ([] : List (List UInt8)).length < B.each := by simp; omega
  have hmax := heach.2
  have hup : upd ((i, []) :: B.sl) i ([] ++ [bs tx]) = (i, [bs tx]) :: B.sl := by
    have h0 : fnd B.sl i = none := (fnd_keys hkeys i).1 hf
    have := upd_none h0 [bs tx]
    unfold upd at this ⊢
    rw [List.map_cons, if_pos rfl]
    exact congrArg _ this
  clear HM HS3 HG3 hp
  obtain ⟨ts1, s, r, m, ht1, hc, hm1, hd⟩ := HH.out.slot i c g hfF
  obtain rfl : [] = ts1 := Option.some.inj (htB.symm.trans ht1)
  have hmx : m < maxLen := by unfold maxLen; omega
  have v0 := HS.out.atL (show ([.chan (some c), .map (some g)] : List Value)[0]? = some (.chan (some c)) from rfl)
  have ks := HS.out.lt
  have qg := HH.out.gm_chan hfF
  have q7 := HH.out.chan_ne hfF HS.out
  refine wpN_seq_plain fun K hK => ?_
  go_wp2
  refine wpN_seq_k fun K hK => ?_
  refine wpN_selSend_room 67 rfl rfl rfl (c := c) (v := .string tx) rfl rfl hc (by rw [lineV_size]; exact hroom) ?_
  clear v0 ks
  have hc1 := heap_setChan Y c B.each ((lineV []).push (.string tx)) false (s + 1) r false (Array.getElem?_eq_some_iff.1 hc).1
  rw [lineV_push] at hc1 ⊢
  have g1 := gbchan Y c B.each (lineV ([] ++ [bs tx])) false (s + 1) r false
  have HS := kp (HS.out.grown g1 (by simpa using q7.1))
  have hd := hd.kept g1 (by simpa using Ne.symm qg.2.1)
  have HSZ := kp g1.size
  have hbk := HH.out.blk.grown g1 (by simpa using (HH.out.chan_ne hfF HH.out.blk).1)
  generalize hY2 : Y.setChan c B.each (lineV ([] ++ [bs tx])) false (s + 1) r false = Y2 at hc1 g1 HS hd hbk ⊢
  obtain ⟨w3, hp, hd3, g3⟩ := hd.put tx htx hmx
  have hd3 := hd3.congr (L' := [] ++ [bs tx]) (fun k => by simp [or_comm])
  have HN := kp (HH.out.sent hfF htB (bs tx) (s := s + 1) (r := r) (by omega) g1 hc1 g3 hd3)
  have HS3 := kp (HS.out.grown g3 (by simpa using q7.2))
  have HG3 := kp ((HG.out.new g1 lc).new g3 lg)
  clear g1 g3 hc1 hbk hd3 hd
  go_wp2
  have v1 := HS.out.atL (show ([.chan (some c), .map (some g)] : List Value)[1]? = some (.map (some g)) from rfl)
  have ks := HS.out.lt
  refine wpN_of_wp ?_
  go_upto_region 18 with (refine wpL_mapUpdate rfl 79 _ _ _ rfl rfl rfl rfl hp ?_)
  clear v1 ks hp
  have y3 := HN.out.blk.atL (show (bufC B.each B.room gm B.sz B.dr)[3]? = some (.int .i64 B.sz) from rfl)
  have kb := HN.out.blk.lt
  have fz := HN.out.blk.frozen 3
  have HZ := kp (HN.out.set { B with sl := upd ((i, []) :: B.sl) i ([] ++ [bs tx]), sz := B.sz + 1 } 3 (.int .i64 (B.sz + 1)) rfl rfl rfl)
  have HGZ := kp (HG3.out.trans (BFr.of_grown (gbset w3 bb 3 (.int .i64 (B.sz + 1))) (Or.inl rfl)))
  clear HN HG3
  go_wp2
  go_ret
  exact ⟨rfl, c, g, by have := HZ.out; rwa [hup] at this, HGZ.out, lc, lg⟩
end Go.Proofs.YtmblknknbbdmeaaGreat
/- octet's Take: what it tells. -/
namespace Go.Proofs.YtmblknknbbdmeaaGreat
open Go Go.RowKit
set_option linter.unusedVariables false
set_option linter.unusedSimpArgs false
attribute [local go_sem] bmax2 bmin2 bmax bmin

theorem octet_Take_any (s : ByteArray) (w : World) (hs : s.size ≤ 8) :
    Calls Tryz.prog 137 #[.string s] w fun e w' => e = .returned (.tuple #[.int .u64 (takeN (bs s)), .int .i64 0]) ∧ w = w' := by
  go_enter Tryz.func137, Tryz.ntmps137
  go_wp2
  go_loop [4, 11] (fun n i => ∃ k : Nat, k ≤ s.size ∧ i = .int .i64 k ∧ n = .int .u64 (takeN ((bs s).take k))) (fun _ i => s.size - (intOf i).toNat)
  case atStart => exact ⟨0, Nat.zero_le _, rfl, rfl⟩
  case round =>
    obtain ⟨k, hk, rfl, rfl⟩ := hrel
    by_cases hlt : k < s.size
    · go_wp2
      go_round
      case measure => simp [intOf]; omega
      case rel =>
        refine ⟨k + 1, by omega, by go_num, congrArg _ ?_⟩
        have hsn := take_snoc (bs s) k hlt
        have hl : (List.take (k + 1) (bs s)).length ≤ 8 := by rw [List.length_take]; omega
        have hlt64 := takeN_lt64 _ hl
        rw [hsn, takeN_snoc] at hlt64 ⊢
        exact shl8_or _ _ (UInt8.toNat_lt _) hlt64
    · go_wp2
      go_ret2
      exact ⟨by rw [List.take_of_length_le (by rw [size_bs]; omega)]; rfl, rfl⟩

theorem octet_Take_long (s : ByteArray) (w : World) (hs : 8 < s.size) :
    Calls Tryz.prog 137 #[.string s] w fun e w' => e = .returned (.tuple #[.int .u64 0, .int .i64 5]) ∧ w = w' := by
  go_enter Tryz.func137, Tryz.ntmps137
  go_wp2
  go_ret2
  exact ⟨rfl, rfl⟩


theorem octet_Left_any (n : Nat) (by' : Int) (w : World) (hn : n < 4294967296) :
    Calls Tryz.prog 168 #[.int .u32 n, .int .i64 by'] w fun e w' => e = .returned (.int .u32 (leftN n (by' % 32).toNat)) ∧ ∃ m, w' = w.drewN m := by
  have h1 := i64_and31 by'
  have h2 : 0 ≤ by' % 32 := by omega
  have h3 : by' % 32 < 32 := by omega
  obtain ⟨k, hk⟩ : ∃ k : Nat, by' % 32 = k := ⟨(by' % 32).toNat, by omega⟩
  rw [hk] at h1 h2 h3 ⊢
  have hn' : (n : Int) < 4294967296 := by omega
  clear hk
  go_enter Tryz.func168, Tryz.ntmps168
  go_wp2
  go_quiet (fail)
  go_wp2
  go_ret
  exact ⟨congrArg _ (congrArg _ (left_eq n k hn (by omega))), nq, rfl⟩



theorem info_u8 : (Tryz.prog.info? 5).map (fun i => (i.zero, i.size, i.bytes)) = some (some (.int .u8 0), 1, 1) := by kernel_rfl

theorem octet_Put_mid (n : Nat) (k : Nat) (w : World) (hn : n < U64) (h8 : k ≤ 8) (b : Int) (hb : min (max b 0) 8 = (k : Int)) :
    Calls Tryz.prog 119 #[.int .u64 n, .int .i64 b] w fun e w' => e = .returned (.string (str (putL n k))) ∧ Below w.heap.size w w' := by
  have h8' : (k : Int) ≤ 8 := by omega
  obtain ⟨i0, hi, hz0, hz1, hz2⟩ := info_parts info_u8
  have hby : i0.bytes * k ≤ 281474976710656 := by rw [hz2]; omega
  have hmx : k ≤ maxLen := by unfold maxLen; omega
  have Hz2 := hid hz2
  have Hz1 := hid hz1
  clear hz2 hz1
  go_enter Tryz.func119, Tryz.ntmps119
  go_wp2_with (refine wpList_make_full _ rfl _ _ 93 rfl w.heap.size 5 i0 (.int .u8 0) 1 Tryz.underlying93 hi hz0 Hz1.out .i64 .i64 _ _ k rfl rfl rfl rfl hby hmx (Nat.le_refl _) ?_; intro w1 hown hgr)
  have HB0 : Below w.heap.size w w1 := (Below.refl _ _).grown hgr (Nat.le_refl _) (fun _ h => by cases h)
  have HB := hid HB0
  have HO := hid hown
  have hsz := hgr.size
  clear HB0 hown hgr
  go_loopw [14] (fun i wr => ∃ j : Nat, j ≤ k ∧ i = .int .i64 j ∧ wr.ownsRow w.heap.size 5 1 (.slice (some ⟨w.heap.size, 0, none⟩) k k) k (cellsU8 (putUp n k j)) ∧ Below w.heap.size w wr) (fun i _ => k - (intOf i).toNat)
  case atStart => exact ⟨0, Nat.zero_le _, rfl, (by rw [putUp_zero, ← cellsU8_zero]; exact HO.out), HB.out⟩
  case round =>
    obtain ⟨j, hj, rfl, ho, hbl⟩ := hrel
    have hl := length_putUp n k j hj
    by_cases hlt : j < k
    · have hc := ho.cellAt j (by omega)
      have hf := ho.frozenAt j
      have hst := hid (ho.stored j (.int .u8 ((n : Int) / 2 ^ (8 * (k - 1 - j)) % 256)))
      rw [cellsU8_get _ _ (by omega)] at hc
      have Hbl := hid hbl
      clear ho hbl
      go_wp2
      go_roundw
      case measure => simp [intOf]; omega
      case rel =>
        refine ⟨j + 1, by omega, by go_num, ?_, Hbl.out.setCell (Nat.le_refl _) _⟩
        have := hst.out.1
        rw [shr_byte, cellsU8_set, putUp_set n k j hlt] at this
        rw [shr_byte]
        exact this
    · obtain rfl : j = k := by omega
      have hcv := own_str 93 Tryz.underlying93 Tryz.underlying5 Tryz.underlying9 ho
      go_wp2
      go_ret
      exact ⟨by rw [putUp_all]; rfl, hbl⟩

end Go.Proofs.YtmblknknbbdmeaaGreat
/- The shelf's contracts of Go's library at this program, as the kit's tool lays them. -/
namespace Go.Proofs
open Go.Shelf
def Tryz.lays170_ren : Go.Shelf.Ren := ⟨fun | 170 => 173 | n => n, fun | 70 => 265 | 3 => 3 | 0 => 0 | 72 => 267 | 37 => 93 | 5 => 5 | n => n, fun | n => n⟩
theorem Tryz.lays170 : Go.Proofs.Lays.n170 Tryz.prog Tryz.lays170_ren := {
  mixed := by kernel_rfl
  f170 := Tryz.func173.trans (congrArg some (by kernel_rfl))
  t0 := Tryz.underlying0
  a0 := Tryz.isAgg0
  z0 := Tryz.sizeOf0
  v0 := Tryz.zeroValue0
  t3 := Tryz.underlying3
  a3 := Tryz.isAgg3
  z3 := Tryz.sizeOf3
  v3 := Tryz.zeroValue3
  t37 := Tryz.underlying93
  a37 := Tryz.isAgg93
  z37 := Tryz.sizeOf93
  v37 := Tryz.zeroValue93
  t70 := Tryz.underlying265
  a70 := Tryz.isAgg265
  z70 := Tryz.sizeOf265
  v70 := Tryz.zeroValue265
  t72 := Tryz.underlying267
  a72 := Tryz.isAgg267
  z72 := Tryz.sizeOf267
  v72 := Tryz.zeroValue267 }
open Go.RowKit in
theorem Tryz.Builder_Len (B b : Nat) (bs : List Value) (w : World) (h : Lib.IsBuilder 267 5 B b bs w) :
    Calls Tryz.prog 173 #[.pointer (some ⟨b, 0, none⟩)] w fun e w' => e = .returned (.int .i64 bs.length) ∧ w' = w := Any.Builder_Len Tryz.lays170 B b bs w h
def Tryz.lays169_ren : Go.Shelf.Ren := ⟨fun | 169 => 174 | n => n, fun | 70 => 265 | 9 => 9 | 0 => 0 | 72 => 267 | 37 => 93 | 127 => 285 | 3 => 3 | 5 => 5 | n => n, fun | n => n⟩
theorem Tryz.lays169 : Go.Proofs.Lays.n169 Tryz.prog Tryz.lays169_ren := {
  mixed := by kernel_rfl
  f169 := Tryz.func174.trans (congrArg some (by kernel_rfl))
  t0 := Tryz.underlying0
  a0 := Tryz.isAgg0
  z0 := Tryz.sizeOf0
  v0 := Tryz.zeroValue0
  t3 := Tryz.underlying3
  a3 := Tryz.isAgg3
  z3 := Tryz.sizeOf3
  v3 := Tryz.zeroValue3
  t9 := Tryz.underlying9
  a9 := Tryz.isAgg9
  z9 := Tryz.sizeOf9
  v9 := Tryz.zeroValue9
  t37 := Tryz.underlying93
  a37 := Tryz.isAgg93
  z37 := Tryz.sizeOf93
  v37 := Tryz.zeroValue93
  t70 := Tryz.underlying265
  a70 := Tryz.isAgg265
  z70 := Tryz.sizeOf265
  v70 := Tryz.zeroValue265
  t72 := Tryz.underlying267
  a72 := Tryz.isAgg267
  z72 := Tryz.sizeOf267
  v72 := Tryz.zeroValue267
  t127 := Tryz.underlying285
  a127 := Tryz.isAgg285
  z127 := Tryz.sizeOf285
  v127 := Tryz.zeroValue285 }
theorem Tryz.Builder_Extra_169 : Builder.Extra Tryz.prog Tryz.lays169_ren := {
  sizeBuilder := by kernel_rfl
  liesBuilder := by kernel_rfl
  t5 := Tryz.underlying5
  a5 := Tryz.isAgg5
  z5 := Tryz.sizeOf5
  v5 := Tryz.zeroValue5
  infoByte := by kernel_rfl
  cellsByte := by kernel_rfl
  sizeByte := by kernel_rfl
  neB5 := by decide }
open Go.RowKit in
theorem Tryz.Builder_String (B b : Nat) (l : List UInt8) (w : World) (h : Lib.IsBuilder 267 5 B b (Lib.byteCells l) w) (h0 : l ≠ []) :
    Calls Tryz.prog 174 #[.pointer (some ⟨b, 0, none⟩)] w fun e w' => e = .returned (.string ⟨l.toArray⟩) ∧ Below B w w' := Any.Builder_String Tryz.lays169 Tryz.Builder_Extra_169 B b l w h h0
open Go.RowKit in
theorem Tryz.Builder_String_empty (B b : Nat) (w : World) (h : Lib.IsBuilder 267 5 B b [] w) (hBw : B ≤ w.heap.size) :
    Calls Tryz.prog 174 #[.pointer (some ⟨b, 0, none⟩)] w fun e w' => e = .returned (.string ⟨#[]⟩) ∧ Below B w w' := Any.Builder_String_empty Tryz.lays169 Tryz.Builder_Extra_169 B b w h hBw
open Go.RowKit in
theorem Tryz.Builder_String_any (B b : Nat) (l : List UInt8) (w : World) (h : Lib.IsBuilder 267 5 B b (Lib.byteCells l) w) (hBw : B ≤ w.heap.size) :
    Calls Tryz.prog 174 #[.pointer (some ⟨b, 0, none⟩)] w fun e w' => e = .returned (.string ⟨l.toArray⟩) ∧ Below B w w' := Any.Builder_String_any Tryz.lays169 Tryz.Builder_Extra_169 B b l w h hBw
def Tryz.lays241_ren : Go.Shelf.Ren := ⟨fun | 241 => 190 | 277 => 198 | n => n, fun | 70 => 265 | 3 => 3 | 0 => 0 | 72 => 267 | 37 => 93 | 5 => 5 | n => n, fun | n => n⟩
theorem Tryz.lays241 : Go.Proofs.Lays.n241 Tryz.prog Tryz.lays241_ren := {
  mixed := by kernel_rfl
  f241 := Tryz.func190.trans (congrArg some (by kernel_rfl))
  f277 := Tryz.func198.trans (congrArg some (by kernel_rfl))
  t0 := Tryz.underlying0
  a0 := Tryz.isAgg0
  z0 := Tryz.sizeOf0
  v0 := Tryz.zeroValue0
  t3 := Tryz.underlying3
  a3 := Tryz.isAgg3
  z3 := Tryz.sizeOf3
  v3 := Tryz.zeroValue3
  t37 := Tryz.underlying93
  a37 := Tryz.isAgg93
  z37 := Tryz.sizeOf93
  v37 := Tryz.zeroValue93
  t70 := Tryz.underlying265
  a70 := Tryz.isAgg265
  z70 := Tryz.sizeOf265
  v70 := Tryz.zeroValue265
  t72 := Tryz.underlying267
  a72 := Tryz.isAgg267
  z72 := Tryz.sizeOf267
  v72 := Tryz.zeroValue267 }
theorem Tryz.Builder_Extra_241 : Builder.Extra Tryz.prog Tryz.lays241_ren := {
  sizeBuilder := by kernel_rfl
  liesBuilder := by kernel_rfl
  t5 := Tryz.underlying5
  a5 := Tryz.isAgg5
  z5 := Tryz.sizeOf5
  v5 := Tryz.zeroValue5
  infoByte := by kernel_rfl
  cellsByte := by kernel_rfl
  sizeByte := by kernel_rfl
  neB5 := by decide }
open Go.RowKit in
theorem Tryz.Builder_grow_fresh (B b n : Nat) (w : World) (hB : B ≤ b) (hbk : w.heap[b]? = some (.cells #[.pointer (some ⟨b, 0, none⟩), .slice none 0 0] 267 (0, 0))) (hBw : B ≤ w.heap.size) (hn : n ≤ 281474976710656) :
    Calls Tryz.prog 190 #[.pointer (some ⟨b, 0, none⟩), .int .i64 n] w fun e w' => e = .returned (.tuple #[]) ∧ (Lib.BuilderAt 267 5 B b (.pointer (some ⟨b, 0, none⟩)) [] w' ∧ Below B w w') := Any.Builder_grow_fresh Tryz.lays241 Tryz.Builder_Extra_241 B b n w hB hbk hBw hn
def Tryz.lays165_ren : Go.Shelf.Ren := ⟨fun | 165 => 171 | 240 => 189 | 241 => 190 | 276 => 197 | 277 => 198 | n => n, fun | 70 => 265 | 3 => 3 | 0 => 0 | 4 => 4 | 9 => 9 | 20 => 20 | 72 => 267 | 37 => 93 | 164 => 296 | 5 => 5 | n => n, fun | n => n⟩
theorem Tryz.lays165 : Go.Proofs.Lays.n165 Tryz.prog Tryz.lays165_ren := {
  mixed := by kernel_rfl
  f165 := Tryz.func171.trans (congrArg some (by kernel_rfl))
  f240 := Tryz.func189.trans (congrArg some (by kernel_rfl))
  f241 := Tryz.func190.trans (congrArg some (by kernel_rfl))
  f276 := Tryz.func197.trans (congrArg some (by kernel_rfl))
  f277 := Tryz.func198.trans (congrArg some (by kernel_rfl))
  t0 := Tryz.underlying0
  a0 := Tryz.isAgg0
  z0 := Tryz.sizeOf0
  v0 := Tryz.zeroValue0
  t3 := Tryz.underlying3
  a3 := Tryz.isAgg3
  z3 := Tryz.sizeOf3
  v3 := Tryz.zeroValue3
  t4 := Tryz.underlying4
  a4 := Tryz.isAgg4
  z4 := Tryz.sizeOf4
  v4 := Tryz.zeroValue4
  t9 := Tryz.underlying9
  a9 := Tryz.isAgg9
  z9 := Tryz.sizeOf9
  v9 := Tryz.zeroValue9
  t20 := Tryz.underlying20
  a20 := Tryz.isAgg20
  z20 := Tryz.sizeOf20
  v20 := Tryz.zeroValue20
  t37 := Tryz.underlying93
  a37 := Tryz.isAgg93
  z37 := Tryz.sizeOf93
  v37 := Tryz.zeroValue93
  t70 := Tryz.underlying265
  a70 := Tryz.isAgg265
  z70 := Tryz.sizeOf265
  v70 := Tryz.zeroValue265
  t72 := Tryz.underlying267
  a72 := Tryz.isAgg267
  z72 := Tryz.sizeOf267
  v72 := Tryz.zeroValue267
  t164 := Tryz.underlying296
  a164 := Tryz.isAgg296
  z164 := Tryz.sizeOf296
  v164 := Tryz.zeroValue296 }
theorem Tryz.Builder_Extra_165 : Builder.Extra Tryz.prog Tryz.lays165_ren := {
  sizeBuilder := by kernel_rfl
  liesBuilder := by kernel_rfl
  t5 := Tryz.underlying5
  a5 := Tryz.isAgg5
  z5 := Tryz.sizeOf5
  v5 := Tryz.zeroValue5
  infoByte := by kernel_rfl
  cellsByte := by kernel_rfl
  sizeByte := by kernel_rfl
  neB5 := by decide }
open Go.RowKit in
theorem Tryz.Builder_Grow_fresh (B b n : Nat) (w : World) (hB : B ≤ b) (hbk : w.heap[b]? = some (.cells #[.pointer none, .slice none 0 0] 267 (0, 0))) (hBw : B ≤ w.heap.size) (hn : n ≤ 281474976710656) :
    Calls Tryz.prog 171 #[.pointer (some ⟨b, 0, none⟩), .int .i64 n] w fun e w' => e = .returned (.tuple #[]) ∧ (Lib.BuilderAt 267 5 B b (.pointer (some ⟨b, 0, none⟩)) [] w' ∧ Below B w w') := Any.Builder_Grow_fresh Tryz.lays165 Tryz.Builder_Extra_165 B b n w hB hbk hBw hn
def Tryz.lays128_ren : Go.Shelf.Ren := ⟨fun | 128 => 184 | n => n, fun | 51 => 22 | 3 => 3 | 4 => 4 | 46 => 229 | 5 => 5 | 9 => 9 | n => n, fun | n => n⟩
theorem Tryz.lays128 : Go.Proofs.Lays.n128 Tryz.prog Tryz.lays128_ren := {
  mixed := by kernel_rfl
  f128 := Tryz.func184.trans (congrArg some (by kernel_rfl))
  t3 := Tryz.underlying3
  a3 := Tryz.isAgg3
  z3 := Tryz.sizeOf3
  v3 := Tryz.zeroValue3
  t4 := Tryz.underlying4
  a4 := Tryz.isAgg4
  z4 := Tryz.sizeOf4
  v4 := Tryz.zeroValue4
  t5 := Tryz.underlying5
  a5 := Tryz.isAgg5
  z5 := Tryz.sizeOf5
  v5 := Tryz.zeroValue5
  t9 := Tryz.underlying9
  a9 := Tryz.isAgg9
  z9 := Tryz.sizeOf9
  v9 := Tryz.zeroValue9
  t46 := Tryz.underlying229
  a46 := Tryz.isAgg229
  z46 := Tryz.sizeOf229
  v46 := Tryz.zeroValue229
  t51 := Tryz.underlying22
  a51 := Tryz.isAgg22
  z51 := Tryz.sizeOf22
  v51 := Tryz.zeroValue22 }
theorem Tryz.bits_Len32 (x : Int) (w : World) (h0 : 0 ≤ x) (h1 : x ≤ 4294967295) :
    Calls Tryz.prog 184 #[.int .u32 x] w fun e w' => e = .returned (.int .i64 (Lib.bitLen x.toNat)) ∧ w' = w := Any.bits_Len32 Tryz.lays128 x w h0 h1
def Tryz.lays125_ren : Go.Shelf.Ren := ⟨fun | 125 => 165 | 128 => 184 | 129 => 185 | n => n, fun | 46 => 229 | 3 => 3 | 51 => 22 | 53 => 172 | 4 => 4 | 5 => 5 | 9 => 9 | n => n, fun | n => n⟩
theorem Tryz.lays125 : Go.Proofs.Lays.n125 Tryz.prog Tryz.lays125_ren := {
  mixed := by kernel_rfl
  f125 := Tryz.func165.trans (congrArg some (by kernel_rfl))
  f128 := Tryz.func184.trans (congrArg some (by kernel_rfl))
  f129 := Tryz.func185.trans (congrArg some (by kernel_rfl))
  t3 := Tryz.underlying3
  a3 := Tryz.isAgg3
  z3 := Tryz.sizeOf3
  v3 := Tryz.zeroValue3
  t4 := Tryz.underlying4
  a4 := Tryz.isAgg4
  z4 := Tryz.sizeOf4
  v4 := Tryz.zeroValue4
  t5 := Tryz.underlying5
  a5 := Tryz.isAgg5
  z5 := Tryz.sizeOf5
  v5 := Tryz.zeroValue5
  t9 := Tryz.underlying9
  a9 := Tryz.isAgg9
  z9 := Tryz.sizeOf9
  v9 := Tryz.zeroValue9
  t46 := Tryz.underlying229
  a46 := Tryz.isAgg229
  z46 := Tryz.sizeOf229
  v46 := Tryz.zeroValue229
  t51 := Tryz.underlying22
  a51 := Tryz.isAgg22
  z51 := Tryz.sizeOf22
  v51 := Tryz.zeroValue22
  t53 := Tryz.underlying172
  a53 := Tryz.isAgg172
  z53 := Tryz.sizeOf172
  v53 := Tryz.zeroValue172 }
theorem Tryz.bits_Len (x : Int) (w : World) (h0 : 0 ≤ x) (h1 : x ≤ 18446744073709551615) :
    Calls Tryz.prog 165 #[.int .u64 x] w fun e w' => e = .returned (.int .i64 (Lib.bitLen x.toNat)) ∧ w' = w := Any.bits_Len Tryz.lays125 x w h0 h1
def Tryz.lays215_ren : Go.Shelf.Ren := ⟨fun | 215 => 196 | n => n, fun | 3 => 3 | 4 => 4 | n => n, fun | n => n⟩
theorem Tryz.lays215 : Go.Proofs.Lays.n215 Tryz.prog Tryz.lays215_ren := {
  mixed := by kernel_rfl
  f215 := Tryz.func196.trans (congrArg some (by kernel_rfl))
  t3 := Tryz.underlying3
  a3 := Tryz.isAgg3
  z3 := Tryz.sizeOf3
  v3 := Tryz.zeroValue3
  t4 := Tryz.underlying4
  a4 := Tryz.isAgg4
  z4 := Tryz.sizeOf4
  v4 := Tryz.zeroValue4 }
open Go.RowKit in
theorem Tryz.cmp_isNaN_int (x : Int) (w : World) :
    Calls Tryz.prog 196 #[.int .i64 x] w fun e w' => e = .returned (.bool false) ∧ w' = w := Any.cmp_isNaN_int Tryz.lays215 x w
open Go.RowKit in
theorem Tryz.Builder_Len_f (B b : Nat) (bs : List Value) (w : World) (h : Lib.IsBuilderF 267 5 B b bs w) :
    Calls Tryz.prog 173 #[.pointer (some ⟨b, 0, none⟩)] w fun e w' => e = .returned (.int .i64 bs.length) ∧ w' = w := Any.Builder_Len_f Tryz.lays170 B b bs w h
open Go.RowKit in
theorem Tryz.Builder_String_f (B b : Nat) (l : List UInt8) (w : World) (h : Lib.IsBuilderF 267 5 B b (Lib.byteCells l) w) (h0 : l ≠ []) :
    Calls Tryz.prog 174 #[.pointer (some ⟨b, 0, none⟩)] w fun e w' => e = .returned (.string ⟨l.toArray⟩) ∧ (Lib.IsBuilderF 267 5 B b (Lib.byteCells l) w' ∧ Below B w w') := Any.Builder_String_f Tryz.lays169 Tryz.Builder_Extra_169 B b l w h h0
open Go.RowKit in
theorem Tryz.Builder_String_empty_f (B b : Nat) (w : World) (h : Lib.IsBuilderF 267 5 B b [] w) (hBw : B ≤ w.heap.size) :
    Calls Tryz.prog 174 #[.pointer (some ⟨b, 0, none⟩)] w fun e w' => e = .returned (.string ⟨#[]⟩) ∧ (Lib.IsBuilderF 267 5 B b [] w' ∧ Below B w w') := Any.Builder_String_empty_f Tryz.lays169 Tryz.Builder_Extra_169 B b w h hBw
open Go.RowKit in
theorem Tryz.Builder_String_any_f (B b : Nat) (l : List UInt8) (w : World) (h : Lib.IsBuilderF 267 5 B b (Lib.byteCells l) w) (hBw : B ≤ w.heap.size) :
    Calls Tryz.prog 174 #[.pointer (some ⟨b, 0, none⟩)] w fun e w' => e = .returned (.string ⟨l.toArray⟩) ∧ (Lib.IsBuilderF 267 5 B b (Lib.byteCells l) w' ∧ Below B w w') := Any.Builder_String_any_f Tryz.lays169 Tryz.Builder_Extra_169 B b l w h hBw
open Go.RowKit in
theorem Tryz.Builder_String_k (B b : Nat) (l : List UInt8) (w : World) (h : Lib.IsBuilderF 267 5 B b (Lib.byteCells l) w) (h0 : l ≠ []) :
    Calls Tryz.prog 174 #[.pointer (some ⟨b, 0, none⟩)] w fun e w' => e = .returned (.string ⟨l.toArray⟩) ∧ (Lib.IsBuilderF 267 5 B b (Lib.byteCells l) w' ∧ Below B w w' ∧ Lib.OthersKept 5 (some b) w w') := Any.Builder_String_k Tryz.lays169 Tryz.Builder_Extra_169 B b l w h h0
open Go.RowKit in
theorem Tryz.Builder_String_empty_k (B b : Nat) (w : World) (h : Lib.IsBuilderF 267 5 B b [] w) (hBw : B ≤ w.heap.size) :
    Calls Tryz.prog 174 #[.pointer (some ⟨b, 0, none⟩)] w fun e w' => e = .returned (.string ⟨#[]⟩) ∧ (Lib.IsBuilderF 267 5 B b [] w' ∧ Below B w w' ∧ Lib.OthersKept 5 (some b) w w') := Any.Builder_String_empty_k Tryz.lays169 Tryz.Builder_Extra_169 B b w h hBw
open Go.RowKit in
theorem Tryz.Builder_String_any_k (B b : Nat) (l : List UInt8) (w : World) (h : Lib.IsBuilderF 267 5 B b (Lib.byteCells l) w) (hBw : B ≤ w.heap.size) :
    Calls Tryz.prog 174 #[.pointer (some ⟨b, 0, none⟩)] w fun e w' => e = .returned (.string ⟨l.toArray⟩) ∧ (Lib.IsBuilderF 267 5 B b (Lib.byteCells l) w' ∧ Below B w w' ∧ Lib.OthersKept 5 (some b) w w') := Any.Builder_String_any_k Tryz.lays169 Tryz.Builder_Extra_169 B b l w h hBw
open Go.RowKit in
theorem Tryz.Builder_grow_fresh_cap (B b n : Nat) (w : World) (hB : B ≤ b) (hbk : w.heap[b]? = some (.cells #[.pointer (some ⟨b, 0, none⟩), .slice none 0 0] 267 (0, 0))) (hBw : B ≤ w.heap.size) (hn : n ≤ 281474976710656) :
    Calls Tryz.prog 190 #[.pointer (some ⟨b, 0, none⟩), .int .i64 n] w fun e w' => e = .returned (.tuple #[]) ∧ (Lib.BuilderAt 267 5 B b (.pointer (some ⟨b, 0, none⟩)) [] w' ∧ Below B w w') ∧ ∃ p cap, w'.cell? ⟨b, 1, none⟩ = some (.slice p 0 cap) ∧ n ≤ cap := Any.Builder_grow_fresh_cap Tryz.lays241 Tryz.Builder_Extra_241 B b n w hB hbk hBw hn
open Go.RowKit in
theorem Tryz.Builder_Grow_fresh_cap (B b n : Nat) (w : World) (hB : B ≤ b) (hbk : w.heap[b]? = some (.cells #[.pointer none, .slice none 0 0] 267 (0, 0))) (hBw : B ≤ w.heap.size) (hn : n ≤ 281474976710656) :
    Calls Tryz.prog 171 #[.pointer (some ⟨b, 0, none⟩), .int .i64 n] w fun e w' => e = .returned (.tuple #[]) ∧ (Lib.BuilderAt 267 5 B b (.pointer (some ⟨b, 0, none⟩)) [] w' ∧ Below B w w') ∧ ∃ p cap, w'.cell? ⟨b, 1, none⟩ = some (.slice p 0 cap) ∧ n ≤ cap := Any.Builder_Grow_fresh_cap Tryz.lays165 Tryz.Builder_Extra_165 B b n w hB hbk hBw hn
def Tryz.lays129_ren : Go.Shelf.Ren := ⟨fun | 129 => 185 | n => n, fun | 53 => 172 | 3 => 3 | 4 => 4 | 46 => 229 | 5 => 5 | 9 => 9 | n => n, fun | n => n⟩
theorem Tryz.lays129 : Go.Proofs.Lays.n129 Tryz.prog Tryz.lays129_ren := {
  mixed := by kernel_rfl
  f129 := Tryz.func185.trans (congrArg some (by kernel_rfl))
  t3 := Tryz.underlying3
  a3 := Tryz.isAgg3
  z3 := Tryz.sizeOf3
  v3 := Tryz.zeroValue3
  t4 := Tryz.underlying4
  a4 := Tryz.isAgg4
  z4 := Tryz.sizeOf4
  v4 := Tryz.zeroValue4
  t5 := Tryz.underlying5
  a5 := Tryz.isAgg5
  z5 := Tryz.sizeOf5
  v5 := Tryz.zeroValue5
  t9 := Tryz.underlying9
  a9 := Tryz.isAgg9
  z9 := Tryz.sizeOf9
  v9 := Tryz.zeroValue9
  t46 := Tryz.underlying229
  a46 := Tryz.isAgg229
  z46 := Tryz.sizeOf229
  v46 := Tryz.zeroValue229
  t53 := Tryz.underlying172
  a53 := Tryz.isAgg172
  z53 := Tryz.sizeOf172
  v53 := Tryz.zeroValue172 }
theorem Tryz.bits_Len64 (x : Int) (w : World) (h0 : 0 ≤ x) (h1 : x ≤ 18446744073709551615) :
    Calls Tryz.prog 185 #[.int .u64 x] w fun e w' => e = .returned (.int .i64 (Lib.bitLen x.toNat)) ∧ w' = w := Any.bits_Len64 Tryz.lays129 x w h0 h1
def Tryz.laysM316_ren : Go.Shelf.Ren := ⟨fun | 316 => 169 | n => n, fun | 9 => 9 | 3 => 3 | 4 => 4 | 37 => 93 | 0 => 0 | 127 => 285 | 5 => 5 | n => n, fun | n => n⟩
theorem Tryz.laysM316 : Go.Proofs.LaysM.n316 Tryz.prog Tryz.laysM316_ren := {
  mixed := by kernel_rfl
  f316 := Tryz.func169.trans (congrArg some (by kernel_rfl))
  t0 := Tryz.underlying0
  a0 := Tryz.isAgg0
  z0 := Tryz.sizeOf0
  v0 := Tryz.zeroValue0
  t3 := Tryz.underlying3
  a3 := Tryz.isAgg3
  z3 := Tryz.sizeOf3
  v3 := Tryz.zeroValue3
  t4 := Tryz.underlying4
  a4 := Tryz.isAgg4
  z4 := Tryz.sizeOf4
  v4 := Tryz.zeroValue4
  t9 := Tryz.underlying9
  a9 := Tryz.isAgg9
  z9 := Tryz.sizeOf9
  v9 := Tryz.zeroValue9
  t37 := Tryz.underlying93
  a37 := Tryz.isAgg93
  z37 := Tryz.sizeOf93
  v37 := Tryz.zeroValue93
  t127 := Tryz.underlying285
  a127 := Tryz.isAgg285
  z127 := Tryz.sizeOf285
  v127 := Tryz.zeroValue285
  t5 := Tryz.underlying5
  a5 := Tryz.isAgg5
  z5 := Tryz.sizeOf5
  v5 := Tryz.zeroValue5
  i0 := by kernel_rfl
  i3 := by kernel_rfl
  i4 := by kernel_rfl
  i5 := by kernel_rfl
  i9 := by kernel_rfl
  i37 := by kernel_rfl
  i127 := by kernel_rfl }
open Go.RowKit in
theorem Tryz.stringslite_Clone (s : ByteArray) (w : World) (hlim : s.size ≤ 281474976710656) :
    Calls Tryz.prog 169 #[.string s] w fun e w' => e = .returned (.string s) ∧ Below w.heap.size w w' := Any.stringslite_Clone Tryz.laysM316 s w hlim
def Tryz.lays189_ren : Go.Shelf.Ren := ⟨fun | 189 => 148 | 125 => 165 | 257 => 164 | 128 => 184 | 129 => 185 | 294 => 175 | 295 => 176 | 296 => 177 | 297 => 178 | 298 => 179 | 299 => 180 | 216 => 181 | 300 => 182 | 301 => 183 | 328 => 191 | 329 => 192 | 330 => 193 | 331 => 194 | 332 => 195 | 215 => 196 | 343 => 199 | n => n, fun | 28 => 184 | 3 => 3 | 46 => 229 | 0 => 0 | 51 => 22 | 53 => 172 | 4 => 4 | 183 => 275 | 182 => 274 | 131 => 280 | 5 => 5 | 9 => 9 | 218 => 290 | 222 => 294 | 228 => 299 | 229 => 95 | n => n, fun | n => n⟩
theorem Tryz.lays189 : Go.Proofs.Lays.n189 Tryz.prog Tryz.lays189_ren := {
  mixed := by kernel_rfl
  f125 := Tryz.func165.trans (congrArg some (by kernel_rfl))
  f128 := Tryz.func184.trans (congrArg some (by kernel_rfl))
  f129 := Tryz.func185.trans (congrArg some (by kernel_rfl))
  f189 := Tryz.func148.trans (congrArg some (by kernel_rfl))
  f215 := Tryz.func196.trans (congrArg some (by kernel_rfl))
  f216 := Tryz.func181.trans (congrArg some (by kernel_rfl))
  f257 := Tryz.func164.trans (congrArg some (by kernel_rfl))
  f294 := Tryz.func175.trans (congrArg some (by kernel_rfl))
  f295 := Tryz.func176.trans (congrArg some (by kernel_rfl))
  f296 := Tryz.func177.trans (congrArg some (by kernel_rfl))
  f297 := Tryz.func178.trans (congrArg some (by kernel_rfl))
  f298 := Tryz.func179.trans (congrArg some (by kernel_rfl))
  f299 := Tryz.func180.trans (congrArg some (by kernel_rfl))
  f300 := Tryz.func182.trans (congrArg some (by kernel_rfl))
  f301 := Tryz.func183.trans (congrArg some (by kernel_rfl))
  f328 := Tryz.func191.trans (congrArg some (by kernel_rfl))
  f329 := Tryz.func192.trans (congrArg some (by kernel_rfl))
  f330 := Tryz.func193.trans (congrArg some (by kernel_rfl))
  f331 := Tryz.func194.trans (congrArg some (by kernel_rfl))
  f332 := Tryz.func195.trans (congrArg some (by kernel_rfl))
  f343 := Tryz.func199.trans (congrArg some (by kernel_rfl))
  t0 := Tryz.underlying0
  a0 := Tryz.isAgg0
  z0 := Tryz.sizeOf0
  v0 := Tryz.zeroValue0
  t3 := Tryz.underlying3
  a3 := Tryz.isAgg3
  z3 := Tryz.sizeOf3
  v3 := Tryz.zeroValue3
  t4 := Tryz.underlying4
  a4 := Tryz.isAgg4
  z4 := Tryz.sizeOf4
  v4 := Tryz.zeroValue4
  t5 := Tryz.underlying5
  a5 := Tryz.isAgg5
  z5 := Tryz.sizeOf5
  v5 := Tryz.zeroValue5
  t9 := Tryz.underlying9
  a9 := Tryz.isAgg9
  z9 := Tryz.sizeOf9
  v9 := Tryz.zeroValue9
  t28 := Tryz.underlying184
  a28 := Tryz.isAgg184
  z28 := Tryz.sizeOf184
  v28 := Tryz.zeroValue184
  t46 := Tryz.underlying229
  a46 := Tryz.isAgg229
  z46 := Tryz.sizeOf229
  v46 := Tryz.zeroValue229
  t51 := Tryz.underlying22
  a51 := Tryz.isAgg22
  z51 := Tryz.sizeOf22
  v51 := Tryz.zeroValue22
  t53 := Tryz.underlying172
  a53 := Tryz.isAgg172
  z53 := Tryz.sizeOf172
  v53 := Tryz.zeroValue172
  t131 := Tryz.underlying280
  a131 := Tryz.isAgg280
  z131 := Tryz.sizeOf280
  v131 := Tryz.zeroValue280
  t182 := Tryz.underlying274
  a182 := Tryz.isAgg274
  z182 := Tryz.sizeOf274
  v182 := Tryz.zeroValue274
  t183 := Tryz.underlying275
  a183 := Tryz.isAgg275
  z183 := Tryz.sizeOf275
  v183 := Tryz.zeroValue275
  t218 := Tryz.underlying290
  a218 := Tryz.isAgg290
  z218 := Tryz.sizeOf290
  v218 := Tryz.zeroValue290
  t222 := Tryz.underlying294
  a222 := Tryz.isAgg294
  z222 := Tryz.sizeOf294
  v222 := Tryz.zeroValue294
  t228 := Tryz.underlying299
  a228 := Tryz.isAgg299
  z228 := Tryz.sizeOf299
  v228 := Tryz.zeroValue299
  t229 := Tryz.underlying95
  a229 := Tryz.isAgg95
  z229 := Tryz.sizeOf95
  v229 := Tryz.zeroValue95 }
open Go.Sort Go.RowKit in
theorem Tryz.slices_Sort_int (blk off cap : Nat) (zs : List Int) (w : World) (hH : Holds (Value.int .i64) w blk off zs.toArray) (hblk : blk < w.heap.size) (hsz : zs.length < 4611686018427387904) :
    Calls Tryz.prog 148 #[.slice (some ⟨blk, off, none⟩) zs.length cap] w fun e w' =>
      e = .returned (.tuple #[]) ∧ ∃ n os, w' = grow (putRow (Value.int .i64) (Sort.ahead w n) blk off (zs.mergeSort fun x y => decide (x ≤ y)).toArray) os := Any.slices_Sort_int Tryz.lays189 blk off cap zs w hH hblk hsz
def Tryz.lays206_ren : Go.Shelf.Ren := ⟨fun | 206 => 151 | n => n, fun | 9 => 9 | 4 => 4 | 3 => 3 | n => n, fun | n => n⟩
theorem Tryz.lays206 : Go.Proofs.Lays.n206 Tryz.prog Tryz.lays206_ren := {
  mixed := by kernel_rfl
  f206 := Tryz.func151.trans (congrArg some (by kernel_rfl))
  t3 := Tryz.underlying3
  a3 := Tryz.isAgg3
  z3 := Tryz.sizeOf3
  v3 := Tryz.zeroValue3
  t4 := Tryz.underlying4
  a4 := Tryz.isAgg4
  z4 := Tryz.sizeOf4
  v4 := Tryz.zeroValue4
  t9 := Tryz.underlying9
  a9 := Tryz.isAgg9
  z9 := Tryz.sizeOf9
  v9 := Tryz.zeroValue9 }
open Go.RowKit Go.Lib in
theorem Tryz.stringslite_HasPrefix (s p : ByteArray) (w : World) :
    Calls Tryz.prog 151 #[.string s, .string p] w fun e w' => e = .returned (.bool (Lib.hasPrefix s.data.toList p.data.toList)) ∧ w' = w := Any.stringslite_HasPrefix Tryz.lays206 s p w
def Tryz.lays99_ren : Go.Shelf.Ren := ⟨fun | 99 => 135 | 206 => 151 | n => n, fun | 9 => 9 | 4 => 4 | 3 => 3 | n => n, fun | n => n⟩
theorem Tryz.lays99 : Go.Proofs.Lays.n99 Tryz.prog Tryz.lays99_ren := {
  mixed := by kernel_rfl
  f99 := Tryz.func135.trans (congrArg some (by kernel_rfl))
  f206 := Tryz.func151.trans (congrArg some (by kernel_rfl))
  t3 := Tryz.underlying3
  a3 := Tryz.isAgg3
  z3 := Tryz.sizeOf3
  v3 := Tryz.zeroValue3
  t4 := Tryz.underlying4
  a4 := Tryz.isAgg4
  z4 := Tryz.sizeOf4
  v4 := Tryz.zeroValue4
  t9 := Tryz.underlying9
  a9 := Tryz.isAgg9
  z9 := Tryz.sizeOf9
  v9 := Tryz.zeroValue9 }
open Go.RowKit Go.Lib in
theorem Tryz.strings_HasPrefix (s p : ByteArray) (w : World) :
    Calls Tryz.prog 135 #[.string s, .string p] w fun e w' => e = .returned (.bool (Lib.hasPrefix s.data.toList p.data.toList)) ∧ w' = w := Any.strings_HasPrefix Tryz.lays99 s p w
def Tryz.lays264_ren : Go.Shelf.Ren := ⟨fun | 264 => 188 | n => n, fun | 53 => 172 | 46 => 229 | n => n, fun | n => n⟩
theorem Tryz.lays264 : Go.Proofs.Lays.n264 Tryz.prog Tryz.lays264_ren := {
  mixed := by kernel_rfl
  f264 := Tryz.func188.trans (congrArg some (by kernel_rfl))
  t46 := Tryz.underlying229
  a46 := Tryz.isAgg229
  z46 := Tryz.sizeOf229
  v46 := Tryz.zeroValue229
  t53 := Tryz.underlying172
  a53 := Tryz.isAgg172
  z53 := Tryz.sizeOf172
  v53 := Tryz.zeroValue172 }
open Go.RowKit Go.Lib in
theorem Tryz.bits_Mul64 (x y : Nat) (hx : x < 18446744073709551616) (hy : y < 18446744073709551616) (w : World) :
    Calls Tryz.prog 188 #[.int .u64 x, .int .u64 y] w fun e w' => e = .returned (.tuple #[.int .u64 ((x * y / 18446744073709551616 : Nat) : Int), .int .u64 ((x * y % 18446744073709551616 : Nat) : Int)]) ∧ w' = w := Any.bits_Mul64 Tryz.lays264 x y hx hy w
def Tryz.lays212_ren : Go.Shelf.Ren := ⟨fun | 212 => 170 | 263 => 187 | 264 => 188 | n => n, fun | 46 => 229 | 51 => 22 | 146 => 286 | 53 => 172 | 148 => 288 | n => n, fun | n => n⟩
theorem Tryz.lays212 : Go.Proofs.Lays.n212 Tryz.prog Tryz.lays212_ren := {
  mixed := by kernel_rfl
  f212 := Tryz.func170.trans (congrArg some (by kernel_rfl))
  f263 := Tryz.func187.trans (congrArg some (by kernel_rfl))
  f264 := Tryz.func188.trans (congrArg some (by kernel_rfl))
  t46 := Tryz.underlying229
  a46 := Tryz.isAgg229
  z46 := Tryz.sizeOf229
  v46 := Tryz.zeroValue229
  t51 := Tryz.underlying22
  a51 := Tryz.isAgg22
  z51 := Tryz.sizeOf22
  v51 := Tryz.zeroValue22
  t53 := Tryz.underlying172
  a53 := Tryz.isAgg172
  z53 := Tryz.sizeOf172
  v53 := Tryz.zeroValue172
  t146 := Tryz.underlying286
  a146 := Tryz.isAgg286
  z146 := Tryz.sizeOf286
  v146 := Tryz.zeroValue286
  t148 := Tryz.underlying288
  a148 := Tryz.isAgg288
  z148 := Tryz.sizeOf288
  v148 := Tryz.zeroValue288 }
open Go.RowKit Go.Lib in
theorem Tryz.bits_Mul (x y : Nat) (hx : x < 18446744073709551616) (hy : y < 18446744073709551616) (w : World) :
    Calls Tryz.prog 170 #[.int .u64 x, .int .u64 y] w fun e w' => e = .returned (.tuple #[.int .u64 ((x * y / 18446744073709551616 : Nat) : Int), .int .u64 ((x * y % 18446744073709551616 : Nat) : Int)]) ∧ w' = w := Any.bits_Mul Tryz.lays212 x y hx hy w
def Tryz.lays105_ren : Go.Shelf.Ren := ⟨fun | 105 => 162 | 212 => 170 | 99 => 135 | 165 => 171 | 166 => 172 | 170 => 173 | 169 => 174 | 263 => 187 | 264 => 188 | 206 => 151 | 240 => 189 | 241 => 190 | 276 => 197 | 277 => 198 | n => n, fun | 9 => 9 | 3 => 3 | 4 => 4 | 20 => 20 | 0 => 0 | 46 => 229 | 109 => 263 | 5 => 5 | 72 => 267 | 76 => 270 | 51 => 22 | 146 => 286 | 53 => 172 | 148 => 288 | 70 => 265 | 37 => 93 | 75 => 269 | 127 => 285 | 164 => 296 | 80 => 272 | n => n, fun | n => n⟩
theorem Tryz.lays105 : Go.Proofs.Lays.n105 Tryz.prog Tryz.lays105_ren := {
  mixed := by kernel_rfl
  f99 := Tryz.func135.trans (congrArg some (by kernel_rfl))
  f105 := Tryz.func162.trans (congrArg some (by kernel_rfl))
  f165 := Tryz.func171.trans (congrArg some (by kernel_rfl))
  f166 := Tryz.func172.trans (congrArg some (by kernel_rfl))
  f169 := Tryz.func174.trans (congrArg some (by kernel_rfl))
  f170 := Tryz.func173.trans (congrArg some (by kernel_rfl))
  f206 := Tryz.func151.trans (congrArg some (by kernel_rfl))
  f212 := Tryz.func170.trans (congrArg some (by kernel_rfl))
  f240 := Tryz.func189.trans (congrArg some (by kernel_rfl))
  f241 := Tryz.func190.trans (congrArg some (by kernel_rfl))
  f263 := Tryz.func187.trans (congrArg some (by kernel_rfl))
  f264 := Tryz.func188.trans (congrArg some (by kernel_rfl))
  f276 := Tryz.func197.trans (congrArg some (by kernel_rfl))
  f277 := Tryz.func198.trans (congrArg some (by kernel_rfl))
  t0 := Tryz.underlying0
  a0 := Tryz.isAgg0
  z0 := Tryz.sizeOf0
  v0 := Tryz.zeroValue0
  t3 := Tryz.underlying3
  a3 := Tryz.isAgg3
  z3 := Tryz.sizeOf3
  v3 := Tryz.zeroValue3
  t4 := Tryz.underlying4
  a4 := Tryz.isAgg4
  z4 := Tryz.sizeOf4
  v4 := Tryz.zeroValue4
  t5 := Tryz.underlying5
  a5 := Tryz.isAgg5
  z5 := Tryz.sizeOf5
  v5 := Tryz.zeroValue5
  t9 := Tryz.underlying9
  a9 := Tryz.isAgg9
  z9 := Tryz.sizeOf9
  v9 := Tryz.zeroValue9
  t20 := Tryz.underlying20
  a20 := Tryz.isAgg20
  z20 := Tryz.sizeOf20
  v20 := Tryz.zeroValue20
  t37 := Tryz.underlying93
  a37 := Tryz.isAgg93
  z37 := Tryz.sizeOf93
  v37 := Tryz.zeroValue93
  t46 := Tryz.underlying229
  a46 := Tryz.isAgg229
  z46 := Tryz.sizeOf229
  v46 := Tryz.zeroValue229
  t51 := Tryz.underlying22
  a51 := Tryz.isAgg22
  z51 := Tryz.sizeOf22
  v51 := Tryz.zeroValue22
  t53 := Tryz.underlying172
  a53 := Tryz.isAgg172
  z53 := Tryz.sizeOf172
  v53 := Tryz.zeroValue172
  t70 := Tryz.underlying265
  a70 := Tryz.isAgg265
  z70 := Tryz.sizeOf265
  v70 := Tryz.zeroValue265
  t72 := Tryz.underlying267
  a72 := Tryz.isAgg267
  z72 := Tryz.sizeOf267
  v72 := Tryz.zeroValue267
  t75 := Tryz.underlying269
  a75 := Tryz.isAgg269
  z75 := Tryz.sizeOf269
  v75 := Tryz.zeroValue269
  t76 := Tryz.underlying270
  a76 := Tryz.isAgg270
  z76 := Tryz.sizeOf270
  v76 := Tryz.zeroValue270
  t109 := Tryz.underlying263
  a109 := Tryz.isAgg263
  z109 := Tryz.sizeOf263
  v109 := Tryz.zeroValue263
  t127 := Tryz.underlying285
  a127 := Tryz.isAgg285
  z127 := Tryz.sizeOf285
  v127 := Tryz.zeroValue285
  t146 := Tryz.underlying286
  a146 := Tryz.isAgg286
  z146 := Tryz.sizeOf286
  v146 := Tryz.zeroValue286
  t148 := Tryz.underlying288
  a148 := Tryz.isAgg288
  z148 := Tryz.sizeOf288
  v148 := Tryz.zeroValue288
  t164 := Tryz.underlying296
  a164 := Tryz.isAgg296
  z164 := Tryz.sizeOf296
  v164 := Tryz.zeroValue296 }
theorem Tryz.Builder_Extra_105 : Builder.Extra Tryz.prog Tryz.lays105_ren := {
  sizeBuilder := by kernel_rfl
  liesBuilder := by kernel_rfl
  t5 := Tryz.underlying5
  a5 := Tryz.isAgg5
  z5 := Tryz.sizeOf5
  v5 := Tryz.zeroValue5
  infoByte := by kernel_rfl
  cellsByte := by kernel_rfl
  sizeByte := by kernel_rfl
  neB5 := by decide }
open Go.RowKit Go.Lib in
theorem Tryz.strings_Repeat_main (s : ByteArray) (c : Nat) (w : World) (hc2 : 2 ≤ c) (hc : c ≤ 9223372036854775807) (hlen : s.size * c ≤ 140737488355328) (h0 : 0 < s.size) :
    Calls Tryz.prog 162 #[.string s, .int .i64 c] w fun e w' => e = .returned (.string ⟨(Lib.repeatL s.data.toList c).toArray⟩) ∧ Below w.heap.size w w' := Any.strings_Repeat_main Tryz.lays105 Tryz.Builder_Extra_105 s c w hc2 hc hlen h0
open Go.RowKit Go.Lib in
theorem Tryz.strings_Repeat_zero (s : ByteArray) (w : World) :
    Calls Tryz.prog 162 #[.string s, .int .i64 0] w fun e w' => e = .returned (.string ⟨#[]⟩) ∧ w' = w := Any.strings_Repeat_zero Tryz.lays105 s w
open Go.RowKit Go.Lib in
theorem Tryz.strings_Repeat_one (s : ByteArray) (w : World) :
    Calls Tryz.prog 162 #[.string s, .int .i64 1] w fun e w' => e = .returned (.string s) ∧ w' = w := Any.strings_Repeat_one Tryz.lays105 s w
open Go.RowKit Go.Lib in
theorem Tryz.strings_Repeat_empty (s : ByteArray) (c : Nat) (w : World) (hc2 : 2 ≤ c) (hc : c ≤ 9223372036854775807) (h0 : s.size = 0) :
    Calls Tryz.prog 162 #[.string s, .int .i64 c] w fun e w' => e = .returned (.string ⟨#[]⟩) ∧ w' = w := Any.strings_Repeat_empty Tryz.lays105 s c w hc2 hc h0
open Go.RowKit Go.Lib in
theorem Tryz.strings_Repeat_negative (s : ByteArray) (c : Int) (w : World) (hc : c < 0) :
    Calls Tryz.prog 162 #[.string s, .int .i64 c] w fun e w' => e = .panicked [{ v := repeatPanic Tryz.lays105_ren "strings: negative Repeat count", recovered := false }] ∧ w' = w := Any.strings_Repeat_negative Tryz.lays105 s c w hc
open Go.RowKit Go.Lib in
theorem Tryz.strings_Repeat_overflow (s : ByteArray) (c : Nat) (w : World) (hc : c ≤ 9223372036854775807) (hs : s.size ≤ 9223372036854775807) (hbig : 9223372036854775807 < s.size * c) :
    Calls Tryz.prog 162 #[.string s, .int .i64 c] w fun e w' => e = .panicked [{ v := repeatPanic Tryz.lays105_ren "strings: Repeat output length overflow", recovered := false }] ∧ w' = w := Any.strings_Repeat_overflow Tryz.lays105 s c w hc hs hbig
open Go.RowKit Go.Lib in
theorem Tryz.strings_Repeat (s : ByteArray) (c : Nat) (w : World) (hc : c ≤ 9223372036854775807) (hlen : s.size * c ≤ 140737488355328) :
    Calls Tryz.prog 162 #[.string s, .int .i64 c] w fun e w' => e = .returned (.string ⟨(Lib.repeatL s.data.toList c).toArray⟩) ∧ Below w.heap.size w w' := Any.strings_Repeat Tryz.lays105 Tryz.Builder_Extra_105 s c w hc hlen
def Tryz.laysNm237_ren : Go.Shelf.Ren := ⟨fun | 37 => 196 | n => n, fun | 3 => 3 | 4 => 4 | n => n, fun | n => n⟩
theorem Tryz.laysNm237 : Go.Proofs.Lays2.n37 Tryz.prog Tryz.laysNm237_ren := {
  mixed := by kernel_rfl
  f37 := Tryz.func196.trans (congrArg some (by kernel_rfl))
  t3 := Tryz.underlying3
  a3 := Tryz.isAgg3
  z3 := Tryz.sizeOf3
  v3 := Tryz.zeroValue3
  t4 := Tryz.underlying4
  a4 := Tryz.isAgg4
  z4 := Tryz.sizeOf4
  v4 := Tryz.zeroValue4 }
open Go.RowKit Go.Lib in
theorem Tryz.cmp_isNaN_int2 (x : Int) (w : World) :
    Calls Tryz.prog 196 #[.int .i64 x] w fun e w' => e = .returned (.bool false) ∧ w' = w := Any.cmp_isNaN_int2 Tryz.laysNm237 x w
def Tryz.laysNm231_ren : Go.Shelf.Ren := ⟨fun | 31 => 181 | 37 => 196 | n => n, fun | 3 => 3 | 4 => 4 | n => n, fun | n => n⟩
theorem Tryz.laysNm231 : Go.Proofs.Lays2.n31 Tryz.prog Tryz.laysNm231_ren := {
  mixed := by kernel_rfl
  f31 := Tryz.func181.trans (congrArg some (by kernel_rfl))
  f37 := Tryz.func196.trans (congrArg some (by kernel_rfl))
  t3 := Tryz.underlying3
  a3 := Tryz.isAgg3
  z3 := Tryz.sizeOf3
  v3 := Tryz.zeroValue3
  t4 := Tryz.underlying4
  a4 := Tryz.isAgg4
  z4 := Tryz.sizeOf4
  v4 := Tryz.zeroValue4 }
open Go.RowKit Go.Lib in
theorem Tryz.cmp_Less_int2 (x y : Int) (w : World) :
    Calls Tryz.prog 181 #[.int .i64 x, .int .i64 y] w fun e w' => e = .returned (.bool (decide (x < y))) ∧ w' = w := Any.cmp_Less_int2 Tryz.laysNm231 x y w
open Go.RowKit Go.Sort in
theorem Tryz.slices_Sort_int_none (p : Option Addr) (cap : Nat) (w : World) :
    Calls Tryz.prog 148 #[.slice p 0 cap] w fun e w' => e = .returned (.tuple #[]) ∧ w' = w := Any.slices_Sort_int_none Tryz.lays189 p cap w
end Go.Proofs
/- octet's Same and Pad, the reference's Take, Put, Left, Pad. -/
namespace Go.Proofs.YtmblknknbbdmeaaGreat
open Go Go.RowKit
set_option linter.unusedVariables false
set_option linter.unusedSimpArgs false
attribute [local go_sem] bmax2 bmin2 bmax bmin

theorem ref01_Take_any (s : ByteArray) (w : World) (hs : s.size ≤ 8) :
    Calls Tryz.prog 131 #[.string s] w fun e w' => e = .returned (.tuple #[.int .u64 (takeN (bs s)), .int .i64 0]) ∧ w = w' := by
  go_enter Tryz.func131, Tryz.ntmps131
  go_wp2
  go_loop [4, 5] (fun n i => ∃ k : Nat, k ≤ s.size ∧ i = .int .i64 k ∧ n = .int .u64 (takeN ((bs s).take k))) (fun _ i => s.size - (intOf i).toNat)
  case atStart => exact ⟨0, Nat.zero_le _, rfl, rfl⟩
  case round =>
    obtain ⟨k, hk, rfl, rfl⟩ := hrel
    by_cases hlt : k < s.size
    · go_wp2
      go_round
      case measure => simp [intOf]; omega
      case rel =>
        refine ⟨k + 1, by omega, by go_num, congrArg _ ?_⟩
        have hsn := take_snoc (bs s) k hlt
        have hl : (List.take (k + 1) (bs s)).length ≤ 8 := by rw [List.length_take]; omega
        have hlt64 := takeN_lt64 _ hl
        rw [hsn, takeN_snoc] at hlt64 ⊢
        exact mul8_add _ _ (UInt8.toNat_lt _) hlt64
    · go_wp2
      go_ret2
      exact ⟨by rw [List.take_of_length_le (by rw [size_bs]; omega)]; rfl, rfl⟩

theorem ref01_Take_long (s : ByteArray) (w : World) (hs : 8 < s.size) :
    Calls Tryz.prog 131 #[.string s] w fun e w' => e = .returned (.tuple #[.int .u64 0, .int .i64 5]) ∧ w = w' := by
  go_enter Tryz.func131, Tryz.ntmps131
  go_wp2
  go_ret2
  exact ⟨rfl, rfl⟩
set_option maxRecDepth 100000 in
theorem ref01_Put_mid (n : Nat) (k : Nat) (w : World) (hn : n < U64) (h8 : k ≤ 8) (b : Int) (hb : min (max b 0) 8 = (k : Int)) :
    Calls Tryz.prog 93 #[.int .u64 n, .int .i64 b] w fun e w' => e = .returned (.string (str (putL n k))) ∧ Below w.heap.size w w' := by
  go_enter Tryz.func93, Tryz.ntmps93
  go_wp2
  go_loopw [0, 5, 6] (fun m o i wr => ∃ j q : Nat, j ≤ k ∧ i = .int .i64 j ∧ m = .int .u64 (q : Int) ∧ Hid (q = n / 256 ^ j) ∧ o = .string (str (putL n j)) ∧ Below w.heap.size w wr) (fun _ _ i _ => k - (intOf i).toNat)
  case atStart => exact ⟨0, n, Nat.zero_le _, rfl, rfl, by simp [Hid], rfl, Below.refl _ _⟩
  case round =>
    obtain ⟨j, q, hj, rfl, rfl, hq, rfl, hbl⟩ := hrel
    by_cases hlt : j < k
    · have h1 : (j : Int) < b := by omega
      have h2 : (j : Int) < 8 := by omega
      obtain ⟨S, hS⟩ : ∃ S, S = str (putL n j) := ⟨_, rfl⟩
      rw [← hS]
      have HS := hid hS
      clear hS
      have hcv := conv_one (P := Tryz.prog) wr (e' := 5) 93 Tryz.underlying93 Tryz.underlying5 Tryz.underlying9 ((q : Int) % 256)
      have Hbl := hid hbl
      clear hbl
      have hz1 : (strOfNums [(q : Int) % 256]).size ≤ 1 := by rw [strOfNums_size]; simp
      have hz2 : S.size ≤ 8 := by rw [HS.out, str_size, length_putL]; omega
      go_wp2
      go_roundw
      case measure => simp [intOf]; omega
      case rel =>
        refine ⟨j + 1, q / 256, by omega, by go_num, congrArg _ (u64_div256 q (by rw [hq.out]; exact Nat.lt_of_le_of_lt (Nat.div_le_self _ _) hn)), ?_, ?_, Hbl.out.alloc (Hbl.out.size) _⟩
        · have := hq.out
          show q / 256 = n / 256 ^ (j + 1)
          rw [this, Nat.div_div_eq_div_mul, Nat.pow_succ]
        · rw [HS.out, hq.out]
          exact congrArg _ (put_step n j)
    · obtain rfl : j = k := by omega
      go_wp2
      all_goals (go_ret; exact ⟨rfl, hbl⟩)
theorem repeat_zeros (q : Nat) (w : World) (hc : q ≤ 9223372036854775807) (hq : q ≤ 140737488355328) :
    Calls Tryz.prog 162 #[.string ⟨#[0]⟩, .int .i64 q] w fun e w' => e = .returned (.string (str (List.replicate q 0))) ∧ Below w.heap.size w w' := by
  have := Tryz.strings_Repeat ⟨#[0]⟩ q w hc (by show 1 * q ≤ _; omega)
  rw [show (⟨#[0]⟩ : ByteArray).data.toList = [0] from rfl, repeat_zero] at this
  exact this
theorem octet_Pad_any (s : ByteArray) (tt : Nat) (w : World) (h1 : 0 < tt) (h2 : tt ≤ 4096) (hs : s.size ≤ 1099511627776) :
    Calls Tryz.prog 156 #[.string s, .int .i64 tt] w fun e w' => e = .returned (.string (str (bs s ++ List.replicate (padN s.size tt) 0))) ∧ Below w.heap.size w w' := by
  have hr0 := Nat.mod_lt s.size h1
  obtain ⟨r, hr⟩ : ∃ r, s.size % tt = r := ⟨_, rfl⟩
  have hp : padN s.size tt = (tt - r) % tt := by unfold padN; rw [hr]
  rw [hp]
  have hr2 : (s.size : Int) % (tt : Int) = (r : Int) := by rw [← hr]; simp
  rw [hr] at hr0
  obtain ⟨q, hq⟩ : ∃ q, (tt - r) % tt = q := ⟨_, rfl⟩
  have hq2 : ((tt : Int) - (r : Int)) % (tt : Int) = (q : Int) := by rw [← hq, Int.natCast_emod]; congr 1; omega
  have hq3 : q < tt := by rw [← hq]; exact Nat.mod_lt _ h1
  rw [hq]
  have hc : q ≤ 9223372036854775807 := by omega
  have Hq := hid hq
  have Hr := hid hr
  have Hp := hid hp
  clear hq hr hp
  go_enter Tryz.func156, Tryz.ntmps156
  have Hm := hid (repeat_zeros q w hc (by omega))
  have hz : (str (List.replicate q 0)).size ≤ 4096 := by rw [str_size]; simp; omega
  go_wp2_with (go_at_call 162; refine Hm.out.mono ?_; rintro e w' ⟨rfl, hbl⟩)
  go_ret
  exact ⟨rfl, hbl⟩
end Go.Proofs.YtmblknknbbdmeaaGreat
/- octet's Same; Parts, and the reference's. -/
namespace Go.Proofs.YtmblknknbbdmeaaGreat
open Go Go.RowKit
set_option linter.unusedVariables false
set_option linter.unusedSimpArgs false
attribute [local go_sem] bmax2 bmin2 bmax bmin

theorem octet_Same_any (a b : ByteArray) (w : World) (ha : a.size ≤ 1099511627776) (hb : b.size ≤ 1099511627776) :
    Calls Tryz.prog 127 #[.string a, .string b] w fun e w' => e = .returned (.bool (a.toList == b.toList)) ∧ ∃ m, w' = w.drewN m := by
  rw [toList_beq]
  obtain ⟨L, hL⟩ : ∃ L, min a.size b.size = L := ⟨_, rfl⟩
  have hL2 : min (a.size : Int) (b.size : Int) = (L : Int) := by omega
  have hLa : L ≤ a.size := by omega
  have hLb : L ≤ b.size := by omega
  have HL := hid hL
  clear hL
  go_enter Tryz.func127, Tryz.ntmps127
  go_wp2
  go_loopw [5, 12] (fun u i wr => ∃ k x : Nat, k ≤ L ∧ i = .int .i64 k ∧ u = .int .u8 x ∧ x < 256 ∧ Hid (x = 0 ↔ (bs a).take k = (bs b).take k) ∧ ∃ m, wr = w.drewN m) (fun _ i _ => L - (intOf i).toNat)
  case atStart => exact ⟨0, 0, Nat.zero_le _, rfl, rfl, by omega, by simp [Hid], 0, rfl⟩
  case round =>
    obtain ⟨k, x, hk, rfl, rfl, hx, hq, m, rfl⟩ := hrel
    by_cases hlt : k < L
    · have i1 : (k : Int) < (a.size : Int) := by omega
      have i2 : (k : Int) < (b.size : Int) := by omega
      have i3 : (0 : Int) ≤ (k : Int) := by omega
      go_wp2
      go_quiet (fail)
      go_wp2
      go_roundw
      case measure => simp [intOf]; omega
      case rel =>
        have e1 := u8_xor_nat a[k].toNat b[k].toNat (UInt8.toNat_lt _) (UInt8.toNat_lt _)
        have hxx : a[k].toNat ^^^ b[k].toNat < 256 := Nat.xor_lt_two_pow (n := 8) (UInt8.toNat_lt _) (UInt8.toNat_lt _)
        have e2 := u8_or_nat x _ hx hxx
        refine ⟨k + 1, x ||| (a[k].toNat ^^^ b[k].toNat), by omega, by go_num, congrArg _ (by rw [e1, e2]), Nat.or_lt_two_pow (n := 8) hx hxx, ?_, m + nq, rfl⟩
        have ht := hq.out
        show _ ↔ _
        rw [take_snoc (bs a) k (by rw [size_bs]; omega), take_snoc (bs b) k (by rw [size_bs]; omega), or_eq_zero, xor_eq_zero, ht]
        constructor
        · rintro ⟨h1, h2⟩
          rw [h1]
          exact congrArg (fun c => List.take k (bs b) ++ [c]) (UInt8.toNat_inj.1 h2)
        · intro h
          have := List.append_inj' h rfl
          exact ⟨this.1, by have h2 := this.2; simp only [List.cons.injEq, and_true] at h2; exact congrArg UInt8.toNat h2⟩
    · obtain rfl : k = L := by omega
      by_cases h0 : x = 0
      · have h1 : ((x : Int) == 0) = true := by simp [h0]
        by_cases h2 : a.size = b.size
        · have h3 : ((a.size : Int) == (b.size : Int)) = true := by simp [h2]
          have h4 : a = b := by
            have := hq.out.1 h0
            rw [List.take_of_length_le (by rw [size_bs]; omega), List.take_of_length_le (by rw [size_bs]; omega)] at this
            exact bs_inj this
          have H4 := hid h4
          have H2 := hid h2
          clear h4 h2
          go_wp2
          go_ret
          exact ⟨by rw [decide_eq_true H4.out]; rfl, m, rfl⟩
        · have h3 : ((a.size : Int) == (b.size : Int)) = false := by simp; omega
          have H4 : Hid (¬ a = b) := fun h => h2 (by rw [h])
          clear h2
          go_wp2
          go_ret
          exact ⟨by rw [decide_eq_false H4.out]; rfl, m, rfl⟩
      · have h1 : ((x : Int) == 0) = false := by simp [h0]
        have H4 : Hid (¬ a = b) := fun h => h0 (hq.out.2 (by rw [h]))
        go_wp2
        go_ret
        exact ⟨by rw [decide_eq_false H4.out]; rfl, m, rfl⟩

theorem info_str : (Tryz.prog.info? 9).map (fun i => (i.zero, i.size, i.bytes)) = some (some (.string ⟨#[]⟩), 1, 16) := by kernel_rfl

theorem octet_Parts_none (s : ByteArray) (n : Int) (w : World) (hn : n < 1) :
    Calls Tryz.prog 186 #[.string s, .int .i64 n] w fun e w' => e = .returned (.slice none 0 0) ∧ w = w' := by
  go_enter Tryz.func186, Tryz.ntmps186
  go_wp2
  go_ret
  exact ⟨rfl, rfl⟩

def strVals (l : List (List UInt8)) : List Value := l.map fun x => .string (str x)
set_option maxRecDepth 100000 in
theorem octet_Parts_some (s : ByteArray) (n : Nat) (w : World) (hn : 1 ≤ n) (hn2 : n ≤ 9223372036854775807) (hs : s.size ≤ 1099511627776) :
    Calls Tryz.prog 186 #[.string s, .int .i64 n] w fun e w' => ∃ v, e = .returned v ∧ w'.ownsRow w.heap.size 9 1 v (chunks n (bs s)).length (strVals (chunks n (bs s))) ∧ Below w.heap.size w w' := by
  obtain ⟨i0, hi, hz0, hz1, hz2⟩ := info_parts info_str
  have Hz2 := hid hz2
  have Hz1 := hid hz1
  clear hz2 hz1
  have hn' : (1 : Int) ≤ n := by omega
  go_enter Tryz.func186, Tryz.ntmps186
  go_wp2
  go_loopw [0, 5] (fun t v wr => ∃ (l r : List UInt8), t = .string (str r) ∧ r.length ≤ s.size ∧ Hid (l ++ r = bs s) ∧ Hid (n ∣ l.length ∨ r = []) ∧ wr.ownsRow w.heap.size 9 1 v (chunks n l).length (strVals (chunks n l)) ∧ Below w.heap.size w wr) (fun t _ _ => lenOf t)
  case atStart => exact ⟨[], bs s, rfl, Nat.le_of_eq (size_bs s), rfl, Or.inl (by simp), by rw [chunks_nil]; exact World.ownsRow_nil _ _ _ _, Below.refl _ _⟩
  case round =>
    obtain ⟨l, r, rfl, hr, hc, hd, ho, hbl⟩ := hrel
    by_cases h0 : r = []
    · subst h0
      have HO := hid ho
      have HB := hid hbl
      have he : (str []).toList.isEmpty = true := by rw [empty_str]; rfl
      clear ho hbl
      go_wp2
      go_ret
      have h := hc.out
      rw [List.append_nil] at h
      exact ⟨_, rfl, by rw [← h]; exact HO.out, HB.out⟩
    · have hpos : 0 < r.length := List.length_pos_iff.2 h0
      obtain ⟨S, hS⟩ : ∃ S, S = str r := ⟨_, rfl⟩
      rw [← hS]
      have hz : S.size = r.length := by rw [hS, str_size]
      obtain ⟨k, hk⟩ : ∃ k : Nat, min n r.length = k := ⟨_, rfl⟩
      have hk2 : min (n : Int) (S.size : Int) = (k : Int) := by rw [hz]; omega
      have hk3 : k ≤ S.size := by rw [hz]; omega
      have he : S.toList.isEmpty = false := by
        rw [hS, empty_str]
        cases r with
        | nil => exact absurd rfl h0
        | cons => rfl
      have HO := hid ho
      have HB := hid hbl
      have HS := hid hS
      have HK := hid hk
      have HZ := hid hz
      clear ho hbl hS hk hz
      have hSs : S.size ≤ 1099511627776 := by rw [HZ.out]; omega
      go_wp2
      refine wp_region_plan_lit (C := fun w' => w' = wr.drew) [0, 1, 2, 3, 6, 7, 8] [] [4, 5, 9, 10] (by kernel_rfl) (by kernel_rfl) (by intro c a d v w h; cases d <;> exact h) rfl ?_
      simp only [List.map_cons, List.map_nil, List.getD_cons_succ, List.getD_cons_zero]
      repeat (go_big_quiet_step (fail))
      refine wpQuiet_nil ?_
      refine wpQuiet_nil ?_
      rintro _ rfl
      have hx1 : (S.extract 0 k) = str (r.take n) := by
        rw [HS.out, extract_str, List.drop_zero, Nat.sub_zero, ← HK.out]
        exact congrArg _ (take_min r n)
      have hx2 : (S.extract k S.size) = str (r.drop n) := by
        rw [HS.out, extract_str, str_size, ← HK.out, drop_min, List.take_of_length_le (by simp; omega)]
      have HX1 := hid hx1
      have HX2 := hid hx2
      clear hx1 hx2
      have hcl := Nat.le_trans (chunks_length n hn _ l (Nat.le_refl _)) (show l.length ≤ s.size by have := congrArg List.length hc.out; rw [List.length_append, size_bs] at this; omega)
      go_wp2_with (at_builtin; refine wpList_append_own _ rfl _ _ 74 rfl w.heap.size 9 i0 (.string ⟨#[]⟩) 1 16 Tryz.underlying74 hi hz0 Hz1.out Hz2.out rfl (by decide) _ _ _ rfl ((HO.out.alloc _).drew) ⟨wr.heap.size, 0, none⟩ 1 1 [.string (S.extract 0 k)] rfl rfl ?c1 ?c2 ?c3 ?c4 ?c5 ?_)
      case c1 => exact cell_one_new _ _ _
      case c2 => simp [Value.oneCell']
      case c3 => unfold maxLen; omega
      case c4 => omega
      case c5 => have := HB.out.size; simp; omega
      intro v' w1 hown' hgrow' _
      have HB1 := hid (((HB.out.alloc HB.out.size _).drew).grown hgrow' (by have := HB.out.size; simp; omega) (fun q hq => (HO.out.lt q hq).1))
      have HO1 := hid hown'
      clear hown' hgrow'
      go_wp2
      go_roundw
      case measure =>
        have : (S.extract k S.size).size = S.size - k := by rw [HX2.out, str_size, HZ.out, List.length_drop, ← HK.out]; omega
        have h2 : 0 < k := by rw [← HK.out]; omega
        have h3 := HZ.out
        show (S.extract k S.size).size < S.size
        omega
      case rel =>
        have hr0 : r.take n ≠ [] := by
          intro h
          have := congrArg List.length h
          rw [List.length_take, List.length_nil] at this
          omega
        have hch : chunks n (l ++ r.take n) = chunks n l ++ [r.take n] := by
          rcases hd.out with h | h
          · rw [chunks_append n hn _ _ l (Nat.le_refl _) h, chunks_short n hn _ hr0 (by simp; omega)]
          · exact absurd h h0
        refine ⟨l ++ r.take n, r.drop n, congrArg _ HX2.out, by simp; omega, ?_, ?_, ?_, HB1.out⟩
        · show _ = _
          rw [List.append_assoc, List.take_append_drop]; exact hc.out
        · by_cases hge : n ≤ r.length
          · refine Or.inl ?_
            rcases hd.out with h | h
            · rw [List.length_append, List.length_take, Nat.min_eq_left hge]
              exact Nat.dvd_add h (Nat.dvd_refl n)
            · exact absurd h h0
          · exact Or.inr (List.drop_of_length_le (by omega))
        · rw [hch]
          have := HO1.out
          rw [HX1.out] at this
          simpa [strVals] using this

/-- n texts lie at a slice -/
def Texts (w : World) (v : Value) (l : List (List UInt8)) : Prop :=
  ∃ a cap, v = .slice a l.length cap ∧ ∀ i (h : i < l.length), ∃ g, a = some ⟨g, 0, none⟩ ∧ g < w.heap.size ∧ w.cell? ⟨g, i, none⟩ = some (.string (str l[i]))
theorem Texts.of_own {w : World} {base : Nat} {e : TypeId} {v : Value} {l : List (List UInt8)} (h : w.ownsRow base e 1 v l.length (strVals l)) : Texts w v l := by
  rcases h.2 with ⟨rfl, h0⟩ | ⟨g, cap, cur, rfl, _⟩
  · exact ⟨none, 0, by rw [h0], fun i hi => by omega⟩
  · refine ⟨_, cap, rfl, fun i hi => ⟨g, rfl, (h.lt g rfl).2, ?_⟩⟩
    rw [h.cellAt i (by omega)]
    simp [strVals, hi]
theorem Texts.below {w w' : World} {v : Value} {l : List (List UInt8)} (h : Texts w v l) (hb : Below w.heap.size w w') : Texts w' v l := by
  obtain ⟨a, cap, rfl, hc⟩ := h
  refine ⟨a, cap, rfl, fun i hi => ?_⟩
  obtain ⟨g, h1, h2, h3⟩ := hc i hi
  exact ⟨g, h1, Nat.lt_of_lt_of_le h2 hb.size, cell_later hb h3⟩

end Go.Proofs.YtmblknknbbdmeaaGreat
/- buffer: Take. -/
namespace Go.Proofs.YtmblknknbbdmeaaGreat
open Go Go.RowKit Go.Conc
set_option linter.unusedVariables false
set_option linter.unusedSimpArgs false
attribute [local go_sem] bmax2 bmin2 bmax bmin cell_ext frozen_ext

theorem del_keys {α β : Type} {F : List (Int × α)} {G : List (Int × β)} (h : F.map (·.1) = G.map (·.1)) (i : Int) : (del F i).map (·.1) = (del G i).map (·.1) := by
  have hf : ∀ {γ : Type} (L : List (Int × γ)), (del L i).map (·.1) = (L.map (·.1)).filter (· != i) := fun L => by
    unfold del
    rw [List.filter_map]
    rfl
  rw [hf, hf, h]
theorem fnd_del {α : Type} {F : List (Int × α)} {i j : Int} {x : α} (h : fnd (del F i) j = some x) : j ≠ i ∧ fnd F j = some x := by
  by_cases e : j = i
  · subst e; rw [fnd_del_same] at h; cases h
  · rw [fnd_del_other e] at h; exact ⟨e, h⟩
section
variable {w w' : World} {bb gm n : Nat} {F : List (Int × (Nat × Nat))} {B : Bf}
/-- a slot less -/
theorem BF.gone (h : BF w bb gm n F B) {i : Int} (hi : IM SL w' gm n (del F i)) (hg : w.grownBy w' (some gm)) : BF w' bb gm n (del F i) { B with sl := del B.sl i } :=
  ⟨h.blk.grown hg (by simpa using h.gm_ne h.blk), hi, del_keys h.keys i, fun j c g hj => by
    obtain ⟨e, hj⟩ := fnd_del hj
    obtain ⟨ts, s, r, m, k1, k2, k3, k4⟩ := h.slot j c g hj
    have q := h.gm_chan hj
    exact ⟨ts, s, r, m, by rw [fnd_del_other e]; exact k1, (hg.block _ (Array.getElem?_eq_some_iff.1 k2).1 (by simpa using Ne.symm q.1)).trans k2, k3, k4.kept hg (by simpa using Ne.symm q.2.2)⟩,
    fun j j' c g c' g' h1 h2 he => h.inj j j' c g c' g' (fnd_del h1).2 (fnd_del h2).2 he, fun j c g hj => h.sets j c g (fnd_del hj).2⟩
end
set_option maxHeartbeats 4000000 in
set_option maxRecDepth 100000 in
theorem U_Take_none (bb gm n : Nat) (F : List (Int × (Nat × Nat))) (B : Bf) (i : Int) (hi : (kI i).wf = true) (hf : fnd F i = none) (w : World) (H : BF w bb gm n F B) : Calls Tryz.prog 97 #[.pointer (some ⟨bb, 0, none⟩), .int .i64 i] w fun e w' => e = .returned (.slice none 0 0) ∧ Below w.heap.size w w' := by
  have hl : (Instr.lookup 176 (.map (some gm)) (.int .i64 i) true).run Tryz.prog w = .ok (.tuple #[((fnd F i).map SL.val).getD SL.z, .bool (fnd F i).isSome]) w := H.im.look i hi
  rw [hf] at hl
  obtain ⟨V, hV⟩ : ∃ V : List Value, [Value.chan none, Value.map none] = V := ⟨_, rfl⟩
  have hV2 : V.length = 2 := by rw [← hV]; rfl
  have hV1 : ∀ v ∈ V, v.oneCell' = true := by rw [← hV]; exact sl_one _ _ rfl rfl
  replace hl : (Instr.lookup 176 (.map (some gm)) (.int .i64 i) true).run Tryz.prog w = .ok (.tuple #[.agg V.toArray, .bool false]) w := by rw [← hV]; exact hl
  have HV1 := kp hV1
  clear hV hV1
  have x2 := H.blk.atL (show (bufC B.each B.room gm B.sz B.dr)[2]? = some (.map (some gm)) from rfl)
  have kl := H.blk.lt
  have SC := sc_new (P := Tryz.prog) w 181 V HV1.out #[.chan none, .map none] (by rw [hV2]; rfl)
  have HB := kp (ba (Below.refl w.heap.size w) (.cells V.toArray 181))
  go_enter Tryz.func97, Tryz.ntmps97
  go_wp2
  go_ret
  exact ⟨rfl, HB.out⟩
end Go.Proofs.YtmblknknbbdmeaaGreat
