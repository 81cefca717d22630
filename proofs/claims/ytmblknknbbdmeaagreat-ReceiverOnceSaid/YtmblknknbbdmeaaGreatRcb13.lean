/- Texts laid together: ArgB, Rcv21, Rcv20, Rcv22, ArgR, Rcv23. -/
import Derived.DeepKeys5
import Derived.Test.YtmblknknbbdmeaaGreatRcb12
/- arguments that are slices of bools, and of ints. -/
namespace Go.Proofs.YtmblknknbbdmeaaGreat
open Go Go.RowKit Go.ChangeShapes Go.WideShapes Go.ChangeAt
set_option linter.unusedVariables false
set_option linter.unusedSimpArgs false

/-- from cell o of block b on lie the bools l -/
def HoldsB (w : World) (b o : Nat) (l : List Bool) : Prop := ∀ (i : Nat) (z : Bool), l[i]? = some z → w.cell? ⟨b, o + i, none⟩ = some (.bool z)
/-- from cell o of block b on lie the numbers l -/
def HoldsN (w : World) (b o : Nat) (l : List Int) : Prop := ∀ (i : Nat) (z : Int), l[i]? = some z → w.cell? ⟨b, o + i, none⟩ = some (.int .i64 z)
def HeldB (w : World) (ad : Option Addr) (l : List Bool) : Prop := l ≠ [] → ∃ b o, ad = some ⟨b, o, none⟩ ∧ b < w.heap.size ∧ HoldsB w b o l
def HeldN (w : World) (ad : Option Addr) (l : List Int) : Prop := l ≠ [] → ∃ b o, ad = some ⟨b, o, none⟩ ∧ b < w.heap.size ∧ HoldsN w b o l
theorem HeldB.bel {w w' : World} {ad : Option Addr} {l : List Bool} (h : HeldB w ad l) (hb : Below w.heap.size w w') : HeldB w' ad l := fun hl => by
  obtain ⟨b, o, rfl, h1, h2⟩ := h hl
  exact ⟨b, o, rfl, Nat.lt_of_lt_of_le h1 hb.size, fun i s hi => (hb.cell (p := ⟨b, o + i, none⟩) h1).trans (h2 i s hi)⟩
theorem HeldN.bel {w w' : World} {ad : Option Addr} {l : List Int} (h : HeldN w ad l) (hb : Below w.heap.size w w') : HeldN w' ad l := fun hl => by
  obtain ⟨b, o, rfl, h1, h2⟩ := h hl
  exact ⟨b, o, rfl, Nat.lt_of_lt_of_le h1 hb.size, fun i s hi => (hb.cell (p := ⟨b, o + i, none⟩) h1).trans (h2 i s hi)⟩
theorem HeldB.below {B : Nat} {w w' : World} {ad : Option Addr} {l : List Bool} (h : HeldB w ad l) (hb : Below B w w') (hB : w.heap.size ≤ B) : HeldB w' ad l := h.bel (hb.mono hB)
theorem rows_map1 {α : Type} (f : α → List Value) (p : α → Prop) : ∀ (rows : List (List Value)), (∀ r ∈ rows, ∃ x, r = f x ∧ p x) → ∃ l : List α, rows = l.map f ∧ ∀ x ∈ l, p x
  | [], _ => ⟨[], rfl, by simp⟩
  | r :: rs, h => by
    obtain ⟨x, hx, hp⟩ := h r (by simp)
    obtain ⟨l, hl, hl2⟩ := rows_map1 f p rs (fun r hr => h r (by simp [hr]))
    exact ⟨x :: l, by rw [hx, hl]; rfl, fun y hy => by rcases List.mem_cons.1 hy with rfl | hy; exact hp; exact hl2 y hy⟩

section
variable {H : Type} {enc : TypeId × Value → H} {w : World} {base : Nat} {spare : Nat → Bool} {held : Bool}
set_option maxRecDepth 100000 in
theorem open_bools {r : Reach} {b0 : Nat} {v : Value} {d : DataW H} {ps : List MemPlace} (hv : Value.okWide Tryz.prog w r b0 91 v) (h : DataW.Trod enc Tryz.prog w base spare held 91 v d ps) :
    ∃ (ad : Option Addr) (c : Nat) (l : List Bool), v = .slice ad l.length c ∧ l.length ≤ maxLen ∧ HeldB w ad l := by
  obtain ⟨ad, c, rows, rfl, h1, h2, h3, h4⟩ := open_rows 4 [.bool] Tryz.underlying91 (by kernel_rfl) (by kernel_rfl) (by decide) hv h
  obtain ⟨l, rfl, hl⟩ := rows_map1 (fun z => [Value.bool z]) (fun _ => True) rows (fun r hr => by
    obtain ⟨a, r2, rfl, hr2⟩ := (h3 r hr).bool
    obtain rfl := hr2.nil
    exact ⟨a, rfl, trivial⟩)
  refine ⟨ad, c, l, by simp, by simpa using Nat.le_trans h1 h2, fun hne => ?_⟩
  obtain ⟨b, o, he, hb, hc⟩ := h4 (by simpa using hne)
  refine ⟨b, o, he, hb, fun k z hk => ?_⟩
  have := hc k [.bool z] (by rw [List.getElem?_map, hk]; rfl) 0 _ rfl
  simpa using this
end
end Go.Proofs.YtmblknknbbdmeaaGreat
/- receiver's laws: no thing is believed twice, plainly. -/
namespace Go.Proofs.YtmblknknbbdmeaaGreat
open Go Go.RowKit Go.Maps
set_option linter.unusedVariables false
set_option linter.unusedSimpArgs false

/-- what was believed since R: new, each once -/
structure TI (R : Rc) (S : RS) : Prop where
  bl : ∀ j, S.1.bl j = R.bl j ++ (S.2.filter (fun x => decide (x.1 = j))).map (·.2)
  nodup : S.2.Nodup
  new : ∀ x ∈ S.2, x.2 ∉ R.bl x.1
  le : ∀ x ∈ S.2, x.1 ≤ S.1.a ∧ 1 ≤ x.1 ∧ x.1 ≤ R.c ∧ x.2.length ≤ 1000
theorem TI.start (R : Rc) : TI R (R, []) := ⟨fun j => by simp, List.nodup_nil, fun x h => by simp at h, fun x h => by simp at h⟩
section
variable {R : Rc} {S : RS}
theorem TI.thg (h : TI R S) {i : Int} (k : List UInt8) (h1 : 1 ≤ i) (h2 : i ≤ R.c) (h3 : i ≤ S.1.a) {t : List UInt8} (ht : t.length ≤ 1016) : TI R (Proofs.YtmblknknbbdmeaaGreat.thg k i S t) := by
  unfold Proofs.YtmblknknbbdmeaaGreat.thg
  split
  · split
    · exact h
    · rename_i hn
      have hnS : (i, t.drop 16) ∉ S.2 := fun hm => by
        apply hn
        rw [h.bl i]
        exact List.mem_append_right _ (List.mem_map.2 ⟨_, List.mem_filter.2 ⟨hm, by simp⟩, rfl⟩)
      have hnR : t.drop 16 ∉ R.bl i := fun hm => hn (by rw [h.bl i]; exact List.mem_append_left _ hm)
      refine ⟨fun j => ?_, List.nodup_append.2 ⟨h.nodup, by simp, fun x hx y hy e => by rw [List.mem_singleton] at hy; exact hnS (by rw [← hy, ← e]; exact hx)⟩, fun x hx => ?_, fun x hx => ?_⟩
      · show addL S.1.bl i (t.drop 16) j = _
        unfold addL
        rw [List.filter_append, List.map_append, ← List.append_assoc, ← h.bl j]
        by_cases e : j = i
        · subst e; simp
        · rw [if_neg e, List.filter_cons_of_neg (by simpa using fun e2 => e e2.symm)]; simp
      · rcases List.mem_append.1 hx with hx | hx
        · exact h.new x hx
        · rw [List.mem_singleton] at hx; subst hx; exact hnR
      · rcases List.mem_append.1 hx with hx | hx
        · exact h.le x hx
        · rw [List.mem_singleton] at hx
          subst hx
          refine ⟨h3, h1, h2, ?_⟩
          show (t.drop 16).length ≤ 1000
          rw [List.length_drop]; omega
  · exact ⟨h.bl, h.nodup, h.new, h.le⟩
theorem TI.thgs {i : Int} (k : List UInt8) (h1 : 1 ≤ i) (h2 : i ≤ R.c) : ∀ (ts : List (List UInt8)) (S : RS), TI R S → i ≤ S.1.a → (∀ t ∈ ts, t.length ≤ 1016) → TI R (ts.foldl (Proofs.YtmblknknbbdmeaaGreat.thg k i) S)
  | [], S, h, _, _ => h
  | t :: ts, S, h, h3, ht => by
    rw [List.foldl_cons]
    refine TI.thgs k h1 h2 ts _ (h.thg k h1 h2 h3 (ht t List.mem_cons_self)) ?_ (fun u hu => ht u (List.mem_cons_of_mem _ hu))
    have := (thg_same k i S t).1
    obtain ⟨_, _, _, _, _, e, _⟩ := this
    rw [e]; exact h3
theorem TI.buf (h : TI R S) (B : Bf) : TI R ({ S.1 with B := B }, S.2) := ⟨h.bl, h.nodup, h.new, h.le⟩
theorem TI.blvs : ∀ (l : List Int) (S : RS), TI R S → (∀ i ∈ l, i ≤ S.1.a) → (∀ p ∈ S.1.B.sl, 1 ≤ p.1 ∧ p.1 ≤ R.c ∧ ∀ t ∈ p.2, t.length ≤ 1016) → TI R (l.foldl blvI S)
  | [], S, h, _, _ => h
  | i :: l, S, h, ha, hw => by
    rw [List.foldl_cons]
    obtain ⟨⟨_, _, _, _, _, e, _⟩, hB⟩ := blvI_same S i
    refine TI.blvs l _ ?_ (fun j hj => by rw [e]; exact ha j (List.mem_cons_of_mem _ hj)) (fun p hp => ?_)
    · unfold blvI
      cases hf : fnd S.1.B.sl i with
      | none => exact h.buf _
      | some ts =>
        have hm := hw _ (fnd_mem hf)
        exact TI.thgs (keyAt S.1 i) hm.1 hm.2.1 ts _ (h.buf _) (ha i List.mem_cons_self) hm.2.2
    · rw [hB] at hp
      exact hw p (List.mem_filter.1 hp).1
theorem TI.blv {N : Nat} (h : Rok N R) : TI R (blv R) := by
  unfold Proofs.YtmblknknbbdmeaaGreat.blv blvL
  refine TI.blvs _ (R, []) (TI.start R) (fun i hi => ?_) (fun p hp => ?_)
  · have := List.all_takeWhile (p := fun i => decide (i ≤ R.a)) (l := ivs R.B)
    have := List.all_eq_true.1 this i hi
    simpa using this
  · have := h.wf p hp
    exact ⟨this.1, this.2.1, fun t ht => (this.2.2.2 t ht).2⟩
/-- an act: nothing is believed twice, the mind doesn't go back -/
structure AI (R : Rc) (S : RS) : Prop where
  ti : TI R S
  up : R.a ≤ S.1.a
  c : S.1.c = R.c
  each : S.1.B.each = R.B.each ∧ S.1.B.room = R.B.room
theorem AI.start (R : Rc) : AI R (R, []) := ⟨TI.start R, Int.le_refl _, rfl, rfl, rfl⟩
theorem lrn_AI {N : Nat} (h : Rin N R) (k : List UInt8) (i : Int) : AI R (lrnP R k i).1 := by
  unfold lrnP
  split
  · exact AI.start R
  · split
    · exact AI.start R
    · split
      · rename_i h1 h2 h3
        have hi : 0 ≤ i ∧ i ≤ R.c := by omega
        have ht := TI.blv (R := { R with K := k, a := i }) (h.learnt k hi.1 hi.2).ok
        obtain ⟨_, _, _, ec, _, ea, _⟩ := blv_same { R with K := k, a := i }
        refine ⟨⟨ht.bl, ht.nodup, ht.new, ht.le⟩, ?_, ec, ?_⟩
        · show R.a ≤ (Proofs.YtmblknknbbdmeaaGreat.blv { R with K := k, a := i }).1.a
          rw [ea]
          show R.a ≤ i
          omega
        · have hB := (blvs_same ((ivs ({ R with K := k, a := i } : Rc).B).takeWhile fun j => decide (j ≤ ({ R with K := k, a := i } : Rc).a)) ({ R with K := k, a := i }, [])).2
          have e : (Proofs.YtmblknknbbdmeaaGreat.blv { R with K := k, a := i }).1.B = _ := hB
          obtain ⟨b1, b2, _⟩ := takBs_each ((ivs ({ R with K := k, a := i } : Rc).B).takeWhile fun j => decide (j ≤ ({ R with K := k, a := i } : Rc).a)) R.B
          show (Proofs.YtmblknknbbdmeaaGreat.blv { R with K := k, a := i }).1.B.each = _ ∧ (Proofs.YtmblknknbbdmeaaGreat.blv { R with K := k, a := i }).1.B.room = _
          rw [e]
          exact ⟨b1, b2⟩
      · exact AI.start R
theorem AI.put (h : AI R S) (i : Int) (t : List UInt8) : AI R ({ S.1 with B := (putP S.1.B i t).2 }, S.2) := by
  refine ⟨h.ti.buf _, h.up, h.c, ?_⟩
  rcases putP_cases S.1.B i t with ⟨_, e⟩ | ⟨_, e⟩ | ⟨_, ⟨ts, _, _, _, e⟩ | ⟨_, _, e⟩⟩ <;> rw [e] <;> exact h.each
theorem gotT_AI (h : AI R S) (iv : Int) (t g : ByteArray) (lt : Int) : AI R (gotT S iv t g lt).1 := by
  unfold gotT
  split
  · exact h
  · split
    · exact h
    · exact h.put iv _
theorem got_AI {N : Nat} (h : Rin N R) (iv : Int) (t g : ByteArray) (tl : Int) (K : List UInt8) (lt : Int) : AI R (gotP R iv t g tl K lt).1 := by
  unfold gotP
  split
  · exact AI.start R
  · split
    · split
      · exact gotT_AI (lrn_AI h K tl) iv t g lt
      · exact AI.start R
    · exact gotT_AI (AI.start R) iv t g lt
end
end Go.Proofs.YtmblknknbbdmeaaGreat
/- receiver's laws: sets of things: a map[api.Thing]bool of the call's own. -/
namespace Go.Proofs.YtmblknknbbdmeaaGreat
open Go Go.RowKit Go.Maps
set_option linter.unusedVariables false
set_option linter.unusedSimpArgs false

theorem thing_key : Tryz.prog.keyType 71 = true := by kernel_rfl
theorem thing_keyed : Maps.Keyed Tryz.prog 71 := Maps.Keyed.of_law (deep_law_gate Tryz.laidOut (of_decide_eq_true (by kernel_rfl)) (of_decide_eq_true (by kernel_rfl)) thing_key (by kernel_rfl))
/-- a thing's key -/
def thKey (x : Th) : List UInt8 := keyBytes [.int .i64 x.1, .string x.2]
theorem str_thing : Tryz.prog.underlying 71 = some (.struct (Tryz.prog.fieldsOf 71)) := by kernel_rfl
theorem fields_thing : (Tryz.prog.fieldsOf 71).toList.map (fun f => (f.name != "_", f.type, f.offset)) = [(true, 3, 0), (true, 9, 1)] := by kernel_rfl
theorem formed_thing (i : Int) (s : ByteArray) : (Value.agg #[.int .i64 i, .string s]).formed Tryz.prog 71 = true := by kernel_rfl
theorem types_pos : ∃ m, Tryz.prog.types.size = m + 1 := ⟨Tryz.prog.types.size - 1, (Nat.sub_add_cancel (of_decide_eq_true (by kernel_rfl))).symm⟩
theorem keyLits_int (m : Nat) (i : Int) (h : (Lit.int .i64 i).wf = true) : Tryz.prog.keyLits (m + 1) 3 [.int .i64 i] = some [.int .i64 i] := by
  unfold Program.keyLits
  rw [Tryz.underlying3]
  simp [h]
theorem keyLits_str (m : Nat) (s : ByteArray) (h : s.size ≤ maxLen) : Tryz.prog.keyLits (m + 1) 9 [.string s] = some [.string s.data.toList] := by
  unfold Program.keyLits
  rw [Tryz.underlying9]
  simp [h]
theorem keyLits_thing (m : Nat) (i : Int) (s : ByteArray) (h1 : (Lit.int .i64 i).wf = true) (h2 : s.size ≤ maxLen) : Tryz.prog.keyLits (m + 1 + 1) 71 [.int .i64 i, .string s] = some [.int .i64 i, .string s.data.toList] := by
  have hf := fields_thing
  have hc : Tryz.prog.cellsOf 71 = 2 := by kernel_rfl
  have hc1 : Tryz.prog.cellsOf 3 = 1 := by kernel_rfl
  have hc2 : Tryz.prog.cellsOf 9 = 1 := by kernel_rfl
  unfold Program.keyLits
  rw [str_thing]
  obtain ⟨fs, hfs⟩ : ∃ fs, Tryz.prog.fieldsOf 71 = fs := ⟨_, rfl⟩
  rw [hfs] at hf
  rw [hfs]
  obtain ⟨l, rfl⟩ : ∃ l : List _, fs = l.toArray := ⟨fs.toList, by simp⟩
  rw [show l.toArray.toList = l by simp] at hf
  obtain ⟨a, b, rfl, ha, hb⟩ := map_two hf
  simp only [Prod.mk.injEq] at ha hb
  obtain ⟨a1, a2, a3⟩ := ha
  obtain ⟨b1, b2, b3⟩ := hb
  dsimp only
  rw [hc]
  simp [a1, a2, a3, b1, b2, b3, hc1, hc2, keyLits_int m i h1, keyLits_str m s h2]
set_option maxRecDepth 100000 in
theorem keyOf_thing (x : Th) (h1 : (Lit.int .i64 x.1).wf = true) (h2 : x.2.length ≤ maxLen) : keyOf Tryz.prog 71 (.agg (thC x).toArray) = some (.string (thKey x)) := by
  obtain ⟨m, hm⟩ := types_pos
  unfold keyOf
  rw [str_thing]
  dsimp only
  have hfm := formed_thing x.1 (str x.2)
  rw [thing_key, show (thC x).toArray = #[.int .i64 x.1, .string (str x.2)] from rfl, hfm, Bool.true_and, if_pos rfl, hm]
  have := keyLits_thing m x.1 (str x.2) h1 (by rw [str_size]; exact h2)
  rw [show (Value.agg #[.int .i64 x.1, .string (str x.2)]).cells.toList = [.int .i64 x.1, .string (str x.2)] from rfl, this]
  rfl
set_option maxRecDepth 100000 in
theorem thKey_inj {x y : Th} (hx : (Lit.int .i64 x.1).wf = true) (hx2 : x.2.length ≤ maxLen) (hy : (Lit.int .i64 y.1).wf = true) (hy2 : y.2.length ≤ maxLen) (h : thKey x = thKey y) : x = y := by
  have e1 := keyOf_thing x hx hx2
  have e2 := keyOf_thing y hy hy2
  rw [h] at e1
  have e := thing_keyed.inj e1 e2
  have e3 : thC x = thC y := by
    injection e with e
    exact List.toArray_inj e
  simp only [thC, List.cons.injEq, Value.int.injEq, true_and, Value.string.injEq, and_true] at e3
  exact Prod.ext e3.1 (by have := congrArg bs e3.2; rw [bs_str, bs_str] at this; exact this)
/-- a thing that a map's key can be -/
def okTh (x : Th) : Prop := (Lit.int .i64 x.1).wf = true ∧ x.2.length ≤ maxLen
/-- a set of things: a map[api.Thing]bool that reads true at those of L alone -/
def Thg (w : World) (b n : Nat) (L : List Th) : Prop := (∀ x ∈ L, okTh x) ∧ ∃ D : DataW Unit, w.ownsMap Tryz.prog 71 (plainElem Tryz.prog 4) b n D ∧ ∀ x : Th, okTh x → D.atKey (.string (thKey x)) (.lit (.bool false)) = .lit (.bool (decide (x ∈ L)))
set_option maxRecDepth 100000
section
variable {w w' : World} {b n : Nat} {L : List Th}
theorem Thg.lt (h : Thg w b n L) : b < w.heap.size := by
  obtain ⟨_, D, h1, h2⟩ := h
  exact h1.lt
theorem Thg.mapO (h : Thg w b n L) : ∃ es cl, w.heap[b]? = some (.map es cl) := by
  obtain ⟨_, D, ⟨es, cl, hb, _⟩, h2⟩ := h
  exact ⟨es, cl, hb⟩
set_option maxRecDepth 100000 in
theorem Thg.made (w : World) : Thg (w.alloc (.map #[] 0)) w.heap.size 0 [] := ⟨by simp, .map [], World.ownsMap_made w _ _ _, fun k _ => by simp [DataW.atKey]⟩
theorem Thg.kept {row : Option Nat} (h : Thg w b n L) (hg : w.grownBy w' row) (hne : some b ≠ row) : Thg w' b n L := by
  obtain ⟨h0, D, h1, h2⟩ := h
  exact ⟨h0, D, h1.kept hg hne, h2⟩
theorem Thg.bel (h : Thg w b n L) (hb : Below w.heap.size w w') : Thg w' b n L := h.kept (row := none) ⟨hb.os, hb.tape, hb.output, hb.size, fun k hk _ => hb.block k hk⟩ (by simp)
theorem Thg.at_ (h : Thg w b n L) (e : w'.heap[b]? = w.heap[b]?) : Thg w' b n L := by
  obtain ⟨h0, D, ⟨es, cl, hb, h3⟩, h2⟩ := h
  exact ⟨h0, D, ⟨es, cl, e.trans hb, h3⟩, h2⟩
set_option maxRecDepth 100000 in
theorem Thg.look (h : Thg w b n L) (x : Th) (hx : okTh x) : (Instr.lookup 62 (.map (some b)) (.agg (thC x).toArray) false).run Tryz.prog w = .ok (.bool (decide (x ∈ L))) w := by
  obtain ⟨h0, D, h1, h2⟩ := h
  obtain ⟨v, ps, hr, hv⟩ := h1.lookup (t := 62) (e := 4) (z := .bool false) (zd := .lit (.bool false)) (zp := []) (key := .agg (thC x).toArray) (kl := .string (thKey x)) thing_keyed Tryz.underlying62 (by kernel_rfl) (plainElem_bool Tryz.underlying4 false) (keyOf_thing x hx.1 hx.2)
  obtain ⟨y, rfl, hy⟩ := plainElem_bool_inv Tryz.underlying4 hv
  simp only [Prod.mk.injEq] at hy
  rw [h2 x hx] at hy
  have e := hy.1
  injection e with e
  injection e with e
  rw [hr, e]
set_option maxRecDepth 100000 in
theorem Thg.put (h : Thg w b n L) (x : Th) (hx : okTh x) (hn : n < maxLen) : ∃ w', (Instr.mapUpdate 62 (.map (some b)) (.agg (thC x).toArray) (.bool true)).run Tryz.prog w = .ok () w' ∧ Thg w' b (n + 1) (x :: L) ∧ w.grownBy w' (some b) := by
  obtain ⟨h0, D, h1, h2⟩ := h
  obtain ⟨w', hr, ho, hg⟩ := h1.update (t := 62) (e := 4) (key := .agg (thC x).toArray) (val := .bool true) (kl := .string (thKey x)) (d := .lit (.bool true)) (ps := []) thing_keyed Tryz.underlying62 hn (keyOf_thing x hx.1 hx.2) (plainElem_bool Tryz.underlying4 true)
  refine ⟨w', hr, ⟨fun y hy => by rcases List.mem_cons.1 hy with rfl | hy; exact hx; exact h0 y hy, _, ho, fun y hy => ?_⟩, hg⟩
  by_cases e : y = x
  · subst e
    rw [Maps.atKey_put_same h1.isMap (by trivial)]
    simp
  · rw [Maps.atKey_put_other (by intro e2; injection e2 with e2; exact e (thKey_inj hy.1 hy.2 hx.1 hx.2 e2)), h2 y hy]
    simp [e]
end
/-! ### map[int]int -/
theorem plainI_inv {v : Value} {x : DataW Unit} {ps : List MemPlace} (h : plainElem Tryz.prog 3 v = some (x, ps)) : ∃ n : Int, v = .int .i64 n ∧ x = .lit (.int .i64 n) := by
  unfold plainElem at h
  rw [Tryz.underlying3] at h
  cases v <;> simp at h
  case int k n =>
    obtain ⟨h1, h2⟩ := h
    first
      | exact ⟨n, by rw [h1.1], h2.1.symm⟩
      | (obtain ⟨e, h3⟩ := h1; subst e; exact ⟨n, rfl, h2.1.symm⟩)
      | (subst h1; exact ⟨n, rfl, h2.1.symm⟩)
end Go.Proofs.YtmblknknbbdmeaaGreat
/- receiver's laws: a map[int]int of the call's own. -/
namespace Go.Proofs.YtmblknknbbdmeaaGreat
open Go Go.RowKit Go.Maps
set_option linter.unusedVariables false
set_option linter.unusedSimpArgs false
set_option maxRecDepth 100000

def mcR : Value → Option (DataW Unit × List MemPlace)
  | .int .i64 n => some (.lit (.int .i64 n), [])
  | _ => none
theorem mcR_some {v : Value} {x : DataW Unit} {ps : List MemPlace} (h : mcR v = some (x, ps)) : ∃ n : Int, v = .int .i64 n ∧ x = .lit (.int .i64 n) := by
  unfold mcR at h
  split at h
  · injection h with h
    injection h with h1 h2
    exact ⟨_, rfl, h1.symm⟩
  · cases h
/-- elements of the map of counts -/
def MC : EK Int where
  t := 63
  e := 3
  R := mcR
  z := .int .i64 0
  zd := .lit (.int .i64 0)
  enc := fun x => .lit (.int .i64 x)
  val := fun x => .int .i64 x
  ht := Tryz.underlying63
  hz := fun w => by kernel_rfl
  hzd := rfl
  hR := fun x => rfl
  inv := fun v x ps h => by
    obtain ⟨n, rfl, e⟩ := mcR_some h
    simp only [DataW.lit.injEq, Lit.int.injEq, true_and] at e
    rw [e]
  invz := fun v ps h => by
    obtain ⟨n, rfl, e⟩ := mcR_some h
    simp only [DataW.lit.injEq, Lit.int.injEq, true_and] at e
    rw [e]
/-- a map that counts -/
def CM (w : World) (g n : Nat) (f : Int → Nat) : Prop := ∃ F, IM MC w g n F ∧ ∀ j : Int, (fnd F j).getD 0 = (f j : Int)
section
variable {w w' : World} {g n : Nat} {f : Int → Nat}
theorem CM.made (w : World) : CM (w.alloc (.map #[] 0)) w.heap.size 0 (fun _ => 0) := ⟨[], IM.made MC w, fun j => rfl⟩
theorem CM.bel (h : CM w g n f) (hb : Below w.heap.size w w') : CM w' g n f := by
  obtain ⟨F, h1, h2⟩ := h
  exact ⟨F, h1.bel hb, h2⟩
theorem CM.kept {row : Option Nat} (h : CM w g n f) (hg : w.grownBy w' row) (hne : some g ≠ row) : CM w' g n f := by
  obtain ⟨F, h1, h2⟩ := h
  exact ⟨F, h1.kept hg hne, h2⟩
theorem CM.lt (h : CM w g n f) : g < w.heap.size := by
  obtain ⟨F, h1, h2⟩ := h
  exact h1.lt
theorem CM.mapO (h : CM w g n f) : ∃ es cl, w.heap[g]? = some (.map es cl) := by
  obtain ⟨F, h1, _⟩ := h
  obtain ⟨D, h2, _⟩ := h1.own
  obtain ⟨es, cl, hb, _⟩ := h2
  exact ⟨es, cl, hb⟩
theorem CM.at_ (h : CM w g n f) (e : w'.heap[g]? = w.heap[g]?) : CM w' g n f := by
  obtain ⟨F, h1, h2⟩ := h
  obtain ⟨D, ⟨es, cl, hb, h3⟩, h4⟩ := h1.own
  exact ⟨F, ⟨⟨D, ⟨es, cl, e.trans hb, h3⟩, h4⟩, h1.nodup⟩, h2⟩
theorem CM.look (h : CM w g n f) (j : Int) (hj : (kI j).wf = true) : (Instr.lookup 63 (.map (some g)) (.int .i64 j) false).run Tryz.prog w = .ok (.int .i64 (f j : Int)) w := by
  obtain ⟨F, h1, h2⟩ := h
  have h3 := h1.look1 j hj
  have h4 := h2 j
  cases hf : fnd F j with
  | none => rw [hf] at h3 h4; rw [← h4]; exact h3
  | some x => rw [hf] at h3 h4; rw [← h4]; exact h3
theorem CM.put (h : CM w g n f) (j : Int) (hj : (kI j).wf = true) (hn : n < maxLen) (v : Nat) : ∃ w', (Instr.mapUpdate 63 (.map (some g)) (.int .i64 j) (.int .i64 (v : Int))).run Tryz.prog w = .ok () w' ∧ CM w' g (n + 1) (fun k => if k = j then v else f k) ∧ w.grownBy w' (some g) := by
  obtain ⟨F, h1, h2⟩ := h
  obtain ⟨w', hr, hi, hm⟩ := h1.put j hj hn (v : Int)
  refine ⟨w', hr, ⟨_, hi, fun k => ?_⟩, hm.grown⟩
  by_cases e : k = j
  · subst e
    rw [fnd_cons_same]
    show (v : Int) = ((if k = k then v else f k : Nat) : Int)
    rw [if_pos rfl]
  · rw [fnd_cons_other e, fnd_del_other e]
    show _ = ((if k = j then v else f k : Nat) : Int)
    rw [if_neg e]; exact h2 k
end
end Go.Proofs.YtmblknknbbdmeaaGreat
/- receiver's laws: arguments that are acts. -/
namespace Go.Proofs.YtmblknknbbdmeaaGreat
open Go Go.RowKit Go.ChangeShapes Go.WideShapes Go.ChangeAt
set_option linter.unusedVariables false
set_option linter.unusedSimpArgs false

/-- an act of a receiver's -/
structure Av where
  kind : Int
  iv : Int
  tx : ByteArray
  tg : ByteArray
  tl : Int
  K : List UInt8
  lt : Int
def Av.row (a : Av) : List Value := .int .i64 a.kind :: (pkL a.iv a.tx a.tg a.tl a.K ++ [.int .i64 a.lt])
structure Av.Wf (a : Av) : Prop where
  key : a.K.length = 32
  kind : (Lit.int .i64 a.kind).wf = true
  iv : (Lit.int .i64 a.iv).wf = true
  tl : (Lit.int .i64 a.tl).wf = true
  lt : (Lit.int .i64 a.lt).wf = true
  tx : a.tx.size ≤ maxLen
  tg : a.tg.size ≤ maxLen
theorem Av.row_length {a : Av} (h : a.K.length = 32) : a.row.length = 38 := by simp [Av.row, pkL, length_cellsU8, h]
/-- from a place on lie the acts l -/
def HeldA (w : World) (ad : Option Addr) (l : List Av) : Prop := l ≠ [] → ∃ b o, ad = some ⟨b, o, none⟩ ∧ b < w.heap.size ∧ ∀ (i : Nat) (a : Av), l[i]? = some a → ∀ (j : Nat) (v : Value), a.row[j]? = some v → w.cell? ⟨b, o + i * 38 + j, none⟩ = some v
theorem fits_u8s_more : ∀ (n : Nat) (ss : List Leaf) (cs : List Value), Fits (List.replicate n (.int .u8) ++ ss) cs → ∃ (K : List UInt8) (cs' : List Value), cs = cellsU8 K ++ cs' ∧ K.length = n ∧ Fits ss cs'
  | 0, ss, cs, h => ⟨[], cs, rfl, rfl, h⟩
  | n + 1, ss, cs, h => by
    have h' : Fits (.int .u8 :: (List.replicate n (.int .u8) ++ ss)) cs := h
    obtain ⟨a, cs1, rfl, ha, h2⟩ := h'.int
    obtain ⟨K, cs', rfl, hK, h3⟩ := fits_u8s_more n ss cs1 h2
    have hz2 := wf_u8 ha
    refine ⟨UInt8.ofNat a.toNat :: K, cs', ?_, by simp [hK], h3⟩
    simp only [cellsU8, List.map_cons, List.cons_append]
    congr 2
    simp
    omega
theorem fits_act {r : List Value} (hr : Fits ([.int .i64, .int .i64, .str, .str, .int .i64] ++ (List.replicate 32 (.int .u8) ++ [.int .i64])) r) : ∃ a : Av, r = a.row ∧ a.Wf := by
  obtain ⟨kd, cs, rfl, h0, hf⟩ := hr.int
  obtain ⟨iv, cs, rfl, h1, hf⟩ := hf.int
  obtain ⟨tx, cs, rfl, h2, hf⟩ := hf.str
  obtain ⟨tg, cs, rfl, h3, hf⟩ := hf.str
  obtain ⟨tl, cs, rfl, h4, hf⟩ := hf.int
  obtain ⟨K, cs, rfl, hK, hf⟩ := fits_u8s_more 32 _ _ hf
  obtain ⟨lt, cs, rfl, h5, hf⟩ := hf.int
  obtain rfl := hf.nil
  exact ⟨⟨kd, iv, tx, tg, tl, K, lt⟩, by simp [Av.row, pkL], ⟨hK, h0, h1, h4, h5, h2, h3⟩⟩
section
variable {H : Type} {enc : TypeId × Value → H} {w : World} {base : Nat} {spare : Nat → Bool} {held : Bool}
set_option maxRecDepth 100000 in
theorem open_racts {r : Reach} {b0 : Nat} {v : Value} {d : DataW H} {ps : List MemPlace} (hv : Value.okWide Tryz.prog w r b0 57 v) (h : DataW.Trod enc Tryz.prog w base spare held 57 v d ps) :
    ∃ (ad : Option Addr) (c : Nat) (l : List Av), v = .slice ad l.length c ∧ l.length ≤ maxLen ∧ (∀ a ∈ l, a.Wf) ∧ HeldA w ad l := by
  obtain ⟨ad, c, rows, rfl, h1, h2, h3, h4⟩ := open_rows 6 ([.int .i64, .int .i64, .str, .str, .int .i64] ++ (List.replicate 32 (.int .u8) ++ [.int .i64])) Tryz.underlying57 (by kernel_rfl) (by kernel_rfl) (by decide) hv h
  obtain ⟨l, rfl, hl⟩ := rows_map Av.row Av.Wf (fun r hr => fits_act hr) rows h3
  refine ⟨ad, c, l, by simp, by simpa using Nat.le_trans h1 h2, hl, fun hne => ?_⟩
  obtain ⟨b, o, he, hb, hc⟩ := h4 (by simpa using hne)
  refine ⟨b, o, he, hb, fun i a hi j v hj => ?_⟩
  have := hc i a.row (by rw [List.getElem?_map, hi]; rfl) j v hj
  exact this
end
end Go.Proofs.YtmblknknbbdmeaaGreat
/- receiver's laws: acts. -/
namespace Go.Proofs.YtmblknknbbdmeaaGreat
open Go Go.RowKit Go.Maps
set_option linter.unusedVariables false
set_option linter.unusedSimpArgs false
attribute [local go_sem] bmax2 bmin2 bmax bmin cell_ext frozen_ext

def largeA (a : Av) : Bool := decide ((1100 : Int) < (a.tx.size : Int)) || decide ((100 : Int) < (a.tg.size : Int))
set_option maxHeartbeats 1000000 in
set_option maxRecDepth 100000 in
theorem R_large (a : Av) (w : World) : Calls Tryz.prog 30 #[.agg a.row.toArray] w fun e w' => e = .returned (.bool (largeA a)) ∧ Below w.heap.size w w' := by
  have HB := kp (ba (Below.refl w.heap.size w) (.cells a.row.toArray 65))
  have HN := Blk.new w 65 a.row.toArray
  have c2 : (w.alloc (.cells a.row.toArray 65)).cell? ⟨w.heap.size, 2, none⟩ = some (.string a.tx) := HN.atL rfl
  have c3 : (w.alloc (.cells a.row.toArray 65)).cell? ⟨w.heap.size, 3, none⟩ = some (.string a.tg) := HN.atL rfl
  have kl := HN.lt
  unfold largeA
  generalize a.row = X at *
  generalize a.tx = tx at *
  generalize a.tg = tg at *
  clear HN
  by_cases h1 : (1100 : Int) < (tx.size : Int)
  · have d1 := decide_eq_true h1
    rw [d1, Bool.true_or]
    go_enter Tryz.func30, Tryz.ntmps30
    go_wp2
    go_ret
    exact ⟨rfl, HB.out⟩
  · have d1 := decide_eq_false h1
    rw [d1, Bool.false_or]
    go_enter Tryz.func30, Tryz.ntmps30
    go_wp2
    go_ret
    exact ⟨rfl, HB.out⟩
/-- what an act does -/
def actP (R : Rc) (a : Av) : RS := if a.kind = 0 then (gotP R a.iv a.tx a.tg a.tl a.K a.lt).1 else if a.kind = 1 then (lrnP R a.K a.tl).1 else (R, [])
section
variable {N : Nat} {R : Rc}
theorem act_AI (h : Rin N R) (a : Av) : AI R (actP R a) := by
  unfold actP
  split
  · exact got_AI h _ _ _ _ _ _
  · split
    · exact lrn_AI h _ _
    · exact AI.start R
theorem lrn_out (k : List UInt8) (i : Int) (h : 0 ≤ R.B.sz) (hb : Bok R.B) : ((lrnP R k i).1.2.length : Int) ≤ R.B.sz := by
  unfold lrnP
  split
  · simpa using h
  · split
    · simpa using h
    · split
      · have h1 := blv_out { R with K := k, a := i }
        have h2 : 0 ≤ (blv { R with K := k, a := i }).1.B.sz := by
          have hB := (blvs_same ((ivs ({ R with K := k, a := i } : Rc).B).takeWhile fun j => decide (j ≤ ({ R with K := k, a := i } : Rc).a)) ({ R with K := k, a := i }, [])).2
          have e : (blv { R with K := k, a := i }).1.B = _ := hB
          rw [e]
          have := (Bok.taks (B := R.B) hb ((ivs ({ R with K := k, a := i } : Rc).B).takeWhile fun j => decide (j ≤ ({ R with K := k, a := i } : Rc).a))).sz
          show 0 ≤ (List.foldl takB R.B _).sz
          rw [this]
          omega
        show ((blv { R with K := k, a := i }).2.length : Int) ≤ R.B.sz
        have h1' : ((blv { R with K := k, a := i }).2.length : Int) + (blv { R with K := k, a := i }).1.B.sz ≤ R.B.sz := h1
        omega
      · simpa using h
theorem gotT_out (S : RS) (iv : Int) (t g : ByteArray) (lt : Int) : (gotT S iv t g lt).1.2 = S.2 := by
  unfold gotT
  split
  · rfl
  · split <;> rfl
theorem act_out (h : Rin N R) (a : Av) : (actP R a).2.length ≤ 4096 := by
  have hb := h.ok.bok
  have h0 : 0 ≤ R.B.sz := by rw [hb.sz]; omega
  have hs : R.B.sz ≤ 4096 := by rw [hb.sz]; have := hb.le; omega
  have hl := fun k i => lrn_out (R := R) k i h0 hb
  unfold actP
  split
  · unfold gotP
    split
    · simp
    · split
      · split
        · rw [gotT_out]; have := hl a.K a.tl; omega
        · simp
      · rw [gotT_out]; simp
  · split
    · have := hl a.K a.tl; omega
    · simp
theorem sz_nine (h : Rin N R) (h1 : R.B.each = 3) (h2 : R.B.room = 3) : R.B.sz ≤ 9 := by
  rw [h.ok.sz]
  have h3 := slN_le (sl := R.B.sl) (k := 3) (fun p hp => by have := (h.ok.wf p hp).2.2.1; rw [h1] at this; exact this)
  have h4 := h.ok.len
  rw [h2] at h4
  have := Nat.mul_le_mul_right 3 h4
  omega
/-- a thing that was believed can be a key -/
theorem TI.okTh {S : RS} (h : TI R S) (hc : R.c ≤ 1024) {x : Th} (hx : x ∈ S.2) : Proofs.YtmblknknbbdmeaaGreat.okTh x := by
  obtain ⟨h1, h2, h3, h4⟩ := h.le x hx
  exact ⟨kI_wf (by omega) (by omega), Nat.le_trans h4 (by unfold maxLen; omega)⟩
/-- how many things of an interval -/
def cntI (l : List Th) (i : Int) : Nat := (l.filter fun x => decide (x.1 = i)).length
theorem AI.cnt {S : RS} (h : AI R S) (i : Int) : (S.1.bl i).length = (R.bl i).length + cntI S.2 i := by
  rw [h.ti.bl i, List.length_append, List.length_map]; rfl
theorem AI.mem {S : RS} (h : AI R S) (x : Th) : x.2 ∈ S.1.bl x.1 ↔ x.2 ∈ R.bl x.1 ∨ x ∈ S.2 := by
  rw [h.ti.bl x.1, List.mem_append, List.mem_map]
  constructor
  · rintro (h1 | ⟨y, hy, he⟩)
    · exact Or.inl h1
    · obtain ⟨hy1, hy2⟩ := List.mem_filter.1 hy
      right
      have : y = x := Prod.ext (by simpa using hy2) he
      exact this ▸ hy1
  · rintro (h1 | h1)
    · exact Or.inl h1
    · exact Or.inr ⟨x, List.mem_filter.2 ⟨h1, by simp⟩, rfl⟩
theorem cntI_snoc (l : List Th) (x : Th) (i : Int) : cntI (l ++ [x]) i = cntI l i + if i = x.1 then 1 else 0 := by
  unfold cntI
  rw [List.filter_append, List.length_append]
  by_cases e : i = x.1
  · rw [if_pos e, List.filter_cons_of_pos (by simp [e])]; rfl
  · rw [if_neg e, List.filter_cons_of_neg (by simpa using fun e2 => e e2.symm)]; rfl
end
section
variable {w w' : World} {b n g B : Nat} {L : List Th} {f : Int → Nat} {Z : Nat → Prop}
theorem Thg.mvQ (h : Thg w b n L) (hm : MvQ B Z w w') (hz : Z b) : Thg w' b n L := h.at_ (hm.zz b hz)
theorem CM.mvQ (h : CM w g n f) (hm : MvQ B Z w w') (hz : Z g) : CM w' g n f := h.at_ (hm.zz g hz)
end
end Go.Proofs.YtmblknknbbdmeaaGreat
