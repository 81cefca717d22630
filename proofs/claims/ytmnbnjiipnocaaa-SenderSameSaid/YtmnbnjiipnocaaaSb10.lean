/- Texts laid together: Snd9, Snd10. -/
import Derived.Test.YtmnbnjiipnocaaaSb9
/- sender's laws: large; a call's cells; the region that sends. -/
namespace Go.Proofs.Ytmnbnjiipnocaaa
open Go Go.RowKit
set_option linter.unusedVariables false
set_option linter.unusedSimpArgs false
attribute [local go_sem] bmax2 bmin2 bmax bmin cell_ext frozen_ext

theorem exec_index {P : Program} {o : Oper} {a : Act} {t e : TypeId} {x i : Operand} (ho : o.op = .indexAddr t x i) {sz : Nat} (ht : P.underlying t = some (.slice e)) (hs : (P.info? e).map (·.size) = some sz) {b off len cap j : Nat} (hx : a.eval x = .slice (some ⟨b, off, none⟩) len cap) (hi : a.eval i = .int .i64 (j : Int)) (hj : j < len) (w : World) :
    (execOp a.eval o).run P w = .ok (.value (.pointer (some ⟨b, off + j * sz, none⟩))) w := by
  cases hq : P.info? e with
  | none => simp [hq] at hs
  | some inf =>
    have hz : inf.size = sz := by simpa [hq] using hs
    have h1 : (0 : Int) ≤ (j : Int) := by omega
    unfold execOp
    simp only [ho, hx, hi]
    simp [Instr.indexAt, run_underlying ht, asIntOf, hj, h1, sizeOf, typeInfo, hq, hz, Sem.run_bind, addr_add]
theorem info_call : (Try.prog.info? 39).map (·.size) = some 2 := by kernel_rfl
theorem S_large (c : Cl) (w : World) : Calls Try.prog 12 #[.agg c.row.toArray] w fun e w' => e = .returned (.bool (decide ((1100 : Int) < (c.t.size : Int)))) ∧ Below w.heap.size w w' := by
  have HB := kp (ba (Below.refl w.heap.size w) (.cells c.row.toArray 39))
  unfold Cl.row at HB ⊢
  go_enter Try.func12, Try.ntmps12
  go_wp2
  go_ret
  exact ⟨rfl, HB.out⟩
/-- a call's cells in a world on from w -/
theorem HeldC.at {w W : World} {b o cap : Nat} {l : List Cl} {n : Nat} (h : HeldC w (some ⟨b, o, none⟩) l) (hb : Below w.heap.size w W) {j : Nat} {c : Cl} (hj : l[j]? = some c) : W.cell? ⟨b, o + j * 2, none⟩ = some (.int .i64 c.n) ∧ W.cell? ⟨b, o + j * 2 + 1, none⟩ = some (.string c.t) ∧ b < w.heap.size := by
  obtain ⟨b', o', e, hlt, hc⟩ := h (fun e => by subst e; simp at hj)
  injection e with e
  injection e with e1 e2
  subst e1; subst e2
  obtain ⟨h1, h2⟩ := hc j c hj
  exact ⟨(hb.cell (p := ⟨b, o + j * 2, none⟩) hlt).trans h1, (hb.cell (p := ⟨b, o + j * 2 + 1, none⟩) hlt).trans h2, hlt⟩
theorem HeldC.ld {w W : World} {b o : Nat} {l : List Cl} (h : HeldC w (some ⟨b, o, none⟩) l) (hb : Below w.heap.size w W) {j : Nat} {c : Cl} (hj : l[j]? = some c) : (Instr.loadAt 39 (.pointer (some ⟨b, o + j * 2, none⟩))).run Try.prog W = .ok (.agg c.row.toArray) W := by
  obtain ⟨h1, h2, _⟩ := HeldC.at (cap := 0) (n := 0) h hb hj
  refine ld_row (P := Try.prog) b (o + j * 2) 2 39 c.row _ Try.underlying39 rfl info_call rfl (fun i v hv => ?_)
  match i, hv with
  | 0, hv => injection hv with hv; subst hv; exact h1
  | 1, hv => injection hv with hv; subst hv; exact h2
theorem S2.row {B : Nat} {w w' : World} {b c : Nat} {p q : SP} {L M r : Nat} (h : S2 B w b c p q L M) {T : TypeId} {cs : Array Value} (hr : Blk w r T cs) (hT : T ≠ 67 ∧ T ≠ 94 ∧ T ≠ 91 ∧ T ≠ 108) (hg : w.grownBy w' (some r)) : S2 B w' b c p q L M := by
  obtain ⟨X, Y, h1, h2, h3⟩ := h
  exact ⟨X, Y, h1.row hr hT hg, h2.row hr hT hg, h3⟩
/-- one cell, loaded -/
theorem ld_one {P : Program} {w : World} {ty : TypeId} {d : TypeDesc} (hu : P.underlying ty = some d) (hd : aggB d = false) {b o : Nat} {v : Value} (hc : w.cell? ⟨b, o, none⟩ = some v) : (Instr.loadAt ty (.pointer (some ⟨b, o, none⟩))).run P w = .ok v w := by
  have hagg : (isAgg ty).run P w = .ok false w := by
    unfold isAgg
    rw [Sem.run_bind, run_underlying hu w]
    cases d <;> simp_all [aggB]
  simp [Instr.loadAt, Instr.sureAddr, loadVar, Sem.run_bind, hagg, hc]
/-- what a law knows while it sends: facts of other blocks, senders, how many blocks there are -/
structure TL (w : World) (N : Nat) (Ks : List (Nat × TypeId × List Value)) (Sd : World → Prop) (W : World) : Prop where
  ks : ∀ k ∈ Ks, Blk W k.1 k.2.1 k.2.2.toArray
  sd : Sd W
  below : Below w.heap.size w W
  sz : N ≤ W.heap.size
def okT4 (T : TypeId) : Prop := T ≠ 67 ∧ T ≠ 94 ∧ T ≠ 91 ∧ T ≠ 108
section
variable {w W W' : World} {N : Nat} {Ks : List (Nat × TypeId × List Value)} {Sd Sd' : World → Prop}
theorem TL.mv (h : TL w N Ks Sd W) (hT : ∀ k ∈ Ks, okT4 k.2.1) (hm : MvS w.heap.size W W') (hs : Sd' W') : TL w N Ks Sd' W' :=
  ⟨fun k hk => hm.keep (hT k hk).1 (hT k hk).2.1 (hT k hk).2.2.1 (hT k hk).2.2.2 (h.ks k hk), hs, h.below.trans hm.below, Nat.le_trans h.sz hm.below.size⟩
theorem TL.bel (h : TL w N Ks Sd W) (hb : Below W.heap.size W W') (hs : Sd W') : TL w N Ks Sd W' :=
  ⟨fun k hk => (h.ks k hk).bel hb, hs, bt' h.below hb h.below.size, Nat.le_trans h.sz hb.size⟩
/-- a new block's row stored -/
theorem TL.row (h : TL w N Ks Sd W) (hlt : ∀ k ∈ Ks, k.1 < N) {bk : Nat} (hbk : N ≤ bk) (hN : w.heap.size ≤ N) (cs : Array Value) (hs : Sd (W.setRow bk cs)) : TL w N Ks Sd (W.setRow bk cs) :=
  ⟨fun k hk => (h.ks k hk).rowfar (b := bk) (by have := hlt k hk; omega) cs, hs, bsr h.below (b := bk) (by omega) h.below.size cs, Nat.le_trans h.sz (gbrow W bk cs).size⟩
end
end Go.Proofs.Ytmnbnjiipnocaaa
/- sender's laws: packets compared; moments of an interval. -/
namespace Go.Proofs.Ytmnbnjiipnocaaa
open Go Go.RowKit
set_option linter.unusedVariables false
set_option linter.unusedSimpArgs false
attribute [local go_sem] bmax2 bmin2 bmax bmin cell_ext frozen_ext

/-- a packet's cells -/
def IsPk (PK : List Value) : Prop := ∃ iv tx tg tl K, K.length = 32 ∧ PK = pkL iv tx tg tl K
theorem exec_pk_ne {o : Oper} {a : Act} {x y : Operand} {t' : TypeId} (ho : o.op = .binOp .neq 44 x y t') {PK : List Value} (hP : IsPk PK) (hx : a.eval x = .agg PK.toArray) (hy : a.eval y = .agg PK.toArray) (w : World) :
    (execOp a.eval o).run Try.prog w = .ok (.value (.bool false)) w := by
  obtain ⟨iv, tx, tg, tl, K, hK, rfl⟩ := hP
  exact exec_nes eqT_pk ho (vs := [.int .i64 iv, .txt tx, .txt tg, .int .i64 tl, .u8s K]) (us := [.int .i64 iv, .txt tx, .txt tg, .int .i64 tl, .u8s K]) hx hy ⟨rfl, trivial, trivial, rfl, hK, trivial⟩ ⟨rfl, trivial, trivial, rfl, hK, trivial⟩ (pkL_row _ _ _ _ _) (pkL_row _ _ _ _ _) (by simp [Fv.eqAll, Fv.eq1]) w
theorem exec_pk_eq {o : Oper} {a : Act} {x y : Operand} {t' : TypeId} (ho : o.op = .binOp .eql 44 x y t') {PK : List Value} (hP : IsPk PK) (hx : a.eval x = .agg PK.toArray) (hy : a.eval y = .agg PK.toArray) (w : World) :
    (execOp a.eval o).run Try.prog w = .ok (.value (.bool true)) w := by
  obtain ⟨iv, tx, tg, tl, K, hK, rfl⟩ := hP
  exact exec_eqs eqT_pk ho (vs := [.int .i64 iv, .txt tx, .txt tg, .int .i64 tl, .u8s K]) (us := [.int .i64 iv, .txt tx, .txt tg, .int .i64 tl, .u8s K]) hx hy ⟨rfl, trivial, trivial, rfl, hK, trivial⟩ ⟨rfl, trivial, trivial, rfl, hK, trivial⟩ (pkL_row _ _ _ _ _) (pkL_row _ _ _ _ _) (by simp [Fv.eqAll, Fv.eq1]) w
/-- a moment of an interval -/
theorem atP_in_int {s l d c : Int} (hm : mayP s l d c = true) {i : Int} (h1 : 1 ≤ i) (h2 : i ≤ c) {k : Int} (k0 : 0 ≤ k) (k1 : k < l) : atP s l c (s + (i - 1) * l + k) = (i, 0) := by
  have hmm := mayP_iff.1 hm
  have hb := beg_in hm h1 (by omega)
  have hic : i * l ≤ c * l := Int.mul_le_mul_of_nonneg_right h2 (by omega)
  have hil : (i - 1) * l = i * l - l := by rw [Int.sub_mul, Int.one_mul]
  unfold atP
  rw [if_neg (by omega), if_neg (by omega)]
  have e : s + (i - 1) * l + k - s = l * (i - 1) + k := by rw [Int.mul_comm l]; omega
  rw [e, Int.mul_add_ediv_left _ _ (by omega), Int.ediv_eq_zero_of_lt k0 k1]
  congr 1
  omega
theorem sendE_in {s l d c : Int} (hm : mayP s l d c = true) {i : Nat} (h1 : 1 ≤ i) (h2 : (i : Int) ≤ c) {k : Int} (k0 : 0 ≤ k) (k1 : k < l) {L : Nat} (hL : L ≤ i) {t : ByteArray} (ht : t.size ≤ 1000) : sendE s l c L (s + ((i : Int) - 1) * l + k) t = 0 ∧ sendL s l c L (s + ((i : Int) - 1) * l + k) t = i := by
  have hat := atP_in_int hm (i := (i : Int)) (by omega) h2 k0 k1
  have hE : sendE s l c L (s + ((i : Int) - 1) * l + k) t = 0 := by
    unfold sendE
    rw [hat, if_pos rfl, if_neg (by show ¬ (i : Int) < (L : Int); omega), if_neg (by omega)]
  refine ⟨hE, ?_⟩
  unfold sendL
  rw [if_pos hE, hat]
  simp
/-- another object's block turns -/
theorem TL.grown {w W W' : World} {N : Nat} {Ks : List (Nat × TypeId × List Value)} {Sd Sd' : World → Prop} (h : TL w N Ks Sd W) {r : Nat} {T : TypeId} {cs : Array Value} (hr : Blk W r T cs) (hT : ∀ k ∈ Ks, k.2.1 ≠ T) (hg : W.grownBy W' (some r)) (hrB : w.heap.size ≤ r) (hs : Sd' W') : TL w N Ks Sd' W' :=
  ⟨fun k hk => (h.ks k hk).grown hg (fun e => by injection e with e; exact (h.ks k hk).ne_ hr (hT k hk) e), hs, h.below.grown hg h.below.size (fun k hk => by injection hk with e; omega), Nat.le_trans h.sz hg.size⟩
theorem pairRow {B : Nat} {w w' : World} {b r0 : Nat} {p : SP} {L : Nat} {S : List UInt8} {s l d c last : Int} {r : Nat} (h : S1 B w b p L ∧ RS w r0 S s l d c last) {cs : Array Value} (hr : Blk w r 44 cs) (hT : 44 ≠ 67 ∧ 44 ≠ 94 ∧ 44 ≠ 91 ∧ 44 ≠ 108) (hg : w.grownBy w' (some r)) : S1 B w' b p L ∧ RS w' r0 S s l d c last :=
  ⟨h.1.row hr hT hg, Blk.grown h.2 hg (fun e => by injection e with e; exact (Blk.ne_ h.2 hr (by decide)) e)⟩
theorem pairBel {B : Nat} {w w' : World} {b r0 : Nat} {p : SP} {L : Nat} {S : List UInt8} {s l d c last : Int} (h : S1 B w b p L ∧ RS w r0 S s l d c last) (hb : Below w.heap.size w w') : S1 B w' b p L ∧ RS w' r0 S s l d c last := ⟨h.1.bel hb, Blk.bel h.2 hb⟩
end Go.Proofs.Ytmnbnjiipnocaaa
