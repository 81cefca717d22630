/- head: Put. -/
import Derived.Test.YtoifkfhbinfplaaHd2
import Derived.Test.YtoifkfhbinfplaaShelf
namespace Go.Proofs.Ytoifkfhbinfplaa
open Go Go.RowKit
set_option linter.unusedVariables false
set_option linter.unusedSimpArgs false
attribute [local go_sem] bmax2 bmin2 bmax bmin cell_ext frozen_ext

def u8 (z : Int) : UInt8 := UInt8.ofNat (z % 256).toNat
theorem u8_int (z : Int) : ((u8 z).toNat : Int) = z % 256 := by
  unfold u8
  rw [UInt8.toNat_ofNat']
  omega
def Hd.first (h : Hd) : List UInt8 := [u8 (64 * h.a + 8 * h.b + h.c), u8 h.d, u8 h.e, u8 h.f]
def Hd.words (h : Hd) : List UInt8 := putL h.g 4 ++ putL h.h 4 ++ putL h.i 4
def Hd.stamps (h : Hd) : List UInt8 := putL h.j 8 ++ putL h.k 8 ++ putL h.l 8 ++ putL h.m 8
def Hd.bytes (h : Hd) : List UInt8 := h.first ++ h.words ++ h.stamps
theorem info_head : (Try.prog.info? 26).map (·.size) = some 13 := by kernel_rfl
theorem Hd.length (h : Hd) : h.cells.length = 13 := rfl
set_option maxHeartbeats 1000000 in
set_option maxRecDepth 100000 in
theorem Put_bad (h : Hd) (hm : h.may = false) (w : World) : Calls Try.prog 12 #[.agg h.cells.toArray] w fun e w' => e = .returned (.tuple #[.string (str []), .int .i64 2]) ∧ Below w.heap.size w w' := by
  have cM : Kp (∀ w', Calls Try.prog 16 #[.agg h.cells.toArray] w' fun e w'' => e = .returned (.bool false) ∧ Below w'.heap.size w' w'') := kp (fun w' => by rw [← hm]; exact M_May h w')
  have HL := h.length
  have HB := kp (ba (Below.refl w.heap.size w) (.cells h.cells.toArray 26))
  have HN := kp (Blk.new w 26 h.cells.toArray)
  generalize h.cells = L at *
  have L1 := ld_all (P := Try.prog) w.heap.size 13 26 26 L _ Try.underlying26 rfl info_head HL HN.out
  go_enter Try.func12, Try.ntmps12
  go_wp2_with (refine wpL_load rfl 26 _ rfl rfl L1 ?_)
  refine (cM.out _).mono ?_
  rintro e w1 ⟨rfl, hb1⟩
  have HB := kp (bt' HB.out hb1 HB.out.size)
  go_wp2
  go_ret2
  exact ⟨rfl, HB.out⟩
theorem IsB.bel {B b : Nat} {l : List UInt8} {w w' : World} (h : IsB B b l w) (hb : Below w.heap.size w w') : IsB B b l w' := by
  have key : ∀ p, Lib.BuilderAt 55 5 B b p (Lib.byteCells l) w → Lib.BuilderAt 55 5 B b p (Lib.byteCells l) w' := fun p ⟨h1, v, h2, h3, h4⟩ =>
    ⟨h1, v, (hb.block b (Array.getElem?_eq_some_iff.1 h2).1).trans h2, h3.kept (row := none) ⟨hb.os, hb.tape, hb.output, hb.size, fun k hk _ => hb.block k hk⟩ (by cases hv : v.ownBlock <;> simp), h4⟩
  exact h.imp (key _) (key _)
theorem exec_index {P : Program} {o : Oper} {a : Act} {ty : TypeId} {x y : Operand} (ho : o.op = .index ty x y) {xv yv v : Value} (hx : a.eval x = xv) (hy : a.eval y = yv) {w : World} (hr : (Instr.index ty xv yv).run P w = .ok v w) : (execOp a.eval o).run P w = .ok (.value v) w := by
  subst hx
  subst hy
  unfold execOp
  simp only [ho, Sem.run_bind, hr, Result.andThen_ok, Sem.run_pure]
theorem ix4 (a b c d : Value) (W : World) : (Instr.index 57 (.agg #[a, b, c, d]) (.int .i64 0)).run Try.prog W = .ok a W ∧ (Instr.index 57 (.agg #[a, b, c, d]) (.int .i64 1)).run Try.prog W = .ok b W ∧ (Instr.index 57 (.agg #[a, b, c, d]) (.int .i64 2)).run Try.prog W = .ok c W ∧ (Instr.index 57 (.agg #[a, b, c, d]) (.int .i64 3)).run Try.prog W = .ok d W := by
  refine ⟨?_, ?_, ?_, ?_⟩ <;> kernel_rfl
theorem ixw (a b c : Value) (W : World) : (Instr.index 62 (.agg #[a, b, c]) (.int .i64 0)).run Try.prog W = .ok a W ∧ (Instr.index 62 (.agg #[a, b, c]) (.int .i64 1)).run Try.prog W = .ok b W ∧ (Instr.index 62 (.agg #[a, b, c]) (.int .i64 2)).run Try.prog W = .ok c W := by
  refine ⟨?_, ?_, ?_⟩ <;> kernel_rfl
theorem ixs (a b c d : Value) (W : World) : (Instr.index 69 (.agg #[a, b, c, d]) (.int .i64 0)).run Try.prog W = .ok a W ∧ (Instr.index 69 (.agg #[a, b, c, d]) (.int .i64 1)).run Try.prog W = .ok b W ∧ (Instr.index 69 (.agg #[a, b, c, d]) (.int .i64 2)).run Try.prog W = .ok c W ∧ (Instr.index 69 (.agg #[a, b, c, d]) (.int .i64 3)).run Try.prog W = .ok d W := by
  refine ⟨?_, ?_, ?_, ?_⟩ <;> kernel_rfl
theorem or_first (a c : Int) (h0 : 0 ≤ a) (h1 : a ≤ 3) (h2 : 0 ≤ c) (h3 : c ≤ 7) : bits BinOp.or IntKind.i64 (a * 64) 32 = a * 64 + 32 ∧ bits BinOp.or IntKind.i64 (a * 64 + 32) c = a * 64 + 32 + c := by
  have ha : a = 0 ∨ a = 1 ∨ a = 2 ∨ a = 3 := by omega
  have hc : c = 0 ∨ c = 1 ∨ c = 2 ∨ c = 3 ∨ c = 4 ∨ c = 5 ∨ c = 6 ∨ c = 7 := by omega
  rcases ha with rfl | rfl | rfl | rfl <;> rcases hc with rfl | rfl | rfl | rfl | rfl | rfl | rfl | rfl <;> decide
theorem may_bounds {h : Hd} (hm : h.may = true) : 0 ≤ h.a ∧ h.a ≤ 3 ∧ h.b = 4 ∧ 0 ≤ h.c ∧ h.c ≤ 7 ∧ 0 ≤ h.d ∧ h.d ≤ 255 ∧ -128 ≤ h.e ∧ h.e ≤ 127 ∧ -128 ≤ h.f ∧ h.f ≤ 127 := by
  simp only [Hd.may, inB, Bool.and_eq_true, decide_eq_true_eq] at hm
  omega
set_option maxHeartbeats 4000000 in
set_option maxRecDepth 100000 in
theorem Put_good (h : Hd) (hm : h.may = true) (hok : h.ok) (w : World) : Calls Try.prog 12 #[.agg h.cells.toArray] w fun e w' => e = .returned (.tuple #[.string (str h.bytes), .int .i64 0]) ∧ Below w.heap.size w w' := by
  have cM : Kp (∀ w', Calls Try.prog 16 #[.agg h.cells.toArray] w' fun e w'' => e = .returned (.bool true) ∧ Below w'.heap.size w' w'') := kp (fun w' => by rw [← hm]; exact M_May h w')
  have HL := h.length
  have HB := kp (ba (Below.refl w.heap.size w) (.cells h.cells.toArray 26))
  have HN := kp (Blk.new w 26 h.cells.toArray)
  have HC := kp (show h.cells = [.int .i64 h.a, .int .i64 h.b, .int .i64 h.c, .int .i64 h.d, .int .i64 h.e, .int .i64 h.f, .int .u32 (h.g : Int), .int .u32 (h.h : Int), .int .u32 (h.i : Int), .int .u64 (h.j : Int), .int .u64 (h.k : Int), .int .u64 (h.l : Int), .int .u64 (h.m : Int)] from rfl)
  obtain ⟨ba0, ba1, bb, bc0, bc1, bd0, bd1, be0, be1, bf0, bf1⟩ := may_bounds hm
  have HBY := kp (show h.bytes = h.first ++ h.words ++ h.stamps from rfl)
  obtain ⟨BY, hBY⟩ : ∃ BY, h.bytes = BY := ⟨_, rfl⟩
  rw [hBY] at HBY ⊢
  clear hBY
  obtain ⟨L, hL⟩ : ∃ L, h.cells = L := ⟨_, rfl⟩
  rw [hL] at cM HL HB HN HC ⊢
  clear hL
  have L1 := ld_all (P := Try.prog) w.heap.size 13 26 26 L _ Try.underlying26 rfl info_head HL HN.out
  go_enter Try.func12, Try.ntmps12
  go_wp2_with (refine wpL_load rfl 26 _ rfl rfl L1 ?_)
  refine (cM.out _).mono ?_
  rintro e w1 ⟨rfl, hb1⟩
  have HB := kp (bt' HB.out hb1 HB.out.size)
  have HN := kp (HN.out.bel hb1)
  clear L1 hb1 cM
  have hge : w.heap.size < w1.heap.size := HN.out.lt
  go_upto_region 4 with (fail)
  have HB := kp (ba HB.out (.cells #[.pointer none, .slice none 0 0] 55))
  have HN := kp (HN.out.alloc (.cells #[.pointer none, .slice none 0 0] 55))
  have HS := kp (Blk.new w1 55 #[.pointer none, .slice none 0 0])
  generalize w1.alloc (.cells #[.pointer none, .slice none 0 0] 55) = W at HB HN HS ⊢
  generalize w1.heap.size = sb at HS hge ⊢
  have q0 := HN.out.atL (show L[0]? = some (.int .i64 h.a) by rw [HC.out]; rfl)
  have q1 := HN.out.atL (show L[1]? = some (.int .i64 h.b) by rw [HC.out]; rfl)
  have q2 := HN.out.atL (show L[2]? = some (.int .i64 h.c) by rw [HC.out]; rfl)
  have q3 := HN.out.atL (show L[3]? = some (.int .i64 h.d) by rw [HC.out]; rfl)
  have q4 := HN.out.atL (show L[4]? = some (.int .i64 h.e) by rw [HC.out]; rfl)
  have q5 := HN.out.atL (show L[5]? = some (.int .i64 h.f) by rw [HC.out]; rfl)
  have hlb := HN.out.lt
  rw [bb] at q1
  obtain ⟨o1, o2⟩ := or_first h.a h.c ba0 ba1 bc0 bc1
  have HFI := kp (show h.first = [u8 (h.a * 64 + 32 + h.c), u8 h.d, u8 h.e, u8 h.f] by unfold Hd.first; rw [bb, show 64 * h.a + 8 * 4 + h.c = h.a * 64 + 32 + h.c by omega])
  have HI0 : Kp (IsB sb sb [] W) := kp (Or.inl ⟨Nat.le_refl _, .slice none 0 0, HS.out, ⟨rfl, .inl ⟨rfl, rfl⟩⟩, by intro e; cases e⟩)
  have hsb : Kp (sb ≤ W.heap.size) := kp (Nat.le_of_lt HS.out.lt)
  go_wp2
  clear q0 q1 q2 q3 q4 q5 hlb o1 o2 HS
  obtain ⟨x0, hx0⟩ : ∃ x, h.a * 64 + 32 + h.c = x := ⟨_, rfl⟩
  rw [hx0] at HFI ⊢
  have hb0 : 0 ≤ x0 ∧ x0 ≤ 255 := by omega
  obtain ⟨hb1, hb2⟩ := hb0
  clear hx0
  go_loopw [31] (fun i wr => ∃ j : Nat, j ≤ 4 ∧ i = .int .i64 (j : Int) ∧ Kp (IsB sb sb (h.first.take j) wr) ∧ Kp (Blk wr w.heap.size 26 L.toArray) ∧ Kp (Below w.heap.size w wr) ∧ Kp (sb ≤ wr.heap.size)) (fun i _ => 4 - (intOf i).toNat)
  case atStart => exact ⟨0, by omega, rfl, HI0, HN, HB, hsb⟩
  case round =>
    clear HI0 HN HB hsb
    obtain ⟨j, hj, rfl, HI, HN, HB, hsb⟩ := hrel
    have BY1 : Kp (∀ (x y : Int) (l : List UInt8) w', y = x % 256 → IsB sb sb l w' → l.length ≤ 100 → sb ≤ w'.heap.size → Calls Try.prog 25 #[.pointer (some ⟨sb, 0, none⟩), .int .u8 y] w' fun e w'' => e = .returned .nilIface ∧ BAt sb sb (l ++ [u8 x]) w'' ∧ Below sb w' w'') := kp (fun x y l w' hy h1 h2 h3 => by
      have := B_byte h1 (u8 x) (by omega) h3
      rw [u8_int, ← hy] at this
      exact this)
    have HLF : Kp (∀ k, (h.first.take k).length ≤ 100) := kp (fun k => by rw [List.length_take, HFI.out]; simp; omega)
    have HGE := kp hge
    match j, hj with
    | 0, _ =>
      go_wp2_with (refine wpL_val 33 rfl rfl (.int .i64 (x0)) (exec_index rfl rfl rfl (ix4 _ _ _ _ _).1) ?_)
      refine (BY1.out (x0) _ _ _ (by omega) HI.out (HLF.out _) hsb.out).mono ?_
      rintro e w2 ⟨rfl, h2, hb2⟩
      have HI : Kp (IsB sb sb (h.first.take 1) w2) := kp (by rw [HFI.out] at h2 ⊢; exact Or.inr h2)
      have HN := kp (HN.out.below hb2 HGE.out)
      have HB := kp (HB.out.trans (hb2.mono (Nat.le_of_lt HGE.out)))
      have hsb := kp (Nat.le_trans hsb.out hb2.size)
      clear h2 hb2
      go_wp2
      go_roundw
      case measure => simp [intOf]
      case rel => exact ⟨1, by omega, rfl, HI, HN, HB, hsb⟩
    | 1, _ =>
      go_wp2_with (refine wpL_val 33 rfl rfl (.int .i64 (h.d)) (exec_index rfl rfl rfl (ix4 _ _ _ _ _).2.1) ?_)
      refine (BY1.out (h.d) _ _ _ (by omega) HI.out (HLF.out _) hsb.out).mono ?_
      rintro e w2 ⟨rfl, h2, hb2⟩
      have HI : Kp (IsB sb sb (h.first.take 2) w2) := kp (by rw [HFI.out] at h2 ⊢; exact Or.inr h2)
      have HN := kp (HN.out.below hb2 HGE.out)
      have HB := kp (HB.out.trans (hb2.mono (Nat.le_of_lt HGE.out)))
      have hsb := kp (Nat.le_trans hsb.out hb2.size)
      clear h2 hb2
      go_wp2
      go_roundw
      case measure => simp [intOf]
      case rel => exact ⟨2, by omega, rfl, HI, HN, HB, hsb⟩
    | 2, _ =>
      go_wp2_with (refine wpL_val 33 rfl rfl (.int .i64 (h.e)) (exec_index rfl rfl rfl (ix4 _ _ _ _ _).2.2.1) ?_)
      refine (BY1.out (h.e) _ _ _ (by omega) HI.out (HLF.out _) hsb.out).mono ?_
      rintro e w2 ⟨rfl, h2, hb2⟩
      have HI : Kp (IsB sb sb (h.first.take 3) w2) := kp (by rw [HFI.out] at h2 ⊢; exact Or.inr h2)
      have HN := kp (HN.out.below hb2 HGE.out)
      have HB := kp (HB.out.trans (hb2.mono (Nat.le_of_lt HGE.out)))
      have hsb := kp (Nat.le_trans hsb.out hb2.size)
      clear h2 hb2
      go_wp2
      go_roundw
      case measure => simp [intOf]
      case rel => exact ⟨3, by omega, rfl, HI, HN, HB, hsb⟩
    | 3, _ =>
      go_wp2_with (refine wpL_val 33 rfl rfl (.int .i64 (h.f)) (exec_index rfl rfl rfl (ix4 _ _ _ _ _).2.2.2) ?_)
      refine (BY1.out (h.f) _ _ _ (by omega) HI.out (HLF.out _) hsb.out).mono ?_
      rintro e w2 ⟨rfl, h2, hb2⟩
      have HI : Kp (IsB sb sb (h.first.take 4) w2) := kp (by rw [HFI.out] at h2 ⊢; exact Or.inr h2)
      have HN := kp (HN.out.below hb2 HGE.out)
      have HB := kp (HB.out.trans (hb2.mono (Nat.le_of_lt HGE.out)))
      have hsb := kp (Nat.le_trans hsb.out hb2.size)
      clear h2 hb2
      go_wp2
      go_roundw
      case measure => simp [intOf]
      case rel => exact ⟨4, by omega, rfl, HI, HN, HB, hsb⟩
    | 4, _ =>
      have HI : Kp (IsB sb sb (h.first ++ ([] : List (List UInt8)).flatten) wr) := kp (by have := HI.out; rw [HFI.out] at this ⊢; exact this)
      have HLF : Kp (h.first.length = 4) := kp (by rw [HFI.out]; rfl)
      clear BY1
      have HWD := kp (show h.words = putL h.g 4 ++ putL h.h 4 ++ putL h.i 4 from rfl)
      have HST := kp (show h.stamps = putL h.j 8 ++ putL h.k 8 ++ putL h.l 8 ++ putL h.m 8 from rfl)
      have cP0 : Kp (∀ w', Calls Try.prog 28 #[.int .u64 (h.g : Int), .int .i64 4] w' fun e w'' => e = .returned (.string (str (putL h.g 4))) ∧ Below w'.heap.size w' w'') := kp (fun w' => octet_Put_mid h.g 4 w' (by have := hok.g; unfold U64; omega) (by decide) 4 (by decide))
      have lP0 := length_putL h.g 4
      generalize putL h.g 4 = P0 at cP0 lP0 HWD
      have cP1 : Kp (∀ w', Calls Try.prog 28 #[.int .u64 (h.h : Int), .int .i64 4] w' fun e w'' => e = .returned (.string (str (putL h.h 4))) ∧ Below w'.heap.size w' w'') := kp (fun w' => octet_Put_mid h.h 4 w' (by have := hok.h; unfold U64; omega) (by decide) 4 (by decide))
      have lP1 := length_putL h.h 4
      generalize putL h.h 4 = P1 at cP1 lP1 HWD
      have cP2 : Kp (∀ w', Calls Try.prog 28 #[.int .u64 (h.i : Int), .int .i64 4] w' fun e w'' => e = .returned (.string (str (putL h.i 4))) ∧ Below w'.heap.size w' w'') := kp (fun w' => octet_Put_mid h.i 4 w' (by have := hok.i; unfold U64; omega) (by decide) 4 (by decide))
      have lP2 := length_putL h.i 4
      generalize putL h.i 4 = P2 at cP2 lP2 HWD
      go_wp2_with fail
      refine (M_words HN.out (by simpa using HL)).mono ?_
      rintro e v0 ⟨rfl, hb2⟩
      have HI := kp (HI.out.bel hb2)
      have HN := kp (HN.out.bel hb2)
      have HB := kp (bt' HB.out hb2 HB.out.size)
      have hsb := kp (Nat.le_trans hsb.out hb2.size)
      clear hb2
      go_wp2
      go_loopw [39] (fun i wr => ∃ j : Nat, j ≤ 3 ∧ i = .int .i64 (j : Int) ∧ Kp (IsB sb sb (h.first ++ ([P0, P1, P2].take j).flatten) wr) ∧ Kp (Blk wr w.heap.size 26 L.toArray) ∧ Kp (Below w.heap.size w wr) ∧ Kp (sb ≤ wr.heap.size)) (fun i _ => 3 - (intOf i).toNat)
      case atStart => exact ⟨0, by omega, rfl, HI, HN, HB, hsb⟩
      case round =>
        clear HI HN HB hsb
        obtain ⟨j, hj, rfl, HI, HN, HB, hsb⟩ := hrel
        have hlb := HN.out.lt
        match j, hj with
        | 0, _ =>
          have q := HN.out.atL (show L[6]? = some (.int .u32 (h.g : Int)) by rw [HC.out]; rfl)
          have hb6 := hok.g
          go_wp2_with (refine wpL_val 41 rfl rfl (.pointer (some ⟨w.heap.size, 6, none⟩)) (exec_index rfl rfl rfl (ixw _ _ _ _).1) ?_)
          clear q
          refine (cP0.out _).mono ?_
          rintro e w3 ⟨rfl, hb3⟩
          have HI := kp (HI.out.bel hb3)
          have HN := kp (HN.out.bel hb3)
          have HB := kp (bt' HB.out hb3 HB.out.size)
          have hsb := kp (Nat.le_trans hsb.out hb3.size)
          clear hb3
          go_wp2_with fail
          refine (B_text HI.out P0 (by rw [List.length_append]; simp [HLF.out, lP0, lP1, lP2]) hsb.out).mono ?_
          rintro e w2 ⟨rfl, h2, hb2⟩
          have HI : Kp (IsB sb sb (h.first ++ ([P0, P1, P2].take 1).flatten) w2) := kp (by rw [List.append_assoc] at h2; have h3 : IsB sb sb _ w2 := Or.inr h2; simpa using h3)
          have HN := kp (HN.out.below hb2 HGE.out)
          have HB := kp (HB.out.trans (hb2.mono (Nat.le_of_lt HGE.out)))
          have hsb := kp (Nat.le_trans hsb.out hb2.size)
          clear h2 hb2
          go_wp2
          go_roundw
          case measure => simp [intOf]
          case rel => exact ⟨1, by omega, rfl, HI, HN, HB, hsb⟩
        | 1, _ =>
          have q := HN.out.atL (show L[7]? = some (.int .u32 (h.h : Int)) by rw [HC.out]; rfl)
          have hb6 := hok.h
          go_wp2_with (refine wpL_val 41 rfl rfl (.pointer (some ⟨w.heap.size, 7, none⟩)) (exec_index rfl rfl rfl (ixw _ _ _ _).2.1) ?_)
          clear q
          refine (cP1.out _).mono ?_
          rintro e w3 ⟨rfl, hb3⟩
          have HI := kp (HI.out.bel hb3)
          have HN := kp (HN.out.bel hb3)
          have HB := kp (bt' HB.out hb3 HB.out.size)
          have hsb := kp (Nat.le_trans hsb.out hb3.size)
          clear hb3
          go_wp2_with fail
          refine (B_text HI.out P1 (by rw [List.length_append]; simp [HLF.out, lP0, lP1, lP2]) hsb.out).mono ?_
          rintro e w2 ⟨rfl, h2, hb2⟩
          have HI : Kp (IsB sb sb (h.first ++ ([P0, P1, P2].take 2).flatten) w2) := kp (by rw [List.append_assoc] at h2; have h3 : IsB sb sb _ w2 := Or.inr h2; simpa using h3)
          have HN := kp (HN.out.below hb2 HGE.out)
          have HB := kp (HB.out.trans (hb2.mono (Nat.le_of_lt HGE.out)))
          have hsb := kp (Nat.le_trans hsb.out hb2.size)
          clear h2 hb2
          go_wp2
          go_roundw
          case measure => simp [intOf]
          case rel => exact ⟨2, by omega, rfl, HI, HN, HB, hsb⟩
        | 2, _ =>
          have q := HN.out.atL (show L[8]? = some (.int .u32 (h.i : Int)) by rw [HC.out]; rfl)
          have hb6 := hok.i
          go_wp2_with (refine wpL_val 41 rfl rfl (.pointer (some ⟨w.heap.size, 8, none⟩)) (exec_index rfl rfl rfl (ixw _ _ _ _).2.2) ?_)
          clear q
          refine (cP2.out _).mono ?_
          rintro e w3 ⟨rfl, hb3⟩
          have HI := kp (HI.out.bel hb3)
          have HN := kp (HN.out.bel hb3)
          have HB := kp (bt' HB.out hb3 HB.out.size)
          have hsb := kp (Nat.le_trans hsb.out hb3.size)
          clear hb3
          go_wp2_with fail
          refine (B_text HI.out P2 (by rw [List.length_append]; simp [HLF.out, lP0, lP1, lP2]) hsb.out).mono ?_
          rintro e w2 ⟨rfl, h2, hb2⟩
          have HI : Kp (IsB sb sb (h.first ++ ([P0, P1, P2].take 3).flatten) w2) := kp (by rw [List.append_assoc] at h2; have h3 : IsB sb sb _ w2 := Or.inr h2; simpa using h3)
          have HN := kp (HN.out.below hb2 HGE.out)
          have HB := kp (HB.out.trans (hb2.mono (Nat.le_of_lt HGE.out)))
          have hsb := kp (Nat.le_trans hsb.out hb2.size)
          clear h2 hb2
          go_wp2
          go_roundw
          case measure => simp [intOf]
          case rel => exact ⟨3, by omega, rfl, HI, HN, HB, hsb⟩
        | 3, _ =>
          have HI : Kp (IsB sb sb (h.first ++ h.words ++ ([] : List (List UInt8)).flatten) wr) := kp (by have := HI.out; rw [HWD.out]; simpa using this)
          have HLQ : Kp ((h.first ++ h.words).length = 16) := kp (by rw [HWD.out]; simp [HLF.out, lP0, lP1, lP2])
          generalize h.first ++ h.words = Q at HI HLQ HBY
          clear HLF cP0 cP1 cP2 lP0 lP1 lP2 HWD
          have cS0 : Kp (∀ w', Calls Try.prog 28 #[.int .u64 (h.j : Int), .int .i64 8] w' fun e w'' => e = .returned (.string (str (putL h.j 8))) ∧ Below w'.heap.size w' w'') := kp (fun w' => octet_Put_mid h.j 8 w' (by have := hok.j; unfold U64; omega) (by decide) 8 (by decide))
          have lS0 := length_putL h.j 8
          generalize putL h.j 8 = S0 at cS0 lS0 HST
          have cS1 : Kp (∀ w', Calls Try.prog 28 #[.int .u64 (h.k : Int), .int .i64 8] w' fun e w'' => e = .returned (.string (str (putL h.k 8))) ∧ Below w'.heap.size w' w'') := kp (fun w' => octet_Put_mid h.k 8 w' (by have := hok.k; unfold U64; omega) (by decide) 8 (by decide))
          have lS1 := length_putL h.k 8
          generalize putL h.k 8 = S1 at cS1 lS1 HST
          have cS2 : Kp (∀ w', Calls Try.prog 28 #[.int .u64 (h.l : Int), .int .i64 8] w' fun e w'' => e = .returned (.string (str (putL h.l 8))) ∧ Below w'.heap.size w' w'') := kp (fun w' => octet_Put_mid h.l 8 w' (by have := hok.l; unfold U64; omega) (by decide) 8 (by decide))
          have lS2 := length_putL h.l 8
          generalize putL h.l 8 = S2 at cS2 lS2 HST
          have cS3 : Kp (∀ w', Calls Try.prog 28 #[.int .u64 (h.m : Int), .int .i64 8] w' fun e w'' => e = .returned (.string (str (putL h.m 8))) ∧ Below w'.heap.size w' w'') := kp (fun w' => octet_Put_mid h.m 8 w' (by have := hok.m; unfold U64; omega) (by decide) 8 (by decide))
          have lS3 := length_putL h.m 8
          generalize putL h.m 8 = S3 at cS3 lS3 HST
          go_wp2_with fail
          refine (M_stamps HN.out (by simpa using HL)).mono ?_
          rintro e v0 ⟨rfl, hb2⟩
          have HI := kp (HI.out.bel hb2)
          have HN := kp (HN.out.bel hb2)
          have HB := kp (bt' HB.out hb2 HB.out.size)
          have hsb := kp (Nat.le_trans hsb.out hb2.size)
          clear hb2
          go_wp2
          go_loopw [50] (fun i wr => ∃ j : Nat, j ≤ 4 ∧ i = .int .i64 (j : Int) ∧ Kp (IsB sb sb (Q ++ ([S0, S1, S2, S3].take j).flatten) wr) ∧ Kp (Blk wr w.heap.size 26 L.toArray) ∧ Kp (Below w.heap.size w wr) ∧ Kp (sb ≤ wr.heap.size)) (fun i _ => 4 - (intOf i).toNat)
          case atStart => exact ⟨0, by omega, rfl, HI, HN, HB, hsb⟩
          case round =>
            clear HI HN HB hsb
            obtain ⟨j, hj, rfl, HI, HN, HB, hsb⟩ := hrel
            have hlb := HN.out.lt
            match j, hj with
            | 0, _ =>
              have q := HN.out.atL (show L[9]? = some (.int .u64 (h.j : Int)) by rw [HC.out]; rfl)
              have hb6 := hok.j
              go_wp2_with (refine wpL_val 52 rfl rfl (.pointer (some ⟨w.heap.size, 9, none⟩)) (exec_index rfl rfl rfl (ixs _ _ _ _ _).1) ?_)
              clear q
              refine (cS0.out _).mono ?_
              rintro e w3 ⟨rfl, hb3⟩
              have HI := kp (HI.out.bel hb3)
              have HN := kp (HN.out.bel hb3)
              have HB := kp (bt' HB.out hb3 HB.out.size)
              have hsb := kp (Nat.le_trans hsb.out hb3.size)
              clear hb3
              go_wp2_with fail
              refine (B_text HI.out S0 (by rw [List.length_append]; simp [HLQ.out, lS0, lS1, lS2, lS3]) hsb.out).mono ?_
              rintro e w2 ⟨rfl, h2, hb2⟩
              have HI : Kp (IsB sb sb (Q ++ ([S0, S1, S2, S3].take 1).flatten) w2) := kp (by rw [List.append_assoc] at h2; have h3 : IsB sb sb _ w2 := Or.inr h2; simpa using h3)
              have HN := kp (HN.out.below hb2 HGE.out)
              have HB := kp (HB.out.trans (hb2.mono (Nat.le_of_lt HGE.out)))
              have hsb := kp (Nat.le_trans hsb.out hb2.size)
              clear h2 hb2
              go_wp2
              go_roundw
              case measure => simp [intOf]
              case rel => exact ⟨1, by omega, rfl, HI, HN, HB, hsb⟩
            | 1, _ =>
              have q := HN.out.atL (show L[10]? = some (.int .u64 (h.k : Int)) by rw [HC.out]; rfl)
              have hb6 := hok.k
              go_wp2_with (refine wpL_val 52 rfl rfl (.pointer (some ⟨w.heap.size, 10, none⟩)) (exec_index rfl rfl rfl (ixs _ _ _ _ _).2.1) ?_)
              clear q
              refine (cS1.out _).mono ?_
              rintro e w3 ⟨rfl, hb3⟩
              have HI := kp (HI.out.bel hb3)
              have HN := kp (HN.out.bel hb3)
              have HB := kp (bt' HB.out hb3 HB.out.size)
              have hsb := kp (Nat.le_trans hsb.out hb3.size)
              clear hb3
              go_wp2_with fail
              refine (B_text HI.out S1 (by rw [List.length_append]; simp [HLQ.out, lS0, lS1, lS2, lS3]) hsb.out).mono ?_
              rintro e w2 ⟨rfl, h2, hb2⟩
              have HI : Kp (IsB sb sb (Q ++ ([S0, S1, S2, S3].take 2).flatten) w2) := kp (by rw [List.append_assoc] at h2; have h3 : IsB sb sb _ w2 := Or.inr h2; simpa using h3)
              have HN := kp (HN.out.below hb2 HGE.out)
              have HB := kp (HB.out.trans (hb2.mono (Nat.le_of_lt HGE.out)))
              have hsb := kp (Nat.le_trans hsb.out hb2.size)
              clear h2 hb2
              go_wp2
              go_roundw
              case measure => simp [intOf]
              case rel => exact ⟨2, by omega, rfl, HI, HN, HB, hsb⟩
            | 2, _ =>
              have q := HN.out.atL (show L[11]? = some (.int .u64 (h.l : Int)) by rw [HC.out]; rfl)
              have hb6 := hok.l
              go_wp2_with (refine wpL_val 52 rfl rfl (.pointer (some ⟨w.heap.size, 11, none⟩)) (exec_index rfl rfl rfl (ixs _ _ _ _ _).2.2.1) ?_)
              clear q
              refine (cS2.out _).mono ?_
              rintro e w3 ⟨rfl, hb3⟩
              have HI := kp (HI.out.bel hb3)
              have HN := kp (HN.out.bel hb3)
              have HB := kp (bt' HB.out hb3 HB.out.size)
              have hsb := kp (Nat.le_trans hsb.out hb3.size)
              clear hb3
              go_wp2_with fail
              refine (B_text HI.out S2 (by rw [List.length_append]; simp [HLQ.out, lS0, lS1, lS2, lS3]) hsb.out).mono ?_
              rintro e w2 ⟨rfl, h2, hb2⟩
              have HI : Kp (IsB sb sb (Q ++ ([S0, S1, S2, S3].take 3).flatten) w2) := kp (by rw [List.append_assoc] at h2; have h3 : IsB sb sb _ w2 := Or.inr h2; simpa using h3)
              have HN := kp (HN.out.below hb2 HGE.out)
              have HB := kp (HB.out.trans (hb2.mono (Nat.le_of_lt HGE.out)))
              have hsb := kp (Nat.le_trans hsb.out hb2.size)
              clear h2 hb2
              go_wp2
              go_roundw
              case measure => simp [intOf]
              case rel => exact ⟨3, by omega, rfl, HI, HN, HB, hsb⟩
            | 3, _ =>
              have q := HN.out.atL (show L[12]? = some (.int .u64 (h.m : Int)) by rw [HC.out]; rfl)
              have hb6 := hok.m
              go_wp2_with (refine wpL_val 52 rfl rfl (.pointer (some ⟨w.heap.size, 12, none⟩)) (exec_index rfl rfl rfl (ixs _ _ _ _ _).2.2.2) ?_)
              clear q
              refine (cS3.out _).mono ?_
              rintro e w3 ⟨rfl, hb3⟩
              have HI := kp (HI.out.bel hb3)
              have HN := kp (HN.out.bel hb3)
              have HB := kp (bt' HB.out hb3 HB.out.size)
              have hsb := kp (Nat.le_trans hsb.out hb3.size)
              clear hb3
              go_wp2_with fail
              refine (B_text HI.out S3 (by rw [List.length_append]; simp [HLQ.out, lS0, lS1, lS2, lS3]) hsb.out).mono ?_
              rintro e w2 ⟨rfl, h2, hb2⟩
              have HI : Kp (IsB sb sb (Q ++ ([S0, S1, S2, S3].take 4).flatten) w2) := kp (by rw [List.append_assoc] at h2; have h3 : IsB sb sb _ w2 := Or.inr h2; simpa using h3)
              have HN := kp (HN.out.below hb2 HGE.out)
              have HB := kp (HB.out.trans (hb2.mono (Nat.le_of_lt HGE.out)))
              have hsb := kp (Nat.le_trans hsb.out hb2.size)
              clear h2 hb2
              go_wp2
              go_roundw
              case measure => simp [intOf]
              case rel => exact ⟨4, by omega, rfl, HI, HN, HB, hsb⟩
            | 4, _ =>
              have HI : Kp (IsB sb sb BY wr) := kp (by have := HI.out; rw [HBY.out, HST.out]; simpa using this)
              go_wp2_with fail
              refine (Try.Builder_String_any sb sb BY _ HI.out hsb.out).mono ?_
              rintro e w9 ⟨rfl, hb9⟩
              have HB := kp (HB.out.trans (hb9.mono (Nat.le_of_lt HGE.out)))
              go_wp2
              go_ret2
              exact ⟨rfl, HB.out⟩
end Go.Proofs.Ytoifkfhbinfplaa
