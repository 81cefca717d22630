/- FilterDoes: the walk. -/
import Derived.Test.YtlljndojbhopfaaRFil6
import Derived.Deep.RegionHeld3
import Derived.Deep.DrawnRows
import Derived.Test.YtlljndojbhopfaaReg
namespace Go.Proofs.Ytlljndojbhopfaa
open Go Go.RowKit Go.ChangeShapes Go.WideShapes Go.ChangeAt
set_option linter.unusedVariables false
set_option linter.unusedSimpArgs false
attribute [local go_sem] bmax2 bmin2 bmax bmin cell_ext frozen_ext
attribute [local go_sem ↓] Go.wp_at_zero Go.wp_at_succ

structure Act15 where
  kind : Int
  s : Smp
  q : Int
def Act15.row (a : Act15) : List Value := [.int .i64 a.kind, .int .i64 a.s.off, .int .i64 a.s.del, .int .i64 a.s.bnd, .int .i64 a.q]
def HoldsA (w : World) (b o : Nat) (l : List Act15) : Prop :=
  ∀ (k : Nat) (a : Act15), l[k]? = some a → w.cell? ⟨b, o + k * 5, none⟩ = some (.int .i64 a.kind) ∧ w.cell? ⟨b, o + k * 5 + 1, none⟩ = some (.int .i64 a.s.off) ∧ w.cell? ⟨b, o + k * 5 + 2, none⟩ = some (.int .i64 a.s.del) ∧ w.cell? ⟨b, o + k * 5 + 3, none⟩ = some (.int .i64 a.s.bnd) ∧ w.cell? ⟨b, o + k * 5 + 4, none⟩ = some (.int .i64 a.q)
theorem HoldsA.below {w w' : World} {b o : Nat} {l : List Act15} (h : HoldsA w b o l) (hb : Below w.heap.size w w') : HoldsA w' b o l := fun k s hk => by
  obtain ⟨h1, h2, h3, h4, h5⟩ := h k s hk
  exact ⟨cell_later hb h1, cell_later hb h2, cell_later hb h3, cell_later hb h4, cell_later hb h5⟩
def ActArg (w : World) (ad : Option Addr) (l : List Act15) : Prop := l.length ≤ maxLen ∧ (∀ a ∈ l, -9223372036854775808 ≤ a.q ∧ a.q ≤ 9223372036854775807) ∧ (l ≠ [] → ∃ b o, ad = some ⟨b, o, none⟩ ∧ b < w.heap.size ∧ HoldsA w b o l)
section
variable {H : Type} {enc : TypeId × Value → H} {w : World} {base : Nat} {spare : Nat → Bool} {held : Bool}
theorem open_acts {r : Reach} {b0 : Nat} {v : Value} {d : DataW H} {ps : List MemPlace} (hv : Value.okWide Try.prog w r b0 22 v) (h : DataW.Trod enc Try.prog w base spare held 22 v d ps) :
    ∃ (ad : Option Addr) (c : Nat) (l : List Act15), v = .slice ad l.length c ∧ ActArg w ad l := by
  obtain ⟨ad, c, rows, rfl, h1, h2, h3, h4⟩ := open_rows 4 [.int .i64, .int .i64, .int .i64, .int .i64, .int .i64] Try.underlying22 (by kernel_rfl) (by kernel_rfl) (by decide) hv h
  obtain ⟨l, rfl, hl⟩ := rows_map Act15.row (fun a => -9223372036854775808 ≤ a.q ∧ a.q ≤ 9223372036854775807) (fun r hr => by
    obtain ⟨a, r, rfl, ha, hr⟩ := hr.int
    obtain ⟨b, r, rfl, hb, hr⟩ := hr.int
    obtain ⟨c, r, rfl, hc, hr⟩ := hr.int
    obtain ⟨d, r, rfl, hd, hr⟩ := hr.int
    obtain ⟨e, r, rfl, he, hr⟩ := hr.int
    obtain rfl := hr.nil
    exact ⟨⟨a, ⟨b, c, d⟩, e⟩, rfl, wf_i64 he⟩) rows h3
  refine ⟨ad, c, l, by simp, by simpa using Nat.le_trans h1 h2, hl, fun hne => ?_⟩
  obtain ⟨b, o, he, hb, hc⟩ := h4 (by simpa using hne)
  refine ⟨b, o, he, hb, fun k s hk => ?_⟩
  have := hc k s.row (by rw [List.getElem?_map, hk]; rfl)
  exact ⟨this 0 _ rfl, this 1 _ rfl, this 2 _ rfl, this 3 _ rfl, this 4 _ rfl⟩
end

theorem Fil.pos {w : World} {b : Nat} {g r : Int} {L : List Smp} (h : Fil w b g L r) : 0 ≤ r := by
  obtain ⟨st, n, _, _, _, h, _⟩ := h
  exact h

theorem told_bel {B : Nat} {w w' : World} {v : Value} {l : List Smp} (h : Told B w v l) (hb : Below w.heap.size w w') : Told B w' v l := by
  obtain ⟨g, c, h1, h2, h3, h4, h5, h6⟩ := h
  exact ⟨g, c, h1, h2, h3, h4, Nat.lt_of_lt_of_le h5 hb.size, h6.below hb⟩
theorem told_base {B B' : Nat} {w : World} {v : Value} {l : List Smp} (h : Told B w v l) (hb : B' ≤ B) : Told B' w v l := by
  obtain ⟨g, c, h1, h2, h3, h4, h5⟩ := h
  exact ⟨g, c, h1, h2, h3, Nat.le_trans hb h4, h5⟩
theorem mk_enter {P : Program} {W : World} {V : Value → World → Prop} {F : Value → Prop} {f : FuncId} {args : Array Value} {s : Sem Next} (h : s.run P W = .ok (.enter f args) W) (hc : Calls P f args W (fun e w'' => ∃ v, e = .returned v ∧ Below W.heap.size W w'' ∧ V v w'' ∧ F v)) : mkUpon P W V F (s.run P W) := by
  rw [h]
  exact ⟨rfl, hc⟩
set_option maxHeartbeats 16000000 in
set_option maxRecDepth 100000 in
theorem FilterDoes_walk (w : World) (g : Int) (ad : Option Addr) (c : Nat) (l : List Act15) (wg : (Lit.int .i64 g).wf = true) (h : ActArg w ad l) :
    Calls Try.prog 3 #[.int .i64 g, .slice ad l.length c] w fun e w' => e = .returned (.bool true) ∧ Below w.heap.size w w' := by
  obtain ⟨hlen, hok, hh⟩ := h
  unfold maxLen at hlen
  have HOK := hid hok
  have HH := hid hh
  clear hok hh wg
  by_cases hg : g < 1 ∨ 1125899906842624 < g
  · have hg' := hid hg
    clear hg
    go_enter Try.func3, Try.ntmps3
    go_wp2_with fail
    refine (awake15 w).mono ?_
    rintro e w1 ⟨rfl, hb⟩
    have B1 := hid hb
    clear hb
    go_wp2_with fail
    refine (New_bad g w1 hg'.out).mono ?_
    rintro e w2 ⟨rfl, rfl⟩
    go_wp2_with fail
    refine (RNew_bad g w1 hg'.out).mono ?_
    rintro e w2 ⟨rfl, rfl⟩
    go_wp2_with fail
    go_loop [9] (fun i => i = .int .i64 0) (fun _ => 0)
    case atStart => rfl
    case round =>
      subst hrel
      by_cases h0 : (0 : Int) < (l.length : Int)
      · go_wp2
        go_ret
        exact ⟨rfl, B1.out⟩
      · go_wp2
        go_ret
        exact ⟨rfl, B1.out⟩
  have hg1 : 1 ≤ g := by omega
  have hg2 : g ≤ 1125899906842624 := by omega
  clear hg
  go_enter Try.func3, Try.ntmps3
  go_wp2_with fail
  refine (awake15 w).mono ?_
  rintro e w1 ⟨rfl, hb⟩
  have B1 := hid hb
  clear hb
  go_wp2_with fail
  refine (New_good g w1 hg1 hg2).mono ?_
  rintro e w2 ⟨rfl, hf, hb⟩
  have F2 := hid (Fil_new hf hg1 hg2)
  have B2 := hid (bt B1.out hb)
  have hw1 : w.heap.size ≤ w1.heap.size := B1.out.size
  clear hf hb
  have hlt2 := F2.out.lt
  generalize w1.heap.size = fb at F2 hw1 hlt2 ⊢
  go_wp2_with fail
  refine (RNew_good g w2 hg1 hg2).mono ?_
  rintro e w3 ⟨rfl, hr, hb⟩
  have R3 := hid hr
  have F3 := hid (F2.out.below hb)
  have B3 := hid (bt B2.out hb)
  clear hr hb
  have hw2 : w.heap.size ≤ w2.heap.size := B2.out.size
  generalize w2.heap.size = rb at R3 hw2 hlt2 ⊢
  clear F2 B2 B1
  go_wp2_with fail
  go_loopw [9] (fun i wr => ∃ (k : Nat) (L : List Smp) (r : Int) (ad' : Option Addr) (c' : Nat), k ≤ l.length ∧ k ≤ 60 ∧ i = .int .i64 k ∧ Hid (Fil wr fb g L r) ∧ Hid (RAt wr rb g ad' c' L r) ∧ Hid (Below w.heap.size w wr)) (fun i _ => 60 - (intOf i).toNat)
  case atStart => exact ⟨0, [], 0, none, 0, Nat.zero_le _, Nat.zero_le _, rfl, F3, R3, B3⟩
  case round =>
    obtain ⟨k, L, r, ad', c', hk, hk6, rfl, hF, hR, hB⟩ := hrel
    clear F3 R3 B3
    by_cases h1 : (k : Int) < (l.length : Int)
    · by_cases h2 : (k : Int) < 60
      · obtain ⟨ab, ao, rfl, hab, hhi⟩ := HH.out (fun e => by subst e; simp at h1; omega)
        obtain ⟨⟨kd, s, q⟩, hy⟩ : ∃ y, l[k]? = some y := ⟨_, List.getElem?_eq_getElem (by omega)⟩
        have hqy := HOK.out _ (List.mem_of_getElem? hy)
        obtain ⟨c0, c1, c2, c3, c4⟩ := (hhi.below hB.out) k _ hy
        dsimp only at hqy c0 c1 c2 c3 c4
        obtain ⟨hq0, hq1⟩ := hqy
        have hcb := World.block_lt_of_cell? wr _ c0
        have i2 : (0 : Int) ≤ (k : Int) := by omega
        have hF1 := hid (hF.out.below (ba (Below.refl _ _) (.cells #[.int .i64 kd, .int .i64 s.off, .int .i64 s.del, .int .i64 s.bnd, .int .i64 q] 34)))
        have hR1 := hid (hR.out.below (ba (Below.refl _ _) (.cells #[.int .i64 kd, .int .i64 s.off, .int .i64 s.del, .int .i64 s.bnd, .int .i64 q] 34)))
        have hB1 := hid (bt' hB.out (ba (Below.refl _ _) (.cells #[.int .i64 kd, .int .i64 s.off, .int .i64 s.del, .int .i64 s.bnd, .int .i64 q] 34)) hB.out.size)
        have x1 : (wr.alloc (.cells #[.int .i64 kd, .int .i64 s.off, .int .i64 s.del, .int .i64 s.bnd, .int .i64 q] 34)).cell? ⟨wr.heap.size, 1, none⟩ = some (.int .i64 s.off) := by simp
        have x2 : (wr.alloc (.cells #[.int .i64 kd, .int .i64 s.off, .int .i64 s.del, .int .i64 s.bnd, .int .i64 q] 34)).cell? ⟨wr.heap.size, 2, none⟩ = some (.int .i64 s.del) := by simp
        have x3 : (wr.alloc (.cells #[.int .i64 kd, .int .i64 s.off, .int .i64 s.del, .int .i64 s.bnd, .int .i64 q] 34)).cell? ⟨wr.heap.size, 3, none⟩ = some (.int .i64 s.bnd) := by simp
        have x4 : (wr.alloc (.cells #[.int .i64 kd, .int .i64 s.off, .int .i64 s.del, .int .i64 s.bnd, .int .i64 q] 34)).cell? ⟨wr.heap.size, 4, none⟩ = some (.int .i64 q) := by simp
        have X1 := hid x1
        have X2 := hid x2
        have X3 := hid x3
        have X4 := hid x4
        clear x1 x2 x3 x4
        have hxf : wr.heap.size ≠ fb := by have := hF.out.lt; omega
        have hxr : wr.heap.size ≠ rb := by have := hR.out.lt; omega
        have hfr : fb ≠ rb := by omega
        clear hhi hy hF hR hB
        have hkind : kd = 0 ∨ kd = 1 ∨ kd = 2 ∨ (¬ kd = 0 ∧ ¬ kd = 1 ∧ ¬ kd = 2) := by omega
        rcases hkind with rfl | rfl | rfl | ⟨hk0, hk1, hk2⟩
        · go_wp2_with fail
          generalize (wr.alloc _) = X at hF1 hR1 hB1 X1 X2 X3 X4 ⊢
          refine (Add_F hF1.out s).mono ?_
          rintro e w5 ⟨rfl, hf5, hg5⟩
          have hF5 := hid hf5
          have hR5 := hid (hR1.out.grown hg5 hlt2)
          have hB5 := hid (bgb hB1.out hg5 hw1 hB1.out.size)
          have x1 := gbcell hg5 X1.out hxf
          have x2 := gbcell hg5 X2.out hxf
          have x3 := gbcell hg5 X3.out hxf
          have hx5 := World.block_lt_of_cell? w5 _ x1
          have q1 : ((addA g L r s).1 != (addA g L r s).1) = false := by simp
          have q2 : ((addA g L r s).2 != (addA g L r s).2) = false := by simp
          clear hf5 hg5
          go_wp2_with fail
          refine (RAdd_D hR5.out hF1.out.ok hF1.out.len hF1.out.pos hg1 hg2 s).mono ?_
          rintro e w6 ⟨rfl, ⟨ad6, c6, hr6⟩, hg6⟩
          have key : ∃ L6 r6, Hid (Fil w6 fb g L6 r6) ∧ Hid (RAt w6 rb g ad6 c6 L6 r6) ∧ Hid (Below w.heap.size w w6) := ⟨_, _, hid (hF5.out.grown hg6 hfr), hid hr6, hid (bgb hB5.out hg6 hw2 hB5.out.size)⟩
          obtain ⟨L6, r6, hF6, hR6, hB6⟩ := key
          clear hr6 hg6 x1 x2 x3 hF5 hR5 hB5
          go_wp2_with fail
          refine (Best_F hF6.out).mono ?_
          rintro e w7 ⟨rfl, hb⟩
          unfold Smp.val
          obtain ⟨Bs, hBs⟩ : ∃ B, B = best L6 := ⟨_, rfl⟩
          rw [← hBs]
          have HBs := hid hBs
          clear hBs
          have HX7 := hid (Box3.new w7 Bs 32)
          have hF7 := hid (hF6.out.below (ba hb (.cells #[.int .i64 Bs.off, .int .i64 Bs.del, .int .i64 Bs.bnd] 32)))
          have hR7 := hid (hR6.out.below (ba hb (.cells #[.int .i64 Bs.off, .int .i64 Bs.del, .int .i64 Bs.bnd] 32)))
          have hB7 := hid (bt' hB6.out (ba hb (.cells #[.int .i64 Bs.off, .int .i64 Bs.del, .int .i64 Bs.bnd] 32)) hB6.out.size)
          clear hb
          go_wp2_with fail
          refine (RBest _ rb c6 g r6 ad6 L6 hR7.out).mono ?_
          rintro e w8 ⟨rfl, hbi, hb8⟩
          have hF8 := hid (hF7.out.below hb8)
          have hR8 := hid (hR7.out.below hb8)
          have hB8 := hid (bt' hB7.out hb8 hB7.out.size)
          have HX8 := hid (HX7.out.below hb8)
          have HOKL := hid hF8.out.ok
          have hlen8 := hF8.out.len
          have hb8x := HX8.out.lt
          have hb8r := hR8.out.lt
          have JJ : (jit L6 != jit L6) = false := by simp
          clear hb8 HX7 hF7 hR7 hB7
          obtain ⟨⟨x0, x1, x2⟩, _⟩ := HX8.out
          obtain ⟨_, d1, _⟩ := hR8.out.cell
          rcases hbi with ⟨hnil, hz⟩ | ⟨i, hz, hi, _⟩
          · rw [hz]
            subst hnil
            obtain rfl : Bs = ⟨0, 0, 0⟩ := HBs.out
            have dd : decide ((0 : Nat) < ([] : List Smp).length) = false := rfl
            dsimp only at x0 x1 x2
            have j4 : decide ((0 : Int) ≤ -1) = false := rfl
            have d1 : w8.cell? ⟨rb, 1, none⟩ = some (.slice ad6 0 c6) := d1
            go_upto_region 25 with (fail)
            refine wp_region_mkE [0, 1, 2, 3, 4, 5, 6, 7, 8, 9, 10, 11, 12, 13, 14, 15, 16, 17, 18, 19, 20, 21, 22, 23, 24, 25, 26, 27, 28, 29, 30, 31, 32, 33, 34, 35, 36, 38, 39, 40, 41] [37] [42, 43, 44] 158 (fun _ v W => Told w8.heap.size W v []) (fun _ _ => True) (by kernel_rfl) (by kernel_rfl) rfl (fun i v W W' h hb => told_bel h hb) ?_
            apply Exists.intro
            refine ⟨fun X hX => ?_, ⟨⟨?_, fun W hW => ?_⟩, trivial⟩, ?_⟩
            · have cJ := kp (fun x => Jit_F ((hF8.out.below hX).below (ext_below X x)))
              have cR := kp (fun x => RJitter _ rb c6 g r6 _ [] ((hR8.out.below hX).below (ext_below X x)) HOKL.out)
              have x0 := cell_later hX x0
              have x1 := cell_later hX x1
              have x2 := cell_later hX x2
              have d1 := cell_later hX d1
              have hb1 := Nat.lt_of_lt_of_le hb8x hX.size
              have hb2 := Nat.lt_of_lt_of_le hb8r hX.size
              simp only [List.append_eq, List.cons_append, List.nil_append, List.map_cons, List.map_nil, List.getD_cons_succ, List.getD_cons_zero]
              repeat (go_big_quiet_step (first
                | (go_at_call 26; with_reducible exact Calls.ext_of (cJ.out _))
                | (go_at_call 27; with_reducible exact Calls.ext_of (cR.out _))))
              exact wpQuiet_nil rfl
            · rfl
            · refine mk_enter (f := 29) (args := #[.pointer (some ⟨fb, 0, none⟩)]) (by kernel_rfl) ?_
              refine (Samples_F (hF8.out.below hW)).mono ?_
              rintro e w'' ⟨v, he, ht, hb⟩
              exact ⟨v, he, hb, told_base ht hW.size, fun _ _ _ => ⟨trivial, trivial⟩⟩
            intro v37 _
            simp only [List.append_eq, List.cons_append, List.nil_append, List.map_cons, List.map_nil, List.getD_cons_succ, List.getD_cons_zero, TailX]
            rintro X hX ⟨_, ⟨ga, ca, rfl, t1, t2, t3, t4, t5⟩⟩
            have hF9 := hid (hF8.out.below hX)
            have hR9 := hid (hR8.out.below hX)
            have hB9 := hid (bt' hB8.out hX hB8.out.size)
            clear hX
            go_wp2_with fail
            refine (same_any _ [] ga ca rb c6 ad6 hlen8 t5 t4 hR9.out.2.1).mono ?_
            rintro e w5 ⟨rfl, hb5⟩
            have hF9 := hid (hF9.out.below hb5)
            have hR9 := hid (hR9.out.below hb5)
            have hB9 := hid (bt' hB9.out hb5 hB9.out.size)
            clear hb5
            go_wp2
            go_roundw
            case measure => simp [intOf]; omega
            case rel => exact ⟨k + 1, [], r6, ad6, c6, by omega, by omega, by go_num, hF9, hR9, hB9⟩
          rw [hz]
          have hil := (List.getElem?_eq_some_iff.1 hi).1
          have dd : decide (0 < L6.length) = true := decide_eq_true (by omega)
          rcases hR8.out.2.1 with ⟨rfl, _⟩ | ⟨gq, rfl, s2, s3, s4, s5, s6⟩
          · simp at hil
          obtain ⟨m0, m1, m2⟩ := s6 i _ hi
          rw [← HBs.out, Nat.zero_add] at m0 m1 m2
          have j1 : (i : Int) < (L6.length : Int) := by omega
          have j2 : (0 : Int) ≤ (i : Int) := by omega
          have j3 : ¬ (i : Int) < 0 := by omega
          have j4 : decide ((0 : Int) ≤ (i : Int)) = true := decide_eq_true j2
          have j5 : decide ((i : Int) < 0) = false := decide_eq_false j3
          have hgq := World.block_lt_of_cell? w8 _ m0
          clear s6 hi hz HX8
          go_upto_region 25 with (fail)
          refine wp_region_mkE [0, 1, 2, 3, 4, 5, 6, 7, 8, 9, 10, 11, 12, 13, 14, 15, 16, 17, 18, 19, 20, 21, 22, 23, 24, 25, 26, 27, 28, 29, 30, 31, 32, 33, 34, 35, 36, 38, 39, 40, 41] [37] [42, 43, 44] 158 (fun _ v W => Told w8.heap.size W v L6) (fun _ _ => True) (by kernel_rfl) (by kernel_rfl) rfl (fun i v W W' h hb => told_bel h hb) ?_
          apply Exists.intro
          refine ⟨fun X hX => ?_, ⟨⟨?_, fun W hW => ?_⟩, trivial⟩, ?_⟩
          · have cJ := kp (fun x => Jit_F ((hF8.out.below hX).below (ext_below X x)))
            have cR := kp (fun x => RJitter _ rb c6 g r6 _ L6 ((hR8.out.below hX).below (ext_below X x)) HOKL.out)
            have x0 := cell_later hX x0
            have x1 := cell_later hX x1
            have x2 := cell_later hX x2
            have d1 := cell_later hX d1
            have hb1 := Nat.lt_of_lt_of_le hb8x hX.size
            have hb2 := Nat.lt_of_lt_of_le hb8r hX.size
            have m0 := cell_later hX m0
            have m1 := cell_later hX m1
            have m2 := cell_later hX m2
            have hb3 := Nat.lt_of_lt_of_le hgq hX.size
            simp only [List.append_eq, List.cons_append, List.nil_append, List.map_cons, List.map_nil, List.getD_cons_succ, List.getD_cons_zero]
            repeat (go_big_quiet_step (first
              | (go_at_call 26; with_reducible exact Calls.ext_of (cJ.out _))
              | (go_at_call 27; with_reducible exact Calls.ext_of (cR.out _))))
            exact wpQuiet_nil rfl
          · rfl
          · refine mk_enter (f := 29) (args := #[.pointer (some ⟨fb, 0, none⟩)]) (by kernel_rfl) ?_
            refine (Samples_F (hF8.out.below hW)).mono ?_
            rintro e w'' ⟨v, he, ht, hb⟩
            exact ⟨v, he, hb, told_base ht hW.size, fun _ _ _ => ⟨trivial, trivial⟩⟩
          intro v37 _
          simp only [List.append_eq, List.cons_append, List.nil_append, List.map_cons, List.map_nil, List.getD_cons_succ, List.getD_cons_zero, TailX]
          rintro X hX ⟨_, ⟨ga, ca, rfl, t1, t2, t3, t4, t5⟩⟩
          have hF9 := hid (hF8.out.below hX)
          have hR9 := hid (hR8.out.below hX)
          have hB9 := hid (bt' hB8.out hX hB8.out.size)
          clear hX
          go_wp2_with fail
          refine (same_any _ L6 ga ca rb c6 _ hlen8 t5 t4 hR9.out.2.1).mono ?_
          rintro e w5 ⟨rfl, hb5⟩
          have hF9 := hid (hF9.out.below hb5)
          have hR9 := hid (hR9.out.below hb5)
          have hB9 := hid (bt' hB9.out hb5 hB9.out.size)
          clear hb5
          go_wp2
          go_roundw
          case measure => simp [intOf]; omega
          case rel => exact ⟨k + 1, L6, r6, _, c6, by omega, by omega, by go_num, hF9, hR9, hB9⟩
        · go_wp2_with fail
          generalize (wr.alloc _) = X at hF1 hR1 hB1 X1 X2 X3 X4 ⊢
          have x4 := X4.out
          have hxX := World.block_lt_of_cell? X _ x4
          go_region_held3 (fun w' => w'.cell? ⟨wr.heap.size, 4, none⟩ = some (.int .i64 q))
            (first | go_keep | (exact gbcell hg6 (by assumption) hxr) | (exact gbcell hg5 (by assumption) hxf))
            (first
              | (go_at_call 20; refine (Grow_D (hF1.out.below (Below.refl _ _).drew) hq1).mono ?_; rintro e w5 ⟨rfl, hf5, hg5⟩)
              | (go_at_call 21; refine (RGrow_D ((hR1.out.below (Below.refl _ _).drew).grown hg5 hlt2) hF1.out.ok hF1.out.len hq1).mono ?_; rintro e w6 ⟨rfl, ⟨ad6, c6, hr6⟩, hg6⟩))
          have key : ∃ L6 r6, Hid (Fil w6 fb g L6 r6) ∧ Hid (RAt w6 rb g ad6 c6 L6 r6) ∧ Hid (Below w.heap.size w w6) :=
            ⟨_, _, hid (hf5.grown hg6 hfr), hid hr6, hid (bgb (bgb hB1.out.drew hg5 hw1 hB1.out.drew.size) hg6 hw2 (bgb hB1.out.drew hg5 hw1 hB1.out.drew.size).size)⟩
          obtain ⟨L6, r6, hF6, hR6, hB6⟩ := key
          clear hf5 hg5 hr6 hg6
          go_wp2_with fail
          refine (Best_F hF6.out).mono ?_
          rintro e w7 ⟨rfl, hb⟩
          unfold Smp.val
          obtain ⟨Bs, hBs⟩ : ∃ B, B = best L6 := ⟨_, rfl⟩
          rw [← hBs]
          have HBs := hid hBs
          clear hBs
          have HX7 := hid (Box3.new w7 Bs 32)
          have hF7 := hid (hF6.out.below (ba hb (.cells #[.int .i64 Bs.off, .int .i64 Bs.del, .int .i64 Bs.bnd] 32)))
          have hR7 := hid (hR6.out.below (ba hb (.cells #[.int .i64 Bs.off, .int .i64 Bs.del, .int .i64 Bs.bnd] 32)))
          have hB7 := hid (bt' hB6.out (ba hb (.cells #[.int .i64 Bs.off, .int .i64 Bs.del, .int .i64 Bs.bnd] 32)) hB6.out.size)
          clear hb
          go_wp2_with fail
          refine (RBest _ rb c6 g r6 ad6 L6 hR7.out).mono ?_
          rintro e w8 ⟨rfl, hbi, hb8⟩
          have hF8 := hid (hF7.out.below hb8)
          have hR8 := hid (hR7.out.below hb8)
          have hB8 := hid (bt' hB7.out hb8 hB7.out.size)
          have HX8 := hid (HX7.out.below hb8)
          have HOKL := hid hF8.out.ok
          have hlen8 := hF8.out.len
          have hb8x := HX8.out.lt
          have hb8r := hR8.out.lt
          have JJ : (jit L6 != jit L6) = false := by simp
          clear hb8 HX7 hF7 hR7 hB7
          obtain ⟨⟨x0, x1, x2⟩, _⟩ := HX8.out
          obtain ⟨_, d1, _⟩ := hR8.out.cell
          rcases hbi with ⟨hnil, hz⟩ | ⟨i, hz, hi, _⟩
          · rw [hz]
            subst hnil
            obtain rfl : Bs = ⟨0, 0, 0⟩ := HBs.out
            have dd : decide ((0 : Nat) < ([] : List Smp).length) = false := rfl
            dsimp only at x0 x1 x2
            have j4 : decide ((0 : Int) ≤ -1) = false := rfl
            have d1 : w8.cell? ⟨rb, 1, none⟩ = some (.slice ad6 0 c6) := d1
            go_upto_region 25 with (fail)
            refine wp_region_mkE [0, 1, 2, 3, 4, 5, 6, 7, 8, 9, 10, 11, 12, 13, 14, 15, 16, 17, 18, 19, 20, 21, 22, 23, 24, 25, 26, 27, 28, 29, 30, 31, 32, 33, 34, 35, 36, 38, 39, 40, 41] [37] [42, 43, 44] 158 (fun _ v W => Told w8.heap.size W v []) (fun _ _ => True) (by kernel_rfl) (by kernel_rfl) rfl (fun i v W W' h hb => told_bel h hb) ?_
            apply Exists.intro
            refine ⟨fun X hX => ?_, ⟨⟨?_, fun W hW => ?_⟩, trivial⟩, ?_⟩
            · have cJ := kp (fun x => Jit_F ((hF8.out.below hX).below (ext_below X x)))
              have cR := kp (fun x => RJitter _ rb c6 g r6 _ [] ((hR8.out.below hX).below (ext_below X x)) HOKL.out)
              have x0 := cell_later hX x0
              have x1 := cell_later hX x1
              have x2 := cell_later hX x2
              have d1 := cell_later hX d1
              have hb1 := Nat.lt_of_lt_of_le hb8x hX.size
              have hb2 := Nat.lt_of_lt_of_le hb8r hX.size
              simp only [List.append_eq, List.cons_append, List.nil_append, List.map_cons, List.map_nil, List.getD_cons_succ, List.getD_cons_zero]
              repeat (go_big_quiet_step (first
                | (go_at_call 26; with_reducible exact Calls.ext_of (cJ.out _))
                | (go_at_call 27; with_reducible exact Calls.ext_of (cR.out _))))
              exact wpQuiet_nil rfl
            · rfl
            · refine mk_enter (f := 29) (args := #[.pointer (some ⟨fb, 0, none⟩)]) (by kernel_rfl) ?_
              refine (Samples_F (hF8.out.below hW)).mono ?_
              rintro e w'' ⟨v, he, ht, hb⟩
              exact ⟨v, he, hb, told_base ht hW.size, fun _ _ _ => ⟨trivial, trivial⟩⟩
            intro v37 _
            simp only [List.append_eq, List.cons_append, List.nil_append, List.map_cons, List.map_nil, List.getD_cons_succ, List.getD_cons_zero, TailX]
            rintro X hX ⟨_, ⟨ga, ca, rfl, t1, t2, t3, t4, t5⟩⟩
            have hF9 := hid (hF8.out.below hX)
            have hR9 := hid (hR8.out.below hX)
            have hB9 := hid (bt' hB8.out hX hB8.out.size)
            clear hX
            go_wp2_with fail
            refine (same_any _ [] ga ca rb c6 ad6 hlen8 t5 t4 hR9.out.2.1).mono ?_
            rintro e w5 ⟨rfl, hb5⟩
            have hF9 := hid (hF9.out.below hb5)
            have hR9 := hid (hR9.out.below hb5)
            have hB9 := hid (bt' hB9.out hb5 hB9.out.size)
            clear hb5
            go_wp2
            go_roundw
            case measure => simp [intOf]; omega
            case rel => exact ⟨k + 1, [], r6, ad6, c6, by omega, by omega, by go_num, hF9, hR9, hB9⟩
          rw [hz]
          have hil := (List.getElem?_eq_some_iff.1 hi).1
          have dd : decide (0 < L6.length) = true := decide_eq_true (by omega)
          rcases hR8.out.2.1 with ⟨rfl, _⟩ | ⟨gq, rfl, s2, s3, s4, s5, s6⟩
          · simp at hil
          obtain ⟨m0, m1, m2⟩ := s6 i _ hi
          rw [← HBs.out, Nat.zero_add] at m0 m1 m2
          have j1 : (i : Int) < (L6.length : Int) := by omega
          have j2 : (0 : Int) ≤ (i : Int) := by omega
          have j3 : ¬ (i : Int) < 0 := by omega
          have j4 : decide ((0 : Int) ≤ (i : Int)) = true := decide_eq_true j2
          have j5 : decide ((i : Int) < 0) = false := decide_eq_false j3
          have hgq := World.block_lt_of_cell? w8 _ m0
          clear s6 hi hz HX8
          go_upto_region 25 with (fail)
          refine wp_region_mkE [0, 1, 2, 3, 4, 5, 6, 7, 8, 9, 10, 11, 12, 13, 14, 15, 16, 17, 18, 19, 20, 21, 22, 23, 24, 25, 26, 27, 28, 29, 30, 31, 32, 33, 34, 35, 36, 38, 39, 40, 41] [37] [42, 43, 44] 158 (fun _ v W => Told w8.heap.size W v L6) (fun _ _ => True) (by kernel_rfl) (by kernel_rfl) rfl (fun i v W W' h hb => told_bel h hb) ?_
          apply Exists.intro
          refine ⟨fun X hX => ?_, ⟨⟨?_, fun W hW => ?_⟩, trivial⟩, ?_⟩
          · have cJ := kp (fun x => Jit_F ((hF8.out.below hX).below (ext_below X x)))
            have cR := kp (fun x => RJitter _ rb c6 g r6 _ L6 ((hR8.out.below hX).below (ext_below X x)) HOKL.out)
            have x0 := cell_later hX x0
            have x1 := cell_later hX x1
            have x2 := cell_later hX x2
            have d1 := cell_later hX d1
            have hb1 := Nat.lt_of_lt_of_le hb8x hX.size
            have hb2 := Nat.lt_of_lt_of_le hb8r hX.size
            have m0 := cell_later hX m0
            have m1 := cell_later hX m1
            have m2 := cell_later hX m2
            have hb3 := Nat.lt_of_lt_of_le hgq hX.size
            simp only [List.append_eq, List.cons_append, List.nil_append, List.map_cons, List.map_nil, List.getD_cons_succ, List.getD_cons_zero]
            repeat (go_big_quiet_step (first
              | (go_at_call 26; with_reducible exact Calls.ext_of (cJ.out _))
              | (go_at_call 27; with_reducible exact Calls.ext_of (cR.out _))))
            exact wpQuiet_nil rfl
          · rfl
          · refine mk_enter (f := 29) (args := #[.pointer (some ⟨fb, 0, none⟩)]) (by kernel_rfl) ?_
            refine (Samples_F (hF8.out.below hW)).mono ?_
            rintro e w'' ⟨v, he, ht, hb⟩
            exact ⟨v, he, hb, told_base ht hW.size, fun _ _ _ => ⟨trivial, trivial⟩⟩
          intro v37 _
          simp only [List.append_eq, List.cons_append, List.nil_append, List.map_cons, List.map_nil, List.getD_cons_succ, List.getD_cons_zero, TailX]
          rintro X hX ⟨_, ⟨ga, ca, rfl, t1, t2, t3, t4, t5⟩⟩
          have hF9 := hid (hF8.out.below hX)
          have hR9 := hid (hR8.out.below hX)
          have hB9 := hid (bt' hB8.out hX hB8.out.size)
          clear hX
          go_wp2_with fail
          refine (same_any _ L6 ga ca rb c6 _ hlen8 t5 t4 hR9.out.2.1).mono ?_
          rintro e w5 ⟨rfl, hb5⟩
          have hF9 := hid (hF9.out.below hb5)
          have hR9 := hid (hR9.out.below hb5)
          have hB9 := hid (bt' hB9.out hb5 hB9.out.size)
          clear hb5
          go_wp2
          go_roundw
          case measure => simp [intOf]; omega
          case rel => exact ⟨k + 1, L6, r6, _, c6, by omega, by omega, by go_num, hF9, hR9, hB9⟩
        · go_wp2_with fail
          generalize (wr.alloc _) = X at hF1 hR1 hB1 X1 X2 X3 X4 ⊢
          have x4 := X4.out
          have hxX := World.block_lt_of_cell? X _ x4
          go_region_held3 (fun w' => w'.cell? ⟨wr.heap.size, 4, none⟩ = some (.int .i64 q))
            (first | go_keep | (exact gbcell hg6 (by assumption) hxr) | (exact gbcell hg5 (by assumption) hxf))
            (first
              | (go_at_call 22; refine (Shift_D (hF1.out.below (Below.refl _ _).drew) hq0 hq1).mono ?_; rintro e w5 ⟨rfl, hf5, hg5⟩)
              | (go_at_call 23; refine (RShift_D ((hR1.out.below (Below.refl _ _).drew).grown hg5 hlt2) hF1.out.ok hF1.out.len hq0 hq1).mono ?_; rintro e w6 ⟨rfl, ⟨ad6, c6, hr6⟩, hg6⟩))
          have key : ∃ L6 r6, Hid (Fil w6 fb g L6 r6) ∧ Hid (RAt w6 rb g ad6 c6 L6 r6) ∧ Hid (Below w.heap.size w w6) :=
            ⟨_, _, hid (hf5.grown hg6 hfr), hid hr6, hid (bgb (bgb hB1.out.drew hg5 hw1 hB1.out.drew.size) hg6 hw2 (bgb hB1.out.drew hg5 hw1 hB1.out.drew.size).size)⟩
          obtain ⟨L6, r6, hF6, hR6, hB6⟩ := key
          clear hf5 hg5 hr6 hg6
          go_wp2_with fail
          refine (Best_F hF6.out).mono ?_
          rintro e w7 ⟨rfl, hb⟩
          unfold Smp.val
          obtain ⟨Bs, hBs⟩ : ∃ B, B = best L6 := ⟨_, rfl⟩
          rw [← hBs]
          have HBs := hid hBs
          clear hBs
          have HX7 := hid (Box3.new w7 Bs 32)
          have hF7 := hid (hF6.out.below (ba hb (.cells #[.int .i64 Bs.off, .int .i64 Bs.del, .int .i64 Bs.bnd] 32)))
          have hR7 := hid (hR6.out.below (ba hb (.cells #[.int .i64 Bs.off, .int .i64 Bs.del, .int .i64 Bs.bnd] 32)))
          have hB7 := hid (bt' hB6.out (ba hb (.cells #[.int .i64 Bs.off, .int .i64 Bs.del, .int .i64 Bs.bnd] 32)) hB6.out.size)
          clear hb
          go_wp2_with fail
          refine (RBest _ rb c6 g r6 ad6 L6 hR7.out).mono ?_
          rintro e w8 ⟨rfl, hbi, hb8⟩
          have hF8 := hid (hF7.out.below hb8)
          have hR8 := hid (hR7.out.below hb8)
          have hB8 := hid (bt' hB7.out hb8 hB7.out.size)
          have HX8 := hid (HX7.out.below hb8)
          have HOKL := hid hF8.out.ok
          have hlen8 := hF8.out.len
          have hb8x := HX8.out.lt
          have hb8r := hR8.out.lt
          have JJ : (jit L6 != jit L6) = false := by simp
          clear hb8 HX7 hF7 hR7 hB7
          obtain ⟨⟨x0, x1, x2⟩, _⟩ := HX8.out
          obtain ⟨_, d1, _⟩ := hR8.out.cell
          rcases hbi with ⟨hnil, hz⟩ | ⟨i, hz, hi, _⟩
          · rw [hz]
            subst hnil
            obtain rfl : Bs = ⟨0, 0, 0⟩ := HBs.out
            have dd : decide ((0 : Nat) < ([] : List Smp).length) = false := rfl
            dsimp only at x0 x1 x2
            have j4 : decide ((0 : Int) ≤ -1) = false := rfl
            have d1 : w8.cell? ⟨rb, 1, none⟩ = some (.slice ad6 0 c6) := d1
            go_upto_region 25 with (fail)
            refine wp_region_mkE [0, 1, 2, 3, 4, 5, 6, 7, 8, 9, 10, 11, 12, 13, 14, 15, 16, 17, 18, 19, 20, 21, 22, 23, 24, 25, 26, 27, 28, 29, 30, 31, 32, 33, 34, 35, 36, 38, 39, 40, 41] [37] [42, 43, 44] 158 (fun _ v W => Told w8.heap.size W v []) (fun _ _ => True) (by kernel_rfl) (by kernel_rfl) rfl (fun i v W W' h hb => told_bel h hb) ?_
            apply Exists.intro
            refine ⟨fun X hX => ?_, ⟨⟨?_, fun W hW => ?_⟩, trivial⟩, ?_⟩
            · have cJ := kp (fun x => Jit_F ((hF8.out.below hX).below (ext_below X x)))
              have cR := kp (fun x => RJitter _ rb c6 g r6 _ [] ((hR8.out.below hX).below (ext_below X x)) HOKL.out)
              have x0 := cell_later hX x0
              have x1 := cell_later hX x1
              have x2 := cell_later hX x2
              have d1 := cell_later hX d1
              have hb1 := Nat.lt_of_lt_of_le hb8x hX.size
              have hb2 := Nat.lt_of_lt_of_le hb8r hX.size
              simp only [List.append_eq, List.cons_append, List.nil_append, List.map_cons, List.map_nil, List.getD_cons_succ, List.getD_cons_zero]
              repeat (go_big_quiet_step (first
                | (go_at_call 26; with_reducible exact Calls.ext_of (cJ.out _))
                | (go_at_call 27; with_reducible exact Calls.ext_of (cR.out _))))
              exact wpQuiet_nil rfl
            · rfl
            · refine mk_enter (f := 29) (args := #[.pointer (some ⟨fb, 0, none⟩)]) (by kernel_rfl) ?_
              refine (Samples_F (hF8.out.below hW)).mono ?_
              rintro e w'' ⟨v, he, ht, hb⟩
              exact ⟨v, he, hb, told_base ht hW.size, fun _ _ _ => ⟨trivial, trivial⟩⟩
            intro v37 _
            simp only [List.append_eq, List.cons_append, List.nil_append, List.map_cons, List.map_nil, List.getD_cons_succ, List.getD_cons_zero, TailX]
            rintro X hX ⟨_, ⟨ga, ca, rfl, t1, t2, t3, t4, t5⟩⟩
            have hF9 := hid (hF8.out.below hX)
            have hR9 := hid (hR8.out.below hX)
            have hB9 := hid (bt' hB8.out hX hB8.out.size)
            clear hX
            go_wp2_with fail
            refine (same_any _ [] ga ca rb c6 ad6 hlen8 t5 t4 hR9.out.2.1).mono ?_
            rintro e w5 ⟨rfl, hb5⟩
            have hF9 := hid (hF9.out.below hb5)
            have hR9 := hid (hR9.out.below hb5)
            have hB9 := hid (bt' hB9.out hb5 hB9.out.size)
            clear hb5
            go_wp2
            go_roundw
            case measure => simp [intOf]; omega
            case rel => exact ⟨k + 1, [], r6, ad6, c6, by omega, by omega, by go_num, hF9, hR9, hB9⟩
          rw [hz]
          have hil := (List.getElem?_eq_some_iff.1 hi).1
          have dd : decide (0 < L6.length) = true := decide_eq_true (by omega)
          rcases hR8.out.2.1 with ⟨rfl, _⟩ | ⟨gq, rfl, s2, s3, s4, s5, s6⟩
          · simp at hil
          obtain ⟨m0, m1, m2⟩ := s6 i _ hi
          rw [← HBs.out, Nat.zero_add] at m0 m1 m2
          have j1 : (i : Int) < (L6.length : Int) := by omega
          have j2 : (0 : Int) ≤ (i : Int) := by omega
          have j3 : ¬ (i : Int) < 0 := by omega
          have j4 : decide ((0 : Int) ≤ (i : Int)) = true := decide_eq_true j2
          have j5 : decide ((i : Int) < 0) = false := decide_eq_false j3
          have hgq := World.block_lt_of_cell? w8 _ m0
          clear s6 hi hz HX8
          go_upto_region 25 with (fail)
          refine wp_region_mkE [0, 1, 2, 3, 4, 5, 6, 7, 8, 9, 10, 11, 12, 13, 14, 15, 16, 17, 18, 19, 20, 21, 22, 23, 24, 25, 26, 27, 28, 29, 30, 31, 32, 33, 34, 35, 36, 38, 39, 40, 41] [37] [42, 43, 44] 158 (fun _ v W => Told w8.heap.size W v L6) (fun _ _ => True) (by kernel_rfl) (by kernel_rfl) rfl (fun i v W W' h hb => told_bel h hb) ?_
          apply Exists.intro
          refine ⟨fun X hX => ?_, ⟨⟨?_, fun W hW => ?_⟩, trivial⟩, ?_⟩
          · have cJ := kp (fun x => Jit_F ((hF8.out.below hX).below (ext_below X x)))
            have cR := kp (fun x => RJitter _ rb c6 g r6 _ L6 ((hR8.out.below hX).below (ext_below X x)) HOKL.out)
            have x0 := cell_later hX x0
            have x1 := cell_later hX x1
            have x2 := cell_later hX x2
            have d1 := cell_later hX d1
            have hb1 := Nat.lt_of_lt_of_le hb8x hX.size
            have hb2 := Nat.lt_of_lt_of_le hb8r hX.size
            have m0 := cell_later hX m0
            have m1 := cell_later hX m1
            have m2 := cell_later hX m2
            have hb3 := Nat.lt_of_lt_of_le hgq hX.size
            simp only [List.append_eq, List.cons_append, List.nil_append, List.map_cons, List.map_nil, List.getD_cons_succ, List.getD_cons_zero]
            repeat (go_big_quiet_step (first
              | (go_at_call 26; with_reducible exact Calls.ext_of (cJ.out _))
              | (go_at_call 27; with_reducible exact Calls.ext_of (cR.out _))))
            exact wpQuiet_nil rfl
          · rfl
          · refine mk_enter (f := 29) (args := #[.pointer (some ⟨fb, 0, none⟩)]) (by kernel_rfl) ?_
            refine (Samples_F (hF8.out.below hW)).mono ?_
            rintro e w'' ⟨v, he, ht, hb⟩
            exact ⟨v, he, hb, told_base ht hW.size, fun _ _ _ => ⟨trivial, trivial⟩⟩
          intro v37 _
          simp only [List.append_eq, List.cons_append, List.nil_append, List.map_cons, List.map_nil, List.getD_cons_succ, List.getD_cons_zero, TailX]
          rintro X hX ⟨_, ⟨ga, ca, rfl, t1, t2, t3, t4, t5⟩⟩
          have hF9 := hid (hF8.out.below hX)
          have hR9 := hid (hR8.out.below hX)
          have hB9 := hid (bt' hB8.out hX hB8.out.size)
          clear hX
          go_wp2_with fail
          refine (same_any _ L6 ga ca rb c6 _ hlen8 t5 t4 hR9.out.2.1).mono ?_
          rintro e w5 ⟨rfl, hb5⟩
          have hF9 := hid (hF9.out.below hb5)
          have hR9 := hid (hR9.out.below hb5)
          have hB9 := hid (bt' hB9.out hb5 hB9.out.size)
          clear hb5
          go_wp2
          go_roundw
          case measure => simp [intOf]; omega
          case rel => exact ⟨k + 1, L6, r6, _, c6, by omega, by omega, by go_num, hF9, hR9, hB9⟩
        · have kk0 : (kd == 0) = false := by simpa using hk0
          have kk1 : (kd == 1) = false := by simpa using hk1
          have kk2 : (kd == 2) = false := by simpa using hk2
          go_wp2_with fail
          generalize (wr.alloc _) = w6 at hF1 hR1 hB1 X1 X2 X3 X4 ⊢
          obtain ⟨L6, r6, ad6, c6, hF6, hR6, hB6⟩ : ∃ L6 r6 ad6 c6, Hid (Fil w6 fb g L6 r6) ∧ Hid (RAt w6 rb g ad6 c6 L6 r6) ∧ Hid (Below w.heap.size w w6) := ⟨_, _, _, _, hF1, hR1, hB1⟩
          refine (Best_F hF6.out).mono ?_
          rintro e w7 ⟨rfl, hb⟩
          unfold Smp.val
          obtain ⟨Bs, hBs⟩ : ∃ B, B = best L6 := ⟨_, rfl⟩
          rw [← hBs]
          have HBs := hid hBs
          clear hBs
          have HX7 := hid (Box3.new w7 Bs 32)
          have hF7 := hid (hF6.out.below (ba hb (.cells #[.int .i64 Bs.off, .int .i64 Bs.del, .int .i64 Bs.bnd] 32)))
          have hR7 := hid (hR6.out.below (ba hb (.cells #[.int .i64 Bs.off, .int .i64 Bs.del, .int .i64 Bs.bnd] 32)))
          have hB7 := hid (bt' hB6.out (ba hb (.cells #[.int .i64 Bs.off, .int .i64 Bs.del, .int .i64 Bs.bnd] 32)) hB6.out.size)
          clear hb
          go_wp2_with fail
          refine (RBest _ rb c6 g r6 ad6 L6 hR7.out).mono ?_
          rintro e w8 ⟨rfl, hbi, hb8⟩
          have hF8 := hid (hF7.out.below hb8)
          have hR8 := hid (hR7.out.below hb8)
          have hB8 := hid (bt' hB7.out hb8 hB7.out.size)
          have HX8 := hid (HX7.out.below hb8)
          have HOKL := hid hF8.out.ok
          have hlen8 := hF8.out.len
          have hb8x := HX8.out.lt
          have hb8r := hR8.out.lt
          have JJ : (jit L6 != jit L6) = false := by simp
          clear hb8 HX7 hF7 hR7 hB7
          obtain ⟨⟨x0, x1, x2⟩, _⟩ := HX8.out
          obtain ⟨_, d1, _⟩ := hR8.out.cell
          rcases hbi with ⟨hnil, hz⟩ | ⟨i, hz, hi, _⟩
          · rw [hz]
            subst hnil
            obtain rfl : Bs = ⟨0, 0, 0⟩ := HBs.out
            have dd : decide ((0 : Nat) < ([] : List Smp).length) = false := rfl
            dsimp only at x0 x1 x2
            have j4 : decide ((0 : Int) ≤ -1) = false := rfl
            have d1 : w8.cell? ⟨rb, 1, none⟩ = some (.slice ad6 0 c6) := d1
            go_upto_region 25 with (fail)
            refine wp_region_mkE [0, 1, 2, 3, 4, 5, 6, 7, 8, 9, 10, 11, 12, 13, 14, 15, 16, 17, 18, 19, 20, 21, 22, 23, 24, 25, 26, 27, 28, 29, 30, 31, 32, 33, 34, 35, 36, 38, 39, 40, 41] [37] [42, 43, 44] 158 (fun _ v W => Told w8.heap.size W v []) (fun _ _ => True) (by kernel_rfl) (by kernel_rfl) rfl (fun i v W W' h hb => told_bel h hb) ?_
            apply Exists.intro
            refine ⟨fun X hX => ?_, ⟨⟨?_, fun W hW => ?_⟩, trivial⟩, ?_⟩
            · have cJ := kp (fun x => Jit_F ((hF8.out.below hX).below (ext_below X x)))
              have cR := kp (fun x => RJitter _ rb c6 g r6 _ [] ((hR8.out.below hX).below (ext_below X x)) HOKL.out)
              have x0 := cell_later hX x0
              have x1 := cell_later hX x1
              have x2 := cell_later hX x2
              have d1 := cell_later hX d1
              have hb1 := Nat.lt_of_lt_of_le hb8x hX.size
              have hb2 := Nat.lt_of_lt_of_le hb8r hX.size
              simp only [List.append_eq, List.cons_append, List.nil_append, List.map_cons, List.map_nil, List.getD_cons_succ, List.getD_cons_zero]
              repeat (go_big_quiet_step (first
                | (go_at_call 26; with_reducible exact Calls.ext_of (cJ.out _))
                | (go_at_call 27; with_reducible exact Calls.ext_of (cR.out _))))
              exact wpQuiet_nil rfl
            · rfl
            · refine mk_enter (f := 29) (args := #[.pointer (some ⟨fb, 0, none⟩)]) (by kernel_rfl) ?_
              refine (Samples_F (hF8.out.below hW)).mono ?_
              rintro e w'' ⟨v, he, ht, hb⟩
              exact ⟨v, he, hb, told_base ht hW.size, fun _ _ _ => ⟨trivial, trivial⟩⟩
            intro v37 _
            simp only [List.append_eq, List.cons_append, List.nil_append, List.map_cons, List.map_nil, List.getD_cons_succ, List.getD_cons_zero, TailX]
            rintro X hX ⟨_, ⟨ga, ca, rfl, t1, t2, t3, t4, t5⟩⟩
            have hF9 := hid (hF8.out.below hX)
            have hR9 := hid (hR8.out.below hX)
            have hB9 := hid (bt' hB8.out hX hB8.out.size)
            clear hX
            go_wp2_with fail
            refine (same_any _ [] ga ca rb c6 ad6 hlen8 t5 t4 hR9.out.2.1).mono ?_
            rintro e w5 ⟨rfl, hb5⟩
            have hF9 := hid (hF9.out.below hb5)
            have hR9 := hid (hR9.out.below hb5)
            have hB9 := hid (bt' hB9.out hb5 hB9.out.size)
            clear hb5
            go_wp2
            go_roundw
            case measure => simp [intOf]; omega
            case rel => exact ⟨k + 1, [], r6, ad6, c6, by omega, by omega, by go_num, hF9, hR9, hB9⟩
          rw [hz]
          have hil := (List.getElem?_eq_some_iff.1 hi).1
          have dd : decide (0 < L6.length) = true := decide_eq_true (by omega)
          rcases hR8.out.2.1 with ⟨rfl, _⟩ | ⟨gq, rfl, s2, s3, s4, s5, s6⟩
          · simp at hil
          obtain ⟨m0, m1, m2⟩ := s6 i _ hi
          rw [← HBs.out, Nat.zero_add] at m0 m1 m2
          have j1 : (i : Int) < (L6.length : Int) := by omega
          have j2 : (0 : Int) ≤ (i : Int) := by omega
          have j3 : ¬ (i : Int) < 0 := by omega
          have j4 : decide ((0 : Int) ≤ (i : Int)) = true := decide_eq_true j2
          have j5 : decide ((i : Int) < 0) = false := decide_eq_false j3
          have hgq := World.block_lt_of_cell? w8 _ m0
          clear s6 hi hz HX8
          go_upto_region 25 with (fail)
          refine wp_region_mkE [0, 1, 2, 3, 4, 5, 6, 7, 8, 9, 10, 11, 12, 13, 14, 15, 16, 17, 18, 19, 20, 21, 22, 23, 24, 25, 26, 27, 28, 29, 30, 31, 32, 33, 34, 35, 36, 38, 39, 40, 41] [37] [42, 43, 44] 158 (fun _ v W => Told w8.heap.size W v L6) (fun _ _ => True) (by kernel_rfl) (by kernel_rfl) rfl (fun i v W W' h hb => told_bel h hb) ?_
          apply Exists.intro
          refine ⟨fun X hX => ?_, ⟨⟨?_, fun W hW => ?_⟩, trivial⟩, ?_⟩
          · have cJ := kp (fun x => Jit_F ((hF8.out.below hX).below (ext_below X x)))
            have cR := kp (fun x => RJitter _ rb c6 g r6 _ L6 ((hR8.out.below hX).below (ext_below X x)) HOKL.out)
            have x0 := cell_later hX x0
            have x1 := cell_later hX x1
            have x2 := cell_later hX x2
            have d1 := cell_later hX d1
            have hb1 := Nat.lt_of_lt_of_le hb8x hX.size
            have hb2 := Nat.lt_of_lt_of_le hb8r hX.size
            have m0 := cell_later hX m0
            have m1 := cell_later hX m1
            have m2 := cell_later hX m2
            have hb3 := Nat.lt_of_lt_of_le hgq hX.size
            simp only [List.append_eq, List.cons_append, List.nil_append, List.map_cons, List.map_nil, List.getD_cons_succ, List.getD_cons_zero]
            repeat (go_big_quiet_step (first
              | (go_at_call 26; with_reducible exact Calls.ext_of (cJ.out _))
              | (go_at_call 27; with_reducible exact Calls.ext_of (cR.out _))))
            exact wpQuiet_nil rfl
          · rfl
          · refine mk_enter (f := 29) (args := #[.pointer (some ⟨fb, 0, none⟩)]) (by kernel_rfl) ?_
            refine (Samples_F (hF8.out.below hW)).mono ?_
            rintro e w'' ⟨v, he, ht, hb⟩
            exact ⟨v, he, hb, told_base ht hW.size, fun _ _ _ => ⟨trivial, trivial⟩⟩
          intro v37 _
          simp only [List.append_eq, List.cons_append, List.nil_append, List.map_cons, List.map_nil, List.getD_cons_succ, List.getD_cons_zero, TailX]
          rintro X hX ⟨_, ⟨ga, ca, rfl, t1, t2, t3, t4, t5⟩⟩
          have hF9 := hid (hF8.out.below hX)
          have hR9 := hid (hR8.out.below hX)
          have hB9 := hid (bt' hB8.out hX hB8.out.size)
          clear hX
          go_wp2_with fail
          refine (same_any _ L6 ga ca rb c6 _ hlen8 t5 t4 hR9.out.2.1).mono ?_
          rintro e w5 ⟨rfl, hb5⟩
          have hF9 := hid (hF9.out.below hb5)
          have hR9 := hid (hR9.out.below hb5)
          have hB9 := hid (bt' hB9.out hb5 hB9.out.size)
          clear hb5
          go_wp2
          go_roundw
          case measure => simp [intOf]; omega
          case rel => exact ⟨k + 1, L6, r6, _, c6, by omega, by omega, by go_num, hF9, hR9, hB9⟩
      · go_wp2
        go_ret
        exact ⟨rfl, hB.out⟩
    · go_wp2
      go_ret
      exact ⟨rfl, hB.out⟩
end Go.Proofs.Ytlljndojbhopfaa
