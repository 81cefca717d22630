/- Texts laid together: Pln3, Pln4, Rw, Snd0, Snd1, Rcv1, Rcv2, Rcv3, Chn4, Rcv4, Rcv5. -/
import Derived.Maps.AppendAt
import Derived.Deep.AppendSrc
import Derived.Sort.KeysCollected
import Derived.Test.YtmblknknbbdmeaaGreatRcb7
/- plan: At. -/
namespace Go.Proofs.YtmblknknbbdmeaaGreat
open Go Go.RowKit
set_option linter.unusedVariables false
set_option linter.unusedSimpArgs false
attribute [local go_sem] bmax2 bmin2 bmax bmin cell_ext frozen_ext

/-- in which interval a moment is, and the error -/
def atP (s l c t : Int) : Int × Int := if t < s then (0, 15) else if s + c * l ≤ t then (0, 10) else ((t - s) / l + 1, 0)
theorem atP_in {s l d c t : Int} (hm : mayP s l d c = true) (h1 : s ≤ t) (h2 : t < s + c * l) : 0 ≤ (t - s) / l ∧ (t - s) / l < c := by
  have hmm := mayP_iff.1 hm
  constructor
  · exact Int.ediv_nonneg (by omega) (by omega)
  · exact Int.ediv_lt_of_lt_mul (by omega) (by omega)
set_option maxHeartbeats 1000000 in
set_option maxRecDepth 100000 in
theorem P_At (s l d c t : Int) (hm : mayP s l d c = true) (ht0 : -9223372036854775808 ≤ t) (ht1 : t < 9223372036854775808) (w : World) : Calls Tryz.prog 74 #[.agg (planL s l d c).toArray, .int .i64 t] w fun e w' => e = .returned (.tuple #[.int .i64 (atP s l c t).1, .int .i64 (atP s l c t).2]) ∧ Below w.heap.size w w' := by
  have cM := kp (fun w' => P_May s l d c w')
  have HB := kp (ba (Below.refl w.heap.size w) (.cells (planL s l d c).toArray 29))
  have HN := kp (Blk.new w 29 (planL s l d c).toArray)
  have hPl := planL_length s l d c
  have C0 : Kp ((planL s l d c)[0]? = some (.int .i64 s)) := kp rfl
  have C1 : Kp ((planL s l d c)[1]? = some (.int .i64 l)) := kp rfl
  have C3 : Kp ((planL s l d c)[3]? = some (.int .i64 c)) := kp rfl
  have hmm := mayP_iff.1 hm
  rw [hm] at cM
  have e1 : wrap64 (c + 1) = c + 1 := IntWalk.wrap64_in _ (by omega)
  have cB := kp (fun w' => P_begins_may s l d c (c + 1) hm (by omega) (by omega) w')
  rw [show c + 1 - 1 = c by omega] at cB
  unfold atP
  have hE := beg_in (i := c + 1) hm (by omega) (by omega)
  rw [show c + 1 - 1 = c by omega] at hE
  by_cases h1 : t < s
  · rw [if_pos h1]
    generalize planL s l d c = X at *
    clear hmm hE hm
    go_enter Tryz.func74, Tryz.ntmps74
    have LX := ld_all (P := Tryz.prog) w.heap.size 4 29 29 X _ Tryz.underlying29 rfl info_plan hPl HN.out
    go_wp2_with (refine wpL_load rfl 29 _ rfl rfl LX ?_)
    refine (cM.out _).mono ?_
    rintro e w1 ⟨rfl, hb1⟩
    have HB1 := kp (bt' HB.out hb1 HB.out.size)
    have x0 := (HN.out.bel hb1).atL C0.out
    have k1 := (HN.out.bel hb1).lt
    clear hb1
    go_wp2
    go_ret2
    exact ⟨rfl, HB1.out⟩
  · rw [if_neg h1]
    by_cases h2 : s + c * l ≤ t
    · rw [if_pos h2]
      obtain ⟨E, hEE⟩ : ∃ E, s + c * l = E := ⟨_, rfl⟩
      rw [hEE] at cB h2
      generalize planL s l d c = X at *
      clear hmm hE hm hEE
      go_enter Tryz.func74, Tryz.ntmps74
      have LX := ld_all (P := Tryz.prog) w.heap.size 4 29 29 X _ Tryz.underlying29 rfl info_plan hPl HN.out
      go_wp2_with (refine wpL_load rfl 29 _ rfl rfl LX ?_)
      refine (cM.out _).mono ?_
      rintro e w1 ⟨rfl, hb1⟩
      have HB1 := kp (bt' HB.out hb1 HB.out.size)
      have HN1 := kp (HN.out.bel hb1)
      have x0 := HN1.out.atL C0.out
      have x3 := HN1.out.atL C3.out
      have k1 := HN1.out.lt
      have LX1 := ld_all (P := Tryz.prog) w.heap.size 4 29 29 X _ Tryz.underlying29 rfl info_plan hPl HN1.out
      clear hb1 LX
      go_wp2_with (refine wpL_load rfl 29 _ rfl rfl LX1 ?_)
      refine (cB.out _).mono ?_
      rintro e w2 ⟨rfl, hb2⟩
      have HB2 := kp (bt' HB1.out hb2 HB1.out.size)
      clear hb2
      go_wp2
      go_ret2
      exact ⟨rfl, HB2.out⟩
    · rw [if_neg h2]
      have hq := atP_in hm (by omega) (show t < s + c * l by omega)
      have cO1 := kp (fun w' => W_Of t ht0 ht1 w')
      have cO2 := kp (fun w' => W_Of s (by omega) (by omega) w')
      have cS := kp (fun w' => W_Sub t s (by unfold In128; omega) (by unfold In128; omega) w')
      have hov : overV (t - s) = .tuple #[.agg (numC (t - s)).toArray, .int .i64 0] := if_pos (by unfold In128; omega)
      rw [hov] at cS
      obtain ⟨L, hL⟩ : ∃ L : Nat, l = (L : Int) := ⟨l.toNat, by omega⟩
      have cD := kp (fun w' => W_Div (t - s) L (by unfold In128; omega) (by omega) (by omega) w')
      rw [← hL] at cD
      obtain ⟨q, hqq⟩ : ∃ q, (t - s) / l = q := ⟨_, rfl⟩
      rw [hqq] at cD hq ⊢
      have cI := kp (fun w' => W_Int q (by omega) (by omega) w')
      rw [if_pos (by omega)] at cI
      have e2 : wrap64 (q + 1) = q + 1 := IntWalk.wrap64_in _ (by omega)
      obtain ⟨E, hEE⟩ : ∃ E, s + c * l = E := ⟨_, rfl⟩
      rw [hEE] at cB h2
      obtain ⟨R, hR⟩ : ∃ R, (t - s) % l = R := ⟨_, rfl⟩
      rw [hR] at cD
      have hGl := numC_length (t - s)
      have hG1 := kp (numC_one (t - s))
      have hQl := numC_length q
      have hQ1 := kp (numC_one q)
      have HZ : Kp (numC 0 = [.int .i64 0, .int .u64 0]) := kp (by kernel_rfl)
      generalize numC (t - s) = G at *
      generalize numC q = Q at *
      generalize numC t = T at *
      generalize numC s = S at *
      generalize planL s l d c = X at *
      clear hmm hE hm hEE hR hqq hov hL hq ht0 ht1
      go_enter Tryz.func74, Tryz.ntmps74
      have LX := ld_all (P := Tryz.prog) w.heap.size 4 29 29 X _ Tryz.underlying29 rfl info_plan hPl HN.out
      go_wp2_with (refine wpL_load rfl 29 _ rfl rfl LX ?_)
      refine (cM.out _).mono ?_
      rintro e w1 ⟨rfl, hb1⟩
      have HB1 := kp (bt' HB.out hb1 HB.out.size)
      have HN1 := kp (HN.out.bel hb1)
      have x0 := HN1.out.atL C0.out
      have x3 := HN1.out.atL C3.out
      have k1 := HN1.out.lt
      have LX1 := ld_all (P := Tryz.prog) w.heap.size 4 29 29 X _ Tryz.underlying29 rfl info_plan hPl HN1.out
      clear hb1 LX
      go_wp2_with (refine wpL_load rfl 29 _ rfl rfl LX1 ?_)
      refine (cB.out _).mono ?_
      rintro e w2 ⟨rfl, hb2⟩
      have HB2 := kp (bt' HB1.out hb2 HB1.out.size)
      have HN2 := kp (HN1.out.bel hb2)
      clear hb2 LX1 x0 x3 k1
      go_upto_region 7 with (fail)
      refine wp_region_earlyE [8] [0, 1, 2, 3, 4, 5, 6, 7, 8] [9] [10, 11] 54 (fun _ => VA w2.heap.size 195 (numC 0).toArray) (· ≠ ·) (by kernel_rfl) (by kernel_rfl) rfl (fun i v W W' h hb => h.mono hb) ?_
      apply Exists.intro
      refine ⟨fun V hV => ?_, ?_, ?_⟩
      · have J := HN2.out.bel hV
        have x0 := J.atL C0.out
        have k1 := J.lt
        simp only [List.map_cons, List.map_nil, List.getD_cons_succ, List.getD_cons_zero]
        repeat (go_big_quiet_step (first
          | (go_at_call 103; with_reducible exact Calls.ext_of (cO1.out _))
          | (go_at_call 103; with_reducible exact Calls.ext_of (cO2.out _))
          | (go_at_call 102; with_reducible exact Calls.ext_of (cS.out _))))
        exact wpQuiet_nil rfl
      · exact ⟨mk_alloc rfl (fun W => by rw [HZ.out]; kernel_rfl) (fun j u W h => h.ne), trivial⟩
      · intro ev _
        simp only [List.map_cons, List.map_nil, List.getD_cons_succ, List.getD_cons_zero, TailX]
        rintro V hV ⟨_, b4, rfl, hb4, hk4⟩
        have hZl := numC_length 0
        have SC := sc_all (P := Tryz.prog) (w := V) b4 195 G (numC 0) hk4 (by rw [hGl, hZl]) hG1.out
        have J4 := kp (hk4.row G.toArray)
        have hl2 := HN2.out.lt
        have J1 := kp ((HN2.out.bel hV).rowfar (b := b4) (by omega) G.toArray)
        have hbx := bt' HB2.out hV HB2.out.size
        have JB := kp (bsr hbx (show w.heap.size ≤ b4 by omega) hbx.size G.toArray)
        clear hV hk4 hbx
        generalize V.setRow b4 G.toArray = U at SC J1 J4 JB
        go_upto_region 8 with (fail)
        clear SC
        have LG := ld_all (P := Tryz.prog) b4 2 195 195 G _ Tryz.underlying195 rfl info_num hGl J4.out
        have x1 := J1.out.atL C1.out
        have k1 := J1.out.lt
        go_wp2_with (refine wpL_load rfl 195 _ rfl rfl LG ?_)
        refine (cD.out _).mono ?_
        rintro e w3 ⟨rfl, hb3⟩
        have JB3 := kp (bt' JB.out hb3 JB.out.size)
        clear hb3 LG
        have SC := sc_new (P := Tryz.prog) w3 195 Q hQ1.out #[.int .i64 0, .int .u64 0] (by rw [hQl]; rfl)
        have J9 := kp (Blk.new w3 195 Q.toArray)
        have JB9 := kp (ba JB3.out (.cells Q.toArray 195))
        go_upto_region 9 with (fail)
        change Code.wp _ _ _ _ (w3.alloc (.cells Q.toArray 195))
        clear SC
        generalize w3.alloc (.cells Q.toArray 195) = w4 at J9 JB9 ⊢
        have LQ := ld_all (P := Tryz.prog) w3.heap.size 2 195 195 Q _ Tryz.underlying195 rfl info_num hQl J9.out
        go_wp2_with (refine wpL_load rfl 195 _ rfl rfl LQ ?_)
        refine (cI.out _).mono ?_
        rintro e w5 ⟨rfl, hb5⟩
        have JB5 := kp (bt' JB9.out hb5 JB9.out.size)
        clear hb5
        go_wp2
        go_ret2
        exact ⟨by show Ending.returned (.tuple #[.int .i64 (wrap64 (q + 1)), .int .i64 0]) = _; rw [e2], JB5.out⟩
end Go.Proofs.YtmblknknbbdmeaaGreat
/- the reference's plan, of a plan that may be. -/
namespace Go.Proofs.YtmblknknbbdmeaaGreat
open Go Go.RowKit
set_option linter.unusedVariables false
set_option linter.unusedSimpArgs false
attribute [local go_sem] bmax2 bmin2 bmax bmin cell_ext frozen_ext

theorem mul_step {s l d c : Int} (hm : mayP s l d c = true) {k : Int} (h1 : 0 ≤ k) (h2 : k ≤ 1024) : 0 ≤ k * l ∧ k * l ≤ 1125899906842624 := by
  rw [mayP_iff] at hm
  obtain ⟨_, ⟨l1, l2⟩, _⟩ := hm
  refine ⟨Int.mul_nonneg h1 (by omega), ?_⟩
  have := Int.mul_le_mul h2 l2 (by omega) (by omega)
  omega
end Go.Proofs.YtmblknknbbdmeaaGreat
/- rows: a slice of elements of so many cells each, at any place of a block, or nil; appended to, cut at its front. -/
namespace Go.Proofs.YtmblknknbbdmeaaGreat
open Go Go.RowKit
set_option linter.unusedVariables false
set_option linter.unusedSimpArgs false

/-- a slice behind B, of m elements of sz cells each, with room for c: its cells are l -/
def Rw (B : Nat) (w : World) (T sz : Nat) (ad : Option Addr) (m c : Nat) (l : List Value) : Prop :=
  l.length = m * sz ∧ m ≤ c ∧ c ≤ maxLen ∧ ((ad = none ∧ c = 0) ∨ ∃ g o cur, ad = some ⟨g, o, none⟩ ∧ B ≤ g ∧ Blk w g T cur ∧ o + c * sz ≤ cur.size ∧ (cur.toList.drop o).take (m * sz) = l)
variable {B B' : Nat} {w w' : World} {T sz : Nat} {ad : Option Addr} {m c : Nat} {l : List Value}
theorem Rw.nil (B : Nat) (w : World) (T sz : Nat) : Rw B w T sz none 0 0 [] := ⟨by simp, by omega, Nat.zero_le _, Or.inl ⟨rfl, rfl⟩⟩
theorem Rw.mono (h : Rw B w T sz ad m c l) (hB : B' ≤ B) : Rw B' w T sz ad m c l := by
  obtain ⟨h0, h1, h2, h3⟩ := h
  refine ⟨h0, h1, h2, ?_⟩
  rcases h3 with h3 | ⟨g, o, cur, e, hg, hk⟩
  · exact Or.inl h3
  · exact Or.inr ⟨g, o, cur, e, by omega, hk⟩
theorem Rw.kept {row : Option Nat} (h : Rw B w T sz ad m c l) (hg : w.grownBy w' row) (hne : ad.map (·.block) ≠ row ∨ ad = none) : Rw B w' T sz ad m c l := by
  obtain ⟨h0, h1, h2, h3⟩ := h
  refine ⟨h0, h1, h2, ?_⟩
  rcases h3 with h3 | ⟨g, o, cur, rfl, hB, hk, hk2⟩
  · exact Or.inl h3
  · refine Or.inr ⟨g, o, cur, rfl, hB, hk.grown hg ?_, hk2⟩
    rcases hne with hne | hne
    · exact hne
    · cases hne
theorem Rw.bel (h : Rw B w T sz ad m c l) (hb : Below w.heap.size w w') : Rw B w' T sz ad m c l := by
  obtain ⟨h0, h1, h2, h3⟩ := h
  refine ⟨h0, h1, h2, ?_⟩
  rcases h3 with h3 | ⟨g, o, cur, rfl, hB, hk, hk2⟩
  · exact Or.inl h3
  · exact Or.inr ⟨g, o, cur, rfl, hB, hk.bel hb, hk2⟩
theorem Rw.len (h : Rw B w T sz ad m c l) : l.length = m * sz := h.1
theorem Rw.blk (h : Rw B w T sz ad m c l) {g : Nat} (hg : ad.map (·.block) = some g) : B ≤ g ∧ ∃ cur, Blk w g T cur := by
  obtain ⟨h0, h1, h2, h3⟩ := h
  rcases h3 with ⟨rfl, _⟩ | ⟨g', o, cur, rfl, hB, hk, hk2⟩
  · cases hg
  · injection hg with hg
    subst hg
    exact ⟨hB, cur, hk⟩
/-- where one of its cells lies -/
theorem Rw.cell (h : Rw B w T sz ad m c l) {j : Nat} {v : Value} (hv : l[j]? = some v) : ∃ g o, ad = some ⟨g, o, none⟩ ∧ B ≤ g ∧ g < w.heap.size ∧ w.cell? ⟨g, o + j, none⟩ = some v := by
  obtain ⟨h0, h1, h2, h3⟩ := h
  have hj : j < l.length := (List.getElem?_eq_some_iff.1 hv).1
  rcases h3 with ⟨rfl, hc⟩ | ⟨g, o, cur, rfl, hB, hk, hf, ht⟩
  · have : m = 0 := by omega
    rw [this, Nat.zero_mul] at h0
    omega
  · refine ⟨g, o, rfl, hB, hk.lt, ?_⟩
    rw [hk.cell, ← Array.getElem?_toList]
    rw [← ht, List.getElem?_take] at hv
    split at hv
    · rw [List.getElem?_drop] at hv
      exact hv
    · cases hv
theorem Rw.cells {g o : Nat} (h : Rw B w T sz (some ⟨g, o, none⟩) m c l) {j : Nat} {v : Value} (hv : l[j]? = some v) : w.cell? ⟨g, o + j, none⟩ = some v := by
  obtain ⟨g', o', e, _, _, h⟩ := h.cell hv
  injection e with e
  injection e with e1 e2
  subst e1; subst e2
  exact h
theorem Rw.some_ (h : Rw B w T sz ad m c l) (hm : 0 < m) : ∃ g o, ad = some ⟨g, o, none⟩ ∧ B ≤ g ∧ g < w.heap.size := by
  obtain ⟨h0, h1, h2, h3⟩ := h
  rcases h3 with ⟨rfl, hc⟩ | ⟨g, o, cur, rfl, hB, hk, hf, ht⟩
  · omega
  · exact ⟨g, o, rfl, hB, hk.lt⟩
/-- an element of several cells -/
theorem Rw.elem {g o : Nat} {es : List (List Value)} (h : Rw B w T sz (some ⟨g, o, none⟩) m c es.flatten) (hes : ∀ e ∈ es, e.length = sz) {k : Nat} {e : List Value} (hk : es[k]? = some e) {j : Nat} {v : Value} (hv : e[j]? = some v) : w.cell? ⟨g, o + (k * sz + j), none⟩ = some v := by
  refine h.cells ?_
  clear h
  have hj : j < sz := by rw [← hes e (List.mem_of_getElem? hk)]; exact (List.getElem?_eq_some_iff.1 hv).1
  induction es generalizing k with
  | nil => simp at hk
  | cons e0 es ih =>
    have h0 := hes e0 (by simp)
    cases k with
    | zero =>
      simp only [List.getElem?_cons_zero, Option.some.injEq] at hk
      subst hk
      rw [List.flatten_cons, Nat.zero_mul, Nat.zero_add, List.getElem?_append_left (by omega)]
      exact hv
    | succ k =>
      rw [List.getElem?_cons_succ] at hk
      have := ih (fun x hx => hes x (by simp [hx])) hk
      rw [List.flatten_cons, List.getElem?_append_right (by rw [h0, Nat.succ_mul]; omega), h0, show (k + 1) * sz + j - sz = k * sz + j by rw [Nat.succ_mul]; omega]
      exact this
/-- elements appended -/
theorem Rw.append {P : Program} (t ty : TypeId) (i : TypeInfo) (z : Value) (ht : P.underlying t = some (.slice T)) (hi : P.info? T = some i) (hz : i.zero = some z) (hzs : z.cells.size = sz) (hs : i.size = sz) (hby : i.bytes ≤ 1000000)
    (h : Rw B w T sz ad m c l) (hm : m ≤ 100000) (hB : B ≤ w.heap.size) {x : Value} {n : Nat} {news : List Value} (hsrc : Src P sz t x n news w) (hn : n ≤ 100000) (hn0 : 0 < n) :
    ∃ g' o' c' w', (Builtin.append_ #[t, t] ty #[.slice ad m c, x]).run P w = .ok (.slice (some ⟨g', o', none⟩) (m + n) c') w' ∧ Rw B w' T sz (some ⟨g', o', none⟩) (m + n) c' (l ++ news) ∧ w.grownBy w' (ad.map (·.block)) ∧ ((some g' = ad.map (·.block) ∧ ad = some ⟨g', o', none⟩) ∨ (g' = w.heap.size ∧ ∀ g, ad.map (·.block) = some g → g < w.heap.size)) := by
  subst hs
  have h0 := h
  obtain ⟨hl, h1, h2, h3⟩ := h
  have hnl := hsrc.newsLen
  have hll : (l ++ news).length = (m + n) * i.size := by rw [List.length_append, hl, hnl, Nat.add_mul]
  have hgrow : c < m + n → (Builtin.firstCells i.size m (.slice ad m c)).run P w.drew = .ok l.toArray w.drew → ∃ g' o' c' w', (Builtin.append_ #[t, t] ty #[.slice ad m c, x]).run P w = .ok (.slice (some ⟨g', o', none⟩) (m + n) c') w' ∧ Rw B w' T i.size (some ⟨g', o', none⟩) (m + n) c' (l ++ news) ∧ w.grownBy w' (ad.map (·.block)) ∧ ((some g' = ad.map (·.block) ∧ ad = some ⟨g', o', none⟩) ∨ (g' = w.heap.size ∧ ∀ g, ad.map (·.block) = some g → g < w.heap.size)) := by
    intro hg hf
    have hcl : m + n ≤ maxLen := by unfold maxLen; omega
    have hbb : (m + n) * i.bytes ≤ 140737488355328 := Nat.le_trans (Nat.mul_le_mul (show m + n ≤ 200000 by omega) hby) (by omega)
    have hr := run_append_grow_src (P := P) w t t ty T i z ht hi hz ad m c l hf x n news hsrc hg (by omega) (growslice_fits hg hbb)
    refine ⟨w.heap.size, 0, _, _, hr, ⟨hll, grownCap_ge _ _ _ _, grownCap_le_maxLen w _ _ _ hcl, Or.inr ⟨w.heap.size, 0, _, rfl, hB, heap_alloc_new w.drew _, ?_, ?_⟩⟩, ⟨rfl, rfl, rfl, by simp, fun k hk _ => Below.heap_alloc w.drew _ k hk⟩, Or.inr ⟨rfl, fun g hg2 => ?_⟩⟩
    · have hge := grownCap_ge w (m + n) c T
      simp only [Array.size_append, List.size_toArray, size_zeroCells, hzs, hll, Nat.zero_add]
      rw [← Nat.add_mul]
      exact Nat.mul_le_mul_right _ (by omega)
    · rw [List.drop_zero, Array.toList_append, List.toList_toArray, List.take_append_of_le_length (by rw [hll]; exact Nat.le_refl _), List.take_of_length_le (by rw [hll]; exact Nat.le_refl _)]
    · obtain ⟨_, cur, hk⟩ := h0.blk hg2
      exact hk.lt
  rcases h3 with ⟨rfl, hc⟩ | ⟨g, o, cur, rfl, hBg, hk, hf, htk⟩
  · subst hc
    obtain rfl : m = 0 := by omega
    rw [Nat.zero_mul] at hl
    obtain rfl := List.eq_nil_of_length_eq_zero hl
    exact hgrow (by omega) (run_firstCells_none w.drew i.size 0 0 0)
  · by_cases hroom : m + n ≤ c
    · have hcs : m * i.size + n * i.size ≤ c * i.size := by rw [← Nat.add_mul]; exact Nat.mul_le_mul_right _ hroom
      have hcl : cur.toList.length = cur.size := Array.length_toList
      have hst := sc_row (P := P) g (o + m * i.size) T news cur.toList (w := w) (by rw [Array.toArray_toList]; exact hk) (by rw [hnl, hcl]; omega) hsrc.one
      have hr : (Builtin.append_ #[t, t] ty #[.slice (some ⟨g, o, none⟩) m c, x]).run P w = .ok (.slice (some ⟨g, o, none⟩) (m + n) c) (w.setRow g (cur.toList.take (o + m * i.size) ++ news ++ cur.toList.drop (o + m * i.size + news.length)).toArray) := by
        rcases hsrc.kind with ⟨e', hk'⟩ | hk' <;> simp [Builtin.append_, run_underlying ht, run_underlying hk', sizeOf, typeInfo, hi, hsrc.len, hroom, hsrc.cells, addr_add, hst]
      refine ⟨g, o, c, _, hr, ⟨hll, hroom, h2, Or.inr ⟨g, o, _, rfl, hBg, hk.row _, ?_, ?_⟩⟩, gbrow w g _, Or.inl ⟨rfl, rfl⟩⟩
      · simp only [List.size_toArray, List.length_append, List.length_take, List.length_drop, hcl, hnl]
        omega
      · show List.take ((m + n) * i.size) (List.drop o (List.take (o + m * i.size) cur.toList ++ news ++ List.drop (o + m * i.size + news.length) cur.toList)) = _
        have e1 : List.drop o (List.take (o + m * i.size) cur.toList ++ news ++ List.drop (o + m * i.size + news.length) cur.toList) = l ++ news ++ List.drop (o + m * i.size + news.length) cur.toList := by
          rw [List.append_assoc, List.drop_append_of_le_length (by rw [List.length_take, hcl]; omega), List.drop_take, show o + m * i.size - o = m * i.size by omega, htk, List.append_assoc]
        rw [e1, List.take_append_of_le_length (by rw [hll]; exact Nat.le_refl _), List.take_of_length_le (by rw [hll]; exact Nat.le_refl _)]
    · refine hgrow (by omega) (run_firstCells_some (P := P) w.drew i.size m ⟨g, o, none⟩ m c l hl (fun j v hv => ?_))
      rw [addr_add]
      have := h0.cells hv
      simpa using this
/-- its first element cut off -/
theorem Rw.tail {P : Program} (t : TypeId) (ht : P.underlying t = some (.slice T)) (hi : (P.info? T).map (·.size) = some sz) (h : Rw B w T sz ad (m + 1) c l) :
    ∃ o' g', (Instr.slice t (.slice ad (m + 1) c) (some (.int .i64 1)) none none).run P w = .ok (.slice (some ⟨g', o', none⟩) m (c - 1)) w ∧ Rw B w T sz (some ⟨g', o', none⟩) m (c - 1) (l.drop sz) ∧ ad.map (·.block) = some g' := by
  obtain ⟨hl, h1, h2, h3⟩ := h
  rcases h3 with ⟨rfl, hc⟩ | ⟨g, o, cur, rfl, hBg, hk, hf, htk⟩
  · omega
  · cases hq : P.info? T with
    | none => simp [hq] at hi
    | some i =>
      have hs : i.size = sz := by simpa [hq] using hi
      have hsb : (Instr.sliceBound (.int .i64 1) (m + 1) BoundsCode.sliceB).run P w = .ok 1 w := by
        have e5 : (1 : Int) ≤ ((m + 1 : Nat) : Int) := by omega
        rw [run_sliceBound (P := P) w .i64 1 (m + 1) BoundsCode.sliceB (by omega) e5]
        rfl
      have hcs : c * sz = (c - 1) * sz + sz := by
        obtain ⟨c', rfl⟩ : ∃ c', c = c' + 1 := ⟨c - 1, by omega⟩
        rw [Nat.add_sub_cancel, Nat.succ_mul]
      by_cases hc1 : c = 1
      · subst hc1
        obtain rfl : m = 0 := by omega
        refine ⟨o, g, ?_, ⟨?_, by omega, by omega, Or.inr ⟨g, o, cur, rfl, hBg, hk, by omega, ?_⟩⟩, rfl⟩
        · simp [Instr.slice, run_underlying ht, Instr.sliceBounds, hsb, sizeOf, typeInfo, hq, Sem.run_bind]
        · rw [List.length_drop, hl]; omega
        · rw [Nat.zero_mul, List.take_zero]
          exact (List.drop_eq_nil_of_le (by rw [hl]; omega)).symm
      · refine ⟨o + sz, g, ?_, ⟨?_, by omega, by omega, Or.inr ⟨g, o + sz, cur, rfl, hBg, hk, by omega, ?_⟩⟩, rfl⟩
        · have e2 : ¬ (c = 1) := hc1
          have e3 : (1 : Int) ≤ (m : Int) + 1 := by omega
          have e4 : (m : Int) + 1 ≤ (c : Int) := by omega
          simp [Instr.slice, run_underlying ht, Instr.sliceBounds, hsb, sizeOf, typeInfo, hq, Sem.run_bind, e2, h1, hs, addr_add]
        · rw [List.length_drop, hl, Nat.succ_mul]; omega
        · rw [← htk, ← List.drop_drop, List.drop_take, Nat.succ_mul, Nat.add_sub_cancel]
end Go.Proofs.YtmblknknbbdmeaaGreat
/- sender: what a packet and a sender keep in memory. -/
namespace Go.Proofs.YtmblknknbbdmeaaGreat
open Go Go.RowKit
set_option linter.unusedVariables false
set_option linter.unusedSimpArgs false

/-- of what a tag is -/
def tagT (i : Int) (t : ByteArray) : List UInt8 := putL (i % 18446744073709551616).toNat 4 ++ bs t
def tagD (K : List UInt8) (i : Int) (t : ByteArray) : List UInt8 := (macD (macD K tagS) (tagT i t)).take 16
theorem tagD_length (K : List UInt8) (i : Int) (t : ByteArray) : (tagD K i t).length = 16 := by unfold tagD; rw [List.length_take, macD_length]; rfl
/-- a packet's cells -/
def pkL (iv : Int) (t g : ByteArray) (tl : Int) (K : List UInt8) : List Value := [.int .i64 iv, .string t, .string g, .int .i64 tl] ++ cellsU8 K
theorem pkL_length {iv : Int} {t g : ByteArray} {tl : Int} {K : List UInt8} (h : K.length = 32) : (pkL iv t g tl K).length = 36 := by simp [pkL, length_cellsU8, h]
theorem pkL_one (iv : Int) (t g : ByteArray) (tl : Int) (K : List UInt8) : ∀ v ∈ pkL iv t g tl K, v.oneCell' = true := by
  intro v hv
  simp only [pkL, List.mem_append, List.mem_cons, List.not_mem_nil, or_false] at hv
  rcases hv with (rfl | rfl | rfl | rfl) | h
  · rfl
  · rfl
  · rfl
  · rfl
  · exact cellsU8_one _ v h
theorem info_pk : (Tryz.prog.info? 40).map (·.size) = some 36 := by kernel_rfl
theorem pkL_row (iv : Int) (t g : ByteArray) (tl : Int) (K : List UInt8) : pkL iv t g tl K = Fv.row [.int .i64 iv, .txt t, .txt g, .int .i64 tl, .u8s K] := by simp [pkL, Fv.row, Fv.cells]
theorem eqT_pk : EqT Tryz.prog 40 [.int .i64, .txt, .txt, .int .i64, .u8s 32] := ⟨by kernel_rfl, by kernel_rfl, by kernel_rfl, by kernel_rfl⟩
set_option maxRecDepth 100000 in
theorem build_pk4 (iv : Int) (t g : ByteArray) (tl : Int) (W : World) : (Instr.build 40 #[(0, .int .i64 iv), (1, .string t), (2, .string g), (3, .int .i64 tl)]).run Tryz.prog W = .ok (.agg (pkL iv t g tl zeroK).toArray) W := by
  have hz : cellsU8 zeroK = List.replicate 32 (.int .u8 0) := by kernel_rfl
  unfold pkL
  rw [hz]
  exact run_build W 40 _ _ (by kernel_rfl)
def zeroPk : List Value := pkL 0 ByteArray.empty ByteArray.empty 0 zeroK

/-- a sender's cells -/
def sdL (S : List UInt8) (s l d c : Int) (Kn : List UInt8) (bw : Nat) (ad : Option Addr) (m cp : Nat) (last : Int) : List Value := cellsU8 S ++ (planL s l d c ++ (cellsU8 Kn ++ [.pointer (some ⟨bw, 0, none⟩), .slice ad m cp, .int .i64 last]))
section
variable {S : List UInt8} {s l d c : Int} {Kn : List UInt8} {bw : Nat} {ad : Option Addr} {m cp : Nat} {last : Int}
theorem sdL_length (hS : S.length = 32) (hK : Kn.length = 32) : (sdL S s l d c Kn bw ad m cp last).length = 71 := by simp [sdL, planL, length_cellsU8, hS, hK]
theorem sdL_seed (j : Nat) (v : Value) (hv : (cellsU8 S)[j]? = some v) : (sdL S s l d c Kn bw ad m cp last)[j]? = some v := by
  unfold sdL
  rw [List.getElem?_append_left (List.getElem?_eq_some_iff.1 hv).1]; exact hv
theorem sdL_plan (hS : S.length = 32) (j : Nat) (v : Value) (hv : (planL s l d c)[j]? = some v) : (sdL S s l d c Kn bw ad m cp last)[32 + j]? = some v := by
  unfold sdL
  rw [List.getElem?_append_right (by rw [length_cellsU8]; omega), length_cellsU8, hS, Nat.add_sub_cancel_left, List.getElem?_append_left (List.getElem?_eq_some_iff.1 hv).1]; exact hv
theorem sdL_known (hS : S.length = 32) (j : Nat) (v : Value) (hv : (cellsU8 Kn)[j]? = some v) : (sdL S s l d c Kn bw ad m cp last)[36 + j]? = some v := by
  unfold sdL
  rw [List.getElem?_append_right (by rw [length_cellsU8]; omega), length_cellsU8, hS, show 36 + j - 32 = 4 + j by omega, List.getElem?_append_right (by rw [planL_length]; omega), planL_length, Nat.add_sub_cancel_left, List.getElem?_append_left (List.getElem?_eq_some_iff.1 hv).1]; exact hv
theorem sdL_end (hS : S.length = 32) (hK : Kn.length = 32) (j : Nat) : (sdL S s l d c Kn bw ad m cp last)[68 + j]? = [Value.pointer (some ⟨bw, 0, none⟩), .slice ad m cp, .int .i64 last][j]? := by
  unfold sdL
  rw [List.getElem?_append_right (by rw [length_cellsU8]; omega), length_cellsU8, hS, show 68 + j - 32 = 36 + j by omega, List.getElem?_append_right (by rw [planL_length]; omega), planL_length, show 36 + j - 4 = 32 + j by omega, List.getElem?_append_right (by rw [length_cellsU8]; omega), length_cellsU8, hK, Nat.add_sub_cancel_left]
theorem sdL_set (hS : S.length = 32) (hK : Kn.length = 32) (j : Nat) (hj : j < 3) (v : Value) : (sdL S s l d c Kn bw ad m cp last).set (68 + j) v = cellsU8 S ++ (planL s l d c ++ (cellsU8 Kn ++ [Value.pointer (some ⟨bw, 0, none⟩), .slice ad m cp, .int .i64 last].set j v)) := by
  unfold sdL
  rw [List.set_append_right _ _ (by rw [length_cellsU8]; omega), length_cellsU8, hS, List.set_append_right _ _ (by rw [planL_length]; omega), planL_length, List.set_append_right _ _ (by rw [length_cellsU8]; omega), length_cellsU8, hK, show 68 + j - 32 - 4 - 32 = j by omega]
theorem sdL_keys (hS : S.length = 32) (hK : Kn.length = 32) (ad' : Option Addr) (m' cp' : Nat) : (sdL S s l d c Kn bw ad m cp last).set 69 (.slice ad' m' cp') = sdL S s l d c Kn bw ad' m' cp' last := sdL_set hS hK 1 (by omega) _
theorem sdL_last (hS : S.length = 32) (hK : Kn.length = 32) (last' : Int) : (sdL S s l d c Kn bw ad m cp last).set 70 (.int .i64 last') = sdL S s l d c Kn bw ad m cp last' := sdL_set hS hK 2 (by omega) _
theorem sdL_one : ∀ v ∈ sdL S s l d c Kn bw ad m cp last, v.oneCell' = true := by
  intro v hv
  unfold sdL at hv
  simp only [List.mem_append, List.mem_cons, List.not_mem_nil, or_false] at hv
  rcases hv with h | h | h | rfl | rfl | rfl
  · exact cellsU8_one _ v h
  · exact planL_one _ _ _ _ v h
  · exact cellsU8_one _ v h
  · rfl
  · rfl
  · rfl
end
/-- the keys of the intervals from lo on, m of them -/
def keptE (F : Nat → List UInt8) (n lo m : Nat) : List (List Value) := (List.range m).map fun i => stoneL F n (lo + i)
def keptL (F : Nat → List UInt8) (n lo m : Nat) : List Value := (keptE F n lo m).flatten
theorem keptE_len {F : Nat → List UInt8} (hF : F32 F) {n lo m : Nat} : ∀ e ∈ keptE F n lo m, e.length = 33 := by
  intro e he
  obtain ⟨i, _, rfl⟩ := List.mem_map.1 he
  exact stoneL_length hF _ _
theorem keptE_get {F : Nat → List UInt8} {n lo m i : Nat} (hi : i < m) : (keptE F n lo m)[i]? = some (stoneL F n (lo + i)) := by
  unfold keptE
  rw [List.getElem?_map, List.getElem?_range hi]; rfl
theorem keptL_snoc (F : Nat → List UInt8) (n lo m : Nat) : keptL F n lo (m + 1) = keptL F n lo m ++ stoneL F n (lo + m) := by simp [keptL, keptE, List.range_succ]
theorem keptL_cons (F : Nat → List UInt8) (n lo m : Nat) : keptL F n lo (m + 1) = stoneL F n lo ++ keptL F n (lo + 1) m := by
  unfold keptL keptE
  rw [List.range_succ_eq_map, List.map_cons, List.flatten_cons, List.map_map, Nat.add_zero]
  congr 3
  funext i
  show stoneL F n (lo + (i + 1)) = _
  rw [show lo + (i + 1) = lo + 1 + i by omega]
theorem keptL_tail {F : Nat → List UInt8} (hF : F32 F) (n lo m : Nat) : (keptL F n lo (m + 1)).drop 33 = keptL F n (lo + 1) m := by
  rw [keptL_cons, ← stoneL_length hF n lo, List.drop_left]

/-- a sender: its object in b, its walker in bw, the walker's stones in g, its keys at ad; keys of [lo, a) are kept, the walker is at a -/
structure SK (B : Nat) (w : World) (b bw g : Nat) (ad : Option Addr) (cp : Nat) (S : List UInt8) (s l d c : Int) (n lo a : Nat) (last : Int) : Prop where
  blk : Blk w b 152 (sdL S s l d c (chK S n) bw ad (a - lo) cp last).toArray
  wk : WG B w bw g (chK S) n a
  ks : Rw B w 205 33 ad (a - lo) cp (keptL (chK S) n lo (a - lo))
  ge : B ≤ b
  le : 1 ≤ lo ∧ lo ≤ a
/-- only the blocks of X, and what is new, have turned -/
structure FrP (X : Nat → Prop) (w w' : World) : Prop where
  os : w'.os = w.os
  tape : w'.tape = w.tape
  output : w'.output = w.output
  size : w.heap.size ≤ w'.heap.size
  block : ∀ k, k < w.heap.size → ¬ X k → w'.heap[k]? = w.heap[k]?
/-- a sender's blocks -/
def sdX (b bw g : Nat) (ad : Option Addr) (k : Nat) : Prop := k = b ∨ k = bw ∨ k = g ∨ ad.map (·.block) = some k
variable {X Y Z : Nat → Prop} {w w' w1 w2 : World} {B b bw g : Nat} {ad : Option Addr}
theorem FrP.of_bel (h : Below w.heap.size w w') : FrP X w w' := ⟨h.os, h.tape, h.output, h.size, fun k hk _ => h.block k hk⟩
theorem FrP.of_fr (h : Fr w w' b g) (hb : X b) (hg : X g) : FrP X w w' := ⟨h.os, h.tape, h.output, h.size, fun k hk hX => h.block k hk (fun e => hX (e ▸ hb)) (fun e => hX (e ▸ hg))⟩
theorem FrP.of_grown {row : Option Nat} (h : w.grownBy w' row) (hb : ∀ k, row = some k → X k) : FrP X w w' := ⟨h.os, h.tape, h.output, h.size, fun k hk hX => h.block k hk (fun e => hX (hb k e.symm))⟩
theorem FrP.trans (h : FrP X w w1) (h2 : FrP Y w1 w2) (hY : ∀ k, Y k → X k ∨ w.heap.size ≤ k) : FrP X w w2 :=
  ⟨h2.os.trans h.os, h2.tape.trans h.tape, h2.output.trans h.output, Nat.le_trans h.size h2.size, fun k hk hX => (h2.block k (Nat.lt_of_lt_of_le hk h.size) (fun hy => by rcases hY k hy with h | h; exact hX h; omega)).trans (h.block k hk hX)⟩
theorem FrP.below (h : FrP X w w') (hX : ∀ k, X k → B ≤ k) (hB : B ≤ w.heap.size) : Below B w w' := ⟨h.os, h.tape, h.output, h.size, fun k hk => h.block k (by omega) (fun hx => by have := hX k hx; omega)⟩
theorem Blk.frP {k : Nat} {t : TypeId} {cs : Array Value} (h : Blk w k t cs) (hf : FrP X w w') (hX : ¬ X k) : Blk w' k t cs := (hf.block k h.lt hX).trans h
theorem Rw.frP {T sz m c : Nat} {l : List Value} (h : Rw B w T sz ad m c l) (hf : FrP X w w') (hX : ∀ k, ad.map (·.block) = some k → ¬ X k) : Rw B w' T sz ad m c l := by
  obtain ⟨h0, h1, h2, h3⟩ := h
  refine ⟨h0, h1, h2, ?_⟩
  rcases h3 with h3 | ⟨g, o, cur, rfl, hB, hk, hk2⟩
  · exact Or.inl h3
  · exact Or.inr ⟨g, o, cur, rfl, hB, hk.frP hf (hX g rfl), hk2⟩
theorem WG.frP {F : Nat → List UInt8} {n at_ : Nat} (h : WG B w b g F n at_) (hf : FrP X w w') (h1 : ¬ X b) (h2 : ¬ X g) : WG B w' b g F n at_ := by
  obtain ⟨cap, cur, ps, hk, hi, h3, h4⟩ := h
  exact ⟨cap, cur, ps, ⟨hk.blk.frP hf h1, hk.row.frP hf h2, hk.ne, hk.le, hk.cap_le, hk.fit, hk.take⟩, hi, h3, h4⟩
theorem WG.ge {F : Nat → List UInt8} {n at_ : Nat} (h : WG B w b g F n at_) : B ≤ b ∧ B ≤ g ∧ b < w.heap.size ∧ g < w.heap.size := by
  obtain ⟨cap, cur, ps, hk, hi, h3, h4⟩ := h
  exact ⟨h3, h4, hk.blk.lt, hk.row.lt⟩
theorem WG.blks {F : Nat → List UInt8} {n at_ : Nat} (h : WG B w b g F n at_) : (∃ cs, Blk w b 192 cs) ∧ ∃ cs, Blk w g 189 cs := by
  obtain ⟨cap, cur, ps, hk, hi, h3, h4⟩ := h
  exact ⟨⟨_, hk.blk⟩, ⟨_, hk.row⟩⟩
section
variable {cp : Nat} {S : List UInt8} {s l d c : Int} {n lo a : Nat} {last : Int}
theorem SK.bel (h : SK B w b bw g ad cp S s l d c n lo a last) (hb : Below w.heap.size w w') : SK B w' b bw g ad cp S s l d c n lo a last := ⟨h.blk.bel hb, h.wk.bel hb, h.ks.bel hb, h.ge, h.le⟩
theorem SK.frP (h : SK B w b bw g ad cp S s l d c n lo a last) (hf : FrP X w w') (hX : ∀ k, sdX b bw g ad k → ¬ X k) : SK B w' b bw g ad cp S s l d c n lo a last :=
  ⟨h.blk.frP hf (hX b (Or.inl rfl)), h.wk.frP hf (hX bw (Or.inr (Or.inl rfl))) (hX g (Or.inr (Or.inr (Or.inl rfl)))), h.ks.frP hf (fun k hk => hX k (Or.inr (Or.inr (Or.inr hk)))), h.ge, h.le⟩
/-- a sender's blocks are of four types, behind B -/
theorem SK.types (h : SK B w b bw g ad cp S s l d c n lo a last) {k : Nat} (hk : sdX b bw g ad k) : B ≤ k ∧ k < w.heap.size ∧ ∃ T cs, Blk w k T cs ∧ (T = 152 ∨ T = 192 ∨ T = 189 ∨ T = 205) := by
  obtain ⟨g1, g2, g3, g4⟩ := h.wk.ge
  obtain ⟨⟨c1, k1⟩, ⟨c2, k2⟩⟩ := h.wk.blks
  rcases hk with rfl | rfl | rfl | hk
  · exact ⟨h.ge, h.blk.lt, _, _, h.blk, Or.inl rfl⟩
  · exact ⟨g1, g3, _, _, k1, Or.inr (Or.inl rfl)⟩
  · exact ⟨g2, g4, _, _, k2, Or.inr (Or.inr (Or.inl rfl))⟩
  · obtain ⟨hB, cs, hb⟩ := h.ks.blk hk
    exact ⟨hB, hb.lt, _, _, hb, Or.inr (Or.inr (Or.inr rfl))⟩
theorem SK.ne (h : SK B w b bw g ad cp S s l d c n lo a last) : b ≠ bw ∧ b ≠ g ∧ bw ≠ g ∧ (∀ k, ad.map (·.block) = some k → k ≠ b ∧ k ≠ bw ∧ k ≠ g) := by
  obtain ⟨⟨c1, k1⟩, ⟨c2, k2⟩⟩ := h.wk.blks
  refine ⟨h.blk.ne_ k1 (by decide), h.blk.ne_ k2 (by decide), k1.ne_ k2 (by decide), fun k hk => ?_⟩
  obtain ⟨_, cs, hb⟩ := h.ks.blk hk
  exact ⟨hb.ne_ h.blk (by decide), hb.ne_ k1 (by decide), hb.ne_ k2 (by decide)⟩
theorem SK.cells (h : SK B w b bw g ad cp S s l d c n lo a last) (hS : S.length = 32) : w.cell? ⟨b, 68, none⟩ = some (.pointer (some ⟨bw, 0, none⟩)) ∧ w.cell? ⟨b, 69, none⟩ = some (.slice ad (a - lo) cp) ∧ w.cell? ⟨b, 70, none⟩ = some (.int .i64 last) ∧ b < w.heap.size :=
  ⟨h.blk.atL (sdL_end hS (chK_length S n) 0), h.blk.atL (sdL_end hS (chK_length S n) 1), h.blk.atL (sdL_end hS (chK_length S n) 2), h.blk.lt⟩
theorem SK.ldSeed (h : SK B w b bw g ad cp S s l d c n lo a last) (hS : S.length = 32) : (Instr.loadAt 27 (.pointer (some ⟨b, 0, none⟩))).run Tryz.prog w = .ok (.agg (cellsU8 S).toArray) w :=
  ld_row (P := Tryz.prog) b 0 32 27 (cellsU8 S) _ Tryz.underlying27 rfl info_key (key_cells S hS) (fun j v hv => h.blk.atL (by rw [Nat.zero_add]; exact sdL_seed j v hv))
theorem SK.ldPlan (h : SK B w b bw g ad cp S s l d c n lo a last) (hS : S.length = 32) : (Instr.loadAt 29 (.pointer (some ⟨b, 32, none⟩))).run Tryz.prog w = .ok (.agg (planL s l d c).toArray) w :=
  ld_row (P := Tryz.prog) b 32 4 29 (planL s l d c) _ Tryz.underlying29 rfl info_plan rfl (fun j v hv => h.blk.atL (sdL_plan hS j v hv))
theorem SK.ldKnown (h : SK B w b bw g ad cp S s l d c n lo a last) (hS : S.length = 32) : (Instr.loadAt 27 (.pointer (some ⟨b, 36, none⟩))).run Tryz.prog w = .ok (.agg (cellsU8 (chK S n)).toArray) w :=
  ld_row (P := Tryz.prog) b 36 32 27 (cellsU8 (chK S n)) _ Tryz.underlying27 rfl info_key (key_cells _ (chK_length S n)) (fun j v hv => h.blk.atL (sdL_known hS j v hv))
end
end Go.Proofs.YtmblknknbbdmeaaGreat
/- sender: tagged, Tag, Right. -/
namespace Go.Proofs.YtmblknknbbdmeaaGreat
open Go Go.RowKit
set_option linter.unusedVariables false
set_option linter.unusedSimpArgs false
attribute [local go_sem] bmax2 bmin2 bmax bmin cell_ext frozen_ext

theorem str_tagT (i : Int) (t : ByteArray) : str (putL (i % 18446744073709551616).toNat 4) ++ t = str (tagT i t) := by
  unfold tagT
  rw [← str_append, str_bs]
theorem bs_tagT (i : Int) (t : ByteArray) : bs (str (tagT i t)) = tagT i t := rfl
theorem tagT_size (i : Int) (t : ByteArray) : (str (tagT i t)).size = 4 + t.size := by
  rw [str_size]; unfold tagT; rw [List.length_append, length_putL, size_bs]
set_option maxHeartbeats 1000000 in
theorem S_tagged (i : Int) (t : ByteArray) (ht : t.size ≤ 1099511000) (w : World) :
    Calls Tryz.prog 107 #[.int .i64 i, .string t] w fun e w' => e = .returned (.string (str (tagT i t))) ∧ Below w.heap.size w w' := by
  obtain ⟨N, hN⟩ : ∃ N : Nat, i % 18446744073709551616 = (N : Int) := ⟨(i % 18446744073709551616).toNat, by omega⟩
  have hN2 : N < U64 := by unfold U64; omega
  have hs := kp (str_tagT i t)
  rw [hN, Int.toNat_natCast] at hs
  have c1 := kp (fun w' => octet_Put_mid N 4 w' hN2 (by decide) 4 (by decide))
  have hw : IntKind.u64.wrap i = (N : Int) := by rw [wrapU, hN]
  have hz : (str (putL N 4)).size ≤ 4 := by rw [str_size, length_putL]; omega
  generalize str (putL N 4) = A at *
  generalize str (tagT i t) = R at *
  clear hN hN2
  go_enter Tryz.func107, Tryz.ntmps107
  go_wp2_with fail
  refine (c1.out _).mono ?_
  rintro e w1 ⟨rfl, hb1⟩
  have HB := kp hb1
  clear hb1
  go_wp2
  go_ret
  exact ⟨by rw [← hs.out]; rfl, HB.out⟩
set_option maxHeartbeats 1000000 in
set_option maxRecDepth 100000 in
theorem S_Tag (K : List UInt8) (i : Int) (t : ByteArray) (hK : K.length = 32) (ht : t.size ≤ 1099511000) (w : World) :
    Calls Tryz.prog 75 #[.agg (cellsU8 K).toArray, .int .i64 i, .string t] w fun e w' => e = .returned (.string (str (tagD K i t))) ∧ Below w.heap.size w w' := by
  have c1 := kp (fun w' => Tagger_any K hK w')
  have c2 := kp (fun w' => S_tagged i t ht w')
  have hel := macD_length K tagS
  have c3 := kp (fun w' => Short_any (str (macD K tagS)) (str (tagT i t)) 16 16 (by decide) (by rw [str_size]; omega) (by rw [tagT_size]; omega) w')
  rw [bs_str, bs_tagT] at c3
  unfold tagD
  generalize macD K tagS = E at *
  generalize tagT i t = TT at *
  have hcl := key_cells _ hel
  have HEL := kp hel
  have HB := kp (ba (Below.refl w.heap.size w) (.cells (cellsU8 K).toArray 27))
  have LD := ldK K hK (Blk.new w 27 (cellsU8 K).toArray)
  clear hel ht
  go_enter Tryz.func75, Tryz.ntmps75
  go_wp2_with (refine wpL_load rfl 27 _ rfl rfl LD ?_)
  clear LD
  refine (c1.out _).mono ?_
  rintro e w1 ⟨rfl, hb1⟩
  have SC := fun (cur : Array Value) (h : cur.size = 32) => sc_new (P := Tryz.prog) w1 27 (cellsU8 E) (cellsU8_one _) cur (by rw [hcl]; exact h)
  have K3 := kp (Blk.new w1 27 (cellsU8 E).toArray)
  have HB3 := kp (ba (bt' HB.out hb1 HB.out.size) (.cells (cellsU8 E).toArray 27))
  clear hb1 HB
  go_upto_region 2 with (fail)
  clear SC
  generalize w1.alloc (.cells (cellsU8 E).toArray 27) = W3 at K3 HB3 ⊢
  generalize w1.heap.size = b3 at K3 ⊢
  have hcv := fun x => blk_str (P := Tryz.prog) 93 (e := 5) (dst := 9) (n := 32) (cap := 32) Tryz.underlying93 Tryz.underlying5 Tryz.underlying9 (K3.out.bel (ext_below W3 x)) HEL.out
  refine wp_region_ext [0, 1, 2, 3, 4, 5] [6] (by kernel_rfl) (by kernel_rfl) ?_
  simp only [List.map_cons, List.map_nil, List.getD_cons_succ, List.getD_cons_zero]
  repeat (first
    | go_big_quiet_step (first | (go_at_call 107; with_reducible exact Calls.ext_of (c2.out _)) | (go_at_call 91; with_reducible exact Calls.ext_of (c3.out _))))
  refine wpQuiet_nil ?_
  rintro z
  have HB4 := kp (bt' HB3.out (ext_below W3 z) HB3.out.size)
  clear hcv
  generalize W3.ext z = V at HB4 ⊢
  go_wp2
  go_ret
  exact ⟨rfl, HB4.out⟩
set_option maxHeartbeats 1000000 in
set_option maxRecDepth 100000 in
theorem S_Right (K : List UInt8) (iv : Int) (t g : ByteArray) (tl : Int) (K2 : List UInt8) (hK : K.length = 32) (hK2 : K2.length = 32) (ht : t.size ≤ 1099511000) (hg : g.size ≤ 1099511000) (w : World) :
    Calls Tryz.prog 98 #[.agg (cellsU8 K).toArray, .agg (pkL iv t g tl K2).toArray] w fun e w' => e = .returned (.bool (decide (g = str (tagD K iv t)))) ∧ Below w.heap.size w w' := by
  have c1 := kp (fun w' => S_Tag K iv t hK ht w')
  have htl := tagD_length K iv t
  have c2 := kp (fun w' => octet_Same_any (str (tagD K iv t)) g w' (by rw [str_size, htl]; omega) (by omega))
  have hv : ((str (tagD K iv t)).toList == g.toList) = decide (g = str (tagD K iv t)) := by
    rw [toList_beq]
    exact decide_eq_decide.2 eq_comm
  rw [hv] at c2
  have HP := kp ((Blk.new (w.alloc (.cells (cellsU8 K).toArray 27)) 40 (pkL iv t g tl K2).toArray))
  have HK := kp ((Blk.new w 27 (cellsU8 K).toArray).alloc (.cells (pkL iv t g tl K2).toArray 40))
  have HB := kp (ba (ba (Below.refl w.heap.size w) (.cells (cellsU8 K).toArray 27)) (.cells (pkL iv t g tl K2).toArray 40))
  have P0 : Kp ((pkL iv t g tl K2)[0]? = some (.int .i64 iv)) := kp rfl
  have P1 : Kp ((pkL iv t g tl K2)[1]? = some (.string t)) := kp rfl
  have P2 : Kp ((pkL iv t g tl K2)[2]? = some (.string g)) := kp rfl
  rw [size_all] at HP
  have HKL := kp hK
  generalize pkL iv t g tl K2 = X at *
  generalize decide (g = str (tagD K iv t)) = r at *
  generalize str (tagD K iv t) = TG at *
  clear hv htl hK hK2 ht hg
  go_enter Tryz.func98, Tryz.ntmps98
  go_upto_region 1 with (fail)
  change Code.wp _ _ _ _ ((w.alloc (.cells (cellsU8 K).toArray 27)).alloc (.cells X.toArray 40))
  generalize (w.alloc (.cells (cellsU8 K).toArray 27)).alloc (.cells X.toArray 40) = W at HP HK HB ⊢
  have LK := kp (fun x => ldK K HKL.out (HK.out.bel (ext_below W x)))
  have x0 := HP.out.atL P0.out
  have x1 := HP.out.atL P1.out
  have x2 := HP.out.atL P2.out
  have k1 := HP.out.lt
  refine wp_region_ext [0, 1, 2, 3, 4, 5, 6, 7, 8] [9] (by kernel_rfl) (by kernel_rfl) ?_
  simp only [List.map_cons, List.map_nil, List.getD_cons_succ, List.getD_cons_zero]
  repeat (first
    | (go_big_quiet_want; refine quiet_load _ rfl 27 _ rfl rfl (fun w hw => by obtain ⟨x, rfl⟩ := hw; exact LK.out x) ?_; go_simp; go_big_quiet_on)
    | go_big_quiet_step (first | (go_at_call 75; with_reducible exact Calls.ext_of (c1.out _)) | (go_at_call 127; with_reducible exact Calls.ext_drew (c2.out _))))
  refine wpQuiet_nil ?_
  rintro z
  have HB4 := kp (bt' HB.out (ext_below W z) HB.out.size)
  clear x0 x1 x2 k1
  generalize W.ext z = V at HB4 ⊢
  go_wp2
  go_ret
  exact ⟨rfl, HB4.out⟩
end Go.Proofs.YtmblknknbbdmeaaGreat
/- receiver: its memory. -/
namespace Go.Proofs.YtmblknknbbdmeaaGreat
open Go Go.RowKit Go.Maps
set_option linter.unusedVariables false
set_option linter.unusedSimpArgs false

/-- a set of texts that tells how many they are -/
def Drs (w : World) (b n : Nat) (L : List (List UInt8)) : Prop := L.Nodup ∧ ∃ D : DataW Unit, w.ownsMap Tryz.prog 9 (plainElem Tryz.prog 4) b n D ∧ (∀ k : List UInt8, D.atKey (.string k) (.lit (.bool false)) = .lit (.bool (decide (k ∈ L)))) ∧ ∀ k : List UInt8, has D (.string k) = decide (k ∈ L)
section
variable {w w' : World} {b n : Nat} {L : List (List UInt8)}
theorem Drs.drw (h : Drs w b n L) : Drw w b n L := by
  obtain ⟨h0, D, h1, h2, h3⟩ := h
  exact ⟨D, h1, h2⟩
theorem Drs.lt (h : Drs w b n L) : b < w.heap.size := h.drw.lt
theorem Drs.made (w : World) : Drs (w.alloc (.map #[] 0)) w.heap.size 0 [] := ⟨by simp, .map [], World.ownsMap_made w _ _ _, fun k => by simp [DataW.atKey], fun k => by simp [has]⟩
theorem Drs.kept {row : Option Nat} (h : Drs w b n L) (hg : w.grownBy w' row) (hne : some b ≠ row) : Drs w' b n L := by
  obtain ⟨h0, D, h1, h2⟩ := h
  exact ⟨h0, D, h1.kept hg hne, h2⟩
theorem Drs.bel (h : Drs w b n L) (hb : Below w.heap.size w w') : Drs w' b n L := h.kept (row := none) ⟨hb.os, hb.tape, hb.output, hb.size, fun k hk _ => hb.block k hk⟩ (by simp)
theorem Drs.put (h : Drs w b n L) (k : ByteArray) (hk : k.size ≤ maxLen) (hn : n < maxLen) (hL : bs k ∉ L) : ∃ w', (Instr.mapUpdate 79 (.map (some b)) (.string k) (.bool true)).run Tryz.prog w = .ok () w' ∧ Drs w' b (n + 1) (L ++ [bs k]) ∧ w.grownBy w' (some b) := by
  obtain ⟨h0, D, h1, h2, h3⟩ := h
  obtain ⟨w', hr, ho, hg⟩ := h1.update (t := 79) (e := 4) (key := .string k) (val := .bool true) (kl := .string k.data.toList) (d := .lit (.bool true)) (ps := []) (Maps.string_keyed Tryz.underlying9) Tryz.underlying79 hn (WideMaps.keyOf_string_mk Tryz.underlying9 hk) (plainElem_bool Tryz.underlying4 true)
  refine ⟨w', hr, ⟨List.nodup_append.2 ⟨h0, by simp, fun a ha c hc e => by rw [List.mem_singleton] at hc; exact hL (by rw [← hc, ← e]; exact ha)⟩, _, ho, fun j => ?_, fun j => ?_⟩, hg⟩
  · by_cases hj : j = bs k
    · subst hj
      rw [show k.data.toList = bs k from rfl, Maps.atKey_put_same h1.isMap (by trivial)]
      simp
    · rw [show k.data.toList = bs k from rfl, Maps.atKey_put_other (by intro e; injection e with e; exact hj e), h2 j]
      simp [hj]
  · by_cases hj : j = bs k
    · subst hj
      rw [show k.data.toList = bs k from rfl, Maps.has_put_same h1.isMap (by trivial)]
      simp
    · rw [show k.data.toList = bs k from rfl, Maps.has_put_other (by intro e; injection e with e; exact hj e), h3 j]
      simp [hj]
theorem Drs.len (h : Drs w b n L) (ty : TypeId) : (Builtin.len_ #[79] ty #[.map (some b)]).run Tryz.prog w = .ok (.int .i64 (L.length : Int)) w := by
  obtain ⟨h0, D, h1, h2, h3⟩ := h
  have hc : Collected D (fun _ => false) L := ⟨h0, fun x => by rw [h3 x]; simp⟩
  have hp := hc.perm h1 (Maps.string_keyed Tryz.underlying9) Tryz.underlying9 (fun _ => rfl)
  rw [h1.len Tryz.underlying79 ty]
  obtain ⟨es, rfl⟩ := h1.isMap
  have := hp.length_eq
  simp only [strKeys, List.length_map] at this
  rw [show Maps.size (.map es : DataW Unit) = es.length from rfl, this]
end
/-- elements of the map of believed sets -/
def mpR : Value → Option (DataW Unit × List MemPlace)
  | .map (some g) => some (.agg [.lit (.int .u64 (g : Int))], [])
  | .map none => some (.nil, [])
  | _ => none
theorem mpR_some {v : Value} {x : DataW Unit} {ps : List MemPlace} (h : mpR v = some (x, ps)) : (∃ g : Nat, v = .map (some g) ∧ x = .agg [.lit (.int .u64 (g : Int))]) ∨ (v = .map none ∧ x = .nil) := by
  unfold mpR at h
  split at h
  · injection h with h
    injection h with h1 h2
    exact Or.inl ⟨_, rfl, h1.symm⟩
  · injection h with h
    injection h with h1 h2
    exact Or.inr ⟨rfl, h1.symm⟩
  · cases h
def BL : EK Nat where
  t := 136
  e := 79
  R := mpR
  z := .map none
  zd := .nil
  enc := fun g => .agg [.lit (.int .u64 (g : Int))]
  val := fun g => .map (some g)
  ht := Tryz.underlying136
  hz := fun w => by kernel_rfl
  hzd := rfl
  hR := fun x => rfl
  inv := fun v x ps h => by
    rcases mpR_some h with ⟨g, rfl, e⟩ | ⟨_, e⟩
    · simp only [DataW.agg.injEq, List.cons.injEq, DataW.lit.injEq, Lit.int.injEq, Int.ofNat_inj, true_and, and_true] at e
      rw [e]
    · simp at e
  invz := fun v ps h => by
    rcases mpR_some h with ⟨g, rfl, e⟩ | ⟨rfl, _⟩
    · simp at e
    · rfl
/-- a receiver, plainly -/
structure Rc where
  s : Int
  l : Int
  d : Int
  c : Int
  K : List UInt8
  a : Int
  most : Int
  B : Bf
  bl : Int → List (List UInt8)
  wr : Int
/-- .. and where it lies -/
structure Rm where
  rb : Nat
  bb : Nat
  gm : Nat
  n : Nat
  F : List (Int × (Nat × Nat))
  gb : Nat
  m : Nat
  G : List (Int × Nat)
def rcE (most : Int) (bb gb : Nat) (wr : Int) : List Value := [.int .i64 most, .pointer (some ⟨bb, 0, none⟩), .map (some gb), .int .i64 wr]
def rcL (R : Rc) (bb gb : Nat) : List Value := planL R.s R.l R.d R.c ++ (mindL R.K R.a ++ rcE R.most bb gb R.wr)
/-- a receiver's blocks -/
def Rm.X (M : Rm) (k : Nat) : Prop := k = M.rb ∨ k = M.bb ∨ k = M.gm ∨ k = M.gb ∨ (∃ i c g, fnd M.F i = some (c, g) ∧ (k = c ∨ k = g)) ∨ ∃ i g, fnd M.G i = some g ∧ k = g
structure RV (w : World) (M : Rm) (R : Rc) : Prop where
  blk : Blk w M.rb 138 (rcL R M.bb M.gb).toArray
  key : R.K.length = 32
  bf : BF w M.bb M.gm M.n M.F R.B
  im : IM BL w M.gb M.m M.G
  sets : ∀ i, (fnd M.G i = none ∧ R.bl i = []) ∨ ∃ g k, fnd M.G i = some g ∧ k ≤ (R.bl i).length ∧ Drs w g k (R.bl i)
  inj : ∀ i j g, fnd M.G i = some g → fnd M.G j = some g → i = j
  gbm : M.gb ≠ M.gm
  gF : ∀ i c g, fnd M.F i = some (c, g) → g ≠ M.gb
  gG : ∀ i g, fnd M.G i = some g → g ≠ M.gb ∧ g ≠ M.gm ∧ ∀ j c g', fnd M.F j = some (c, g') → g' ≠ g
/-- from w to w' nothing has turned but the receiver's blocks; they are M' now -/
structure Rs (w w' : World) (M M' : Rm) : Prop where
  fr : FrP M.X w w'
  rb : M'.rb = M.rb
  own : ∀ k, M'.X k → M.X k ∨ w.heap.size ≤ k
section
variable {w w' w2 : World} {M M' M2 : Rm} {R R' : Rc}
theorem Rs.of_bel (h : Below w.heap.size w w') : Rs w w' M M := ⟨FrP.of_bel h, rfl, fun k h => Or.inl h⟩
theorem Rs.trans (h : Rs w w' M M') (h2 : Rs w' w2 M' M2) : Rs w w2 M M2 := ⟨h.fr.trans h2.fr h.own, h2.rb.trans h.rb, fun k hk => by
  rcases h2.own k hk with h3 | h3
  · exact h.own k h3
  · exact Or.inr (Nat.le_trans h.fr.size h3)⟩
theorem mapO {w : World} {b : Nat} {P : Program} {k : TypeId} {Rd : Value → Option (DataW Unit × List MemPlace)} {n : Nat} {D : DataW Unit} (h : w.ownsMap P k Rd b n D) : ∃ es cl, w.heap[b]? = some (.map es cl) := by
  obtain ⟨es, cl, hb, _⟩ := h
  exact ⟨es, cl, hb⟩
theorem IM.mapO {α : Type} {E : EK α} {g n : Nat} {F : List (Int × α)} (h : IM E w g n F) : ∃ es cl, w.heap[g]? = some (.map es cl) := by
  obtain ⟨D, h1, _⟩ := h.own
  exact Go.Proofs.YtmblknknbbdmeaaGreat.mapO h1
theorem Drw.mapO {b n : Nat} {L : List (List UInt8)} (h : Drw w b n L) : ∃ es cl, w.heap[b]? = some (.map es cl) := by
  obtain ⟨D, h1, _⟩ := h
  exact Go.Proofs.YtmblknknbbdmeaaGreat.mapO h1
/-- what a receiver's blocks are -/
theorem RV.what (h : RV w M R) {k : Nat} (hk : M.X k) : k < w.heap.size ∧ ((∃ cs, Blk w k 138 cs) ∨ (∃ cs, Blk w k 178 cs) ∨ (∃ es cl, w.heap[k]? = some (.map es cl)) ∨ ∃ a b c d e f, w.heap[k]? = some (.chan a b c d e f)) := by
  have hm : ∀ {k : Nat}, (∃ es cl, w.heap[k]? = some (.map es cl)) → k < w.heap.size ∧ ((∃ cs, Blk w k 138 cs) ∨ (∃ cs, Blk w k 178 cs) ∨ (∃ es cl, w.heap[k]? = some (.map es cl)) ∨ ∃ a b c d e f, w.heap[k]? = some (.chan a b c d e f)) := by
    rintro k ⟨es, cl, hk⟩
    exact ⟨(Array.getElem?_eq_some_iff.1 hk).1, Or.inr (Or.inr (Or.inl ⟨es, cl, hk⟩))⟩
  rcases hk with rfl | rfl | rfl | rfl | ⟨i, c, g, hf, hk⟩ | ⟨i, g, hf, rfl⟩
  · exact ⟨h.blk.lt, Or.inl ⟨_, h.blk⟩⟩
  · exact ⟨h.bf.blk.lt, Or.inr (Or.inl ⟨_, h.bf.blk⟩)⟩
  · exact hm h.bf.im.mapO
  · exact hm h.im.mapO
  · obtain ⟨ts, s, r, m, k1, k2, k3, k4⟩ := h.bf.slot i c g hf
    rcases hk with rfl | rfl
    · exact ⟨(Array.getElem?_eq_some_iff.1 k2).1, Or.inr (Or.inr (Or.inr ⟨_, _, _, _, _, _, k2⟩))⟩
    · exact hm k4.mapO
  · rcases h.sets i with ⟨h1, _⟩ | ⟨g', k, h1, _, h2⟩
    · rw [h1] at hf; cases hf
    · rw [h1] at hf; injection hf with hf; subst hf
      exact hm h2.drw.mapO
theorem RV.lt (h : RV w M R) {k : Nat} (hk : M.X k) : k < w.heap.size := (h.what hk).1
/-- a block of cells of another type is none of its -/
theorem RV.notX (h : RV w M R) {k : Nat} {T : TypeId} {cs : Array Value} (hk : Blk w k T cs) (h1 : T ≠ 138) (h2 : T ≠ 178) : ¬ M.X k := by
  intro hx
  rcases (h.what hx).2 with ⟨cs', h3⟩ | ⟨cs', h3⟩ | ⟨es, cl, h3⟩ | ⟨_, _, _, _, _, _, h3⟩
  · exact h1 (by unfold Blk at hk h3; rw [hk] at h3; injection h3 with h3; injection h3)
  · exact h2 (by unfold Blk at hk h3; rw [hk] at h3; injection h3 with h3; injection h3)
  · unfold Blk at hk; rw [hk] at h3; cases h3
  · unfold Blk at hk; rw [hk] at h3; cases h3
theorem RV.bel (h : RV w M R) (hb : Below w.heap.size w w') : RV w' M R := ⟨h.blk.bel hb, h.key, h.bf.bel hb, h.im.bel hb, fun i => by
  rcases h.sets i with h1 | ⟨g, k, h1, h3, h4⟩
  · exact Or.inl h1
  · exact Or.inr ⟨g, k, h1, h3, h4.bel hb⟩, h.inj, h.gbm, h.gF, h.gG⟩
end
end Go.Proofs.YtmblknknbbdmeaaGreat
/- receiver: how its memory turns. -/
namespace Go.Proofs.YtmblknknbbdmeaaGreat
open Go Go.RowKit Go.Maps
set_option linter.unusedVariables false
set_option linter.unusedSimpArgs false
theorem BF.mapO_ne {w : World} {bb gm n : Nat} {F : List (Int × (Nat × Nat))} {B : Bf} (h : BF w bb gm n F B) {k : Nat} {es : Array MapEntry} {cl : Nat} (hk : w.heap[k]? = some (.map es cl)) : k ≠ bb ∧ ∀ i c g, fnd F i = some (c, g) → k ≠ c := by
  refine ⟨?_, fun i c g hf => ?_⟩
  · rintro rfl
    have := h.blk
    unfold Blk at this
    rw [hk] at this
    cases this
  · obtain ⟨ts, s, r, m, k1, k2, k3, k4⟩ := h.slot i c g hf
    rintro rfl
    rw [hk] at k2
    cases k2
section
variable {w w' w2 : World} {M M' M2 : Rm} {R R' : Rc}
/-- what turns a block of the buffer alone, or none of the receiver's, leaves the rest -/
theorem RV.keep_im (h : RV w M R) {row : Option Nat} (hg : w.grownBy w' row) (h1 : some M.gb ≠ row) : IM BL w' M.gb M.m M.G := h.im.kept hg h1
theorem bfr_fr {X : Nat → Prop} {bb gm : Nat} {F : List (Int × (Nat × Nat))} (h : BFr bb gm F w w') (h1 : X bb) (h2 : X gm) (h3 : ∀ i c g, fnd F i = some (c, g) → X c ∧ X g) : FrP X w w' := ⟨h.os, h.tape, h.output, h.size, fun k hk hX => h.block k hk (fun e => hX (e ▸ h1)) (fun e => hX (e ▸ h2)) (fun i c g hf => ⟨fun e => hX (e ▸ (h3 i c g hf).1), fun e => hX (e ▸ (h3 i c g hf).2)⟩)⟩
theorem IM.frP {α : Type} {E : EK α} {g n : Nat} {F : List (Int × α)} {X : Nat → Prop} (h : IM E w g n F) (hf : FrP X w w') (hX : ¬ X g) : IM E w' g n F := by
  obtain ⟨D, h1, h2⟩ := h.own
  obtain ⟨es, cl, hb, h3⟩ := h1
  exact ⟨⟨D, ⟨es, cl, (hf.block g h.lt hX).trans hb, h3⟩, h2⟩, h.nodup⟩
theorem Drs.frP {g n : Nat} {L : List (List UInt8)} {X : Nat → Prop} (h : Drs w g n L) (hf : FrP X w w') (hX : ¬ X g) : Drs w' g n L := by
  have hl := h.lt
  obtain ⟨h0, D, h1, h2⟩ := h
  obtain ⟨es, cl, hb, h3⟩ := h1
  exact ⟨h0, D, ⟨es, cl, (hf.block g hl hX).trans hb, h3⟩, h2⟩
/-- an act of the buffer -/
theorem RV.buf (h : RV w M R) {n' : Nat} {F' : List (Int × (Nat × Nat))} {B' : Bf} (hb : BF w' M.bb M.gm n' F' B') (hr : BFr M.bb M.gm M.F w w') (hF : ∀ i c g, fnd F' i = some (c, g) → fnd M.F i = some (c, g) ∨ (w.heap.size ≤ c ∧ w.heap.size ≤ g)) :
    RV w' { M with n := n', F := F' } { R with B := B' } ∧ Rs w w' M { M with n := n', F := F' } := by
  have hX : FrP (fun k => k = M.bb ∨ k = M.gm ∨ ∃ i c g, fnd M.F i = some (c, g) ∧ (k = c ∨ k = g)) w w' := bfr_fr hr (Or.inl rfl) (Or.inr (Or.inl rfl)) (fun i c g hf => ⟨Or.inr (Or.inr ⟨i, c, g, hf, Or.inl rfl⟩), Or.inr (Or.inr ⟨i, c, g, hf, Or.inr rfl⟩)⟩)
  have hmap : ∀ {k : Nat} {es : Array MapEntry} {cl : Nat}, w.heap[k]? = some (.map es cl) → k ≠ M.gm → (∀ i c g, fnd M.F i = some (c, g) → k ≠ g) → ¬ (k = M.bb ∨ k = M.gm ∨ ∃ i c g, fnd M.F i = some (c, g) ∧ (k = c ∨ k = g)) := by
    rintro k es cl hk h1 h2 (h3 | h3 | ⟨i, c, g, hf, h3 | h3⟩)
    · exact (h.bf.mapO_ne hk).1 h3
    · exact h1 h3
    · exact (h.bf.mapO_ne hk).2 i c g hf h3
    · exact h2 i c g hf h3
  refine ⟨⟨h.blk.frP hX ?_, h.key, hb, h.im.frP hX ?_, fun i => ?_, h.inj, h.gbm, fun i c g hf => ?_, fun i g hg => ⟨(h.gG i g hg).1, (h.gG i g hg).2.1, fun j c g' hf => ?_⟩⟩, ⟨?_, rfl, ?_⟩⟩
  · rintro (h3 | h3 | ⟨i, c, g, hf, h3⟩)
    · exact h.blk.ne_ h.bf.blk (by decide) h3
    · exact h.bf.gm_ne h.blk h3
    · have := h.bf.chan_ne hf h.blk
      rcases h3 with h3 | h3
      · exact this.1 h3
      · exact this.2 h3
  · obtain ⟨es, cl, hk⟩ := h.im.mapO
    exact hmap hk h.gbm (fun i c g hf e => h.gF i c g hf e.symm)
  · rcases h.sets i with h1 | ⟨g, k, h1, h3, h4⟩
    · exact Or.inl h1
    · obtain ⟨es, cl, hk⟩ := h4.drw.mapO
      have q := h.gG i g h1
      exact Or.inr ⟨g, k, h1, h3, h4.frP hX (hmap hk q.2.1 (fun j c g' hf e => q.2.2 j c g' hf e.symm))⟩
  · rcases hF i c g hf with h1 | h1
    · exact h.gF i c g h1
    · have := h.im.lt
      show g ≠ M.gb
      omega
  · rcases hF j c g' hf with h1 | h1
    · exact (h.gG i g hg).2.2 j c g' h1
    · rcases h.sets i with ⟨h5, _⟩ | ⟨g2, k, h5, h3, h4⟩
      · rw [h5] at hg; cases hg
      · rw [h5] at hg; injection hg with hg; subst hg
        have := h4.lt
        omega
  · refine ⟨hX.os, hX.tape, hX.output, hX.size, fun k hk hn => hX.block k hk ?_⟩
    rintro (h3 | h3 | h3)
    · exact hn (Or.inr (Or.inl h3))
    · exact hn (Or.inr (Or.inr (Or.inl h3)))
    · exact hn (Or.inr (Or.inr (Or.inr (Or.inr (Or.inl h3)))))
  · rintro k (h3 | h3 | h3 | h3 | ⟨i, c, g, hf, h3⟩ | h3)
    · exact Or.inl (Or.inl h3)
    · exact Or.inl (Or.inr (Or.inl h3))
    · exact Or.inl (Or.inr (Or.inr (Or.inl h3)))
    · exact Or.inl (Or.inr (Or.inr (Or.inr (Or.inl h3))))
    · rcases hF i c g hf with h1 | h1
      · exact Or.inl (Or.inr (Or.inr (Or.inr (Or.inr (Or.inl ⟨i, c, g, h1, h3⟩)))))
      · right; rcases h3 with rfl | rfl
        · exact h1.1
        · exact h1.2
    · exact Or.inl (Or.inr (Or.inr (Or.inr (Or.inr (Or.inr h3)))))
/-- the receiver's own block anew -/
theorem RV.own (h : RV w M R) {R' : Rc} (hk : R'.K.length = 32) (h1 : R'.B = R.B) (h2 : R'.bl = R.bl) (hb : Blk w' M.rb 138 (rcL R' M.bb M.gb).toArray) (hg : w.grownBy w' (some M.rb)) : RV w' M R' ∧ Rs w w' M M := by
  have hm : ∀ {k : Nat}, (∃ es cl, w.heap[k]? = some (.map es cl)) → some k ≠ some M.rb := by
    rintro k ⟨es, cl, hk⟩ e
    injection e with e; subst e
    have := h.blk; unfold Blk at this; rw [hk] at this; cases this
  refine ⟨⟨hb, hk, ?_, h.im.kept hg (hm h.im.mapO), fun i => ?_, h.inj, h.gbm, h.gF, h.gG⟩, ⟨FrP.of_grown hg (fun k hk => by injection hk with hk; exact Or.inl hk.symm), rfl, fun k hk => Or.inl hk⟩⟩
  · rw [h1]
    exact h.bf.keepB h.blk (by decide) hg
  · rw [h2]
    rcases h.sets i with h1 | ⟨g, k, h1, h3, h4⟩
    · exact Or.inl h1
    · exact Or.inr ⟨g, k, h1, h3, h4.kept hg (hm h4.drw.mapO)⟩
/-- an empty set for an interval that has none -/
theorem RV.fresh (h : RV w M R) {i : Int} {g m' : Nat} (hf : fnd M.G i = none) {w1 w' : World} (hb : Below w.heap.size w w1) (hd : Drs w1 g 0 []) (hge : w.heap.size ≤ g) (hi : IM BL w' M.gb m' ((i, g) :: del M.G i)) (hg : w1.grownBy w' (some M.gb)) :
    RV w' { M with m := m', G := (i, g) :: del M.G i } R ∧ Rs w w' M { M with m := m', G := (i, g) :: del M.G i } := by
  rw [del_none hf] at hi ⊢
  have h0 := h.bel hb
  have hbl : R.bl i = [] := by
    rcases h.sets i with h1 | ⟨g, k, h1, _⟩
    · exact h1.2
    · rw [hf] at h1; cases h1
  have hgl := h.im.lt
  have hfr : FrP M.X w w' := (FrP.of_bel hb).trans (FrP.of_grown (X := M.X) hg (fun k hk => by injection hk with hk; exact Or.inr (Or.inr (Or.inr (Or.inl hk.symm))))) (fun k hk => Or.inl hk)
  obtain ⟨es, cl, hmo⟩ := h0.im.mapO
  have hG : ∀ {j : Int} {g' : Nat}, fnd ((i, g) :: M.G) j = some g' → (j = i ∧ g' = g) ∨ (j ≠ i ∧ fnd M.G j = some g') := by
    intro j g' hj
    by_cases e : j = i
    · subst e; rw [fnd_cons_same] at hj; injection hj with hj; exact Or.inl ⟨rfl, hj.symm⟩
    · rw [fnd_cons_other e] at hj; exact Or.inr ⟨e, hj⟩
  have hold : ∀ {j : Int} {g' : Nat}, fnd M.G j = some g' → g' < w.heap.size := fun {j g'} hj => h.lt (Or.inr (Or.inr (Or.inr (Or.inr (Or.inr ⟨j, g', hj, rfl⟩)))))
  refine ⟨⟨?_, h.key, ?_, hi, fun j => ?_, fun j j' g' k1 k2 => ?_, h.gbm, h.gF, fun j g' hj => ?_⟩, ⟨hfr, rfl, ?_⟩⟩
  · exact h0.blk.grown hg (by intro e; injection e with e; have := h0.blk; unfold Blk at this; rw [e, hmo] at this; cases this)
  · refine h0.bf.keep hg (h0.bf.mapO_ne hmo).1 h.gbm (fun j c g' hj => ⟨(h0.bf.mapO_ne hmo).2 j c g' hj, fun e => h.gF j c g' hj e.symm⟩)
  · by_cases e : j = i
    · subst e
      refine Or.inr ⟨g, 0, fnd_cons_same _ _, by omega, ?_⟩
      rw [hbl]
      exact hd.kept hg (by intro e; injection e with e; omega)
    · show (fnd ((i, g) :: M.G) j = none ∧ _) ∨ ∃ g' k, fnd ((i, g) :: M.G) j = some g' ∧ _
      rw [fnd_cons_other e]
      rcases h0.sets j with h1 | ⟨g', k, h1, h3, h4⟩
      · exact Or.inl h1
      · exact Or.inr ⟨g', k, h1, h3, h4.kept hg (by intro e; injection e with e; exact (h.gG j g' h1).1 e)⟩
  · rcases hG k1 with ⟨e1, e2⟩ | ⟨e1, e2⟩ <;> rcases hG k2 with ⟨e3, e4⟩ | ⟨e3, e4⟩
    · rw [e1, e3]
    · have := hold e4; omega
    · have := hold e2; omega
    · exact h.inj j j' g' e2 e4
  · rcases hG hj with ⟨e1, e2⟩ | ⟨e1, e2⟩
    · subst e2
      refine ⟨?_, ?_, fun j' c g2 hf2 => ?_⟩
      · show g' ≠ M.gb; omega
      · have := h.bf.im.lt; show g' ≠ M.gm; omega
      · have := h.lt (k := g2) (Or.inr (Or.inr (Or.inr (Or.inr (Or.inl ⟨j', c, g2, hf2, Or.inr rfl⟩)))))
        omega
    · exact h.gG j g' e2
  · rintro k (h3 | h3 | h3 | h3 | h3 | ⟨j, g', hj, h3⟩)
    · exact Or.inl (Or.inl h3)
    · exact Or.inl (Or.inr (Or.inl h3))
    · exact Or.inl (Or.inr (Or.inr (Or.inl h3)))
    · exact Or.inl (Or.inr (Or.inr (Or.inr (Or.inl h3))))
    · exact Or.inl (Or.inr (Or.inr (Or.inr (Or.inr (Or.inl h3)))))
    · rcases hG hj with ⟨e1, e2⟩ | ⟨e1, e2⟩
      · right; omega
      · exact Or.inl (Or.inr (Or.inr (Or.inr (Or.inr (Or.inr ⟨j, g', e2, h3⟩)))))
/-- a text more in an interval's set -/
def addL (f : Int → List (List UInt8)) (i : Int) (t : List UInt8) : Int → List (List UInt8) := fun j => if j = i then f j ++ [t] else f j
theorem RV.add (h : RV w M R) {i : Int} {g k : Nat} {t : List UInt8} (hf : fnd M.G i = some g) (hk : k ≤ (R.bl i).length + 1) (hd : Drs w' g k (R.bl i ++ [t])) (hg : w.grownBy w' (some g)) : RV w' M { R with bl := addL R.bl i t } ∧ Rs w w' M M := by
  have q := h.gG i g hf
  obtain ⟨es, cl, hmo⟩ : ∃ es cl, w.heap[g]? = some (.map es cl) := by
    rcases h.sets i with ⟨h1, _⟩ | ⟨g', k, h1, h3, h4⟩
    · rw [h1] at hf; cases hf
    · rw [h1] at hf; injection hf with hf; subst hf; exact h4.drw.mapO
  refine ⟨⟨?_, h.key, ?_, h.im.kept hg (by intro e; injection e with e; exact q.1 e.symm), fun j => ?_, h.inj, h.gbm, h.gF, h.gG⟩, ⟨FrP.of_grown hg (fun k hk => by injection hk with hk; exact Or.inr (Or.inr (Or.inr (Or.inr (Or.inr ⟨i, g, hf, hk.symm⟩))))), rfl, fun k hk => Or.inl hk⟩⟩
  · exact h.blk.grown hg (by intro e; injection e with e; have := h.blk; unfold Blk at this; rw [e, hmo] at this; cases this)
  · exact h.bf.keep hg (h.bf.mapO_ne hmo).1 q.2.1 (fun j c g' hj => ⟨(h.bf.mapO_ne hmo).2 j c g' hj, fun e => q.2.2 j c g' hj e.symm⟩)
  · by_cases e : j = i
    · subst e
      exact Or.inr ⟨g, k, hf, by simpa [addL] using hk, by simpa [addL] using hd⟩
    · show (_ ∧ addL R.bl i t j = []) ∨ ∃ g' k, _ ∧ k ≤ (addL R.bl i t j).length ∧ Drs w' g' k (addL R.bl i t j)
      rw [show addL R.bl i t j = R.bl j from if_neg e]
      rcases h.sets j with h1 | ⟨g', k, h1, h3, h4⟩
      · exact Or.inl h1
      · exact Or.inr ⟨g', k, h1, h3, h4.kept hg (by intro e2; injection e2 with e2; subst e2; exact e (h.inj j i g' h1 hf))⟩
end
end Go.Proofs.YtmblknknbbdmeaaGreat
/- receiver: At, Waits, Counts, Believed. -/
namespace Go.Proofs.YtmblknknbbdmeaaGreat
open Go Go.RowKit Go.Maps
set_option linter.unusedVariables false
set_option linter.unusedSimpArgs false
attribute [local go_sem] bmax2 bmin2 bmax bmin cell_ext frozen_ext

theorem rcL_length (R : Rc) (bb gb : Nat) (hK : R.K.length = 32) : (rcL R bb gb).length = 41 := by simp [rcL, rcE, planL, mindL, length_cellsU8, hK]
theorem rcL_plan (R : Rc) (bb gb : Nat) (j : Nat) (v : Value) (hv : (planL R.s R.l R.d R.c)[j]? = some v) : (rcL R bb gb)[j]? = some v := by
  unfold rcL
  rw [List.getElem?_append_left (by have := (List.getElem?_eq_some_iff.1 hv).1; omega)]
  exact hv
theorem rcL_mind (R : Rc) (bb gb : Nat) (hK : R.K.length = 32) (j : Nat) (v : Value) (hv : (mindL R.K R.a)[j]? = some v) : (rcL R bb gb)[4 + j]? = some v := by
  unfold rcL
  rw [List.getElem?_append_right (by rw [planL_length]; omega), planL_length, show 4 + j - 4 = j by omega, List.getElem?_append_left (by have := (List.getElem?_eq_some_iff.1 hv).1; omega)]
  exact hv
theorem rcL_end (R : Rc) (bb gb : Nat) (hK : R.K.length = 32) (j : Nat) : (rcL R bb gb)[37 + j]? = (rcE R.most bb gb R.wr)[j]? := by
  unfold rcL
  rw [List.getElem?_append_right (by rw [planL_length]; omega), planL_length, List.getElem?_append_right (by rw [mindL_length _ _ hK]; omega), mindL_length _ _ hK, show 37 + j - 4 - 33 = j by omega]
theorem rcL_one (R : Rc) (bb gb : Nat) : ∀ v ∈ rcL R bb gb, v.oneCell' = true := by
  intro v hv
  unfold rcL at hv
  rcases List.mem_append.1 hv with h | h
  · exact planL_one _ _ _ _ v h
  · rcases List.mem_append.1 h with h | h
    · exact mindL_one _ _ v h
    · simp only [rcE, List.mem_cons, List.not_mem_nil, or_false] at h
      rcases h with rfl | rfl | rfl | rfl <;> rfl
section
variable {w w' : World} {M : Rm} {R : Rc}
theorem RV.cells (h : RV w M R) : w.cell? ⟨M.rb, 36, none⟩ = some (.int .i64 R.a) ∧ w.cell? ⟨M.rb, 37, none⟩ = some (.int .i64 R.most) ∧ w.cell? ⟨M.rb, 38, none⟩ = some (.pointer (some ⟨M.bb, 0, none⟩)) ∧ w.cell? ⟨M.rb, 39, none⟩ = some (.map (some M.gb)) ∧ w.cell? ⟨M.rb, 40, none⟩ = some (.int .i64 R.wr) ∧ w.cell? ⟨M.rb, 3, none⟩ = some (.int .i64 R.c) ∧ M.rb < w.heap.size :=
  ⟨h.blk.atL (rcL_mind R _ _ h.key 32 _ (mindL_at _ _ h.key)), h.blk.atL (rcL_end R _ _ h.key 0), h.blk.atL (rcL_end R _ _ h.key 1), h.blk.atL (rcL_end R _ _ h.key 2), h.blk.atL (rcL_end R _ _ h.key 3), h.blk.atL (rcL_plan R _ _ 3 _ rfl), h.blk.lt⟩
theorem RV.ldPlan (h : RV w M R) : (Instr.loadAt 29 (.pointer (some ⟨M.rb, 0, none⟩))).run Tryz.prog w = .ok (.agg (planL R.s R.l R.d R.c).toArray) w :=
  ld_row M.rb 0 4 _ _ _ Tryz.underlying29 rfl info_plan rfl (fun j v hv => by rw [Nat.zero_add]; exact h.blk.atL (rcL_plan R _ _ j v hv))
theorem RV.ldMind (h : RV w M R) : (Instr.loadAt 135 (.pointer (some ⟨M.rb, 4, none⟩))).run Tryz.prog w = .ok (.agg (mindL R.K R.a).toArray) w :=
  ld_row M.rb 4 33 _ _ _ Tryz.underlying135 rfl info_mind (mindL_length _ _ h.key) (fun j v hv => h.blk.atL (rcL_mind R _ _ h.key j v hv))
/-- a look-up among the believed sets -/
theorem RV.lookB (h : RV w M R) (i : Int) (hi : (kI i).wf = true) : ∃ v, (Instr.lookup 136 (.map (some M.gb)) (.int .i64 i) false).run Tryz.prog w = .ok v w ∧ ((v = .map none ∧ R.bl i = [] ∧ fnd M.G i = none) ∨ ∃ g k, v = .map (some g) ∧ fnd M.G i = some g ∧ k ≤ (R.bl i).length ∧ Drs w g k (R.bl i)) := by
  refine ⟨_, h.im.look1 i hi, ?_⟩
  rcases h.sets i with ⟨h1, h2⟩ | ⟨g, k, h1, h3, h4⟩
  · left; rw [h1]; exact ⟨rfl, h2, rfl⟩
  · right; rw [h1]; exact ⟨g, k, rfl, rfl, h3, h4⟩
theorem RV.lenB (h : RV w M R) (i : Int) {v : Value} (hv : (v = .map none ∧ R.bl i = [] ∧ fnd M.G i = none) ∨ ∃ g k, v = .map (some g) ∧ fnd M.G i = some g ∧ k ≤ (R.bl i).length ∧ Drs w g k (R.bl i)) (ty : TypeId) : (Builtin.len_ #[79] ty #[v]).run Tryz.prog w = .ok (.int .i64 ((R.bl i).length : Int)) w := by
  rcases hv with ⟨rfl, h2, _⟩ | ⟨g, k, rfl, h1, h3, h4⟩
  · rw [h2]
    have hu := Tryz.underlying79
    simp [Builtin.len_, Sem.run_bind, run_underlying hu, Sem.run_pure]
    rfl
  · exact h4.len ty
end
theorem R_At (w : World) (M : Rm) (R : Rc) (H : RV w M R) : Calls Tryz.prog 33 #[.pointer (some ⟨M.rb, 0, none⟩)] w fun e w' => e = .returned (.int .i64 R.a) ∧ w' = w := by
  obtain ⟨x1, x2, x3, x4, x5, x6, kl⟩ := H.cells
  clear H
  generalize M.rb = rb at *
  generalize R.a = z at *
  go_enter Tryz.func33, Tryz.ntmps33
  go_wp2
  go_ret
  exact ⟨rfl, rfl⟩
theorem R_Waits (w : World) (M : Rm) (R : Rc) (H : RV w M R) : Calls Tryz.prog 34 #[.pointer (some ⟨M.rb, 0, none⟩)] w fun e w' => e = .returned (.int .i64 R.B.sz) ∧ w' = w := by
  obtain ⟨x1, x2, x3, x4, x5, x6, kl⟩ := H.cells
  have cS := kp (U_Size M.bb M.gm M.n M.F R.B w H.bf)
  clear H
  generalize M.rb = rb at *
  generalize M.bb = bb at *
  generalize R.B.sz = z at *
  go_enter Tryz.func34, Tryz.ntmps34
  go_wp2_with (first | (go_at_call 71; refine cS.out.mono ?_; rintro e w' ⟨rfl, rfl⟩))
  go_ret
  exact ⟨rfl, rfl⟩
theorem R_Believed (i : Int) (hi : (kI i).wf = true) (w : World) (M : Rm) (R : Rc) (H : RV w M R) : Calls Tryz.prog 35 #[.pointer (some ⟨M.rb, 0, none⟩), .int .i64 i] w fun e w' => e = .returned (.int .i64 ((R.bl i).length : Int)) ∧ w' = w := by
  obtain ⟨x1, x2, x3, x4, x5, x6, kl⟩ := H.cells
  obtain ⟨v, hlk, hv⟩ := H.lookB i hi
  have hl := fun ty => H.lenB i hv ty
  clear H hv
  generalize M.rb = rb at *
  generalize M.gb = gb at *
  generalize (R.bl i).length = z at *
  go_enter Tryz.func35, Tryz.ntmps35
  go_wp2
  go_ret
  exact ⟨rfl, rfl⟩
set_option maxHeartbeats 1000000 in
theorem R_Counts (w : World) (M : Rm) (R : Rc) (H : RV w M R) : Calls Tryz.prog 43 #[.pointer (some ⟨M.rb, 0, none⟩)] w fun e w' => e = .returned (.tuple #[.int .i64 R.wr, .int .i64 R.B.dr]) ∧ Below w.heap.size w w' := by
  have HX : Kp (∀ x, Calls Tryz.prog 81 #[.pointer (some ⟨M.bb, 0, none⟩)] (w.ext x) fun e w' => e = .returned (.int .i64 R.B.dr) ∧ Below (w.ext x).heap.size (w.ext x) w') := kp (fun x => (U_Dropped M.bb M.gm M.n M.F R.B (w.ext x) (H.bf.bel (ext_below w x))).mono (fun e w' ⟨he, hw⟩ => ⟨he, hw ▸ Below.refl _ _⟩))
  obtain ⟨x1, x2, x3, x4, x5, x6, kl⟩ := H.cells
  clear H
  generalize M.rb = rb at *
  generalize M.bb = bb at *
  generalize R.B.dr = z at *
  generalize R.wr = y at *
  go_enter Tryz.func43, Tryz.ntmps43
  go_upto_region 1 with (fail)
  refine wp_region_ext [0, 1, 2, 3, 4, 5, 6, 7, 8, 9] [10] (by kernel_rfl) (by kernel_rfl) ?_
  simp only [List.map_cons, List.map_nil, List.getD_cons_succ, List.getD_cons_zero]
  repeat go_big_quiet_step (first | (go_at_call 81; with_reducible exact Calls.ext_of (HX.out _)))
  refine wpQuiet_nil ?_
  rintro v
  have HB := ext_below w v
  generalize w.ext v = V at HB ⊢
  go_wp2
  go_ret2
  exact ⟨rfl, HB⟩
end Go.Proofs.YtmblknknbbdmeaaGreat
/- chain: what the document fixes. -/
namespace Go.Proofs.YtmblknknbbdmeaaGreat
open Go Go.RowKit
set_option linter.unusedVariables false
set_option linter.unusedSimpArgs false
attribute [local go_sem] bmax2 bmin2 bmax bmin cell_ext frozen_ext

def oneK : List UInt8 := 1 :: List.replicate 31 0
theorem oneK_length : oneK.length = 32 := rfl
theorem one_far : walkD (chK oneK 6) 2 ≠ chK oneK 6 := by decide +kernel
theorem learnV_yes (K k P : List UInt8) (i : Int) (h : P = K) : learnV K k P i = .tuple #[.agg (mindL k i).toArray, .int .i64 0] := if_pos h
--AWAKE
set_option maxRecDepth 100000 in
theorem build_mind0 (K : List UInt8) (h : K.length = 32) (W : World) : (Instr.build 135 #[(0, .agg (cellsU8 K).toArray)]).run Tryz.prog W = .ok (.agg (mindL K 0).toArray) W := by
  obtain ⟨f, rfl⟩ := list32 K h
  exact run_build W 135 _ _ (by kernel_rfl)

end Go.Proofs.YtmblknknbbdmeaaGreat
/- receiver: New. -/
namespace Go.Proofs.YtmblknknbbdmeaaGreat
open Go Go.RowKit Go.Maps
set_option linter.unusedVariables false
set_option linter.unusedSimpArgs false
attribute [local go_sem] bmax2 bmin2 bmax bmin cell_ext frozen_ext

/-- a new receiver -/
def newRc (K : List UInt8) (s l d c most : Int) (each slots : Nat) : Rc := ⟨s, l, d, c, K, 0, most, ⟨each, slots, [], 0, 0⟩, fun _ => [], 0⟩
set_option maxRecDepth 100000 in
theorem build_rc (K : List UInt8) (s l d c most : Int) (bb gb : Nat) (hK : K.length = 32) (each slots : Nat) (W : World) :
    (Instr.build 138 #[(0, .agg (planL s l d c).toArray), (1, .agg (mindL K 0).toArray), (2, .int .i64 most), (3, .pointer (some ⟨bb, 0, none⟩)), (4, .map (some gb))]).run Tryz.prog W = .ok (.agg (rcL (newRc K s l d c most each slots) bb gb).toArray) W := by
  obtain ⟨f, rfl⟩ := list32 K hK
  exact run_build W 138 _ _ (by kernel_rfl)
def RNewEnd (w : World) (R : Rc) (e : Ending) (w' : World) : Prop := ∃ M : Rm, e = .returned (.tuple #[.pointer (some ⟨M.rb, 0, none⟩), .int .i64 0]) ∧ RV w' M R ∧ Below w.heap.size w w' ∧ (∀ k, M.X k → w.heap.size ≤ k) ∧ M.m = 0
set_option maxHeartbeats 2000000 in
set_option maxRecDepth 100000 in
theorem R_New_good (K : List UInt8) (s l d c most : Int) (each slots : Nat) (hK : K.length = 32) (hm : mayP s l d c = true) (h1 : 1 ≤ most) (h2 : most ≤ 64) (h3 : 1 ≤ each ∧ each ≤ 64) (h4 : 1 ≤ slots ∧ slots ≤ 64) (w : World) :
    Calls Tryz.prog 29 #[.agg (cellsU8 K).toArray, .agg (planL s l d c).toArray, .int .i64 most, .int .i64 each, .int .i64 slots] w (RNewEnd w (newRc K s l d c most each slots)) := by
  have cM := kp (fun w' => P_May s l d c w')
  rw [hm] at cM
  have cN := kp (fun w' => U_New_ok each slots h3 h4 w')
  have HK := kp ((Blk.new w 27 (cellsU8 K).toArray).alloc (.cells (planL s l d c).toArray 29))
  have HP := kp (Blk.new (w.alloc (.cells (cellsU8 K).toArray 27)) 29 (planL s l d c).toArray)
  have HB := kp (ba (ba (Below.refl w.heap.size w) (.cells (cellsU8 K).toArray 27)) (.cells (planL s l d c).toArray 29))
  rw [size_all] at HP
  have hPl := planL_length s l d c
  have HKL := kp hK
  have HBM := kp (fun W => build_mind0 K hK W)
  have HBU := kp (fun (bb gb : Nat) (W : World) => build_rc K s l d c most bb gb hK each slots W)
  obtain ⟨R, hR⟩ : ∃ R, newRc K s l d c most each slots = R := ⟨_, rfl⟩
  have hR0 : Kp (R.K.length = 32 ∧ R.B = ⟨each, slots, [], 0, 0⟩ ∧ ∀ i, R.bl i = []) := kp (by subst hR; exact ⟨hK, rfl, fun i => rfl⟩)
  rw [hR] at HBU ⊢
  clear hR
  clear hm hK h3 h4
  have g1 : ¬ most < 1 := by omega
  have g2 : ¬ 64 < most := by omega
  clear h1 h2
  obtain ⟨X, hX⟩ : ∃ X, planL s l d c = X := ⟨_, rfl⟩
  rw [hX] at cM HK HP HB hPl HBU ⊢
  clear hX
  obtain ⟨Y, hY⟩ : ∃ Y, mindL K 0 = Y := ⟨_, rfl⟩
  rw [hY] at HBM HBU
  clear hY
  go_enter Tryz.func29, Tryz.ntmps29
  go_upto_region 1 with (fail)
  change Code.wp _ _ _ _ ((w.alloc (.cells (cellsU8 K).toArray 27)).alloc (.cells X.toArray 29))
  generalize (w.alloc (.cells (cellsU8 K).toArray 27)).alloc (.cells X.toArray 29) = W at HK HP HB ⊢
  go_wp2_with fail
  refine (cN.out W).mono ?_
  rintro e w1 ⟨rfl, hw1, hb1⟩
  have HK1 := kp (HK.out.bel hb1)
  have HP1 := kp (HP.out.bel hb1)
  have HB1 := kp (bt' HB.out hb1 HB.out.size)
  have HW1 := kp hw1
  have HF : Kp (w.heap.size ≤ W.heap.size) := kp HB.out.size
  have LP := ld_all (P := Tryz.prog) (w.heap.size + 1) 4 29 29 X _ Tryz.underlying29 rfl info_plan hPl HP1.out
  clear hb1 HK HP HB hw1
  generalize W.heap.size = gm at HW1 HF ⊢
  go_wp2_with (refine wpL_load rfl 29 _ rfl rfl LP ?_)
  refine (cM.out _).mono ?_
  rintro e w2 ⟨rfl, hb2⟩
  have HK2 := kp (HK1.out.bel hb2)
  have HP2 := kp (HP1.out.bel hb2)
  have HB2 := kp (bt' HB1.out hb2 HB1.out.size)
  have HW2 := kp (HW1.out.bel hb2)
  clear hb2 LP HK1 HP1 HB1 HW1
  go_upto_region 4 with (fail)
  have L1 := ld_all (P := Tryz.prog) (w.heap.size + 1) 4 29 29 X _ Tryz.underlying29 rfl info_plan hPl HP2.out
  have L2 := ldK K HKL.out HK2.out
  have hmm := @run_makeMap Tryz.prog
  have hbx := ba (ba (Below.refl w2.heap.size w2) (.map #[] 0)) (.cells (rcL R (gm + 1) w2.heap.size).toArray 138)
  have HEND : Kp (RNewEnd w R (.returned (.tuple #[.pointer (some ⟨w2.heap.size + 1, 0, none⟩), .int .i64 0])) ((w2.alloc (.map #[] 0)).alloc (.cells (rcL R (gm + 1) w2.heap.size).toArray 138))) := by
    obtain ⟨r1, r2, r3⟩ := hR0.out
    have hbl := HW2.out.blk.lt
    have hgl := HW2.out.im.lt
    have hs := HB2.out.size
    have hf := HF.out
    have HN := Blk.new (w2.alloc (.map #[] 0)) 138 (rcL R (gm + 1) w2.heap.size).toArray
    rw [size_all] at HN
    refine kp ⟨⟨w2.heap.size + 1, gm + 1, gm, 0, [], w2.heap.size, 0, []⟩, rfl, ⟨HN, r1, ?_, (IM.made BL w2).bel (ba (Below.refl _ _) _), fun i => Or.inl ⟨rfl, r3 i⟩, fun i j g h => by simp [fnd] at h, ?_, fun i c g h => by simp [fnd] at h, fun i g h => by simp [fnd] at h⟩, bt' HB2.out hbx HB2.out.size, ?_, rfl⟩
    · rw [r2]; exact HW2.out.bel hbx
    · show w2.heap.size ≠ gm
      omega
    · rintro k (h | h | h | h | ⟨i, c, g, h, _⟩ | ⟨i, g, h, _⟩)
      · rw [h]; show w.heap.size ≤ w2.heap.size + 1; omega
      · rw [h]; show w.heap.size ≤ gm + 1; omega
      · rw [h]; show w.heap.size ≤ gm; omega
      · rw [h]; show w.heap.size ≤ w2.heap.size; omega
      · simp [fnd] at h
      · simp [fnd] at h
  clear hbx HK2 HP2 HW2 HB2 HF
  go_wp2_with (first | (refine wpL_load rfl 29 _ rfl rfl L1 ?_) | (refine wpL_load rfl 27 _ rfl rfl L2 ?_) | (refine wpL_val 37 rfl rfl (.agg Y.toArray) (exec_build (parts := #[(0, .agg (cellsU8 K).toArray)]) rfl (by simp [Act.eval, Act.put]) (HBM.out _)) ?_) | (refine wpL_val 41 rfl rfl (.agg (rcL R (gm + 1) w2.heap.size).toArray) (exec_build (parts := #[(0, .agg X.toArray), (1, .agg Y.toArray), (2, .int .i64 most), (3, .pointer (some ⟨gm + 1, 0, none⟩)), (4, .map (some w2.heap.size))]) rfl (by simp [Act.eval, Act.put]) (HBU.out _ _ _)) ?_))
  go_ret2
  exact HEND.out
theorem U_New_any (each slots : Int) (w : World) : ∃ (v : Value) (x : Int), ((¬ (1 ≤ each ∧ each ≤ 64 ∧ 1 ≤ slots ∧ slots ≤ 64)) → x = 1) ∧ Calls Tryz.prog 64 #[.int .i64 each, .int .i64 slots] w fun e w' => e = .returned (.tuple #[v, .int .i64 x]) ∧ Below w.heap.size w w' := by
  by_cases h : 1 ≤ each ∧ each ≤ 64 ∧ 1 ≤ slots ∧ slots ≤ 64
  · obtain ⟨a, rfl⟩ : ∃ a : Nat, each = (a : Int) := ⟨each.toNat, by omega⟩
    obtain ⟨b, rfl⟩ : ∃ b : Nat, slots = (b : Int) := ⟨slots.toNat, by omega⟩
    exact ⟨_, 0, fun g => absurd h g, (U_New_ok a b (by omega) (by omega) w).mono fun e w' ⟨he, _, hb⟩ => ⟨he, hb⟩⟩
  · exact ⟨_, 1, fun _ => rfl, (U_New_bad each slots h w).mono fun e w' ⟨he, hw⟩ => ⟨he, hw ▸ Below.refl _ _⟩⟩
set_option maxHeartbeats 2000000 in
set_option maxRecDepth 100000 in
theorem R_New_b1 (K : List UInt8) (s l d c most each slots : Int) (hK : K.length = 32) (hm : mayP s l d c = false) (w : World) :
    Calls Tryz.prog 29 #[.agg (cellsU8 K).toArray, .agg (planL s l d c).toArray, .int .i64 most, .int .i64 each, .int .i64 slots] w fun e w' => e = .returned (.tuple #[.pointer none, .int .i64 1]) ∧ Below w.heap.size w w' := by
  have cM := kp (fun w' => P_May s l d c w')
  rw [hm] at cM
  clear hm
  have cN := kp (fun w' => U_New_any each slots w')
  have HK := kp ((Blk.new w 27 (cellsU8 K).toArray).alloc (.cells (planL s l d c).toArray 29))
  have HP := kp (Blk.new (w.alloc (.cells (cellsU8 K).toArray 27)) 29 (planL s l d c).toArray)
  have HB := kp (ba (ba (Below.refl w.heap.size w) (.cells (cellsU8 K).toArray 27)) (.cells (planL s l d c).toArray 29))
  rw [size_all] at HP
  have hPl := planL_length s l d c
  have HKL := kp hK
  clear hK
  obtain ⟨X, hX⟩ : ∃ X, planL s l d c = X := ⟨_, rfl⟩
  rw [hX] at cM HK HP HB hPl ⊢
  clear hX
  go_enter Tryz.func29, Tryz.ntmps29
  go_upto_region 1 with (fail)
  change Code.wp _ _ _ _ ((w.alloc (.cells (cellsU8 K).toArray 27)).alloc (.cells X.toArray 29))
  generalize (w.alloc (.cells (cellsU8 K).toArray 27)).alloc (.cells X.toArray 29) = W at HK HP HB ⊢
  obtain ⟨v, x, hx, cN'⟩ := cN.out W
  go_wp2_with fail
  refine cN'.mono ?_
  rintro e w1 ⟨rfl, hb1⟩
  have HP1 := kp (HP.out.bel hb1)
  have HB1 := kp (bt' HB.out hb1 HB.out.size)
  have LP := ld_all (P := Tryz.prog) (w.heap.size + 1) 4 29 29 X _ Tryz.underlying29 rfl info_plan hPl HP1.out
  clear hb1 HK HP HB
  go_wp2_with (refine wpL_load rfl 29 _ rfl rfl LP ?_)
  refine (cM.out _).mono ?_
  rintro e w2 ⟨rfl, hb2⟩
  have HB2 := kp (bt' HB1.out hb2 HB1.out.size)
  clear hb2 LP
  go_wp2
  go_ret2
  exact ⟨rfl, HB2.out⟩
set_option maxHeartbeats 2000000 in
set_option maxRecDepth 100000 in
theorem R_New_b2 (K : List UInt8) (s l d c most each slots : Int) (hK : K.length = 32) (hm : mayP s l d c = true) (hb : most < 1) (w : World) :
    Calls Tryz.prog 29 #[.agg (cellsU8 K).toArray, .agg (planL s l d c).toArray, .int .i64 most, .int .i64 each, .int .i64 slots] w fun e w' => e = .returned (.tuple #[.pointer none, .int .i64 1]) ∧ Below w.heap.size w w' := by
  have cM := kp (fun w' => P_May s l d c w')
  rw [hm] at cM
  clear hm
  have cN := kp (fun w' => U_New_any each slots w')
  have HK := kp ((Blk.new w 27 (cellsU8 K).toArray).alloc (.cells (planL s l d c).toArray 29))
  have HP := kp (Blk.new (w.alloc (.cells (cellsU8 K).toArray 27)) 29 (planL s l d c).toArray)
  have HB := kp (ba (ba (Below.refl w.heap.size w) (.cells (cellsU8 K).toArray 27)) (.cells (planL s l d c).toArray 29))
  rw [size_all] at HP
  have hPl := planL_length s l d c
  have HKL := kp hK
  clear hK
  obtain ⟨X, hX⟩ : ∃ X, planL s l d c = X := ⟨_, rfl⟩
  rw [hX] at cM HK HP HB hPl ⊢
  clear hX
  go_enter Tryz.func29, Tryz.ntmps29
  go_upto_region 1 with (fail)
  change Code.wp _ _ _ _ ((w.alloc (.cells (cellsU8 K).toArray 27)).alloc (.cells X.toArray 29))
  generalize (w.alloc (.cells (cellsU8 K).toArray 27)).alloc (.cells X.toArray 29) = W at HK HP HB ⊢
  obtain ⟨v, x, hx, cN'⟩ := cN.out W
  go_wp2_with fail
  refine cN'.mono ?_
  rintro e w1 ⟨rfl, hb1⟩
  have HP1 := kp (HP.out.bel hb1)
  have HB1 := kp (bt' HB.out hb1 HB.out.size)
  have LP := ld_all (P := Tryz.prog) (w.heap.size + 1) 4 29 29 X _ Tryz.underlying29 rfl info_plan hPl HP1.out
  clear hb1 HK HP HB
  go_wp2_with (refine wpL_load rfl 29 _ rfl rfl LP ?_)
  refine (cM.out _).mono ?_
  rintro e w2 ⟨rfl, hb2⟩
  have HB2 := kp (bt' HB1.out hb2 HB1.out.size)
  clear hb2 LP
  go_wp2
  go_ret2
  exact ⟨rfl, HB2.out⟩
set_option maxHeartbeats 2000000 in
set_option maxRecDepth 100000 in
theorem R_New_b3 (K : List UInt8) (s l d c most each slots : Int) (hK : K.length = 32) (hm : mayP s l d c = true) (hb0 : ¬ most < 1) (hb : 64 < most) (w : World) :
    Calls Tryz.prog 29 #[.agg (cellsU8 K).toArray, .agg (planL s l d c).toArray, .int .i64 most, .int .i64 each, .int .i64 slots] w fun e w' => e = .returned (.tuple #[.pointer none, .int .i64 1]) ∧ Below w.heap.size w w' := by
  have cM := kp (fun w' => P_May s l d c w')
  rw [hm] at cM
  clear hm
  have cN := kp (fun w' => U_New_any each slots w')
  have HK := kp ((Blk.new w 27 (cellsU8 K).toArray).alloc (.cells (planL s l d c).toArray 29))
  have HP := kp (Blk.new (w.alloc (.cells (cellsU8 K).toArray 27)) 29 (planL s l d c).toArray)
  have HB := kp (ba (ba (Below.refl w.heap.size w) (.cells (cellsU8 K).toArray 27)) (.cells (planL s l d c).toArray 29))
  rw [size_all] at HP
  have hPl := planL_length s l d c
  have HKL := kp hK
  clear hK
  obtain ⟨X, hX⟩ : ∃ X, planL s l d c = X := ⟨_, rfl⟩
  rw [hX] at cM HK HP HB hPl ⊢
  clear hX
  go_enter Tryz.func29, Tryz.ntmps29
  go_upto_region 1 with (fail)
  change Code.wp _ _ _ _ ((w.alloc (.cells (cellsU8 K).toArray 27)).alloc (.cells X.toArray 29))
  generalize (w.alloc (.cells (cellsU8 K).toArray 27)).alloc (.cells X.toArray 29) = W at HK HP HB ⊢
  obtain ⟨v, x, hx, cN'⟩ := cN.out W
  go_wp2_with fail
  refine cN'.mono ?_
  rintro e w1 ⟨rfl, hb1⟩
  have HP1 := kp (HP.out.bel hb1)
  have HB1 := kp (bt' HB.out hb1 HB.out.size)
  have LP := ld_all (P := Tryz.prog) (w.heap.size + 1) 4 29 29 X _ Tryz.underlying29 rfl info_plan hPl HP1.out
  clear hb1 HK HP HB
  go_wp2_with (refine wpL_load rfl 29 _ rfl rfl LP ?_)
  refine (cM.out _).mono ?_
  rintro e w2 ⟨rfl, hb2⟩
  have HB2 := kp (bt' HB1.out hb2 HB1.out.size)
  clear hb2 LP
  go_wp2
  go_ret2
  exact ⟨rfl, HB2.out⟩
set_option maxHeartbeats 2000000 in
set_option maxRecDepth 100000 in
theorem R_New_b4 (K : List UInt8) (s l d c most each slots : Int) (hK : K.length = 32) (hm : mayP s l d c = true) (hb0 : ¬ most < 1) (hb : ¬ 64 < most) (he : ¬ (1 ≤ each ∧ each ≤ 64 ∧ 1 ≤ slots ∧ slots ≤ 64)) (w : World) :
    Calls Tryz.prog 29 #[.agg (cellsU8 K).toArray, .agg (planL s l d c).toArray, .int .i64 most, .int .i64 each, .int .i64 slots] w fun e w' => e = .returned (.tuple #[.pointer none, .int .i64 1]) ∧ Below w.heap.size w w' := by
  have cM := kp (fun w' => P_May s l d c w')
  rw [hm] at cM
  clear hm
  have cN := kp (fun w' => U_New_any each slots w')
  have HK := kp ((Blk.new w 27 (cellsU8 K).toArray).alloc (.cells (planL s l d c).toArray 29))
  have HP := kp (Blk.new (w.alloc (.cells (cellsU8 K).toArray 27)) 29 (planL s l d c).toArray)
  have HB := kp (ba (ba (Below.refl w.heap.size w) (.cells (cellsU8 K).toArray 27)) (.cells (planL s l d c).toArray 29))
  rw [size_all] at HP
  have hPl := planL_length s l d c
  have HKL := kp hK
  clear hK
  obtain ⟨X, hX⟩ : ∃ X, planL s l d c = X := ⟨_, rfl⟩
  rw [hX] at cM HK HP HB hPl ⊢
  clear hX
  go_enter Tryz.func29, Tryz.ntmps29
  go_upto_region 1 with (fail)
  change Code.wp _ _ _ _ ((w.alloc (.cells (cellsU8 K).toArray 27)).alloc (.cells X.toArray 29))
  generalize (w.alloc (.cells (cellsU8 K).toArray 27)).alloc (.cells X.toArray 29) = W at HK HP HB ⊢
  obtain ⟨v, x, hx, cN'⟩ := cN.out W
  obtain rfl : 1 = x := (hx he).symm
  clear hx he
  go_wp2_with fail
  refine cN'.mono ?_
  rintro e w1 ⟨rfl, hb1⟩
  have HP1 := kp (HP.out.bel hb1)
  have HB1 := kp (bt' HB.out hb1 HB.out.size)
  have LP := ld_all (P := Tryz.prog) (w.heap.size + 1) 4 29 29 X _ Tryz.underlying29 rfl info_plan hPl HP1.out
  clear hb1 HK HP HB
  go_wp2_with (refine wpL_load rfl 29 _ rfl rfl LP ?_)
  refine (cM.out _).mono ?_
  rintro e w2 ⟨rfl, hb2⟩
  have HB2 := kp (bt' HB1.out hb2 HB1.out.size)
  clear hb2 LP
  go_wp2
  go_ret2
  exact ⟨rfl, HB2.out⟩
theorem R_New_bad (K : List UInt8) (s l d c most each slots : Int) (hK : K.length = 32) (h : ¬ (mayP s l d c = true ∧ 1 ≤ most ∧ most ≤ 64 ∧ 1 ≤ each ∧ each ≤ 64 ∧ 1 ≤ slots ∧ slots ≤ 64)) (w : World) :
    Calls Tryz.prog 29 #[.agg (cellsU8 K).toArray, .agg (planL s l d c).toArray, .int .i64 most, .int .i64 each, .int .i64 slots] w fun e w' => e = .returned (.tuple #[.pointer none, .int .i64 1]) ∧ Below w.heap.size w w' := by
  cases hm : mayP s l d c with
  | false => exact R_New_b1 K s l d c most each slots hK hm w
  | true =>
    rw [hm] at h
    by_cases h1 : most < 1
    · exact R_New_b2 K s l d c most each slots hK hm h1 w
    · by_cases h2 : 64 < most
      · exact R_New_b3 K s l d c most each slots hK hm h1 h2 w
      · exact R_New_b4 K s l d c most each slots hK hm h1 h2 (fun g => h ⟨rfl, by omega, by omega, g⟩) w
end Go.Proofs.YtmblknknbbdmeaaGreat
/- receiver: fits. Printed by genfits.py. -/
namespace Go.Proofs.YtmblknknbbdmeaaGreat
open Go Go.RowKit Go.Maps
set_option linter.unusedVariables false
set_option linter.unusedSimpArgs false
attribute [local go_sem] bmax2 bmin2 bmax bmin cell_ext frozen_ext

theorem ldPK {w : World} {b : Nat} {iv : Int} {t g : ByteArray} {tl : Int} {K : List UInt8} (h : Blk w b 40 (pkL iv t g tl K).toArray) (hK : K.length = 32) : (Instr.loadAt 27 (.pointer (some ⟨b, 4, none⟩))).run Tryz.prog w = .ok (.agg (cellsU8 K).toArray) w :=
  ld_row b 4 32 _ _ _ Tryz.underlying27 rfl (by kernel_rfl) (by rw [length_cellsU8, hK]) (fun j v hv => h.atL (by
    unfold pkL
    rw [List.getElem?_append_right (by simp)]
    simpa using hv))

set_option maxHeartbeats 8000000 in
set_option maxRecDepth 100000 in
theorem F_1 (w : World) (M : Rm) (R : Rc) (iv : Int) (t g : ByteArray) (tl : Int) (K : List UInt8) (hK : K.length = 32) (H : RV w M R) (hm : mayP R.s R.l R.d R.c = true) (h1 : ¬ 1 ≤ iv) :
    Calls Tryz.prog 65 #[.pointer (some ⟨M.rb, 0, none⟩), .agg (pkL iv t g tl K).toArray] w fun e w' => e = .returned (.bool false) ∧ Below w.heap.size w w' := by
  have cT := kp (fun w' => P_Tells R.s R.l R.d R.c iv hm w')
  have hb0 := ba (Below.refl w.heap.size w) (.cells (pkL iv t g tl K).toArray 40)
  have HB := kp hb0
  have HV := kp (H.bel hb0)
  have HP := kp (Blk.new w 40 (pkL iv t g tl K).toArray)
  have HKL := kp hK
  have hml := mayP_iff.1 hm
  clear hb0 H hm hK
  go_enter Tryz.func65, Tryz.ntmps65
  go_upto_region 1 with (fail)
  change Code.wp _ _ _ _ (w.alloc (.cells (pkL iv t g tl K).toArray 40))
  generalize w.alloc (.cells (pkL iv t g tl K).toArray 40) = W at HB HV HP ⊢
  generalize w.heap.size = pb at HP ⊢
  have LP := kp (fun x => (HV.out.bel (ext_below W x)).ldPlan)
  have LK := kp (fun x => ldPK (HP.out.bel (ext_below W x)) HKL.out)
  obtain ⟨_, _, _, _, _, x3, kl⟩ := HV.out.cells
  have p0 := HP.out.atL (show (pkL iv t g tl K)[0]? = some (.int .i64 iv) from rfl)
  have p1 := HP.out.atL (show (pkL iv t g tl K)[1]? = some (.string t) from rfl)
  have p2 := HP.out.atL (show (pkL iv t g tl K)[2]? = some (.string g) from rfl)
  have p3 := HP.out.atL (show (pkL iv t g tl K)[3]? = some (.int .i64 tl) from rfl)
  have kp_ := HP.out.lt
  clear HV HP
  generalize M.rb = rb at *
  generalize R.c = c at *
  obtain ⟨Z, hZ⟩ : ∃ Z, cellsU8 zeroK = Z := ⟨_, rfl⟩
  refine wp_region_ext [0, 1, 2, 3, 4, 5, 6, 7, 8, 9, 10, 11, 12, 13, 14, 15, 16, 17, 18, 19, 20, 21, 22, 23, 24, 25, 26, 27, 28, 29, 30, 31, 32, 33, 34, 35, 36, 37, 38, 39, 40, 41, 42, 43, 44, 45, 46, 47] [48] (by kernel_rfl) (by kernel_rfl) ?_
  simp only [List.map_cons, List.map_nil, List.getD_cons_succ, List.getD_cons_zero]
  repeat (first
    | (go_big_quiet_want; refine quiet_load _ rfl 29 _ rfl rfl (fun w hw => by obtain ⟨x, rfl⟩ := hw; exact LP.out x) ?_; go_simp; go_big_quiet_on)
    | (go_big_quiet_want; refine quiet_load _ rfl 27 _ rfl rfl (fun w hw => by obtain ⟨x, rfl⟩ := hw; exact LK.out x) ?_; go_simp; go_big_quiet_on)
    | (go_big_quiet_want; refine quiet_val 49 rfl (.agg Z.toArray) (fun w _ => by rw [← hZ]; kernel_rfl) ?_; go_simp; go_big_quiet_on)
    | go_big_quiet_step (first | (go_at_call 59; with_reducible exact Calls.ext_of (cT.out _))))
  refine wpQuiet_nil ?_
  rintro v
  have HB4 := kp (bt' HB.out (ext_below W v) HB.out.size)
  clear p0 p1 p2 p3 x3 kl kp_
  generalize W.ext v = V at HB4 ⊢
  go_wp2
  go_ret
  exact ⟨rfl, HB4.out⟩

set_option maxHeartbeats 8000000 in
set_option maxRecDepth 100000 in
theorem F_2 (w : World) (M : Rm) (R : Rc) (iv : Int) (t g : ByteArray) (tl : Int) (K : List UInt8) (hK : K.length = 32) (H : RV w M R) (hm : mayP R.s R.l R.d R.c = true) (h1 : 1 ≤ iv) (h2 : ¬ iv ≤ R.c) :
    Calls Tryz.prog 65 #[.pointer (some ⟨M.rb, 0, none⟩), .agg (pkL iv t g tl K).toArray] w fun e w' => e = .returned (.bool false) ∧ Below w.heap.size w w' := by
  have cT := kp (fun w' => P_Tells R.s R.l R.d R.c iv hm w')
  have hb0 := ba (Below.refl w.heap.size w) (.cells (pkL iv t g tl K).toArray 40)
  have HB := kp hb0
  have HV := kp (H.bel hb0)
  have HP := kp (Blk.new w 40 (pkL iv t g tl K).toArray)
  have HKL := kp hK
  have hml := mayP_iff.1 hm
  clear hb0 H hm hK
  go_enter Tryz.func65, Tryz.ntmps65
  go_upto_region 1 with (fail)
  change Code.wp _ _ _ _ (w.alloc (.cells (pkL iv t g tl K).toArray 40))
  generalize w.alloc (.cells (pkL iv t g tl K).toArray 40) = W at HB HV HP ⊢
  generalize w.heap.size = pb at HP ⊢
  have LP := kp (fun x => (HV.out.bel (ext_below W x)).ldPlan)
  have LK := kp (fun x => ldPK (HP.out.bel (ext_below W x)) HKL.out)
  obtain ⟨_, _, _, _, _, x3, kl⟩ := HV.out.cells
  have p0 := HP.out.atL (show (pkL iv t g tl K)[0]? = some (.int .i64 iv) from rfl)
  have p1 := HP.out.atL (show (pkL iv t g tl K)[1]? = some (.string t) from rfl)
  have p2 := HP.out.atL (show (pkL iv t g tl K)[2]? = some (.string g) from rfl)
  have p3 := HP.out.atL (show (pkL iv t g tl K)[3]? = some (.int .i64 tl) from rfl)
  have kp_ := HP.out.lt
  clear HV HP
  generalize M.rb = rb at *
  generalize R.c = c at *
  obtain ⟨Z, hZ⟩ : ∃ Z, cellsU8 zeroK = Z := ⟨_, rfl⟩
  refine wp_region_ext [0, 1, 2, 3, 4, 5, 6, 7, 8, 9, 10, 11, 12, 13, 14, 15, 16, 17, 18, 19, 20, 21, 22, 23, 24, 25, 26, 27, 28, 29, 30, 31, 32, 33, 34, 35, 36, 37, 38, 39, 40, 41, 42, 43, 44, 45, 46, 47] [48] (by kernel_rfl) (by kernel_rfl) ?_
  simp only [List.map_cons, List.map_nil, List.getD_cons_succ, List.getD_cons_zero]
  repeat (first
    | (go_big_quiet_want; refine quiet_load _ rfl 29 _ rfl rfl (fun w hw => by obtain ⟨x, rfl⟩ := hw; exact LP.out x) ?_; go_simp; go_big_quiet_on)
    | (go_big_quiet_want; refine quiet_load _ rfl 27 _ rfl rfl (fun w hw => by obtain ⟨x, rfl⟩ := hw; exact LK.out x) ?_; go_simp; go_big_quiet_on)
    | (go_big_quiet_want; refine quiet_val 49 rfl (.agg Z.toArray) (fun w _ => by rw [← hZ]; kernel_rfl) ?_; go_simp; go_big_quiet_on)
    | go_big_quiet_step (first | (go_at_call 59; with_reducible exact Calls.ext_of (cT.out _))))
  refine wpQuiet_nil ?_
  rintro v
  have HB4 := kp (bt' HB.out (ext_below W v) HB.out.size)
  clear p0 p1 p2 p3 x3 kl kp_
  generalize W.ext v = V at HB4 ⊢
  go_wp2
  go_ret
  exact ⟨rfl, HB4.out⟩

set_option maxHeartbeats 8000000 in
set_option maxRecDepth 100000 in
theorem F_3 (w : World) (M : Rm) (R : Rc) (iv : Int) (t g : ByteArray) (tl : Int) (K : List UInt8) (hK : K.length = 32) (H : RV w M R) (hm : mayP R.s R.l R.d R.c = true) (h1 : 1 ≤ iv) (h2 : iv ≤ R.c) (h3 : ¬ g.size = 16) :
    Calls Tryz.prog 65 #[.pointer (some ⟨M.rb, 0, none⟩), .agg (pkL iv t g tl K).toArray] w fun e w' => e = .returned (.bool false) ∧ Below w.heap.size w w' := by
  have cT := kp (fun w' => P_Tells R.s R.l R.d R.c iv hm w')
  have hb0 := ba (Below.refl w.heap.size w) (.cells (pkL iv t g tl K).toArray 40)
  have HB := kp hb0
  have HV := kp (H.bel hb0)
  have HP := kp (Blk.new w 40 (pkL iv t g tl K).toArray)
  have HKL := kp hK
  have hml := mayP_iff.1 hm
  clear hb0 H hm hK
  have e3 : ((g.size : Int) == 16) = false := by rw [beq_eq_false_iff_ne]; omega
  have e3' : decide ((g.size : Int) = 16) = false := decide_eq_false (by omega)
  clear h3
  go_enter Tryz.func65, Tryz.ntmps65
  go_upto_region 1 with (fail)
  change Code.wp _ _ _ _ (w.alloc (.cells (pkL iv t g tl K).toArray 40))
  generalize w.alloc (.cells (pkL iv t g tl K).toArray 40) = W at HB HV HP ⊢
  generalize w.heap.size = pb at HP ⊢
  have LP := kp (fun x => (HV.out.bel (ext_below W x)).ldPlan)
  have LK := kp (fun x => ldPK (HP.out.bel (ext_below W x)) HKL.out)
  obtain ⟨_, _, _, _, _, x3, kl⟩ := HV.out.cells
  have p0 := HP.out.atL (show (pkL iv t g tl K)[0]? = some (.int .i64 iv) from rfl)
  have p1 := HP.out.atL (show (pkL iv t g tl K)[1]? = some (.string t) from rfl)
  have p2 := HP.out.atL (show (pkL iv t g tl K)[2]? = some (.string g) from rfl)
  have p3 := HP.out.atL (show (pkL iv t g tl K)[3]? = some (.int .i64 tl) from rfl)
  have kp_ := HP.out.lt
  clear HV HP
  generalize M.rb = rb at *
  generalize R.c = c at *
  obtain ⟨Z, hZ⟩ : ∃ Z, cellsU8 zeroK = Z := ⟨_, rfl⟩
  refine wp_region_ext [0, 1, 2, 3, 4, 5, 6, 7, 8, 9, 10, 11, 12, 13, 14, 15, 16, 17, 18, 19, 20, 21, 22, 23, 24, 25, 26, 27, 28, 29, 30, 31, 32, 33, 34, 35, 36, 37, 38, 39, 40, 41, 42, 43, 44, 45, 46, 47] [48] (by kernel_rfl) (by kernel_rfl) ?_
  simp only [List.map_cons, List.map_nil, List.getD_cons_succ, List.getD_cons_zero]
  repeat (first
    | (go_big_quiet_want; refine quiet_load _ rfl 29 _ rfl rfl (fun w hw => by obtain ⟨x, rfl⟩ := hw; exact LP.out x) ?_; go_simp; go_big_quiet_on)
    | (go_big_quiet_want; refine quiet_load _ rfl 27 _ rfl rfl (fun w hw => by obtain ⟨x, rfl⟩ := hw; exact LK.out x) ?_; go_simp; go_big_quiet_on)
    | (go_big_quiet_want; refine quiet_val 49 rfl (.agg Z.toArray) (fun w _ => by rw [← hZ]; kernel_rfl) ?_; go_simp; go_big_quiet_on)
    | go_big_quiet_step (first | (go_at_call 59; with_reducible exact Calls.ext_of (cT.out _))))
  refine wpQuiet_nil ?_
  rintro v
  have HB4 := kp (bt' HB.out (ext_below W v) HB.out.size)
  clear p0 p1 p2 p3 x3 kl kp_
  generalize W.ext v = V at HB4 ⊢
  go_wp2
  go_ret
  exact ⟨rfl, HB4.out⟩

set_option maxHeartbeats 8000000 in
set_option maxRecDepth 100000 in
theorem F_4 (w : World) (M : Rm) (R : Rc) (iv : Int) (t g : ByteArray) (tl : Int) (K : List UInt8) (hK : K.length = 32) (H : RV w M R) (hm : mayP R.s R.l R.d R.c = true) (h1 : 1 ≤ iv) (h2 : iv ≤ R.c) (h3 : g.size = 16) (h4 : ¬ t.size ≤ 1000) :
    Calls Tryz.prog 65 #[.pointer (some ⟨M.rb, 0, none⟩), .agg (pkL iv t g tl K).toArray] w fun e w' => e = .returned (.bool false) ∧ Below w.heap.size w w' := by
  have cT := kp (fun w' => P_Tells R.s R.l R.d R.c iv hm w')
  have hb0 := ba (Below.refl w.heap.size w) (.cells (pkL iv t g tl K).toArray 40)
  have HB := kp hb0
  have HV := kp (H.bel hb0)
  have HP := kp (Blk.new w 40 (pkL iv t g tl K).toArray)
  have HKL := kp hK
  have hml := mayP_iff.1 hm
  clear hb0 H hm hK
  have e3 : (g.size : Int) = 16 := by omega
  clear h3
  have e4 : ¬ ((t.size : Int) ≤ 1000) := by omega
  clear h4
  go_enter Tryz.func65, Tryz.ntmps65
  go_upto_region 1 with (fail)
  change Code.wp _ _ _ _ (w.alloc (.cells (pkL iv t g tl K).toArray 40))
  generalize w.alloc (.cells (pkL iv t g tl K).toArray 40) = W at HB HV HP ⊢
  generalize w.heap.size = pb at HP ⊢
  have LP := kp (fun x => (HV.out.bel (ext_below W x)).ldPlan)
  have LK := kp (fun x => ldPK (HP.out.bel (ext_below W x)) HKL.out)
  obtain ⟨_, _, _, _, _, x3, kl⟩ := HV.out.cells
  have p0 := HP.out.atL (show (pkL iv t g tl K)[0]? = some (.int .i64 iv) from rfl)
  have p1 := HP.out.atL (show (pkL iv t g tl K)[1]? = some (.string t) from rfl)
  have p2 := HP.out.atL (show (pkL iv t g tl K)[2]? = some (.string g) from rfl)
  have p3 := HP.out.atL (show (pkL iv t g tl K)[3]? = some (.int .i64 tl) from rfl)
  have kp_ := HP.out.lt
  clear HV HP
  generalize M.rb = rb at *
  generalize R.c = c at *
  obtain ⟨Z, hZ⟩ : ∃ Z, cellsU8 zeroK = Z := ⟨_, rfl⟩
  refine wp_region_ext [0, 1, 2, 3, 4, 5, 6, 7, 8, 9, 10, 11, 12, 13, 14, 15, 16, 17, 18, 19, 20, 21, 22, 23, 24, 25, 26, 27, 28, 29, 30, 31, 32, 33, 34, 35, 36, 37, 38, 39, 40, 41, 42, 43, 44, 45, 46, 47] [48] (by kernel_rfl) (by kernel_rfl) ?_
  simp only [List.map_cons, List.map_nil, List.getD_cons_succ, List.getD_cons_zero]
  repeat (first
    | (go_big_quiet_want; refine quiet_load _ rfl 29 _ rfl rfl (fun w hw => by obtain ⟨x, rfl⟩ := hw; exact LP.out x) ?_; go_simp; go_big_quiet_on)
    | (go_big_quiet_want; refine quiet_load _ rfl 27 _ rfl rfl (fun w hw => by obtain ⟨x, rfl⟩ := hw; exact LK.out x) ?_; go_simp; go_big_quiet_on)
    | (go_big_quiet_want; refine quiet_val 49 rfl (.agg Z.toArray) (fun w _ => by rw [← hZ]; kernel_rfl) ?_; go_simp; go_big_quiet_on)
    | go_big_quiet_step (first | (go_at_call 59; with_reducible exact Calls.ext_of (cT.out _))))
  refine wpQuiet_nil ?_
  rintro v
  have HB4 := kp (bt' HB.out (ext_below W v) HB.out.size)
  clear p0 p1 p2 p3 x3 kl kp_
  generalize W.ext v = V at HB4 ⊢
  go_wp2
  go_ret
  exact ⟨rfl, HB4.out⟩

set_option maxHeartbeats 8000000 in
set_option maxRecDepth 100000 in
theorem F_5 (w : World) (M : Rm) (R : Rc) (iv : Int) (t g : ByteArray) (tl : Int) (K : List UInt8) (hK : K.length = 32) (H : RV w M R) (hm : mayP R.s R.l R.d R.c = true) (h1 : 1 ≤ iv) (h2 : iv ≤ R.c) (h3 : g.size = 16) (h4 : t.size ≤ 1000) (h5 : ¬ tl = tellsP R.d R.c iv) :
    Calls Tryz.prog 65 #[.pointer (some ⟨M.rb, 0, none⟩), .agg (pkL iv t g tl K).toArray] w fun e w' => e = .returned (.bool false) ∧ Below w.heap.size w w' := by
  have cT := kp (fun w' => P_Tells R.s R.l R.d R.c iv hm w')
  have hb0 := ba (Below.refl w.heap.size w) (.cells (pkL iv t g tl K).toArray 40)
  have HB := kp hb0
  have HV := kp (H.bel hb0)
  have HP := kp (Blk.new w 40 (pkL iv t g tl K).toArray)
  have HKL := kp hK
  have hml := mayP_iff.1 hm
  clear hb0 H hm hK
  have e3 : (g.size : Int) = 16 := by omega
  clear h3
  have e4 : (t.size : Int) ≤ 1000 := by omega
  clear h4
  have e5 : ∀ T, tellsP R.d R.c iv = T → (tl == T) = false ∧ decide (tl = T) = false := fun T hT => by rw [hT] at h5; exact ⟨by rw [beq_eq_false_iff_ne]; exact h5, decide_eq_false h5⟩
  obtain ⟨T, hT⟩ : ∃ T, tellsP R.d R.c iv = T := ⟨_, rfl⟩
  obtain ⟨e5, e5'⟩ := e5 T hT
  rw [hT] at cT
  clear hT h5
  go_enter Tryz.func65, Tryz.ntmps65
  go_upto_region 1 with (fail)
  change Code.wp _ _ _ _ (w.alloc (.cells (pkL iv t g tl K).toArray 40))
  generalize w.alloc (.cells (pkL iv t g tl K).toArray 40) = W at HB HV HP ⊢
  generalize w.heap.size = pb at HP ⊢
  have LP := kp (fun x => (HV.out.bel (ext_below W x)).ldPlan)
  have LK := kp (fun x => ldPK (HP.out.bel (ext_below W x)) HKL.out)
  obtain ⟨_, _, _, _, _, x3, kl⟩ := HV.out.cells
  have p0 := HP.out.atL (show (pkL iv t g tl K)[0]? = some (.int .i64 iv) from rfl)
  have p1 := HP.out.atL (show (pkL iv t g tl K)[1]? = some (.string t) from rfl)
  have p2 := HP.out.atL (show (pkL iv t g tl K)[2]? = some (.string g) from rfl)
  have p3 := HP.out.atL (show (pkL iv t g tl K)[3]? = some (.int .i64 tl) from rfl)
  have kp_ := HP.out.lt
  clear HV HP
  generalize M.rb = rb at *
  generalize R.c = c at *
  obtain ⟨Z, hZ⟩ : ∃ Z, cellsU8 zeroK = Z := ⟨_, rfl⟩
  refine wp_region_ext [0, 1, 2, 3, 4, 5, 6, 7, 8, 9, 10, 11, 12, 13, 14, 15, 16, 17, 18, 19, 20, 21, 22, 23, 24, 25, 26, 27, 28, 29, 30, 31, 32, 33, 34, 35, 36, 37, 38, 39, 40, 41, 42, 43, 44, 45, 46, 47] [48] (by kernel_rfl) (by kernel_rfl) ?_
  simp only [List.map_cons, List.map_nil, List.getD_cons_succ, List.getD_cons_zero]
  repeat (first
    | (go_big_quiet_want; refine quiet_load _ rfl 29 _ rfl rfl (fun w hw => by obtain ⟨x, rfl⟩ := hw; exact LP.out x) ?_; go_simp; go_big_quiet_on)
    | (go_big_quiet_want; refine quiet_load _ rfl 27 _ rfl rfl (fun w hw => by obtain ⟨x, rfl⟩ := hw; exact LK.out x) ?_; go_simp; go_big_quiet_on)
    | (go_big_quiet_want; refine quiet_val 49 rfl (.agg Z.toArray) (fun w _ => by rw [← hZ]; kernel_rfl) ?_; go_simp; go_big_quiet_on)
    | go_big_quiet_step (first | (go_at_call 59; with_reducible exact Calls.ext_of (cT.out _))))
  refine wpQuiet_nil ?_
  rintro v
  have HB4 := kp (bt' HB.out (ext_below W v) HB.out.size)
  clear p0 p1 p2 p3 x3 kl kp_
  generalize W.ext v = V at HB4 ⊢
  go_wp2
  go_ret
  exact ⟨rfl, HB4.out⟩

set_option maxHeartbeats 8000000 in
set_option maxRecDepth 100000 in
theorem F_6 (w : World) (M : Rm) (R : Rc) (iv : Int) (t g : ByteArray) (tl : Int) (K : List UInt8) (hK : K.length = 32) (H : RV w M R) (hm : mayP R.s R.l R.d R.c = true) (h1 : 1 ≤ iv) (h2 : iv ≤ R.c) (h3 : g.size = 16) (h4 : t.size ≤ 1000) (h5 : tl = tellsP R.d R.c iv) (h6 : 0 < tl) :
    Calls Tryz.prog 65 #[.pointer (some ⟨M.rb, 0, none⟩), .agg (pkL iv t g tl K).toArray] w fun e w' => e = .returned (.bool true) ∧ Below w.heap.size w w' := by
  have cT := kp (fun w' => P_Tells R.s R.l R.d R.c iv hm w')
  have hb0 := ba (Below.refl w.heap.size w) (.cells (pkL iv t g tl K).toArray 40)
  have HB := kp hb0
  have HV := kp (H.bel hb0)
  have HP := kp (Blk.new w 40 (pkL iv t g tl K).toArray)
  have HKL := kp hK
  have hml := mayP_iff.1 hm
  clear hb0 H hm hK
  have e3 : (g.size : Int) = 16 := by omega
  clear h3
  have e4 : (t.size : Int) ≤ 1000 := by omega
  clear h4
  rw [← h5] at cT
  clear h5
  go_enter Tryz.func65, Tryz.ntmps65
  go_upto_region 1 with (fail)
  change Code.wp _ _ _ _ (w.alloc (.cells (pkL iv t g tl K).toArray 40))
  generalize w.alloc (.cells (pkL iv t g tl K).toArray 40) = W at HB HV HP ⊢
  generalize w.heap.size = pb at HP ⊢
  have LP := kp (fun x => (HV.out.bel (ext_below W x)).ldPlan)
  have LK := kp (fun x => ldPK (HP.out.bel (ext_below W x)) HKL.out)
  obtain ⟨_, _, _, _, _, x3, kl⟩ := HV.out.cells
  have p0 := HP.out.atL (show (pkL iv t g tl K)[0]? = some (.int .i64 iv) from rfl)
  have p1 := HP.out.atL (show (pkL iv t g tl K)[1]? = some (.string t) from rfl)
  have p2 := HP.out.atL (show (pkL iv t g tl K)[2]? = some (.string g) from rfl)
  have p3 := HP.out.atL (show (pkL iv t g tl K)[3]? = some (.int .i64 tl) from rfl)
  have kp_ := HP.out.lt
  clear HV HP
  generalize M.rb = rb at *
  generalize R.c = c at *
  obtain ⟨Z, hZ⟩ : ∃ Z, cellsU8 zeroK = Z := ⟨_, rfl⟩
  refine wp_region_ext [0, 1, 2, 3, 4, 5, 6, 7, 8, 9, 10, 11, 12, 13, 14, 15, 16, 17, 18, 19, 20, 21, 22, 23, 24, 25, 26, 27, 28, 29, 30, 31, 32, 33, 34, 35, 36, 37, 38, 39, 40, 41, 42, 43, 44, 45, 46, 47] [48] (by kernel_rfl) (by kernel_rfl) ?_
  simp only [List.map_cons, List.map_nil, List.getD_cons_succ, List.getD_cons_zero]
  repeat (first
    | (go_big_quiet_want; refine quiet_load _ rfl 29 _ rfl rfl (fun w hw => by obtain ⟨x, rfl⟩ := hw; exact LP.out x) ?_; go_simp; go_big_quiet_on)
    | (go_big_quiet_want; refine quiet_load _ rfl 27 _ rfl rfl (fun w hw => by obtain ⟨x, rfl⟩ := hw; exact LK.out x) ?_; go_simp; go_big_quiet_on)
    | (go_big_quiet_want; refine quiet_val 49 rfl (.agg Z.toArray) (fun w _ => by rw [← hZ]; kernel_rfl) ?_; go_simp; go_big_quiet_on)
    | go_big_quiet_step (first | (go_at_call 59; with_reducible exact Calls.ext_of (cT.out _))))
  refine wpQuiet_nil ?_
  rintro v
  have HB4 := kp (bt' HB.out (ext_below W v) HB.out.size)
  clear p0 p1 p2 p3 x3 kl kp_
  generalize W.ext v = V at HB4 ⊢
  go_wp2
  go_ret
  exact ⟨rfl, HB4.out⟩

set_option maxHeartbeats 8000000 in
set_option maxRecDepth 100000 in
theorem F_7 (w : World) (M : Rm) (R : Rc) (iv : Int) (t g : ByteArray) (tl : Int) (K : List UInt8) (hK : K.length = 32) (H : RV w M R) (hm : mayP R.s R.l R.d R.c = true) (h1 : 1 ≤ iv) (h2 : iv ≤ R.c) (h3 : g.size = 16) (h4 : t.size ≤ 1000) (h5 : tl = tellsP R.d R.c iv) (h6 : ¬ 0 < tl) :
    Calls Tryz.prog 65 #[.pointer (some ⟨M.rb, 0, none⟩), .agg (pkL iv t g tl K).toArray] w fun e w' => e = .returned (.bool (decide (K = zeroK))) ∧ Below w.heap.size w w' := by
  have cT := kp (fun w' => P_Tells R.s R.l R.d R.c iv hm w')
  have hb0 := ba (Below.refl w.heap.size w) (.cells (pkL iv t g tl K).toArray 40)
  have HB := kp hb0
  have HV := kp (H.bel hb0)
  have HP := kp (Blk.new w 40 (pkL iv t g tl K).toArray)
  have HKL := kp hK
  have hml := mayP_iff.1 hm
  clear hb0 H hm hK
  have e3 : (g.size : Int) = 16 := by omega
  clear h3
  have e4 : (t.size : Int) ≤ 1000 := by omega
  clear h4
  rw [← h5] at cT
  clear h5
  go_enter Tryz.func65, Tryz.ntmps65
  go_upto_region 1 with (fail)
  change Code.wp _ _ _ _ (w.alloc (.cells (pkL iv t g tl K).toArray 40))
  generalize w.alloc (.cells (pkL iv t g tl K).toArray 40) = W at HB HV HP ⊢
  generalize w.heap.size = pb at HP ⊢
  have LP := kp (fun x => (HV.out.bel (ext_below W x)).ldPlan)
  have LK := kp (fun x => ldPK (HP.out.bel (ext_below W x)) HKL.out)
  obtain ⟨_, _, _, _, _, x3, kl⟩ := HV.out.cells
  have p0 := HP.out.atL (show (pkL iv t g tl K)[0]? = some (.int .i64 iv) from rfl)
  have p1 := HP.out.atL (show (pkL iv t g tl K)[1]? = some (.string t) from rfl)
  have p2 := HP.out.atL (show (pkL iv t g tl K)[2]? = some (.string g) from rfl)
  have p3 := HP.out.atL (show (pkL iv t g tl K)[3]? = some (.int .i64 tl) from rfl)
  have kp_ := HP.out.lt
  clear HV HP
  generalize M.rb = rb at *
  generalize R.c = c at *
  obtain ⟨Z, hZ⟩ : ∃ Z, cellsU8 zeroK = Z := ⟨_, rfl⟩
  refine wp_region_ext [0, 1, 2, 3, 4, 5, 6, 7, 8, 9, 10, 11, 12, 13, 14, 15, 16, 17, 18, 19, 20, 21, 22, 23, 24, 25, 26, 27, 28, 29, 30, 31, 32, 33, 34, 35, 36, 37, 38, 39, 40, 41, 42, 43, 44, 45, 46, 47] [48] (by kernel_rfl) (by kernel_rfl) ?_
  simp only [List.map_cons, List.map_nil, List.getD_cons_succ, List.getD_cons_zero]
  repeat (first
    | (go_big_quiet_want; refine quiet_load _ rfl 29 _ rfl rfl (fun w hw => by obtain ⟨x, rfl⟩ := hw; exact LP.out x) ?_; go_simp; go_big_quiet_on)
    | (go_big_quiet_want; refine quiet_load _ rfl 27 _ rfl rfl (fun w hw => by obtain ⟨x, rfl⟩ := hw; exact LK.out x) ?_; go_simp; go_big_quiet_on)
    | (go_big_quiet_want; refine quiet_val 49 rfl (.agg Z.toArray) (fun w _ => by rw [← hZ]; kernel_rfl) ?_; go_simp; go_big_quiet_on)
    | (go_big_quiet_want; refine quiet_eqk (D := K) (E := zeroK) _ rfl rfl rfl (by rw [hZ]; rfl) HKL.out zeroK_length ?_; go_simp; go_big_quiet_on)
    | go_big_quiet_step (first | (go_at_call 59; with_reducible exact Calls.ext_of (cT.out _))))
  refine wpQuiet_nil ?_
  rintro v
  have HB4 := kp (bt' HB.out (ext_below W v) HB.out.size)
  clear p0 p1 p2 p3 x3 kl kp_
  generalize W.ext v = V at HB4 ⊢
  go_wp2
  go_ret
  exact ⟨rfl, HB4.out⟩
end Go.Proofs.YtmblknknbbdmeaaGreat
