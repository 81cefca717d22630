/- sha: through. -/
import Derived.Test.YtfmfdhcmbnabpaaSha1
namespace Go.Proofs.Ytfmfdhcmbnabpaa
open Go Go.RowKit
set_option linter.unusedVariables false
set_option linter.unusedSimpArgs false
attribute [local go_sem] bmax2 bmin2 bmax bmin cell_ext frozen_ext

/-- a state of this shape, as a value -/
def stL (v : V8) (rest : ByteArray) (n : Int) (b : Bool) : List Value := [.int .u32 v.a, .int .u32 v.b, .int .u32 v.c, .int .u32 v.d, .int .u32 v.e, .int .u32 v.f, .int .u32 v.g, .int .u32 v.h, .string rest, .int .i64 n, .bool b]
theorem stL_one (v : V8) (rest : ByteArray) (n : Int) (b : Bool) : ∀ x ∈ stL v rest n b, x.oneCell' = true := by
  intro x hx; simp [stL] at hx; rcases hx with h | h | h | h | h | h | h | h | h | h | h <;> rw [h] <;> rfl
/-- what stands behind a state's numbers -/
def stT (rest : ByteArray) (n : Int) (b : Bool) : List Value := [.string rest, .int .i64 n, .bool b]
def stA (v : V8) (rest : ByteArray) (n : Int) (b : Bool) : Value := .agg (stL v rest n b).toArray
theorem info_st : (Try.prog.info? 84).map (·.size) = some 11 := by kernel_rfl
theorem info_a8 : (Try.prog.info? 82).map (·.size) = some 8 := by kernel_rfl

def v8L (v : V8) : List Value := [.int .u32 v.a, .int .u32 v.b, .int .u32 v.c, .int .u32 v.d, .int .u32 v.e, .int .u32 v.f, .int .u32 v.g, .int .u32 v.h]
theorem v8_cells {w : World} {B : Nat} {T : TypeId} {v : V8} (h : Blk w B T (v8L v).toArray) : w.cell? ⟨B, 0, none⟩ = some (.int .u32 v.a) ∧ w.cell? ⟨B, 1, none⟩ = some (.int .u32 v.b) ∧ w.cell? ⟨B, 2, none⟩ = some (.int .u32 v.c) ∧ w.cell? ⟨B, 3, none⟩ = some (.int .u32 v.d) ∧
    w.cell? ⟨B, 4, none⟩ = some (.int .u32 v.e) ∧ w.cell? ⟨B, 5, none⟩ = some (.int .u32 v.f) ∧ w.cell? ⟨B, 6, none⟩ = some (.int .u32 v.g) ∧ w.cell? ⟨B, 7, none⟩ = some (.int .u32 v.h) :=
  ⟨h.atL rfl, h.atL rfl, h.atL rfl, h.atL rfl, h.atL rfl, h.atL rfl, h.atL rfl, h.atL rfl⟩

theorem copy_v8 {W : World} {B : Nat} {T : TypeId} {x1 x2 x3 x4 x5 x6 x7 x8 : Nat} (h : Blk W B T (v8L ⟨x1, x2, x3, x4, x5, x6, x7, x8⟩).toArray) : ∃ Y,
    (Builtin.copy_ #[66, 66] 3 #[.slice (some ⟨B, 1, none⟩) 7 7, .slice (some ⟨B, 0, none⟩) 7 8]).run Try.prog W = .ok (.int .i64 7) Y ∧
      Blk Y B T (v8L ⟨x1, x1, x2, x3, x4, x5, x6, x7⟩).toArray ∧ W.grownBy Y (some B) := by
  have hinfo : (Try.prog.info? 65).map (·.size) = some 1 := by kernel_rfl
  refine ⟨_, ?_, h.row _, gbrow _ _ _⟩
  have := run_copy_rowk (P := Try.prog) W 66 66 3 65 B 1 7 7 ⟨B, 0, none⟩ 7 8 1 _ T ((v8L ⟨x1, x2, x3, x4, x5, x6, x7, x8⟩).take 7) Try.underlying66 hinfo h rfl (fun j v hj => by
    rw [addr_add, Nat.zero_add, h.cell]
    have hlt := (List.getElem?_eq_some_iff.1 hj).1
    rw [List.getElem?_take] at hj
    split at hj
    · simpa using hj
    · cases hj) (by simp [v8L]) (by intro v hv; simp [v8L] at hv; rcases hv with h | h | h | h | h | h | h <;> rw [h] <;> rfl)
  exact this

set_option maxHeartbeats 1000000 in
set_option maxRecDepth 100000 in
theorem through_any (v : V8) (hv : v.ok) (rest : ByteArray) (n : Int) (b : Bool) (p : List UInt8) (hp : p.length = 64) (kb : Nat) (w : World) (hk : Blk w kb 90 (c32 kL).toArray) :
    Calls Try.prog 57 #[stA v rest n b, .string (str p), .pointer (some ⟨kb, 0, none⟩)] w fun e w' => e = .returned (stA (press v p) rest n b) ∧ Below w.heap.size w w' := by
  obtain ⟨a1, a2, a3, a4, a5, a6, a7, a8⟩ := v
  have SP := kp (fun w' => spread_any p hp w')
  obtain ⟨P, hP⟩ : ∃ P, press ⟨a1, a2, a3, a4, a5, a6, a7, a8⟩ p = P := ⟨_, rfl⟩
  rw [hP]
  have HP := kp hP
  have hS1 := sched_length p
  have hS2 := sched_lt p
  obtain ⟨S, hS⟩ : ∃ S, sched p = S := ⟨_, rfl⟩
  rw [hS] at hS1 hS2 SP
  have HS := kp hS
  have HS1 := kp hS1
  have HS2 := kp hS2
  have HK := kp hk
  have HV := kp hv
  have HPL := kp hp
  clear hP hS hS1 hS2 hk hv hp
  unfold stA stL
  go_enter Try.func57, Try.ntmps57
  go_wp2_with fail
  refine (SP.out _).mono ?_
  rintro e w1 ⟨rfl, hb⟩
  have HK0 : Kp (Blk w1 w.heap.size 84 (stL ⟨a1, a2, a3, a4, a5, a6, a7, a8⟩ rest n b).toArray) := kp ((((Blk.new w _ _).alloc _).alloc _).bel hb)
  have HK1 : Kp (Blk w1 (w.heap.size + 1) 84 (stL ⟨0, 0, 0, 0, 0, 0, 0, 0⟩ ⟨#[]⟩ 0 false).toArray) := by
    have := ((Blk.new (w.alloc _) _ _).alloc _).bel hb
    rw [size_all] at this
    exact kp this
  have HK2 : Kp (Blk w1 (w.heap.size + 2) 82 (v8L (rounds S ⟨a1, a2, a3, a4, a5, a6, a7, a8⟩ 0)).toArray) := by
    have := (Blk.new ((w.alloc _) |>.alloc _) _ _).bel hb
    rw [size_all, size_all] at this
    exact kp this
  have HKK : Kp (Blk w1 kb 90 (c32 kL).toArray) := kp ((((HK.out.alloc _).alloc _).alloc _).bel hb)
  have hkb := HK.out.lt
  have HB := kp ((ba (ba (ba (Below.refl w.heap.size w) _) _) _).trans (hb.mono (by simp only [size_all]; omega)))
  have hs1 := HK2.out.lt
  clear hb HK SP
  go_wp2
  go_loopw [23] (fun i wr => ∃ k : Nat, k ≤ 64 ∧ i = .int .i64 k ∧ Kp (Blk wr (w.heap.size + 2) 82 (v8L (rounds S ⟨a1, a2, a3, a4, a5, a6, a7, a8⟩ k)).toArray) ∧ Kp (w1.grownBy wr (some (w.heap.size + 2)))) (fun i _ => 64 - (intOf i).toNat)
  case atStart => exact ⟨0, Nat.zero_le _, rfl, HK2, kp (World.grownBy.refl _ _)⟩
  case round =>
    obtain ⟨k, hk, rfl, hB, hg⟩ := hrel
    by_cases hlt : k < 64
    · have hlt' : (k : Int) < 64 := by omega
      have i2 : (0 : Int) ≤ (k : Int) := by omega
      have HR : Kp (rounds S ⟨a1, a2, a3, a4, a5, a6, a7, a8⟩ (k + 1) = rnd (rounds S ⟨a1, a2, a3, a4, a5, a6, a7, a8⟩ k) (kL.getD k 0) (S.getD k 0)) := kp rfl
      have hok := rounds_ok HV.out S k
      obtain ⟨V, hV⟩ : ∃ V, rounds S ⟨a1, a2, a3, a4, a5, a6, a7, a8⟩ k = V := ⟨_, rfl⟩
      rw [hV] at hok HR hB
      clear hV
      obtain ⟨x1, x2, x3, x4, x5, x6, x7, x8⟩ := V
      obtain ⟨y1, y2, y3, y4, y5, y6, y7, y8⟩ := (V8.ok_iff _).1 hok
      have Z1 := kp (leftN_lt x5 7 y5 (by omega))
      have Z2 := kp (leftN_lt x1 10 y1 (by omega))
      have Y1 : Kp (x1 < M32) := kp y1
      have Y5 : Kp (x5 < M32) := kp y5
      have HOK := kp hok
      clear y1 y2 y3 y4 y5 y6 y7 y8 hok
      obtain ⟨c0, c1, c2, c3, c4, c5, c6, c7⟩ := v8_cells hB.out
      have hlw := hB.out.lt
      obtain ⟨ss, hss⟩ : ∃ ss, S.getD k 0 = ss := ⟨_, rfl⟩
      have HSL := kp (getD_lt S HS2.out k)
      have ix : ∀ W : World, (Instr.index 90 (arr32 S) (.int .i64 k)).run Try.prog W = .ok (.int .u32 (ss : Int)) W := fun W => by rw [← hss]; exact run_index32 90 65 Try.underlying90 (by kernel_rfl) (by kernel_rfl) HS1.out k hlt W
      rw [hss] at HR HSL
      clear hss
      simp only at c0 c1 c2 c3 c4 c5 c6 c7
      go_wp2
      go_quiet (fail)
      have HQ := kp (hB.out.drewN nq)
      have HGQ := kp (gbt hg.out (gb (bd (Below.refl _ wr) nq) _))
      clear c0 c1 c2 c3 c4 c5 c6 c7 hB hg ix
      generalize (wr.drewN nq) = W at HQ HGQ ⊢
      obtain ⟨c0, c1, c2, c3, c4, c5, c6, c7⟩ := v8_cells HQ.out
      simp only at c0 c1 c2 c3 c4 c5 c6 c7
      have HKW := kp (HKK.out.grown HGQ.out (by intro e; injection e; omega))
      have ck := HKW.out.atL (i := k) (c32_get (by show k < 64; omega))
      have hkw := HKW.out.lt
      have hbw := HQ.out.lt
      have HKL := kp (getD_lt kL kL_lt k)
      generalize kL.getD k 0 = kk at ck HKL HR
      go_wp2
      refine wp_region_ext [0, 1, 2, 3, 4, 5, 6, 7, 8, 9, 10, 11, 12, 13, 14, 15, 16, 17, 18, 19, 20, 21, 22, 23] [24] (by kernel_rfl) (by kernel_rfl) ?_
      simp only [List.map_cons, List.map_nil, List.getD_cons_succ, List.getD_cons_zero]
      repeat (go_big_quiet_step (first | (go_at_call 65; exact Calls.ext_drew (turned_n _ _ _ _ _ Y5.out Z1.out (by decide) (by decide))) | (go_at_call 66; exact Calls.ext_drew (octet_Left_any _ _ _ Y5.out))))
      refine wpQuiet_nil ?_
      rintro z
      have HZ := kp (HQ.out.bel (ext_below W z))
      have HGZ := kp (gbt HGQ.out (gb (ext_below W z) _))
      clear c0 c1 c2 c3 c4 c5 c6 c7 HQ HGQ ck hkw hbw HKW
      generalize (W.ext z) = Z at HZ HGZ ⊢
      go_wp2_with fail
      refine (octet_Left_any _ _ _ Y1.out).mono ?_
      rintro e w' ⟨rfl, m1, rfl⟩
      go_wp2_with fail
      refine (turned_n _ _ _ _ _ Y1.out Z2.out (by decide) (by decide)).mono ?_
      rintro e w' ⟨rfl, m2, rfl⟩
      go_wp2
      refine wp_region_ext [0, 1] [2] (by kernel_rfl) (by kernel_rfl) ?_
      simp only [List.map_cons, List.map_nil, List.getD_cons_succ, List.getD_cons_zero]
      repeat (go_big_quiet_step (fail))
      refine wpQuiet_nil ?_
      rintro z
      have HX := kp (HZ.out.bel ((bd (Below.refl _ Z) (m1 + m2)).trans ((ext_below _ z).mono (by simp))))
      have HGX := kp (gbt HGZ.out (gb ((bd (Below.refl _ Z) (m1 + m2)).trans ((ext_below _ z).mono (by simp))) (some (w.heap.size + 2))))
      generalize World.ext _ z = X at HX HGX ⊢
      obtain ⟨Y, hcp, hX, hgY⟩ := copy_v8 HX.out
      have HX2 := kp hX
      have HGX2 := kp (gbt HGX.out hgY)
      clear HX HGX hX hgY
      obtain ⟨_, _, _, _, c4, _, _, _⟩ := v8_cells HX2.out
      simp only at c4
      have f4 := HX2.out.frozen 4
      have f0 := HX2.out.frozen 0
      have hyw := HX2.out.lt
      go_wp2
      go_roundw
      case measure => simp [intOf]; omega
      case rel =>
        obtain ⟨y1, y2, y3, y4, y5, y6, y7, y8⟩ := (V8.ok_iff _).1 HOK.out
        refine ⟨k + 1, by omega, by go_num, kp ?_, kp (gbt HGX2.out (gbt (gbset _ _ _ _) (gbset _ _ _ _)))⟩
        rw [ch_eq x5 x6 x7 y5 y6 y7, ma_eq x1 x2 x3 y1 y2 y3, HR.out]
        have e1 : ∀ x : Nat, ((x : Int) + ((x8 : Int) + ((rr x5 6 ^^^ rr x5 11 ^^^ leftN x5 7 : Nat) : Int) + ((chN x5 x6 x7 : Nat) : Int) + (kk : Int) + (ss : Int))) % 4294967296 = (((x + t1N ⟨x1, x2, x3, x4, x5, x6, x7, x8⟩ kk ss) % M32 : Nat) : Int) := fun x => by
          show _ = (((x + (x8 + (rr x5 6 ^^^ rr x5 11 ^^^ leftN x5 7) + chN x5 x6 x7 + kk + ss) % M32) % M32 : Nat) : Int)
          simp
        have e2 : ((x8 : Int) + ((rr x5 6 ^^^ rr x5 11 ^^^ leftN x5 7 : Nat) : Int) + ((chN x5 x6 x7 : Nat) : Int) + (kk : Int) + (ss : Int) + (((rr x1 2 ^^^ rr x1 13 ^^^ leftN x1 10 : Nat) : Int) + ((maN x1 x2 x3 : Nat) : Int))) % 4294967296 = (((t1N ⟨x1, x2, x3, x4, x5, x6, x7, x8⟩ kk ss + t2N ⟨x1, x2, x3, x4, x5, x6, x7, x8⟩) % M32 : Nat) : Int) := by
          show _ = ((((x8 + (rr x5 6 ^^^ rr x5 11 ^^^ leftN x5 7) + chN x5 x6 x7 + kk + ss) % M32 + ((rr x1 2 ^^^ rr x1 13 ^^^ leftN x1 10) + maN x1 x2 x3) % M32) % M32 : Nat) : Int)
          simp
        rw [e1, e2]
        exact (HX2.out.setL 4 _).setL 0 _
    · obtain rfl : k = 64 := by omega
      obtain ⟨F, hF⟩ : ∃ F, rounds S ⟨a1, a2, a3, a4, a5, a6, a7, a8⟩ 64 = F := ⟨_, rfl⟩
      have HPF : Kp (P = addV ⟨a1, a2, a3, a4, a5, a6, a7, a8⟩ F) := kp (by rw [← HP.out, ← hF, ← HS.out]; rfl)
      rw [hF] at hB
      have h0 : Kp (Blk wr w.heap.size 84 (c32 (mixL (addV ⟨a1, a2, a3, a4, a5, a6, a7, a8⟩ F).list (V8.mk a1 a2 a3 a4 a5 a6 a7 a8).list 0) ++ stT rest n b).toArray) := kp (HK0.out.grown hg.out (by intro e; injection e; omega))
      have h1 := kp (HK1.out.grown hg.out (by intro e; injection e; omega))
      have h2 : Kp (Blk wr (w.heap.size + 2) 82 (c32 F.list).toArray) := hB
      have hw := kp (bgb HB.out hg.out (by omega) HB.out.size)
      have hlF : F.list.length = (V8.mk a1 a2 a3 a4 a5 a6 a7 a8).list.length := rfl
      have hbw := h2.out.lt
      clear hB hg HK0 HK1 HK2 HKK HB HP HS HS1 HS2 HV hF HPL hs1
      go_wp2
      go_loopw [92] (fun i wx => ∃ k : Nat, k ≤ 8 ∧ i = .int .i64 k ∧ Kp (Blk wx w.heap.size 84 (c32 (mixL (addV ⟨a1, a2, a3, a4, a5, a6, a7, a8⟩ F).list (V8.mk a1 a2 a3 a4 a5 a6 a7 a8).list k) ++ stT rest n b).toArray) ∧
        Kp (Blk wx (w.heap.size + 1) 84 (stL ⟨0, 0, 0, 0, 0, 0, 0, 0⟩ ⟨#[]⟩ 0 false).toArray) ∧ Kp (Blk wx (w.heap.size + 2) 82 (c32 F.list).toArray) ∧ Kp (Below w.heap.size w wx)) (fun i _ => 8 - (intOf i).toNat)
      case atStart => exact ⟨0, Nat.zero_le _, rfl, h0, h1, h2, hw⟩
      case round =>
        obtain ⟨k, hk, rfl, hb0, hb1, hb2, hbb⟩ := hrel
        by_cases hlt : k < 8
        · have hlt' : (k : Int) < 8 := by omega
          have i2 : (0 : Int) ≤ (k : Int) := by omega
          have hl8 : (V8.mk a1 a2 a3 a4 a5 a6 a7 a8).list.length = 8 := rfl
          have hm8 : ∀ i, i ≤ 8 → (mixL (addV ⟨a1, a2, a3, a4, a5, a6, a7, a8⟩ F).list (V8.mk a1 a2 a3 a4 a5 a6 a7 a8).list i).length = 8 := fun i hi => mixL_length _ _ i rfl hi
          have FA : ∀ W : World, Blk W w.heap.size 84 (c32 (mixL (addV ⟨a1, a2, a3, a4, a5, a6, a7, a8⟩ F).list (V8.mk a1 a2 a3 a4 a5 a6 a7 a8).list k) ++ stT rest n b).toArray → Blk W (w.heap.size + 2) 82 (c32 F.list).toArray →
              W.cell? ⟨w.heap.size, k, none⟩ = some (.int .u32 (((V8.mk a1 a2 a3 a4 a5 a6 a7 a8).list.getD k 0 : Nat) : Int)) ∧ W.cell? ⟨w.heap.size + 2, k, none⟩ = some (.int .u32 ((F.list.getD k 0 : Nat) : Int)) ∧ W.frozen? ⟨w.heap.size, k, none⟩ = false ∧ w.heap.size + 2 < W.heap.size ∧ w.heap.size < W.heap.size := fun W g0 g2 => by
            refine ⟨?_, g2.atL (c32_get hlt), g0.frozen _, g2.lt, g0.lt⟩
            refine g0.atL ?_
            rw [List.getElem?_append_left (by rw [length_c32, hm8 k (by omega)]; exact hlt), c32_get (by rw [hm8 k (by omega)]; exact hlt), mixL_get (addV ⟨a1, a2, a3, a4, a5, a6, a7, a8⟩ F).list (V8.mk a1 a2 a3 a4 a5 a6 a7 a8).list k rfl hlt]
          have hset := mixL_set (addV ⟨a1, a2, a3, a4, a5, a6, a7, a8⟩ F).list (V8.mk a1 a2 a3 a4 a5 a6 a7 a8).list k rfl hlt
          rw [addV_get _ _ k hlt] at hset
          have HFA := kp FA
          have HSET := kp hset
          have HM8 := kp hm8
          clear FA hset hm8 hl8 hlF
          generalize (V8.mk a1 a2 a3 a4 a5 a6 a7 a8).list.getD k 0 = x at HFA HSET
          generalize F.list.getD k 0 = y at HFA HSET
          obtain ⟨c1, c2, c3, c4, c5⟩ := HFA.out _ hb0.out hb2.out
          go_wp2
          refine wp_region_ext [0, 1, 2, 3, 4, 5, 6, 7, 8, 9] [10] (by kernel_rfl) (by kernel_rfl) ?_
          simp only [List.map_cons, List.map_nil, List.getD_cons_succ, List.getD_cons_zero]
          repeat (go_big_quiet_step (fail))
          refine wpQuiet_nil ?_
          rintro z
          have hz0 := kp (hb0.out.bel (ext_below wr z))
          have hz1 := kp (hb1.out.bel (ext_below wr z))
          have hz2 := kp (hb2.out.bel (ext_below wr z))
          have hzb := kp (bt' hbb.out (ext_below wr z) hbb.out.size)
          clear c1 c2 c3 c4 c5 hb0 hb1 hb2 hbb
          generalize (wr.ext z) = Z at hz0 hz1 hz2 hzb ⊢
          obtain ⟨c1, c2, c3, c4, c5⟩ := HFA.out _ hz0.out hz2.out
          go_wp2
          go_roundw
          case measure => simp [intOf]; omega
          case rel =>
            refine ⟨k + 1, by omega, by go_num, kp ?_, kp (hz1.out.far (by simp) _), kp (hz2.out.far (by simp) _), kp (bsc hzb.out (Nat.le_refl _) _)⟩
            have := hz0.out.setL k (.int .u32 (((x + y) % M32 : Nat) : Int))
            rw [List.set_append_left _ _ (by rw [length_c32, HM8.out k (by omega)]; exact hlt), c32_set, HSET.out] at this
            have e : ((x : Int) + (y : Int)) % 4294967296 = (((x + y) % M32 : Nat) : Int) := by simp
            rw [e]
            exact this
        · obtain rfl : k = 8 := by omega
          have HE : Kp (Blk wr w.heap.size 84 (stL P rest n b).toArray) := by
            have := hb0.out
            rw [show mixL (addV ⟨a1, a2, a3, a4, a5, a6, a7, a8⟩ F).list (V8.mk a1 a2 a3 a4 a5 a6 a7 a8).list 8 = (addV ⟨a1, a2, a3, a4, a5, a6, a7, a8⟩ F).list from mixL_all _ (V8.mk a1 a2 a3 a4 a5 a6 a7 a8).list rfl] at this
            rw [HPF.out]
            exact kp this
          have hL11 : (stL P rest n b).length = 11 := rfl
          have h1c := stL_one P rest n b
          obtain ⟨CS, hCS⟩ : ∃ CS, stL P rest n b = CS := ⟨_, rfl⟩
          rw [hCS] at HE hL11 h1c
          have HCS := kp hCS
          have LD := ld_all (P := Try.prog) (w := wr) w.heap.size 11 84 _ CS _ Try.underlying84 rfl info_st hL11 HE.out
          have SC := sc_all (P := Try.prog) (w := wr) (w.heap.size + 1) 84 CS (stL ⟨0, 0, 0, 0, 0, 0, 0, 0⟩ ⟨#[]⟩ 0 false) hb1.out hL11 h1c
          have HX := kp (hb1.out.row CS.toArray)
          have HBX := kp (bsr hbb.out (show w.heap.size ≤ w.heap.size + 1 by omega) hbb.out.size CS.toArray)
          have HL := kp hL11
          clear hCS h1c hb0 hb1 hb2 hbb HPF h0 h1 h2 hw hbw hlF
          generalize hX : wr.setRow (w.heap.size + 1) CS.toArray = X at SC HX HBX
          clear hX
          go_wp2_with (refine wpL_load rfl 84 _ rfl rfl LD ?_)
          refine bodyPost_ret (v := .agg CS.toArray) ?_ rfl ⟨by rw [← HCS.out]; rfl, HBX.out⟩
          exact res_all Try.results57 (w.heap.size + 1) 11 _ CS _ Try.underlying84 rfl info_st HL.out HX.out _ rfl
end Go.Proofs.Ytfmfdhcmbnabpaa
