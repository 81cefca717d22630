/- the reference's sha: a block's numbers. -/
import Derived.Test.YtfmfdhcmbnabpaaRSha1
import Derived.Deep.AppendLies
namespace Go.Proofs.Ytfmfdhcmbnabpaa
open Go Go.RowKit
set_option linter.unusedVariables false
set_option linter.unusedSimpArgs false
attribute [local go_sem] bmax2 bmin2 bmax bmin cell_ext frozen_ext

theorem R_right_i (n : Nat) (a : Int) (w : World) (hn : n < M32) (ha : 1 ≤ a ∧ a ≤ 31) :
    Calls Try.prog 45 #[.int .u32 n, .int .i64 a] w fun e w' => e = .returned (.int .u32 (rr n a.toNat : Nat)) ∧ ∃ m, w' = w.drewN m :=
  R_right n a.toNat a w hn (by omega) (by omega)

/-- cells of a row that is owned -/
theorem own32_cell {w : World} {base g n cap : Nat} {e : TypeId} {L : List Nat} (h : w.ownsRow base e 1 (.slice (some ⟨g, 0, none⟩) n cap) n (c32 L)) (hL : L.length = n) (i : Nat) (hi : i < n) : w.cell? ⟨g, i, none⟩ = some (.int .u32 (L.getD i 0 : Nat)) := by
  rw [h.cellAt i (by omega)]
  exact c32_get (by omega)
theorem own_below {w w' : World} {B e size n : Nat} {g c : Nat} {xs : List Value} (h : w.ownsRow B e size (.slice (some ⟨g, 0, none⟩) n c) n xs) (hb : Below w.heap.size w w') : w'.ownsRow B e size (.slice (some ⟨g, 0, none⟩) n c) n xs :=
  h.kept (gb hb none) (Or.inr (by intro e; cases e))
theorem own_lt {w : World} {B e size n : Nat} {g c : Nat} {xs : List Value} (h : w.ownsRow B e size (.slice (some ⟨g, 0, none⟩) n c) n xs) : B ≤ g ∧ g < w.heap.size := h.lt g rfl
theorem numbers_facts {W : World} {B g k j cap : Nat} {T : TypeId} {L : List Nat} (hB : W.ownsRow B T 1 (.slice (some ⟨g, 0, none⟩) j cap) j (c32 L)) (hL : L.length = k + 16) (hj : k + 16 = j) :
    W.cell? ⟨g, j - 15, none⟩ = some (.int .u32 (L.getD (k + 1) 0 : Nat)) ∧ W.cell? ⟨g, j - 2, none⟩ = some (.int .u32 (L.getD (k + 14) 0 : Nat)) ∧ W.cell? ⟨g, j - 16, none⟩ = some (.int .u32 (L.getD k 0 : Nat)) ∧ W.cell? ⟨g, j - 7, none⟩ = some (.int .u32 (L.getD (k + 9) 0 : Nat)) ∧ g < W.heap.size := by
  rw [show j - 15 = k + 1 by omega, show j - 2 = k + 14 by omega, show j - 16 = k by omega, show j - 7 = k + 9 by omega]
  exact ⟨own32_cell hB (by omega) _ (by omega), own32_cell hB (by omega) _ (by omega), own32_cell hB (by omega) _ (by omega), own32_cell hB (by omega) _ (by omega), (own_lt hB).2⟩
theorem c32_snoc (L : List Nat) (x : Nat) (z : Int) (h : z = (x : Int)) : c32 L ++ [.int .u32 z] = c32 (L ++ [x]) := by simp [c32, h]
theorem sg0_eq (x : Nat) (h : x < M32) : bits .xor .u32 (bits .xor .u32 ((rr x 7 : Nat) : Int) ((rr x 18 : Nat) : Int)) ((x : Int) / 8) = ((sg0 x : Nat) : Int) := by
  rw [u32_xor_nat _ _ (rr_lt _ _ h (by omega)) (rr_lt _ _ h (by omega)), show (x : Int) / 8 = ((x / 8 : Nat) : Int) by omega, u32_xor_nat _ _ (xor_lt32 (rr_lt _ _ h (by omega)) (rr_lt _ _ h (by omega))) (Nat.lt_of_le_of_lt (Nat.div_le_self _ _) h)]
  rfl
theorem sg1_eq (x : Nat) (h : x < M32) : bits .xor .u32 (bits .xor .u32 ((rr x 17 : Nat) : Int) ((rr x 19 : Nat) : Int)) ((x : Int) / 1024) = ((sg1 x : Nat) : Int) := by
  rw [u32_xor_nat _ _ (rr_lt _ _ h (by omega)) (rr_lt _ _ h (by omega)), show (x : Int) / 1024 = ((x / 1024 : Nat) : Int) by omega, u32_xor_nat _ _ (xor_lt32 (rr_lt _ _ h (by omega)) (rr_lt _ _ h (by omega))) (Nat.lt_of_le_of_lt (Nat.div_le_self _ _) h)]
  rfl
theorem info_u32 : (Try.prog.info? 65).map (fun i => (i.zero, i.size, i.bytes)) = some (some (.int .u32 0), 1, 4) := by kernel_rfl

set_option maxHeartbeats 2000000 in
set_option maxRecDepth 100000 in
theorem R_numbers (p : List UInt8) (hp : p.length = 64) (w : World) :
    Calls Try.prog 44 #[.string (str p)] w fun e w' => ∃ g cap, e = .returned (.slice (some ⟨g, 0, none⟩) 64 cap) ∧ w'.ownsRow w.heap.size 65 1 (.slice (some ⟨g, 0, none⟩) 64 cap) 64 (c32 (sched p)) ∧ Below w.heap.size w w' := by
  obtain ⟨i0, hi, hz0, hz1, hz2⟩ := info_parts info_u32
  have Hz2 := kp hz2
  have Hz1 := kp hz1
  clear hz1 hz2
  have hsz : (str p).size = 64 := by rw [str_size]; exact hp
  have HP := kp hp
  go_enter Try.func44, Try.ntmps44
  go_wp2
  go_loopw [3, 4] (fun v i wr => ∃ k : Nat, k ≤ 16 ∧ i = .int .i64 ((4 * k : Nat) : Int) ∧ Kp (wr.ownsRow w.heap.size 65 1 v k (c32 (w16 p k))) ∧ Kp (Below w.heap.size w wr)) (fun _ i _ => 64 - (intOf i).toNat)
  case atStart => exact ⟨0, Nat.zero_le _, rfl, kp (World.ownsRow_lit w #[] 0 (Nat.le_refl _) (by unfold maxLen; omega) rfl), kp ((Below.refl _ _).alloc (Nat.le_refl _) _)⟩
  case round =>
    obtain ⟨k, hk, rfl, ho, hb⟩ := hrel
    by_cases hlt : k < 16
    · obtain ⟨j, hj⟩ : ∃ j, 4 * k = j := ⟨_, rfl⟩
      rw [hj]
      have j1 : (j : Int) < 64 := by omega
      have j2 : (0 : Int) ≤ (j : Int) := by omega
      have j3 : (j : Int) + 4 ≤ 64 := by omega
      have hx : (str p).extract j (j + 4) = str ((p.drop (4 * k)).take 4) := by rw [extract_str, hj, show j + 4 - j = 4 by omega]
      have t4 : (str ((p.drop (4 * k)).take 4)).size ≤ 8 := by rw [str_size]; simp; omega
      have T4 := kp (fun w' => ref01_Take_any (str ((p.drop (4 * k)).take 4)) w' t4)
      rw [bs_str] at T4
      have e1 : Kp (((takeN ((p.drop (4 * k)).take 4) : Nat) : Int) % 4294967296 = ((takeN ((p.drop (4 * k)).take 4) : Nat) : Int)) := kp (by
          have h1 := takeN_lt ((p.drop (4 * k)).take 4)
          have h2 : 256 ^ ((p.drop (4 * k)).take 4).length ≤ 256 ^ 4 := Nat.pow_le_pow_right (by omega) (by simp; omega)
          omega)
      have e2 : Kp (w16 p (k + 1) = w16 p k ++ [takeN ((p.drop (4 * k)).take 4)]) := kp rfl
      generalize takeN ((p.drop (4 * k)).take 4) = X at T4 e1 e2
      generalize w16 p k = L at ho e2
      have HJ := kp hj
      have hbs := hb.out.size
      clear hj t4
      go_wp2_with fail
      refine (T4.out _).mono ?_
      rintro e w' ⟨rfl, rfl⟩
      go_wp2_with (at_builtin; refine wpList_append_own _ rfl _ _ 66 rfl w.heap.size 65 i0 (.int .u32 0) 1 4 Try.underlying66 hi hz0 Hz1.out Hz2.out rfl (by decide) _ _ _ rfl (ho.out.alloc _) ⟨wr.heap.size, 0, none⟩ 1 1 [.int .u32 ((X : Int) % 4294967296)] rfl rfl ?c1 ?c2 ?c3 ?c4 ?c5 ?_)
      case c1 => exact cell_one_new _ _ _
      case c2 => simp [Value.oneCell']
      case c3 => unfold maxLen; omega
      case c4 => omega
      case c5 => simp; omega
      intro v' w1 hown' hgrow' _
      have HB1 := kp ((hb.out.alloc hb.out.size _).grown hgrow' (by simp; omega) (fun x hx => (ho.out.lt x hx).1))
      have HO1 := kp hown'
      clear hown' hgrow'
      go_wp2
      go_roundw
      case measure => simp [intOf]; omega
      case rel =>
        have := HJ.out
        refine ⟨k + 1, by omega, by rw [show 4 * (k + 1) = j + 4 by omega]; go_num, ?_, HB1⟩
        rw [e2.out, ← c32_snoc L X _ e1.out]
        exact HO1
    · obtain rfl : k = 16 := by omega
      obtain ⟨g, cap, rfl, -, -⟩ := World.ownsRow.form ho.out (by omega)
      have HO0 : Kp (wr.ownsRow w.heap.size 65 1 (.slice (some ⟨g, 0, none⟩) 16 cap) 16 (c32 (more (w16 p 16) 0))) := ho
      clear ho
      rw [show ((4 * 16 : Nat) : Int) = 64 from rfl]
      go_wp2
      go_loopw [3, 7] (fun v i wx => ∃ (k g cap : Nat), k ≤ 48 ∧ i = .int .i64 ((k + 16 : Nat) : Int) ∧ v = .slice (some ⟨g, 0, none⟩) (k + 16) cap ∧ Kp (wx.ownsRow w.heap.size 65 1 (.slice (some ⟨g, 0, none⟩) (k + 16) cap) (k + 16) (c32 (more (w16 p 16) k))) ∧ Kp (Below w.heap.size w wx)) (fun _ i _ => 64 - (intOf i).toNat)
      case atStart => exact ⟨0, g, cap, Nat.zero_le _, rfl, rfl, HO0, hb⟩
      case round =>
        clear HO0 hb
        obtain ⟨k, g, cap, hk, rfl, rfl, ho, hb⟩ := hrel
        by_cases hlt : k < 48
        · have hL : (more (w16 p 16) k).length = k + 16 := by rw [more_length, w16_length]; omega
          have hL2 : ∀ x ∈ more (w16 p 16) k, x < M32 := more_lt _ (w16_lt p 16) k
          have hL3 : Kp (nxt (more (w16 p 16) k) = ((more (w16 p 16) k).getD k 0 + (more (w16 p 16) k).getD (k + 9) 0 + sg0 ((more (w16 p 16) k).getD (k + 1) 0) + sg1 ((more (w16 p 16) k).getD (k + 14) 0)) % M32) := kp (by
            unfold nxt
            rw [hL, show k + 16 - 16 = k by omega, show k + 16 - 7 = k + 9 by omega, show k + 16 - 15 = k + 1 by omega, show k + 16 - 2 = k + 14 by omega])
          have hS : Kp (more (w16 p 16) (k + 1) = more (w16 p 16) k ++ [nxt (more (w16 p 16) k)]) := kp rfl
          obtain ⟨L, hLn⟩ : ∃ L, more (w16 p 16) k = L := ⟨_, rfl⟩
          rw [hLn] at hL hL2 hL3 hS ho
          obtain ⟨j, hj⟩ : ∃ j, k + 16 = j := ⟨_, rfl⟩
          rw [hj] at ho ⊢
          have FA := kp (fun W h => numbers_facts (W := W) (T := 65) (B := w.heap.size) (g := g) (cap := cap) (L := L) h hL hj)
          have l1 := getD_lt L hL2 (k + 1)
          have l2 := getD_lt L hL2 (k + 14)
          generalize hx1 : L.getD (k + 1) 0 = x1 at *
          generalize hx2 : L.getD (k + 14) 0 = x2 at *
          generalize hx3 : L.getD k 0 = x3 at *
          generalize hx4 : L.getD (k + 9) 0 = x4 at *
          have b1 : (16 : Int) ≤ (j : Int) := by omega
          have b2 : (j : Int) < 64 := by omega
          have HJ := kp hj
          have HLN := kp hLn
          have G0 := kp (sg0_eq x1 l1)
          have G1 := kp (sg1_eq x2 l2)
          clear hx1 hx2 hx3 hx4 hL hL2 hj hLn
          obtain ⟨c1, c2, c3, c4, c7⟩ := FA.out _ ho.out
          go_wp2
          refine wp_region_plan_lit (C := fun w' => ∃ x, w' = wr.ext x) [0] [1, 2, 3, 4, 5, 6, 7, 8, 9, 10, 11, 12, 13, 14, 15, 16, 17, 18, 19, 20, 21, 22, 23, 24, 25, 26, 27, 28, 29] [30, 31, 32] (by kernel_rfl) (by kernel_rfl) (by intro c a d v w h; cases d <;> exact h) ⟨wr.drew, (ext_of (Below.refl _ _).drew).symm⟩ ?_
          simp only [List.map_cons, List.map_nil, List.getD_cons_succ, List.getD_cons_zero]
          go_big_quiet_step (fail)
          refine wpQuiet_nil ?_
          repeat (go_big_quiet_step ((go_at_call 45; exact Calls.ext_drew (R_right_i _ _ _ (by assumption) (by decide)))))
          refine wpQuiet_nil ?_
          rintro _ ⟨z, rfl⟩
          clear c1 c2 c3 c4 c7
          have HO := kp (own_below ho.out (ext_below wr z))
          have HBZ := kp (bt' hb.out (ext_below wr z) hb.out.size)
          clear ho hb
          generalize (wr.ext z) = Z at HO HBZ ⊢
          have hbs := HBZ.out.size
          go_wp2_with (at_builtin; refine wpList_append_own _ rfl _ _ 66 rfl w.heap.size 65 i0 (.int .u32 0) 1 4 Try.underlying66 hi hz0 Hz1.out Hz2.out rfl (by decide) _ _ _ rfl (HO.out.alloc _) ⟨Z.heap.size, 0, none⟩ 1 1 [.int .u32 (((x3 : Int) + (x4 : Int) + bits .xor .u32 (bits .xor .u32 ((rr x1 7 : Nat) : Int) ((rr x1 18 : Nat) : Int)) ((x1 : Int) / 8) + bits .xor .u32 (bits .xor .u32 ((rr x2 17 : Nat) : Int) ((rr x2 19 : Nat) : Int)) ((x2 : Int) / 1024)) % 4294967296)] rfl rfl ?c1 ?c2 ?c3 ?c4 ?c5 ?_)
          case c1 => exact cell_one_new _ _ _
          case c2 => simp [Value.oneCell']
          case c3 => unfold maxLen; omega
          case c4 => omega
          case c5 => simp; omega
          intro v' w1 hown' hgrow' _
          obtain ⟨g', cap', rfl, -, -⟩ := World.ownsRow.form hown' (by omega)
          have HB1 := kp ((HBZ.out.alloc HBZ.out.size _).grown hgrow' (by simp; omega) (fun x hx => (HO.out.lt x hx).1))
          have HO1 := kp hown'
          clear hown' hgrow'
          go_wp2
          go_roundw
          case measure => simp [intOf]; omega
          case rel =>
            have hj := HJ.out
            refine ⟨k + 1, g', cap', by omega, by rw [show k + 1 + 16 = j + 1 by omega]; go_num, by rw [show k + 1 + 16 = j + 1 by omega], ?_, HB1⟩
            rw [show k + 1 + 16 = j + 1 by omega, hS.out]
            have h1 := HO1.out
            rw [G0.out, G1.out, c32_snoc L (nxt L) _ (by rw [hL3.out]; simp)] at h1
            exact kp h1
        · obtain rfl : k = 48 := by omega
          go_wp2
          go_ret
          exact ⟨g, cap, rfl, ho.out, hb.out⟩
end Go.Proofs.Ytfmfdhcmbnabpaa
