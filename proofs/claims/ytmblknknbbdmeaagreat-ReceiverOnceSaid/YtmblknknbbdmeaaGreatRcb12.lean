/- Texts laid together: RcvA, RegS2, Arg, ArgK, ArgS, Snd9, Snd10, Rcv15, RegF, Rcv16, Rcv17, Rcv18, Rcv19. -/
import Derived.Deep.Slices
import Derived.Test.YtmblknknbbdmeaaGreatRcb11
/- receiver: what the document fixes. -/
namespace Go.Proofs.YtmblknknbbdmeaaGreat
open Go Go.RowKit
set_option linter.unusedVariables false
set_option linter.unusedSimpArgs false
attribute [local go_sem] bmax2 bmin2 bmax bmin cell_ext frozen_ext

theorem Rw.mvQ {B B' T sz m c : Nat} {w w' : World} {Z : Nat → Prop} {ad : Option Addr} {l : List Value} (h : Rw B w T sz ad m c l) (hm : MvQ B' Z w w') (h1 : T ≠ 138) (h2 : T ≠ 178) : Rw B w' T sz ad m c l := by
  obtain ⟨a0, a1, a2, a3⟩ := h
  refine ⟨a0, a1, a2, ?_⟩
  rcases a3 with a3 | ⟨g, o, cur, rfl, hB, hk, hk2⟩
  · exact Or.inl a3
  · exact Or.inr ⟨g, o, cur, rfl, hB, hm.keep h1 h2 hk, hk2⟩
theorem build_pk1 (iv : Int) (W : World) : (Instr.build 40 #[(0, .int .i64 iv)]).run Tryz.prog W = .ok (.agg (pkL iv ByteArray.empty ByteArray.empty 0 zeroK).toArray) W := by
  have hz : cellsU8 zeroK = List.replicate 32 (.int .u8 0) := by kernel_rfl
  unfold pkL
  rw [hz]
  exact run_build W 40 _ _ (by kernel_rfl)
theorem build_pk2 (iv : Int) (t g : ByteArray) (W : World) : (Instr.build 40 #[(0, .int .i64 iv), (1, .string t), (2, .string g)]).run Tryz.prog W = .ok (.agg (pkL iv t g 0 zeroK).toArray) W := by
  have hz : cellsU8 zeroK = List.replicate 32 (.int .u8 0) := by kernel_rfl
  unfold pkL
  rw [hz]
  exact run_build W 40 _ _ (by kernel_rfl)
theorem build_pk5 (iv : Int) (t g : ByteArray) (tl : Int) (K : List UInt8) (h : K.length = 32) (W : World) : (Instr.build 40 #[(0, .int .i64 iv), (1, .string t), (2, .string g), (3, .int .i64 tl), (4, .agg (cellsU8 K).toArray)]).run Tryz.prog W = .ok (.agg (pkL iv t g tl K).toArray) W := by
  obtain ⟨f, rfl⟩ := list32 K h
  exact run_build W 40 _ _ (by kernel_rfl)
theorem info_thg : (Tryz.prog.info? 71).map (·.size) = some 2 := by kernel_rfl
theorem eqT_thg : EqT Tryz.prog 71 [.int .i64, .txt] := ⟨by kernel_rfl, by kernel_rfl, by kernel_rfl, by kernel_rfl⟩
set_option maxHeartbeats 8000000 in
set_option maxRecDepth 100000 in
theorem receiver_awake (w : World) : Calls Tryz.prog 27 #[] w fun e w' => e = .returned (.bool true) ∧ Below w.heap.size w w' := by
  have HO := kp oneK_length
  have hne := kp two_far
  obtain ⟨S, hS⟩ : ∃ S, oneK = S := ⟨_, rfl⟩
  rw [hS] at HO hne
  have HSS := kp hS
  clear hS
  have a1 : gotP (aR0 S) 1 ⟨#[111, 110, 101]⟩ (str (tagD (chK S 4) 1 ⟨#[111, 110, 101]⟩)) 0 zeroK 5 = ((aR1 S, []), 0) := aw1 S
  have a2 : gotP (aR1 S) 1 ⟨#[111, 110, 101]⟩ (str (tagD (chK S 4) 1 ⟨#[111, 110, 101]⟩)) 0 zeroK 6 = ((aR1 S, []), 11) := aw2 S
  have a3 : gotP (aR1 S) 3 ⟨#[116, 104, 114, 101, 101]⟩ (str (tagD (chK S 2) 3 ⟨#[116, 104, 114, 101, 101]⟩)) 1 (chK S 4) 25 = ((aR3 S, [(1, bs oneT)]), 0) := aw3 S
  have a4 : gotP (aR3 S) 1 ⟨#[111, 110, 101]⟩ (str (tagD (chK S 4) 1 ⟨#[111, 110, 101]⟩)) 0 zeroK 26 = ((aR3 S, []), 14) := aw4 S
  have a7 := aw7 S hne.out
  have cN : Kp (∀ w', w.heap.size ≤ w'.heap.size → Calls Tryz.prog 29 #[.agg (cellsU8 (chK S 5)).toArray, .agg (planL 0 10 2 5).toArray, .int .i64 9, .int .i64 2, .int .i64 3] w' fun e w'' => ∃ rb, e = .returned (.tuple #[.pointer (some ⟨rb, 0, none⟩), .int .i64 0]) ∧ VR w.heap.size 0 (fun _ => False) w'' rb (aR0 S) ∧ Below w'.heap.size w' w'') := kp (fun w' h => W_New (chK S 5) 0 10 2 5 9 2 3 (chK_length S 5) (by decide) (by decide) (by decide) (by decide) w' h (fun k hk => hk.elim))
  have cM : Kp (∀ w', Calls Tryz.prog 29 #[.agg (cellsU8 (chK S 5)).toArray, .agg (planL 0 10 2 5).toArray, .int .i64 0, .int .i64 2, .int .i64 3] w' fun e w'' => e = .returned (.tuple #[.pointer none, .int .i64 1]) ∧ Below w'.heap.size w' w'') := kp (fun w' => R_New_bad (chK S 5) 0 10 2 5 0 2 3 (chK_length S 5) (by decide) w')
  have g1 : Kp (∀ rb w', w.heap.size ≤ w'.heap.size → VR w.heap.size 0 (fun _ => False) w' rb (aR0 S) → Calls Tryz.prog 31 #[.pointer (some ⟨rb, 0, none⟩), .agg (pkL 1 ⟨#[111, 110, 101]⟩ (str (tagD (chK S 4) 1 ⟨#[111, 110, 101]⟩)) 0 zeroK).toArray, .int .i64 5] w' (WEnd w.heap.size (0 + 1) (fun _ => False) w' rb ((aR1 S, []), 0))) := kp (fun rb w' hB h => by have h1 := W_Got (N := 0) (by decide) h hB 1 ⟨#[111, 110, 101]⟩ (str (tagD (chK S 4) 1 ⟨#[111, 110, 101]⟩)) 0 zeroK zeroK_length 5 (by decide); rw [a1] at h1; exact h1)
  have g2 : Kp (∀ rb w', w.heap.size ≤ w'.heap.size → VR w.heap.size 1 (fun _ => False) w' rb (aR1 S) → Calls Tryz.prog 31 #[.pointer (some ⟨rb, 0, none⟩), .agg (pkL 1 ⟨#[111, 110, 101]⟩ (str (tagD (chK S 4) 1 ⟨#[111, 110, 101]⟩)) 0 zeroK).toArray, .int .i64 6] w' (WEnd w.heap.size (1 + 1) (fun _ => False) w' rb ((aR1 S, []), 11))) := kp (fun rb w' hB h => by have h1 := W_Got (N := 1) (by decide) h hB 1 ⟨#[111, 110, 101]⟩ (str (tagD (chK S 4) 1 ⟨#[111, 110, 101]⟩)) 0 zeroK zeroK_length 6 (by decide); rw [a2] at h1; exact h1)
  have g3 : Kp (∀ rb w', w.heap.size ≤ w'.heap.size → VR w.heap.size 2 (fun _ => False) w' rb (aR1 S) → Calls Tryz.prog 31 #[.pointer (some ⟨rb, 0, none⟩), .agg (pkL 3 ⟨#[116, 104, 114, 101, 101]⟩ (str (tagD (chK S 2) 3 ⟨#[116, 104, 114, 101, 101]⟩)) 1 (chK S 4)).toArray, .int .i64 25] w' (WEnd w.heap.size (2 + 1) (fun _ => False) w' rb ((aR3 S, [(1, bs oneT)]), 0))) := kp (fun rb w' hB h => by have h1 := W_Got (N := 2) (by decide) h hB 3 ⟨#[116, 104, 114, 101, 101]⟩ (str (tagD (chK S 2) 3 ⟨#[116, 104, 114, 101, 101]⟩)) 1 (chK S 4) (chK_length S 4) 25 (by decide); rw [a3] at h1; exact h1)
  have g4 : Kp (∀ rb w', w.heap.size ≤ w'.heap.size → VR w.heap.size 3 (fun _ => False) w' rb (aR3 S) → Calls Tryz.prog 31 #[.pointer (some ⟨rb, 0, none⟩), .agg (pkL 1 ⟨#[111, 110, 101]⟩ (str (tagD (chK S 4) 1 ⟨#[111, 110, 101]⟩)) 0 zeroK).toArray, .int .i64 26] w' (WEnd w.heap.size (3 + 1) (fun _ => False) w' rb ((aR3 S, []), 14))) := kp (fun rb w' hB h => by have h1 := W_Got (N := 3) (by decide) h hB 1 ⟨#[111, 110, 101]⟩ (str (tagD (chK S 4) 1 ⟨#[111, 110, 101]⟩)) 0 zeroK zeroK_length 26 (by decide); rw [a4] at h1; exact h1)
  have g5 : Kp (∀ rb w', w.heap.size ≤ w'.heap.size → VR w.heap.size 4 (fun _ => False) w' rb (aR3 S) → Calls Tryz.prog 31 #[.pointer (some ⟨rb, 0, none⟩), .agg (pkL 9 ByteArray.empty ByteArray.empty 0 zeroK).toArray, .int .i64 0] w' (WEnd w.heap.size (4 + 1) (fun _ => False) w' rb ((aR3 S, []), 2))) := kp (fun rb w' hB h => by have h1 := W_Got (N := 4) (by decide) h hB 9 ByteArray.empty ByteArray.empty 0 zeroK zeroK_length 0 (by decide); rw [aw5 S] at h1; exact h1)
  have g6 : Kp (∀ rb w', w.heap.size ≤ w'.heap.size → VR w.heap.size 5 (fun _ => False) w' rb (aR3 S) → Calls Tryz.prog 32 #[.pointer (some ⟨rb, 0, none⟩), .agg (cellsU8 (chK S 2)).toArray, .int .i64 3] w' (WEnd w.heap.size 5 (fun _ => False) w' rb ((aR6 S, [(3, bs threeT)]), 0))) := kp (fun rb w' hB h => by have h1 := W_Learn (N := 5) (by decide) h hB (chK S 2) (chK_length S 2) 3 (by decide); rw [aw6 S] at h1; exact h1)
  have g7 : Kp (∀ rb w', w.heap.size ≤ w'.heap.size → VR w.heap.size 5 (fun _ => False) w' rb (aR6 S) → Calls Tryz.prog 32 #[.pointer (some ⟨rb, 0, none⟩), .agg (cellsU8 (chK S 4)).toArray, .int .i64 3] w' (WEnd w.heap.size 5 (fun _ => False) w' rb ((aR6 S, []), 13))) := kp (fun rb w' hB h => by have h1 := W_Learn (N := 5) (by decide) h hB (chK S 4) (chK_length S 4) 3 (by decide); rw [a7] at h1; exact h1)
  have q1 : Kp (∀ rb w', VR w.heap.size 2 (fun _ => False) w' rb (aR1 S) → Calls Tryz.prog 34 #[.pointer (some ⟨rb, 0, none⟩)] w' fun e w'' => e = .returned (.int .i64 1) ∧ w' = w'') := kp (fun rb w' h => W_Waits h)
  have q2 : Kp (∀ rb w', VR w.heap.size 5 (fun _ => False) w' rb (aR6 S) → Calls Tryz.prog 33 #[.pointer (some ⟨rb, 0, none⟩)] w' fun e w'' => e = .returned (.int .i64 3) ∧ w' = w'') := kp (fun rb w' h => W_At h)
  have q3 : Kp (∀ rb w', VR w.heap.size 5 (fun _ => False) w' rb (aR6 S) → Calls Tryz.prog 34 #[.pointer (some ⟨rb, 0, none⟩)] w' fun e w'' => e = .returned (.int .i64 0) ∧ w' = w'') := kp (fun rb w' h => W_Waits h)
  have q4 : Kp (∀ rb w', VR w.heap.size 5 (fun _ => False) w' rb (aR6 S) → Calls Tryz.prog 35 #[.pointer (some ⟨rb, 0, none⟩), .int .i64 1] w' fun e w'' => e = .returned (.int .i64 1) ∧ w' = w'') := kp (fun rb w' h => W_Believed h 1 (by decide))
  clear a1 a2 a3 a4 a7
  have k1 : Kp (∀ w', Calls Tryz.prog 39 #[.agg (cellsU8 S).toArray, .int .i64 5, .int .i64 1] w' fun e w'' => e = .returned (.tuple #[.agg (cellsU8 (chK S 4)).toArray, .int .i64 0]) ∧ Below w'.heap.size w' w'') := kp (fun w' => R_Key_good S HO.out 5 1 4 (by decide) (by decide) (by decide) (by decide) (by decide) w')
  have k3 : Kp (∀ w', Calls Tryz.prog 39 #[.agg (cellsU8 S).toArray, .int .i64 5, .int .i64 3] w' fun e w'' => e = .returned (.tuple #[.agg (cellsU8 (chK S 2)).toArray, .int .i64 0]) ∧ Below w'.heap.size w' w'') := kp (fun w' => R_Key_good S HO.out 5 3 2 (by decide) (by decide) (by decide) (by decide) (by decide) w')
  have k0 : Kp (∀ w', Calls Tryz.prog 39 #[.agg (cellsU8 S).toArray, .int .i64 5, .int .i64 0] w' fun e w'' => e = .returned (.tuple #[.agg (cellsU8 (chK S 5)).toArray, .int .i64 0]) ∧ Below w'.heap.size w' w'') := kp (fun w' => R_Key_good S HO.out 5 0 5 (by decide) (by decide) (by decide) (by decide) (by decide) w')
  have h2 := chK_length S 2
  have h4 := chK_length S 4
  have h5 := chK_length S 5
  have r1 := kp (fun w' => R12_Tag (chK S 4) 1 ⟨#[111, 110, 101]⟩ h4 (by decide) w')
  have r3 := kp (fun w' => R12_Tag (chK S 2) 3 ⟨#[116, 104, 114, 101, 101]⟩ h2 (by decide) w')
  clear hne
  obtain ⟨Ra, hRa⟩ : ∃ R, aR0 S = R := ⟨_, rfl⟩
  obtain ⟨Rb, hRb⟩ : ∃ R, aR1 S = R := ⟨_, rfl⟩
  obtain ⟨Rd, hRd⟩ : ∃ R, aR3 S = R := ⟨_, rfl⟩
  obtain ⟨Rf, hRf⟩ : ∃ R, aR6 S = R := ⟨_, rfl⟩
  rw [hRa] at cN g1
  rw [hRb] at g1 g2 g3 q1
  rw [hRd] at g3 g4 g5 g6
  rw [hRf] at g6 g7 q2 q3 q4
  clear hRa hRb hRd hRf
  obtain ⟨TA, hTA⟩ : ∃ T, (str (tagD (chK S 4) 1 ⟨#[111, 110, 101]⟩)) = T := ⟨_, rfl⟩
  rw [hTA] at r1 g1 g2 g4
  obtain ⟨TB, hTB⟩ : ∃ T, (str (tagD (chK S 2) 3 ⟨#[116, 104, 114, 101, 101]⟩)) = T := ⟨_, rfl⟩
  rw [hTB] at r3 g3
  clear hTA hTB
  generalize chK S 2 = A2 at *
  generalize chK S 4 = A4 at *
  generalize chK S 5 = A5 at *
  have l1 := pkL_length (iv := 1) (t := ⟨#[111, 110, 101]⟩) (g := TA) (tl := 0) zeroK_length
  have o1 := kp (pkL_one 1 ⟨#[111, 110, 101]⟩ TA 0 zeroK)
  have b1 := kp (fun W => build_pk2 1 ⟨#[111, 110, 101]⟩ TA W)
  obtain ⟨P1, hP1⟩ : ∃ P, pkL 1 ⟨#[111, 110, 101]⟩ TA 0 zeroK = P := ⟨_, rfl⟩
  rw [hP1] at g1 g2 g4 l1 o1 b1
  have l3 := pkL_length (iv := 3) (t := ⟨#[116, 104, 114, 101, 101]⟩) (g := TB) (tl := 1) h4
  have o3 := kp (pkL_one 3 ⟨#[116, 104, 114, 101, 101]⟩ TB 1 A4)
  have b3 := kp (fun W => build_pk5 3 ⟨#[116, 104, 114, 101, 101]⟩ TB 1 A4 h4 W)
  obtain ⟨P3, hP3⟩ : ∃ P, pkL 3 ⟨#[116, 104, 114, 101, 101]⟩ TB 1 A4 = P := ⟨_, rfl⟩
  rw [hP3] at g3 l3 o3 b3
  have b9 := kp (fun W => build_pk1 9 W)
  obtain ⟨P9, hP9⟩ : ∃ P, pkL 9 ByteArray.empty ByteArray.empty 0 zeroK = P := ⟨_, rfl⟩
  rw [hP9] at g5 b9
  clear hP1 hP3 hP9
  have H2 := kp h2
  have H4 := kp h4
  have H5 := kp h5
  have L1 := kp l1
  have L3 := kp l3
  clear h2 h4 h5 l1 l3
  have LP := kp (planL_length 0 10 2 5)
  have OP := kp (planL_one 0 10 2 5)
  obtain ⟨PL, hPL⟩ : ∃ PL, planL 0 10 2 5 = PL := ⟨_, rfl⟩
  rw [hPL] at cN cM LP OP
  have HPL := kp hPL
  clear hPL
  have LZ := kp zeroPk_length
  have HZP : Kp (∀ W : World, (Instr.loadAt 40 (.pointer none)).run Tryz.prog W = (Instr.loadAt 40 (.pointer none)).run Tryz.prog W) := kp (fun _ => rfl)
  clear HZP
  have HB := kp (Below.refl w.heap.size w)
  go_enter Tryz.func27, Tryz.ntmps27
  have hlen_1 := LP.out
  have SC_1 := fun (cur : Array Value) (h : cur.size = 4) => sc_new (P := Tryz.prog) w 29 PL (OP.out) cur (by rw [hlen_1]; exact h)
  have hge_p := kp HB.out.size
  have HB := kp (ba HB.out (.cells PL.toArray 29))
  have K_p := kp (Blk.new w 29 PL.toArray)
  go_upto_region 2 with (refine wpL_val 30 rfl rfl (.agg PL.toArray) (by rw [← HPL.out]; kernel_rfl) ?_)
  clear SC_1 hlen_1
  generalize w.alloc (.cells PL.toArray 29) = W_1 at K_p HB ⊢
  generalize w.heap.size = b_p at K_p hge_p ⊢
  have hlen_2 := key_cells _ HO.out
  have SC_2 := fun (cur : Array Value) (h : cur.size = 32) => sc_new (P := Tryz.prog) W_1 27 (cellsU8 S) (cellsU8_one _) cur (by rw [hlen_2]; exact h)
  have hge_s := kp HB.out.size
  have K_p := kp (K_p.out.alloc (.cells (cellsU8 S).toArray 27))
  have HB := kp (ba HB.out (.cells (cellsU8 S).toArray 27))
  have K_s := kp (Blk.new W_1 27 (cellsU8 S).toArray)
  go_upto_region 3 with (refine wpL_val 31 rfl rfl (.agg (cellsU8 S).toArray) (by rw [← HSS.out]; kernel_rfl) ?_)
  clear SC_2 hlen_2
  generalize W_1.alloc (.cells (cellsU8 S).toArray 27) = W_2 at K_p K_s HB ⊢
  generalize W_1.heap.size = b_s at K_s hge_s ⊢
  have L_s := ldK S HO.out K_s.out
  go_wp2_with (refine wpL_load rfl 27 _ rfl rfl L_s ?_)
  clear L_s
  refine (k0.out _).mono ?_
  rintro e w_3 ⟨rfl, hb_3⟩
  have K_p := kp (K_p.out.bel hb_3)
  have K_s := kp (K_s.out.bel hb_3)
  have HB := kp (bt' HB.out hb_3 HB.out.size)
  clear hb_3
  have hlen_4 := key_cells _ H5.out
  have SC_4 := fun (cur : Array Value) (h : cur.size = 32) => sc_new (P := Tryz.prog) w_3 27 (cellsU8 A5) (cellsU8_one _) cur (by rw [hlen_4]; exact h)
  have hge_k0 := kp HB.out.size
  have K_p := kp (K_p.out.alloc (.cells (cellsU8 A5).toArray 27))
  have K_s := kp (K_s.out.alloc (.cells (cellsU8 A5).toArray 27))
  have HB := kp (ba HB.out (.cells (cellsU8 A5).toArray 27))
  have K_k0 := kp (Blk.new w_3 27 (cellsU8 A5).toArray)
  go_upto_region 4 with (fail)
  clear SC_4 hlen_4
  generalize w_3.alloc (.cells (cellsU8 A5).toArray 27) = W_4 at K_p K_s K_k0 HB ⊢
  generalize w_3.heap.size = b_k0 at K_k0 hge_k0 ⊢
  have L_s := ldK S HO.out K_s.out
  go_wp2_with (refine wpL_load rfl 27 _ rfl rfl L_s ?_)
  clear L_s
  refine (k1.out _).mono ?_
  rintro e w_5 ⟨rfl, hb_5⟩
  have K_p := kp (K_p.out.bel hb_5)
  have K_s := kp (K_s.out.bel hb_5)
  have K_k0 := kp (K_k0.out.bel hb_5)
  have HB := kp (bt' HB.out hb_5 HB.out.size)
  clear hb_5
  have hlen_6 := key_cells _ H4.out
  have SC_6 := fun (cur : Array Value) (h : cur.size = 32) => sc_new (P := Tryz.prog) w_5 27 (cellsU8 A4) (cellsU8_one _) cur (by rw [hlen_6]; exact h)
  have hge_k1 := kp HB.out.size
  have K_p := kp (K_p.out.alloc (.cells (cellsU8 A4).toArray 27))
  have K_s := kp (K_s.out.alloc (.cells (cellsU8 A4).toArray 27))
  have K_k0 := kp (K_k0.out.alloc (.cells (cellsU8 A4).toArray 27))
  have HB := kp (ba HB.out (.cells (cellsU8 A4).toArray 27))
  have K_k1 := kp (Blk.new w_5 27 (cellsU8 A4).toArray)
  go_upto_region 5 with (fail)
  clear SC_6 hlen_6
  generalize w_5.alloc (.cells (cellsU8 A4).toArray 27) = W_6 at K_p K_s K_k0 K_k1 HB ⊢
  generalize w_5.heap.size = b_k1 at K_k1 hge_k1 ⊢
  have L_s := ldK S HO.out K_s.out
  go_wp2_with (refine wpL_load rfl 27 _ rfl rfl L_s ?_)
  clear L_s
  refine (k3.out _).mono ?_
  rintro e w_7 ⟨rfl, hb_7⟩
  have K_p := kp (K_p.out.bel hb_7)
  have K_s := kp (K_s.out.bel hb_7)
  have K_k0 := kp (K_k0.out.bel hb_7)
  have K_k1 := kp (K_k1.out.bel hb_7)
  have HB := kp (bt' HB.out hb_7 HB.out.size)
  clear hb_7
  have hlen_8 := key_cells _ H2.out
  have SC_8 := fun (cur : Array Value) (h : cur.size = 32) => sc_new (P := Tryz.prog) w_7 27 (cellsU8 A2) (cellsU8_one _) cur (by rw [hlen_8]; exact h)
  have hge_k3 := kp HB.out.size
  have K_p := kp (K_p.out.alloc (.cells (cellsU8 A2).toArray 27))
  have K_s := kp (K_s.out.alloc (.cells (cellsU8 A2).toArray 27))
  have K_k0 := kp (K_k0.out.alloc (.cells (cellsU8 A2).toArray 27))
  have K_k1 := kp (K_k1.out.alloc (.cells (cellsU8 A2).toArray 27))
  have HB := kp (ba HB.out (.cells (cellsU8 A2).toArray 27))
  have K_k3 := kp (Blk.new w_7 27 (cellsU8 A2).toArray)
  go_upto_region 6 with (fail)
  clear SC_8 hlen_8
  generalize w_7.alloc (.cells (cellsU8 A2).toArray 27) = W_8 at K_p K_s K_k0 K_k1 K_k3 HB ⊢
  generalize w_7.heap.size = b_k3 at K_k3 hge_k3 ⊢
  clear K_s
  have L_k0 := ldK A5 H5.out K_k0.out
  have L_p := ld_all (P := Tryz.prog) b_p 4 29 29 PL _ Tryz.underlying29 rfl info_plan LP.out K_p.out
  go_wp2_with (first | (refine wpL_load rfl 27 _ rfl rfl L_k0 ?_) | (refine wpL_load rfl 29 _ rfl rfl L_p ?_))
  clear L_k0 L_p
  refine (cN.out _ HB.out.size).mono ?_
  rintro e w_9 ⟨rb_r, rfl, hv_9, hb_9⟩
  have K_p := kp (K_p.out.bel hb_9)
  have K_k0 := kp (K_k0.out.bel hb_9)
  have K_k1 := kp (K_k1.out.bel hb_9)
  have K_k3 := kp (K_k3.out.bel hb_9)
  have HB := kp (bt' HB.out hb_9 HB.out.size)
  have V_r := kp hv_9
  clear hv_9 hb_9
  have L_k0 := ldK A5 H5.out K_k0.out
  have L_p := ld_all (P := Tryz.prog) b_p 4 29 29 PL _ Tryz.underlying29 rfl info_plan LP.out K_p.out
  go_wp2_with (first | (refine wpL_load rfl 27 _ rfl rfl L_k0 ?_) | (refine wpL_load rfl 29 _ rfl rfl L_p ?_))
  clear L_k0 L_p
  refine (cM.out _).mono ?_
  rintro e w_10 ⟨rfl, hb_10⟩
  have V_r := kp (V_r.out.bel hb_10)
  have K_p := kp (K_p.out.bel hb_10)
  have K_k0 := kp (K_k0.out.bel hb_10)
  have K_k1 := kp (K_k1.out.bel hb_10)
  have K_k3 := kp (K_k3.out.bel hb_10)
  have HB := kp (bt' HB.out hb_10 HB.out.size)
  clear hb_10
  clear K_k0 K_p
  have L_k1 := ldK A4 H4.out K_k1.out
  go_wp2_with (refine wpL_load rfl 27 _ rfl rfl L_k1 ?_)
  clear L_k1
  refine (r1.out _).mono ?_
  rintro e w_11 ⟨rfl, hb_11⟩
  have V_r := kp (V_r.out.bel hb_11)
  have K_k1 := kp (K_k1.out.bel hb_11)
  have K_k3 := kp (K_k3.out.bel hb_11)
  have HB := kp (bt' HB.out hb_11 HB.out.size)
  clear hb_11
  have hlen_12 := L1.out
  have SC_12 := fun (cur : Array Value) (h : cur.size = 36) => sc_new (P := Tryz.prog) w_11 40 P1 (o1.out) cur (by rw [hlen_12]; exact h)
  have hge_x := kp HB.out.size
  have V_r := kp (V_r.out.bel (ba (Below.refl _ _) (.cells P1.toArray 40)))
  have K_k1 := kp (K_k1.out.alloc (.cells P1.toArray 40))
  have K_k3 := kp (K_k3.out.alloc (.cells P1.toArray 40))
  have HB := kp (ba HB.out (.cells P1.toArray 40))
  have K_x := kp (Blk.new w_11 40 P1.toArray)
  go_upto_region 11 with (refine wpL_val 63 rfl rfl (.agg P1.toArray) (exec_build rfl (by simp [Act.eval]) (b1.out _)) ?_)
  clear SC_12 hlen_12
  generalize w_11.alloc (.cells P1.toArray 40) = W_12 at K_k1 K_k3 K_x V_r HB ⊢
  generalize w_11.heap.size = b_x at K_x hge_x ⊢
  refine wp_region_mkE [0, 1, 2, 3] [4] [5] 194 (fun _ => VA W_12.heap.size 40 zeroPk.toArray) (· ≠ ·) (by kernel_rfl) (by kernel_rfl) rfl (fun i v W W' h hb => h.mono hb) ?_
  apply Exists.intro
  refine ⟨fun X hX => ?_, ?_, ?_⟩
  · have Q1 := kp (fun x => ldK A2 H2.out ((K_k3.out.bel hX).bel (ext_below X x)))
    have Q2 := kp (fun x => ldK A4 H4.out ((K_k1.out.bel hX).bel (ext_below X x)))
    simp only [List.map_cons, List.map_nil, List.getD_cons_succ, List.getD_cons_zero]
    repeat (first
      | (go_big_quiet_want; refine quiet_load _ rfl 27 _ rfl rfl (fun w hw => by obtain ⟨x, rfl⟩ := hw; exact Q1.out x) ?_; go_simp; go_big_quiet_on)
      | (go_big_quiet_want; refine quiet_load _ rfl 27 _ rfl rfl (fun w hw => by obtain ⟨x, rfl⟩ := hw; exact Q2.out x) ?_; go_simp; go_big_quiet_on)
      | (go_big_quiet_want; refine quiet_val 67 rfl (.agg P3.toArray) (fun w _ => exec_build rfl (by simp [Act.eval]) (b3.out w)) ?_; go_simp; go_big_quiet_on)
      | go_big_quiet_step ((go_at_call 58; with_reducible exact Calls.ext_of (r3.out _))))
    exact wpQuiet_nil rfl
  · exact ⟨mk_alloc rfl (fun W => by kernel_rfl) (fun j u W h => h.ne), trivial⟩
  intro ev _
  simp only [List.map_cons, List.map_nil, List.getD_cons_succ, List.getD_cons_zero, TailX]
  rintro X hX ⟨_, b_y, rfl, hby, hky⟩
  have hl3 := L3.out
  have SC3 := sc_all (P := Tryz.prog) (w := X) b_y 40 P3 _ hky (by rw [L3.out]; rfl) o3.out
  have hbr := bsr hX hby hX.size P3.toArray
  have K_y := kp (hky.row P3.toArray)
  have V_r := kp (V_r.out.bel hbr)
  have K_k1 := kp (K_k1.out.bel hbr)
  have K_k3 := kp (K_k3.out.bel hbr)
  have K_x := kp (K_x.out.bel hbr)
  have HB := kp (bt' HB.out hbr HB.out.size)
  clear hX hky hby hbr
  go_upto_region 12 with (fail)
  clear SC3 hl3
  generalize X.setRow b_y P3.toArray = X_9 at K_k1 K_k3 K_x K_y V_r HB ⊢
  have L_x := ld_all (P := Tryz.prog) b_x 36 40 40 P1 _ Tryz.underlying40 rfl info_pk L1.out K_x.out
  go_wp2_with (refine wpL_load rfl 40 _ rfl rfl L_x ?_)
  clear L_x
  refine (g1.out _ _ HB.out.size V_r.out).mono ?_
  rintro e w_13 ⟨ad_13, cp_13, rfl, hv_13, hm_13, hl_13⟩
  have K_k1 := kp (hm_13.keep (by decide) (by decide) K_k1.out)
  have K_k3 := kp (hm_13.keep (by decide) (by decide) K_k3.out)
  have K_x := kp (hm_13.keep (by decide) (by decide) K_x.out)
  have K_y := kp (hm_13.keep (by decide) (by decide) K_y.out)
  have HB := kp (HB.out.trans hm_13.below)
  have V_r := kp hv_13
  clear hv_13 hm_13 hl_13
  have L_x := ld_all (P := Tryz.prog) b_x 36 40 40 P1 _ Tryz.underlying40 rfl info_pk L1.out K_x.out
  go_wp2_with (refine wpL_load rfl 40 _ rfl rfl L_x ?_)
  clear L_x
  refine (g2.out _ _ HB.out.size V_r.out).mono ?_
  rintro e w_14 ⟨ad_14, cp_14, rfl, hv_14, hm_14, hl_14⟩
  have K_k1 := kp (hm_14.keep (by decide) (by decide) K_k1.out)
  have K_k3 := kp (hm_14.keep (by decide) (by decide) K_k3.out)
  have K_x := kp (hm_14.keep (by decide) (by decide) K_x.out)
  have K_y := kp (hm_14.keep (by decide) (by decide) K_y.out)
  have HB := kp (HB.out.trans hm_14.below)
  have V_r := kp hv_14
  clear hv_14 hm_14 hl_14
  go_wp2_with fail
  refine (q1.out _ _ V_r.out).mono ?_
  rintro e w_15 ⟨rfl, rfl⟩
  have L_y := ld_all (P := Tryz.prog) b_y 36 40 40 P3 _ Tryz.underlying40 rfl info_pk L3.out K_y.out
  go_wp2_with (refine wpL_load rfl 40 _ rfl rfl L_y ?_)
  clear L_y
  refine (g3.out _ _ HB.out.size V_r.out).mono ?_
  rintro e w_16 ⟨ad_16, cp_16, rfl, hv_16, hm_16, hl_16⟩
  have hl_16 := kp (hl_16.mono HB.out.size)
  have K_k1 := kp (hm_16.keep (by decide) (by decide) K_k1.out)
  have K_k3 := kp (hm_16.keep (by decide) (by decide) K_k3.out)
  have K_x := kp (hm_16.keep (by decide) (by decide) K_x.out)
  have K_y := kp (hm_16.keep (by decide) (by decide) K_y.out)
  have HB := kp (HB.out.trans hm_16.below)
  have V_r := kp hv_16
  have L_b := hl_16
  clear hv_16 hm_16 hl_16
  have L_x := ld_all (P := Tryz.prog) b_x 36 40 40 P1 _ Tryz.underlying40 rfl info_pk L1.out K_x.out
  go_wp2_with (refine wpL_load rfl 40 _ rfl rfl L_x ?_)
  clear L_x
  refine (g4.out _ _ HB.out.size V_r.out).mono ?_
  rintro e w_17 ⟨ad_17, cp_17, rfl, hv_17, hm_17, hl_17⟩
  have K_k1 := kp (hm_17.keep (by decide) (by decide) K_k1.out)
  have K_k3 := kp (hm_17.keep (by decide) (by decide) K_k3.out)
  have K_x := kp (hm_17.keep (by decide) (by decide) K_x.out)
  have K_y := kp (hm_17.keep (by decide) (by decide) K_y.out)
  have L_b := kp (L_b.out.mvQ hm_17 (by decide) (by decide))
  have HB := kp (HB.out.trans hm_17.below)
  have V_r := kp hv_17
  clear hv_17 hm_17 hl_17
  go_wp2_with (refine wpL_val 96 rfl rfl (.agg P9.toArray) (exec_build rfl (by simp [Act.eval]) (b9.out _)) ?_)
  refine (g5.out _ _ HB.out.size V_r.out).mono ?_
  rintro e w_18 ⟨ad_18, cp_18, rfl, hv_18, hm_18, hl_18⟩
  have K_k1 := kp (hm_18.keep (by decide) (by decide) K_k1.out)
  have K_k3 := kp (hm_18.keep (by decide) (by decide) K_k3.out)
  have K_x := kp (hm_18.keep (by decide) (by decide) K_x.out)
  have K_y := kp (hm_18.keep (by decide) (by decide) K_y.out)
  have L_b := kp (L_b.out.mvQ hm_18 (by decide) (by decide))
  have HB := kp (HB.out.trans hm_18.below)
  have V_r := kp hv_18
  clear hv_18 hm_18 hl_18
  clear K_x K_y
  have L_k3 := ldK A2 H2.out K_k3.out
  go_wp2_with (refine wpL_load rfl 27 _ rfl rfl L_k3 ?_)
  clear L_k3
  refine (g6.out _ _ HB.out.size V_r.out).mono ?_
  rintro e w_19 ⟨ad_19, cp_19, rfl, hv_19, hm_19, hl_19⟩
  have hl_19 := kp (hl_19.mono HB.out.size)
  have K_k1 := kp (hm_19.keep (by decide) (by decide) K_k1.out)
  have K_k3 := kp (hm_19.keep (by decide) (by decide) K_k3.out)
  have L_b := kp (L_b.out.mvQ hm_19 (by decide) (by decide))
  have HB := kp (HB.out.trans hm_19.below)
  have V_r := kp hv_19
  have L_c := hl_19
  clear hv_19 hm_19 hl_19
  have L_k1 := ldK A4 H4.out K_k1.out
  go_wp2_with (refine wpL_load rfl 27 _ rfl rfl L_k1 ?_)
  clear L_k1
  refine (g7.out _ _ HB.out.size V_r.out).mono ?_
  rintro e w_20 ⟨ad_20, cp_20, rfl, hv_20, hm_20, hl_20⟩
  have K_k1 := kp (hm_20.keep (by decide) (by decide) K_k1.out)
  have K_k3 := kp (hm_20.keep (by decide) (by decide) K_k3.out)
  have L_b := kp (L_b.out.mvQ hm_20 (by decide) (by decide))
  have L_c := kp (L_c.out.mvQ hm_20 (by decide) (by decide))
  have HB := kp (HB.out.trans hm_20.below)
  have V_r := kp hv_20
  clear hv_20 hm_20 hl_20
  clear K_k1 K_k3
  go_upto_region 20 with (fail)
  obtain ⟨gb, ob, rfl, hgb1, hgb⟩ := L_b.out.some_ (by decide)
  obtain ⟨gc, oc, rfl, hgc1, hgc⟩ := L_c.out.some_ (by decide)
  have y0 := L_b.out.cells (j := 0) (v := .int .i64 1) rfl
  have y1 := L_b.out.cells (j := 1) (v := .string ⟨#[111, 110, 101]⟩) rfl
  have z1 := L_c.out.cells (j := 1) (v := .string ⟨#[116, 104, 114, 101, 101]⟩) rfl
  have LT := kp (fun x => ld_row (P := Tryz.prog) (w := w_20.ext x) gb ob 2 71 [.int .i64 1, .string ⟨#[111, 110, 101]⟩] _ Tryz.underlying71 rfl info_thg rfl (fun j v hv => by
    have h := (L_b.out.bel (ext_below w_20 x)).cells (j := j) (v := v) hv
    exact h))
  have HV := kp (fun x => V_r.out.bel (ext_below w_20 x))
  refine wp_region_extP 83 ?_
  simp only [List.append_eq, List.cons_append, List.nil_append, List.take_succ_cons, List.take_zero, List.drop_succ_cons, List.drop_zero, List.take_nil, List.drop_nil]
  repeat (first
    | (go_big_quiet_want; refine quiet_load _ rfl 71 _ rfl rfl (fun w hw => by obtain ⟨x, rfl⟩ := hw; exact LT.out x) ?_; go_simp; go_big_quiet_on)
    | (go_big_quiet_want; refine quiet_val 145 rfl (.bool true) (fun w _ => exec_eqs eqT_thg rfl (vs := [.int .i64 1, .txt ⟨#[111, 110, 101]⟩]) (us := [.int .i64 1, .txt ⟨#[111, 110, 101]⟩]) rfl rfl ⟨rfl, trivial, trivial⟩ ⟨rfl, trivial, trivial⟩ rfl rfl (by simp [Fv.eqAll, Fv.eq1]) w) ?_; go_simp; go_big_quiet_on)
    | go_big_quiet_step (first | (go_at_call 33; with_reducible exact Calls.ext_same (q2.out _ _ (HV.out _))) | (go_at_call 34; with_reducible exact Calls.ext_same (q3.out _ _ (HV.out _))) | (go_at_call 35; with_reducible exact Calls.ext_same (q4.out _ _ (HV.out _)))))
  refine wpQuiet_nil ?_
  rintro z
  go_wp2
  go_ret
  exact ⟨rfl, bt' HB.out (ext_below w_20 z) HB.out.size⟩
end Go.Proofs.YtmblknknbbdmeaaGreat
/- a drawing region: a chain beside an operation that may come at any time; then operations of fixed values. -/
namespace Go.Proofs.YtmblknknbbdmeaaGreat
open Go Go.RowKit
set_option linter.unusedVariables false
set_option linter.unusedSimpArgs false
section
variable {P : Program} {ops : Array Oper} {md : Region.Mode} {Q : Exit → Act → World → Prop} {S : World → Prop} {V : Value → World → Prop} {pf : World → Prop}
/-- .. taken in a state whose slot dx was written -/
theorem TakeOK.put (hs : Region.noSelect ops = true) (dx : Nat) (u : Value) : ∀ (es : List (Nat × Nat)) (vs : List Value) (a : Act), (∀ e ∈ es, e.1 < ops.size ∧ e.2 ≠ dx ∧ ((ops.getD e.1 default).looksAt ops).contains dx = false ∧ (ops.getD e.1 default).guard = none) → TakeOK P ops S es vs a → TakeOK P ops S es vs (a.put (some dx) u)
  | [], vs, a, _, h => by
    match vs, h with
    | [], h => exact h
  | e :: es, vs, a, hl, h => by
    match vs, h with
    | v :: vs, h =>
      obtain ⟨z, hd, hlk, hg⟩ := hl e (by simp)
      have s1 : ∀ cs b, (ops.getD e.1 default).op ≠ .select cs b := fun cs b => Region.noSelect_spec hs e.1 _ cs b (getD_some z)
      refine ⟨?_, ?_⟩
      · rcases h.1 with ⟨hw, hv⟩ | ⟨hw, _⟩
        · exact Or.inl ⟨by unfold Region.wanted; rw [hg], fun w hS => by rw [exec_put s1 _ _ _ hlk]; exact hv w hS⟩
        · unfold Region.wanted at hw; rw [hg] at hw; cases hw
      · rw [put_comm _ _ _ hd.symm]
        exact TakeOK.put hs dx u es vs _ (fun e' he' => hl e' (by simp [he'])) h.2
theorem putAll_comm (dx : Nat) (u : Value) : ∀ (es : List (Nat × Nat)) (vs : List Value) (a : Act), (∀ e ∈ es, e.2 ≠ dx) → putAll (a.put (some dx) u) es vs = (putAll a es vs).put (some dx) u
  | [], vs, a, _ => by cases vs <;> rfl
  | e :: es, vs, a, hl => by
    cases vs with
    | nil => rfl
    | cons v vs =>
      show putAll ((a.put (some dx) u).put (some e.2) v) es vs = _
      rw [put_comm _ _ _ (hl e (by simp)).symm, putAll_comm dx u es vs _ (fun e' he' => hl e' (by simp [he']))]
      rfl
/-- the closed facts of what is taken behind a chain -/
def lateB (md : Region.Mode) (ops : Array Oper) (x dx : Nat) (es : List (Nat × Nat)) (listed : Array Bool) : Bool :=
  takeB md ops es listed && takeB md ops es (listed.setIfInBounds x true) && (Region.ready md ops (setAll listed es) != []) && (Region.ready md ops (setAll listed es)).all (· == x) &&
  es.all fun e => decide (e.1 < ops.size) && decide (e.1 ≠ x) && decide (e.2 ≠ dx) && (((ops.getD e.1 default).looksAt ops).contains dx == false) && (((ops.getD x default).looksAt ops).contains e.2 == false) && ((ops.getD e.1 default).guard == none)
def combEB (md : Region.Mode) (ops : Array Oper) (x dx : Nat) (es2 : List (Nat × Nat)) : List (Nat × Nat) → Array Bool → Bool
  | [], listed => lateB md ops x dx es2 listed
  | e :: es, listed => (Region.ready md ops listed != []) && (Region.ready md ops listed).all (fun k => k == e.1 || k == x) && decide (e.1 < ops.size) && ((ops.getD e.1 default).guard == none) && ((ops.getD e.1 default).dst == some e.2) && decide (e.1 ≠ x) && decide (e.2 ≠ dx) && (((ops.getD e.1 default).looksAt ops).contains dx == false) && (((ops.getD x default).looksAt ops).contains e.2 == false) &&
    combEB md ops x dx es2 es (listed.setIfInBounds e.1 true) && seqSB md ops (e :: es) (listed.setIfInBounds x true)
theorem combEB_all {x dx : Nat} {es2 : List (Nat × Nat)} : ∀ (es : List (Nat × Nat)) (listed : Array Bool), combEB md ops x dx es2 es listed = true → (∀ e ∈ es, e.1 < ops.size ∧ e.1 ≠ x ∧ e.2 ≠ dx ∧ ((ops.getD e.1 default).looksAt ops).contains dx = false) ∧ lateB md ops x dx es2 (setAll listed es) = true
  | [], _, hB => ⟨fun e he => (by cases he), hB⟩
  | e0 :: es, listed, hB => by
    unfold combEB at hB
    simp only [Bool.and_eq_true, decide_eq_true_eq, beq_iff_eq] at hB
    obtain ⟨⟨⟨⟨⟨⟨⟨⟨⟨⟨_, _⟩, b2⟩, b3⟩, b4⟩, b5⟩, b6⟩, b7⟩, b8⟩, b9⟩, b10⟩ := hB
    obtain ⟨h1, h2⟩ := combEB_all es _ b9
    refine ⟨fun e he => ?_, h2⟩
    rcases List.mem_cons.1 he with rfl | he
    · exact ⟨b2, b5, b6, b7⟩
    · exact h1 e he
theorem exec_putAll {o : Oper} (hs : ∀ cs b, o.op ≠ .select cs b) : ∀ (es : List (Nat × Nat)) (vs : List Value) (a : Act), (∀ e ∈ es, (o.looksAt ops).contains e.2 = false) → execOp (putAll a es vs).eval o = execOp a.eval o
  | [], vs, a, _ => by cases vs <;> rfl
  | e :: es, vs, a, hl => by
    cases vs with
    | nil => rfl
    | cons v vs =>
      show execOp (putAll (a.put (some e.2) v) es vs).eval o = _
      rw [exec_putAll hs es vs _ (fun e' he' => hl e' (by simp [he'])), exec_put hs _ _ _ (hl e (by simp))]
/-- a chain beside an operation that may come at any time; then operations of fixed values, that may come ahead of it -/
theorem combE (hs : Region.noSelect ops = true) (hQ : ∀ c (a : Act) d v w, Q (.panic c) (a.put d v) w → Q (.panic c) a w) (x dx : Nat) (hx0 : x < ops.size) (hxg : (ops.getD x default).guard = none) (hxd : (ops.getD x default).dst = some dx) (es2 : List (Nat × Nat)) (vs2 : List Value) : ∀ (es : List (Nat × Nat)) (vs : List Value) (p : World → Prop) (ps : List (World → Prop)) (listed : Array Bool) (a : Act) (w : World) (fuel : Nat),
    combEB md ops x dx es2 es listed = true → ChainOK P ops S V pf es vs (p :: ps) a → TakeOK P ops S es2 vs2 (putAll a es vs) →
    (∀ q ∈ p :: ps, ∀ W, S W → q W → ∃ u W', (execOp a.eval (ops.getD x default)).run P W = .ok (.value u) W' ∧ S W' ∧ q W' ∧ V u W') → S w → p w →
    (∀ u W, S W → pf W → V u W → wpAnyH P md ops Q S fuel (setAll (setAll (listed.setIfInBounds x true) es) es2) (putAll (putAll (a.put (some dx) u) es vs) es2 vs2) W) → wpAnyH P md ops Q S (fuel + es2.length + 1 + es.length) listed a w
  | [], vs, p, ps, listed, a, w, fuel, hB, hT, hTk, hX, hS, hp, h => by
    match vs, ps, hT with
    | [], [], hT =>
      unfold combEB lateB at hB
      simp only [Bool.and_eq_true, beq_iff_eq, bne_iff_ne, ne_eq, List.all_eq_true, decide_eq_true_eq] at hB
      obtain ⟨⟨⟨⟨t1, t2⟩, r1⟩, r2⟩, al⟩ := hB
      have sx : ∀ cs b, (ops.getD x default).op ≠ .select cs b := fun cs b => Region.noSelect_spec hs x _ cs b (getD_some hx0)
      show wpAnyH P md ops Q S (fuel + es2.length + 1) listed a w
      rw [show fuel + es2.length + 1 = fuel + 1 + es2.length by omega]
      refine takeAll hs hQ es2 vs2 _ _ _ _ t1 hTk hS ?_
      refine ⟨fun h0 => absurd h0 r1, fun i hi => ?_⟩
      obtain rfl := r2 i hi
      obtain ⟨u, W', h1, h2, h3, h4⟩ := hX p (by simp) w hS hp
      refine StepTo.wpOp hx0 hxg hxd (C := fun W'' => W'' = W') (Or.inl ⟨W', by rw [exec_putAll sx es2 vs2 a (fun e he => (al e he).1.2)]; exact h1, rfl⟩) fun W'' e => ?_
      subst e
      have hh := h u _ h2 (hT _ h3) h4
      rw [show setAll (setAll (listed.setIfInBounds i true) []) es2 = (setAll listed es2).setIfInBounds i true from setAll_comm i es2 listed (fun e he => (al e he).1.1.1.1.2)] at hh
      rw [show putAll (putAll (a.put (some dx) u) [] []) es2 vs2 = (putAll a es2 vs2).put (some dx) u from putAll_comm dx u es2 vs2 a (fun e he => (al e he).1.1.1.2)] at hh
      exact ⟨h2, hh⟩
  | e :: es, vs, p, ps, listed, a, w, fuel, hB, hT, hTk, hX, hS, hp, h => by
    match vs, ps, hT with
    | v :: vs, q :: ps, hT =>
      have hB0 := hB
      unfold combEB at hB
      simp only [Bool.and_eq_true, decide_eq_true_eq, beq_iff_eq, bne_iff_ne, ne_eq, List.all_eq_true, Bool.or_eq_true] at hB
      obtain ⟨⟨⟨⟨⟨⟨⟨⟨⟨⟨b0, b1⟩, b2⟩, b3⟩, b4⟩, b5⟩, b6⟩, b7⟩, b8⟩, b9⟩, b10⟩ := hB
      have sx : ∀ cs b, (ops.getD x default).op ≠ .select cs b := fun cs b => Region.noSelect_spec hs x _ cs b (getD_some hx0)
      show wpAnyH P md ops Q S (fuel + es2.length + 1 + es.length + 1) listed a w
      refine ⟨fun h0 => absurd h0 b0, fun i hi => ?_⟩
      rcases b1 i hi with rfl | rfl
      · refine StepTo.wpOp b2 b3 b4 (hT.1 w hS hp) fun W' ⟨c1, c2, c3⟩ => ⟨c1, ?_⟩
        refine combE hs hQ x dx hx0 hxg hxd es2 vs2 es vs q ps _ _ W' fuel b9 hT.2 hTk (fun r hr W hW hr2 => ?_) c1 c2 (fun u W hW hf hV => ?_)
        · rw [exec_put sx _ _ _ b8]
          exact hX r (by simp [List.mem_cons.1 hr]) W hW hr2
        · have := h u W hW hf hV
          rw [put_comm _ _ _ b6, Array.setIfInBounds_comm _ _ b5]
          exact this
      · obtain ⟨u, W', h1, h2, h3, h4⟩ := hX p (by simp) w hS hp
        refine StepTo.wpOp hx0 hxg hxd (C := fun W'' => W'' = W') (Or.inl ⟨W', h1, rfl⟩) fun W'' e' => ?_
        subst e'
        refine ⟨h2, ?_⟩
        obtain ⟨hall, hlate⟩ := combEB_all _ _ hB0
        unfold lateB at hlate
        simp only [Bool.and_eq_true, beq_iff_eq, bne_iff_ne, ne_eq, List.all_eq_true, decide_eq_true_eq] at hlate
        obtain ⟨⟨⟨⟨t1, t2⟩, r1⟩, r2⟩, al⟩ := hlate
        rw [show fuel + es2.length + 1 + es.length = fuel + es2.length + (e :: es).length by rw [List.length_cons]; omega]
        refine seqS_run u (e :: es) (v :: vs) p (q :: ps) _ _ _ (fuel + es2.length) b10 (ChainOK.put hs dx u _ _ _ _ (fun e' he' => ⟨(hall e' he').1, (hall e' he').2.2.1, (hall e' he').2.2.2⟩) hT) h2 h3 h4 (fun W c1 c2 c3 => ?_)
        refine takeAll hs hQ es2 vs2 _ _ _ _ ?_ ?_ c1 (h u W c1 c2 c3)
        · rw [setAll_comm i (e :: es) listed (fun e' he' => (hall e' he').2.1)]
          exact t2
        · rw [putAll_comm dx u (e :: es) (v :: vs) a (fun e' he' => (hall e' he').2.2.1)]
          exact TakeOK.put hs dx u es2 vs2 _ (fun e' he' => ⟨(al e' he').1.1.1.1.1, (al e' he').1.1.1.2, (al e' he').1.1.2, (al e' he').2⟩) hTk
end
end Go.Proofs.YtmblknknbbdmeaaGreat
/- Arguments opened to their leaves: structs, arrays, slices of them. -/
namespace Go.Proofs.YtmblknknbbdmeaaGreat
open Go Go.RowKit Go.ChangeShapes Go.WideShapes Go.ChangeAt Go.Deep
set_option linter.unusedVariables false
set_option linter.unusedSimpArgs false

inductive Leaf where
  | int (k : IntKind)
  | bool
  | str
def Leaf.fits : Leaf → Value → Prop
  | .int k, v => ∃ z, v = .int k z ∧ (Lit.int k z).wf = true
  | .bool, v => ∃ b, v = .bool b
  | .str, v => ∃ s : ByteArray, v = .string s ∧ s.size ≤ maxLen
def Fits : List Leaf → List Value → Prop
  | [], [] => True
  | l :: ls, v :: vs => l.fits v ∧ Fits ls vs
  | _, _ => False
theorem Fits.append : ∀ {a : List Leaf} {x : List Value} {b : List Leaf} {y : List Value}, Fits a x → Fits b y → Fits (a ++ b) (x ++ y)
  | [], [], _, _, _, h => h
  | _ :: _, _ :: _, _, _, h1, h2 => ⟨h1.1, Fits.append h1.2 h2⟩
theorem Fits.len : ∀ {a : List Leaf} {x : List Value}, Fits a x → x.length = a.length
  | [], [], _ => rfl
  | _ :: _, _ :: _, h => by simp [Fits.len h.2]

theorem Fits.int {k : IntKind} {ls : List Leaf} {r : List Value} (h : Fits (.int k :: ls) r) : ∃ z vs, r = .int k z :: vs ∧ (Lit.int k z).wf = true ∧ Fits ls vs := by
  cases r with
  | nil => exact h.elim
  | cons v vs => obtain ⟨⟨z, rfl, hz⟩, h2⟩ := h; exact ⟨z, vs, rfl, hz, h2⟩
theorem Fits.bool {ls : List Leaf} {r : List Value} (h : Fits (.bool :: ls) r) : ∃ z vs, r = .bool z :: vs ∧ Fits ls vs := by
  cases r with
  | nil => exact h.elim
  | cons v vs => obtain ⟨⟨z, rfl⟩, h2⟩ := h; exact ⟨z, vs, rfl, h2⟩
theorem Fits.str {ls : List Leaf} {r : List Value} (h : Fits (.str :: ls) r) : ∃ (s : ByteArray) (vs : List Value), r = .string s :: vs ∧ s.size ≤ maxLen ∧ Fits ls vs := by
  cases r with
  | nil => exact h.elim
  | cons v vs => obtain ⟨⟨z, rfl, hz⟩, h2⟩ := h; exact ⟨z, vs, rfl, hz, h2⟩
theorem Fits.nil {r : List Value} (h : Fits [] r) : r = [] := by
  cases r with
  | nil => rfl
  | cons v vs => exact h.elim

def fieldLeaves (P : Program) (L : TypeId → Option (List Leaf)) : Nat → List Field → Option (List Leaf)
  | _, [] => some []
  | o, f :: fs =>
    match L f.type, fieldLeaves P L (o + P.cellsOf f.type) fs with
    | some l, some r => if f.offset = o ∧ P.cellsOf f.type = l.length then some (l ++ r) else none
    | _, _ => none
def leaves (P : Program) : Nat → TypeId → Option (List Leaf)
  | 0, _ => none
  | n + 1, t =>
    match P.underlying t with
    | some .bool => some [.bool]
    | some (.int k) => some [.int k]
    | some .string => some [.str]
    | some (.struct fs) =>
      match fieldLeaves P (leaves P n) 0 fs.toList with
      | some r => if P.cellsOf t = r.length then some r else none
      | none => none
    | some (.array m e) =>
      match leaves P n e with
      | some l => if P.cellsOf e = l.length ∧ P.cellsOf t = m * l.length then some (List.replicate m l).flatten else none
      | none => none
    | _ => none

section
variable {H : Type} {enc : TypeId × Value → H} {P : Program} {w : World} {base : Nat} {spare : Nat → Bool} {held : Bool}

theorem fields_fit {L : TypeId → Option (List Leaf)} {cs : List Value}
    (hL : ∀ t l fuel c x, L t = some l → DataW.trod enc P w base spare held fuel t c = some x → Fits l c) :
    ∀ (fl : List Field) (o : Nat) (r : List Leaf), fieldLeaves P L o fl = some r → (∀ f ∈ fl, ∃ m y, DataW.trod enc P w base spare held m f.type ((cs.drop f.offset).take (P.cellsOf f.type)) = some y) →
      cs.length = o + r.length → Fits r (cs.drop o)
  | [], o, r, h, _, hlen => by
    simp only [fieldLeaves, Option.some.injEq] at h
    subst h
    rw [List.drop_of_length_le (by simpa using Nat.le_of_eq hlen)]
    trivial
  | f :: fl, o, r, h, hf, hlen => by
    unfold fieldLeaves at h
    split at h
    · rename_i l r' h1 h2
      split at h
      · rename_i hc
        obtain ⟨rfl, hk⟩ := hc
        simp only [Option.some.injEq] at h
        subst h
        rw [List.length_append] at hlen
        obtain ⟨m, y, hy⟩ := hf f (by simp)
        have := fields_fit hL fl _ r' h2 (fun g hg => hf g (by simp [hg])) (by rw [hlen, hk]; omega)
        have hl := hL _ _ _ _ _ h1 hy
        have e : cs.drop f.offset = (cs.drop f.offset).take (P.cellsOf f.type) ++ cs.drop (f.offset + P.cellsOf f.type) := by
          rw [← List.drop_drop, List.take_append_drop]
        rw [e]
        exact hl.append this
      · cases h
    · cases h

theorem rows_fit {l : List Leaf} {cs : List Value} (m : Nat) : ∀ (j : Nat), j ≤ m → cs.length = m * l.length → (∀ i, i < m → Fits l ((cs.drop (i * l.length)).take l.length)) → Fits (List.replicate j l).flatten (cs.drop ((m - j) * l.length))
  | 0, _, hlen, _ => by
    rw [Nat.sub_zero, List.drop_of_length_le (by omega)]
    trivial
  | j + 1, hj, hlen, h => by
    have := rows_fit m j (by omega) hlen h
    have h1 := h (m - (j + 1)) (by omega)
    have e : cs.drop ((m - (j + 1)) * l.length) = (cs.drop ((m - (j + 1)) * l.length)).take l.length ++ cs.drop ((m - j) * l.length) := by
      have e2 : (m - j) * l.length = (m - (j + 1)) * l.length + l.length := by
        rw [show m - j = (m - (j + 1)) + 1 by omega, Nat.succ_mul]
      rw [e2, ← List.drop_drop, List.take_append_drop]
    rw [e, List.replicate_succ, List.flatten_cons]
    exact h1.append this

theorem fits_of_trod : ∀ (n : Nat) (t : TypeId) (ls : List Leaf) (fuel : Nat) (cs : List Value) (x : DataW H × List MemPlace), leaves P n t = some ls → DataW.trod enc P w base spare held fuel t cs = some x → Fits ls cs
  | 0, _, _, _, _, _, h, _ => by simp [leaves] at h
  | n + 1, t, ls, fuel, cs, x, h, ht => by
    unfold leaves at h
    split at h
    · rename_i hu
      obtain ⟨b, rfl, _⟩ := DataW.trod_bool hu ht
      simp only [Option.some.injEq] at h; subst h
      exact ⟨⟨b, rfl⟩, trivial⟩
    · rename_i k hu
      obtain ⟨z, rfl, _, hw⟩ := DataW.trod_int hu ht
      simp only [Option.some.injEq] at h; subst h
      exact ⟨⟨z, rfl, hw⟩, trivial⟩
    · rename_i hu
      obtain ⟨s, rfl, _, hw⟩ := DataW.trod_string hu ht
      simp only [Option.some.injEq] at h; subst h
      exact ⟨⟨s, rfl, hw⟩, trivial⟩
    · rename_i fs hu
      split at h
      · rename_i r hr
        split at h
        · rename_i hc
          simp only [Option.some.injEq] at h; subst h
          obtain ⟨xs, m, _, _, hlen, hxl, hf⟩ := DataW.trod_struct hu ht
          have := fields_fit (enc := enc) (w := w) (base := base) (spare := spare) (held := held) (cs := cs) (fun t l fu c x h1 h2 => fits_of_trod n t l fu c x h1 h2) fs.toList 0 r hr (fun f hfm => by
            obtain ⟨i, hi, he⟩ := List.getElem_of_mem hfm
            have hi' : i < fs.size := by simpa using hi
            have := hf i f (by rw [Array.getElem?_eq_getElem hi']; simpa using he)
            rw [List.getElem?_eq_getElem (by omega)] at this
            exact ⟨m, _, this⟩) (by rw [hlen, hc, Nat.zero_add])
          simpa using this
        · cases h
      · cases h
    · rename_i m e hu
      split at h
      · rename_i l hl
        split at h
        · rename_i hc
          simp only [Option.some.injEq] at h; subst h
          obtain ⟨xs, q, _, _, hlen, hxl, hf⟩ := DataW.trod_array hu ht
          have := rows_fit (l := l) (cs := cs) m m (Nat.le_refl _) (by rw [hlen, hc.2]) (fun i hi => by
            have := hf i hi
            rw [hc.1, List.getElem?_eq_getElem (by omega)] at this
            exact fits_of_trod n e l _ _ _ hl this)
          simpa using this
        · cases h
      · cases h
    · cases h

/-- a struct or an array, by value -/
theorem open_agg {r : Reach} {b0 : Nat} {t : TypeId} {v : Value} {d : DataW H} {ps : List MemPlace} (n : Nat) (ls : List Leaf) (hl : leaves P n t = some ls)
    (ha : (match P.underlying t with | some (.struct _) | some (.array _ _) => true | _ => false) = true) (hv : Value.okWide P w r b0 t v) (h : DataW.Trod enc P w base spare held t v d ps) :
    ∃ cs : List Value, v = .agg cs.toArray ∧ Fits ls cs := by
  have hc : ∃ cs, v = .agg cs := by
    unfold Value.okWide at hv
    split at ha
    · rename_i fs hu
      simp only [hu] at hv
      obtain ⟨cs, h1, _⟩ := hv
      exact ⟨cs, h1⟩
    · rename_i m e hu
      simp only [hu] at hv
      obtain ⟨cs, h1, _⟩ := hv
      exact ⟨cs, h1⟩
    · cases ha
  obtain ⟨cs, rfl⟩ := hc
  obtain ⟨fuel, hf⟩ := h
  exact ⟨cs.toList, by simp, fits_of_trod n t ls fuel _ _ hl hf⟩

/-- a slice's elements, each as its leaves' values -/
def RowsAt (w : World) (ad : Option Addr) (k : Nat) (rows : List (List Value)) : Prop :=
  rows ≠ [] → ∃ b o, ad = some ⟨b, o, none⟩ ∧ b < w.heap.size ∧ ∀ (i : Nat) (r : List Value), rows[i]? = some r → ∀ (j : Nat) (u : Value), r[j]? = some u → w.cell? ⟨b, o + i * k + j, none⟩ = some u

theorem add_plain (b o n : Nat) : (⟨b, o, none⟩ : Addr).add n = ⟨b, o + n, none⟩ := by unfold Addr.add; split <;> simp_all

theorem open_rows {r : Reach} {b0 : Nat} {t e : TypeId} {v : Value} {d : DataW H} {ps : List MemPlace} (n : Nat) (ls : List Leaf) (ht : P.underlying t = some (.slice e)) (hl : leaves P n e = some ls) (hc : P.cellsOf e = ls.length) (hpos : 0 < ls.length)
    (hv : Value.okWide P w r b0 t v) (h : DataW.Trod enc P w base spare held t v d ps) :
    ∃ (ad : Option Addr) (c : Nat) (rows : List (List Value)), v = .slice ad rows.length c ∧ rows.length ≤ c ∧ c ≤ maxLen ∧ (∀ r ∈ rows, Fits ls r) ∧ RowsAt w ad ls.length rows := by
  obtain ⟨a0, len0, cap0, rfl⟩ := okWide_slice ht hv
  obtain ⟨fuel, hf⟩ := h
  rcases open_slice ht hf with ⟨hcs, hx⟩ | ⟨a, len, cap, m, q, D, Pl, hcs, hb, hlc, hm, hmm, hx, hi⟩
  · have : Value.slice a0 len0 cap0 = .slice none 0 0 := by simpa [Value.cells] using hcs
    rw [this]
    exact ⟨none, 0, [], rfl, Nat.le_refl _, Nat.zero_le _, by simp, fun h => absurd rfl h⟩
  · have he : Value.slice a0 len0 cap0 = .slice (some a) len cap := by simpa [Value.cells] using hcs
    rw [he]
    have hlm : len ≤ m := by rw [hmm]; split <;> omega
    have key : ∀ i, i < len → ∃ r : List Value, Fits ls r ∧ ∀ j, j < ls.length → w.cell? ((a.add (i * ls.length)).add j) = r[j]? := fun i hil => by
      obtain ⟨cs', h1, h2⟩ := hi i (by omega)
      rw [hc] at h1
      obtain ⟨_, _, h3⟩ := World.cells?_some h1
      exact ⟨cs', fits_of_trod n e ls _ _ _ hl h2, h3⟩
    obtain ⟨f, hf⟩ : ∃ f : Nat → List Value, ∀ i, i < len → Fits ls (f i) ∧ ∀ j, j < ls.length → w.cell? ((a.add (i * ls.length)).add j) = (f i)[j]? :=
      ⟨fun i => if hil : i < len then (key i hil).choose else [], fun i hil => by simp only [hil, dif_pos]; exact (key i hil).choose_spec⟩
    refine ⟨some a, cap, (List.range len).map f, by simp, by simpa using hlc, hm, ?_, ?_⟩
    · intro r hr
      obtain ⟨i, hi1, rfl⟩ := List.mem_map.1 hr
      exact (hf i (by simpa using hi1)).1
    · intro hne
      have hlen : 0 < len := by
        rcases Nat.eq_zero_or_pos len with h0 | h0
        · subst h0; simp at hne
        · exact h0
      have h00 := (hf 0 hlen).2 0 hpos
      have hl0 := (hf 0 hlen).1.len
      rw [List.getElem?_eq_getElem (by omega)] at h00
      have ha0 : (a.add (0 * ls.length)).add 0 = a := by simp [Addr.add]
      rw [ha0] at h00
      have hsp : a = ⟨a.block, a.off, none⟩ := by
        obtain ⟨b, o, sp⟩ := a
        unfold World.cell? at h00
        cases sp with
        | none => rfl
        | some s => simp at h00; split at h00 <;> simp_all
      refine ⟨a.block, a.off, by rw [← hsp], World.block_lt_of_cell? w _ h00, ?_⟩
      intro i r hr j u hu
      rw [List.getElem?_map] at hr
      obtain ⟨i', hi', rfl⟩ := Option.map_eq_some_iff.1 hr
      obtain ⟨hil, hii⟩ := List.getElem?_eq_some_iff.1 hi'
      simp at hil hii
      subst hii
      have h1 := (hf i hil).2 j (by have := (hf i hil).1.len; have := (List.getElem?_eq_some_iff.1 hu).1; omega)
      rw [hsp, add_plain, add_plain, hu] at h1
      exact h1
end
theorem rows_map {α : Type} {Q : List Value → Prop} (f : α → List Value) (R : α → Prop) (h : ∀ r, Q r → ∃ a, r = f a ∧ R a) : ∀ (rows : List (List Value)), (∀ r ∈ rows, Q r) → ∃ l : List α, rows = l.map f ∧ ∀ a ∈ l, R a
  | [], _ => ⟨[], rfl, by simp⟩
  | r :: rows, hr => by
    obtain ⟨l, rfl, hl⟩ := rows_map f R h rows (fun r hr' => hr r (by simp [hr']))
    obtain ⟨a, rfl, ha⟩ := h r (hr r (by simp))
    exact ⟨a :: l, rfl, by simpa using ⟨ha, hl⟩⟩

end Go.Proofs.YtmblknknbbdmeaaGreat
/- arguments that are keys, and slices of texts. -/
namespace Go.Proofs.YtmblknknbbdmeaaGreat
open Go Go.RowKit Go.ChangeShapes Go.WideShapes Go.ChangeAt
set_option linter.unusedVariables false
set_option linter.unusedSimpArgs false

theorem fits_u8s : ∀ (n : Nat) (cs : List Value), Fits (List.replicate n (.int .u8)) cs → ∃ K : List UInt8, cs = cellsU8 K ∧ K.length = n
  | 0, cs, h => ⟨[], h.nil, rfl⟩
  | n + 1, cs, h => by
    rw [List.replicate_succ] at h
    obtain ⟨z, vs, rfl, hz, h2⟩ := h.int
    obtain ⟨K, rfl, hK⟩ := fits_u8s n vs h2
    have hz2 := wf_u8 hz
    refine ⟨UInt8.ofNat z.toNat :: K, ?_, by simp [hK]⟩
    simp only [cellsU8, List.map_cons]
    congr 2
    simp
    omega

section
variable {H : Type} {enc : TypeId × Value → H} {w : World} {base : Nat} {spare : Nat → Bool} {held : Bool}
set_option maxRecDepth 100000 in
theorem open_key {r : Reach} {b0 : Nat} {v : Value} {d : DataW H} {ps : List MemPlace} (hv : Value.okWide Tryz.prog w r b0 27 v) (h : DataW.Trod enc Tryz.prog w base spare held 27 v d ps) :
    ∃ K : List UInt8, v = keyV K ∧ K.length = 32 := by
  obtain ⟨cs, rfl, hf⟩ := open_agg 4 (List.replicate 32 (.int .u8)) (by kernel_rfl) (by kernel_rfl) hv h
  obtain ⟨K, rfl, hK⟩ := fits_u8s 32 cs hf
  exact ⟨K, rfl, hK⟩
/-- from cell o of block b on lie the texts l -/
def HoldsT (w : World) (b o : Nat) (l : List ByteArray) : Prop := ∀ (i : Nat) (s : ByteArray), l[i]? = some s → w.cell? ⟨b, o + i, none⟩ = some (.string s)
theorem weights_all {H : Type} {P : Program} {e : TypeId} {x : Nat} : ∀ {l : List (DataW H)} {d : DataW H}, d ∈ l → x ∈ d.weights P e → x ∈ DataW.weightsAll P e l
  | y :: l, d, hd, hx => by
    simp only [DataW.weightsAll, List.mem_append]
    rcases List.mem_cons.1 hd with rfl | hd
    · exact Or.inl hx
    · exact Or.inr (weights_all hd hx)
set_option maxRecDepth 100000 in
theorem open_texts {r : Reach} {b0 : Nat} {v : Value} {d : DataW H} {ps : List MemPlace} (hv : Value.okWide Tryz.prog w r b0 74 v) (h : DataW.Trod enc Tryz.prog w base spare held 74 v d ps) (hz : (d.weights Tryz.prog 74).all (· ≤ reachBytes) = true) :
    ∃ (ad : Option Addr) (c : Nat) (l : List ByteArray), v = .slice ad l.length c ∧ l.length ≤ maxLen ∧ (∀ s ∈ l, s.size ≤ reachBytes) ∧ (l ≠ [] → ∃ b o, ad = some ⟨b, o, none⟩ ∧ b < w.heap.size ∧ HoldsT w b o l) := by
  have ht := Tryz.underlying74
  obtain ⟨a0, len0, cap0, rfl⟩ := okWide_slice ht hv
  obtain ⟨fuel, hf⟩ := h
  rcases Go.Deep.open_slice ht hf with ⟨hcs, hx⟩ | ⟨a, len, cap, m, q, D, Pl, hcs, hb, hlc, hm, hmm, hx, hi⟩
  · have : Value.slice a0 len0 cap0 = .slice none 0 0 := by simpa [Value.cells] using hcs
    rw [this]
    exact ⟨none, 0, [], rfl, Nat.zero_le _, by simp, fun h => absurd rfl h⟩
  · have he : Value.slice a0 len0 cap0 = .slice (some a) len cap := by simpa [Value.cells] using hcs
    rw [he]
    have hlm : len ≤ m := by rw [hmm]; split <;> omega
    have hc : Tryz.prog.cellsOf 9 = 1 := by kernel_rfl
    have key : ∀ i, i < len → ∃ s : ByteArray, s.size ≤ reachBytes ∧ w.cell? (a.add i) = some (.string s) := fun i hil => by
      obtain ⟨cs', h1, h2⟩ := hi i (by omega)
      rw [hc, Nat.mul_one] at h1
      obtain ⟨_, _, h3⟩ := World.cells?_some h1
      obtain ⟨s, rfl, hxs, _⟩ := DataW.trod_string Tryz.underlying9 h2
      have h4 := h3 0 (by omega)
      have ha : (a.add i).add 0 = a.add i := by simp [Addr.add]
      rw [ha] at h4
      refine ⟨s, ?_, h4⟩
      have hD : D i = .lit (.string s.data.toList) := by injection hxs
      have hd : d = .slice ((List.range len).map D) ((List.range (m - len)).map fun j => D (len + j)) := by injection hx
      have hmem : s.data.toList.length ∈ d.weights Tryz.prog 74 := by
        rw [hd]
        simp only [DataW.weights, ht, List.mem_cons, List.mem_append]
        exact Or.inr (Or.inl (weights_all (List.mem_map.2 ⟨i, List.mem_range.2 hil, hD⟩) (by simp [DataW.weights])))
      have := List.all_eq_true.1 hz _ hmem
      simpa using this
    obtain ⟨f, hf⟩ : ∃ f : Nat → ByteArray, ∀ i, i < len → (f i).size ≤ reachBytes ∧ w.cell? (a.add i) = some (.string (f i)) :=
      ⟨fun i => if hil : i < len then (key i hil).choose else ⟨#[]⟩, fun i hil => by simp only [hil, dif_pos]; exact (key i hil).choose_spec⟩
    refine ⟨some a, cap, (List.range len).map f, by simp, by simp; omega, fun s hs => ?_, fun hne => ?_⟩
    · obtain ⟨i, hi1, rfl⟩ := List.mem_map.1 hs
      exact (hf i (by simpa using hi1)).1
    · have hlen : 0 < len := by
        rcases Nat.eq_zero_or_pos len with h0 | h0
        · subst h0; simp at hne
        · exact h0
      have h00 := (hf 0 hlen).2
      have ha0 : a.add 0 = a := by simp [Addr.add]
      rw [ha0] at h00
      have hsp : a = ⟨a.block, a.off, none⟩ := by
        obtain ⟨b, o, sp⟩ := a
        unfold World.cell? at h00
        cases sp with
        | none => rfl
        | some s => simp at h00; split at h00 <;> simp_all
      refine ⟨a.block, a.off, by rw [← hsp], World.block_lt_of_cell? w _ h00, fun i s hs => ?_⟩
      rw [List.getElem?_map] at hs
      obtain ⟨i', hi', rfl⟩ := Option.map_eq_some_iff.1 hs
      obtain ⟨hil, hii⟩ := List.getElem?_eq_some_iff.1 hi'
      simp at hil hii
      subst hii
      have h1 := (hf i hil).2
      rw [hsp, add_plain] at h1
      exact h1
end
end Go.Proofs.YtmblknknbbdmeaaGreat
/- arguments of layer 12: packets, plans, calls. -/
namespace Go.Proofs.YtmblknknbbdmeaaGreat
open Go Go.RowKit Go.ChangeShapes Go.WideShapes Go.ChangeAt
set_option linter.unusedVariables false
set_option linter.unusedSimpArgs false

/-- a call: a moment, a text -/
structure Cl where
  n : Int
  t : ByteArray
def Cl.row (c : Cl) : List Value := [.int .i64 c.n, .string c.t]
def wfC (c : Cl) : Prop := (Lit.int .i64 c.n).wf = true ∧ c.t.size ≤ maxLen
/-- calls in memory -/
def HeldC (w : World) (ad : Option Addr) (l : List Cl) : Prop := l ≠ [] → ∃ b o, ad = some ⟨b, o, none⟩ ∧ b < w.heap.size ∧ ∀ (i : Nat) (c : Cl), l[i]? = some c → w.cell? ⟨b, o + i * 2, none⟩ = some (.int .i64 c.n) ∧ w.cell? ⟨b, o + i * 2 + 1, none⟩ = some (.string c.t)
section
variable {H : Type} {enc : TypeId × Value → H} {w : World} {base : Nat} {spare : Nat → Bool} {held : Bool}
set_option maxRecDepth 100000 in
theorem open_packet {r : Reach} {b0 : Nat} {v : Value} {d : DataW H} {ps : List MemPlace} (hv : Value.okWide Tryz.prog w r b0 40 v) (h : DataW.Trod enc Tryz.prog w base spare held 40 v d ps) :
    ∃ (iv : Int) (tx tg : ByteArray) (tl : Int) (K : List UInt8), v = .agg (pkL iv tx tg tl K).toArray ∧ K.length = 32 ∧ (Lit.int .i64 iv).wf = true ∧ (Lit.int .i64 tl).wf = true ∧ tx.size ≤ maxLen ∧ tg.size ≤ maxLen := by
  obtain ⟨cs, rfl, hf⟩ := open_agg 4 ([.int .i64, .str, .str, .int .i64] ++ List.replicate 32 (.int .u8)) (by kernel_rfl) (by kernel_rfl) hv h
  obtain ⟨iv, cs, rfl, h1, hf⟩ := hf.int
  obtain ⟨tx, cs, rfl, h2, hf⟩ := hf.str
  obtain ⟨tg, cs, rfl, h3, hf⟩ := hf.str
  obtain ⟨tl, cs, rfl, h4, hf⟩ := hf.int
  obtain ⟨K, rfl, hK⟩ := fits_u8s 32 _ hf
  exact ⟨iv, tx, tg, tl, K, rfl, hK, h1, h4, h2, h3⟩
set_option maxRecDepth 100000 in
theorem open_plan {r : Reach} {b0 : Nat} {v : Value} {d : DataW H} {ps : List MemPlace} (hv : Value.okWide Tryz.prog w r b0 29 v) (h : DataW.Trod enc Tryz.prog w base spare held 29 v d ps) :
    ∃ (ps pl pd pc : Int), v = .agg (planL ps pl pd pc).toArray ∧ (Lit.int .i64 ps).wf = true ∧ (Lit.int .i64 pl).wf = true ∧ (Lit.int .i64 pd).wf = true ∧ (Lit.int .i64 pc).wf = true := by
  obtain ⟨cs, rfl, hf⟩ := open_agg 4 [.int .i64, .int .i64, .int .i64, .int .i64] (by kernel_rfl) (by kernel_rfl) hv h
  obtain ⟨a, cs, rfl, h1, hf⟩ := hf.int
  obtain ⟨b, cs, rfl, h2, hf⟩ := hf.int
  obtain ⟨c, cs, rfl, h3, hf⟩ := hf.int
  obtain ⟨e, cs, rfl, h4, hf⟩ := hf.int
  obtain rfl := hf.nil
  exact ⟨a, b, c, e, rfl, h1, h2, h3, h4⟩
theorem fits_call {r : List Value} (hr : Fits [.int .i64, .str] r) : ∃ f : Cl, r = f.row ∧ wfC f := by
  obtain ⟨k, r, rfl, hk, hr⟩ := hr.int
  obtain ⟨d, r, rfl, hd, hr⟩ := hr.str
  obtain rfl := hr.nil
  exact ⟨⟨k, d⟩, rfl, hk, hd⟩
theorem heldC_rows {ad : Option Addr} {l : List Cl} (h : RowsAt w ad 2 (l.map Cl.row)) : HeldC w ad l := fun hne => by
  obtain ⟨b, o, h1, h2, h3⟩ := h (by simpa using hne)
  refine ⟨b, o, h1, h2, fun i c hc => ?_⟩
  have hi : (l.map Cl.row)[i]? = some c.row := by rw [List.getElem?_map, hc]; rfl
  have q0 := h3 i c.row hi 0 (.int .i64 c.n) rfl
  have q1 := h3 i c.row hi 1 (.string c.t) rfl
  exact ⟨by simpa using q0, by simpa [Nat.add_assoc] using q1⟩
/-- from cell o of block b on lie the bytes l -/
def HeldU (w : World) (ad : Option Addr) (l : List Int) : Prop := l ≠ [] → ∃ b o, ad = some ⟨b, o, none⟩ ∧ b < w.heap.size ∧ ∀ (i : Nat) (z : Int), l[i]? = some z → w.cell? ⟨b, o + i, none⟩ = some (.int .u8 z)
set_option maxRecDepth 100000 in
theorem open_bytes {r : Reach} {b0 : Nat} {v : Value} {d : DataW H} {ps : List MemPlace} (hv : Value.okWide Tryz.prog w r b0 93 v) (h : DataW.Trod enc Tryz.prog w base spare held 93 v d ps) :
    ∃ (ad : Option Addr) (c : Nat) (l : List Int), v = .slice ad l.length c ∧ l.length ≤ maxLen ∧ (∀ z ∈ l, 0 ≤ z ∧ z ≤ 255) ∧ HeldU w ad l := by
  obtain ⟨ad, c, rows, rfl, h1, h2, h3, h4⟩ := open_rows 4 [.int .u8] Tryz.underlying93 (by kernel_rfl) (by kernel_rfl) (by decide) hv h
  obtain ⟨l, rfl, hl⟩ := rows_map (fun z => [Value.int .u8 z]) (fun z => 0 ≤ z ∧ z ≤ 255) (fun r hr => by
    obtain ⟨a, r, rfl, ha, hr⟩ := hr.int
    obtain rfl := hr.nil
    exact ⟨a, rfl, wf_u8 ha⟩) rows h3
  refine ⟨ad, c, l, by simp, by simpa using Nat.le_trans h1 h2, hl, fun hne => ?_⟩
  obtain ⟨b, o, he, hb, hc⟩ := h4 (by simpa using hne)
  refine ⟨b, o, he, hb, fun k z hk => ?_⟩
  have := hc k [.int .u8 z] (by rw [List.getElem?_map, hk]; rfl) 0 _ rfl
  simpa using this
end
end Go.Proofs.YtmblknknbbdmeaaGreat
/- sender's laws: large; a call's cells; the region that sends. -/
namespace Go.Proofs.YtmblknknbbdmeaaGreat
open Go Go.RowKit
set_option linter.unusedVariables false
set_option linter.unusedSimpArgs false
attribute [local go_sem] bmax2 bmin2 bmax bmin cell_ext frozen_ext

theorem exec_index {P : Program} {o : Oper} {a : Act} {t e : TypeId} {x i : Operand} (ho : o.op = .indexAddr t x i) {sz : Nat} (ht : P.underlying t = some (.slice e)) (hs : (P.info? e).map (·.size) = some sz) {b off len cap j : Nat} (hx : a.eval x = .slice (some ⟨b, off, none⟩) len cap) (hi : a.eval i = .int .i64 (j : Int)) (hj : j < len) (w : World) :
    (execOp a.eval o).run P w = .ok (.value (.pointer (some ⟨b, off + j * sz, none⟩))) w := by
  cases hq : P.info? e with
  | none => simp [hq] at hs
  | some inf =>
    have hz : inf.size = sz := by simpa [hq] using hs
    have h1 : (0 : Int) ≤ (j : Int) := by omega
    unfold execOp
    simp only [ho, hx, hi]
    simp [Instr.indexAt, run_underlying ht, asIntOf, hj, h1, sizeOf, typeInfo, hq, hz, Sem.run_bind, addr_add]
/-- a call's cells in a world on from w -/
theorem HeldC.at {w W : World} {b o cap : Nat} {l : List Cl} {n : Nat} (h : HeldC w (some ⟨b, o, none⟩) l) (hb : Below w.heap.size w W) {j : Nat} {c : Cl} (hj : l[j]? = some c) : W.cell? ⟨b, o + j * 2, none⟩ = some (.int .i64 c.n) ∧ W.cell? ⟨b, o + j * 2 + 1, none⟩ = some (.string c.t) ∧ b < w.heap.size := by
  obtain ⟨b', o', e, hlt, hc⟩ := h (fun e => by subst e; simp at hj)
  injection e with e
  injection e with e1 e2
  subst e1; subst e2
  obtain ⟨h1, h2⟩ := hc j c hj
  exact ⟨(hb.cell (p := ⟨b, o + j * 2, none⟩) hlt).trans h1, (hb.cell (p := ⟨b, o + j * 2 + 1, none⟩) hlt).trans h2, hlt⟩
theorem S2.row {B : Nat} {w w' : World} {b c : Nat} {p q : SP} {L M r : Nat} (h : S2 B w b c p q L M) {T : TypeId} {cs : Array Value} (hr : Blk w r T cs) (hT : T ≠ 152 ∧ T ≠ 192 ∧ T ≠ 189 ∧ T ≠ 205) (hg : w.grownBy w' (some r)) : S2 B w' b c p q L M := by
  obtain ⟨X, Y, h1, h2, h3⟩ := h
  exact ⟨X, Y, h1.row hr hT hg, h2.row hr hT hg, h3⟩
/-- one cell, loaded -/
theorem ld_one {P : Program} {w : World} {ty : TypeId} {d : TypeDesc} (hu : P.underlying ty = some d) (hd : aggB d = false) {b o : Nat} {v : Value} (hc : w.cell? ⟨b, o, none⟩ = some v) : (Instr.loadAt ty (.pointer (some ⟨b, o, none⟩))).run P w = .ok v w := by
  have hagg : (isAgg ty).run P w = .ok false w := by
    unfold isAgg
    rw [Sem.run_bind, run_underlying hu w]
    cases d <;> simp_all [aggB]
  simp [Instr.loadAt, Instr.sureAddr, loadVar, Sem.run_bind, hagg, hc]
/-- what a law knows while it sends: facts of other blocks, senders, how many blocks there are -/
structure TL (w : World) (N : Nat) (Ks : List (Nat × TypeId × List Value)) (Sd : World → Prop) (W : World) : Prop where
  ks : ∀ k ∈ Ks, Blk W k.1 k.2.1 k.2.2.toArray
  sd : Sd W
  below : Below w.heap.size w W
  sz : N ≤ W.heap.size
def okT4 (T : TypeId) : Prop := T ≠ 152 ∧ T ≠ 192 ∧ T ≠ 189 ∧ T ≠ 205
section
variable {w W W' : World} {N : Nat} {Ks : List (Nat × TypeId × List Value)} {Sd Sd' : World → Prop}
theorem TL.mv (h : TL w N Ks Sd W) (hT : ∀ k ∈ Ks, okT4 k.2.1) (hm : MvS w.heap.size W W') (hs : Sd' W') : TL w N Ks Sd' W' :=
  ⟨fun k hk => hm.keep (hT k hk).1 (hT k hk).2.1 (hT k hk).2.2.1 (hT k hk).2.2.2 (h.ks k hk), hs, h.below.trans hm.below, Nat.le_trans h.sz hm.below.size⟩
theorem TL.bel (h : TL w N Ks Sd W) (hb : Below W.heap.size W W') (hs : Sd W') : TL w N Ks Sd W' :=
  ⟨fun k hk => (h.ks k hk).bel hb, hs, bt' h.below hb h.below.size, Nat.le_trans h.sz hb.size⟩
/-- a new block's row stored -/
theorem TL.row (h : TL w N Ks Sd W) (hlt : ∀ k ∈ Ks, k.1 < N) {bk : Nat} (hbk : N ≤ bk) (hN : w.heap.size ≤ N) (cs : Array Value) (hs : Sd (W.setRow bk cs)) : TL w N Ks Sd (W.setRow bk cs) :=
  ⟨fun k hk => (h.ks k hk).rowfar (b := bk) (by have := hlt k hk; omega) cs, hs, bsr h.below (b := bk) (by omega) h.below.size cs, Nat.le_trans h.sz (gbrow W bk cs).size⟩
end
end Go.Proofs.YtmblknknbbdmeaaGreat
/- sender's laws: packets compared; moments of an interval. -/
namespace Go.Proofs.YtmblknknbbdmeaaGreat
open Go Go.RowKit
set_option linter.unusedVariables false
set_option linter.unusedSimpArgs false
attribute [local go_sem] bmax2 bmin2 bmax bmin cell_ext frozen_ext

/-- a packet's cells -/
def IsPk (PK : List Value) : Prop := ∃ iv tx tg tl K, K.length = 32 ∧ PK = pkL iv tx tg tl K
theorem exec_pk_ne {o : Oper} {a : Act} {x y : Operand} {t' : TypeId} (ho : o.op = .binOp .neq 40 x y t') {PK : List Value} (hP : IsPk PK) (hx : a.eval x = .agg PK.toArray) (hy : a.eval y = .agg PK.toArray) (w : World) :
    (execOp a.eval o).run Tryz.prog w = .ok (.value (.bool false)) w := by
  obtain ⟨iv, tx, tg, tl, K, hK, rfl⟩ := hP
  exact exec_nes eqT_pk ho (vs := [.int .i64 iv, .txt tx, .txt tg, .int .i64 tl, .u8s K]) (us := [.int .i64 iv, .txt tx, .txt tg, .int .i64 tl, .u8s K]) hx hy ⟨rfl, trivial, trivial, rfl, hK, trivial⟩ ⟨rfl, trivial, trivial, rfl, hK, trivial⟩ (pkL_row _ _ _ _ _) (pkL_row _ _ _ _ _) (by simp [Fv.eqAll, Fv.eq1]) w
theorem exec_pk_eq {o : Oper} {a : Act} {x y : Operand} {t' : TypeId} (ho : o.op = .binOp .eql 40 x y t') {PK : List Value} (hP : IsPk PK) (hx : a.eval x = .agg PK.toArray) (hy : a.eval y = .agg PK.toArray) (w : World) :
    (execOp a.eval o).run Tryz.prog w = .ok (.value (.bool true)) w := by
  obtain ⟨iv, tx, tg, tl, K, hK, rfl⟩ := hP
  exact exec_eqs eqT_pk ho (vs := [.int .i64 iv, .txt tx, .txt tg, .int .i64 tl, .u8s K]) (us := [.int .i64 iv, .txt tx, .txt tg, .int .i64 tl, .u8s K]) hx hy ⟨rfl, trivial, trivial, rfl, hK, trivial⟩ ⟨rfl, trivial, trivial, rfl, hK, trivial⟩ (pkL_row _ _ _ _ _) (pkL_row _ _ _ _ _) (by simp [Fv.eqAll, Fv.eq1]) w
/-- a moment of an interval -/
theorem atP_in_int {s l d c : Int} (hm : mayP s l d c = true) {i : Int} (h1 : 1 ≤ i) (h2 : i ≤ c) {k : Int} (k0 : 0 ≤ k) (k1 : k < l) : atP s l c (s + (i - 1) * l + k) = (i, 0) := by
  have hmm := mayP_iff.1 hm
  have hb := beg_in hm h1 (by omega)
  have hic : i * l ≤ c * l := Int.mul_le_mul_of_nonneg_right h2 (by omega)
  have hil : (i - 1) * l = i * l - l := by rw [Int.sub_mul, Int.one_mul]
  unfold atP
  rw [if_neg (by omega), if_neg (by omega)]
  have e : s + (i - 1) * l + k - s = l * (i - 1) + k := by rw [Int.mul_comm l]; omega
  rw [e, Int.mul_add_ediv_left _ _ (by omega), Int.ediv_eq_zero_of_lt k0 k1]
  congr 1
  omega
theorem sendE_in {s l d c : Int} (hm : mayP s l d c = true) {i : Nat} (h1 : 1 ≤ i) (h2 : (i : Int) ≤ c) {k : Int} (k0 : 0 ≤ k) (k1 : k < l) {L : Nat} (hL : L ≤ i) {t : ByteArray} (ht : t.size ≤ 1000) : sendE s l c L (s + ((i : Int) - 1) * l + k) t = 0 ∧ sendL s l c L (s + ((i : Int) - 1) * l + k) t = i := by
  have hat := atP_in_int hm (i := (i : Int)) (by omega) h2 k0 k1
  have hE : sendE s l c L (s + ((i : Int) - 1) * l + k) t = 0 := by
    unfold sendE
    rw [hat, if_pos rfl, if_neg (by show ¬ (i : Int) < (L : Int); omega), if_neg (by omega)]
  refine ⟨hE, ?_⟩
  unfold sendL
  rw [if_pos hE, hat]
  simp
/-- another object's block turns -/
theorem TL.grown {w W W' : World} {N : Nat} {Ks : List (Nat × TypeId × List Value)} {Sd Sd' : World → Prop} (h : TL w N Ks Sd W) {r : Nat} {T : TypeId} {cs : Array Value} (hr : Blk W r T cs) (hT : ∀ k ∈ Ks, k.2.1 ≠ T) (hg : W.grownBy W' (some r)) (hrB : w.heap.size ≤ r) (hs : Sd' W') : TL w N Ks Sd' W' :=
  ⟨fun k hk => (h.ks k hk).grown hg (fun e => by injection e with e; exact (h.ks k hk).ne_ hr (hT k hk) e), hs, h.below.grown hg h.below.size (fun k hk => by injection hk with e; omega), Nat.le_trans h.sz hg.size⟩
end Go.Proofs.YtmblknknbbdmeaaGreat
/- receiver's laws: plain facts. -/
namespace Go.Proofs.YtmblknknbbdmeaaGreat
open Go Go.RowKit Go.Maps
set_option linter.unusedVariables false
set_option linter.unusedSimpArgs false

/-- which key is told with an interval's packets -/
def tlN (d : Int) (i : Nat) : Nat := ((i : Int) - d).toNat
def tlK (S : List UInt8) (n T : Nat) : List UInt8 := if T = 0 then zeroK else chK S (n - T)
theorem tlK_length (S : List UInt8) (n T : Nat) : (tlK S n T).length = 32 := by unfold tlK; split; exact zeroK_length; exact chK_length _ _
theorem goodPk_eq (S : List UInt8) (d : Int) (n i : Nat) (t : ByteArray) : goodPk (chK S) d n i t = pkL (i : Int) t (str (tagD (chK S (n - i)) (i : Int) t)) (tlN d i : Int) (tlK S n (tlN d i)) := rfl
theorem own_new (S : List UInt8) (s l d most : Int) (n each slots : Nat) (hn : n ≤ 1024) : Own S n (newRc (chK S n) s l d n most each slots) := ⟨⟨0, rfl, Nat.zero_le _, rfl⟩, rfl, hn⟩
section
variable {S : List UInt8} {n : Nat} {R : Rc}
theorem adv_empty (h : R.B.sl = []) (T : Nat) : (adv S n R T).2 = [] ∧ (adv S n R T).1.B = R.B ∧ (adv S n R T).1.bl = R.bl ∧ (adv S n R T).1.wr = R.wr := by
  unfold adv
  split
  · exact ⟨rfl, rfl, rfl, rfl⟩
  · have : blv { R with K := chK S (n - T), a := (T : Int) } = ({ R with K := chK S (n - T), a := (T : Int) }, []) := blv_none (fun i hi => by
      unfold ivs at hi
      rw [show ({ R with K := chK S (n - T), a := (T : Int) } : Rc).B.sl = [] from h] at hi
      simp at hi)
    rw [this]
    exact ⟨rfl, rfl, rfl, rfl⟩
end
/-- what comes late -/
theorem late_got (S : List UInt8) (n : Nat) (s l d : Int) (hm : mayP s l d n = true) (hn : n ≤ 16) (i : Nat) (h1 : 1 ≤ i) (h2 : i ≤ n) (t : ByteArray) (ht : t.size ≤ 300) (lt : Int) (hlt : s + ((i : Int) + d - 1) * l ≤ lt) :
    ∃ R1 : Rc, gotP (newRc (chK S n) s l d n 64 4 4) (i : Int) t (str (tagD (chK S (n - i)) (i : Int) t)) (tlN d i : Int) (tlK S n (tlN d i)) lt = ((R1, []), 14) ∧ R1.a = (tlN d i : Int) ∧ R1.B.sz = 0 ∧ ∀ j, R1.bl j = [] := by
  have hmy := mayP_iff.1 hm
  have ho := own_new S s l d 64 n 4 4 (by omega)
  obtain ⟨e1, e2, e3, e4⟩ := adv_empty (S := S) (n := n) (R := newRc (chK S n) s l d n 64 4 4) rfl (tlN d i)
  have e5 := adv_a S n (newRc (chK S n) s l d n 64 4 4) (tlN d i)
  obtain ⟨f1, f2, f3, f4, f5⟩ := adv_same S n (newRc (chK S n) s l d n 64 4 4) (tlN d i)
  have hg := ho.got (show 1 ≤ d by omega) i h1 h2 t (by omega) (show ((((i : Int) - d).toNat : Nat) : Int) ≤ 64 + 0 by omega) lt (tlN d i) rfl (tlK S n (tlN d i)) rfl
  refine ⟨(adv S n (newRc (chK S n) s l d n 64 4 4) (tlN d i)).1, hg.trans ?_, ?_, ?_, fun j => ?_⟩
  · rw [gotT_late]
    · exact congrArg (fun x => ((_, x), (14 : Int))) e1
    · rw [f1, f2, f3]
      show ¬ lt < s + ((i : Int) + d - 1) * l
      omega
  · rw [e5]
    show (if (tlN d i : Int) ≤ 0 then (0 : Int) else (tlN d i : Int)) = (tlN d i : Int)
    split <;> omega
  · rw [e2]; rfl
  · rw [e3]; rfl
end Go.Proofs.YtmblknknbbdmeaaGreat
/- a long drawing region: the plan's closed fact, reckoned over tables, with what is listed written out at each step. -/
namespace Go.Proofs.YtmblknknbbdmeaaGreat
open Go Go.RowKit
set_option linter.unusedVariables false
set_option linter.unusedSimpArgs false

/-- each entry is looked at, then the list goes on written out -/
def forceB {α : Type} : List Bool → (List Bool → α) → α
  | [], k => k []
  | b :: l, k => match b with
    | true => forceB l (fun l' => k (true :: l'))
    | false => forceB l (fun l' => k (false :: l'))
theorem forceB_eq {α : Type} : ∀ (l : List Bool) (k : List Bool → α), forceB l k = k l
  | [], k => rfl
  | b :: l, k => by
    unfold forceB
    cases b
    · exact forceB_eq l _
    · exact forceB_eq l _
def forceS {α β : Type} : List α → (List α → β) → β
  | [], k => k []
  | a :: l, k => forceS l (fun l' => k (a :: l'))
theorem forceS_eq {α β : Type} : ∀ (l : List α) (k : List α → β), forceS l k = k l
  | [], k => rfl
  | a :: l, k => by unfold forceS; exact forceS_eq l _
def forceT {α β : Type} : List (List α) → (List (List α) → β) → β
  | [], k => k []
  | a :: l, k => forceS a (fun a' => forceT l (fun l' => k (a' :: l')))
theorem forceT_eq {α β : Type} : ∀ (l : List (List α)) (k : List (List α) → β), forceT l k = k l
  | [], k => rfl
  | a :: l, k => by unfold forceT; rw [forceS_eq, forceT_eq l]
section
variable {md : Region.Mode} {ops : Array Oper}
def wsT (md : Region.Mode) (ops : Array Oper) : List (List Nat) := ops.toList.map fun o => (o.after.toList.filter fun e => Region.binds md e).map (·.on)
def lsT (ops : Array Oper) : List (List Nat) := ops.toList.map fun o => o.looksAt ops
def dsT (ops : Array Oper) : List (List Nat) := ops.toList.map fun o => o.dst.toList
def readyB (ws : List (List Nat)) (listed : List Bool) (i : Nat) : Bool := !(listed.getD i true) && (match ws[i]? with | some l => l.all fun e => listed.getD e false | none => false)
def apartB (ls ds : List (List Nat)) (i j : Nat) : Bool := ((ds.getD i []).all fun d => !(ls.getD j []).contains d && !(ds.getD j []).contains d) && (ds.getD j []).all fun d => !(ls.getD i []).contains d
def freeB (ws ls ds : List (List Nat)) (n : Nat) (listed : List Bool) (i : Nat) : Bool := decide (i < n) && (List.range n).all fun j => j == i || listed.getD j true || (ws.getD j []).contains i || apartB ls ds i j
theorem getD_arr {α : Type} (l : List α) (i : Nat) (d : α) : l.toArray.getD i d = l.getD i d := by simp [List.getD_eq_getElem?_getD]
theorem wsT_get {i : Nat} {l : List Nat} (h : (wsT md ops)[i]? = some l) : ∃ o, ops[i]? = some o ∧ l = (o.after.toList.filter fun e => Region.binds md e).map (·.on) := by
  unfold wsT at h
  rw [List.getElem?_map, Array.getElem?_toList] at h
  cases ho : ops[i]? with
  | none => rw [ho] at h; cases h
  | some o => rw [ho] at h; injection h with h; exact ⟨o, rfl, h.symm⟩
theorem readyB_ready {listed : List Bool} {i : Nat} (h : readyB (wsT md ops) listed i = true) : (Region.ready md ops listed.toArray).contains i = true := by
  unfold readyB at h
  simp only [Bool.and_eq_true] at h
  obtain ⟨h1, h2⟩ := h
  split at h2
  · rename_i l hl
    obtain ⟨o, ho, rfl⟩ := wsT_get hl
    rw [List.contains_iff_mem]
    unfold Region.ready
    rw [List.mem_filter, List.mem_range]
    refine ⟨(Array.getElem?_eq_some_iff.1 ho).1, ?_⟩
    simp only [ho, Option.map_some, Option.getD_some, Bool.and_eq_true, getD_arr]
    refine ⟨h1, ?_⟩
    rw [Array.all_eq_true_iff_forall_mem]
    intro e he
    rw [List.all_eq_true] at h2
    by_cases hb : Region.binds md e = true
    · rw [hb]
      simp only [Bool.not_true, Bool.false_or]
      exact h2 e.on (List.mem_map.2 ⟨e, List.mem_filter.2 ⟨by simpa using he, hb⟩, rfl⟩)
    · have : Region.binds md e = false := by simpa using hb
      rw [this]; rfl
  · cases h2
theorem lsT_get {j : Nat} {o : Oper} (h : ops[j]? = some o) : (lsT ops).getD j [] = o.looksAt ops := by
  unfold lsT
  rw [List.getD_eq_getElem?_getD, List.getElem?_map, Array.getElem?_toList, h]; rfl
theorem dsT_get {j : Nat} {o : Oper} (h : ops[j]? = some o) : (dsT ops).getD j [] = o.dst.toList := by
  unfold dsT
  rw [List.getD_eq_getElem?_getD, List.getElem?_map, Array.getElem?_toList, h]; rfl
theorem apartB_apart {i j : Nat} {x y : Oper} (hx : ops[i]? = some x) (hy : ops[j]? = some y) (h : apartB (lsT ops) (dsT ops) i j = true) : x.apart ops y = true := by
  unfold apartB at h
  rw [dsT_get hx, dsT_get hy, lsT_get hx, lsT_get hy] at h
  simp only [Bool.and_eq_true, List.all_eq_true] at h
  obtain ⟨h1, h2⟩ := h
  unfold Oper.apart
  simp only [Bool.and_eq_true]
  constructor
  · cases hd : x.dst with
    | none => rfl
    | some d =>
      have := h1 d (by rw [hd]; simp)
      simp only [Bool.and_eq_true] at this ⊢
      refine ⟨this.1, ?_⟩
      cases he : y.dst with
      | none => rfl
      | some e =>
        have h3 := this.2
        rw [he] at h3
        simp at h3 ⊢
        exact fun e' => h3 e'.symm
  · cases hd : y.dst with
    | none => rfl
    | some d => exact h2 d (by rw [hd]; simp)
theorem freeB_free {listed : List Bool} {i : Nat} (h : freeB (wsT md ops) (lsT ops) (dsT ops) ops.size listed i = true) : Region.free md ops listed.toArray i = true := by
  unfold freeB at h
  simp only [Bool.and_eq_true, decide_eq_true_eq, List.all_eq_true, List.mem_range, Bool.or_eq_true, beq_iff_eq] at h
  obtain ⟨hi, h⟩ := h
  have hx := getD_some hi
  unfold Region.free
  rw [hx]
  simp only [List.all_eq_true, List.mem_range, Bool.or_eq_true, beq_iff_eq, getD_arr]
  intro j hj
  have hy := getD_some hj
  rcases h j hj with ((h1 | h1) | h1) | h1
  · exact Or.inl (Or.inl h1)
  · exact Or.inl (Or.inr h1)
  · right
    rw [hy]
    simp only [Bool.or_eq_true]
    left
    rw [List.contains_iff_mem, List.getD_eq_getElem?_getD] at h1
    cases hw : (wsT md ops)[j]? with
    | none => rw [hw] at h1; simp at h1
    | some l =>
      obtain ⟨o, ho, rfl⟩ := wsT_get hw
      rw [hy] at ho
      injection ho with ho
      subst ho
      rw [hw] at h1
      simp only [Option.getD_some, List.mem_map, List.mem_filter] at h1
      obtain ⟨e, ⟨he, hb⟩, hon⟩ := h1
      rw [← Array.any_toList, List.any_eq_true]
      exact ⟨e, he, by rw [hb, hon]; simp⟩
  · right
    rw [hy]
    simp only [Bool.or_eq_true]
    exact Or.inr (apartB_apart hx hy h1)
def headF (md : Region.Mode) (ops : Array Oper) (ws ls ds : List (List Nat)) (n : Nat) (t : List Nat) : List Nat → List Bool → Bool
  | [], listed => Region.seqI md ops t listed.toArray
  | i :: h, listed => readyB ws listed i && freeB ws ls ds n listed i && forceB (listed.set i true) (fun l => headF md ops ws ls ds n t h l)
theorem headF_head (t : List Nat) : ∀ (h : List Nat) (listed : List Bool), headF md ops (wsT md ops) (lsT ops) (dsT ops) ops.size t h listed = true → Region.headI md ops t h listed.toArray = true
  | [], _, hB => hB
  | i :: h, listed, hB => by
    unfold headF at hB
    rw [forceB_eq] at hB
    simp only [Bool.and_eq_true] at hB
    obtain ⟨⟨h1, h2⟩, h3⟩ := hB
    unfold Region.headI
    simp only [Bool.and_eq_true]
    refine ⟨⟨readyB_ready h1, freeB_free h2⟩, ?_⟩
    rw [List.setIfInBounds_toArray]
    exact headF_head t h _ h3
def planF (md : Region.Mode) (ops : Array Oper) (h t : List Nat) : Bool :=
  Region.noSelect ops && decide (h ++ t).Nodup && decide (0 < t.length) && (h.all fun i => !t.contains i) && decide (0 + (h.length + t.length) = ops.size) &&
  Region.sinkI md ops (h ++ t) h.length && Region.chainI md ops (h ++ t) h.length &&
  (decide ((List.replicate ops.size false).toArray.size = ops.size) && Region.closedI md ops (List.replicate ops.size false).toArray && Region.allI ops (h ++ t) (List.replicate ops.size false).toArray && Region.inI ops (h ++ t) (List.replicate ops.size false).toArray &&
    forceT (wsT md ops) (fun ws => forceT (lsT ops) fun ls => forceT (dsT ops) fun ds => headF md ops ws ls ds ops.size t h (List.replicate ops.size false)))
theorem planF_eq {h t : List Nat} (hB : planF md ops h t = true) : Region.planB md ops [] h t = true := by
  unfold planF at hB
  rw [forceT_eq, forceT_eq, forceT_eq] at hB
  have e : (List.replicate ops.size false).toArray = Array.replicate ops.size false := by simp
  unfold Region.planB Region.pureB
  rw [← e]
  simp only [Bool.and_eq_true, List.length_nil] at hB ⊢
  obtain ⟨⟨⟨⟨⟨⟨⟨b1, b2⟩, b3⟩, b4⟩, b5⟩, b6⟩, b7⟩, ⟨⟨⟨⟨c1, c2⟩, c3⟩, c4⟩, c5⟩⟩ := hB
  exact ⟨⟨⟨⟨⟨⟨⟨b1, b2⟩, b3⟩, b4⟩, b5⟩, b6⟩, b7⟩, ⟨⟨⟨⟨c1, c2⟩, c3⟩, c4⟩, headF_head t h _ c5⟩⟩
end
/-- wp_region_ext, for a long region -/
theorem wp_region_extF {P : Program} {id : Nat} {Q : Exit → Act → World → Prop} {a : Act} {w : World} {l : List Oper} (h t : List Nat) (hm : P.follows .mixedOrders = true) (hB : planF .any l.toArray h t = true)
    (H : wpQuiet P l.toArray (fun w' => ∃ x, w' = w.ext x) (fun a2 => ∀ x, wpList P l.toArray Q (t.map (l.getD · default)) a2 (w.ext x)) (h.map (l.getD · default)) a)
    (hQ : ∀ c (a : Act) d v w, Q (.panic c) (a.put d v) w → Q (.panic c) a w := by intro c a d v w h; cases d <;> exact h) :
    (Code.region id l.toArray true).wp P Q a w :=
  wp_region_ext h t hm (planF_eq hB) H hQ
end Go.Proofs.YtmblknknbbdmeaaGreat
/- receiver's laws: what waits without its key. -/
namespace Go.Proofs.YtmblknknbbdmeaaGreat
open Go Go.RowKit Go.Maps
set_option linter.unusedVariables false
set_option linter.unusedSimpArgs false

def wSl (S : List UInt8) (n : Nat) (L : List (List UInt8)) : List (Int × List (List UInt8)) := if L = [] then [] else [(1, L.map (wtP S n 1))]
/-- a receiver at which texts of interval 1 wait -/
def wR (S : List UInt8) (s l d : Int) (n : Nat) (L : List (List UInt8)) (k : Nat) : Rc := { newRc (chK S n) s l d n 9 3 3 with B := ⟨3, 3, wSl S n L, L.length, k⟩ }
theorem wR_new (S : List UInt8) (s l d : Int) (n : Nat) : newRc (chK S n) s l d n 9 3 3 = wR S s l d n [] 0 := rfl
theorem wt_mem {S : List UInt8} {n i : Nat} {L : List (List UInt8)} {u : List UInt8} : wtP S n i u ∈ L.map (wtP S n i) ↔ u ∈ L :=
  ⟨fun h => by obtain ⟨v, hv, e⟩ := List.mem_map.1 h; rw [← wtP_inj e]; exact hv, fun h => List.mem_map.2 ⟨u, h, rfl⟩⟩
/-- the next text: the answer, what waits then, what was dropped -/
def wN (L : List (List UInt8)) (k : Nat) (u : List UInt8) : Int × List (List UInt8) × Nat := if u ∈ L then (11, L, k) else if L.length = 3 then (4, L, k + 1) else (0, L ++ [u], k)
theorem wR_put (S : List UInt8) (n : Nat) (L : List (List UInt8)) (hL : L.length ≤ 3) (k : Nat) (u : List UInt8) :
    putP ⟨3, 3, wSl S n L, L.length, k⟩ 1 (wtP S n 1 u) = ((wN L k u).1, ⟨3, 3, wSl S n (wN L k u).2.1, (wN L k u).2.1.length, (wN L k u).2.2⟩) := by
  unfold wN putP
  by_cases hn : L = []
  · subst hn
    simp [wSl, fnd]
  · have e1 : wSl S n L = [(1, L.map (wtP S n 1))] := if_neg hn
    rw [e1, fnd_cons_same]
    dsimp only
    by_cases hu : u ∈ L
    · rw [if_pos (wt_mem.2 hu), if_pos hu]
      dsimp only
      rw [e1]
    · rw [if_neg (fun h => hu (wt_mem.1 h)), if_neg hu, List.length_map]
      by_cases h3 : L.length = 3
      · rw [if_pos h3, if_neg (by omega)]
        dsimp only
        rw [e1]
        rfl
      · rw [if_neg h3, if_pos (by omega)]
        dsimp only
        have e2 : wSl S n (L ++ [u]) = [(1, (L ++ [u]).map (wtP S n 1))] := if_neg (by simp)
        rw [e2]
        simp [upd]
theorem wR_got (S : List UInt8) (n : Nat) (s l d : Int) (hm : mayP s l d n = true) (L : List (List UInt8)) (hL : L.length ≤ 3) (k : Nat) (t : ByteArray) (ht : t.size ≤ 300) (hn : n ≤ 16) :
    gotP (wR S s l d n L k) 1 t (str (tagD (chK S (n - 1)) 1 t)) 0 zeroK s = ((wR S s l d n (wN L k (bs t)).2.1 (wN L k (bs t)).2.2, []), (wN L k (bs t)).1) := by
  have hmy := mayP_iff.1 hm
  have ho : Own S n (wR S s l d n L k) := ⟨⟨0, rfl, Nat.zero_le _, rfl⟩, rfl, by omega⟩
  have h := ho.got (show 1 ≤ d by omega) 1 (by omega) (by omega) t (by omega) (show ((((1 : Int) - d).toNat : Nat) : Int) ≤ 9 + 0 by omega) s 0 (show 0 = ((1 : Int) - d).toNat by omega) zeroK rfl
  refine h.trans ?_
  have hdl : 0 < d * l := Int.mul_pos (by omega) (by omega)
  rw [adv_zero (show (0 : Int) ≤ 0 by omega), gotT_in (by show s < s + (1 + d - 1) * l; rw [show (1 : Int) + d - 1 = d by omega]; omega), if_neg (show ¬ bs t ∈ (wR S s l d n L k).bl ((1 : Nat) : Int) from List.not_mem_nil), bs_wt]
  have e := wR_put S n L hL k (bs t)
  have e' : putP (wR S s l d n L k).B ((1 : Nat) : Int) (wtP S n 1 (bs t)) = _ := e
  dsimp only
  rw [e']
  rfl
end Go.Proofs.YtmblknknbbdmeaaGreat
/- receiver's laws: a law's own sets beside a receiver and a sender. -/
namespace Go.Proofs.YtmblknknbbdmeaaGreat
open Go Go.RowKit Go.Maps
set_option linter.unusedVariables false
set_option linter.unusedSimpArgs false
section
variable {w w' : World} {g c B N b L' rb : Nat} {L : List (List UInt8)} {Z X : Nat → Prop} {p : SP} {R : Rc}
theorem Drs.at_ (h : Drs w g c L) (e : w'.heap[g]? = w.heap[g]?) : Drs w' g c L := by
  obtain ⟨h0, D, h1, h2⟩ := h
  obtain ⟨es, cl, hb, h3⟩ := h1
  exact ⟨h0, D, ⟨es, cl, e.trans hb, h3⟩, h2⟩
theorem Drs.mapO (h : Drs w g c L) : ∃ es cl, w.heap[g]? = some (.map es cl) := h.drw.mapO
theorem Drs.mvQ (h : Drs w g c L) (hm : MvQ B Z w w') (hz : Z g) : Drs w' g c L := h.at_ (hm.zz g hz)
theorem MvT.obj {k : Nat} (hm : MvT B w w') {es : Array MapEntry} {cl : Nat} (hk : w.heap[k]? = some (.map es cl)) : w'.heap[k]? = w.heap[k]? := by
  obtain ⟨X, hf, hX⟩ := hm.fr
  refine hf.block k (Array.getElem?_eq_some_iff.1 hk).1 (fun hx => ?_)
  obtain ⟨T, cs, hb⟩ := hX k hx
  unfold Blk at hb
  rw [hk] at hb
  cases hb
theorem Drs.mvT (h : Drs w g c L) (hm : MvT B w w') : Drs w' g c L := by
  obtain ⟨es, cl, hk⟩ := h.mapO
  exact h.at_ (hm.obj hk)
theorem Blk.map_ne {k T : Nat} {cs : Array Value} (h : Blk w k T cs) {es : Array MapEntry} {cl : Nat} (hk : w.heap[g]? = some (.map es cl)) : k ≠ g := by
  rintro rfl
  unfold Blk at h
  rw [hk] at h
  cases h
theorem S1.map (h : S1 B w b p L') {es : Array MapEntry} {cl : Nat} (hk : w.heap[g]? = some (.map es cl)) (hg : w.grownBy w' (some g)) : S1 B w' b p L' := by
  obtain ⟨X, hx⟩ := h
  refine ⟨X, hx.stays (FrP.of_grown (X := fun k => k = g) hg (fun k e => by injection e with e; exact e.symm)) (fun k hk' e => ?_)⟩
  subst e
  obtain ⟨_, _, T, cs, hb, _⟩ := hx.types hk'
  exact hb.map_ne hk rfl
theorem VR.mapZ (h : VR B N Z w rb R) (hg : w.grownBy w' (some g)) (hz : Z g) : VR B N Z w' rb R :=
  h.frP (X := fun k => k = g) (FrP.of_grown hg (fun k e => by injection e with e; exact e.symm)) (fun k e => Or.inl (e ▸ hz))
theorem Blk.mapG {k T : Nat} {cs : Array Value} (h : Blk w k T cs) {es : Array MapEntry} {cl : Nat} (hk : w.heap[g]? = some (.map es cl)) (hg : w.grownBy w' (some g)) : Blk w' k T cs := h.grown hg (by simpa using h.map_ne hk)
end
end Go.Proofs.YtmblknknbbdmeaaGreat
/- receiver: what is believed of things that a sender sent, plainly. -/
namespace Go.Proofs.YtmblknknbbdmeaaGreat
open Go Go.RowKit Go.Maps
set_option linter.unusedVariables false
set_option linter.unusedSimpArgs false

/-- the texts that wait of an interval -/
def usOf (R : Rc) (j : Int) : List (List UInt8) := ((fnd R.B.sl j).getD []).map (·.drop 16)
/-- all that waits was sent by the chain's own sender, and isn't believed yet -/
structure OwnB (S : List UInt8) (n : Nat) (R : Rc) : Prop where
  own : Own S n R
  nodup : (R.B.sl.map (·.1)).Nodup
  wait : ∀ p ∈ R.B.sl, ∃ i : Nat, p.1 = (i : Int) ∧ 1 ≤ i ∧ i ≤ n ∧ ∃ us : List (List UInt8), p.2 = us.map (wtP S n i) ∧ us.Nodup ∧ ∀ u ∈ us, u ∉ R.bl p.1
def addsL (f : Int → List (List UInt8)) (i : Int) (us : List (List UInt8)) : Int → List (List UInt8) := fun j => if j = i then f j ++ us else f j
theorem addsL_nil (f : Int → List (List UInt8)) (i : Int) : addsL f i [] = f := by funext j; unfold addsL; split <;> simp
theorem addsL_add (f : Int → List (List UInt8)) (i : Int) (u : List UInt8) (us : List (List UInt8)) : addsL (addL f i u) i us = addsL f i (u :: us) := by
  funext j
  unfold addsL addL
  split <;> simp
theorem drop_wt (S : List UInt8) (n i : Nat) (us : List (List UInt8)) : (us.map (wtP S n i)).map (·.drop 16) = us := by
  rw [List.map_map]
  conv => rhs; rw [← List.map_id us]
  exact List.map_congr_left (fun u _ => wtP_drop S n i u)
theorem thgs_own {S : List UInt8} {n i : Nat} {k : List UInt8} (hth : ∀ (St : RS) (u : List UInt8), thg k (i : Int) St (wtP S n i u) = if u ∈ St.1.bl (i : Int) then St else ({ St.1 with bl := addL St.1.bl (i : Int) u }, St.2 ++ [((i : Int), u)])) :
    ∀ (us : List (List UInt8)) (St : RS), us.Nodup → (∀ u ∈ us, u ∉ St.1.bl (i : Int)) → (us.map (wtP S n i)).foldl (thg k (i : Int)) St = ({ St.1 with bl := addsL St.1.bl (i : Int) us }, St.2 ++ us.map fun u => ((i : Int), u)) := by
  intro us
  induction us with
  | nil => intro St _ _; rw [addsL_nil]; simp
  | cons u us ih =>
    intro St hn hd
    rw [List.nodup_cons] at hn
    rw [List.map_cons, List.foldl_cons, hth, if_neg (hd u List.mem_cons_self), ih _ hn.2 (fun v hv hm => by
      have hm' : v ∈ addL St.1.bl (i : Int) u (i : Int) := hm
      unfold addL at hm'
      rw [if_pos rfl] at hm'
      rcases List.mem_append.1 hm' with h | h
      · exact hd v (List.mem_cons_of_mem _ hv) h
      · rw [List.mem_singleton] at h; exact hn.1 (h ▸ hv))]
    have e := addsL_add St.1.bl (i : Int) u us
    dsimp only
    rw [e]
    simp
theorem fnd_takB {B : Bf} {i j : Int} (h : j ≠ i) : fnd (takB B i).sl j = fnd B.sl j := fnd_del_other h
section
variable {S : List UInt8} {n : Nat} {R : Rc}
theorem OwnB.of_fnd (h : OwnB S n R) {j : Int} {ts : List (List UInt8)} (hf : fnd R.B.sl j = some ts) : ∃ i : Nat, j = (i : Int) ∧ 1 ≤ i ∧ i ≤ n ∧ ∃ us : List (List UInt8), ts = us.map (wtP S n i) ∧ us.Nodup ∧ (∀ u ∈ us, u ∉ R.bl j) ∧ usOf R j = us := by
  obtain ⟨i, h1, h2, h3, us, h4, h5, h6⟩ := h.wait _ (fnd_mem hf)
  refine ⟨i, h1, h2, h3, us, h4, h5, h6, ?_⟩
  unfold usOf
  rw [hf, Option.getD_some]
  have h4' : ts = us.map (wtP S n i) := h4
  rw [h4', drop_wt]
theorem usOf_none {j : Int} (hf : fnd R.B.sl j = none) : usOf R j = [] := by unfold usOf; rw [hf]; rfl
theorem blvI_own (h : OwnB S n R) (i : Int) (hi : i ≤ R.a) (l : List Th) : blvI (R, l) i = ({ R with B := takB R.B i, bl := addsL R.bl i (usOf R i) }, l ++ (usOf R i).map fun u => (i, u)) := by
  unfold blvI
  dsimp only
  cases hf : fnd R.B.sl i with
  | none =>
    rw [usOf_none hf, addsL_nil]
    simp
  | some ts =>
    obtain ⟨m, rfl, h1, h2, us, rfl, h4, h5, h6⟩ := h.of_fnd hf
    rw [h6, Option.getD_some, h.own.keyAt m hi]
    exact thgs_own (fun St u => thg_own S n m St u) us _ h4 h5
theorem OwnB.tak (h : OwnB S n R) (i : Int) (us : List (List UInt8)) : OwnB S n { R with B := takB R.B i, bl := addsL R.bl i us } := by
  refine ⟨⟨h.own.key, h.own.c, h.own.n⟩, nodup_del h.nodup i, fun p hp => ?_⟩
  have hp' := List.mem_filter.1 hp
  have hne : p.1 ≠ i := by simpa using hp'.2
  obtain ⟨m, h1, h2, h3, us', h4, h5, h6⟩ := h.wait p hp'.1
  refine ⟨m, h1, h2, h3, us', h4, h5, fun u hu hm => ?_⟩
  have hm' : u ∈ addsL R.bl i us p.1 := hm
  unfold addsL at hm'
  rw [if_neg hne] at hm'
  exact h6 u hu hm'
theorem blvs_own : ∀ (ks : List Int) (R : Rc) (l : List Th), OwnB S n R → ks.Nodup → (∀ i ∈ ks, i ≤ R.a) → ks.foldl blvI (R, l) = ({ R with B := ks.foldl takB R.B, bl := fun j => if j ∈ ks then R.bl j ++ usOf R j else R.bl j }, l ++ (ks.map fun j => (usOf R j).map fun u => (j, u)).flatten) := by
  intro ks
  induction ks with
  | nil => intro R l _ _ _; simp
  | cons i ks ih =>
    intro R l h hn ha
    rw [List.nodup_cons] at hn
    have hu : ∀ j ∈ ks, usOf { R with B := takB R.B i, bl := addsL R.bl i (usOf R i) } j = usOf R j := fun j hj => by
      unfold usOf
      have hne : j ≠ i := fun e => hn.1 (e ▸ hj)
      have e2 : fnd (takB R.B i).sl j = fnd R.B.sl j := fnd_takB hne
      dsimp only
      rw [e2]
    rw [List.foldl_cons, blvI_own h i (ha i List.mem_cons_self), ih _ _ (h.tak i (usOf R i)) hn.2 (fun j hj => ha j (List.mem_cons_of_mem _ hj))]
    refine Prod.ext ?_ ?_
    · dsimp only
      congr 1
      funext j
      by_cases hj : j ∈ ks
      · rw [if_pos hj, if_pos (List.mem_cons_of_mem _ hj), hu j hj]
        unfold addsL
        rw [if_neg (show ¬ j = i from fun e => hn.1 (e ▸ hj))]
      · rw [if_neg hj]
        unfold addsL
        by_cases e : j = i
        · rw [if_pos e, if_pos (by rw [e]; exact List.mem_cons_self), e]
        · rw [if_neg e, if_neg (fun hm => by rcases List.mem_cons.1 hm with h | h; exact e h; exact hj h)]
    · dsimp only
      rw [List.map_cons, List.flatten_cons, List.append_assoc]
      congr 2
      have : (ks.map fun j => (usOf { R with B := takB R.B i, bl := addsL R.bl i (usOf R i) } j).map fun u => (j, u)) = ks.map fun j => (usOf R j).map fun u => (j, u) := List.map_congr_left (fun j hj => by rw [hu j hj])
      rw [this]
end
theorem mem_takeWhile_le {l : List Int} {a : Int} (hs : l.Pairwise (fun x y => x ≤ y)) (j : Int) : j ∈ l.takeWhile (fun i => decide (i ≤ a)) ↔ j ∈ l ∧ j ≤ a := by
  induction l with
  | nil => simp
  | cons x l ih =>
    rw [List.pairwise_cons] at hs
    by_cases hx : x ≤ a
    · rw [List.takeWhile_cons, if_pos (by simpa using hx), List.mem_cons, ih hs.2, List.mem_cons]
      constructor
      · rintro (h | h)
        · exact ⟨Or.inl h, h ▸ hx⟩
        · exact ⟨Or.inr h.1, h.2⟩
      · rintro ⟨h | h, h2⟩
        · exact Or.inl h
        · exact Or.inr ⟨h, h2⟩
    · rw [List.takeWhile_cons, if_neg (by simpa using hx)]
      constructor
      · intro h; simp at h
      · rintro ⟨h, h2⟩
        exfalso
        rcases List.mem_cons.1 h with h | h
        · exact hx (h ▸ h2)
        · exact hx (Int.le_trans (hs.1 j h) h2)
theorem ivs_sorted (B : Bf) : (ivs B).Pairwise (fun x y => x ≤ y) := by
  unfold ivs
  have h := List.pairwise_mergeSort (le := leI) (fun a b c h1 h2 => by unfold leI at *; simp only [decide_eq_true_eq] at *; omega) (fun a b => by unfold leI; simp only [Bool.or_eq_true, decide_eq_true_eq]; omega) (B.sl.map (·.1))
  exact h.imp (fun {a b} hab => by unfold leI at hab; simpa using hab)
theorem takBs_sl (ks : List Int) (B : Bf) (p : Int × List (List UInt8)) : p ∈ (ks.foldl takB B).sl ↔ p ∈ B.sl ∧ p.1 ∉ ks := by
  induction ks generalizing B with
  | nil => simp
  | cons i ks ih =>
    rw [List.foldl_cons, ih (takB B i)]
    have : p ∈ (takB B i).sl ↔ p ∈ B.sl ∧ p.1 ≠ i := by
      show p ∈ del B.sl i ↔ _
      unfold del
      rw [List.mem_filter]
      simp
    rw [this, List.mem_cons]
    constructor
    · rintro ⟨⟨h1, h2⟩, h3⟩; exact ⟨h1, fun h => by rcases h with h | h; exact h2 h; exact h3 h⟩
    · rintro ⟨h1, h2⟩; exact ⟨⟨h1, fun h => h2 (Or.inl h)⟩, fun h => h2 (Or.inr h)⟩
/-- what believing does with things of the chain's own sender -/
theorem blv_own {S : List UInt8} {n : Nat} {R : Rc} (h : OwnB S n R) : ∃ ks : List Int, ks.Nodup ∧ (∀ j, j ∈ ks ↔ j ∈ R.B.sl.map (·.1) ∧ j ≤ R.a) ∧
    blv R = ({ R with B := ks.foldl takB R.B, bl := fun j => if j ≤ R.a then R.bl j ++ usOf R j else R.bl j }, (ks.map fun j => (usOf R j).map fun u => (j, u)).flatten) ∧ OwnB S n (blv R).1 ∧ ∀ p, p ∈ (blv R).1.B.sl ↔ p ∈ R.B.sl ∧ R.a < p.1 := by
  have hm := fun j => mem_takeWhile_le (a := R.a) (ivs_sorted R.B) j
  have hk : ∀ j, j ∈ (ivs R.B).takeWhile (fun i => decide (i ≤ R.a)) ↔ j ∈ R.B.sl.map (·.1) ∧ j ≤ R.a := fun j => by rw [hm j, ivs_mem]
  have hn : ((ivs R.B).takeWhile (fun i => decide (i ≤ R.a))).Nodup := (List.takeWhile_sublist _).nodup (ivs_nodup h.nodup)
  obtain ⟨ks, hks⟩ : ∃ ks, (ivs R.B).takeWhile (fun i => decide (i ≤ R.a)) = ks := ⟨_, rfl⟩
  rw [hks] at hk hn
  have e : blv R = ({ R with B := ks.foldl takB R.B, bl := fun j => if j ≤ R.a then R.bl j ++ usOf R j else R.bl j }, (ks.map fun j => (usOf R j).map fun u => (j, u)).flatten) := by
    unfold blv blvL
    rw [hks, blvs_own ks R [] h hn (fun i hi => ((hk i).1 hi).2), List.nil_append]
    refine Prod.ext ?_ rfl
    dsimp only
    congr 1
    funext j
    by_cases hj : j ≤ R.a
    · rw [if_pos hj]
      by_cases hjk : j ∈ ks
      · rw [if_pos hjk]
      · rw [if_neg hjk]
        have : fnd R.B.sl j = none := fnd_eq_none.2 (fun hmem => hjk ((hk j).2 ⟨hmem, hj⟩))
        rw [usOf_none this, List.append_nil]
    · rw [if_neg hj, if_neg (fun hjk => hj ((hk j).1 hjk).2)]
  have hsl : ∀ p, p ∈ (blv R).1.B.sl ↔ p ∈ R.B.sl ∧ R.a < p.1 := fun p => by
    rw [e]
    show p ∈ (ks.foldl takB R.B).sl ↔ _
    rw [takBs_sl]
    constructor
    · rintro ⟨h1, h2⟩
      refine ⟨h1, ?_⟩
      rcases Int.lt_or_le R.a p.1 with h3 | h3
      · exact h3
      · exact absurd ((hk p.1).2 ⟨List.mem_map_of_mem h1, h3⟩) h2
    · rintro ⟨h1, h2⟩
      exact ⟨h1, fun h3 => by have := ((hk p.1).1 h3).2; omega⟩
  refine ⟨ks, hn, hk, e, ⟨?_, ?_, fun p hp => ?_⟩, hsl⟩
  · rw [e]; exact ⟨h.own.key, h.own.c, h.own.n⟩
  · rw [e]
    show ((ks.foldl takB R.B).sl.map (·.1)).Nodup
    have : ∀ (ks : List Int) (B : Bf), (B.sl.map (·.1)).Nodup → ((ks.foldl takB B).sl.map (·.1)).Nodup := fun ks => by
      induction ks with
      | nil => exact fun B h => h
      | cons i ks ih => exact fun B h => ih (takB B i) (nodup_del h i)
    exact this ks R.B h.nodup
  · obtain ⟨h1, h2⟩ := (hsl p).1 hp
    obtain ⟨m, g1, g2, g3, us, g4, g5, g6⟩ := h.wait p h1
    refine ⟨m, g1, g2, g3, us, g4, g5, fun u hu hmem => ?_⟩
    rw [e] at hmem
    have hmem' : u ∈ (if p.1 ≤ R.a then R.bl p.1 ++ usOf R p.1 else R.bl p.1) := hmem
    rw [if_neg (by omega)] at hmem'
    exact g6 u hu hmem'
end Go.Proofs.YtmblknknbbdmeaaGreat
/- receiver's laws: packets that are missed, plainly. -/
namespace Go.Proofs.YtmblknknbbdmeaaGreat
open Go Go.RowKit Go.Maps
set_option linter.unusedVariables false
set_option linter.unusedSimpArgs false

/-- how many of 1 to k -/
def cntC (cm : Nat → Bool) : Nat → Nat
  | 0 => 0
  | k + 1 => cntC cm k + if cm (k + 1) = true then 1 else 0
/-- which of those behind a, up to k -/
def lstC (cm : Nat → Bool) (a : Nat) : Nat → List Nat
  | 0 => []
  | k + 1 => lstC cm a k ++ if a < k + 1 ∧ cm (k + 1) = true then [k + 1] else []
theorem lstC_mem (cm : Nat → Bool) (a x : Nat) : ∀ T, x ∈ lstC cm a T ↔ a < x ∧ x ≤ T ∧ cm x = true
  | 0 => by simp [lstC]; omega
  | T + 1 => by
    unfold lstC
    rw [List.mem_append, lstC_mem cm a x T]
    split
    · rename_i h
      rw [List.mem_singleton]
      constructor
      · rintro (h1 | h1)
        · exact ⟨h1.1, by omega, h1.2.2⟩
        · subst h1; exact ⟨h.1, Nat.le_refl _, h.2⟩
      · rintro ⟨h1, h2, h3⟩
        rcases Nat.lt_or_ge T x with h4 | h4
        · exact Or.inr (by omega)
        · exact Or.inl ⟨h1, h4, h3⟩
    · rename_i h
      constructor
      · rintro (h1 | h1)
        · exact ⟨h1.1, by omega, h1.2.2⟩
        · simp at h1
      · rintro ⟨h1, h2, h3⟩
        rcases Nat.lt_or_ge T x with h4 | h4
        · have : x = T + 1 := by omega
          subst this
          exact absurd ⟨h1, h3⟩ h
        · exact Or.inl ⟨h1, h4, h3⟩
theorem lstC_nodup (cm : Nat → Bool) (a : Nat) : ∀ T, (lstC cm a T).Nodup
  | 0 => List.nodup_nil
  | T + 1 => by
    unfold lstC
    refine List.nodup_append.2 ⟨lstC_nodup cm a T, by split <;> simp, fun x hx y hy e => ?_⟩
    have h1 := (lstC_mem cm a x T).1 hx
    split at hy
    · rw [List.mem_singleton] at hy; omega
    · simp at hy
theorem lstC_length (cm : Nat → Bool) (a : Nat) : ∀ T, (lstC cm a T).length + cntC cm (min a T) = cntC cm T
  | 0 => by simp [lstC]
  | T + 1 => by
    have ih := lstC_length cm a T
    unfold lstC
    rw [List.length_append]
    by_cases h : a < T + 1
    · rw [show min a (T + 1) = min a T by omega]
      simp only [h, true_and]
      show _ + _ = cntC cm T + _
      split <;> simp <;> omega
    · rw [if_neg (fun g => h g.1), show min a (T + 1) = T + 1 by omega]
      have h0 : lstC cm a T = [] := List.eq_nil_iff_forall_not_mem.2 (fun x hx => by have := (lstC_mem cm a x T).1 hx; omega)
      rw [h0]
      simp
theorem lstC_le (cm : Nat → Bool) (a : Nat) : ∀ T, (lstC cm a T).length ≤ T
  | 0 => by simp [lstC]
  | T + 1 => by
    have ih := lstC_le cm a T
    unfold lstC
    rw [List.length_append]
    split <;> simp <;> omega
/-- a list of Ints told by its members -/
theorem len_lstC {cm : Nat → Bool} {a T : Nat} {ks : List Int} (hn : ks.Nodup) (h : ∀ j, j ∈ ks ↔ ∃ m : Nat, j = (m : Int) ∧ a < m ∧ m ≤ T ∧ cm m = true) : ks.length = (lstC cm a T).length := by
  have h2 : ((lstC cm a T).map (fun m : Nat => (m : Int))).Nodup := by
    rw [List.Nodup, List.pairwise_map]
    exact (lstC_nodup cm a T).imp (fun {x y} hne e => hne (by omega))
  have hp : ks.Perm ((lstC cm a T).map (fun m : Nat => (m : Int))) := (List.perm_ext_iff_of_nodup hn h2).2 (fun j => by
    rw [h j, List.mem_map]
    constructor
    · rintro ⟨m, rfl, h1, h2, h3⟩; exact ⟨m, (lstC_mem cm a m T).2 ⟨h1, h2, h3⟩, rfl⟩
    · rintro ⟨m, hm, rfl⟩
      obtain ⟨h1, h2, h3⟩ := (lstC_mem cm a m T).1 hm
      exact ⟨m, rfl, h1, h2, h3⟩)
  rw [hp.length_eq, List.length_map]
/-- ahead of interval i: it knows key a; of those ahead of i that came those behind a wait -/
structure MI (S : List UInt8) (n : Nat) (s l d : Int) (tx : List UInt8) (cm : Nat → Bool) (i a : Nat) (R : Rc) : Prop where
  ob : OwnB S n R
  at_ : R.a = (a : Int)
  pl : R.s = s ∧ R.l = l ∧ R.d = d ∧ R.most = 16
  each : R.B.each = 2 ∧ R.B.room = 16
  keys : ∀ k : Int, k ∈ R.B.sl.map (·.1) ↔ ∃ m : Nat, k = (m : Int) ∧ 1 ≤ m ∧ m < i ∧ cm m = true ∧ a < m
  one : ∀ p ∈ R.B.sl, p.2.map (·.drop 16) = [tx]
  bl : ∀ j : Nat, a < j → R.bl (j : Int) = []
  le : a ≤ tlN d i
section
variable {S : List UInt8} {n : Nat} {s l d : Int} {tx : List UInt8} {cm : Nat → Bool} {i a : Nat} {R : Rc}
theorem MI.skip (h : MI S n s l d tx cm i a R) (hc : cm i = false) : MI S n s l d tx cm (i + 1) a R :=
  ⟨h.ob, h.at_, h.pl, h.each, fun k => by
    rw [h.keys k]
    constructor
    · rintro ⟨m, h1, h2, h3, h4⟩; exact ⟨m, h1, h2, by omega, h4⟩
    · rintro ⟨m, h1, h2, h3, h4⟩
      refine ⟨m, h1, h2, ?_, h4⟩
      rcases Nat.lt_or_ge m i with h5 | h5
      · exact h5
      · have : m = i := by omega
        subst this
        rw [hc] at h4; exact absurd h4.1 (by decide), h.one, h.bl, by have := h.le; unfold tlN at *; omega⟩
theorem usOf_one (h : MI S n s l d tx cm i a R) {j : Int} (hj : j ∈ R.B.sl.map (·.1)) : usOf R j = [tx] := by
  cases hf : fnd R.B.sl j with
  | none => exact absurd hj (fnd_eq_none.1 hf)
  | some ts =>
    unfold usOf
    rw [hf, Option.getD_some]
    exact h.one _ (fnd_mem hf)
theorem flat_one {ks : List Int} {f : Int → List Th} (h : ∀ j ∈ ks, f j = [(j, tx)]) : (ks.map f).flatten = ks.map fun j => (j, tx) := by
  induction ks with
  | nil => rfl
  | cons k ks ih => rw [List.map_cons, List.flatten_cons, h k List.mem_cons_self, ih (fun j hj => h j (List.mem_cons_of_mem _ hj))]; rfl
theorem MI.adv (h : MI S n s l d tx cm i a R) (hd : 1 ≤ d) (h1 : 1 ≤ i) (h2 : i ≤ n) : ∃ R1 out, Proofs.YtmblknknbbdmeaaGreat.adv S n R (tlN d i) = (R1, out) ∧ MI S n s l d tx cm i (tlN d i) R1 ∧ out.length + cntC cm a = cntC cm (tlN d i) ∧ ∀ y ∈ out, ∃ k : Nat, y = ((k : Int), tx) ∧ 1 ≤ k ∧ k ≤ tlN d i ∧ cm k = true := by
  have hle := h.le
  have hTi : tlN d i < i := by unfold tlN; omega
  unfold Proofs.YtmblknknbbdmeaaGreat.adv
  by_cases hT : (tlN d i : Int) ≤ R.a
  · rw [if_pos hT]
    have e : a = tlN d i := by rw [h.at_] at hT; omega
    refine ⟨R, [], rfl, ?_, by rw [e]; simp, fun y hy => by simp at hy⟩
    rw [← e]
    exact h
  · rw [if_neg hT]
    rw [h.at_] at hT
    have hob : OwnB S n { R with K := chK S (n - tlN d i), a := (tlN d i : Int) } := ⟨⟨⟨tlN d i, rfl, by omega, rfl⟩, h.ob.own.c, h.ob.own.n⟩, h.ob.nodup, h.ob.wait⟩
    obtain ⟨ks, hn, hk, e, hob', hsl⟩ := blv_own hob
    obtain ⟨g1, g2, g3, g4, g5, g6, g7⟩ := blv_same { R with K := chK S (n - tlN d i), a := (tlN d i : Int) }
    have hus : ∀ j ∈ ks, usOf { R with K := chK S (n - tlN d i), a := (tlN d i : Int) } j = [tx] := fun j hj => usOf_one h ((hk j).1 hj).1
    have hout : (blv { R with K := chK S (n - tlN d i), a := (tlN d i : Int) }).2 = ks.map fun j => (j, tx) := by
      rw [e]
      dsimp only
      exact flat_one (fun j hj => by rw [hus j hj]; rfl)
    have hkm : ∀ j, j ∈ ks ↔ ∃ m : Nat, j = (m : Int) ∧ a < m ∧ m ≤ tlN d i ∧ cm m = true := fun j => by
      rw [hk j]
      show (j ∈ R.B.sl.map (·.1) ∧ j ≤ (tlN d i : Int)) ↔ _
      rw [h.keys j]
      constructor
      · rintro ⟨⟨m, q1, q2, q3, q4, q5⟩, q6⟩; exact ⟨m, q1, q5, by omega, q4⟩
      · rintro ⟨m, q1, q2, q3, q4⟩; exact ⟨⟨m, q1, by omega, by omega, q4, q2⟩, by omega⟩
    obtain ⟨St, hSt⟩ : ∃ St, blv { R with K := chK S (n - tlN d i), a := (tlN d i : Int) } = St := ⟨_, rfl⟩
    rw [hSt] at hob' hsl g1 g2 g3 g4 g5 g6 g7 e hout
    rw [hSt]
    refine ⟨St.1, St.2, rfl, ⟨hob', g6, ⟨g1.trans h.pl.1, g2.trans h.pl.2.1, g3.trans h.pl.2.2.1, g7.trans h.pl.2.2.2⟩, ?_, fun k => ?_, fun p hp => h.one p ((hsl p).1 hp).1, fun j hj => ?_, Nat.le_refl _⟩, ?_, ?_⟩
    · rw [e]
      obtain ⟨b1, b2, b3⟩ := takBs_each ks R.B
      exact ⟨b1.trans h.each.1, b2.trans h.each.2⟩
    · rw [List.mem_map]
      constructor
      · rintro ⟨p, hp, rfl⟩
        obtain ⟨q1, q2⟩ := (hsl p).1 hp
        obtain ⟨m, r1, r2, r3, r4, r5⟩ := (h.keys p.1).1 (List.mem_map_of_mem q1)
        refine ⟨m, r1, r2, r3, r4, ?_⟩
        have q3 : (tlN d i : Int) < p.1 := q2
        omega
      · rintro ⟨m, rfl, r2, r3, r4, r5⟩
        obtain ⟨p, hp, hpe⟩ := List.mem_map.1 ((h.keys (m : Int)).2 ⟨m, rfl, r2, r3, r4, by omega⟩)
        exact ⟨p, (hsl p).2 ⟨hp, by show (tlN d i : Int) < p.1; omega⟩, hpe⟩
    · rw [e]
      show (if (j : Int) ≤ (tlN d i : Int) then _ else R.bl (j : Int)) = []
      rw [if_neg (by omega)]
      exact h.bl j (by omega)
    · rw [hout, List.length_map, len_lstC hn hkm]
      have := lstC_length cm a (tlN d i)
      rw [show min a (tlN d i) = a by omega] at this
      exact this
    · intro y hy
      rw [hout] at hy
      obtain ⟨j, hj, rfl⟩ := List.mem_map.1 hy
      obtain ⟨m, rfl, q2, q3, q4⟩ := (hkm j).1 hj
      exact ⟨m, rfl, by omega, q3, q4⟩
theorem MI.step (h : MI S n s l d tx cm i a R) (hm : mayP s l d n = true) (hn : n ≤ 16) (h1 : 1 ≤ i) (h2 : i ≤ n) (hc : cm i = true) (t : ByteArray) (ht : bs t = tx) (hz : t.size ≤ 300) : ∃ R2 out, gotP R (i : Int) t (str (tagD (chK S (n - i)) (i : Int) t)) (tlN d i : Int) (tlK S n (tlN d i)) (s + ((i : Int) - 1) * l) = ((R2, out), 0) ∧ MI S n s l d tx cm (i + 1) (tlN d i) R2 ∧ out.length + cntC cm a = cntC cm (tlN d i) ∧ ∀ y ∈ out, ∃ k : Nat, y = ((k : Int), tx) ∧ 1 ≤ k ∧ k ≤ tlN d i ∧ cm k = true := by
  have hmy := mayP_iff.1 hm
  have hg := h.ob.own.got (show 1 ≤ R.d by rw [h.pl.2.2.1]; omega) i h1 h2 t (by omega) (show ((((i : Int) - R.d).toNat : Nat) : Int) ≤ R.most + R.a by rw [h.pl.2.2.1, h.pl.2.2.2, h.at_]; omega) (s + ((i : Int) - 1) * l) (tlN d i) (by rw [h.pl.2.2.1]; rfl) (tlK S n (tlN d i)) rfl
  obtain ⟨R1, out, e, hM, hlen, hy⟩ := h.adv (by omega) h1 h2
  have hTi : tlN d i < i := by unfold tlN; omega
  rw [e] at hg
  have hlt : s + ((i : Int) - 1) * l < R1.s + ((i : Int) + R1.d - 1) * R1.l := by
    rw [hM.pl.1, hM.pl.2.1, hM.pl.2.2.1]
    have : ((i : Int) + d - 1) * l = ((i : Int) - 1) * l + d * l := by rw [← Int.add_mul]; congr 1; omega
    rw [this]
    have : 0 < d * l := Int.mul_pos (by omega) (by omega)
    omega
  rw [gotT_in hlt] at hg
  have hbl : R1.bl (i : Int) = [] := hM.bl i hTi
  rw [if_neg (show ¬ bs t ∈ R1.bl (i : Int) by rw [hbl]; simp), bs_wt, ht] at hg
  have hno : (i : Int) ∉ R1.B.sl.map (·.1) := fun hmem => by
    obtain ⟨m, q1, q2, q3, _⟩ := (hM.keys _).1 hmem
    omega
  have hle : R1.B.sl.length < R1.B.room := by
    have hl : (R1.B.sl.map (·.1)).length = (lstC cm (tlN d i) (i - 1)).length := len_lstC hM.ob.nodup (fun j => by
      rw [hM.keys j]
      constructor
      · rintro ⟨m, q1, q2, q3, q4, q5⟩; exact ⟨m, q1, q5, by omega, q4⟩
      · rintro ⟨m, q1, q2, q3, q4⟩; exact ⟨m, q1, by omega, by omega, q4, q2⟩)
    rw [List.length_map] at hl
    have := lstC_le cm (tlN d i) (i - 1)
    rw [hl, hM.each.2]
    omega
  have hput : putP R1.B (i : Int) (wtP S n i tx) = (0, { R1.B with sl := ((i : Int), [wtP S n i tx]) :: R1.B.sl, sz := R1.B.sz + 1 }) := by
    unfold putP
    rw [fnd_eq_none.2 hno]
    dsimp only
    rw [if_pos hle]
  dsimp only at hg
  rw [hput] at hg
  refine ⟨_, out, hg, ⟨⟨⟨hM.ob.own.key, hM.ob.own.c, hM.ob.own.n⟩, ?_, fun p hp => ?_⟩, hM.at_, hM.pl, hM.each, fun k => ?_, fun p hp => ?_, hM.bl, by unfold tlN; omega⟩, hlen, hy⟩
  · show ((((i : Int), [wtP S n i tx]) :: R1.B.sl).map (·.1)).Nodup
    rw [List.map_cons, List.nodup_cons]
    exact ⟨hno, hM.ob.nodup⟩
  · rcases List.mem_cons.1 hp with rfl | hp
    · refine ⟨i, rfl, h1, h2, [tx], rfl, by simp, fun u hu hmem => ?_⟩
      have hmem' : u ∈ R1.bl (i : Int) := hmem
      rw [hbl] at hmem'
      simp at hmem'
    · exact hM.ob.wait p hp
  · show k ∈ ((((i : Int), [wtP S n i tx]) :: R1.B.sl).map (·.1)) ↔ _
    rw [List.map_cons, List.mem_cons, hM.keys k]
    constructor
    · rintro (rfl | ⟨m, q1, q2, q3, q4, q5⟩)
      · exact ⟨i, rfl, h1, by omega, hc, hTi⟩
      · exact ⟨m, q1, q2, by omega, q4, q5⟩
    · rintro ⟨m, q1, q2, q3, q4, q5⟩
      rcases Nat.lt_or_ge m i with h5 | h5
      · exact Or.inr ⟨m, q1, q2, h5, q4, q5⟩
      · left; rw [q1]; congr 1; omega
  · rcases List.mem_cons.1 hp with rfl | hp
    · show [wtP S n i tx].map (·.drop 16) = [tx]
      rw [List.map_cons, List.map_nil, wtP_drop]
    · exact hM.one p hp
theorem MI.start (S : List UInt8) (n : Nat) (hn : n ≤ 1024) (s l d : Int) (tx : List UInt8) (cm : Nat → Bool) : MI S n s l d tx cm 1 0 (newRc (chK S n) s l d n 16 2 16) :=
  ⟨⟨own_new S s l d 16 n 2 16 hn, List.nodup_nil, fun p hp => absurd hp (by simp [newRc])⟩, rfl, ⟨rfl, rfl, rfl, rfl⟩, ⟨rfl, rfl⟩, fun k => by
    constructor
    · intro h; simp [newRc] at h
    · rintro ⟨m, _, q2, q3, _⟩; omega, fun p hp => absurd hp (by simp [newRc]), fun j _ => rfl, Nat.zero_le _⟩
end
end Go.Proofs.YtmblknknbbdmeaaGreat
