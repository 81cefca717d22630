/- Texts laid together: Vol14, Vol15, RegL, Arg, ArgK, ArgV. -/
import Derived.Deep.Slices
import Derived.Test.YtkknnnkbegigeaaVc6
/- volley: Take whole; what the document fixes. -/
namespace Go.Proofs.Ytkknnnkbegigeaa
open Go Go.RowKit
set_option linter.unusedVariables false
set_option linter.unusedSimpArgs false
attribute [local go_sem] bmax2 bmin2 bmax bmin cell_ext frozen_ext

/-- Take's error, its sample, and the ask that is open behind it -/
def tkE (key ask a : ByteArray) (t1 now r : Int) : Int := if ask.size = 0 then 10 else if a.size ≠ 56 then 5 else if preB a ask = false then 2 else if macB key a = false then 12 else rndE t1 (mo a 24 32) (mo a 32 40) now r
def tkS (key ask a : ByteArray) (t1 now r : Int) : List Value := if ask.size = 0 then smC 0 0 0 else if a.size ≠ 56 then smC 0 0 0 else if preB a ask = false then smC 0 0 0 else if macB key a = false then smC 0 0 0 else rndS t1 (mo a 24 32) (mo a 32 40) now r
def tkA (key ask a : ByteArray) : ByteArray := if ask.size = 0 then ask else if a.size ≠ 56 then ask else if preB a ask = false then ask else if macB key a = false then ask else ⟨#[]⟩
theorem V_Take (b g n : Nat) (key ask a : ByteArray) (r t1 now : Int) (L : List (List UInt8)) (w : World) (H : Vo w b g key r n L ask t1) (hr1 : In64 r) (h1 : In64 t1) (h4 : In64 now) (hk : key.size ≤ 1099511627) : Calls Try.prog 22 #[.pointer (some ⟨b, 0, none⟩), .string a, .int .i64 now] w fun e w' => e = .returned (.tuple #[.agg (tkS key ask a t1 now r).toArray, .int .i64 (tkE key ask a t1 now r)]) ∧ Vo w' b g key r n L (tkA key ask a) t1 ∧ VFr b g w w' := by
  unfold tkE tkS tkA
  by_cases h0 : ask.size = 0
  · simp only [if_pos h0]
    exact V_Take_none b g n key ask a r t1 now L w H h0
  · simp only [if_neg h0]
    by_cases h5 : a.size ≠ 56
    · simp only [if_pos h5]
      exact V_Take_size b g n key ask a r t1 now L w H h0 h5
    · simp only [if_neg h5]
      have h56 : a.size = 56 := by omega
      by_cases h2 : preB a ask = false
      · simp only [if_pos h2]
        exact V_Take_form b g n key ask a r t1 now L w H h0 h56 h2
      · simp only [if_neg h2]
        by_cases h3 : macB key a = false
        · simp only [if_pos h3]
          exact V_Take_mac b g n key ask a r t1 now L w H h0 hk h56 (by simpa using h2) h3
        · simp only [if_neg h3]
          exact V_Take_ok b g n key ask a r t1 now L w H h0 hr1 h1 h4 hk h56 (by simpa using h2) (by simpa using h3)

/-! ### awake -/
abbrev awD : ByteArray := ⟨#[48, 49, 50, 51, 52, 53, 54, 55, 56, 57, 97, 98, 99, 100, 101, 102]⟩
abbrev awK : ByteArray := ⟨#[107, 101, 121]⟩
theorem aw_r1 : rndE 100 160 170 130 0 = 0 := by decide +kernel
theorem aw_s1 : rndS 100 160 170 130 0 = smC 50 20 12 := by kernel_rfl
theorem aw_r2 : rndE 100 160 150 130 0 = 1 := by decide +kernel
theorem aw_s2 : rndS 100 160 150 130 0 = smC 0 0 0 := by kernel_rfl
theorem aw_size (k : ByteArray) : (ansT k (askB ⟨#[48, 49, 50, 51, 52, 53, 54, 55, 56, 57, 97, 98, 99, 100, 101, 102]⟩ 100) 160 170).size = 56 := by
  unfold ansT ansB askB
  simp only [ByteArray.size_append, str_size, length_putL, List.length_take, macD_length]
  rfl
theorem aw_pre : preB (ansT ⟨#[107, 101, 121]⟩ (askB ⟨#[48, 49, 50, 51, 52, 53, 54, 55, 56, 57, 97, 98, 99, 100, 101, 102]⟩ 100) 160 170) (askB ⟨#[48, 49, 50, 51, 52, 53, 54, 55, 56, 57, 97, 98, 99, 100, 101, 102]⟩ 100) = true := by decide +kernel
theorem aw_preO : preB (ansT ⟨#[111, 116, 104, 101, 114]⟩ (askB ⟨#[48, 49, 50, 51, 52, 53, 54, 55, 56, 57, 97, 98, 99, 100, 101, 102]⟩ 100) 160 170) (askB ⟨#[48, 49, 50, 51, 52, 53, 54, 55, 56, 57, 97, 98, 99, 100, 101, 102]⟩ 100) = true := by decide +kernel
theorem aw_mac : macB ⟨#[107, 101, 121]⟩ (ansT ⟨#[107, 101, 121]⟩ (askB ⟨#[48, 49, 50, 51, 52, 53, 54, 55, 56, 57, 97, 98, 99, 100, 101, 102]⟩ 100) 160 170) = true := by decide +kernel
theorem aw_macO : macB ⟨#[107, 101, 121]⟩ (ansT ⟨#[111, 116, 104, 101, 114]⟩ (askB ⟨#[48, 49, 50, 51, 52, 53, 54, 55, 56, 57, 97, 98, 99, 100, 101, 102]⟩ 100) 160 170) = false := by decide +kernel
theorem aw_m2 : mo (ansT ⟨#[107, 101, 121]⟩ (askB ⟨#[48, 49, 50, 51, 52, 53, 54, 55, 56, 57, 97, 98, 99, 100, 101, 102]⟩ 100) 160 170) 24 32 = 160 := by decide +kernel
theorem aw_m3 : mo (ansT ⟨#[107, 101, 121]⟩ (askB ⟨#[48, 49, 50, 51, 52, 53, 54, 55, 56, 57, 97, 98, 99, 100, 101, 102]⟩ 100) 160 170) 32 40 = 170 := by decide +kernel
theorem aw_r3 : rndE 100 160 170 130 1000 = 0 := by decide +kernel
theorem aw_s3 : rndS 100 160 170 130 1000 = smC 50 20 13 := by kernel_rfl
theorem tk_none (key a : ByteArray) (t1 now r : Int) : tkE key ⟨#[]⟩ a t1 now r = 10 ∧ tkS key ⟨#[]⟩ a t1 now r = smC 0 0 0 ∧ tkA key ⟨#[]⟩ a = ⟨#[]⟩ := ⟨rfl, rfl, rfl⟩
theorem aw_as : (askB ⟨#[48, 49, 50, 51, 52, 53, 54, 55, 56, 57, 97, 98, 99, 100, 101, 102]⟩ 100).size = 24 := by unfold askB; rw [ByteArray.size_append, str_size, length_putL]; rfl
theorem aw_to : tkE ⟨#[107, 101, 121]⟩ (askB ⟨#[48, 49, 50, 51, 52, 53, 54, 55, 56, 57, 97, 98, 99, 100, 101, 102]⟩ 100) (ansT ⟨#[111, 116, 104, 101, 114]⟩ (askB ⟨#[48, 49, 50, 51, 52, 53, 54, 55, 56, 57, 97, 98, 99, 100, 101, 102]⟩ 100) 160 170) 100 130 1000 = 12 ∧ tkS ⟨#[107, 101, 121]⟩ (askB ⟨#[48, 49, 50, 51, 52, 53, 54, 55, 56, 57, 97, 98, 99, 100, 101, 102]⟩ 100) (ansT ⟨#[111, 116, 104, 101, 114]⟩ (askB ⟨#[48, 49, 50, 51, 52, 53, 54, 55, 56, 57, 97, 98, 99, 100, 101, 102]⟩ 100) 160 170) 100 130 1000 = smC 0 0 0 ∧ tkA ⟨#[107, 101, 121]⟩ (askB ⟨#[48, 49, 50, 51, 52, 53, 54, 55, 56, 57, 97, 98, 99, 100, 101, 102]⟩ 100) (ansT ⟨#[111, 116, 104, 101, 114]⟩ (askB ⟨#[48, 49, 50, 51, 52, 53, 54, 55, 56, 57, 97, 98, 99, 100, 101, 102]⟩ 100) 160 170) = askB ⟨#[48, 49, 50, 51, 52, 53, 54, 55, 56, 57, 97, 98, 99, 100, 101, 102]⟩ 100 := by
  have z := aw_as
  unfold tkE tkS tkA
  simp [z, aw_size, aw_preO, aw_macO]
theorem aw_tk : tkE ⟨#[107, 101, 121]⟩ (askB ⟨#[48, 49, 50, 51, 52, 53, 54, 55, 56, 57, 97, 98, 99, 100, 101, 102]⟩ 100) (ansT ⟨#[107, 101, 121]⟩ (askB ⟨#[48, 49, 50, 51, 52, 53, 54, 55, 56, 57, 97, 98, 99, 100, 101, 102]⟩ 100) 160 170) 100 130 1000 = 0 ∧ tkS ⟨#[107, 101, 121]⟩ (askB ⟨#[48, 49, 50, 51, 52, 53, 54, 55, 56, 57, 97, 98, 99, 100, 101, 102]⟩ 100) (ansT ⟨#[107, 101, 121]⟩ (askB ⟨#[48, 49, 50, 51, 52, 53, 54, 55, 56, 57, 97, 98, 99, 100, 101, 102]⟩ 100) 160 170) 100 130 1000 = smC 50 20 13 ∧ tkA ⟨#[107, 101, 121]⟩ (askB ⟨#[48, 49, 50, 51, 52, 53, 54, 55, 56, 57, 97, 98, 99, 100, 101, 102]⟩ 100) (ansT ⟨#[107, 101, 121]⟩ (askB ⟨#[48, 49, 50, 51, 52, 53, 54, 55, 56, 57, 97, 98, 99, 100, 101, 102]⟩ 100) 160 170) = ⟨#[]⟩ := by
  have z := aw_as
  unfold tkE tkS tkA
  simp [z, aw_size, aw_pre, aw_mac, aw_m2, aw_m3, aw_r3, aw_s3]
set_option maxHeartbeats 4000000 in
set_option maxRecDepth 100000 in
theorem volley_awake (w : World) : Calls Try.prog 11 #[] w fun e w' => e = .returned (.bool true) ∧ Below w.heap.size w w' := by
  have c1 := kp (fun w' => V_Round 100 160 170 130 0 (by unfold In64; omega) (by unfold In64; omega) (by unfold In64; omega) (by unfold In64; omega) w')
  rw [aw_r1, aw_s1] at c1
  have c2 := kp (fun w' => V_Round 100 160 150 130 0 (by unfold In64; omega) (by unfold In64; omega) (by unfold In64; omega) (by unfold In64; omega) w')
  rw [aw_r2, aw_s2] at c2
  have cN := kp (fun w' => V_New_ok ⟨#[107, 101, 121]⟩ 1000 (by decide) (by omega) w')
  have cN0 := kp (fun w' => V_New_no ⟨#[]⟩ 0 (Or.inl rfl) w')
  have k1 := kp (fun b g w' H => V_Take b g 0 ⟨#[107, 101, 121]⟩ ⟨#[]⟩ ⟨#[]⟩ 1000 0 0 [] w' H (by unfold In64; omega) (by unfold In64; omega) (by unfold In64; omega) (by decide))
  rw [(tk_none _ _ _ _ _).1, (tk_none _ _ _ _ _).2.1, (tk_none _ _ 0 0 0).2.2] at k1
  have k2 := kp (fun b g w' H => V_Ask_ok b g 0 ⟨#[107, 101, 121]⟩ ⟨#[]⟩ ⟨#[48, 49, 50, 51, 52, 53, 54, 55, 56, 57, 97, 98, 99, 100, 101, 102]⟩ 1000 0 100 [] w' H rfl (by simp) (by decide))
  have k3 := kp (fun b w' => V_Ask_size b ⟨#[115, 104, 111, 114, 116]⟩ 100 (by decide) w')
  have k4 := kp (fun b g w' H => V_Ask_twice b g 1 ⟨#[107, 101, 121]⟩ (askB ⟨#[48, 49, 50, 51, 52, 53, 54, 55, 56, 57, 97, 98, 99, 100, 101, 102]⟩ 100) ⟨#[48, 49, 50, 51, 52, 53, 54, 55, 56, 57, 97, 98, 99, 100, 101, 102]⟩ 1000 100 101 [bs ⟨#[48, 49, 50, 51, 52, 53, 54, 55, 56, 57, 97, 98, 99, 100, 101, 102]⟩] w' H rfl (by simp))
  have k5 := kp (fun b g w' H => V_Open b g ⟨#[107, 101, 121]⟩ (askB ⟨#[48, 49, 50, 51, 52, 53, 54, 55, 56, 57, 97, 98, 99, 100, 101, 102]⟩ 100) 1000 100 1 [bs ⟨#[48, 49, 50, 51, 52, 53, 54, 55, 56, 57, 97, 98, 99, 100, 101, 102]⟩] w' H)
  rw [decide_eq_false (show ¬ (askB ⟨#[48, 49, 50, 51, 52, 53, 54, 55, 56, 57, 97, 98, 99, 100, 101, 102]⟩ 100).size = 0 by rw [aw_as]; omega)] at k5
  have k6 := kp (fun w' => V_Answer_ok ⟨#[107, 101, 121]⟩ (askB ⟨#[48, 49, 50, 51, 52, 53, 54, 55, 56, 57, 97, 98, 99, 100, 101, 102]⟩ 100) aw_as (by decide) 160 170 w')
  have k7 := kp (fun w' => V_Answer_ok ⟨#[111, 116, 104, 101, 114]⟩ (askB ⟨#[48, 49, 50, 51, 52, 53, 54, 55, 56, 57, 97, 98, 99, 100, 101, 102]⟩ 100) aw_as (by decide) 160 170 w')
  have k8 := kp (fun b g w' H => V_Take b g 1 ⟨#[107, 101, 121]⟩ (askB ⟨#[48, 49, 50, 51, 52, 53, 54, 55, 56, 57, 97, 98, 99, 100, 101, 102]⟩ 100) (ansT ⟨#[111, 116, 104, 101, 114]⟩ (askB ⟨#[48, 49, 50, 51, 52, 53, 54, 55, 56, 57, 97, 98, 99, 100, 101, 102]⟩ 100) 160 170) 1000 100 130 [bs ⟨#[48, 49, 50, 51, 52, 53, 54, 55, 56, 57, 97, 98, 99, 100, 101, 102]⟩] w' H (by unfold In64; omega) (by unfold In64; omega) (by unfold In64; omega) (by decide))
  rw [aw_to.1, aw_to.2.1, aw_to.2.2] at k8
  have k9 := kp (fun b g w' H => V_Take b g 1 ⟨#[107, 101, 121]⟩ (askB ⟨#[48, 49, 50, 51, 52, 53, 54, 55, 56, 57, 97, 98, 99, 100, 101, 102]⟩ 100) (ansT ⟨#[107, 101, 121]⟩ (askB ⟨#[48, 49, 50, 51, 52, 53, 54, 55, 56, 57, 97, 98, 99, 100, 101, 102]⟩ 100) 160 170) 1000 100 130 [bs ⟨#[48, 49, 50, 51, 52, 53, 54, 55, 56, 57, 97, 98, 99, 100, 101, 102]⟩] w' H (by unfold In64; omega) (by unfold In64; omega) (by unfold In64; omega) (by decide))
  rw [aw_tk.1, aw_tk.2.1, aw_tk.2.2] at k9
  have k10 := kp (fun b g w' H => V_Take b g 1 ⟨#[107, 101, 121]⟩ ⟨#[]⟩ (ansT ⟨#[107, 101, 121]⟩ (askB ⟨#[48, 49, 50, 51, 52, 53, 54, 55, 56, 57, 97, 98, 99, 100, 101, 102]⟩ 100) 160 170) 1000 100 130 [bs ⟨#[48, 49, 50, 51, 52, 53, 54, 55, 56, 57, 97, 98, 99, 100, 101, 102]⟩] w' H (by unfold In64; omega) (by unfold In64; omega) (by unfold In64; omega) (by decide))
  rw [(tk_none _ _ _ _ _).1, (tk_none _ _ _ _ _).2.1, (tk_none _ _ 0 0 0).2.2] at k10
  have k11 := kp (fun b g w' H => V_Open b g ⟨#[107, 101, 121]⟩ ⟨#[]⟩ 1000 100 1 [bs ⟨#[48, 49, 50, 51, 52, 53, 54, 55, 56, 57, 97, 98, 99, 100, 101, 102]⟩] w' H)
  rw [decide_eq_true (show (⟨#[]⟩ : ByteArray).size = 0 from rfl)] at k11
  have k12 : Kp (∀ w', Calls Try.prog 14 #[.agg #[.int .i64 50, .int .i64 20, .int .i64 12], .agg #[.int .i64 50, .int .i64 20, .int .i64 13]] w' fun e w'' => e = .returned (.bool true) ∧ Below w'.heap.size w' w'') := kp (fun w' => V_Within 50 20 12 50 20 13 (by unfold In64; omega) (by unfold In64; omega) (by unfold In64; omega) (by unfold In64; omega) w')
  have k13 : Kp (∀ w', Calls Try.prog 14 #[.agg #[.int .i64 50, .int .i64 20, .int .i64 12], .agg #[.int .i64 75, .int .i64 0, .int .i64 12]] w' fun e w'' => e = .returned (.bool false) ∧ Below w'.heap.size w' w'') := kp (fun w' => V_Within 50 20 12 75 0 12 (by unfold In64; omega) (by unfold In64; omega) (by unfold In64; omega) (by unfold In64; omega) w')
  have zS : (((askB ⟨#[48, 49, 50, 51, 52, 53, 54, 55, 56, 57, 97, 98, 99, 100, 101, 102]⟩ 100).size : Int) == 24) = true := by rw [aw_as]; rfl
  have zA : (((ansT ⟨#[107, 101, 121]⟩ (askB ⟨#[48, 49, 50, 51, 52, 53, 54, 55, 56, 57, 97, 98, 99, 100, 101, 102]⟩ 100) 160 170).size : Int) == 56) = true := by rw [aw_size]; rfl
  generalize ansT ⟨#[107, 101, 121]⟩ (askB ⟨#[48, 49, 50, 51, 52, 53, 54, 55, 56, 57, 97, 98, 99, 100, 101, 102]⟩ 100) 160 170 = AN at *
  generalize ansT ⟨#[111, 116, 104, 101, 114]⟩ (askB ⟨#[48, 49, 50, 51, 52, 53, 54, 55, 56, 57, 97, 98, 99, 100, 101, 102]⟩ 100) 160 170 = AO at *
  generalize askB ⟨#[48, 49, 50, 51, 52, 53, 54, 55, 56, 57, 97, 98, 99, 100, 101, 102]⟩ 100 = AS at *
  obtain ⟨SA, hSA⟩ : ∃ S, smC 50 20 12 = S := ⟨_, rfl⟩
  obtain ⟨SB, hSB⟩ : ∃ S, smC 50 20 13 = S := ⟨_, rfl⟩
  obtain ⟨SZ, hSZ⟩ : ∃ S, smC 0 0 0 = S := ⟨_, rfl⟩
  have zl : SA.length = 3 ∧ SB.length = 3 ∧ SZ.length = 3 := by subst hSA hSB hSZ; exact ⟨rfl, rfl, rfl⟩
  have o1 := kp (smC_one 50 20 12)
  have o2 := kp (smC_one 50 20 13)
  have o3 := kp (smC_one 0 0 0)
  rw [hSA] at c1 o1
  rw [hSZ] at c2 k1 k8 k10 o3
  rw [hSB] at k9 o2
  have HSA := kp hSA
  have HSB := kp hSB
  clear hSA hSB hSZ
  have HB := kp (Below.refl w.heap.size w)
  go_enter Try.func11, Try.ntmps11
  go_upto_region 2 with (go_at_call 12; refine (c1.out _).mono ?_; rintro e w1 ⟨rfl, hb⟩; have SC := sc_new (P := Try.prog) w1 23 SA o1.out #[.int .i64 0, .int .i64 0, .int .i64 0] (by rw [zl.1]; rfl))
  change Code.wp _ _ _ _ (w1.alloc (.cells SA.toArray 23))
  clear SC
  have HB := kp (bt' HB.out hb HB.out.size)
  have QH1 : Kp (w.heap.size ≤ w1.heap.size) := kp HB.out.size
  clear hb
  have HB := kp (ba HB.out (.cells SA.toArray 23))
  have H1 := kp (Blk.new w1 23 SA.toArray)
  have lH1 : w.heap.size ≤ w1.heap.size := QH1.out
  generalize w1.alloc (.cells SA.toArray 23) = W2 at  H1 HB ⊢
  generalize w1.heap.size = bH1 at *
  go_upto_region 3 with (go_at_call 12; refine (c2.out _).mono ?_; rintro e w2 ⟨rfl, hb⟩; have SC := sc_new (P := Try.prog) w2 23 SZ o3.out #[.int .i64 0, .int .i64 0, .int .i64 0] (by rw [zl.2.2]; rfl))
  change Code.wp _ _ _ _ (w2.alloc (.cells SZ.toArray 23))
  clear SC
  have H1 := kp (H1.out.bel hb)
  have HB := kp (bt' HB.out hb HB.out.size)
  clear hb c1 c2
  have H1 := kp (H1.out.alloc (.cells SZ.toArray 23))
  have HB := kp (ba HB.out (.cells SZ.toArray 23))
  generalize w2.alloc (.cells SZ.toArray 23) = W3 at H1 HB ⊢
  go_upto_region 7 with (first | (go_at_call 16; with_reducible refine (cN.out _).mono ?_; rintro e w3 ⟨rfl, hV, hb⟩) | (go_at_call 16; with_reducible refine (cN0.out _).mono ?_; rintro e w4 ⟨rfl, rfl⟩))
  have HV := kp hV
  have lb : w.heap.size ≤ W3.heap.size + 1 := Nat.le_succ_of_le HB.out.size
  have lg : w.heap.size ≤ W3.heap.size := HB.out.size
  have n1b : bH1 ≠ W3.heap.size + 1 := by have := H1.out.lt; omega
  have n1g : bH1 ≠ W3.heap.size := by have := H1.out.lt; omega
  have H1 := kp (H1.out.bel hb)
  have HB := kp (bt' HB.out hb HB.out.size)
  clear hV hb cN cN0
  generalize W3.heap.size + 1 = b at *
  generalize W3.heap.size = g at *
  go_upto_region 8 with (go_at_call 22; (with_reducible refine (k1.out b g _ HV.out).mono ?_); rintro e w5 ⟨rfl, hV, hf⟩; have SC := sc_new (P := Try.prog) w5 23 SZ o3.out #[.int .i64 0, .int .i64 0, .int .i64 0] (by rw [zl.2.2]; rfl))
  change Code.wp _ _ _ _ (w5.alloc (.cells SZ.toArray 23))
  clear SC
  have H1 := kp (H1.out.vfr hf n1b n1g)
  have HV := kp hV
  have HB := kp (hf.below HB.out lb lg HB.out.size)
  clear hV hf
  have H1 := kp (H1.out.alloc (.cells SZ.toArray 23))
  have HV := kp (HV.out.bel (ba (Below.refl _ _) (.cells SZ.toArray 23)))
  have HB := kp (ba HB.out (.cells SZ.toArray 23))
  generalize w5.alloc (.cells SZ.toArray 23) = W8 at H1 HV HB ⊢
  go_upto_region 9 with (go_at_call 20; with_reducible refine (k2.out b g _ HV.out).mono ?_; rintro e w8 ⟨rfl, hV, hf⟩)
  have H1 := kp (H1.out.vfr hf n1b n1g)
  have HV := kp hV
  have HB := kp (hf.below HB.out lb lg HB.out.size)
  clear hV hf
  go_upto_region 14 with (first | (go_at_call 20; with_reducible refine (k3.out b _).mono ?_; rintro e w9 ⟨rfl, rfl⟩) | (go_at_call 20; with_reducible refine (k4.out b g _ HV.out).mono ?_; rintro e w10 ⟨rfl, rfl⟩) | (go_at_call 24; with_reducible refine (k5.out b g _ HV.out).mono ?_; rintro e w11 ⟨rfl, rfl⟩) | (go_at_call 18; with_reducible refine (k6.out _).mono ?_; rintro e w12 ⟨rfl, hb1⟩) | (go_at_call 18; with_reducible refine (k7.out _).mono ?_; rintro e w13 ⟨rfl, hb2⟩))
  have H1 := kp ((H1.out.bel hb1).bel hb2)
  have HV := kp ((HV.out.bel hb1).bel hb2)
  have q := bt' HB.out hb1 HB.out.size
  have HB := kp (bt' q hb2 q.size)
  clear q hb1 hb2
  go_upto_region 15 with (go_at_call 22; (with_reducible refine (k8.out b g _ HV.out).mono ?_); rintro e w14 ⟨rfl, hV, hf⟩; have SC := sc_new (P := Try.prog) w14 23 SZ o3.out #[.int .i64 0, .int .i64 0, .int .i64 0] (by rw [zl.2.2]; rfl))
  change Code.wp _ _ _ _ (w14.alloc (.cells SZ.toArray 23))
  clear SC
  have H1 := kp (H1.out.vfr hf n1b n1g)
  have HV := kp hV
  have HB := kp (hf.below HB.out lb lg HB.out.size)
  clear hV hf
  have H1 := kp (H1.out.alloc (.cells SZ.toArray 23))
  have HV := kp (HV.out.bel (ba (Below.refl _ _) (.cells SZ.toArray 23)))
  have HB := kp (ba HB.out (.cells SZ.toArray 23))
  generalize w14.alloc (.cells SZ.toArray 23) = W15 at H1 HV HB ⊢
  go_upto_region 16 with (go_at_call 22; (with_reducible refine (k9.out b g _ HV.out).mono ?_); rintro e w15 ⟨rfl, hV, hf⟩; have SC := sc_new (P := Try.prog) w15 23 SB o2.out #[.int .i64 0, .int .i64 0, .int .i64 0] (by rw [zl.2.1]; rfl))
  change Code.wp _ _ _ _ (w15.alloc (.cells SB.toArray 23))
  clear SC
  have H1 := kp (H1.out.vfr hf n1b n1g)
  have HV := kp hV
  have HB := kp (hf.below HB.out lb lg HB.out.size)
  have QH24 : Kp (w.heap.size ≤ w15.heap.size) := kp HB.out.size
  have n24b : w15.heap.size ≠ b := by have := hV.blk.lt; omega
  have n24g : w15.heap.size ≠ g := by have := hV.drw.lt; omega
  clear hV hf
  have H1 := kp (H1.out.alloc (.cells SB.toArray 23))
  have HV := kp (HV.out.bel (ba (Below.refl _ _) (.cells SB.toArray 23)))
  have HB := kp (ba HB.out (.cells SB.toArray 23))
  have H24 := kp (Blk.new w15 23 SB.toArray)
  have lH24 : w.heap.size ≤ w15.heap.size := QH24.out
  generalize w15.alloc (.cells SB.toArray 23) = W16 at H1 H24 HV HB ⊢
  generalize w15.heap.size = bH24 at *
  go_upto_region 17 with (go_at_call 22; (with_reducible refine (k10.out b g _ HV.out).mono ?_); rintro e w16 ⟨rfl, hV, hf⟩; have SC := sc_new (P := Try.prog) w16 23 SZ o3.out #[.int .i64 0, .int .i64 0, .int .i64 0] (by rw [zl.2.2]; rfl))
  change Code.wp _ _ _ _ (w16.alloc (.cells SZ.toArray 23))
  clear SC
  have H1 := kp (H1.out.vfr hf n1b n1g)
  have H24 := kp (H24.out.vfr hf n24b n24g)
  have HV := kp hV
  have HB := kp (hf.below HB.out lb lg HB.out.size)
  clear hV hf
  have H1 := kp (H1.out.alloc (.cells SZ.toArray 23))
  have H24 := kp (H24.out.alloc (.cells SZ.toArray 23))
  have HV := kp (HV.out.bel (ba (Below.refl _ _) (.cells SZ.toArray 23)))
  have HB := kp (ba HB.out (.cells SZ.toArray 23))
  generalize w16.alloc (.cells SZ.toArray 23) = W17 at H1 H24 HV HB ⊢
  rw [← HSA.out] at H1
  rw [← HSB.out] at H24
  have x0 := H1.out.atL (show (smC 50 20 12)[0]? = some (.int .i64 50) from rfl)
  have x1 := H1.out.atL (show (smC 50 20 12)[1]? = some (.int .i64 20) from rfl)
  have x2 := H1.out.atL (show (smC 50 20 12)[2]? = some (.int .i64 12) from rfl)
  have xl := H1.out.lt
  have y0 := H24.out.atL (show (smC 50 20 13)[0]? = some (.int .i64 50) from rfl)
  have y1 := H24.out.atL (show (smC 50 20 13)[1]? = some (.int .i64 20) from rfl)
  have y2 := H24.out.atL (show (smC 50 20 13)[2]? = some (.int .i64 13) from rfl)
  have yl := H24.out.lt
  go_wp2_with (first | (go_at_call 24; with_reducible refine (k11.out b g _ HV.out).mono ?_; rintro e w17 ⟨rfl, rfl⟩) | (go_at_call 14; (with_reducible refine (k12.out _).mono ?_); rintro e w18 ⟨rfl, hb1⟩; have z0 := (H1.out.bel hb1).atL (show (smC 50 20 12)[0]? = some (.int .i64 50) from rfl); have z1 := (H1.out.bel hb1).atL (show (smC 50 20 12)[1]? = some (.int .i64 20) from rfl); have z2 := (H1.out.bel hb1).atL (show (smC 50 20 12)[2]? = some (.int .i64 12) from rfl); have zl := (H1.out.bel hb1).lt) | (go_at_call 14; with_reducible refine (k13.out _).mono ?_; rintro e w19 ⟨rfl, hb2⟩))
  go_ret
  have q := bt' HB.out hb1 HB.out.size
  exact ⟨rfl, bt' q hb2 q.size⟩
end Go.Proofs.Ytkknnnkbegigeaa
/- volley: the plain law of Round. -/
namespace Go.Proofs.Ytkknnnkbegigeaa
open Go Go.RowKit
set_option linter.unusedVariables false
set_option linter.unusedSimpArgs false

theorem fo_right (f : Int) : fo f 0 = f := by unfold fo; split <;> simp_all
theorem fo_left (e : Int) : fo 0 e = e := by unfold fo; rw [if_pos rfl]
theorem intE_in {x : Int} (h : In64 x) : intE x = 0 := if_pos h
theorem intV_in {x : Int} (h : In64 x) : intV x = x := if_pos h
theorem intE_cases (x : Int) : intE x = 0 ∨ intE x = 6 := by unfold intE; split; exact Or.inl rfl; exact Or.inr rfl
theorem fo_cases {f e : Int} (hf : f = 0 ∨ f = 6) (he : e = 0 ∨ e = 6) : fo f e = 0 ∨ fo f e = 6 := by unfold fo; split; exact he; exact hf
theorem vRF8_cases (t1 t2 t3 t4 r : Int) : vRF8 t1 t2 t3 t4 r = 0 ∨ vRF8 t1 t2 t3 t4 r = 6 := by
  unfold vRF8 vRF6 vRF4
  exact fo_cases (fo_cases (fo_cases (fo_cases (fo_cases (fo_cases (fo_cases (intE_cases _) (intE_cases _)) (intE_cases _)) (intE_cases _)) (intE_cases _)) (intE_cases _)) (intE_cases _)) (intE_cases _)
theorem rndE_cases (t1 t2 t3 t4 r : Int) : rndE t1 t2 t3 t4 r = 0 ∨ rndE t1 t2 t3 t4 r = 1 ∨ rndE t1 t2 t3 t4 r = 3 ∨ rndE t1 t2 t3 t4 r = 6 := by
  unfold rndE vRE
  split
  · split
    · split <;> simp
    · rcases vRF8_cases t1 t2 t3 t4 r with h | h <;> simp [h]
  · simp
/-- what Round's error and bound hang on, where moments lie near -/
def coreB (th bk r : Int) : Int := (th - bk + 1) / 2 + intV (upQ (intV th * (2 * r))) + 2
def coreF (th bk r : Int) : Int := fo (fo (fo (fo (intE th) (intE bk)) (intE (th - bk))) (intE (upQ (intV th * (2 * r))))) (intE (coreB th bk r))
def coreE (th bk r : Int) : Int := if (0 ≤ r ∧ r ≤ 100000000) ∧ 0 ≤ th ∧ 0 ≤ bk then (if coreF th bk r = 0 then (if intV (th - bk) < 0 then 3 else 0) else coreF th bk r) else 1
theorem rnd_core {t1 t2 t3 t4 : Int} (r : Int) (hx : In64 (t2 - t1)) (hy : In64 (t3 - t4)) :
    rndE t1 t2 t3 t4 r = coreE (t4 - t1) (t3 - t2) r ∧ rndS t1 t2 t3 t4 r = if coreE (t4 - t1) (t3 - t2) r = 0 then smC ((t2 - t1 + (t3 - t4)) / 2) (intV (t4 - t1 - (t3 - t2))) (intV (coreB (t4 - t1) (t3 - t2) r)) else smC 0 0 0 := by
  have hh : In64 (vRHalf t1 t2 t3 t4) := by unfold vRHalf; unfold In64 at *; omega
  have hF : vRF8 t1 t2 t3 t4 r = coreF (t4 - t1) (t3 - t2) r := by
    unfold vRF8 vRF6 vRF4 coreF
    rw [intE_in hx, intE_in hy, intE_in hh, fo_right, fo_right, fo_right]
    rfl
  have hok : okR t1 t2 t3 t4 r ↔ (0 ≤ r ∧ r ≤ 100000000) ∧ 0 ≤ t4 - t1 ∧ 0 ≤ t3 - t2 := by unfold okR; omega
  have hE : rndE t1 t2 t3 t4 r = coreE (t4 - t1) (t3 - t2) r := by
    unfold rndE coreE vRE
    by_cases h : okR t1 t2 t3 t4 r
    · rw [if_pos h, if_pos (hok.1 h), hF]; rfl
    · rw [if_neg h, if_neg (fun g => h (hok.2 g))]
  refine ⟨hE, ?_⟩
  rw [← hE]
  unfold rndS
  by_cases h : okR t1 t2 t3 t4 r
  · rw [if_pos h]
    have e2 : rndE t1 t2 t3 t4 r = vRE t1 t2 t3 t4 r := if_pos h
    rw [e2]
    unfold vRS
    rw [intV_in hh]
    rfl
  · rw [if_neg h]
    have e2 : rndE t1 t2 t3 t4 r = 1 := if_neg h
    rw [e2, if_neg (by decide)]
theorem upQ_range {z B : Int} (h0 : 0 ≤ z) (h1 : z ≤ B * 1000000000) : 0 ≤ upQ z ∧ upQ z ≤ B := by unfold upQ; split <;> omega
theorem core_fit {th bk r : Int} (hr : 0 ≤ r ∧ r ≤ 100000000) (h1 : 0 ≤ th ∧ th < 4611686018427387904) (h2 : 0 ≤ bk ∧ bk < 4611686018427387904) :
    coreE th bk r = (if th - bk < 0 then 3 else 0) ∧ coreB th bk r = (th - bk + 1) / 2 + upQ (th * (2 * r)) + 2 ∧ In64 (coreB th bk r) ∧ intV (th - bk) = th - bk ∧ 0 ≤ upQ (th * (2 * r)) := by
  have e1 : In64 th := by unfold In64; omega
  have e2 : In64 bk := by unfold In64; omega
  have e3 : In64 (th - bk) := by unfold In64; omega
  have hz0 : 0 ≤ th * (2 * r) := Int.mul_nonneg h1.1 (by omega)
  have hz1 : th * (2 * r) ≤ 922337203685477581 * 1000000000 := by
    have h : th * (2 * r) ≤ 4611686018427387904 * 200000000 := Int.mul_le_mul (by omega) (by omega) (by omega) (by omega)
    omega
  have hu := upQ_range hz0 hz1
  have e4 : In64 (upQ (th * (2 * r))) := by unfold In64; omega
  have hB : coreB th bk r = (th - bk + 1) / 2 + upQ (th * (2 * r)) + 2 := by unfold coreB; rw [intV_in e1, intV_in e4]
  have e5 : In64 (coreB th bk r) := by rw [hB]; unfold In64; omega
  have hF : coreF th bk r = 0 := by
    unfold coreF
    rw [intV_in e1, intE_in e1, intE_in e2, intE_in e3, intE_in e4, intE_in e5]
    rfl
  refine ⟨?_, hB, e5, intV_in e3, hu.1⟩
  unfold coreE
  rw [if_pos ⟨hr, h1.1, h2.1⟩, if_pos hF, intV_in e3]
theorem within_self (o b : Int) (hb : 0 ≤ b) : withinB o b o b = true := by unfold withinB; exact decide_eq_true (by omega)
theorem within_turn (o b p c : Int) : withinB o b p c = withinB p c o b := by unfold withinB; exact decide_eq_decide.2 (by omega)
theorem within_dist {o b p c : Int} (hb : 0 ≤ b) (hc : 0 ≤ c) : withinB o b p c = decide (max o p - min o p ≤ b + c) := by unfold withinB; exact decide_eq_decide.2 (by omega)
theorem within_more {o b p c : Int} (m : Int) (hm : 0 ≤ m) (h : withinB o b p c = true) : withinB o (b + m) p c = true := by
  unfold withinB at *
  have := of_decide_eq_true h
  exact decide_eq_true (by omega)
end Go.Proofs.Ytkknnnkbegigeaa
/- a drawing region whose last operation alone may break S: what has a fixed value under S is taken first; then a forced tail -/
namespace Go.Proofs.Ytkknnnkbegigeaa
open Go Go.RowKit
set_option linter.unusedVariables false
set_option linter.unusedSimpArgs false
section
variable {P : Program} {ops : Array Oper} {md : Region.Mode} {Q : Exit → Act → World → Prop} {S : World → Prop} {x : Nat}

/-- whatever order is picked: S behind every operation but x -/
def wpAnyL (P : Program) (md : Region.Mode) (ops : Array Oper) (Q : Exit → Act → World → Prop) (S : World → Prop) (x : Nat) : Nat → Array Bool → Act → World → Prop
  | 0, listed, a, w => Region.ready md ops listed = [] ∧ Q .normal a w
  | fuel + 1, listed, a, w =>
    (Region.ready md ops listed = [] → Q .normal a w) ∧
    ∀ i ∈ Region.ready md ops listed, wpOp P ops Q i (fun a' w' => (i ≠ x → S w') ∧ wpAnyL P md ops Q S x fuel (listed.setIfInBounds i true) a' w') a w
theorem wpAny_of_L : ∀ (fuel : Nat) (listed : Array Bool) (a : Act) (w : World), wpAnyL P md ops Q S x fuel listed a w → wpAny P md ops Q fuel listed a w
  | 0, _, _, _, h => h
  | fuel + 1, _, _, _, h => ⟨h.1, fun i hi => wpOp_mono (fun a' w' h' => wpAny_of_L fuel _ a' w' h'.2) (h.2 i hi)⟩
theorem wpAnyL_first {i : Nat} {oi : Oper} {v : Value} (hi : ops[i]? = some oi) (hsel : ∀ (j : Nat) (o : Oper) cs b, ops[j]? = some o → o.op ≠ .select cs b)
    (hxi : Region.waitsFor md ops x i = true)
    (hQ : ∀ c a w, Q (.panic c) (a.put oi.dst v) w → Q (.panic c) a w) :
    ∀ (fuel : Nat) (listed : Array Bool) (a : Act) (w : World),
      (∀ j oj, ops[j]? = some oj → j ≠ i → listed.getD j true = false → (∀ e ∈ oj.after, Region.binds md e = true → e.on ≠ i) → oi.apart ops oj = true) →
      i ∈ Region.ready md ops listed → YieldsIf P ops S oi v a → S w →
      wpAnyL P md ops Q S x fuel (listed.setIfInBounds i true) (a.put oi.dst v) w → wpAnyL P md ops Q S x (fuel + 1) listed a w := by
  intro fuel
  induction fuel with
  | zero =>
    intro listed a w _ hr hy hS H
    refine ⟨fun h => (by rw [h] at hr; cases hr), fun j hj => ?_⟩
    by_cases hji : j = i
    · subst hji; exact hy.wpOp hi hS ⟨fun _ => hS, H⟩
    · have := ready_mono hj hji
      rw [H.1] at this
      cases this
  | succ fuel ih =>
    intro listed a w hfree hr hy hS H
    refine ⟨fun h => (by rw [h] at hr; cases hr), fun j hj => ?_⟩
    by_cases hji : j = i
    · subst hji; exact hy.wpOp hi hS ⟨fun _ => hS, H⟩
    · have h1 := H.2 j (ready_mono hj hji)
      obtain ⟨hjun, oj, hoj, hall⟩ := mem_ready.1 hj
      have hnot : ∀ e ∈ oj.after, Region.binds md e = true → e.on ≠ i := fun e he hb heq => by
        have h1 := hall e he hb
        have h0 := (mem_ready.1 hr).1
        rw [heq] at h1
        rcases Nat.lt_or_ge i listed.size with h' | h'
        · simp [h'] at h0 h1; rw [h0] at h1; cases h1
        · simp [Array.getElem?_eq_none h'] at h1
      have hjx : j ≠ x := by
        intro e
        obtain ⟨ox, hox, e1, he1, hb1, hon⟩ := Region.waitsFor_spec hxi
        rw [e] at hoj
        obtain rfl : oj = ox := Option.some.inj (hoj.symm.trans hox)
        exact hnot e1 he1 hb1 hon
      have h2 := wpOp_putIf hoj (hfree j oj hoj hji hjun hnot) (fun cs b => hsel i oi cs b hi) (fun cs b => hsel j oj cs b hoj) hQ hy h1
      have hfree' : ∀ k ok, ops[k]? = some ok → k ≠ i → (listed.setIfInBounds j true).getD k true = false →
          (∀ e ∈ ok.after, Region.binds md e = true → e.on ≠ i) → oi.apart ops ok = true := fun k ok hk hki hun hno => by
        refine hfree k ok hk hki ?_ hno
        by_cases hjk : j = k
        · subst hjk; exact hjun
        · rw [getD_set_ne true hjk] at hun; exact hun
      refine wpOp_mono (fun a' w' h3 => ⟨h3.2.1, ih (listed.setIfInBounds j true) a' w' hfree' (ready_mono hr (Ne.symm hji)) h3.1 (h3.2.1 hjx) ?_⟩) h2
      rw [Array.setIfInBounds_comm _ _ hji]
      exact h3.2.2
def takeLB (md : Region.Mode) (ops : Array Oper) (x : Nat) : List (Nat × Nat) → Array Bool → Bool
  | [], _ => true
  | e :: es, listed => decide (e.1 < ops.size) && ((ops.getD e.1 default).dst == some e.2) && Region.free md ops listed e.1 && (Region.ready md ops listed).contains e.1 && Region.waitsFor md ops x e.1 && takeLB md ops x es (listed.setIfInBounds e.1 true)
theorem takeAllL (hs : Region.noSelect ops = true) (hQ : ∀ c (a : Act) d v w, Q (.panic c) (a.put d v) w → Q (.panic c) a w) : ∀ (es : List (Nat × Nat)) (vs : List Value) (listed : Array Bool) (a : Act) (w : World) (fuel : Nat), takeLB md ops x es listed = true → TakeOK P ops S es vs a → S w → wpAnyL P md ops Q S x fuel (setAll listed es) (putAll a es vs) w → wpAnyL P md ops Q S x (fuel + es.length) listed a w
  | [], vs, listed, a, w, fuel, _, hT, _, h => by
    cases vs with
    | nil => exact h
    | cons v vs => exact hT.elim
  | e :: es, vs, listed, a, w, fuel, hB, hT, hS, h => by
    cases vs with
    | nil => exact hT.elim
    | cons v vs =>
      unfold takeLB at hB
      simp only [Bool.and_eq_true, decide_eq_true_eq, beq_iff_eq] at hB
      obtain ⟨⟨⟨⟨⟨b1, b2⟩, b3⟩, b4⟩, b6⟩, b5⟩ := hB
      have h2 := takeAllL hs hQ es vs _ _ w fuel b5 hT.2 hS h
      exact wpAnyL_first (getD_some b1) (Region.noSelect_spec hs) b6 (fun c a w hh => hQ c a _ v w hh) _ listed a w (Region.free_spec (getD_some b1) b3) (by simpa using b4) hT.1 hS (by rw [b2]; exact h2)
/-- a tail in its one order -/
def wpListL (P : Program) (ops : Array Oper) (Q : Exit → Act → World → Prop) (S : World → Prop) (x : Nat) : List Nat → Act → World → Prop
  | [], a, w => Q .normal a w
  | i :: t, a, w => wpOp P ops Q i (fun a' w' => (i ≠ x → S w') ∧ wpListL P ops Q S x t a' w') a w
def seqLB (md : Region.Mode) (ops : Array Oper) : List Nat → Array Bool → Bool
  | [], listed => (Region.ready md ops listed).isEmpty
  | k :: t, listed => decide (Region.ready md ops listed = [k]) && seqLB md ops t (listed.setIfInBounds k true)
theorem wpAnyL_of_seq : ∀ (t : List Nat) (listed : Array Bool) (a : Act) (w : World), seqLB md ops t listed = true → wpListL P ops Q S x t a w → wpAnyL P md ops Q S x t.length listed a w
  | [], listed, a, w, hB, h => ⟨by simpa [seqLB] using hB, h⟩
  | k :: t, listed, a, w, hB, h => by
    unfold seqLB at hB
    simp only [Bool.and_eq_true, decide_eq_true_eq] at hB
    refine ⟨fun h1 => (by rw [hB.1] at h1; cases h1), fun i hi => ?_⟩
    rw [hB.1] at hi
    have hik : i = k := by simpa using hi
    subst hik
    exact wpOp_mono (fun a' w' h' => ⟨h'.1, wpAnyL_of_seq t _ a' w' hB.2 h'.2⟩) h
theorem stepL {i : Nat} {t : List Nat} {a : Act} {w W' : World} {v : Value} (d : Nat) (hd : (ops.getD i default).dst = some d) (hi : i < ops.size) (hg : (ops.getD i default).guard = none) (hr : (execOp a.eval (ops.getD i default)).run P w = .ok (.value v) W') (hS : i ≠ x → S W') (h : wpListL P ops Q S x t (a.put (some d) v) W') : wpListL P ops Q S x (i :: t) a w :=
  wpOp_val hi hg hr ⟨hS, by rw [hd]; exact h⟩
theorem stepL_skip {i : Nat} {t : List Nat} {a : Act} {w W' : World} (hd : (ops.getD i default).dst = none) (hi : i < ops.size) (hg : (ops.getD i default).guard = none) (hr : (execOp a.eval (ops.getD i default)).run P w = .ok .skip W') (hS : i ≠ x → S W') (h : wpListL P ops Q S x t a W') : wpListL P ops Q S x (i :: t) a w := by
  unfold wpListL wpOp
  simp only [getD_some hi]
  rw [if_pos (by unfold Region.wanted; rw [hg])]
  refine .inl ?_
  unfold Oper.wp
  rw [hr]
  show (i ≠ x → S W') ∧ wpListL P ops Q S x t (a.put _ undef) W'
  rw [hd]
  exact ⟨hS, h⟩
theorem wp_region_lastL {id : Nat} {a : Act} {w : World} (x : Nat) (hm : P.follows .mixedOrders = true)
    (h : wpAnyL P .any ops Q S x ops.size (Array.replicate ops.size false) a { w with drawn := w.drawn + 1 }) : (Code.region id ops true).wp P Q a w :=
  wp_region_any hm (wpAny_of_L _ _ _ _ h)
end
end Go.Proofs.Ytkknnnkbegigeaa
/- Arguments opened to their leaves: structs, arrays, slices of them. -/
namespace Go.Proofs.Ytkknnnkbegigeaa
open Go Go.RowKit Go.ChangeShapes Go.WideShapes Go.ChangeAt Go.Deep
set_option linter.unusedVariables false
set_option linter.unusedSimpArgs false

inductive Leaf where
  | int (k : IntKind)
  | bool
  | str
def Leaf.fits : Leaf → Value → Prop
  | .int k, v => ∃ z, v = .int k z ∧ (Lit.int k z).wf = true
  | .bool, v => ∃ b, v = .bool b
  | .str, v => ∃ s : ByteArray, v = .string s ∧ s.size ≤ maxLen
def Fits : List Leaf → List Value → Prop
  | [], [] => True
  | l :: ls, v :: vs => l.fits v ∧ Fits ls vs
  | _, _ => False
theorem Fits.append : ∀ {a : List Leaf} {x : List Value} {b : List Leaf} {y : List Value}, Fits a x → Fits b y → Fits (a ++ b) (x ++ y)
  | [], [], _, _, _, h => h
  | _ :: _, _ :: _, _, _, h1, h2 => ⟨h1.1, Fits.append h1.2 h2⟩
theorem Fits.len : ∀ {a : List Leaf} {x : List Value}, Fits a x → x.length = a.length
  | [], [], _ => rfl
  | _ :: _, _ :: _, h => by simp [Fits.len h.2]

theorem Fits.int {k : IntKind} {ls : List Leaf} {r : List Value} (h : Fits (.int k :: ls) r) : ∃ z vs, r = .int k z :: vs ∧ (Lit.int k z).wf = true ∧ Fits ls vs := by
  cases r with
  | nil => exact h.elim
  | cons v vs => obtain ⟨⟨z, rfl, hz⟩, h2⟩ := h; exact ⟨z, vs, rfl, hz, h2⟩
theorem Fits.bool {ls : List Leaf} {r : List Value} (h : Fits (.bool :: ls) r) : ∃ z vs, r = .bool z :: vs ∧ Fits ls vs := by
  cases r with
  | nil => exact h.elim
  | cons v vs => obtain ⟨⟨z, rfl⟩, h2⟩ := h; exact ⟨z, vs, rfl, h2⟩
theorem Fits.str {ls : List Leaf} {r : List Value} (h : Fits (.str :: ls) r) : ∃ (s : ByteArray) (vs : List Value), r = .string s :: vs ∧ s.size ≤ maxLen ∧ Fits ls vs := by
  cases r with
  | nil => exact h.elim
  | cons v vs => obtain ⟨⟨z, rfl, hz⟩, h2⟩ := h; exact ⟨z, vs, rfl, hz, h2⟩
theorem Fits.nil {r : List Value} (h : Fits [] r) : r = [] := by
  cases r with
  | nil => rfl
  | cons v vs => exact h.elim

def fieldLeaves (P : Program) (L : TypeId → Option (List Leaf)) : Nat → List Field → Option (List Leaf)
  | _, [] => some []
  | o, f :: fs =>
    match L f.type, fieldLeaves P L (o + P.cellsOf f.type) fs with
    | some l, some r => if f.offset = o ∧ P.cellsOf f.type = l.length then some (l ++ r) else none
    | _, _ => none
def leaves (P : Program) : Nat → TypeId → Option (List Leaf)
  | 0, _ => none
  | n + 1, t =>
    match P.underlying t with
    | some .bool => some [.bool]
    | some (.int k) => some [.int k]
    | some .string => some [.str]
    | some (.struct fs) =>
      match fieldLeaves P (leaves P n) 0 fs.toList with
      | some r => if P.cellsOf t = r.length then some r else none
      | none => none
    | some (.array m e) =>
      match leaves P n e with
      | some l => if P.cellsOf e = l.length ∧ P.cellsOf t = m * l.length then some (List.replicate m l).flatten else none
      | none => none
    | _ => none

section
variable {H : Type} {enc : TypeId × Value → H} {P : Program} {w : World} {base : Nat} {spare : Nat → Bool} {held : Bool}

theorem fields_fit {L : TypeId → Option (List Leaf)} {cs : List Value}
    (hL : ∀ t l fuel c x, L t = some l → DataW.trod enc P w base spare held fuel t c = some x → Fits l c) :
    ∀ (fl : List Field) (o : Nat) (r : List Leaf), fieldLeaves P L o fl = some r → (∀ f ∈ fl, ∃ m y, DataW.trod enc P w base spare held m f.type ((cs.drop f.offset).take (P.cellsOf f.type)) = some y) →
      cs.length = o + r.length → Fits r (cs.drop o)
  | [], o, r, h, _, hlen => by
    simp only [fieldLeaves, Option.some.injEq] at h
    subst h
    rw [List.drop_of_length_le (by simpa using Nat.le_of_eq hlen)]
    trivial
  | f :: fl, o, r, h, hf, hlen => by
    unfold fieldLeaves at h
    split at h
    · rename_i l r' h1 h2
      split at h
      · rename_i hc
        obtain ⟨rfl, hk⟩ := hc
        simp only [Option.some.injEq] at h
        subst h
        rw [List.length_append] at hlen
        obtain ⟨m, y, hy⟩ := hf f (by simp)
        have := fields_fit hL fl _ r' h2 (fun g hg => hf g (by simp [hg])) (by rw [hlen, hk]; omega)
        have hl := hL _ _ _ _ _ h1 hy
        have e : cs.drop f.offset = (cs.drop f.offset).take (P.cellsOf f.type) ++ cs.drop (f.offset + P.cellsOf f.type) := by
          rw [← List.drop_drop, List.take_append_drop]
        rw [e]
        exact hl.append this
      · cases h
    · cases h

theorem rows_fit {l : List Leaf} {cs : List Value} (m : Nat) : ∀ (j : Nat), j ≤ m → cs.length = m * l.length → (∀ i, i < m → Fits l ((cs.drop (i * l.length)).take l.length)) → Fits (List.replicate j l).flatten (cs.drop ((m - j) * l.length))
  | 0, _, hlen, _ => by
    rw [Nat.sub_zero, List.drop_of_length_le (by omega)]
    trivial
  | j + 1, hj, hlen, h => by
    have := rows_fit m j (by omega) hlen h
    have h1 := h (m - (j + 1)) (by omega)
    have e : cs.drop ((m - (j + 1)) * l.length) = (cs.drop ((m - (j + 1)) * l.length)).take l.length ++ cs.drop ((m - j) * l.length) := by
      have e2 : (m - j) * l.length = (m - (j + 1)) * l.length + l.length := by
        rw [show m - j = (m - (j + 1)) + 1 by omega, Nat.succ_mul]
      rw [e2, ← List.drop_drop, List.take_append_drop]
    rw [e, List.replicate_succ, List.flatten_cons]
    exact h1.append this

theorem fits_of_trod : ∀ (n : Nat) (t : TypeId) (ls : List Leaf) (fuel : Nat) (cs : List Value) (x : DataW H × List MemPlace), leaves P n t = some ls → DataW.trod enc P w base spare held fuel t cs = some x → Fits ls cs
  | 0, _, _, _, _, _, h, _ => by simp [leaves] at h
  | n + 1, t, ls, fuel, cs, x, h, ht => by
    unfold leaves at h
    split at h
    · rename_i hu
      obtain ⟨b, rfl, _⟩ := DataW.trod_bool hu ht
      simp only [Option.some.injEq] at h; subst h
      exact ⟨⟨b, rfl⟩, trivial⟩
    · rename_i k hu
      obtain ⟨z, rfl, _, hw⟩ := DataW.trod_int hu ht
      simp only [Option.some.injEq] at h; subst h
      exact ⟨⟨z, rfl, hw⟩, trivial⟩
    · rename_i hu
      obtain ⟨s, rfl, _, hw⟩ := DataW.trod_string hu ht
      simp only [Option.some.injEq] at h; subst h
      exact ⟨⟨s, rfl, hw⟩, trivial⟩
    · rename_i fs hu
      split at h
      · rename_i r hr
        split at h
        · rename_i hc
          simp only [Option.some.injEq] at h; subst h
          obtain ⟨xs, m, _, _, hlen, hxl, hf⟩ := DataW.trod_struct hu ht
          have := fields_fit (enc := enc) (w := w) (base := base) (spare := spare) (held := held) (cs := cs) (fun t l fu c x h1 h2 => fits_of_trod n t l fu c x h1 h2) fs.toList 0 r hr (fun f hfm => by
            obtain ⟨i, hi, he⟩ := List.getElem_of_mem hfm
            have hi' : i < fs.size := by simpa using hi
            have := hf i f (by rw [Array.getElem?_eq_getElem hi']; simpa using he)
            rw [List.getElem?_eq_getElem (by omega)] at this
            exact ⟨m, _, this⟩) (by rw [hlen, hc, Nat.zero_add])
          simpa using this
        · cases h
      · cases h
    · rename_i m e hu
      split at h
      · rename_i l hl
        split at h
        · rename_i hc
          simp only [Option.some.injEq] at h; subst h
          obtain ⟨xs, q, _, _, hlen, hxl, hf⟩ := DataW.trod_array hu ht
          have := rows_fit (l := l) (cs := cs) m m (Nat.le_refl _) (by rw [hlen, hc.2]) (fun i hi => by
            have := hf i hi
            rw [hc.1, List.getElem?_eq_getElem (by omega)] at this
            exact fits_of_trod n e l _ _ _ hl this)
          simpa using this
        · cases h
      · cases h
    · cases h

/-- a struct or an array, by value -/
theorem open_agg {r : Reach} {b0 : Nat} {t : TypeId} {v : Value} {d : DataW H} {ps : List MemPlace} (n : Nat) (ls : List Leaf) (hl : leaves P n t = some ls)
    (ha : (match P.underlying t with | some (.struct _) | some (.array _ _) => true | _ => false) = true) (hv : Value.okWide P w r b0 t v) (h : DataW.Trod enc P w base spare held t v d ps) :
    ∃ cs : List Value, v = .agg cs.toArray ∧ Fits ls cs := by
  have hc : ∃ cs, v = .agg cs := by
    unfold Value.okWide at hv
    split at ha
    · rename_i fs hu
      simp only [hu] at hv
      obtain ⟨cs, h1, _⟩ := hv
      exact ⟨cs, h1⟩
    · rename_i m e hu
      simp only [hu] at hv
      obtain ⟨cs, h1, _⟩ := hv
      exact ⟨cs, h1⟩
    · cases ha
  obtain ⟨cs, rfl⟩ := hc
  obtain ⟨fuel, hf⟩ := h
  exact ⟨cs.toList, by simp, fits_of_trod n t ls fuel _ _ hl hf⟩

/-- a slice's elements, each as its leaves' values -/
def RowsAt (w : World) (ad : Option Addr) (k : Nat) (rows : List (List Value)) : Prop :=
  rows ≠ [] → ∃ b o, ad = some ⟨b, o, none⟩ ∧ b < w.heap.size ∧ ∀ (i : Nat) (r : List Value), rows[i]? = some r → ∀ (j : Nat) (u : Value), r[j]? = some u → w.cell? ⟨b, o + i * k + j, none⟩ = some u

theorem add_plain (b o n : Nat) : (⟨b, o, none⟩ : Addr).add n = ⟨b, o + n, none⟩ := by unfold Addr.add; split <;> simp_all

theorem open_rows {r : Reach} {b0 : Nat} {t e : TypeId} {v : Value} {d : DataW H} {ps : List MemPlace} (n : Nat) (ls : List Leaf) (ht : P.underlying t = some (.slice e)) (hl : leaves P n e = some ls) (hc : P.cellsOf e = ls.length) (hpos : 0 < ls.length)
    (hv : Value.okWide P w r b0 t v) (h : DataW.Trod enc P w base spare held t v d ps) :
    ∃ (ad : Option Addr) (c : Nat) (rows : List (List Value)), v = .slice ad rows.length c ∧ rows.length ≤ c ∧ c ≤ maxLen ∧ (∀ r ∈ rows, Fits ls r) ∧ RowsAt w ad ls.length rows := by
  obtain ⟨a0, len0, cap0, rfl⟩ := okWide_slice ht hv
  obtain ⟨fuel, hf⟩ := h
  rcases open_slice ht hf with ⟨hcs, hx⟩ | ⟨a, len, cap, m, q, D, Pl, hcs, hb, hlc, hm, hmm, hx, hi⟩
  · have : Value.slice a0 len0 cap0 = .slice none 0 0 := by simpa [Value.cells] using hcs
    rw [this]
    exact ⟨none, 0, [], rfl, Nat.le_refl _, Nat.zero_le _, by simp, fun h => absurd rfl h⟩
  · have he : Value.slice a0 len0 cap0 = .slice (some a) len cap := by simpa [Value.cells] using hcs
    rw [he]
    have hlm : len ≤ m := by rw [hmm]; split <;> omega
    have key : ∀ i, i < len → ∃ r : List Value, Fits ls r ∧ ∀ j, j < ls.length → w.cell? ((a.add (i * ls.length)).add j) = r[j]? := fun i hil => by
      obtain ⟨cs', h1, h2⟩ := hi i (by omega)
      rw [hc] at h1
      obtain ⟨_, _, h3⟩ := World.cells?_some h1
      exact ⟨cs', fits_of_trod n e ls _ _ _ hl h2, h3⟩
    obtain ⟨f, hf⟩ : ∃ f : Nat → List Value, ∀ i, i < len → Fits ls (f i) ∧ ∀ j, j < ls.length → w.cell? ((a.add (i * ls.length)).add j) = (f i)[j]? :=
      ⟨fun i => if hil : i < len then (key i hil).choose else [], fun i hil => by simp only [hil, dif_pos]; exact (key i hil).choose_spec⟩
    refine ⟨some a, cap, (List.range len).map f, by simp, by simpa using hlc, hm, ?_, ?_⟩
    · intro r hr
      obtain ⟨i, hi1, rfl⟩ := List.mem_map.1 hr
      exact (hf i (by simpa using hi1)).1
    · intro hne
      have hlen : 0 < len := by
        rcases Nat.eq_zero_or_pos len with h0 | h0
        · subst h0; simp at hne
        · exact h0
      have h00 := (hf 0 hlen).2 0 hpos
      have hl0 := (hf 0 hlen).1.len
      rw [List.getElem?_eq_getElem (by omega)] at h00
      have ha0 : (a.add (0 * ls.length)).add 0 = a := by simp [Addr.add]
      rw [ha0] at h00
      have hsp : a = ⟨a.block, a.off, none⟩ := by
        obtain ⟨b, o, sp⟩ := a
        unfold World.cell? at h00
        cases sp with
        | none => rfl
        | some s => simp at h00; split at h00 <;> simp_all
      refine ⟨a.block, a.off, by rw [← hsp], World.block_lt_of_cell? w _ h00, ?_⟩
      intro i r hr j u hu
      rw [List.getElem?_map] at hr
      obtain ⟨i', hi', rfl⟩ := Option.map_eq_some_iff.1 hr
      obtain ⟨hil, hii⟩ := List.getElem?_eq_some_iff.1 hi'
      simp at hil hii
      subst hii
      have h1 := (hf i hil).2 j (by have := (hf i hil).1.len; have := (List.getElem?_eq_some_iff.1 hu).1; omega)
      rw [hsp, add_plain, add_plain, hu] at h1
      exact h1
end
theorem rows_map {α : Type} {Q : List Value → Prop} (f : α → List Value) (R : α → Prop) (h : ∀ r, Q r → ∃ a, r = f a ∧ R a) : ∀ (rows : List (List Value)), (∀ r ∈ rows, Q r) → ∃ l : List α, rows = l.map f ∧ ∀ a ∈ l, R a
  | [], _ => ⟨[], rfl, by simp⟩
  | r :: rows, hr => by
    obtain ⟨l, rfl, hl⟩ := rows_map f R h rows (fun r hr' => hr r (by simp [hr']))
    obtain ⟨a, rfl, ha⟩ := h r (hr r (by simp))
    exact ⟨a :: l, rfl, by simpa using ⟨ha, hl⟩⟩

end Go.Proofs.Ytkknnnkbegigeaa
/- arguments that are keys, and slices of texts. -/
namespace Go.Proofs.Ytkknnnkbegigeaa
open Go Go.RowKit Go.ChangeShapes Go.WideShapes Go.ChangeAt
set_option linter.unusedVariables false
set_option linter.unusedSimpArgs false

theorem fits_u8s : ∀ (n : Nat) (cs : List Value), Fits (List.replicate n (.int .u8)) cs → ∃ K : List UInt8, cs = cellsU8 K ∧ K.length = n
  | 0, cs, h => ⟨[], h.nil, rfl⟩
  | n + 1, cs, h => by
    rw [List.replicate_succ] at h
    obtain ⟨z, vs, rfl, hz, h2⟩ := h.int
    obtain ⟨K, rfl, hK⟩ := fits_u8s n vs h2
    have hz2 := wf_u8 hz
    refine ⟨UInt8.ofNat z.toNat :: K, ?_, by simp [hK]⟩
    simp only [cellsU8, List.map_cons]
    congr 2
    simp
    omega

section
variable {H : Type} {enc : TypeId × Value → H} {w : World} {base : Nat} {spare : Nat → Bool} {held : Bool}
set_option maxRecDepth 100000 in
theorem open_key {r : Reach} {b0 : Nat} {v : Value} {d : DataW H} {ps : List MemPlace} (hv : Value.okWide Try.prog w r b0 120 v) (h : DataW.Trod enc Try.prog w base spare held 120 v d ps) :
    ∃ K : List UInt8, v = keyV K ∧ K.length = 32 := by
  obtain ⟨cs, rfl, hf⟩ := open_agg 4 (List.replicate 32 (.int .u8)) (by kernel_rfl) (by kernel_rfl) hv h
  obtain ⟨K, rfl, hK⟩ := fits_u8s 32 cs hf
  exact ⟨K, rfl, hK⟩
end
end Go.Proofs.Ytkknnnkbegigeaa
/- arguments of layer 14: samples, draws. -/
namespace Go.Proofs.Ytkknnnkbegigeaa
open Go Go.RowKit Go.ChangeShapes Go.WideShapes Go.ChangeAt
set_option linter.unusedVariables false
set_option linter.unusedSimpArgs false

section
variable {H : Type} {enc : TypeId × Value → H} {w : World} {base : Nat} {spare : Nat → Bool} {held : Bool}
set_option maxRecDepth 100000 in
theorem open_smp {r : Reach} {b0 : Nat} {v : Value} {d : DataW H} {ps : List MemPlace} (hv : Value.okWide Try.prog w r b0 23 v) (h : DataW.Trod enc Try.prog w base spare held 23 v d ps) :
    ∃ (so sd sb : Int), v = .agg (smC so sd sb).toArray ∧ (Lit.int .i64 so).wf = true ∧ (Lit.int .i64 sd).wf = true ∧ (Lit.int .i64 sb).wf = true := by
  obtain ⟨cs, rfl, hf⟩ := open_agg 4 [.int .i64, .int .i64, .int .i64] (by kernel_rfl) (by kernel_rfl) hv h
  obtain ⟨a, cs, rfl, h1, hf⟩ := hf.int
  obtain ⟨b, cs, rfl, h2, hf⟩ := hf.int
  obtain ⟨c, cs, rfl, h3, hf⟩ := hf.int
  obtain rfl := hf.nil
  exact ⟨a, b, c, rfl, h1, h2, h3⟩
set_option maxRecDepth 100000 in
theorem open_draw {r : Reach} {b0 : Nat} {v : Value} {d : DataW H} {ps : List MemPlace} (hv : Value.okWide Try.prog w r b0 53 v) (h : DataW.Trod enc Try.prog w base spare held 53 v d ps) :
    ∃ K : List UInt8, v = .agg (cellsU8 K).toArray ∧ K.length = 16 := by
  obtain ⟨cs, rfl, hf⟩ := open_agg 4 (List.replicate 16 (.int .u8)) (by kernel_rfl) (by kernel_rfl) hv h
  obtain ⟨K, rfl, hK⟩ := fits_u8s 16 cs hf
  exact ⟨K, rfl, hK⟩
end
end Go.Proofs.Ytkknnnkbegigeaa
