/- head: the reference's Write. -/
import Derived.Test.YtoifkfhbinfplaaHd12
namespace Go.Proofs.Ytoifkfhbinfplaa
open Go Go.RowKit
set_option linter.unusedVariables false
set_option linter.unusedSimpArgs false
attribute [local go_sem] bmax2 bmin2 bmax bmin cell_ext frozen_ext

variable {w w' : World} {ad : Option Addr} {l : List Fd} {b o : Nat}
theorem Fd.len4 (f : Fd) : f.bytes.length % 4 = 0 := by
  rw [Fd.len]
  have := pad_done f.d.size 4 (by decide)
  omega
theorem body4 (l : List Fd) : (bodyL l).length % 4 = 0 := by
  induction l with
  | nil => rfl
  | cons f l ih =>
    have h : bodyL (f :: l) = f.bytes ++ bodyL l := by simp [bodyL]
    have := f.len4
    rw [h, List.length_append]
    omega
theorem right_iff (f : Fd) : f.right = true ↔ 1 ≤ f.k ∧ f.k ≤ 65535 ∧ f.d.size ≤ 1000 := by
  unfold Fd.right rightB inB
  simp only [Bool.and_eq_true, decide_eq_true_eq]
  omega
theorem str_zero : (str [0] : ByteArray) = ⟨#[0]⟩ := rfl
set_option maxHeartbeats 1000000 in
set_option maxRecDepth 100000 in
theorem R_Write_bad (h : Hd) (hok : h.ok) (hm : h.may = false) (v : Value) (w : World) :
    Calls Try.prog 22 #[.agg h.cells.toArray, v] w fun e w' => e = .returned (.tuple #[.string (str []), .int .i64 2]) ∧ Below w.heap.size w w' := by
  have cP : Kp (∀ w', Calls Try.prog 13 #[.agg h.cells.toArray] w' fun e w'' => e = .returned (.tuple #[.string (str []), .int .i64 2]) ∧ Below w'.heap.size w' w'') := kp (fun w' => R_Put_bad h hm w')
  have HL := h.length
  have HB := kp (ba (Below.refl w.heap.size w) (.cells h.cells.toArray 26))
  have HN := kp (Blk.new w 26 h.cells.toArray)
  generalize h.cells = L at *
  have L1 := ld_all (P := Try.prog) w.heap.size 13 26 26 L _ Try.underlying26 rfl info_head HL HN.out
  go_enter Try.func22, Try.ntmps22
  go_wp2_with (refine wpL_load rfl 26 _ rfl rfl L1 ?_)
  refine (cP.out _).mono ?_
  rintro e w1 ⟨rfl, hb1⟩
  have HB := kp (bt' HB.out hb1 HB.out.size)
  clear hb1 L1 HN
  go_wp2
  go_ret2
  exact ⟨rfl, HB.out⟩
set_option maxHeartbeats 4000000 in
set_option maxRecDepth 100000 in
theorem R_Write (h : Hd) (hok : h.ok) (ad : Option Addr) (c : Nat) (l : List Fd) (w : World) (hl : (bodyL l).length ≤ 1048576) (hs : FS w ad l) :
    Calls Try.prog 22 #[.agg h.cells.toArray, .slice ad l.length c] w fun e w' => e = .returned (.tuple #[.string (str (writeL h l).1), .int .i64 (writeL h l).2]) ∧ Below w.heap.size w w' := by
  cases hmay : h.may with
  | false =>
    have : writeL h l = ([], 2) := by unfold writeL; rw [hmay, Bool.false_and, if_neg (by simp)]
    rw [this]
    exact R_Write_bad h hok hmay _ w
  | true =>
  have cP : Kp (∀ w', Calls Try.prog 13 #[.agg h.cells.toArray] w' fun e w'' => e = .returned (.tuple #[.string (str h.bytes), .int .i64 0]) ∧ Below w'.heap.size w' w'') := kp (fun w' => R_Put_good h hmay hok w')
  have HPL := h.bytes_len
  have HL := h.length
  have HB := kp (ba (Below.refl w.heap.size w) (.cells h.cells.toArray 26))
  have HN := kp (Blk.new w 26 h.cells.toArray)
  have hct := body_count l
  have HS := kp (hs.bel HB.out)
  obtain ⟨R, hR⟩ : ∃ R, writeL h l = R := ⟨_, rfl⟩
  have HR : Kp ((if l.all Fd.right = true then (if l.length ≤ 16 then (h.bytes ++ bodyL l, (0 : Int)) else ([], 4)) else ([], 2)) = R) := kp (by rw [← hR]; unfold writeL; rw [hmay, Bool.true_and])
  rw [hR]
  clear hs hR
  generalize h.cells = L at *
  have HLL := kp hl
  have HCT : Kp (l.length ≤ 262144) := kp (by omega)
  clear hl hct
  generalize h.bytes = P at *
  have L1 := ld_all (P := Try.prog) w.heap.size 13 26 26 L _ Try.underlying26 rfl info_head HL HN.out
  go_enter Try.func22, Try.ntmps22
  go_wp2_with (refine wpL_load rfl 26 _ rfl rfl L1 ?_)
  refine (cP.out _).mono ?_
  rintro e w1 ⟨rfl, hb1⟩
  have HS := kp (HS.out.bel hb1)
  have HB := kp (bt' HB.out hb1 HB.out.size)
  clear hb1 L1 HN
  go_wp2
  go_loopw [6, 8] (fun s i wr => ∃ (j : Nat) (S : ByteArray), j ≤ l.length ∧ i = .int .i64 (j : Int) ∧ s = .string S ∧ S.size ≤ 1048624 ∧ Kp (S = str (P ++ bodyL (l.take j))) ∧ Kp ((l.take j).all Fd.right = true) ∧ Kp (FS wr ad l) ∧ Kp (Below w.heap.size w wr)) (fun _ i _ => l.length - (intOf i).toNat)
  case atStart => exact ⟨0, str P, by omega, rfl, rfl, by rw [str_size]; omega, kp (by simp [bodyL]), kp (by simp), HS, HB⟩
  case round =>
    clear HS HB
    obtain ⟨j, S, hj, rfl, rfl, hSz, HSS, HE, HS, HB⟩ := hrel
    have hct := HCT.out
    by_cases hlt : j < l.length
    · have g : decide ((j : Int) < (l.length : Int)) = true := by simp; omega
      obtain ⟨f, hf⟩ : ∃ f, l[j]? = some f := ⟨l[j], by simp [hlt]⟩
      obtain ⟨b, o, rfl, hb, hh⟩ := HS.out (fun e => by subst e; simp at hlt)
      obtain ⟨q0, q1⟩ := hh j f hf
      have HFF := kp hf
      clear hh hf
      have HSX : Kp (str (P ++ bodyL (l.take (j + 1))) = S ++ str f.bytes) := kp (by rw [bodyL_take HFF.out, HSS.out, str_app, List.append_assoc])
      have hsz2 : S.size + f.bytes.length ≤ 1048624 := by
        have h1 := body_le l (j + 1)
        have h2 := HLL.out
        have h3 := congrArg ByteArray.size HSX.out
        rw [ByteArray.size_append, str_size, str_size, List.length_append] at h3
        omega
      have hs4 : S.size % 4 = 0 := by
        have h1 := body4 (l.take j)
        rw [HSS.out, str_size, List.length_append]
        omega
      have hfl : f.bytes.length = 4 + (f.d.size + padN f.d.size 4) := f.len
      by_cases hr : f.right = true
      · have hri := (right_iff f).1 hr
        obtain ⟨hk1, hk2, hd⟩ := hri
        have g1 : decide (f.k < 1) = false := by simp; omega
        have g2 : decide (65535 < f.k) = false := by simp; omega
        have g3 : decide ((1000 : Int) < (f.d.size : Int)) = false := by simp; omega
        have HE2 : Kp ((l.take (j + 1)).all Fd.right = true) := kp (by rw [all_take HFF.out, HE.out, hr]; rfl)
        have HT : Kp (str f.bytes = (str (putL (uN f.k) 2) ++ str (putL (4 + f.d.size) 2) ++ f.d) ++ str (List.replicate (padN f.d.size 4) 0)) := kp (by
          have e : f.d = str (bs f.d) := (str_bs f.d).symm
          conv => rhs; rw [e]
          rw [str_app, str_app, str_app]
          unfold Fd.bytes
          simp only [List.append_assoc, bs_str]
          rfl)
        have hp4 := padN_lt f.d.size 4 (by decide)
        have HPD := kp (pad_done f.d.size 4 (by decide))
        have HPN : Kp (∀ m, m < padN f.d.size 4 → (f.d.size + m) % 4 ≠ 0) := kp (fun m hm => pad_notyet f.d.size 4 m (by decide) hm)
        have cA : Kp (∀ w', Calls Try.prog 31 #[.int .u64 (uN f.k : Int), .int .i64 2] w' fun e w'' => e = .returned (.string (str (putL (uN f.k) 2))) ∧ Below w'.heap.size w' w'') := kp (fun w' => ref01_Put_mid _ 2 w' (uN_lt _) (by decide) 2 (by decide))
        have cC : Kp (∀ w', Calls Try.prog 31 #[.int .u64 (4 + (f.d.size : Int)), .int .i64 2] w' fun e w'' => e = .returned (.string (str (putL (4 + f.d.size) 2))) ∧ Below w'.heap.size w' w'') := kp (fun w' => ref01_Put_mid (4 + f.d.size) 2 w' (by unfold U64; omega) (by decide) 2 (by decide))
        have zA : (str (putL (uN f.k) 2)).size = 2 := by rw [str_size, length_putL]
        have zC : (str (putL (4 + f.d.size) 2)).size = 2 := by rw [str_size, length_putL]
        have eA := uN_int f.k
        generalize str (putL (uN f.k) 2) = A at *
        generalize str (putL (4 + f.d.size) 2) = C at *
        generalize uN f.k = kn at *
        generalize padN f.d.size 4 = pn at *
        go_upto_region 9 with (fail)
        refine wp_region_ext [0, 1, 2, 3, 4, 5, 6, 7, 8, 9, 10, 11, 12, 13, 14, 15, 16, 17, 18, 19, 20, 21, 22, 23, 24] [25] (by kernel_rfl) (by kernel_rfl) ?_
        simp only [List.append_eq, List.cons_append, List.nil_append, List.map_cons, List.map_nil, List.getD_cons_succ, List.getD_cons_zero]
        repeat (go_big_quiet_step (
          (go_at_call 31; first | (with_reducible exact Calls.ext_of (cA.out _)) | (with_reducible exact Calls.ext_of (cC.out _)))))
        refine wpQuiet_nil ?_
        rintro z
        have HS3 := kp (HS.out.bel (ext_below wr z))
        have HB3 := kp (bt' HB.out (ext_below wr z) HB.out.size)
        generalize wr.ext z = wz at *
        clear HS HB q0 q1 g1 g2 g3 HSS HE
        go_wp2_with fail
        obtain ⟨U, hU⟩ : ∃ U, S ++ (A ++ C ++ f.d) = U := ⟨_, rfl⟩
        have HU : Kp (str (P ++ bodyL (l.take (j + 1))) = U ++ str (List.replicate pn 0)) := kp (by rw [HSX.out, HT.out, ← ByteArray.append_assoc, hU])
        have zU : U.size = S.size + 4 + f.d.size := by rw [← hU]; simp only [ByteArray.size_append]; omega
        rw [hU]
        clear hU
        go_loopw [6] (fun s wy => ∃ (m : Nat) (V : ByteArray), m ≤ pn ∧ s = .string V ∧ V.size = U.size + m ∧ Kp (V = U ++ str (List.replicate m 0)) ∧ wy = wz) (fun s _ => pn + U.size - lenOf s)
        case atStart => exact ⟨0, U, by omega, rfl, by omega, kp (by apply bs_inj; simp [bs, str]), rfl⟩
        case round =>
          obtain ⟨m, V, hm, rfl, zV, HV, rfl⟩ := hrel
          by_cases hmp : m < pn
          · have hne := HPN.out m hmp
            have g4 : ((V.size : Int) % 4 == 0) = false := by simp; omega
            go_wp2
            go_roundw
            case measure =>
              have z1 : (⟨#[0]⟩ : ByteArray).size = 1 := rfl
              simp only [lenOf, ByteArray.size_append]
              omega
            case rel => exact ⟨m + 1, V ++ ⟨#[0]⟩, by omega, rfl, by rw [ByteArray.size_append]; show V.size + 1 = _; omega, kp (by rw [HV.out, ByteArray.append_assoc, ← str_zero, str_app, ← List.replicate_succ']), trivial⟩
          · obtain rfl : m = pn := by omega
            have heq := HPD.out
            have g4 : ((V.size : Int) % 4 == 0) = true := by simp; omega
            go_wp2
            go_roundw
            case measure => simp [intOf]; omega
            case rel => exact ⟨j + 1, V, by omega, rfl, rfl, by omega, kp (by rw [HU.out, HV.out]), HE2, HS3, HB3⟩
      · have hR := HR.out
        have hall : l.all Fd.right = false := by
          rw [List.all_eq_false]
          exact ⟨f, List.mem_of_getElem? HFF.out, hr⟩
        rw [hall, if_neg (by simp)] at hR
        subst hR
        have hri := mt (right_iff f).2 hr
        by_cases h1 : f.k < 1
        · have g1 : decide (f.k < 1) = true := decide_eq_true h1
          go_wp2
          go_ret2
          exact ⟨rfl, HB.out⟩
        · have g1 : decide (f.k < 1) = false := decide_eq_false h1
          by_cases h2 : 65535 < f.k
          · have g2 : decide (65535 < f.k) = true := decide_eq_true h2
            go_wp2
            go_ret2
            exact ⟨rfl, HB.out⟩
          · have g2 : decide (65535 < f.k) = false := decide_eq_false h2
            have g3 : decide ((1000 : Int) < (f.d.size : Int)) = true := by simp; omega
            go_wp2
            go_ret2
            exact ⟨rfl, HB.out⟩
    · have g : decide ((j : Int) < (l.length : Int)) = false := by simp; omega
      obtain rfl : j = l.length := by omega
      rw [List.take_length] at HSS HE
      have hR := HR.out
      rw [HE.out, if_pos rfl] at hR
      have hS := HSS.out
      by_cases h16 : l.length ≤ 16
      · have g2 : decide ((16 : Int) < (l.length : Int)) = false := by simp; omega
        rw [if_pos h16] at hR
        subst hR hS
        go_wp2
        go_ret2
        exact ⟨rfl, HB.out⟩
      · have g2 : decide ((16 : Int) < (l.length : Int)) = true := by simp; omega
        rw [if_neg h16] at hR
        subst hR
        go_wp2
        go_ret2
        exact ⟨rfl, HB.out⟩
end Go.Proofs.Ytoifkfhbinfplaa
