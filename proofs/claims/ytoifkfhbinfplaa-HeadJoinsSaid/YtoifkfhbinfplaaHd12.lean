/- head: Write. -/
import Derived.Test.YtoifkfhbinfplaaHd11
namespace Go.Proofs.Ytoifkfhbinfplaa
open Go Go.RowKit
set_option linter.unusedVariables false
set_option linter.unusedSimpArgs false
attribute [local go_sem] bmax2 bmin2 bmax bmin cell_ext frozen_ext

def uN (k : Int) : Nat := (k % 18446744073709551616).toNat
theorem uN_lt (k : Int) : uN k < U64 := by unfold uN U64; omega
theorem uN_int (k : Int) : IntKind.u64.wrap k = (uN k : Int) := by
  have h : IntKind.u64.wrap k = k % 18446744073709551616 := rfl
  rw [h]; unfold uN; omega
def Fd.bytes (f : Fd) : List UInt8 := putL (uN f.k) 2 ++ putL (4 + f.d.size) 2 ++ (bs f.d ++ List.replicate (padN f.d.size 4) 0)
def Fd.right (f : Fd) : Bool := rightB f.k f.d
def bodyL (l : List Fd) : List UInt8 := (l.map Fd.bytes).flatten
variable {w w' : World} {ad : Option Addr} {l : List Fd} {b o : Nat}
theorem Fd.len (f : Fd) : f.bytes.length = 4 + (f.d.size + padN f.d.size 4) := by
  unfold Fd.bytes
  simp only [List.length_append, length_putL, List.length_replicate, size_bs]
theorem take_snocF {j : Nat} {f : Fd} (h : l[j]? = some f) : l.take (j + 1) = l.take j ++ [f] := by
  obtain ⟨hj, rfl⟩ := List.getElem?_eq_some_iff.1 h
  rw [List.take_succ_eq_append_getElem hj]
theorem bodyL_append (a c : List Fd) : bodyL (a ++ c) = bodyL a ++ bodyL c := by simp [bodyL]
theorem bodyL_one (f : Fd) : bodyL [f] = f.bytes := by simp [bodyL]
theorem bodyL_take {j : Nat} {f : Fd} (h : l[j]? = some f) : bodyL (l.take (j + 1)) = bodyL (l.take j) ++ f.bytes := by
  rw [take_snocF h, bodyL_append, bodyL_one]
theorem body_le (l : List Fd) (j : Nat) : (bodyL (l.take j)).length ≤ (bodyL l).length := by
  have : bodyL l = bodyL (l.take j) ++ bodyL (l.drop j) := by rw [← bodyL_append, List.take_append_drop]
  rw [this, List.length_append]
  omega
theorem body_count (l : List Fd) : 4 * l.length ≤ (bodyL l).length := by
  induction l with
  | nil => simp
  | cons f l ih =>
    have : bodyL (f :: l) = f.bytes ++ bodyL l := by simp [bodyL]
    rw [this, List.length_append, Fd.len, List.length_cons]
    omega
theorem all_take {j : Nat} {f : Fd} (h : l[j]? = some f) : (l.take (j + 1)).all Fd.right = ((l.take j).all Fd.right && f.right) := by
  rw [take_snocF h]
  simp
def Hd.put (h : Hd) : List UInt8 := if h.may then h.bytes else []
def eB (b : Bool) : Int := if b then 0 else 2
theorem Hd.bytes_len (h : Hd) : h.bytes.length = 48 := by
  unfold Hd.bytes Hd.first Hd.words Hd.stamps
  simp only [List.length_append, length_putL, List.length_cons, List.length_nil]
theorem Hd.put_len (h : Hd) : h.put.length ≤ 48 := by
  unfold Hd.put
  split
  · rw [h.bytes_len]; exact Nat.le_refl _
  · simp
theorem M_Put (h : Hd) (hok : h.ok) (w : World) : Calls Try.prog 12 #[.agg h.cells.toArray] w fun e w' => e = .returned (.tuple #[.string (str h.put), .int .i64 (eB h.may)]) ∧ Below w.heap.size w w' := by
  unfold Hd.put eB
  cases hm : h.may with
  | true => exact Put_good h hm hok w
  | false => exact Put_bad h hm w
theorem R_Put (h : Hd) (hok : h.ok) (w : World) : Calls Try.prog 13 #[.agg h.cells.toArray] w fun e w' => e = .returned (.tuple #[.string (str h.put), .int .i64 (eB h.may)]) ∧ Below w.heap.size w w' := by
  unfold Hd.put eB
  cases hm : h.may with
  | true => exact R_Put_good h hm hok w
  | false => exact R_Put_bad h hm w
/-- a packet's bytes, and what is wrong -/
def writeL (h : Hd) (l : List Fd) : List UInt8 × Int := if (h.may && l.all Fd.right) = true then (if l.length ≤ 16 then (h.bytes ++ bodyL l, 0) else ([], 4)) else ([], 2)
set_option maxHeartbeats 2000000 in
set_option maxRecDepth 100000 in
theorem M_Write (h : Hd) (hok : h.ok) (ad : Option Addr) (c : Nat) (l : List Fd) (w : World) (hl : (bodyL l).length ≤ 1048576) (hs : FS w ad l) :
    Calls Try.prog 21 #[.agg h.cells.toArray, .slice ad l.length c] w fun e w' => e = .returned (.tuple #[.string (str (writeL h l).1), .int .i64 (writeL h l).2]) ∧ Below w.heap.size w w' := by
  have cP : Kp (∀ w', Calls Try.prog 12 #[.agg h.cells.toArray] w' fun e w'' => e = .returned (.tuple #[.string (str h.put), .int .i64 (eB h.may)]) ∧ Below w'.heap.size w' w'') := kp (fun w' => M_Put h hok w')
  have HPL := h.put_len
  have HL := h.length
  have HB := kp (ba (Below.refl w.heap.size w) (.cells h.cells.toArray 26))
  have HN := kp (Blk.new w 26 h.cells.toArray)
  have hct := body_count l
  have HS := kp (hs.bel HB.out)
  have HPQ := kp (show h.put = if h.may then h.bytes else [] from rfl)
  obtain ⟨R, hR⟩ : ∃ R, writeL h l = R := ⟨_, rfl⟩
  have HR := kp hR
  rw [hR]
  clear hs hR
  generalize h.cells = L at *
  have HLL := kp hl
  have HCT : Kp (l.length ≤ 262144) := kp (by omega)
  clear hl hct
  obtain ⟨P, hP⟩ : ∃ P, h.put = P := ⟨_, rfl⟩
  rw [hP] at cP HPL HPQ
  clear hP
  obtain ⟨M, hM⟩ : ∃ M, h.may = M := ⟨_, rfl⟩
  rw [hM] at cP HPQ
  have HM := kp hM
  clear hM
  have L1 := ld_all (P := Try.prog) w.heap.size 13 26 26 L _ Try.underlying26 rfl info_head HL HN.out
  go_enter Try.func21, Try.ntmps21
  go_wp2_with (refine wpL_load rfl 26 _ rfl rfl L1 ?_)
  refine (cP.out _).mono ?_
  rintro e w1 ⟨rfl, hb1⟩
  have HS := kp (HS.out.bel hb1)
  have HB := kp (bt' HB.out hb1 HB.out.size)
  clear hb1 L1 HN
  go_wp2
  go_loopw [6, 7, 17] (fun s e i wr => ∃ (j : Nat) (S : ByteArray) (E : Int), j ≤ l.length ∧ i = .int .i64 (j : Int) ∧ s = .string S ∧ e = .int .i64 E ∧ S.size ≤ 1048624 ∧ Kp (S = str (P ++ bodyL (l.take j))) ∧ Kp (E = eB (M && (l.take j).all Fd.right)) ∧ Kp (FS wr ad l) ∧ Kp (Below w.heap.size w wr)) (fun _ _ i _ => l.length - (intOf i).toNat)
  case atStart => exact ⟨0, str P, eB M, by omega, rfl, rfl, rfl, by rw [str_size]; omega, kp (by simp [bodyL]), kp (by simp), HS, HB⟩
  case round =>
    clear HS HB
    obtain ⟨j, S, E, hj, rfl, rfl, rfl, hSz, HSS, HE, HS, HB⟩ := hrel
    have hct := HCT.out
    by_cases hlt : j < l.length
    · have g : decide ((j : Int) < (l.length : Int)) = true := by simp; omega
      obtain ⟨f, hf⟩ : ∃ f, l[j]? = some f := ⟨l[j], by simp [hlt]⟩
      obtain ⟨b, o, rfl, hb, hh⟩ := HS.out (fun e => by subst e; simp at hlt)
      obtain ⟨q0, q1⟩ := hh j f hf
      have HFF := kp hf
      clear hh hf
      have HA := kp (ba (Below.refl wr.heap.size wr) (.cells #[.int .i64 f.k, .string f.d] 48))
      have cR : Kp (∀ w', Calls Try.prog 37 #[.agg #[.int .i64 f.k, .string f.d]] w' fun e w'' => e = .returned (.bool f.right) ∧ Below w'.heap.size w' w'') := kp (fun w' => M_right f.k f.d w')
      have HSA := kp (HS.out.bel HA.out)
      have HBA := kp (bt' HB.out HA.out HB.out.size)
      have HW := kp (Blk.new wr 48 #[.int .i64 f.k, .string f.d])
      have HLT := kp HB.out.size
      clear HS HB HA
      have HE2 : Kp (eB (M && (l.take (j + 1)).all Fd.right) = if f.right = true then E else 2) := kp (by
        rw [all_take HFF.out, HE.out, ← Bool.and_assoc]
        cases f.right with
        | true => simp
        | false => simp [eB])
      have HS2 : Kp (S ++ str f.bytes = str (P ++ bodyL (l.take (j + 1)))) := kp (by rw [bodyL_take HFF.out, HSS.out, str_app, List.append_assoc])
      have hsz2 : S.size + f.bytes.length ≤ 1048624 := by
        have h1 := body_le l (j + 1)
        have h2 := HLL.out
        have h3 := congrArg ByteArray.size HS2.out
        rw [ByteArray.size_append, str_size, str_size, List.length_append] at h3
        omega
      have hfl : f.bytes.length = 4 + (f.d.size + padN f.d.size 4) := f.len
      clear HE HSS
      obtain ⟨T, hT⟩ : ∃ T, str f.bytes = T := ⟨_, rfl⟩
      have HT : Kp (T = str (putL (uN f.k) 2) ++ str (putL (4 + f.d.size) 2) ++ str (bs f.d ++ List.replicate (padN f.d.size 4) 0)) := kp (by rw [← hT, str_app, str_app]; rfl)
      have zT : T.size = f.bytes.length := by rw [← hT, str_size]
      rw [hT] at HS2
      clear hT
      have hp4 := padN_lt f.d.size 4 (by decide)
      have cA : Kp (∀ w', Calls Try.prog 28 #[.int .u64 (uN f.k : Int), .int .i64 2] w' fun e w'' => e = .returned (.string (str (putL (uN f.k) 2))) ∧ Below w'.heap.size w' w'') := kp (fun w' => octet_Put_mid _ 2 w' (uN_lt _) (by decide) 2 (by decide))
      have cC : Kp (∀ w', Calls Try.prog 28 #[.int .u64 (4 + (f.d.size : Int)), .int .i64 2] w' fun e w'' => e = .returned (.string (str (putL (4 + f.d.size) 2))) ∧ Below w'.heap.size w' w'') := kp (fun w' => octet_Put_mid (4 + f.d.size) 2 w' (by unfold U64; omega) (by decide) 2 (by decide))
      have cD : Kp (∀ w', Calls Try.prog 38 #[.string f.d, .int .i64 4] w' fun e w'' => e = .returned (.string (str (bs f.d ++ List.replicate (padN f.d.size 4) 0))) ∧ Below w'.heap.size w' w'') := kp (fun w' => octet_Pad_any f.d 4 w' (by decide) (by decide) (by omega))
      have zA : (str (putL (uN f.k) 2)).size = 2 := by rw [str_size, length_putL]
      have zC : (str (putL (4 + f.d.size) 2)).size = 2 := by rw [str_size, length_putL]
      have zD : (str (bs f.d ++ List.replicate (padN f.d.size 4) 0)).size = f.d.size + padN f.d.size 4 := by rw [str_size, List.length_append, List.length_replicate, size_bs]
      have eA := uN_int f.k
      generalize str (putL (uN f.k) 2) = A at *
      generalize str (putL (4 + f.d.size) 2) = C at *
      generalize str (bs f.d ++ List.replicate (padN f.d.size 4) 0) = D at *
      generalize uN f.k = kn at *
      have hds : f.d.size ≤ 1048624 := by omega
      generalize padN f.d.size 4 = pn at *
      obtain ⟨p, hp⟩ : ∃ p, f.right = p := ⟨_, rfl⟩
      rw [hp] at cR HE2
      clear hp
      go_wp2_with fail
      refine (cR.out _).mono ?_
      rintro e w2 ⟨rfl, hb2⟩
      have HSA := kp (HSA.out.bel hb2)
      have HBA := kp (bt' HBA.out hb2 HBA.out.size)
      have HW := kp (HW.out.bel hb2)
      have q0 := HW.out.at (i := 0) rfl
      have q1 := HW.out.at (i := 1) rfl
      have hlb := HW.out.lt
      clear hb2
      cases p
      all_goals (
        go_upto_region 7 with (fail)
        refine wp_region_ext [0, 1, 2, 3, 4, 5, 6, 7, 8, 9, 10, 11, 12, 13, 14, 15, 16] [17] (by kernel_rfl) (by kernel_rfl) ?_
        simp only [List.append_eq, List.cons_append, List.nil_append, List.map_cons, List.map_nil, List.getD_cons_succ, List.getD_cons_zero]
        repeat (go_big_quiet_step (first
          | (go_at_call 28; first | (with_reducible exact Calls.ext_of (cA.out _)) | (with_reducible exact Calls.ext_of (cC.out _)))
          | (go_at_call 38; with_reducible exact Calls.ext_of (cD.out _))))
        refine wpQuiet_nil ?_
        rintro z
        have HS3 := kp (HSA.out.bel (ext_below w2 z))
        have HB3 := kp (bt' HBA.out (ext_below w2 z) HBA.out.size)
        go_wp2_with fail
        go_roundw
        case measure => simp [intOf]; omega
        case rel =>
          refine ⟨j + 1, S ++ (A ++ C ++ D), _, by omega, rfl, rfl, rfl, ?_, kp (by rw [← HT.out]; exact HS2.out), kp HE2.out.symm, HS3, HB3⟩
          simp only [ByteArray.size_append]
          omega)
    · have g : decide ((j : Int) < (l.length : Int)) = false := by simp; omega
      obtain rfl : j = l.length := by omega
      rw [List.take_length] at HSS HE
      have hR := HR.out
      unfold writeL at hR
      rw [HM.out] at hR
      obtain ⟨q, hq⟩ : ∃ q, (M && l.all Fd.right) = q := ⟨_, rfl⟩
      rw [hq] at hR HE
      cases q with
      | false =>
        have hE := HE.out
        rw [show eB false = 2 from rfl] at hE
        rw [if_neg (by simp)] at hR
        subst hE hR
        go_wp2
        go_ret2
        exact ⟨rfl, HB.out⟩
      | true =>
        have hE := HE.out
        have hMt : M = true := by simp only [Bool.and_eq_true] at hq; exact hq.1
        subst hMt
        have hS := HSS.out
        rw [HPQ.out, if_pos rfl] at hS
        rw [show eB true = 0 from rfl] at hE
        rw [if_pos rfl] at hR
        by_cases h16 : l.length ≤ 16
        · have g2 : decide ((16 : Int) < (l.length : Int)) = false := by simp; omega
          rw [if_pos h16] at hR
          subst hE hR hS
          go_wp2
          go_ret2
          exact ⟨rfl, HB.out⟩
        · have g2 : decide ((16 : Int) < (l.length : Int)) = true := by simp; omega
          rw [if_neg h16] at hR
          subst hE hR
          go_wp2
          go_ret2
          exact ⟨rfl, HB.out⟩
end Go.Proofs.Ytoifkfhbinfplaa
