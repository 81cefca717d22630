/- head: one extension taken off. -/
import Derived.Test.YtoifkfhbinfplaaHd13
import Derived.Test.YtoifkfhbinfplaaRegE
namespace Go.Proofs.Ytoifkfhbinfplaa
open Go Go.RowKit
set_option linter.unusedVariables false
set_option linter.unusedSimpArgs false
attribute [local go_sem] bmax2 bmin2 bmax bmin cell_ext frozen_ext

/-- the extension at the beginning, what is behind it, whether there is one -/
def oneK (s : ByteArray) : Nat := takeN (bs (s.extract 0 2))
def oneN (s : ByteArray) : Nat := takeN (bs (s.extract 2 4))
def oneBad (s : ByteArray) : Prop := s.size < 4 ∨ oneN s < 4 ∨ 1004 < oneN s ∨ s.size < oneN s
instance (s : ByteArray) : Decidable (oneBad s) := by unfold oneBad; infer_instance
def oneD (s : ByteArray) : ByteArray := s.extract 4 (oneN s)
def oneFull (s : ByteArray) : List UInt8 := bs (oneD s) ++ List.replicate (padN (oneD s).size 4) 0
def oneR (s : ByteArray) : ByteArray := s.extract 4 s.size
def oneF (s : ByteArray) : Fd := if oneBad s then ⟨0, str []⟩ else ⟨oneK s, oneD s⟩
def oneRest (s : ByteArray) : ByteArray := if oneBad s then str [] else ⟨(Lib.trimPrefix (bs (oneR s)) (oneFull s)).toArray⟩
def oneIs (s : ByteArray) : Bool := if oneBad s then false else Lib.hasPrefix (bs (oneR s)) (oneFull s) && (oneF s).right
/-- a function with three results: a struct in a block, and two slots -/
theorem res3 {P : Program} {w : World} {fn : Func} {p q r : Tmp} {ty : TypeId} (h : fn.results = #[.cell p ty, .tmp q, .tmp r]) (g n : Nat) (t : TypeId) (cs : List Value) (d : TypeDesc) (hu : P.underlying ty = some d) (hd : aggB d = true) (hi : (P.info? ty).map (·.size) = some n) (hn : cs.length = n) (hb : Blk w g t cs.toArray)
    (tmps : Array Value) (hp : tmps.getD p undef = .pointer (some ⟨g, 0, none⟩)) (v u : Value) (hq : tmps.getD q undef = v) (hr : tmps.getD r undef = u) : (results fn tmps).run P w = .ok (.tuple #[.agg cs.toArray, v, u]) w := by
  have hp' : tmps[p]?.getD undef = .pointer (some ⟨g, 0, none⟩) := by simpa using hp
  have hq' : tmps[q]?.getD undef = v := by simpa using hq
  have hr' : tmps[r]?.getD undef = u := by simpa using hr
  have hl := run_loadVar_row (P := P) w g t ty cs.toArray (0, 0) d hb hu (by cases d <;> simp_all [aggB]) (by rw [hi]; simp [hn])
  simp [results, h, hp', hq', hr', asAddr, hl]
theorem slice_to {P : Program} (t : TypeId) (hu : P.underlying t = some .string) (s : ByteArray) (b : Nat) (y : Int) (hy : y = b) (h2 : b ≤ s.size) (W : World) :
    (Instr.slice t (.string s) none (some (.int .i64 y)) none).run P W = .ok (.string (s.extract 0 b)) W := by
  subst hy
  have e2 : (b : Int) ≤ (s.size : Int) := by omega
  simp [Instr.slice, run_underlying hu, Instr.sliceBounds, run_sliceBound, h2]
theorem info_field : (Try.prog.info? 48).map (·.size) = some 2 := by kernel_rfl
set_option maxHeartbeats 4000000 in
set_option maxRecDepth 100000 in
theorem M_one (s : ByteArray) (hs : s.size ≤ 1099511627776) (w : World) :
    Calls Try.prog 36 #[.string s] w fun e w' => e = .returned (.tuple #[.agg (oneF s).row.toArray, .string (oneRest s), .bool (oneIs s)]) ∧ Below w.heap.size w w' := by
  by_cases h4 : s.size < 4
  · have hb : oneBad s := Or.inl h4
    unfold oneRest oneIs oneF
    rw [if_pos hb, if_pos hb, if_pos hb]
    have g : decide ((s.size : Int) < 4) = true := by simp; omega
    have HB := kp (ba (Below.refl w.heap.size w) (.cells #[.int .i64 0, .string (str [])] 48))
    unfold Fd.row fieldL
    go_enter Try.func36, Try.ntmps36
    have HN := kp (Blk.new w 48 ([.int .i64 0, .string (str [])] : List Value).toArray)
    go_wp2
    refine bodyPost_ret (v := .tuple #[.agg ([.int .i64 0, .string (str [])] : List Value).toArray, .string (str []), .bool false]) ?_ rfl ⟨rfl, HB.out⟩
    exact res3 Try.results36 w.heap.size 2 _ _ _ Try.underlying48 rfl info_field rfl HN.out _ rfl _ _ rfl rfl
  have g : decide ((s.size : Int) < 4) = false := by simp; omega
  have n1 : takeN (bs (s.extract 0 2)) < 65536 := Nat.lt_of_lt_of_le (takeN_lt _) (by rw [size_bs, ByteArray.size_extract, show min 2 s.size - 0 = 2 by omega]; decide)
  have n2 : takeN (bs (s.extract 2 4)) < 65536 := Nat.lt_of_lt_of_le (takeN_lt _) (by rw [size_bs, ByteArray.size_extract, show min 4 s.size - 2 = 2 by omega]; decide)
  have c1 : Kp (∀ w', Calls Try.prog 32 #[.string (s.extract 0 2)] w' fun e w'' => e = .returned (.int .u64 (takeN (bs (s.extract 0 2)) : Int)) ∧ w' = w'') := kp (fun w' => M_number _ (by simp; omega) w')
  have c2 : Kp (∀ w', Calls Try.prog 32 #[.string (s.extract 2 4)] w' fun e w'' => e = .returned (.int .u64 (takeN (bs (s.extract 2 4)) : Int)) ∧ w' = w'') := kp (fun w' => M_number _ (by simp; omega) w')
  have hOK : oneK s = takeN (bs (s.extract 0 2)) := rfl
  have hON : oneN s = takeN (bs (s.extract 2 4)) := rfl
  rw [← hOK] at n1 c1
  rw [← hON] at n2 c2
  clear hOK hON
  have HB := kp (ba (ba (Below.refl w.heap.size w) (.cells #[.int .i64 0, .string (str [])] 48)) (.cells #[.int .i64 (oneK s : Int), .string (str [])] 48))
  have HN : Kp (Blk ((w.alloc (.cells #[.int .i64 0, .string (str [])] 48)).alloc (.cells #[.int .i64 (oneK s : Int), .string (str [])] 48)) w.heap.size 48 ([.int .i64 0, .string (str [])] : List Value).toArray) := kp ((Blk.new w 48 ([.int .i64 0, .string (str [])] : List Value).toArray).alloc _)
  by_cases hbad : oneBad s
  · have hb3 : oneN s < 4 ∨ 1004 < oneN s ∨ s.size < oneN s := by unfold oneBad at hbad; omega
    unfold oneRest oneIs oneF
    rw [if_pos hbad, if_pos hbad, if_pos hbad]
    unfold Fd.row fieldL
    generalize oneN s = n at *
    generalize oneK s = k at *
    clear hbad
    have HH : Kp ((n < 4 ∨ (¬ n < 4 ∧ 1004 < n) ∨ (¬ n < 4 ∧ ¬ 1004 < n ∧ s.size < n))) := kp (by omega)
    clear hb3
    rcases HH.out with h1 | ⟨h1, h2⟩ | ⟨h1, h2, h3⟩
    · have g1 : decide ((n : Int) - 4 < 0) = true := by simp; omega
      go_enter Try.func36, Try.ntmps36
      go_wp2_with fail
      refine (c1.out _).mono ?_
      rintro e w1 ⟨rfl, rfl⟩
      go_wp2_with fail
      refine (c2.out _).mono ?_
      rintro e w1 ⟨rfl, rfl⟩
      go_wp2
      refine bodyPost_ret (v := .tuple #[.agg ([.int .i64 0, .string (str [])] : List Value).toArray, .string (str []), .bool false]) ?_ rfl ⟨rfl, HB.out⟩
      exact res3 Try.results36 w.heap.size 2 _ _ _ Try.underlying48 rfl info_field rfl HN.out _ rfl _ _ rfl rfl
    · have g1 : decide ((n : Int) - 4 < 0) = false := by simp; omega
      have g2 : decide ((1000 : Int) < (n : Int) - 4) = true := by simp; omega
      go_enter Try.func36, Try.ntmps36
      go_wp2_with fail
      refine (c1.out _).mono ?_
      rintro e w1 ⟨rfl, rfl⟩
      go_wp2_with fail
      refine (c2.out _).mono ?_
      rintro e w1 ⟨rfl, rfl⟩
      go_wp2
      refine bodyPost_ret (v := .tuple #[.agg ([.int .i64 0, .string (str [])] : List Value).toArray, .string (str []), .bool false]) ?_ rfl ⟨rfl, HB.out⟩
      exact res3 Try.results36 w.heap.size 2 _ _ _ Try.underlying48 rfl info_field rfl HN.out _ rfl _ _ rfl rfl
    · have g1 : decide ((n : Int) - 4 < 0) = false := by simp; omega
      have g2 : decide ((1000 : Int) < (n : Int) - 4) = false := by simp; omega
      have zx : (s.extract 4 s.size).size = s.size - 4 := by simp
      have g3 : decide (((s.extract 4 s.size).size : Int) < (n : Int) - 4) = true := by rw [zx]; simp; omega
      generalize s.extract 4 s.size = r at *
      go_enter Try.func36, Try.ntmps36
      go_wp2_with fail
      refine (c1.out _).mono ?_
      rintro e w1 ⟨rfl, rfl⟩
      go_wp2_with fail
      refine (c2.out _).mono ?_
      rintro e w1 ⟨rfl, rfl⟩
      go_wp2
      refine bodyPost_ret (v := .tuple #[.agg ([.int .i64 0, .string (str [])] : List Value).toArray, .string (str []), .bool false]) ?_ rfl ⟨rfl, HB.out⟩
      exact res3 Try.results36 w.heap.size 2 _ _ _ Try.underlying48 rfl info_field rfl HN.out _ rfl _ _ rfl rfl
  obtain ⟨hn4, hn5, hn6⟩ : 4 ≤ oneN s ∧ oneN s ≤ 1004 ∧ oneN s ≤ s.size := by unfold oneBad at hbad; omega
  have HV : Kp (oneRest s = ⟨(Lib.trimPrefix (bs (oneR s)) (oneFull s)).toArray⟩) := kp (by unfold oneRest; rw [if_neg hbad])
  have HF : Kp (oneF s = ⟨oneK s, oneD s⟩) := kp (by unfold oneF; rw [if_neg hbad])
  have HI : Kp (oneIs s = (Lib.hasPrefix (bs (oneR s)) (oneFull s) && rightB (oneK s) (oneD s))) := kp (by unfold oneIs; rw [if_neg hbad, HF.out]; rfl)
  have HD : Kp ((s.extract 4 s.size).extract 0 (oneN s - 4) = oneD s) := kp (by
    unfold oneD
    rw [ByteArray.extract_extract, Nat.add_zero, Nat.min_eq_left (by omega)]
    congr 1
    omega)
  have hD := HD.out
  have cP : Kp (∀ w', Calls Try.prog 38 #[.string (oneD s), .int .i64 4] w' fun e w'' => e = .returned (.string (str (oneFull s))) ∧ Below w'.heap.size w' w'') := kp (fun w' => octet_Pad_any (oneD s) 4 w' (by decide) (by decide) (by rw [← hD]; simp; omega))
  have cC : Kp (∀ w', Calls Try.prog 42 #[.string (oneR s), .string (str (oneFull s))] w' fun e w'' => e = .returned (.tuple #[.string ⟨(Lib.trimPrefix (bs (oneR s)) (oneFull s)).toArray⟩, .bool (Lib.hasPrefix (bs (oneR s)) (oneFull s))]) ∧ w'' = w') := kp (fun w' => Try.strings_CutPrefix _ _ w')
  have cR : Kp (∀ w', Calls Try.prog 37 #[.agg #[.int .i64 (oneK s : Int), .string (oneD s)]] w' fun e w'' => e = .returned (.bool (rightB (oneK s) (oneD s))) ∧ Below w'.heap.size w' w'') := kp (fun w' => M_right (oneK s) (oneD s) w')
  have zR : (oneR s).size = s.size - 4 := by unfold oneR; simp
  have hR : s.extract 4 s.size = oneR s := rfl
  rw [hR] at hD
  rw [HV.out, HF.out, HI.out]
  unfold Fd.row fieldL
  simp only
  clear HD HV HF HI hR hbad
  generalize (⟨(Lib.trimPrefix (bs (oneR s)) (oneFull s)).toArray⟩ : ByteArray) = V at *
  generalize Lib.hasPrefix (bs (oneR s)) (oneFull s) = I at *
  generalize str (oneFull s) = full at *
  generalize rightB (oneK s) (oneD s) = ri at *
  generalize oneN s = n at *
  generalize oneK s = k at *
  generalize oneD s = D at *
  obtain ⟨r, hr⟩ : ∃ r, oneR s = r := ⟨_, rfl⟩
  have hR : s.extract 4 s.size = r := hr
  rw [hr] at zR hD cC
  clear hr
  have hsl := fun W => slice_to (P := Try.prog) 9 Try.underlying9 r (n - 4) ((n : Int) - 4) (by omega) (by omega) W
  rw [hD] at hsl
  have g1 : decide ((n : Int) - 4 < 0) = false := by simp; omega
  have g2 : decide ((1000 : Int) < (n : Int) - 4) = false := by simp; omega
  have g3 : decide ((r.size : Int) < (n : Int) - 4) = false := by rw [zR]; simp; omega
  have eN : ((n : Int) - 4).toNat = n - 4 := by omega
  go_enter Try.func36, Try.ntmps36
  go_wp2_with fail
  refine (c1.out _).mono ?_
  rintro e w1 ⟨rfl, rfl⟩
  go_wp2_with fail
  refine (c2.out _).mono ?_
  rintro e w1 ⟨rfl, rfl⟩
  go_wp2_with fail
  clear hsl HB HN
  have HB := kp (ba (ba (Below.refl w.heap.size w) (.cells #[.int .i64 0, .string (str [])] 48)) (.cells #[.int .i64 (k : Int), .string D] 48))
  have HN : Kp (Blk ((w.alloc (.cells #[.int .i64 0, .string (str [])] 48)).alloc (.cells #[.int .i64 (k : Int), .string D] 48)) w.heap.size 48 ([.int .i64 0, .string (str [])] : List Value).toArray) := kp ((Blk.new w 48 ([.int .i64 0, .string (str [])] : List Value).toArray).alloc _)
  have HM : Kp (Blk ((w.alloc (.cells #[.int .i64 0, .string (str [])] 48)).alloc (.cells #[.int .i64 (k : Int), .string D] 48)) (w.heap.size + 1) 48 ([.int .i64 (k : Int), .string D] : List Value).toArray) := kp (by
    have h := Blk.new (w.alloc (.cells #[.int .i64 0, .string (str [])] 48)) 48 #[.int .i64 (k : Int), .string D]
    rwa [size_all] at h)
  refine (cP.out _).mono ?_
  rintro e w3 ⟨rfl, hb3⟩
  have HB := kp (bt' HB.out hb3 HB.out.size)
  have HN := kp (HN.out.bel hb3)
  have HM := kp (HM.out.bel hb3)
  clear hb3
  go_wp2_with fail
  refine (cC.out _).mono ?_
  rintro e w4 ⟨rfl, rfl⟩
  have q0 := HM.out.atL (i := 0) rfl
  have q1 := HM.out.atL (i := 1) rfl
  have hlb := HM.out.lt
  cases I with
  | true =>
    go_upto_region 11 with (fail)
    refine wp_region_earlyE [1, 6] [0, 1, 2, 3, 4, 5, 6] [] [7, 8, 9] 59 (fun _ _ _ => True) (fun _ _ => True) (by kernel_rfl) (by kernel_rfl) rfl (fun i v W W' h hb => h) ?_
    apply Exists.intro
    refine ⟨fun X hX => ?_, trivial, ?_⟩
    · have q0 := (HM.out.bel hX).atL (i := 0) rfl
      have q1 := (HM.out.bel hX).atL (i := 1) rfl
      have hlb := (HM.out.bel hX).lt
      simp only [List.append_eq, List.cons_append, List.nil_append, List.map_cons, List.map_nil, List.getD_cons_succ, List.getD_cons_zero]
      repeat (go_big_quiet_step (
        (go_at_call 37; with_reducible exact Calls.ext_of (cR.out _))))
      exact wpQuiet_nil rfl
    simp only [List.append_eq, List.cons_append, List.nil_append, List.map_cons, List.map_nil, List.getD_cons_succ, List.getD_cons_zero, TailX]
    rintro V4 hX hT
    have HB := kp (bt' HB.out hX HB.out.size)
    have HN := kp (HN.out.bel hX)
    clear q0 q1 hlb HM
    have p0 := HN.out.atL (i := 0) rfl
    have p1 := HN.out.atL (i := 1) rfl
    have fz0 := HN.out.frozen 0
    have fz1 := HN.out.frozen 1
    have hlv := HN.out.lt
    have HR := kp ((HN.out.setL 0 (.int .i64 (k : Int))).setL 1 (.string D))
    have HBE := kp (bsc (bsc HB.out (p := ⟨w.heap.size, 0, none⟩) (Nat.le_refl _) (.int .i64 (k : Int))) (p := ⟨w.heap.size, 1, none⟩) (Nat.le_refl _) (.string D))
    go_wp2
    refine bodyPost_ret (v := .tuple #[.agg ([.int .i64 (k : Int), .string D] : List Value).toArray, .string V, .bool ri]) ?_ rfl ⟨by rfl, HBE.out⟩
    exact res3 Try.results36 w.heap.size 2 _ _ _ Try.underlying48 rfl info_field rfl HR.out _ rfl _ _ rfl rfl
  | false =>
    go_upto_region 11 with (fail)
    refine wp_region_earlyE [1, 6] [0, 1, 2, 3, 4, 5, 6] [] [7, 8, 9] 59 (fun _ _ _ => True) (fun _ _ => True) (by kernel_rfl) (by kernel_rfl) rfl (fun i v W W' h hb => h) ?_
    apply Exists.intro
    refine ⟨fun X hX => ?_, trivial, ?_⟩
    · have q0 := (HM.out.bel hX).atL (i := 0) rfl
      have q1 := (HM.out.bel hX).atL (i := 1) rfl
      have hlb := (HM.out.bel hX).lt
      simp only [List.append_eq, List.cons_append, List.nil_append, List.map_cons, List.map_nil, List.getD_cons_succ, List.getD_cons_zero]
      repeat (go_big_quiet_step (
        (go_at_call 37; with_reducible exact Calls.ext_of (cR.out _))))
      exact wpQuiet_nil rfl
    simp only [List.append_eq, List.cons_append, List.nil_append, List.map_cons, List.map_nil, List.getD_cons_succ, List.getD_cons_zero, TailX]
    rintro V4 hX hT
    have HB := kp (bt' HB.out hX HB.out.size)
    have HN := kp (HN.out.bel hX)
    clear q0 q1 hlb HM
    have p0 := HN.out.atL (i := 0) rfl
    have p1 := HN.out.atL (i := 1) rfl
    have fz0 := HN.out.frozen 0
    have fz1 := HN.out.frozen 1
    have hlv := HN.out.lt
    have HR := kp ((HN.out.setL 0 (.int .i64 (k : Int))).setL 1 (.string D))
    have HBE := kp (bsc (bsc HB.out (p := ⟨w.heap.size, 0, none⟩) (Nat.le_refl _) (.int .i64 (k : Int))) (p := ⟨w.heap.size, 1, none⟩) (Nat.le_refl _) (.string D))
    go_wp2
    refine bodyPost_ret (v := .tuple #[.agg ([.int .i64 (k : Int), .string D] : List Value).toArray, .string V, .bool false]) ?_ rfl ⟨by rfl, HBE.out⟩
    exact res3 Try.results36 w.heap.size 2 _ _ _ Try.underlying48 rfl info_field rfl HR.out _ rfl _ _ rfl rfl
end Go.Proofs.Ytoifkfhbinfplaa
