/- Texts laid together: RegS, Snd5, Snd6, Snd7, RSnd1, RSnd2, RSnd3, Snd8, Rcv12, Rcv13, Rcv14. -/
import Derived.Test.YtmblknknbbdmeaaGreatRcb10
/- a drawing region whose operations turn the memory: what has a fixed value under S is taken first; then a chain of steps, in its one order, beside one operation that may come at any time; then a tail. -/
namespace Go.Proofs.YtmblknknbbdmeaaGreat
open Go Go.RowKit
set_option linter.unusedVariables false
set_option linter.unusedSimpArgs false
section
variable {P : Program} {ops : Array Oper} {md : Region.Mode} {Q : Exit → Act → World → Prop} {S : World → Prop}

def setAll (listed : Array Bool) : List (Nat × Nat) → Array Bool
  | [] => listed
  | e :: es => setAll (listed.setIfInBounds e.1 true) es
def putAll (a : Act) : List (Nat × Nat) → List Value → Act
  | e :: es, v :: vs => putAll (a.put (some e.2) v) es vs
  | _, _ => a
def takeB (md : Region.Mode) (ops : Array Oper) : List (Nat × Nat) → Array Bool → Bool
  | [], _ => true
  | e :: es, listed => decide (e.1 < ops.size) && ((ops.getD e.1 default).dst == some e.2) && Region.free md ops listed e.1 && (Region.ready md ops listed).contains e.1 && takeB md ops es (listed.setIfInBounds e.1 true)
/-- each has its value in every world that meets S -/
def TakeOK (P : Program) (ops : Array Oper) (S : World → Prop) : List (Nat × Nat) → List Value → Act → Prop
  | [], [], _ => True
  | e :: es, v :: vs, a => YieldsIf P ops S (ops.getD e.1 default) v a ∧ TakeOK P ops S es vs (a.put (some e.2) v)
  | _, _, _ => False
theorem takeAll (hs : Region.noSelect ops = true) (hQ : ∀ c (a : Act) d v w, Q (.panic c) (a.put d v) w → Q (.panic c) a w) : ∀ (es : List (Nat × Nat)) (vs : List Value) (listed : Array Bool) (a : Act) (w : World) (fuel : Nat), takeB md ops es listed = true → TakeOK P ops S es vs a → S w → wpAnyH P md ops Q S fuel (setAll listed es) (putAll a es vs) w → wpAnyH P md ops Q S (fuel + es.length) listed a w
  | [], vs, listed, a, w, fuel, _, hT, _, h => by
    cases vs with
    | nil => exact h
    | cons v vs => exact hT.elim
  | e :: es, vs, listed, a, w, fuel, hB, hT, hS, h => by
    cases vs with
    | nil => exact hT.elim
    | cons v vs =>
      unfold takeB at hB
      simp only [Bool.and_eq_true, decide_eq_true_eq, beq_iff_eq] at hB
      obtain ⟨⟨⟨⟨b1, b2⟩, b3⟩, b4⟩, b5⟩ := hB
      have h2 := takeAll hs hQ es vs _ _ w fuel b5 hT.2 hS h
      exact takeFirst e.2 b1 b2 hs b3 b4 (fun c a w hh => hQ c a _ v w hh) hT.1 hS h2
/-- a step that answers v, in a world that meets C -/
def StepTo (P : Program) (sem : Sem Next) (W : World) (v : Value) (C : World → Prop) : Prop :=
  (∃ W', sem.run P W = .ok (.value v) W' ∧ C W') ∨ ∃ f args, sem.run P W = .ok (.enter f args) W ∧ Calls P f args W fun e W' => e = .returned v ∧ C W'
theorem StepTo.mono {sem : Sem Next} {W : World} {v : Value} {C C' : World → Prop} (h : StepTo P sem W v C) (hC : ∀ W', C W' → C' W') : StepTo P sem W v C' := by
  rcases h with ⟨W', h1, h2⟩ | ⟨f, args, h1, h2⟩
  · exact Or.inl ⟨W', h1, hC _ h2⟩
  · exact Or.inr ⟨f, args, h1, h2.mono fun e W' ⟨he, hc⟩ => ⟨he, hC _ hc⟩⟩
theorem StepTo.wpOp {i : Nat} {a : Act} {w : World} {v : Value} {C : World → Prop} {K : Act → World → Prop} {d : Nat} (hi : i < ops.size) (hg : (ops.getD i default).guard = none) (hd : (ops.getD i default).dst = some d) (h : StepTo P (execOp a.eval (ops.getD i default)) w v C) (hK : ∀ W', C W' → K (a.put (some d) v) W') : Go.wpOp P ops Q i K a w := by
  unfold Go.wpOp
  simp only [getD_some hi]
  rw [if_pos (by unfold Region.wanted; rw [hg])]
  refine .inl ?_
  unfold Oper.wp
  rcases h with ⟨W', h1, h2⟩ | ⟨f, args, h1, h2⟩
  · rw [h1]
    show K (a.put _ v) W'
    rw [hd]
    exact hK _ h2
  · rw [h1]
    refine h2.mono fun e W' he => ?_
    obtain ⟨rfl, hC⟩ := he
    show K (a.put _ v) W'
    rw [hd]
    exact hK _ hC
/-- each step of a chain, from a world that meets the one predicate to one that meets the next; what V says of the other operation's value stays -/
def ChainOK (P : Program) (ops : Array Oper) (S : World → Prop) (V : Value → World → Prop) (pf : World → Prop) : List (Nat × Nat) → List Value → List (World → Prop) → Act → Prop
  | [], [], [p], _ => ∀ W, p W → pf W
  | e :: es, v :: vs, p :: q :: ps, a => (∀ W, S W → p W → StepTo P (execOp a.eval (ops.getD e.1 default)) W v fun W' => S W' ∧ q W' ∧ ∀ u, V u W → V u W') ∧ ChainOK P ops S V pf es vs (q :: ps) (a.put (some e.2) v)
  | _, _, _, _ => False
def seqSB (md : Region.Mode) (ops : Array Oper) : List (Nat × Nat) → Array Bool → Bool
  | [], _ => true
  | e :: es, listed => (Region.ready md ops listed != []) && (Region.ready md ops listed).all (· == e.1) && decide (e.1 < ops.size) && ((ops.getD e.1 default).guard == none) && ((ops.getD e.1 default).dst == some e.2) && seqSB md ops es (listed.setIfInBounds e.1 true)
def combB (md : Region.Mode) (ops : Array Oper) (x dx : Nat) : List (Nat × Nat) → Array Bool → Bool
  | [], listed => (Region.ready md ops listed != []) && (Region.ready md ops listed).all (· == x)
  | e :: es, listed => (Region.ready md ops listed != []) && (Region.ready md ops listed).all (fun k => k == e.1 || k == x) && decide (e.1 < ops.size) && ((ops.getD e.1 default).guard == none) && ((ops.getD e.1 default).dst == some e.2) && decide (e.1 ≠ x) && decide (e.2 ≠ dx) && (((ops.getD e.1 default).looksAt ops).contains dx == false) && (((ops.getD x default).looksAt ops).contains e.2 == false) &&
    combB md ops x dx es (listed.setIfInBounds e.1 true) && seqSB md ops (e :: es) (listed.setIfInBounds x true)
variable {V : Value → World → Prop} {pf : World → Prop}
theorem ChainOK.put (hs : Region.noSelect ops = true) (dx : Nat) (u : Value) : ∀ (es : List (Nat × Nat)) (vs : List Value) (ps : List (World → Prop)) (a : Act), (∀ e ∈ es, e.1 < ops.size ∧ e.2 ≠ dx ∧ ((ops.getD e.1 default).looksAt ops).contains dx = false) → ChainOK P ops S V pf es vs ps a → ChainOK P ops S V pf es vs ps (a.put (some dx) u)
  | [], vs, ps, a, _, h => by
    match vs, ps, h with
    | [], [p], h => exact h
  | e :: es, vs, ps, a, hl, h => by
    match vs, ps, h with
    | v :: vs, p :: q :: ps, h =>
      obtain ⟨z, hd, hlk⟩ := hl e (by simp)
      have s1 : ∀ cs b, (ops.getD e.1 default).op ≠ .select cs b := fun cs b => Region.noSelect_spec hs e.1 _ cs b (getD_some z)
      refine ⟨fun W hS hp => ?_, ?_⟩
      · rw [exec_put s1 _ _ _ hlk]
        exact h.1 W hS hp
      · rw [put_comm _ _ _ hd.symm]
        exact ChainOK.put hs dx u es vs (q :: ps) _ (fun e' he' => hl e' (by simp [he'])) h.2
theorem seqS_run (u : Value) : ∀ (es : List (Nat × Nat)) (vs : List Value) (p : World → Prop) (ps : List (World → Prop)) (listed : Array Bool) (a : Act) (w : World) (fuel : Nat), seqSB md ops es listed = true → ChainOK P ops S V pf es vs (p :: ps) a → S w → p w → V u w →
    (∀ W, S W → pf W → V u W → wpAnyH P md ops Q S fuel (setAll listed es) (putAll a es vs) W) → wpAnyH P md ops Q S (fuel + es.length) listed a w
  | [], vs, p, ps, listed, a, w, fuel, _, hT, hS, hp, hV, h => by
    match vs, ps, hT with
    | [], [], hT => exact h w hS (hT w hp) hV
  | e :: es, vs, p, ps, listed, a, w, fuel, hB, hT, hS, hp, hV, h => by
    match vs, ps, hT with
    | v :: vs, q :: ps, hT =>
      unfold seqSB at hB
      simp only [Bool.and_eq_true, decide_eq_true_eq, beq_iff_eq, bne_iff_ne, ne_eq, List.all_eq_true] at hB
      obtain ⟨⟨⟨⟨⟨b0, b1⟩, b2⟩, b3⟩, b4⟩, b5⟩ := hB
      refine ⟨fun h0 => absurd h0 b0, fun i hi => ?_⟩
      obtain rfl := b1 i hi
      exact StepTo.wpOp b2 b3 b4 (hT.1 w hS hp) fun W' ⟨c1, c2, c3⟩ => ⟨c1, seqS_run u es vs q ps _ _ W' fuel b5 hT.2 c1 c2 (c3 u hV) h⟩
theorem combB_all {x dx : Nat} : ∀ (es : List (Nat × Nat)) (listed : Array Bool), combB md ops x dx es listed = true → ∀ e ∈ es, e.1 < ops.size ∧ e.2 ≠ dx ∧ ((ops.getD e.1 default).looksAt ops).contains dx = false
  | [], _, _, e, he => by cases he
  | e0 :: es, listed, hB, e, he => by
    unfold combB at hB
    simp only [Bool.and_eq_true, decide_eq_true_eq, beq_iff_eq] at hB
    obtain ⟨⟨⟨⟨⟨⟨⟨⟨⟨⟨_, _⟩, b2⟩, b3⟩, b4⟩, b5⟩, b6⟩, b7⟩, b8⟩, b9⟩, b10⟩ := hB
    rcases List.mem_cons.1 he with rfl | he
    · exact ⟨b2, b6, b7⟩
    · exact combB_all es _ b9 e he
theorem setAll_comm (x : Nat) : ∀ (es : List (Nat × Nat)) (listed : Array Bool), (∀ e ∈ es, e.1 ≠ x) → setAll (listed.setIfInBounds x true) es = (setAll listed es).setIfInBounds x true
  | [], _, _ => rfl
  | e :: es, listed, h => by
    show setAll ((listed.setIfInBounds x true).setIfInBounds e.1 true) es = _
    rw [Array.setIfInBounds_comm _ _ (h e (by simp)).symm, setAll_comm x es _ (fun e' he' => h e' (by simp [he']))]
    rfl
/-- a chain beside an operation that may come at any time -/
theorem comb (hs : Region.noSelect ops = true) (x dx : Nat) (hx0 : x < ops.size) (hxg : (ops.getD x default).guard = none) (hxd : (ops.getD x default).dst = some dx) : ∀ (es : List (Nat × Nat)) (vs : List Value) (p : World → Prop) (ps : List (World → Prop)) (listed : Array Bool) (a : Act) (w : World) (fuel : Nat),
    combB md ops x dx es listed = true → ChainOK P ops S V pf es vs (p :: ps) a →
    (∀ q ∈ p :: ps, ∀ W, S W → q W → ∃ u W', (execOp a.eval (ops.getD x default)).run P W = .ok (.value u) W' ∧ S W' ∧ q W' ∧ V u W') → S w → p w →
    (∀ u W, S W → pf W → V u W → wpAnyH P md ops Q S fuel (setAll (listed.setIfInBounds x true) es) (putAll (a.put (some dx) u) es vs) W) → wpAnyH P md ops Q S (fuel + es.length + 1) listed a w
  | [], vs, p, ps, listed, a, w, fuel, hB, hT, hX, hS, hp, h => by
    match vs, ps, hT with
    | [], [], hT =>
      unfold combB at hB
      simp only [Bool.and_eq_true, beq_iff_eq, bne_iff_ne, ne_eq, List.all_eq_true] at hB
      refine ⟨fun h0 => absurd h0 hB.1, fun i hi => ?_⟩
      obtain rfl := hB.2 i hi
      obtain ⟨u, W', h1, h2, h3, h4⟩ := hX p (by simp) w hS hp
      exact StepTo.wpOp hx0 hxg hxd (C := fun W'' => W'' = W') (Or.inl ⟨W', h1, rfl⟩) fun W'' e => by subst e; exact ⟨h2, h u _ h2 (hT _ h3) h4⟩
  | e :: es, vs, p, ps, listed, a, w, fuel, hB, hT, hX, hS, hp, h => by
    match vs, ps, hT with
    | v :: vs, q :: ps, hT =>
      have hB0 := hB
      unfold combB at hB
      simp only [Bool.and_eq_true, decide_eq_true_eq, beq_iff_eq, bne_iff_ne, ne_eq, List.all_eq_true, Bool.or_eq_true] at hB
      obtain ⟨⟨⟨⟨⟨⟨⟨⟨⟨⟨b0, b1⟩, b2⟩, b3⟩, b4⟩, b5⟩, b6⟩, b7⟩, b8⟩, b9⟩, b10⟩ := hB
      have sx : ∀ cs b, (ops.getD x default).op ≠ .select cs b := fun cs b => Region.noSelect_spec hs x _ cs b (getD_some hx0)
      refine ⟨fun h0 => absurd h0 b0, fun i hi => ?_⟩
      rcases b1 i hi with rfl | rfl
      · refine StepTo.wpOp b2 b3 b4 (hT.1 w hS hp) fun W' ⟨c1, c2, c3⟩ => ⟨c1, ?_⟩
        refine comb hs x dx hx0 hxg hxd es vs q ps _ _ W' fuel b9 hT.2 (fun r hr W hW hr2 => ?_) c1 c2 (fun u W hW hf hV => ?_)
        · rw [exec_put sx _ _ _ b8]
          exact hX r (by simp [List.mem_cons.1 hr]) W hW hr2
        · have := h u W hW hf hV
          rw [put_comm _ _ _ b6, Array.setIfInBounds_comm _ _ b5]
          exact this
      · obtain ⟨u, W', h1, h2, h3, h4⟩ := hX p (by simp) w hS hp
        refine StepTo.wpOp hx0 hxg hxd (C := fun W'' => W'' = W') (Or.inl ⟨W', h1, rfl⟩) fun W'' e' => ?_
        subst e'
        exact ⟨h2, seqS_run u (e :: es) (v :: vs) p (q :: ps) _ _ _ fuel b10 (ChainOK.put hs dx u _ _ _ _ (combB_all _ _ hB0) hT) h2 h3 h4 (fun W c1 c2 c3 => h u W c1 c2 c3)⟩
end
theorem exec_load {P : Program} {o : Oper} {a : Act} {ty : TypeId} {x : Operand} (ho : o.op = .load ty x) {pv v : Value} (hx : a.eval x = pv) {w : World} (hr : (Instr.loadAt ty pv).run P w = .ok v w) : (execOp a.eval o).run P w = .ok (.value v) w := by
  subst hx
  unfold execOp
  simp only [ho, Sem.run_bind, hr, Result.andThen_ok, Sem.run_pure]
end Go.Proofs.YtmblknknbbdmeaaGreat
/- sender: Send, what it answers. -/
namespace Go.Proofs.YtmblknknbbdmeaaGreat
open Go Go.RowKit
set_option linter.unusedVariables false
set_option linter.unusedSimpArgs false
attribute [local go_sem] bmax2 bmin2 bmax bmin cell_ext frozen_ext

/-- the first interval whose key is kept -/
def loOf (d : Int) (L : Nat) : Nat := max 1 ((L : Int) - d).toNat
/-- a sender that sent last in interval L; X: its blocks -/
def SX (B : Nat) (w : World) (X : Nat → Prop) (b : Nat) (S : List UInt8) (s l d c : Int) (n L : Nat) : Prop := ∃ bw g ad cp, SK B w b bw g ad cp S s l d c n (loOf d L) (L + 1) (L : Int) ∧ X = sdX b bw g ad
def sendE (s l c : Int) (L : Nat) (now : Int) (t : ByteArray) : Int := if (atP s l c now).2 = 0 then (if (atP s l c now).1 < (L : Int) then 14 else if 1000 < t.size then 5 else 0) else (atP s l c now).2
def sendL (s l c : Int) (L : Nat) (now : Int) (t : ByteArray) : Nat := if sendE s l c L now t = 0 then (atP s l c now).1.toNat else L
/-- the packet of an interval -/
def goodPk (F : Nat → List UInt8) (d : Int) (n i : Nat) (t : ByteArray) : List Value := pkL (i : Int) t (str (tagD (F (n - i)) (i : Int) t)) (((i : Int) - d).toNat : Nat) (if ((i : Int) - d).toNat = 0 then zeroK else F (n - ((i : Int) - d).toNat))
def sendPk (S : List UInt8) (s l d c : Int) (n L : Nat) (now : Int) (t : ByteArray) : List Value := if sendE s l c L now t = 0 then goodPk (chK S) d n (atP s l c now).1.toNat t else zeroPk
/-- Send's end -/
def SendEnd (B : Nat) (w : World) (X : Nat → Prop) (b : Nat) (S : List UInt8) (s l d c : Int) (n L L' : Nat) (pk : List Value) (er : Int) (e : Ending) (w' : World) : Prop :=
  ∃ X', e = .returned (.tuple #[.agg pk.toArray, .int .i64 er]) ∧ SX B w' X' b S s l d c n L' ∧ FrP X w w' ∧ ∀ k, X' k → X k ∨ w.heap.size ≤ k
theorem zeroPk_length : zeroPk.length = 36 := by kernel_rfl
theorem zeroPk_one : ∀ v ∈ zeroPk, v.oneCell' = true := pkL_one _ _ _ _ _
section
variable {P : Program}
theorem exec_store {o : Oper} {a : Act} {w w' : World} (ty : TypeId) (x y : Operand) (ho : o.op = .store ty x y) {pv v : Value} (hx : a.eval x = pv) (hy : a.eval y = v) (hr : (Instr.storeAt ty pv v).run P w = .ok () w') : (execOp a.eval o).run P w = .ok .skip w' := by
  unfold execOp
  simp only [ho, hx, hy, Sem.run_bind, hr, Result.andThen_ok, Sem.run_pure]
theorem stepS_skip {ops : Array Oper} {Q : Exit → Act → World → Prop} {S : World → Prop} {i : Nat} {t : List Nat} {a : Act} {w W' : World} (hd : (ops.getD i default).dst = none) (hi : i < ops.size) (hg : (ops.getD i default).guard = none) (hr : (execOp a.eval (ops.getD i default)).run P w = .ok .skip W') (hS : S W') (h : wpListS P ops Q S t a W') : wpListS P ops Q S (i :: t) a w := by
  unfold wpListS wpOp
  simp only [getD_some hi]
  rw [if_pos (by unfold Region.wanted; rw [hg])]
  refine .inl ?_
  unfold Oper.wp
  rw [hr]
  show S W' ∧ wpListS P ops Q S t (a.put _ undef) W'
  rw [hd]
  exact ⟨hS, h⟩
end
/-- refused: nothing turns -/
theorem SX.same {B : Nat} {w w' : World} {X : Nat → Prop} {b : Nat} {S : List UInt8} {s l d c : Int} {n L : Nat} (h : SX B w X b S s l d c n L) (hb : Below w.heap.size w w') : SX B w' X b S s l d c n L := by
  obtain ⟨bw, g, ad, cp, h, hX⟩ := h
  exact ⟨bw, g, ad, cp, h.bel hb, hX⟩
set_option maxHeartbeats 4000000 in
set_option maxRecDepth 100000 in
theorem S_Send_bad {B : Nat} {w : World} {X : Nat → Prop} {b : Nat} {S : List UInt8} {s l d c : Int} {n L : Nat} (h : SX B w X b S s l d c n L) (hS : S.length = 32) (hm : mayP s l d c = true) (now : Int) (ht0 : -9223372036854775808 ≤ now) (ht1 : now < 9223372036854775808) (t : ByteArray) (ht : t.size ≤ 1099511000) (hbad : sendE s l c L now t ≠ 0) :
    Calls Tryz.prog 38 #[.pointer (some ⟨b, 0, none⟩), .int .i64 now, .string t] w fun e w' => e = .returned (.tuple #[.agg zeroPk.toArray, .int .i64 (sendE s l c L now t)]) ∧ Below w.heap.size w w' := by
  have cA := kp (fun w' => P_At s l d c now hm ht0 ht1 w')
  obtain ⟨bw, g, ad, cp, hsk, hX⟩ := h
  have HN := kp (Blk.new w 40 zeroPk.toArray)
  have hb0 := ba (Below.refl w.heap.size w) (.cells zeroPk.toArray 40)
  have HSK := kp (hsk.bel hb0)
  have HB := kp hb0
  clear hb0 hX hsk
  unfold sendE at hbad ⊢
  have HSL := kp hS
  obtain ⟨AI, hAI⟩ : ∃ AI, (atP s l c now).1 = AI := ⟨_, rfl⟩
  obtain ⟨AE, hAE⟩ : ∃ AE, (atP s l c now).2 = AE := ⟨_, rfl⟩
  rw [hAI, hAE] at cA hbad ⊢
  have hzl := zeroPk_length
  have hz1 := kp zeroPk_one
  obtain ⟨Z, hZ⟩ : ∃ Z, zeroPk = Z := ⟨_, rfl⟩
  have HZ := kp hZ
  rw [hZ] at HN HB HSK hzl hz1
  clear hAI hAE ht0 ht1 hm
  have hcase : (AE ≠ 0 ∧ (if AE = 0 then (if AI < (L : Int) then (14 : Int) else if 1000 < t.size then 5 else 0) else AE) = AE) ∨ (AE = 0 ∧ AI < (L : Int) ∧ (if AE = 0 then (if AI < (L : Int) then (14 : Int) else if 1000 < t.size then 5 else 0) else AE) = 14) ∨ (AE = 0 ∧ ¬ AI < (L : Int) ∧ (1000 : Int) < t.size ∧ (if AE = 0 then (if AI < (L : Int) then (14 : Int) else if 1000 < t.size then 5 else 0) else AE) = 5) := by
    by_cases h0 : AE = 0
    · by_cases h1 : AI < (L : Int)
      · exact Or.inr (Or.inl ⟨h0, h1, by rw [if_pos h0, if_pos h1]⟩)
      · by_cases h2 : 1000 < t.size
        · exact Or.inr (Or.inr ⟨h0, h1, by omega, by rw [if_pos h0, if_neg h1, if_pos h2]⟩)
        · rw [if_pos h0, if_neg h1, if_neg h2] at hbad; exact absurd rfl hbad
    · exact Or.inl ⟨h0, if_neg h0⟩
  generalize (if AE = 0 then (if AI < (L : Int) then (14 : Int) else if 1000 < t.size then 5 else 0) else AE) = R at *
  clear hbad
  go_enter Tryz.func38, Tryz.ntmps38
  go_upto_region 1 with (fail)
  change Code.wp _ _ _ _ (w.alloc (.cells zeroPk.toArray 40))
  rw [hZ]
  clear hZ
  generalize w.alloc (.cells Z.toArray 40) = W at HN HB HSK ⊢
  have LP := HSK.out.ldPlan HSL.out
  have hlb := HSK.out.blk.lt
  rcases hcase with ⟨h0, rfl⟩ | ⟨rfl, h1, rfl⟩ | ⟨rfl, h1, h2, rfl⟩
  · have d0 : (R == 0) = false := by simpa using h0
    have d1 : (R != 0) = true := by simpa using h0
    go_wp2_with (refine wpL_load rfl 29 _ rfl rfl LP ?_)
    clear LP
    refine (cA.out _).mono ?_
    rintro e w1 ⟨rfl, hb1⟩
    have HN1 := kp (HN.out.bel hb1)
    have HB1 := kp (bt' HB.out hb1 HB.out.size)
    clear hb1 HN HB HSK
    have SC := sc_same (P := Tryz.prog) (w := w1) w.heap.size 40 Z HN1.out hz1.out
    go_wp2_with (refine wpL_val 23 rfl rfl (.agg Z.toArray) (by rw [← HZ.out]; kernel_rfl) ?_)
    refine bodyPost_ret (v := .tuple #[.agg Z.toArray, .int .i64 R]) ?_ rfl ⟨by rw [HZ.out], HB1.out⟩
    exact res2 Tryz.results38 w.heap.size 36 _ Z _ Tryz.underlying40 rfl info_pk hzl HN1.out _ rfl _ rfl
  · go_wp2_with (refine wpL_load rfl 29 _ rfl rfl LP ?_)
    clear LP
    refine (cA.out _).mono ?_
    rintro e w1 ⟨rfl, hb1⟩
    have HN1 := kp (HN.out.bel hb1)
    have HB1 := kp (bt' HB.out hb1 HB.out.size)
    obtain ⟨c68, c69, c70, hlb⟩ := (HSK.out.bel hb1).cells HSL.out
    clear hb1 HN HB HSK
    have SC := sc_same (P := Tryz.prog) (w := w1) w.heap.size 40 Z HN1.out hz1.out
    go_wp2_with (refine wpL_val 32 rfl rfl (.agg Z.toArray) (by rw [← HZ.out]; kernel_rfl) ?_)
    refine bodyPost_ret (v := .tuple #[.agg Z.toArray, .int .i64 14]) ?_ rfl ⟨by rw [HZ.out], HB1.out⟩
    exact res2 Tryz.results38 w.heap.size 36 _ Z _ Tryz.underlying40 rfl info_pk hzl HN1.out _ rfl _ rfl
  · go_wp2_with (refine wpL_load rfl 29 _ rfl rfl LP ?_)
    clear LP
    refine (cA.out _).mono ?_
    rintro e w1 ⟨rfl, hb1⟩
    have HN1 := kp (HN.out.bel hb1)
    have HB1 := kp (bt' HB.out hb1 HB.out.size)
    obtain ⟨c68, c69, c70, hlb⟩ := (HSK.out.bel hb1).cells HSL.out
    clear hb1 HN HB HSK
    have SC := sc_same (P := Tryz.prog) (w := w1) w.heap.size 40 Z HN1.out hz1.out
    go_wp2_with (refine wpL_val 37 rfl rfl (.agg Z.toArray) (by rw [← HZ.out]; kernel_rfl) ?_)
    refine bodyPost_ret (v := .tuple #[.agg Z.toArray, .int .i64 5]) ?_ rfl ⟨by rw [HZ.out], HB1.out⟩
    exact res2 Tryz.results38 w.heap.size 36 _ Z _ Tryz.underlying40 rfl info_pk hzl HN1.out _ rfl _ rfl
end Go.Proofs.YtmblknknbbdmeaaGreat
/- sender: Send, a packet that is sent. -/
namespace Go.Proofs.YtmblknknbbdmeaaGreat
open Go Go.RowKit
set_option linter.unusedVariables false
set_option linter.unusedSimpArgs false
attribute [local go_sem] bmax2 bmin2 bmax bmin cell_ext frozen_ext

/-- while it sends: keys of [lo, a) are kept; its blocks are those it had, or new; the result's cell lies in r -/
def TS (B : Nat) (w : World) (X : Nat → Prop) (b bw : Nat) (S : List UInt8) (s l d c : Int) (n lo : Nat) (L : Int) (Z : List Value) (a : Nat) (W : World) : Prop :=
  ∃ g ad cp, SK B W b bw g ad cp S s l d c n lo a L ∧ FrP X w W ∧ (∀ k, sdX b bw g ad k → X k ∨ w.heap.size < k) ∧ Blk W w.heap.size 40 Z.toArray
section
variable {B : Nat} {w W W' : World} {X : Nat → Prop} {b bw : Nat} {S : List UInt8} {s l d c : Int} {n lo a : Nat} {L : Int} {Z : List Value}
theorem TS.bel (h : TS B w X b bw S s l d c n lo L Z a W) (hb : Below W.heap.size W W') : TS B w X b bw S s l d c n lo L Z a W' := by
  obtain ⟨g, ad, cp, h1, h2, h3, h4⟩ := h
  exact ⟨g, ad, cp, h1.bel hb, h2.trans (FrP.of_bel (X := X) hb) (fun k hk => Or.inl hk), h3, h4.bel hb⟩
theorem TS.lt (h : TS B w X b bw S s l d c n lo L Z a W) : w.heap.size < W.heap.size := by
  obtain ⟨g, ad, cp, h1, h2, h3, h4⟩ := h
  exact h4.lt
theorem TS.far (h : TS B w X b bw S s l d c n lo L Z a W) (hX : ∀ k, X k → k < w.heap.size) {Y : Nat → Prop} (hf : FrP Y W W') (hY : ∀ k, Y k → w.heap.size < k ∧ ∀ T cs, Blk W k T cs → T ≠ 152 ∧ T ≠ 192 ∧ T ≠ 189 ∧ T ≠ 205) : TS B w X b bw S s l d c n lo L Z a W' := by
  obtain ⟨g, ad, cp, h1, h2, h3, h4⟩ := h
  refine ⟨g, ad, cp, h1.frP hf (fun k hk hy => ?_), h2.trans hf (fun k hk => Or.inr (Nat.le_of_lt (hY k hk).1)), h3, h4.frP hf (fun hy => by have := (hY _ hy).1; omega)⟩
  obtain ⟨_, _, T, cs, hb, hT⟩ := h1.types hk
  obtain ⟨e1, e2, e3, e4⟩ := (hY k hy).2 T cs hb
  rcases hT with h | h | h | h
  · exact e1 h
  · exact e2 h
  · exact e3 h
  · exact e4 h
/-- a key is told -/
theorem TS.key (h : TS B w X b bw S s l d c n lo L Z a W) (hS : S.length = 32) (hn1 : 1 ≤ n) (hn2 : n ≤ 1024) (i : Nat) (h1 : lo ≤ i) (h2 : i ≤ n) (ha : a ≤ n + 1) (hX : ∀ k, X k → k < w.heap.size) (hB : B ≤ w.heap.size) :
    Calls Tryz.prog 76 #[.pointer (some ⟨b, 0, none⟩), .int .i64 (i : Int)] W fun e W' => e = .returned (.agg (cellsU8 (chK S (n - i))).toArray) ∧ TS B w X b bw S s l d c n lo L Z (max a (i + 1)) W' ∧ ∀ k T cs, Blk W k T cs → T ≠ 152 → T ≠ 192 → T ≠ 189 → T ≠ 205 → Blk W' k T cs := by
  obtain ⟨g, ad, cp, k1, k2, k3, k4⟩ := h
  refine (S_key k1 hS hn1 hn2 i h1 h2 ha (Nat.le_trans hB k2.size)).mono ?_
  rintro e W' ⟨g', ad', cp', rfl, q1, q2, q3⟩
  have hne : ∀ k T cs, Blk W k T cs → T ≠ 152 → T ≠ 192 → T ≠ 189 → T ≠ 205 → ¬ sdX b bw g ad k := fun k T cs hb e1 e2 e3 e4 hk => by
    obtain ⟨_, _, T', cs', hb', hT⟩ := k1.types hk
    have : T = T' := by
      unfold Blk at hb hb'
      rw [hb] at hb'
      injection hb' with hb'
      injection hb' with _ ht
    subst this
    rcases hT with h | h | h | h
    · exact e1 h
    · exact e2 h
    · exact e3 h
    · exact e4 h
  refine ⟨rfl, ⟨g', ad', cp', q1, k2.trans q2 (fun k hk => (k3 k hk).imp id Nat.le_of_lt), fun k hk => ?_, k4.frP q2 (hne _ _ _ k4 (by decide) (by decide) (by decide) (by decide))⟩, fun k T cs hb e1 e2 e3 e4 => hb.frP q2 (hne k T cs hb e1 e2 e3 e4)⟩
  rcases q3 k hk with h | h
  · exact k3 k h
  · right
    have := k4.lt
    omega
end
theorem lo_le {d : Int} {L i : Nat} (hd : 1 ≤ d) (hi : 1 ≤ i) (h : L ≤ i) : loOf d L ≤ i := by unfold loOf; omega
theorem lo_next {d : Int} {L i : Nat} (hd : 1 ≤ d) (h : L ≤ i) : max (loOf d L) ((i : Int) - d).toNat = loOf d i := by unfold loOf; omega
set_option maxHeartbeats 8000000 in
set_option maxRecDepth 100000 in
theorem S_Send_good {B : Nat} {w : World} {X : Nat → Prop} {b : Nat} {S : List UInt8} {s l d c : Int} {n L : Nat} (h : SX B w X b S s l d c n L) (hS : S.length = 32) (hm : mayP s l d c = true) (hc : c = (n : Int)) (now : Int) (ht0 : -9223372036854775808 ≤ now) (ht1 : now < 9223372036854775808) (t : ByteArray) (hB : B ≤ w.heap.size) (i : Nat) (hat : atP s l c now = ((i : Int), 0)) (hi1 : 1 ≤ i) (hi2 : i ≤ n) (hLi : L ≤ i) (ht : t.size ≤ 1000) :
    Calls Tryz.prog 38 #[.pointer (some ⟨b, 0, none⟩), .int .i64 now, .string t] w (SendEnd B w X b S s l d c n L i (goodPk (chK S) d n i t) 0) := by
  subst hc
  have cA := kp (fun w' => P_At s l d n now hm ht0 ht1 w')
  have hmm := mayP_iff.1 hm
  rw [hat] at cA
  have cTl := kp (fun w' => P_Tells s l d n i hm w')
  obtain ⟨T, hT⟩ : ∃ T : Nat, ((i : Int) - d).toNat = T := ⟨_, rfl⟩
  have hTl : tellsP d n i = (T : Int) := by unfold tellsP; rw [if_pos (by omega)]; omega
  rw [hTl] at cTl
  obtain ⟨bw, g, ad, cp, hsk, hX⟩ := h
  subst hX
  have HXL : Kp (∀ k, sdX b bw g ad k → k < w.heap.size) := kp (fun k hk => (hsk.types hk).2.1)
  have HN := kp (Blk.new w 40 zeroPk.toArray)
  have hb0 := ba (Below.refl w.heap.size w) (.cells zeroPk.toArray 40)
  have hlo : loOf d L ≤ i := lo_le (by omega) hi1 hLi
  have hlo2 := lo_next (d := d) (by omega) hLi
  rw [hT] at hlo2
  have hloT : T ≠ 0 → loOf d L ≤ T := by unfold loOf; omega
  have hn1 : 1 ≤ n := by omega
  have hn2 : n ≤ 1024 := by omega
  have hTi : T < i := by omega
  have hgp : goodPk (chK S) d n i t = pkL (i : Int) t (str (tagD (chK S (n - i)) (i : Int) t)) (T : Int) (if T = 0 then zeroK else chK S (n - T)) := by unfold goodPk; rw [hT]
  have cTag := kp (fun w' => S_Tag (chK S (n - i)) (i : Int) t (chK_length S _) (by omega) w')
  obtain ⟨TG, hTG⟩ : ∃ TG, str (tagD (chK S (n - i)) (i : Int) t) = TG := ⟨_, rfl⟩
  rw [hTG] at cTag hgp
  have HTS : Kp (TS B w (sdX b bw g ad) b bw S s l d n n (loOf d L) L zeroPk (L + 1) (w.alloc (.cells zeroPk.toArray 40))) := kp ⟨g, ad, cp, hsk.bel hb0, FrP.of_bel hb0, fun k hk => Or.inl hk, HN.out⟩
  have HSL := kp hS
  have HBB := kp hB
  have HHAT := kp hsk
  obtain ⟨KK, hKK⟩ : ∃ KK, (if T = 0 then zeroK else chK S (n - T)) = KK := ⟨_, rfl⟩
  rw [hKK] at hgp
  have HKK := kp hKK
  rw [hgp]
  clear hKK
  have HLO2 := kp hlo2
  have HMM := kp hmm
  have HLO := kp hlo
  have HLT := kp hloT
  have HTI := kp hTi
  have HN1 := kp hn1
  have HN2 := kp hn2
  have HI1 := kp hi1
  have HI2 := kp hi2
  have HLI := kp hLi
  have HT := kp hT
  have HTT := kp ht
  clear hb0 hTG hgp hTl hat HN hm ht0 ht1 hmm hlo hloT hTi hn1 hn2 hi1 hi2 hT hB hlo2 hS
  have hzl := zeroPk_length
  have hz1 := kp zeroPk_one
  have HZP : Kp (∀ (iv : Int) (tx tg : ByteArray) (tl : Int) (W : World), (Instr.build 40 #[(0, .int .i64 iv), (1, .string tx), (2, .string tg), (3, .int .i64 tl)]).run Tryz.prog W = .ok (.agg (pkL iv tx tg tl zeroK).toArray) W) := kp build_pk4
  obtain ⟨Z, hZ⟩ : ∃ Z, zeroPk = Z := ⟨_, rfl⟩
  have HZ := kp hZ
  rw [hZ] at HTS hzl hz1
  go_enter Tryz.func38, Tryz.ntmps38
  go_upto_region 1 with (fail)
  change Code.wp _ _ _ _ (w.alloc (.cells zeroPk.toArray 40))
  rw [hZ]
  clear hZ hsk
  generalize w.alloc (.cells Z.toArray 40) = W at HTS ⊢
  obtain ⟨g1, ad1, cp1, k1, k2, k3, k4⟩ := HTS.out
  have LP := k1.ldPlan HSL.out
  have hlb := k1.blk.lt
  clear k1 k2 k3 k4
  go_wp2_with (refine wpL_load rfl 29 _ rfl rfl LP ?_)
  clear LP hlb
  refine (cA.out _).mono ?_
  rintro e w1 ⟨rfl, hb1⟩
  have HTS := kp (HTS.out.bel hb1)
  clear hb1
  obtain ⟨g1, ad1, cp1, k1, k2, k3, k4⟩ := HTS.out
  obtain ⟨c68, c69, c70, hlb⟩ := k1.cells HSL.out
  clear k1 k2 k3 k4
  have i1 : ¬ (i : Int) < (L : Int) := by omega
  have i2 : ¬ (1000 : Int) < (t.size : Int) := by omega
  go_upto_region 8 with (fail)
  clear c68 c69 c70 hlb
  have hLn : L + 1 ≤ n + 1 := by have := HLI.out; have := HI2.out; omega
  have HMX : Kp (max (L + 1) (i + 1) = i + 1) := kp (by have := HLI.out; omega)
  have cK := kp (fun W' (h : TS B w (sdX b bw g ad) b bw S s l d n n (loOf d L) L Z (L + 1) W') => h.key HSL.out HN1.out HN2.out i HLO.out HI2.out hLn HXL.out HBB.out)
  rw [HMX.out] at cK
  have HKL := kp (chK_length S (n - i))
  obtain ⟨A, hA⟩ : ∃ A, chK S (n - i) = A := ⟨_, rfl⟩
  rw [hA] at cK cTag HKL
  clear hA hLn
  refine wp_region_held (S := fun W' => ∃ a, TS B w (sdX b bw g ad) b bw S s l d n n (loOf d L) L Z a W') (by kernel_rfl) ?_
  have HT0 : TS B w (sdX b bw g ad) b bw S s l d n n (loOf d L) L Z (L + 1) { w1 with drawn := w1.drawn + 1 } := HTS.out.bel (Below.refl _ _).drew
  change wpAnyH _ _ _ _ _ 17 _ _ _
  refine takeAll (by kernel_rfl) (fun _ _ d _ _ h => by cases d <;> exact h) [(0, 38), (1, 39), (2, 40), (3, 41), (5, 43), (6, 44), (8, 46), (9, 47), (10, 48), (11, 49), (12, 50)] [.int .i64 (i : Int), .string t, .pointer (some ⟨b, 0, none⟩), .int .i64 (i : Int), .int .i64 (i : Int), .string t, .pointer (some ⟨b, 0, none⟩), .pointer (some ⟨b, 0, none⟩), .pointer (some ⟨b, 32, none⟩), .agg (planL s l d n).toArray, .int .i64 (i : Int)] _ _ _ 6 (by kernel_rfl) ⟨Or.inl ⟨by kernel_rfl, fun w hS => by kernel_rfl⟩, Or.inl ⟨by kernel_rfl, fun w hS => by kernel_rfl⟩, Or.inl ⟨by kernel_rfl, fun w hS => by kernel_rfl⟩, Or.inl ⟨by kernel_rfl, fun w hS => by kernel_rfl⟩, Or.inl ⟨by kernel_rfl, fun w hS => by kernel_rfl⟩, Or.inl ⟨by kernel_rfl, fun w hS => by kernel_rfl⟩, Or.inl ⟨by kernel_rfl, fun w hS => by kernel_rfl⟩, Or.inl ⟨by kernel_rfl, fun w hS => by kernel_rfl⟩, Or.inl ⟨by kernel_rfl, fun w hS => by kernel_rfl⟩, Or.inl ⟨by kernel_rfl, fun w hS => by
      obtain ⟨a, g1, ad1, cp1, h1, _⟩ := hS
      exact exec_load (ty := 29) (x := .tmp 48) (by kernel_rfl) (pv := .pointer (some ⟨b, 32, none⟩)) (by kernel_rfl) (h1.ldPlan HSL.out)⟩, Or.inl ⟨by kernel_rfl, fun w hS => by kernel_rfl⟩, trivial⟩ ⟨_, HT0⟩ ?_
  refine comb (by kernel_rfl) 15 10 (of_decide_eq_true (by kernel_rfl)) (by kernel_rfl) (by kernel_rfl) [(4, 42), (7, 45), (13, 51), (14, 52)] [.agg (cellsU8 A).toArray, .string TG, .int .i64 (T : Int), .agg (pkL (i : Int) t TG (T : Int) zeroK).toArray]
    (TS B w (sdX b bw g ad) b bw S s l d n n (loOf d L) L Z (L + 1)) [TS B w (sdX b bw g ad) b bw S s l d n n (loOf d L) L Z (i + 1), TS B w (sdX b bw g ad) b bw S s l d n n (loOf d L) L Z (i + 1), TS B w (sdX b bw g ad) b bw S s l d n n (loOf d L) L Z (i + 1), TS B w (sdX b bw g ad) b bw S s l d n n (loOf d L) L Z (i + 1)] _ _ _ 1
    (V := fun u W => ∃ bk, u = .pointer (some ⟨bk, 0, none⟩) ∧ w.heap.size < bk ∧ Blk W bk 40 Z.toArray) (pf := TS B w (sdX b bw g ad) b bw S s l d n n (loOf d L) L Z (i + 1)) (by kernel_rfl) ⟨?_, ?_, ?_, ?_, fun _ h => h⟩ ?_ ⟨_, HT0⟩ HT0 ?_
  · intro W hS hp
    refine Or.inr ⟨76, #[.pointer (some ⟨b, 0, none⟩), .int .i64 (i : Int)], by kernel_rfl, (cK.out W hp).mono fun e W' ⟨he, h1, h2⟩ => ⟨he, ⟨_, h1⟩, h1, ?_⟩⟩
    rintro u ⟨bk, e1, e2, e3⟩
    exact ⟨bk, e1, e2, h2 _ _ _ e3 (by decide) (by decide) (by decide) (by decide)⟩
  · intro W hS hp
    refine Or.inr ⟨75, #[.agg (cellsU8 A).toArray, .int .i64 (i : Int), .string t], by kernel_rfl, (cTag.out W).mono fun e W' ⟨he, hb⟩ => ⟨he, ⟨_, hp.bel hb⟩, hp.bel hb, ?_⟩⟩
    rintro u ⟨bk, e1, e2, e3⟩
    exact ⟨bk, e1, e2, e3.bel hb⟩
  · intro W hS hp
    refine Or.inr ⟨59, #[.agg (planL s l d n).toArray, .int .i64 (i : Int)], by kernel_rfl, (cTl.out W).mono fun e W' ⟨he, hb⟩ => ⟨he, ⟨_, hp.bel hb⟩, hp.bel hb, ?_⟩⟩
    rintro u ⟨bk, e1, e2, e3⟩
    exact ⟨bk, e1, e2, e3.bel hb⟩
  · intro W hS hp
    refine Or.inl ⟨W, ?_, ⟨_, hp⟩, hp, fun u hu => hu⟩
    exact exec_build (ty := 40) (ps := #[(0, .tmp 38), (1, .tmp 39), (2, .tmp 45), (3, .tmp 51)]) (parts := #[(0, .int .i64 (i : Int)), (1, .string t), (2, .string TG), (3, .int .i64 (T : Int))]) (by kernel_rfl) (by kernel_rfl) (HZP.out _ _ _ _ _)
  · intro q hq W hS hp
    have hw : ∃ a1, q = TS B w (sdX b bw g ad) b bw S s l d n n (loOf d L) L Z a1 := by
      simp only [List.mem_cons, List.not_mem_nil, or_false] at hq
      rcases hq with h | h | h | h | h <;> exact ⟨_, h⟩
    obtain ⟨a1, rfl⟩ := hw
    have hp2 := hp.bel (ba (Below.refl W.heap.size W) (.cells Z.toArray 40))
    exact ⟨.pointer (some ⟨W.heap.size, 0, none⟩), W.alloc (.cells Z.toArray 40), by rw [← HZ.out]; kernel_rfl, ⟨_, hp2⟩, hp2, ⟨_, rfl, hp.lt, Blk.new _ _ _⟩⟩
  · rintro u W1 hS hp ⟨bk, rfl, hbk, hkk⟩
    have hzk : zeroK.length = 32 := zeroK_length
    have hpl0 : (pkL (i : Int) t TG (T : Int) zeroK).length = 36 := pkL_length hzk
    have hst := st_all (P := Tryz.prog) (w := W1) bk 36 40 40 (pkL (i : Int) t TG (T : Int) zeroK) Z info_pk hpl0 hzl hkk (pkL_one _ _ _ _ _)
    have HPK0 := kp (hkk.row (pkL (i : Int) t TG (T : Int) zeroK).toArray)
    have hTS2 := hp.far HXL.out (FrP.of_grown (X := fun k => k = bk) (gbrow W1 bk (pkL (i : Int) t TG (T : Int) zeroK).toArray) (fun k hk => by injection hk with hk; exact hk.symm)) (fun k hk => by
      have hk : k = bk := hk
      subst hk
      refine ⟨hbk, fun T' cs hb => ?_⟩
      unfold Blk at hb hkk
      rw [hkk] at hb
      injection hb with hb
      injection hb with _ ht
      subst ht
      exact ⟨by decide, by decide, by decide, by decide⟩)
    have HTS := kp hTS2
    change wpAnyH _ _ _ _ _ [16].length _ _ _
    refine wpAnyH_of_seqE (by kernel_rfl) (fun _ _ d _ _ h => by cases d <;> exact h) [16] _ _ _ ⟨_, hp⟩ (of_decide_eq_true (by kernel_rfl)) (by kernel_rfl) ?_
    refine stepS_skip (by kernel_rfl) (of_decide_eq_true (by kernel_rfl)) (by kernel_rfl) (exec_store 40 (.tmp 10) (.tmp 52) (by kernel_rfl) (pv := .pointer (some ⟨bk, 0, none⟩)) (by kernel_rfl) (v := .agg (pkL (i : Int) t TG (T : Int) zeroK).toArray) (by kernel_rfl) hst) ⟨_, hTS2⟩ ?_
    have hpl00 := hpl0
    clear hst hTS2 hp hS hkk hpl0 HT0
    generalize W1.setRow bk (pkL (i : Int) t TG (T : Int) zeroK).toArray = V at HPK0 HTS ⊢
    unfold wpListS
    dsimp only [Exit.then, putAll, Act.put]
    simp only [List.setIfInBounds_toArray, List.set_cons_succ, List.set_cons_zero]
    have c3 := HPK0.out.atL (show (pkL (i : Int) t TG (T : Int) zeroK)[3]? = some (.int .i64 (T : Int)) from rfl)
    have hlk := HPK0.out.lt
    by_cases hT0 : T = 0
    · have hKv : zeroK = KK := by rw [← HKK.out, if_pos hT0]
      have HKKL : Kp (KK.length = 32) := kp (hKv ▸ hzk)
      rw [hKv] at HPK0
      have HPK := HPK0
      clear hzk hKv HPK0
      have d0 : decide ((0 : Int) < (T : Int)) = false := decide_eq_false (by omega)
      have d1 : ¬ (0 : Int) < (T : Int) := by omega
      have d2 : ¬ 0 < T := by omega
      have d3 : decide (0 < T) = false := decide_eq_false (by omega)
      clear hT0 c3 hlk
      obtain ⟨g2, ad2, cp2, k1, k2, k3, k4⟩ := HTS.out
      have c3 := HPK.out.atL (show (pkL (i : Int) t TG (T : Int) KK)[3]? = some (.int .i64 (T : Int)) from rfl)
      have hlk := HPK.out.lt
      go_wp2_with fail
      clear c3 hlk
      refine (S_forget k1 HSL.out HN2.out T (by have := HTI.out; omega) (by have := HLO.out; omega) (by have := HI2.out; omega)).mono ?_
      rintro e w5 ⟨ad3, cp3, ⟨u, rfl⟩, q1, q2, q3⟩
      rw [HLO2.out] at q1
      have HPK := kp (HPK.out.frP q2 (fun hk => by
        obtain ⟨_, _, T', cs', hb', hT⟩ := k1.types hk
        have := HPK.out
        unfold Blk at this hb'
        rw [this] at hb'
        injection hb' with hb'
        injection hb' with _ ht
        rcases hT with h | h | h | h
        · exact absurd (ht.trans h) (by decide)
        · exact absurd (ht.trans h) (by decide)
        · exact absurd (ht.trans h) (by decide)
        · exact absurd (ht.trans h) (by decide)))
      have HR := kp (k4.frP q2 (fun hk => by
        obtain ⟨_, _, T', cs', hb', hT⟩ := k1.types hk
        unfold Blk at k4 hb'
        rw [k4] at hb'
        injection hb' with hb'
        injection hb' with _ ht
        rcases hT with h | h | h | h
        · exact absurd (ht.trans h) (by decide)
        · exact absurd (ht.trans h) (by decide)
        · exact absurd (ht.trans h) (by decide)
        · exact absurd (ht.trans h) (by decide)))
      have HXX : Kp (∀ k, sdX b bw g2 ad3 k → sdX b bw g ad k ∨ w.heap.size < k) := kp (fun k hk => k3 k (by
        rcases hk with h | h | h | h
        · exact Or.inl h
        · exact Or.inr (Or.inl h)
        · exact Or.inr (Or.inr (Or.inl h))
        · exact Or.inr (Or.inr (Or.inr (q3 ▸ h)))))
      have HFP := kp (k2.trans q2 (fun k hk => (k3 k hk).imp id Nat.le_of_lt))
      have hs2 := q1.blk.setL 70 (.int .i64 (i : Int))
      rw [sdL_last HSL.out (chK_length S n)] at hs2
      have hset := gbset w5 b 70 (.int .i64 (i : Int))
      obtain ⟨n1, n2, n3, n4⟩ := q1.ne
      have hfs := FrP.of_grown (X := fun k => k = b) hset (fun k hk => by injection hk with hk; exact hk.symm)
      have hbk2 : bk ≠ b := HPK.out.ne_ q1.blk (by decide)
      have hbr : w.heap.size ≠ b := HR.out.ne_ q1.blk (by decide)
      have HSK2 : Kp (SK B (w5.setCell ⟨b, 70, none⟩ (.int .i64 (i : Int))) b bw g2 ad3 cp3 S s l d n n (loOf d i) (i + 1) (i : Int)) := kp ⟨hs2, q1.wk.frP hfs (fun e => n1 e.symm) (fun e => n2 e.symm), q1.ks.frP hfs (fun k hk e => (n4 k hk).1 e), q1.ge, q1.le⟩
      have HPK := kp (HPK.out.far (p := ⟨b, 70, none⟩) hbk2 (.int .i64 (i : Int)))
      have HR := kp (HR.out.far (p := ⟨b, 70, none⟩) hbr (.int .i64 (i : Int)))
      have HFP := kp (HFP.out.trans hfs (fun k hk => by have : k = b := hk; subst this; exact Or.inl (Or.inl rfl)))
      have hlb := q1.blk.lt
      have f70 := q1.blk.frozen 70
      obtain ⟨c68, c69, c70, _⟩ := q1.cells HSL.out
      have hpl : (pkL (i : Int) t TG (T : Int) KK).length = 36 := pkL_length HKKL.out
      have hp1 := kp (pkL_one (i : Int) t TG (T : Int) KK)
      obtain ⟨PK, hPK⟩ : ∃ PK, pkL (i : Int) t TG (T : Int) KK = PK := ⟨_, rfl⟩
      rw [hPK] at HPK hpl hp1
      clear hs2 hset hfs n1 n2 n3 n4 k1 k2 k3 k4 q1 q2 q3 hbk2 hbr c68 c69 HTS
      have L6 := ld_all (P := Tryz.prog) bk 36 40 40 PK _ Tryz.underlying40 rfl info_pk hpl HPK.out
      have SC := sc_all (P := Tryz.prog) (w := w5.setCell ⟨b, 70, none⟩ (.int .i64 (i : Int))) w.heap.size 40 PK Z HR.out (by rw [hpl, hzl]) hp1.out
      have HRES := kp (HR.out.row PK.toArray)
      have hrow := FrP.of_grown (X := fun k => k = w.heap.size) (gbrow (w5.setCell ⟨b, 70, none⟩ (.int .i64 (i : Int))) w.heap.size PK.toArray) (fun k hk => by injection hk with hk; exact hk.symm)
      have HEND : Kp (SendEnd B w (sdX b bw g ad) b S s l d n n L i (pkL (i : Int) t TG (T : Int) KK) 0 (.returned (.tuple #[.agg PK.toArray, .int .i64 0])) ((w5.setCell ⟨b, 70, none⟩ (.int .i64 (i : Int))).setRow w.heap.size PK.toArray)) := kp
        ⟨sdX b bw g2 ad3, by rw [hPK], ⟨bw, g2, ad3, cp3, HSK2.out.frP hrow (fun k hk e => by
            have e : k = w.heap.size := e
            rcases HXX.out k hk with h | h
            · have := HXL.out k h; omega
            · omega), rfl⟩, HFP.out.trans hrow (fun k hk => Or.inr (Nat.le_of_eq (Eq.symm hk))), fun k hk => (HXX.out k hk).imp id Nat.le_of_lt⟩
      clear hrow HSK2 HFP HXX HXL HR HHAT hPK
      go_wp2_with (refine wpL_load rfl 40 _ rfl rfl L6 ?_)
      refine bodyPost_ret (v := .tuple #[.agg PK.toArray, .int .i64 0]) ?_ rfl HEND.out
      exact res2 Tryz.results38 w.heap.size 36 _ PK _ Tryz.underlying40 rfl info_pk hpl HRES.out _ rfl _ rfl
    · have hKv : chK S (n - T) = KK := by rw [← HKK.out, if_neg hT0]
      have HKKL : Kp (KK.length = 32) := kp (hKv ▸ chK_length S _)
      have d0 : decide ((0 : Int) < (T : Int)) = true := decide_eq_true (by omega)
      have d1 : (0 : Int) < (T : Int) := by omega
      have d2 : 0 < T := by omega
      have d3 : decide (0 < T) = true := decide_eq_true (by omega)
      have cK2 := HTS.out.key HSL.out HN1.out HN2.out T (HLT.out hT0) (by have := HTI.out; have := HI2.out; omega) (by have := HI2.out; omega) HXL.out HBB.out
      rw [show max (i + 1) (T + 1) = i + 1 by have := HTI.out; omega, hKv] at cK2
      clear hKv hT0
      go_wp2_with fail
      clear c3 hlk
      refine cK2.mono ?_
      rintro e w4 ⟨rfl, hts, hkeep⟩
      have HPK1 := kp (hkeep _ _ _ HPK0.out (by decide) (by decide) (by decide) (by decide))
      have HTS0 := kp hts
      have hkl := key_cells KK HKKL.out
      have hzc := key_cells zeroK hzk
      have SC := sc_row (P := Tryz.prog) (w := w4) bk 4 40 (cellsU8 KK) (pkL (i : Int) t TG (T : Int) zeroK) HPK1.out (by rw [hkl, hpl00]; omega) (cellsU8_one _)
      have hrow2 : (pkL (i : Int) t TG (T : Int) zeroK).take 4 ++ cellsU8 KK ++ (pkL (i : Int) t TG (T : Int) zeroK).drop (4 + (cellsU8 KK).length) = pkL (i : Int) t TG (T : Int) KK := by
        rw [hkl]
        have : List.drop (4 + 32) (pkL (i : Int) t TG (T : Int) zeroK) = [] := List.drop_eq_nil_of_le (by rw [hpl00]; omega)
        rw [this, List.append_nil]
        rfl
      rw [hrow2] at SC
      have HPK := kp (HPK1.out.row (pkL (i : Int) t TG (T : Int) KK).toArray)
      have HTS := kp (HTS0.out.far HXL.out (FrP.of_grown (X := fun k => k = bk) (gbrow w4 bk (pkL (i : Int) t TG (T : Int) KK).toArray) (fun k hk => by injection hk with hk; exact hk.symm)) (fun k hk => by
        have hk : k = bk := hk
        subst hk
        refine ⟨hbk, fun T' cs hb => ?_⟩
        have h1 := HPK1.out
        unfold Blk at hb h1
        rw [h1] at hb
        injection hb with hb
        injection hb with _ ht
        subst ht
        exact ⟨by decide, by decide, by decide, by decide⟩))
      clear hts hkeep hrow2 hzk cK2 HPK0 HTS0 HPK1
      go_upto_region 11 with (fail)
      clear SC hkl hzc d0 d1 d2 d3 hpl00
      generalize w4.setRow bk (pkL (i : Int) t TG (T : Int) KK).toArray = V at HPK HTS ⊢
      obtain ⟨g2, ad2, cp2, k1, k2, k3, k4⟩ := HTS.out
      have c3 := HPK.out.atL (show (pkL (i : Int) t TG (T : Int) KK)[3]? = some (.int .i64 (T : Int)) from rfl)
      have hlk := HPK.out.lt
      go_wp2_with fail
      clear c3 hlk
      refine (S_forget k1 HSL.out HN2.out T (by have := HTI.out; omega) (by have := HLO.out; omega) (by have := HI2.out; omega)).mono ?_
      rintro e w5 ⟨ad3, cp3, ⟨u, rfl⟩, q1, q2, q3⟩
      rw [HLO2.out] at q1
      have HPK := kp (HPK.out.frP q2 (fun hk => by
        obtain ⟨_, _, T', cs', hb', hT⟩ := k1.types hk
        have := HPK.out
        unfold Blk at this hb'
        rw [this] at hb'
        injection hb' with hb'
        injection hb' with _ ht
        rcases hT with h | h | h | h
        · exact absurd (ht.trans h) (by decide)
        · exact absurd (ht.trans h) (by decide)
        · exact absurd (ht.trans h) (by decide)
        · exact absurd (ht.trans h) (by decide)))
      have HR := kp (k4.frP q2 (fun hk => by
        obtain ⟨_, _, T', cs', hb', hT⟩ := k1.types hk
        unfold Blk at k4 hb'
        rw [k4] at hb'
        injection hb' with hb'
        injection hb' with _ ht
        rcases hT with h | h | h | h
        · exact absurd (ht.trans h) (by decide)
        · exact absurd (ht.trans h) (by decide)
        · exact absurd (ht.trans h) (by decide)
        · exact absurd (ht.trans h) (by decide)))
      have HXX : Kp (∀ k, sdX b bw g2 ad3 k → sdX b bw g ad k ∨ w.heap.size < k) := kp (fun k hk => k3 k (by
        rcases hk with h | h | h | h
        · exact Or.inl h
        · exact Or.inr (Or.inl h)
        · exact Or.inr (Or.inr (Or.inl h))
        · exact Or.inr (Or.inr (Or.inr (q3 ▸ h)))))
      have HFP := kp (k2.trans q2 (fun k hk => (k3 k hk).imp id Nat.le_of_lt))
      have hs2 := q1.blk.setL 70 (.int .i64 (i : Int))
      rw [sdL_last HSL.out (chK_length S n)] at hs2
      have hset := gbset w5 b 70 (.int .i64 (i : Int))
      obtain ⟨n1, n2, n3, n4⟩ := q1.ne
      have hfs := FrP.of_grown (X := fun k => k = b) hset (fun k hk => by injection hk with hk; exact hk.symm)
      have hbk2 : bk ≠ b := HPK.out.ne_ q1.blk (by decide)
      have hbr : w.heap.size ≠ b := HR.out.ne_ q1.blk (by decide)
      have HSK2 : Kp (SK B (w5.setCell ⟨b, 70, none⟩ (.int .i64 (i : Int))) b bw g2 ad3 cp3 S s l d n n (loOf d i) (i + 1) (i : Int)) := kp ⟨hs2, q1.wk.frP hfs (fun e => n1 e.symm) (fun e => n2 e.symm), q1.ks.frP hfs (fun k hk e => (n4 k hk).1 e), q1.ge, q1.le⟩
      have HPK := kp (HPK.out.far (p := ⟨b, 70, none⟩) hbk2 (.int .i64 (i : Int)))
      have HR := kp (HR.out.far (p := ⟨b, 70, none⟩) hbr (.int .i64 (i : Int)))
      have HFP := kp (HFP.out.trans hfs (fun k hk => by have : k = b := hk; subst this; exact Or.inl (Or.inl rfl)))
      have hlb := q1.blk.lt
      have f70 := q1.blk.frozen 70
      obtain ⟨c68, c69, c70, _⟩ := q1.cells HSL.out
      have hpl : (pkL (i : Int) t TG (T : Int) KK).length = 36 := pkL_length HKKL.out
      have hp1 := kp (pkL_one (i : Int) t TG (T : Int) KK)
      obtain ⟨PK, hPK⟩ : ∃ PK, pkL (i : Int) t TG (T : Int) KK = PK := ⟨_, rfl⟩
      rw [hPK] at HPK hpl hp1
      clear hs2 hset hfs n1 n2 n3 n4 k1 k2 k3 k4 q1 q2 q3 hbk2 hbr c68 c69 HTS
      have L6 := ld_all (P := Tryz.prog) bk 36 40 40 PK _ Tryz.underlying40 rfl info_pk hpl HPK.out
      have SC := sc_all (P := Tryz.prog) (w := w5.setCell ⟨b, 70, none⟩ (.int .i64 (i : Int))) w.heap.size 40 PK Z HR.out (by rw [hpl, hzl]) hp1.out
      have HRES := kp (HR.out.row PK.toArray)
      have hrow := FrP.of_grown (X := fun k => k = w.heap.size) (gbrow (w5.setCell ⟨b, 70, none⟩ (.int .i64 (i : Int))) w.heap.size PK.toArray) (fun k hk => by injection hk with hk; exact hk.symm)
      have HEND : Kp (SendEnd B w (sdX b bw g ad) b S s l d n n L i (pkL (i : Int) t TG (T : Int) KK) 0 (.returned (.tuple #[.agg PK.toArray, .int .i64 0])) ((w5.setCell ⟨b, 70, none⟩ (.int .i64 (i : Int))).setRow w.heap.size PK.toArray)) := kp
        ⟨sdX b bw g2 ad3, by rw [hPK], ⟨bw, g2, ad3, cp3, HSK2.out.frP hrow (fun k hk e => by
            have e : k = w.heap.size := e
            rcases HXX.out k hk with h | h
            · have := HXL.out k h; omega
            · omega), rfl⟩, HFP.out.trans hrow (fun k hk => Or.inr (Nat.le_of_eq (Eq.symm hk))), fun k hk => (HXX.out k hk).imp id Nat.le_of_lt⟩
      clear hrow HSK2 HFP HXX HXL HR HHAT hPK
      go_wp2_with (refine wpL_load rfl 40 _ rfl rfl L6 ?_)
      refine bodyPost_ret (v := .tuple #[.agg PK.toArray, .int .i64 0]) ?_ rfl HEND.out
      exact res2 Tryz.results38 w.heap.size 36 _ PK _ Tryz.underlying40 rfl info_pk hpl HRES.out _ rfl _ rfl
end Go.Proofs.YtmblknknbbdmeaaGreat
/- sender: Send, whatever comes; Renew. -/
namespace Go.Proofs.YtmblknknbbdmeaaGreat
open Go Go.RowKit
set_option linter.unusedVariables false
set_option linter.unusedSimpArgs false
attribute [local go_sem] bmax2 bmin2 bmax bmin cell_ext frozen_ext

theorem sendE_zero {s l d c : Int} {n L : Nat} {now : Int} {t : ByteArray} (hm : mayP s l d c = true) (hc : c = (n : Int)) (h : sendE s l c L now t = 0) : ∃ i : Nat, atP s l c now = ((i : Int), 0) ∧ 1 ≤ i ∧ i ≤ n ∧ L ≤ i ∧ t.size ≤ 1000 ∧ s ≤ now ∧ now < s + c * l := by
  unfold sendE at h
  have h2 : (atP s l c now).2 = 0 := by
    by_cases h0 : (atP s l c now).2 = 0
    · exact h0
    · rw [if_neg h0] at h; exact absurd h h0
  rw [if_pos h2] at h
  by_cases h1 : (atP s l c now).1 < (L : Int)
  · rw [if_pos h1] at h; exact absurd h (by decide)
  rw [if_neg h1] at h
  by_cases h3 : 1000 < t.size
  · rw [if_pos h3] at h; exact absurd h (by decide)
  have hs : s ≤ now := by
    rcases Int.lt_or_le now s with h | h
    · exfalso; unfold atP at h2; rw [if_pos h] at h2; exact absurd h2 (by decide)
    · exact h
  have he : now < s + c * l := by
    rcases Int.lt_or_le now (s + c * l) with h | h
    · exact h
    · exfalso; unfold atP at h2; rw [if_neg (by omega), if_pos h] at h2; exact absurd h2 (by decide)
  have hin := atP_in hm hs he
  have hat : atP s l c now = ((now - s) / l + 1, 0) := by unfold atP; rw [if_neg (by omega), if_neg (by omega)]
  rw [hat] at h1
  refine ⟨((now - s) / l + 1).toNat, ?_, by omega, by omega, by simp only at h1; omega, by omega, hs, he⟩
  rw [hat, Int.toNat_of_nonneg (by omega)]
theorem S_Send {B : Nat} {w : World} {X : Nat → Prop} {b : Nat} {S : List UInt8} {s l d c : Int} {n L : Nat} (h : SX B w X b S s l d c n L) (hS : S.length = 32) (hm : mayP s l d c = true) (hc : c = (n : Int)) (now : Int) (ht0 : -9223372036854775808 ≤ now) (ht1 : now < 9223372036854775808) (t : ByteArray) (hB : B ≤ w.heap.size) (ht : t.size ≤ 1099511000) :
    Calls Tryz.prog 38 #[.pointer (some ⟨b, 0, none⟩), .int .i64 now, .string t] w (SendEnd B w X b S s l d c n L (sendL s l c L now t) (sendPk S s l d c n L now t) (sendE s l c L now t)) := by
  by_cases h0 : sendE s l c L now t = 0
  · obtain ⟨i, hat, h1, h2, h3, h4, _, _⟩ := sendE_zero hm hc h0
    have e1 : sendL s l c L now t = i := by unfold sendL; rw [if_pos h0, hat]; simp
    have e2 : sendPk S s l d c n L now t = goodPk (chK S) d n i t := by unfold sendPk; rw [if_pos h0, hat]; simp
    rw [e1, e2, h0]
    exact S_Send_good h hS hm hc now ht0 ht1 t hB i hat h1 h2 h3 h4
  · have e1 : sendL s l c L now t = L := if_neg h0
    have e2 : sendPk S s l d c n L now t = zeroPk := if_neg h0
    rw [e1, e2]
    exact (S_Send_bad h hS hm now ht0 ht1 t ht h0).mono fun e w' ⟨he, hb⟩ => ⟨X, he, h.same hb, FrP.of_bel hb, fun k hk => Or.inl hk⟩
section
variable {P : Program} {ops : Array Oper} {Q : Exit → Act → World → Prop} {S : World → Prop}
theorem stepS_callE {i : Nat} {t : List Nat} {a : Act} {w : World} {f : FuncId} {args : Array Value} {C : Value → World → Prop} (d : Nat) (hd : (ops.getD i default).dst = some d) (hi : i < ops.size) (hg : (ops.getD i default).guard = none) (hr : (execOp a.eval (ops.getD i default)).run P w = .ok (.enter f args) w)
    (hc : Calls P f args w fun e w' => ∃ v, e = .returned v ∧ C v w') (hS : ∀ v W', C v W' → S W') (h : ∀ v W', C v W' → wpListS P ops Q S t (a.put (some d) v) W') : wpListS P ops Q S (i :: t) a w := by
  unfold wpListS wpOp
  simp only [getD_some hi]
  rw [if_pos (by unfold Region.wanted; rw [hg])]
  refine .inl ?_
  unfold Oper.wp
  rw [hr]
  refine hc.mono fun e w' he => ?_
  obtain ⟨v, rfl, hC⟩ := he
  rw [hd]
  exact ⟨hS v w' hC, h v w' hC⟩
end
theorem loOf_zero {d : Int} (hd : 1 ≤ d) : loOf d 0 = 1 := by unfold loOf; omega
theorem mayP_next {s l d c : Int} (hm : mayP s l d c = true) (h : s + c * l ≤ 1152921504606846976) : mayP (s + c * l) l d c = true := by
  have hb := beg_in (i := c + 1) hm (by have := mayP_iff.1 hm; omega) (by omega)
  rw [show c + 1 - 1 = c by omega] at hb
  rw [mayP_iff] at hm ⊢
  omega
/-- Renew's end -/
def RenewEnd (B : Nat) (w : World) (S : List UInt8) (s l d c : Int) (n : Nat) (e : Ending) (w' : World) : Prop :=
  (1152921504606846976 < s + c * l ∧ e = .returned (.tuple #[.pointer none, .int .i64 6]) ∧ Below w.heap.size w w') ∨
  (s + c * l ≤ 1152921504606846976 ∧ ∃ b X, e = .returned (.tuple #[.pointer (some ⟨b, 0, none⟩), .int .i64 0]) ∧ SX B w' X b (macD S seedS) (s + c * l) l d c n 0 ∧ Below w.heap.size w w' ∧ ∀ k, X k → w.heap.size ≤ k)
end Go.Proofs.YtmblknknbbdmeaaGreat
/- the reference's sender: Tag, Then, Renew. -/
namespace Go.Proofs.YtmblknknbbdmeaaGreat
open Go Go.RowKit
set_option linter.unusedVariables false
set_option linter.unusedSimpArgs false
attribute [local go_sem] bmax2 bmin2 bmax bmin cell_ext frozen_ext

set_option maxHeartbeats 1000000 in
set_option maxRecDepth 100000 in
theorem R12_Tag (K : List UInt8) (i : Int) (t : ByteArray) (hK : K.length = 32) (ht : t.size ≤ 1099511000) (w : World) :
    Calls Tryz.prog 58 #[.agg (cellsU8 K).toArray, .int .i64 i, .string t] w fun e w' => e = .returned (.string (str (tagD K i t))) ∧ Below w.heap.size w w' := by
  have c1 : Kp (∀ w', Calls Tryz.prog 78 #[.agg (cellsU8 K).toArray, .string ⟨#[116, 97, 103]⟩] w' fun e w'' => e = .returned (.agg (cellsU8 (macD K tagS)).toArray) ∧ Below w'.heap.size w' w'') := kp (fun w' => R_Of K ⟨#[116, 97, 103]⟩ hK (by decide) w')
  obtain ⟨N, hN⟩ : ∃ N : Nat, i % 18446744073709551616 = (N : Int) := ⟨(i % 18446744073709551616).toNat, by omega⟩
  have hN2 : N < U64 := by unfold U64; omega
  have hs := kp (str_tagT i t)
  rw [hN, Int.toNat_natCast] at hs
  have c2 := kp (fun w' => ref01_Put_mid N 4 w' hN2 (by decide) 4 (by decide))
  have hw : IntKind.u64.wrap i = (N : Int) := by rw [wrapU, hN]
  have hz : (str (putL N 4)).size ≤ 4 := by rw [str_size, length_putL]; omega
  have hel := macD_length K tagS
  have c3 := kp (fun w' => R_Short (str (macD K tagS)) (str (tagT i t)) 16 16 (by decide) (by rw [str_size]; omega) (by rw [tagT_size]; omega) w')
  rw [bs_str, bs_tagT] at c3
  unfold tagD
  rw [← hs.out] at c3
  generalize macD K tagS = E at *
  generalize tagT i t = TT at *
  generalize str (putL N 4) = A at *
  have hcl := key_cells _ hel
  have HEL := kp hel
  have HB := kp (ba (Below.refl w.heap.size w) (.cells (cellsU8 K).toArray 27))
  have LD := ldK K hK (Blk.new w 27 (cellsU8 K).toArray)
  clear hel hN hN2 hs
  go_enter Tryz.func58, Tryz.ntmps58
  go_wp2_with (refine wpL_load rfl 27 _ rfl rfl LD ?_)
  clear LD
  refine (c1.out _).mono ?_
  rintro e w1 ⟨rfl, hb1⟩
  have SC := fun (cur : Array Value) (h : cur.size = 32) => sc_new (P := Tryz.prog) w1 27 (cellsU8 E) (cellsU8_one _) cur (by rw [hcl]; exact h)
  have K3 := kp (Blk.new w1 27 (cellsU8 E).toArray)
  have HB3 := kp (ba (bt' HB.out hb1 HB.out.size) (.cells (cellsU8 E).toArray 27))
  clear hb1 HB
  go_upto_region 2 with (fail)
  clear SC
  generalize w1.alloc (.cells (cellsU8 E).toArray 27) = W3 at K3 HB3 ⊢
  generalize w1.heap.size = b3 at K3 ⊢
  have hcv := fun x => blk_str (P := Tryz.prog) 93 (e := 5) (dst := 9) (n := 32) (cap := 32) Tryz.underlying93 Tryz.underlying5 Tryz.underlying9 (K3.out.bel (ext_below W3 x)) HEL.out
  refine wp_region_ext [0, 1, 2, 3, 4, 5, 6, 7] [8] (by kernel_rfl) (by kernel_rfl) ?_
  simp only [List.map_cons, List.map_nil, List.getD_cons_succ, List.getD_cons_zero]
  repeat (first
    | go_big_quiet_step (first | (go_at_call 93; with_reducible exact Calls.ext_of (c2.out _)) | (go_at_call 92; with_reducible exact Calls.ext_of (c3.out _))))
  refine wpQuiet_nil ?_
  rintro z
  have HB4 := kp (bt' HB3.out (ext_below W3 z) HB3.out.size)
  clear hcv
  generalize W3.ext z = V at HB4 ⊢
  go_wp2
  go_ret
  exact ⟨rfl, HB4.out⟩
end Go.Proofs.YtmblknknbbdmeaaGreat
/- the reference's sender: Send. -/
namespace Go.Proofs.YtmblknknbbdmeaaGreat
open Go Go.RowKit
set_option linter.unusedVariables false
set_option linter.unusedSimpArgs false
attribute [local go_sem] bmax2 bmin2 bmax bmin cell_ext frozen_ext

/-- the reference's sender's cells -/
def rsL (S : List UInt8) (s l d c last : Int) : List Value := cellsU8 S ++ (planL s l d c ++ [.int .i64 last])
theorem rsL_length {S : List UInt8} {s l d c last : Int} (hS : S.length = 32) : (rsL S s l d c last).length = 37 := by simp [rsL, planL, length_cellsU8, hS]
theorem rsL_seed {S : List UInt8} {s l d c last : Int} (j : Nat) (v : Value) (hv : (cellsU8 S)[j]? = some v) : (rsL S s l d c last)[j]? = some v := by
  unfold rsL
  rw [List.getElem?_append_left (List.getElem?_eq_some_iff.1 hv).1]; exact hv
theorem rsL_plan {S : List UInt8} {s l d c last : Int} (hS : S.length = 32) (j : Nat) (v : Value) (hv : (planL s l d c)[j]? = some v) : (rsL S s l d c last)[32 + j]? = some v := by
  unfold rsL
  rw [List.getElem?_append_right (by rw [length_cellsU8]; omega), length_cellsU8, hS, Nat.add_sub_cancel_left, List.getElem?_append_left (List.getElem?_eq_some_iff.1 hv).1]; exact hv
theorem rsL_at {S : List UInt8} {s l d c last : Int} (hS : S.length = 32) : (rsL S s l d c last)[36]? = some (.int .i64 last) := by
  unfold rsL
  rw [List.getElem?_append_right (by rw [length_cellsU8]; omega), length_cellsU8, hS, List.getElem?_append_right (by rw [planL_length]; omega), planL_length]; rfl
theorem rsL_set {S : List UInt8} {s l d c last : Int} (hS : S.length = 32) (v : Int) : (rsL S s l d c last).set 36 (.int .i64 v) = rsL S s l d c v := by
  unfold rsL
  rw [List.set_append_right _ _ (by rw [length_cellsU8]; omega), length_cellsU8, hS, List.set_append_right _ _ (by rw [planL_length]; omega), planL_length]; rfl
section
variable {w : World} {r : Nat} {S : List UInt8} {s l d c last : Int}
end
/-- .. and a new block's row -/
theorem gbt2 {a b : World} {row : Option Nat} {x : Nat} {cs : Array Value} (h : a.grownBy b row) (k : b.grownBy (b.setRow x cs) (some x)) (hx : a.heap.size ≤ x := by omega) : a.grownBy (b.setRow x cs) row :=
  ⟨k.os.trans h.os, k.tape.trans h.tape, k.output.trans h.output, Nat.le_trans h.size k.size, fun i hi hr => (k.block i (Nat.lt_of_lt_of_le hi h.size) (fun e => by injection e with e; omega)).trans (h.block i hi hr)⟩
end Go.Proofs.YtmblknknbbdmeaaGreat
/- the reference's sender: Send, whatever comes; Renew. -/
namespace Go.Proofs.YtmblknknbbdmeaaGreat
open Go Go.RowKit
set_option linter.unusedVariables false
set_option linter.unusedSimpArgs false
attribute [local go_sem] bmax2 bmin2 bmax bmin cell_ext frozen_ext

end Go.Proofs.YtmblknknbbdmeaaGreat
/- sender: a law's own senders, one or two. -/
namespace Go.Proofs.YtmblknknbbdmeaaGreat
open Go Go.RowKit
set_option linter.unusedVariables false
set_option linter.unusedSimpArgs false
attribute [local go_sem] bmax2 bmin2 bmax bmin cell_ext frozen_ext

/-- a seed, a plan -/
structure SP where
  S : List UInt8
  s : Int
  l : Int
  d : Int
  n : Nat
structure SP.Ok (p : SP) : Prop where
  len : p.S.length = 32
  may : mayP p.s p.l p.d p.n = true
def SY (B : Nat) (w : World) (X : Nat → Prop) (b : Nat) (p : SP) (L : Nat) : Prop := SX B w X b p.S p.s p.l p.d p.n p.n L
/-- one sender -/
def S1 (B : Nat) (w : World) (b : Nat) (p : SP) (L : Nat) : Prop := ∃ X, SY B w X b p L
/-- two senders, apart -/
def S2 (B : Nat) (w : World) (b c : Nat) (p q : SP) (L M : Nat) : Prop := ∃ X Y, SY B w X b p L ∧ SY B w Y c q M ∧ ∀ k, X k → ¬ Y k
/-- on from w: what lies below B is as it was, and so is all else but senders, walkers, stones and keys that are kept -/
structure MvS (B : Nat) (w w' : World) : Prop where
  below : Below B w w'
  keep : ∀ {k T : Nat} {cs : Array Value}, T ≠ 152 → T ≠ 192 → T ≠ 189 → T ≠ 205 → Blk w k T cs → Blk w' k T cs
def SP.E (p : SP) (L : Nat) (now : Int) (t : ByteArray) : Int := sendE p.s p.l p.n L now t
def SP.N (p : SP) (L : Nat) (now : Int) (t : ByteArray) : Nat := sendL p.s p.l p.n L now t
def SP.K (p : SP) (L : Nat) (now : Int) (t : ByteArray) : List Value := sendPk p.S p.s p.l p.d p.n p.n L now t
def SP.next (p : SP) : SP := ⟨macD p.S seedS, p.s + p.n * p.l, p.l, p.d, p.n⟩
theorem SP.Ok.next {p : SP} (h : p.Ok) (hov : p.s + p.n * p.l ≤ 1152921504606846976) : p.next.Ok := ⟨macD_length _ _, mayP_next h.may hov⟩
theorem SP.Ok.hn {p : SP} (h : p.Ok) : 1 ≤ p.n ∧ p.n ≤ 1024 := by have := mayP_iff.1 h.may; omega
theorem SP.K_length (p : SP) (L : Nat) (now : Int) (t : ByteArray) : (p.K L now t).length = 36 := by
  unfold SP.K sendPk goodPk
  split
  · exact pkL_length (by split; exact zeroK_length; exact chK_length _ _)
  · exact zeroPk_length
theorem SP.K_one (p : SP) (L : Nat) (now : Int) (t : ByteArray) : ∀ v ∈ p.K L now t, v.oneCell' = true := by
  unfold SP.K sendPk goodPk
  split
  · exact pkL_one _ _ _ _ _
  · exact zeroPk_one
theorem SP.K_row (p : SP) (L : Nat) (now : Int) (t : ByteArray) : ∃ iv tx tg tl K, K.length = 32 ∧ p.K L now t = pkL iv tx tg tl K := by
  unfold SP.K sendPk goodPk
  split
  · exact ⟨_, _, _, _, _, by split; exact zeroK_length; exact chK_length _ _, rfl⟩
  · exact ⟨_, _, _, _, _, zeroK_length, rfl⟩
variable {B : Nat} {w w' : World} {b c : Nat} {p q : SP} {L M : Nat} {X Y : Nat → Prop}
theorem SY.types (h : SY B w X b p L) {k : Nat} (hk : X k) : B ≤ k ∧ k < w.heap.size ∧ ∃ T cs, Blk w k T cs ∧ (T = 152 ∨ T = 192 ∨ T = 189 ∨ T = 205) := by
  obtain ⟨bw, g, ad, cp, h, rfl⟩ := h
  exact h.types hk
theorem SY.mv (h : SY B w X b p L) (hf : FrP X w w') (hB : B ≤ w.heap.size) : MvS B w w' := by
  refine ⟨hf.below (fun k hk => (h.types hk).1) hB, fun e1 e2 e3 e4 hb => hb.frP hf (fun hk => ?_)⟩
  obtain ⟨_, _, T', cs', hb', hT⟩ := h.types hk
  unfold Blk at hb hb'
  rw [hb] at hb'
  injection hb' with hb'
  injection hb' with _ ht
  subst ht
  rcases hT with h | h | h | h
  · exact e1 h
  · exact e2 h
  · exact e3 h
  · exact e4 h
theorem SY.bel (h : SY B w X b p L) (hb : Below w.heap.size w w') : SY B w' X b p L := SX.same h hb
theorem SY.stays (h : SY B w Y c q M) (hf : FrP X w w') (hd : ∀ k, Y k → ¬ X k) : SY B w' Y c q M := by
  obtain ⟨bw, g, ad, cp, h, rfl⟩ := h
  exact ⟨bw, g, ad, cp, h.frP hf hd, rfl⟩
theorem MvS.of_bel (h : Below w.heap.size w w') (hB : B ≤ w.heap.size) : MvS B w w' := ⟨h.mono hB, fun _ _ _ _ hk => hk.bel h⟩
theorem S1.bel (h : S1 B w b p L) (hb : Below w.heap.size w w') : S1 B w' b p L := by obtain ⟨X, h⟩ := h; exact ⟨X, h.bel hb⟩
theorem S2.bel (h : S2 B w b c p q L M) (hb : Below w.heap.size w w') : S2 B w' b c p q L M := by obtain ⟨X, Y, h1, h2, h3⟩ := h; exact ⟨X, Y, h1.bel hb, h2.bel hb, h3⟩
theorem S2.symm (h : S2 B w b c p q L M) : S2 B w c b q p M L := by obtain ⟨X, Y, h1, h2, h3⟩ := h; exact ⟨Y, X, h2, h1, fun k h1 h2 => h3 k h2 h1⟩
theorem S2.fst (h : S2 B w b c p q L M) : S1 B w b p L := by obtain ⟨X, Y, h1, h2, h3⟩ := h; exact ⟨X, h1⟩
theorem S2.snd (h : S2 B w b c p q L M) : S1 B w c q M := h.symm.fst
/-- a sender's blocks turned to another type's: none -/
theorem SY.row {r : Nat} (h : SY B w X b p L) {T : TypeId} {cs : Array Value} (hr : Blk w r T cs) (hT : T ≠ 152 ∧ T ≠ 192 ∧ T ≠ 189 ∧ T ≠ 205) (hg : w.grownBy w' (some r)) : SY B w' X b p L := by
  refine SY.stays h (FrP.of_grown (X := fun k => k = r) hg (fun k hk => by injection hk with hk; exact hk.symm)) (fun k hk e => ?_)
  subst e
  obtain ⟨_, _, T', cs', hb', hT'⟩ := h.types hk
  unfold Blk at hr hb'
  rw [hr] at hb'
  injection hb' with hb'
  injection hb' with _ ht
  subst ht
  rcases hT' with h | h | h | h
  · exact hT.1 h
  · exact hT.2.1 h
  · exact hT.2.2.1 h
  · exact hT.2.2.2 h
theorem S1.row {r : Nat} (h : S1 B w b p L) {T : TypeId} {cs : Array Value} (hr : Blk w r T cs) (hT : T ≠ 152 ∧ T ≠ 192 ∧ T ≠ 189 ∧ T ≠ 205) (hg : w.grownBy w' (some r)) : S1 B w' b p L := by
  obtain ⟨X, h⟩ := h
  exact ⟨X, h.row hr hT hg⟩
/-- New -/
theorem L_New (hp : p.Ok) (w : World) (hB : B ≤ w.heap.size) : Calls Tryz.prog 36 #[.agg (cellsU8 p.S).toArray, .agg (planL p.s p.l p.d p.n).toArray] w fun e w' => ∃ b, e = .returned (.tuple #[.pointer (some ⟨b, 0, none⟩), .int .i64 0]) ∧ S1 B w' b p 0 ∧ Below w.heap.size w w' := by
  have hd := mayP_iff.1 hp.may
  refine (S_New_good (B := B) p.S p.s p.l p.d p.n hp.len hp.may p.n rfl w hB).mono ?_
  rintro e w' ⟨b, bw, g, rfl, h1, h2, h3⟩
  exact ⟨b, rfl, ⟨_, bw, g, none, 0, by rw [loOf_zero (by omega)]; exact h1, rfl⟩, h2⟩
theorem L_New2 (hp : p.Ok) (w : World) (hB : B ≤ w.heap.size) (hc : S1 B w c q M) : Calls Tryz.prog 36 #[.agg (cellsU8 p.S).toArray, .agg (planL p.s p.l p.d p.n).toArray] w fun e w' => ∃ b, e = .returned (.tuple #[.pointer (some ⟨b, 0, none⟩), .int .i64 0]) ∧ S2 B w' c b q p M 0 ∧ Below w.heap.size w w' := by
  have hd := mayP_iff.1 hp.may
  obtain ⟨Y, hc⟩ := hc
  refine (S_New_good (B := B) p.S p.s p.l p.d p.n hp.len hp.may p.n rfl w hB).mono ?_
  rintro e w' ⟨b, bw, g, rfl, h1, h2, h3⟩
  exact ⟨b, rfl, ⟨Y, _, hc.bel h2, ⟨bw, g, none, 0, by rw [loOf_zero (by omega)]; exact h1, rfl⟩, fun k hk hk2 => by have := h3 k hk2; have := (hc.types hk).2.1; omega⟩, h2⟩
theorem L_Send (hp : p.Ok) (h : S1 B w b p L) (now : Int) (ht0 : -9223372036854775808 ≤ now) (ht1 : now < 9223372036854775808) (t : ByteArray) (hB : B ≤ w.heap.size) (ht : t.size ≤ 1099511000) :
    Calls Tryz.prog 38 #[.pointer (some ⟨b, 0, none⟩), .int .i64 now, .string t] w fun e w' => e = .returned (.tuple #[.agg (p.K L now t).toArray, .int .i64 (p.E L now t)]) ∧ S1 B w' b p (p.N L now t) ∧ MvS B w w' := by
  obtain ⟨X, h⟩ := h
  refine (S_Send h hp.len hp.may rfl now ht0 ht1 t hB ht).mono ?_
  rintro e w' ⟨X', rfl, h1, h2, h3⟩
  exact ⟨rfl, ⟨X', h1⟩, h.mv h2 hB⟩
theorem L_Send2 (hp : p.Ok) (h : S2 B w b c p q L M) (now : Int) (ht0 : -9223372036854775808 ≤ now) (ht1 : now < 9223372036854775808) (t : ByteArray) (hB : B ≤ w.heap.size) (ht : t.size ≤ 1099511000) :
    Calls Tryz.prog 38 #[.pointer (some ⟨b, 0, none⟩), .int .i64 now, .string t] w fun e w' => e = .returned (.tuple #[.agg (p.K L now t).toArray, .int .i64 (p.E L now t)]) ∧ S2 B w' b c p q (p.N L now t) M ∧ MvS B w w' := by
  obtain ⟨X, Y, h, hy, hd⟩ := h
  refine (S_Send h hp.len hp.may rfl now ht0 ht1 t hB ht).mono ?_
  rintro e w' ⟨X', rfl, h1, h2, h3⟩
  refine ⟨rfl, ⟨X', Y, h1, hy.stays h2 (fun k hk hx => hd k hx hk), fun k hk hy2 => ?_⟩, h.mv h2 hB⟩
  rcases h3 k hk with h | h
  · exact hd k h hy2
  · have := (hy.types hy2).2.1
    omega
theorem L_Known (hp : p.Ok) (h : S1 B w b p L) : Calls Tryz.prog 37 #[.pointer (some ⟨b, 0, none⟩)] w fun e w' => e = .returned (.agg (cellsU8 (chK p.S p.n)).toArray) ∧ Below w.heap.size w w' := by
  obtain ⟨X, bw, g, ad, cp, h, _⟩ := h
  exact S_Known h hp.len
/-- refused: nothing turns -/
theorem L_Send_bad (hp : p.Ok) (h : S1 B w b p L) (now : Int) (ht0 : -9223372036854775808 ≤ now) (ht1 : now < 9223372036854775808) (t : ByteArray) (ht : t.size ≤ 1099511000) (hbad : p.E L now t ≠ 0) :
    Calls Tryz.prog 38 #[.pointer (some ⟨b, 0, none⟩), .int .i64 now, .string t] w fun e w' => e = .returned (.tuple #[.agg zeroPk.toArray, .int .i64 (p.E L now t)]) ∧ Below w.heap.size w w' := by
  obtain ⟨X, h⟩ := h
  exact S_Send_bad h hp.len hp.may now ht0 ht1 t ht hbad
theorem SP.N_bad {now : Int} {t : ByteArray} (h : p.E L now t ≠ 0) : p.N L now t = L := if_neg h
theorem SP.K_bad {now : Int} {t : ByteArray} (h : p.E L now t ≠ 0) : p.K L now t = zeroPk := if_neg h
theorem SP.good {now : Int} {t : ByteArray} (hp : p.Ok) (h : p.E L now t = 0) : ∃ i : Nat, atP p.s p.l p.n now = ((i : Int), 0) ∧ 1 ≤ i ∧ i ≤ p.n ∧ L ≤ i ∧ t.size ≤ 1000 ∧ p.N L now t = i ∧ p.K L now t = goodPk (chK p.S) p.d p.n i t := by
  obtain ⟨i, hat, h1, h2, h3, h4, h5, h6⟩ := sendE_zero hp.may rfl h
  refine ⟨i, hat, h1, h2, h3, h4, ?_, ?_⟩
  · unfold SP.N sendL; rw [if_pos (show sendE p.s p.l p.n L now t = 0 from h), hat]; simp
  · unfold SP.K sendPk; rw [if_pos (show sendE p.s p.l p.n L now t = 0 from h), hat]; simp
end Go.Proofs.YtmblknknbbdmeaaGreat
/- receiver: a law's own receiver, beside a sender. -/
namespace Go.Proofs.YtmblknknbbdmeaaGreat
open Go Go.RowKit Go.Maps
set_option linter.unusedVariables false
set_option linter.unusedSimpArgs false

/-- a receiver, its blocks at B or above -/
structure V1 (B N : Nat) (w : World) (M : Rm) (R : Rc) : Prop where
  rr : RR N w M R
  ge : ∀ k, M.X k → B ≤ k
/-- a receiver's act -/
structure MvV (B : Nat) (M : Rm) (w w' : World) : Prop where
  below : Below B w w'
  fr : FrP M.X w w'
  keep : ∀ {k T : Nat} {cs : Array Value}, T ≠ 138 → T ≠ 178 → Blk w k T cs → Blk w' k T cs
  sd : ∀ {B' b : Nat} {p : SP} {L : Nat}, S1 B' w b p L → S1 B' w' b p L
/-- a sender's act -/
structure MvT (B : Nat) (w w' : World) : Prop where
  below : Below B w w'
  keep : ∀ {k T : Nat} {cs : Array Value}, T ≠ 152 → T ≠ 192 → T ≠ 189 → T ≠ 205 → Blk w k T cs → Blk w' k T cs
  rv : ∀ {B' N : Nat} {M : Rm} {R : Rc}, V1 B' N w M R → V1 B' N w' M R
  fr : ∃ X, FrP X w w' ∧ ∀ k, X k → ∃ T cs, Blk w k T cs
section
variable {B N N' : Nat} {w w' : World} {M M' : Rm} {R : Rc} {b : Nat} {p : SP} {L : Nat} {X : Nat → Prop}
theorem V1.bel (h : V1 B N w M R) (hb : Below w.heap.size w w') : V1 B N w' M R := ⟨h.rr.bel hb, h.ge⟩
theorem V1.mono (h : V1 B N w M R) (hn : N ≤ N') : V1 B N' w M R := ⟨h.rr.mono hn, h.ge⟩
theorem V1.frP (h : V1 B N w M R) (hf : FrP X w w') (hX : ∀ k, M.X k → ¬ X k) : V1 B N w' M R := ⟨⟨h.rr.rv.frP hf hX, h.rr.ok, h.rr.m⟩, h.ge⟩
theorem SY.notM (hv : RV w M R) (h : SY B w X b p L) {k : Nat} (hk : X k) : ¬ M.X k := by
  obtain ⟨_, _, T, cs, hb, hT⟩ := h.types hk
  exact hv.notX hb (by rcases hT with rfl | rfl | rfl | rfl <;> decide) (by rcases hT with rfl | rfl | rfl | rfl <;> decide)
theorem V1.mv (h : V1 B N w M R) (hs : Rs w w' M M') (hB : B ≤ w.heap.size) : MvV B M w w' :=
  ⟨hs.fr.below h.ge hB, hs.fr, fun h1 h2 hb => h.rr.rv.blkKept hs hb h1 h2, fun ⟨X, hx⟩ => ⟨X, hx.stays hs.fr (fun k hk => hx.notM h.rr.rv hk)⟩⟩
theorem MvV.of_bel (h : Below w.heap.size w w') (hB : B ≤ w.heap.size) : MvV B M w w' := ⟨h.mono hB, FrP.of_bel h, fun _ _ hk => hk.bel h, fun hk => hk.bel h⟩
theorem MvT.of_bel (h : Below w.heap.size w w') (hB : B ≤ w.heap.size) : MvT B w w' := ⟨h.mono hB, fun _ _ _ _ hk => hk.bel h, fun hk => hk.bel h, fun _ => False, FrP.of_bel h, fun k hk => hk.elim⟩
theorem slN_nil : slN [] = 0 := rfl
theorem newRc_ok (K : List UInt8) (s l d c most : Int) (each slots : Nat) (hm : mayP s l d c = true) (h1 : 1 ≤ most ∧ most ≤ 64) (h3 : 1 ≤ each ∧ each ≤ 64) (h4 : 1 ≤ slots ∧ slots ≤ 64) : Rin 0 (newRc K s l d c most each slots) := by
  have hmy := mayP_iff.1 hm
  exact ⟨⟨hm, h1, ⟨Int.le_refl _, by show 0 ≤ c; omega⟩, h3, h4, List.nodup_nil, Nat.zero_le _, fun p hp => absurd hp (by simp [newRc]), rfl, ⟨Int.le_refl _, Int.le_refl _⟩, ⟨Int.le_refl _, Int.le_refl _⟩, fun i => Nat.le_refl _⟩, fun i => Int.le_refl _⟩
theorem L_RNew (K : List UInt8) (s l d c most : Int) (each slots : Nat) (hK : K.length = 32) (hm : mayP s l d c = true) (h1 : 1 ≤ most ∧ most ≤ 64) (h3 : 1 ≤ each ∧ each ≤ 64) (h4 : 1 ≤ slots ∧ slots ≤ 64) (w : World) (hB : B ≤ w.heap.size) :
    Calls Tryz.prog 29 #[.agg (cellsU8 K).toArray, .agg (planL s l d c).toArray, .int .i64 most, .int .i64 (each : Int), .int .i64 (slots : Int)] w fun e w' => ∃ M : Rm, e = .returned (.tuple #[.pointer (some ⟨M.rb, 0, none⟩), .int .i64 0]) ∧ V1 B 0 w' M (newRc K s l d c most each slots) ∧ Below w.heap.size w w' ∧ ∀ k, M.X k → w.heap.size ≤ k := by
  refine (R_New_good K s l d c most each slots hK hm h1.1 h1.2 h3 h4 w).mono ?_
  rintro e w' ⟨M, rfl, hv, hb, hX, hm0⟩
  exact ⟨M, rfl, ⟨⟨hv, newRc_ok K s l d c most each slots hm h1 h3 h4, by rw [hm0]; exact Int.le_refl _⟩, fun k hk => Nat.le_trans hB (hX k hk)⟩, hb, hX⟩
/-- what an act of a receiver answers, and does -/
def VEnd (B N : Nat) (w : World) (M : Rm) (S : RS × Int) (e : Ending) (w' : World) : Prop :=
  ∃ ad cp M', e = .returned (.tuple #[.slice ad S.1.2.length cp, .int .i64 S.2]) ∧ M'.rb = M.rb ∧ V1 B N w' M' S.1.1 ∧ MvV B M w w' ∧ (∀ k, M'.X k → M.X k ∨ w.heap.size ≤ k) ∧ Rw w.heap.size w' 71 2 ad S.1.2.length cp (thL S.1.2)
theorem VEnd.of (h : V1 B N' w M R) (hB : B ≤ w.heap.size) {S : RS × Int} {e : Ending} (g : LrnEnd N w M S e w') : VEnd B N w M S e w' := by
  obtain ⟨ad, cp, M', he, hr, hs, hw⟩ := g
  refine ⟨ad, cp, M', he, hs.rb, ⟨hr, fun k hk => ?_⟩, h.mv hs hB, hs.own, hw⟩
  rcases hs.own k hk with h1 | h1
  · exact h.ge k h1
  · omega
theorem L_Got (hN : N ≤ 40000) (h : V1 B N w M R) (hB : B ≤ w.heap.size) (iv : Int) (t g : ByteArray) (tl : Int) (K : List UInt8) (hK : K.length = 32) (lt : Int) (htl : tl ≤ 9223372036854775807) :
    Calls Tryz.prog 31 #[.pointer (some ⟨M.rb, 0, none⟩), .agg (pkL iv t g tl K).toArray, .int .i64 lt] w (VEnd B (N + 1) w M (gotP R iv t g tl K lt)) :=
  (R_Got N hN w M R h.rr iv t g tl K hK lt htl).mono fun e w' hh => VEnd.of h hB hh
theorem L_Learn (hN : N ≤ 50000) (h : V1 B N w M R) (hB : B ≤ w.heap.size) (k : List UInt8) (hk : k.length = 32) (i : Int) (hi : i ≤ 9223372036854775807) :
    Calls Tryz.prog 32 #[.pointer (some ⟨M.rb, 0, none⟩), .agg (cellsU8 k).toArray, .int .i64 i] w (VEnd B N w M (lrnP R k i)) :=
  (R_Learn N hN w M R h.rr k hk i hi).mono fun e w' hh => VEnd.of h hB hh
theorem L_SendV (hp : p.Ok) (h : S1 B w b p L) (now : Int) (ht0 : -9223372036854775808 ≤ now) (ht1 : now < 9223372036854775808) (t : ByteArray) (hB : B ≤ w.heap.size) (ht : t.size ≤ 1099511000) :
    Calls Tryz.prog 38 #[.pointer (some ⟨b, 0, none⟩), .int .i64 now, .string t] w fun e w' => e = .returned (.tuple #[.agg (p.K L now t).toArray, .int .i64 (p.E L now t)]) ∧ S1 B w' b p (p.N L now t) ∧ MvT B w w' := by
  obtain ⟨X, h⟩ := h
  refine (S_Send h hp.len hp.may rfl now ht0 ht1 t hB ht).mono ?_
  rintro e w' ⟨X', rfl, h1, h2, h3⟩
  have hm := h.mv h2 hB
  refine ⟨rfl, ⟨X', h1⟩, hm.below, fun e1 e2 e3 e4 hb => hm.keep e1 e2 e3 e4 hb, fun hv => hv.frP h2 (fun k hk hx => h.notM hv.rr.rv hx hk), X, h2, fun k hk => ?_⟩
  obtain ⟨_, _, T, cs, hb, _⟩ := h.types hk
  exact ⟨T, cs, hb⟩
/-- a receiver at rb; Z: a law's own maps, none of its -/
def VR (B N : Nat) (Z : Nat → Prop) (w : World) (rb : Nat) (R : Rc) : Prop := ∃ M, M.rb = rb ∧ V1 B N w M R ∧ ∀ k, Z k → k < w.heap.size ∧ ¬ M.X k
/-- .. its act -/
structure MvQ (B : Nat) (Z : Nat → Prop) (w w' : World) : Prop where
  below : Below B w w'
  keep : ∀ {k T : Nat} {cs : Array Value}, T ≠ 138 → T ≠ 178 → Blk w k T cs → Blk w' k T cs
  sd : ∀ {B' b : Nat} {p : SP} {L : Nat}, S1 B' w b p L → S1 B' w' b p L
  zz : ∀ k, Z k → w'.heap[k]? = w.heap[k]?
variable {Z Z' : Nat → Prop} {rb : Nat}
theorem VR.bel (h : VR B N Z w rb R) (hb : Below w.heap.size w w') : VR B N Z w' rb R := by
  obtain ⟨M, h1, h2, h3⟩ := h
  exact ⟨M, h1, h2.bel hb, fun k hk => ⟨Nat.lt_of_lt_of_le (h3 k hk).1 hb.size, (h3 k hk).2⟩⟩
theorem VR.mono (h : VR B N Z w rb R) (hn : N ≤ N') : VR B N' Z w rb R := by
  obtain ⟨M, h1, h2, h3⟩ := h
  exact ⟨M, h1, h2.mono hn, h3⟩
theorem VR.ok (h : VR B N Z w rb R) : Rin N R := by
  obtain ⟨M, h1, h2, h3⟩ := h
  exact h2.rr.ok
theorem VR.mvT (h : VR B N Z w rb R) {B' : Nat} (hm : MvT B' w w') : VR B N Z w' rb R := by
  obtain ⟨M, h1, h2, h3⟩ := h
  exact ⟨M, h1, hm.rv h2, fun k hk => ⟨Nat.lt_of_lt_of_le (h3 k hk).1 hm.below.size, (h3 k hk).2⟩⟩
/-- what turns no cell block of a receiver's, nor an object -/
theorem VR.frP (h : VR B N Z w rb R) (hf : FrP X w w') (hX : ∀ k, X k → Z k ∨ w.heap.size ≤ k ∨ ∃ T cs, T ≠ 138 ∧ T ≠ 178 ∧ Blk w k T cs) : VR B N Z w' rb R := by
  obtain ⟨M, h1, h2, h3⟩ := h
  refine ⟨M, h1, h2.frP hf (fun k hk hx => ?_), fun k hk => ⟨Nat.lt_of_lt_of_le (h3 k hk).1 hf.size, (h3 k hk).2⟩⟩
  rcases hX k hx with h4 | h4 | ⟨T, cs, h5, h6, h7⟩
  · exact (h3 k h4).2 hk
  · have := h2.rr.rv.lt hk; omega
  · exact h2.rr.rv.notX h7 h5 h6 hk
theorem VR.lessZ (h : VR B N Z w rb R) (hz : ∀ k, Z' k → Z k) : VR B N Z' w rb R := by
  obtain ⟨M, h1, h2, h3⟩ := h
  exact ⟨M, h1, h2, fun k hk => h3 k (hz k hk)⟩
/-- a block that is new is none of its -/
theorem VR.moreZ (h : VR B N Z w rb R) (hb : Below w.heap.size w w') (hz : ∀ k, Z' k → Z k ∨ (w.heap.size ≤ k ∧ k < w'.heap.size)) : VR B N Z' w' rb R := by
  obtain ⟨M, h1, h2, h3⟩ := h
  refine ⟨M, h1, h2.bel hb, fun k hk => ?_⟩
  rcases hz k hk with h4 | h4
  · exact ⟨Nat.lt_of_lt_of_le (h3 k h4).1 hb.size, (h3 k h4).2⟩
  · exact ⟨h4.2, fun hx => by have := h2.rr.rv.lt hx; omega⟩
def WEnd (B N : Nat) (Z : Nat → Prop) (w : World) (rb : Nat) (S : RS × Int) (e : Ending) (w' : World) : Prop :=
  ∃ ad cp, e = .returned (.tuple #[.slice ad S.1.2.length cp, .int .i64 S.2]) ∧ VR B N Z w' rb S.1.1 ∧ MvQ B Z w w' ∧ Rw w.heap.size w' 71 2 ad S.1.2.length cp (thL S.1.2)
theorem WEnd.of {S : RS × Int} {e : Ending} (h3 : ∀ k, Z k → k < w.heap.size ∧ ¬ M.X k) (g : VEnd B N w M S e w') (hrb : M.rb = rb) : WEnd B N Z w rb S e w' := by
  obtain ⟨ad, cp, M', he, hr, hv, hm, hx, hw⟩ := g
  refine ⟨ad, cp, he, ⟨M', hr.trans hrb, hv, fun k hk => ⟨Nat.lt_of_lt_of_le (h3 k hk).1 hm.below.size, fun hx' => ?_⟩⟩, ⟨hm.below, fun a b c => hm.keep a b c, fun a => hm.sd a, fun k hk => hm.fr.block k (h3 k hk).1 (h3 k hk).2⟩, hw⟩
  rcases hx k hx' with h4 | h4
  · exact (h3 k hk).2 h4
  · have := (h3 k hk).1; omega
theorem W_Got (hN : N ≤ 40000) (h : VR B N Z w rb R) (hB : B ≤ w.heap.size) (iv : Int) (t g : ByteArray) (tl : Int) (K : List UInt8) (hK : K.length = 32) (lt : Int) (htl : tl ≤ 9223372036854775807) :
    Calls Tryz.prog 31 #[.pointer (some ⟨rb, 0, none⟩), .agg (pkL iv t g tl K).toArray, .int .i64 lt] w (WEnd B (N + 1) Z w rb (gotP R iv t g tl K lt)) := by
  obtain ⟨M, rfl, h2, h3⟩ := h
  exact (L_Got hN h2 hB iv t g tl K hK lt htl).mono fun e w' hh => WEnd.of h3 hh rfl
theorem W_Learn (hN : N ≤ 50000) (h : VR B N Z w rb R) (hB : B ≤ w.heap.size) (k : List UInt8) (hk : k.length = 32) (i : Int) (hi : i ≤ 9223372036854775807) :
    Calls Tryz.prog 32 #[.pointer (some ⟨rb, 0, none⟩), .agg (cellsU8 k).toArray, .int .i64 i] w (WEnd B N Z w rb (lrnP R k i)) := by
  obtain ⟨M, rfl, h2, h3⟩ := h
  exact (L_Learn hN h2 hB k hk i hi).mono fun e w' hh => WEnd.of h3 hh rfl
theorem W_New (K : List UInt8) (s l d c most : Int) (each slots : Nat) (hK : K.length = 32) (hm : mayP s l d c = true) (h1 : 1 ≤ most ∧ most ≤ 64) (h3 : 1 ≤ each ∧ each ≤ 64) (h4 : 1 ≤ slots ∧ slots ≤ 64) (w : World) (hB : B ≤ w.heap.size) (hZ : ∀ k, Z k → k < w.heap.size) :
    Calls Tryz.prog 29 #[.agg (cellsU8 K).toArray, .agg (planL s l d c).toArray, .int .i64 most, .int .i64 (each : Int), .int .i64 (slots : Int)] w fun e w' => ∃ rb, e = .returned (.tuple #[.pointer (some ⟨rb, 0, none⟩), .int .i64 0]) ∧ VR B 0 Z w' rb (newRc K s l d c most each slots) ∧ Below w.heap.size w w' := by
  refine (L_RNew K s l d c most each slots hK hm h1 h3 h4 w hB).mono ?_
  rintro e w' ⟨M, rfl, h5, h6, h7⟩
  exact ⟨M.rb, rfl, ⟨M, rfl, h5, fun k hk => ⟨Nat.lt_of_lt_of_le (hZ k hk) h6.size, fun hx => by have := h7 k hx; have := hZ k hk; omega⟩⟩, h6⟩
theorem W_At (h : VR B N Z w rb R) : Calls Tryz.prog 33 #[.pointer (some ⟨rb, 0, none⟩)] w fun e w' => e = .returned (.int .i64 R.a) ∧ w = w' := by
  obtain ⟨M, rfl, h2, h3⟩ := h
  exact (R_At w M R h2.rr.rv).mono fun e w' hh => ⟨hh.1, hh.2.symm⟩
theorem W_Waits (h : VR B N Z w rb R) : Calls Tryz.prog 34 #[.pointer (some ⟨rb, 0, none⟩)] w fun e w' => e = .returned (.int .i64 R.B.sz) ∧ w = w' := by
  obtain ⟨M, rfl, h2, h3⟩ := h
  exact (R_Waits w M R h2.rr.rv).mono fun e w' hh => ⟨hh.1, hh.2.symm⟩
theorem W_Believed (h : VR B N Z w rb R) (i : Int) (hi : (kI i).wf = true) : Calls Tryz.prog 35 #[.pointer (some ⟨rb, 0, none⟩), .int .i64 i] w fun e w' => e = .returned (.int .i64 ((R.bl i).length : Int)) ∧ w = w' := by
  obtain ⟨M, rfl, h2, h3⟩ := h
  exact (R_Believed i hi w M R h2.rr.rv).mono fun e w' hh => ⟨hh.1, hh.2.symm⟩
end
end Go.Proofs.YtmblknknbbdmeaaGreat
/- receiver: keys of a chain, plainly. -/
namespace Go.Proofs.YtmblknknbbdmeaaGreat
open Go Go.RowKit Go.Maps
set_option linter.unusedVariables false
set_option linter.unusedSimpArgs false

/-- it knows a key of the chain -/
structure Own (S : List UInt8) (n : Nat) (R : Rc) : Prop where
  key : ∃ a : Nat, R.a = a ∧ a ≤ n ∧ R.K = chK S (n - a)
  c : R.c = n
  n : n ≤ 1024
/-- what waits of a text that was sent -/
def wtP (S : List UInt8) (n i : Nat) (u : List UInt8) : List UInt8 := tagD (chK S (n - i)) (i : Int) (str u) ++ u
theorem wtP_length (S : List UInt8) (n i : Nat) (u : List UInt8) : (wtP S n i u).length = 16 + u.length := by unfold wtP; rw [List.length_append, tagD_length]
theorem wtP_take (S : List UInt8) (n i : Nat) (u : List UInt8) : (wtP S n i u).take 16 = tagD (chK S (n - i)) (i : Int) (str u) := by unfold wtP; rw [List.take_append_of_le_length (by rw [tagD_length]; omega), List.take_of_length_le (by rw [tagD_length]; omega)]
theorem wtP_drop (S : List UInt8) (n i : Nat) (u : List UInt8) : (wtP S n i u).drop 16 = u := by unfold wtP; rw [List.drop_append_of_le_length (by rw [tagD_length]; omega), List.drop_of_length_le (by rw [tagD_length]; omega), List.nil_append]
theorem wtP_inj {S : List UInt8} {n i : Nat} {u v : List UInt8} (h : wtP S n i u = wtP S n i v) : u = v := by rw [← wtP_drop S n i u, h, wtP_drop]
theorem bs_wt (S : List UInt8) (n i : Nat) (t : ByteArray) : bs (str (tagD (chK S (n - i)) (i : Int) t) ++ t) = wtP S n i (bs t) := by rw [bs_append, bs_str]; rfl
theorem thg_own (S : List UInt8) (n i : Nat) (St : RS) (u : List UInt8) : thg (chK S (n - i)) (i : Int) St (wtP S n i u) = if u ∈ St.1.bl (i : Int) then St else ({ St.1 with bl := addL St.1.bl (i : Int) u }, St.2 ++ [((i : Int), u)]) := by
  unfold thg
  rw [wtP_take, wtP_drop, if_pos rfl]
/-- it goes on to a later key -/
def adv (S : List UInt8) (n : Nat) (R : Rc) (T : Nat) : RS := if (T : Int) ≤ R.a then (R, []) else blv { R with K := chK S (n - T), a := T }
section
variable {S : List UInt8} {n : Nat} {R : Rc}
theorem Own.keyAt (h : Own S n R) (i : Nat) (hi : (i : Int) ≤ R.a) : keyAt R (i : Int) = chK S (n - i) := by
  obtain ⟨a, ha, han, hK⟩ := h.key
  have hn := h.n
  unfold Proofs.YtmblknknbbdmeaaGreat.keyAt
  rw [hK, ha, chK_walk]
  congr 1
  rw [ha] at hi
  omega
theorem Own.learn (h : Own S n R) (T : Nat) (h1 : 1 ≤ T) (h2 : T ≤ n) (hm : (T : Int) - R.a ≤ R.most) : lrnP R (chK S (n - T)) (T : Int) = (adv S n R T, 0) := by
  obtain ⟨a, ha, han, hK⟩ := h.key
  have hn := h.n
  unfold lrnP adv
  rw [if_neg (by rw [h.c]; omega)]
  by_cases hT : (T : Int) ≤ R.a
  · rw [if_pos hT, if_pos hT, h.keyAt T hT, if_pos rfl]
  · rw [if_neg hT, if_neg hT]
    have e : lrnE R (chK S (n - T)) (T : Int) = 0 := by
      unfold lrnE
      rw [if_neg (by rw [ha] at hm ⊢; omega), ha, hK, chK_walk, if_pos]
      congr 1
      rw [ha] at hT
      omega
    rw [e, if_pos rfl]
theorem Own.adv (h : Own S n R) (T : Nat) (h2 : T ≤ n) : Own S n (adv S n R T).1 := by
  unfold Proofs.YtmblknknbbdmeaaGreat.adv
  split
  · exact h
  · obtain ⟨a, b, c, d, e, f, g⟩ := blv_same { R with K := chK S (n - T), a := (T : Int) }
    exact ⟨⟨T, f, h2, e⟩, d.trans h.c, h.n⟩
theorem adv_same (S : List UInt8) (n : Nat) (R : Rc) (T : Nat) : (adv S n R T).1.s = R.s ∧ (adv S n R T).1.l = R.l ∧ (adv S n R T).1.d = R.d ∧ (adv S n R T).1.c = R.c ∧ (adv S n R T).1.most = R.most := by
  unfold adv
  split
  · exact ⟨rfl, rfl, rfl, rfl, rfl⟩
  · obtain ⟨a, b, c, d, e, f, g⟩ := blv_same { R with K := chK S (n - T), a := (T : Int) }
    exact ⟨a, b, c, d, g⟩
theorem adv_a (S : List UInt8) (n : Nat) (R : Rc) (T : Nat) : (adv S n R T).1.a = if (T : Int) ≤ R.a then R.a else (T : Int) := by
  unfold adv
  split
  · rfl
  · exact (blv_same { R with K := chK S (n - T), a := (T : Int) }).2.2.2.2.2.1
theorem fits_own (h : Own S n R) (hd : 1 ≤ R.d) (i : Nat) (h1 : 1 ≤ i) (h2 : i ≤ n) (t g : ByteArray) (hg : g.size = 16) (ht : t.size ≤ 1000) (K : List UInt8) (hK : ((i : Int) - R.d).toNat = 0 → K = zeroK) : fitsP R (i : Int) t g ((((i : Int) - R.d).toNat : Nat) : Int) K = true := by
  unfold fitsP
  refine decide_eq_true ⟨by omega, by rw [h.c]; omega, hg, ht, ?_, ?_⟩
  · unfold tellsP
    rw [if_pos (by rw [h.c]; omega)]
    omega
  · by_cases e : ((i : Int) - R.d).toNat = 0
    · exact Or.inr (hK e)
    · left; omega
/-- a packet of the sender's own comes -/
theorem Own.got (h : Own S n R) (hd : 1 ≤ R.d) (i : Nat) (h1 : 1 ≤ i) (h2 : i ≤ n) (t : ByteArray) (ht : t.size ≤ 1000) (hm : ((((i : Int) - R.d).toNat : Nat) : Int) ≤ R.most + R.a) (lt : Int) (T : Nat) (hT : T = ((i : Int) - R.d).toNat) (K : List UInt8) (hK : K = if T = 0 then zeroK else chK S (n - T)) :
    gotP R (i : Int) t (str (tagD (chK S (n - i)) (i : Int) t)) (T : Int) K lt = gotT (Proofs.YtmblknknbbdmeaaGreat.adv S n R T) (i : Int) t (str (tagD (chK S (n - i)) (i : Int) t)) lt := by
  subst hT
  unfold gotP
  rw [fits_own h hd i h1 h2 t _ (by rw [str_size, tagD_length]) ht K (fun e => by rw [hK, if_pos e]), if_neg (by decide)]
  by_cases e : ((i : Int) - R.d).toNat = 0
  · rw [if_neg (by omega)]
    unfold Proofs.YtmblknknbbdmeaaGreat.adv
    rw [if_pos]
    obtain ⟨a, ha, _⟩ := h.key
    omega
  · rw [if_pos (by omega), hK, if_neg e, h.learn _ (by omega) (by omega) (by omega), if_pos rfl]
theorem blvI_one {R : Rc} {i : Int} {k x u : List UInt8} (hk : Proofs.YtmblknknbbdmeaaGreat.keyAt R i = k) (hth : ∀ St : RS, thg k i St x = if u ∈ St.1.bl i then St else ({ St.1 with bl := addL St.1.bl i u }, St.2 ++ [(i, u)])) (hs : R.B.sl = [(i, [x])]) (hu : u ∉ R.bl i) : blvI (R, []) i = ({ R with B := { R.B with sl := [], sz := R.B.sz - 1 }, bl := addL R.bl i u }, [(i, u)]) := by
  have e3 : (fnd R.B.sl i).getD [] = [x] := by rw [hs, fnd_cons_same, Option.getD_some]
  have e4 : takB R.B i = { R.B with sl := [], sz := R.B.sz - 1 } := by
    unfold takB
    rw [e3, hs]
    have : del [(i, [x])] i = [] := by unfold del; simp
    rw [this]
    rfl
  unfold blvI
  dsimp only
  rw [hk, e3, e4, List.foldl_cons, List.foldl_nil, hth, if_neg hu, List.nil_append]
theorem blv_one {i : Nat} {u : List UInt8} (h : Own S n R) (hs : R.B.sl = [((i : Int), [wtP S n i u])]) (hi : (i : Int) ≤ R.a) (hu : u ∉ R.bl (i : Int)) : blv R = ({ R with B := { R.B with sl := [], sz := R.B.sz - 1 }, bl := addL R.bl (i : Int) u }, [((i : Int), u)]) := by
  have hk := h.keyAt i hi
  have hth := fun St => thg_own S n i St u
  generalize wtP S n i u = x at *
  generalize chK S (n - i) = k at *
  have e1 : ivs R.B = [(i : Int)] := by unfold ivs; rw [hs]; simp
  have e2 : List.takeWhile (fun j => decide (j ≤ R.a)) [(i : Int)] = [(i : Int)] := by simp [hi]
  unfold blv blvL
  rw [e1, e2, List.foldl_cons, List.foldl_nil]
  exact blvI_one hk hth hs hu
theorem blv_none (h : ∀ i ∈ ivs R.B, R.a < i) : blv R = (R, []) := by
  unfold blv
  have : (ivs R.B).takeWhile (fun i => decide (i ≤ R.a)) = [] := by
    cases hl : ivs R.B with
    | nil => rfl
    | cons a l =>
      have := h a (by rw [hl]; exact List.mem_cons_self)
      rw [List.takeWhile_cons, if_neg (by simp; exact this)]
  rw [this]
  rfl
end
end Go.Proofs.YtmblknknbbdmeaaGreat
/- receiver: what the document fixes, plainly. -/
namespace Go.Proofs.YtmblknknbbdmeaaGreat
open Go Go.RowKit Go.Maps
set_option linter.unusedVariables false
set_option linter.unusedSimpArgs false

theorem gotT_late {S : RS} {iv : Int} {t g : ByteArray} {lt : Int} (h : ¬ lt < S.1.s + (iv + S.1.d - 1) * S.1.l) : gotT S iv t g lt = (S, 14) := by unfold gotT; rw [if_pos h]
theorem gotT_in {S : RS} {iv : Int} {t g : ByteArray} {lt : Int} (h : lt < S.1.s + (iv + S.1.d - 1) * S.1.l) : gotT S iv t g lt = if bs t ∈ S.1.bl iv then (S, 11) else (({ S.1 with B := (putP S.1.B iv (bs (g ++ t))).2 }, S.2), (putP S.1.B iv (bs (g ++ t))).1) := by unfold gotT; rw [if_neg (fun g => g h)]
theorem adv_zero {S : List UInt8} {n : Nat} {R : Rc} (h : 0 ≤ R.a) : adv S n R 0 = (R, []) := by unfold adv; rw [if_pos (by omega)]
def oneT : ByteArray := ⟨#[111, 110, 101]⟩
def threeT : ByteArray := ⟨#[116, 104, 114, 101, 101]⟩
def aR0 (S : List UInt8) : Rc := newRc (chK S 5) 0 10 2 5 9 2 3
def aR1 (S : List UInt8) : Rc := { aR0 S with B := ⟨2, 3, [(1, [wtP S 5 1 (bs oneT)])], 1, 0⟩ }
def aR3 (S : List UInt8) : Rc := { aR0 S with K := chK S 4, a := 1, B := ⟨2, 3, [(3, [wtP S 5 3 (bs threeT)])], 1, 0⟩, bl := addL (fun _ => []) 1 (bs oneT) }
def aR6 (S : List UInt8) : Rc := { aR3 S with K := chK S 2, a := 3, B := ⟨2, 3, [], 0, 0⟩, bl := addL (addL (fun _ => []) 1 (bs oneT)) 3 (bs threeT) }
theorem own0 (S : List UInt8) : Own S 5 (aR0 S) := ⟨⟨0, rfl, by decide, rfl⟩, rfl, by decide⟩
theorem own1 (S : List UInt8) : Own S 5 (aR1 S) := ⟨⟨0, rfl, by decide, rfl⟩, rfl, by decide⟩
theorem own3 (S : List UInt8) : Own S 5 (aR3 S) := ⟨⟨1, rfl, by decide, rfl⟩, rfl, by decide⟩
theorem own6 (S : List UInt8) : Own S 5 (aR6 S) := ⟨⟨3, rfl, by decide, rfl⟩, rfl, by decide⟩
theorem aw1 (S : List UInt8) : gotP (aR0 S) 1 oneT (str (tagD (chK S 4) 1 oneT)) 0 zeroK 5 = ((aR1 S, []), 0) := by
  refine ((own0 S).got (of_decide_eq_true rfl) 1 (of_decide_eq_true rfl) (of_decide_eq_true rfl) oneT (of_decide_eq_true rfl) (of_decide_eq_true rfl) 5 0 (of_decide_eq_true rfl) zeroK rfl).trans ?_
  rw [adv_zero (of_decide_eq_true rfl), gotT_in (of_decide_eq_true rfl), if_neg (by simp [aR0, newRc]), bs_wt]
  have : putP (aR0 S).B (1 : Nat) (wtP S 5 1 (bs oneT)) = (0, ⟨2, 3, [(1, [wtP S 5 1 (bs oneT)])], 1, 0⟩) := by simp [putP, aR0, newRc, fnd]
  dsimp only
  rw [this]
  rfl
theorem aw2 (S : List UInt8) : gotP (aR1 S) 1 oneT (str (tagD (chK S 4) 1 oneT)) 0 zeroK 6 = ((aR1 S, []), 11) := by
  refine ((own1 S).got (of_decide_eq_true rfl) 1 (of_decide_eq_true rfl) (of_decide_eq_true rfl) oneT (of_decide_eq_true rfl) (of_decide_eq_true rfl) 6 0 (of_decide_eq_true rfl) zeroK rfl).trans ?_
  rw [adv_zero (of_decide_eq_true rfl), gotT_in (of_decide_eq_true rfl), if_neg (by simp [aR1, aR0, newRc]), bs_wt]
  have : putP (aR1 S).B (1 : Nat) (wtP S 5 1 (bs oneT)) = (11, ⟨2, 3, [(1, [wtP S 5 1 (bs oneT)])], 1, 0⟩) := by simp [putP, aR1, fnd]
  dsimp only
  rw [this]
  rfl
theorem aw3 (S : List UInt8) : gotP (aR1 S) 3 threeT (str (tagD (chK S 2) 3 threeT)) 1 (chK S 4) 25 = ((aR3 S, [(1, bs oneT)]), 0) := by
  refine ((own1 S).got (of_decide_eq_true rfl) 3 (of_decide_eq_true rfl) (of_decide_eq_true rfl) threeT (of_decide_eq_true rfl) (of_decide_eq_true rfl) 25 1 (of_decide_eq_true rfl) (chK S 4) rfl).trans ?_
  have e1 : adv S 5 (aR1 S) 1 = ({ aR0 S with K := chK S 4, a := 1, B := ⟨2, 3, [], 0, 0⟩, bl := addL (fun _ => []) 1 (bs oneT) }, [(1, bs oneT)]) := by
    unfold adv
    rw [if_neg (of_decide_eq_true rfl)]
    exact blv_one (S := S) (n := 5) (R := { aR1 S with K := chK S 4, a := 1 }) (i := 1) (u := bs oneT) ⟨⟨1, rfl, by decide, rfl⟩, rfl, by decide⟩ rfl (of_decide_eq_true rfl) (by simp [aR1, aR0, newRc])
  rw [e1, gotT_in (of_decide_eq_true rfl), if_neg (by simp [addL]), bs_wt]
  have : putP ⟨2, 3, [], 0, 0⟩ (3 : Nat) (wtP S 5 3 (bs threeT)) = (0, ⟨2, 3, [(3, [wtP S 5 3 (bs threeT)])], 1, 0⟩) := by simp [putP, fnd]
  dsimp only
  rw [this]
  rfl
theorem aw4 (S : List UInt8) : gotP (aR3 S) 1 oneT (str (tagD (chK S 4) 1 oneT)) 0 zeroK 26 = ((aR3 S, []), 14) := by
  refine ((own3 S).got (of_decide_eq_true rfl) 1 (of_decide_eq_true rfl) (of_decide_eq_true rfl) oneT (of_decide_eq_true rfl) (of_decide_eq_true rfl) 26 0 (of_decide_eq_true rfl) zeroK rfl).trans ?_
  rw [adv_zero (of_decide_eq_true rfl), gotT_late (of_decide_eq_true rfl)]
theorem aw5 (S : List UInt8) : gotP (aR3 S) 9 ByteArray.empty ByteArray.empty 0 zeroK 0 = ((aR3 S, []), 2) := by
  unfold gotP
  rw [if_pos]
  unfold fitsP
  exact decide_eq_false (fun h => absurd h.2.1 (by show ¬ (9 : Int) ≤ 5; decide))
theorem aw6 (S : List UInt8) : lrnP (aR3 S) (chK S 2) 3 = ((aR6 S, [(3, bs threeT)]), 0) := by
  refine ((own3 S).learn 3 (of_decide_eq_true rfl) (of_decide_eq_true rfl) (of_decide_eq_true rfl)).trans ?_
  have e1 : adv S 5 (aR3 S) 3 = (aR6 S, [(3, bs threeT)]) := by
    unfold adv
    rw [if_neg (of_decide_eq_true rfl)]
    exact blv_one (S := S) (n := 5) (R := { aR3 S with K := chK S 2, a := 3 }) (i := 3) (u := bs threeT) ⟨⟨3, rfl, by decide, rfl⟩, rfl, by decide⟩ rfl (of_decide_eq_true rfl) (by simp [aR3, addL])
  rw [e1]
theorem aw7 (S : List UInt8) (h : chK S 2 ≠ chK S 4) : lrnP (aR6 S) (chK S 4) 3 = ((aR6 S, []), 13) := by
  unfold lrnP
  rw [if_neg (by show ¬ ((3 : Int) < 1 ∨ (5 : Int) < 3); decide), if_pos (by show (3 : Int) ≤ 3; decide)]
  have : keyAt (aR6 S) 3 = chK S 2 := (own6 S).keyAt 3 (by show ((3 : Nat) : Int) ≤ 3; decide)
  rw [this, if_neg h]
theorem two_far : chK oneK 2 ≠ chK oneK 4 := by decide +kernel
end Go.Proofs.YtmblknknbbdmeaaGreat
