/- a drawing region, its loads first (under S); then two makers beside a third (a diamond); then a tail. -/
import Derived.Test.YtoifkfhbinfplaaRegC
import Derived.OrdersHeld
namespace Go.Proofs.Ytoifkfhbinfplaa
open Go Go.RowKit
set_option linter.unusedVariables false
set_option linter.unusedSimpArgs false
section
variable {P : Program} {ops : Array Oper} {md : Region.Mode} {Q : Exit → Act → World → Prop} {S : World → Prop}

theorem wpOp_val {i : Nat} {a : Act} {w W' : World} {v : Value} {K : Act → World → Prop} (hi : i < ops.size) (hg : (ops.getD i default).guard = none) (hr : (execOp a.eval (ops.getD i default)).run P w = .ok (.value v) W') (h : K (a.put (ops.getD i default).dst v) W') : wpOp P ops Q i K a w := by
  unfold wpOp
  simp only [getD_some hi]
  rw [if_pos (by unfold Region.wanted; rw [hg])]
  refine .inl ?_
  unfold Oper.wp
  rw [hr]
  exact h
theorem put_comm (a : Act) {d e : Nat} (u v : Value) (h : d ≠ e) : (a.put (some d) u).put (some e) v = (a.put (some e) v).put (some d) u := by
  simp only [Act.put]
  rw [Array.setIfInBounds_comm _ _ h]
theorem exec_put {o : Oper} (hs : ∀ cs b, o.op ≠ .select cs b) (a : Act) (d : Nat) (u : Value) (h : (o.looksAt ops).contains d = false) : execOp (a.put (some d) u).eval o = execOp a.eval o :=
  (looks_same hs fun s hs' => by
    have hne : s ≠ d := by
      intro e
      subst e
      rw [List.contains_eq_mem, decide_eq_false_iff_not] at h
      exact h hs'
    simp [Act.put, Array.getElem?_setIfInBounds, Ne.symm hne]).1
theorem takeFirst {i : Nat} {v : Value} {fuel : Nat} {listed : Array Bool} {a : Act} {w : World} (d : Nat) (z : i < ops.size) (hd : (ops.getD i default).dst = some d)
    (hs : Region.noSelect ops = true) (hf : Region.free md ops listed i = true) (hr : (Region.ready md ops listed).contains i = true)
    (hQ : ∀ c (a : Act) w, Q (.panic c) (a.put (some d) v) w → Q (.panic c) a w) (hy : YieldsIf P ops S (ops.getD i default) v a) (hS : S w)
    (h : wpAnyH P md ops Q S fuel (listed.setIfInBounds i true) (a.put (some d) v) w) : wpAnyH P md ops Q S (fuel + 1) listed a w :=
  wpAnyH_take (getD_some z) hs hf hr (fun c a w => by rw [hd]; exact hQ c a w) hy hS (by rw [hd]; exact h)
/-- the closed fact of the diamond: i1 ahead of i3; i5 beside them -/
def diaB (md : Region.Mode) (ops : Array Oper) (listed : Array Bool) (i1 i3 i5 d1 d3 d5 : Nat) : Bool :=
  decide (Region.ready md ops listed = [i1, i5]) && decide (Region.ready md ops (listed.setIfInBounds i1 true) = [i3, i5]) && decide (Region.ready md ops ((listed.setIfInBounds i1 true).setIfInBounds i3 true) = [i5]) &&
  decide (Region.ready md ops ((listed.setIfInBounds i1 true).setIfInBounds i5 true) = [i3]) && decide (Region.ready md ops (listed.setIfInBounds i5 true) = [i1]) &&
  decide (i1 < ops.size) && decide (i3 < ops.size) && decide (i5 < ops.size) && ((ops.getD i1 default).guard == none) && ((ops.getD i3 default).guard == none) && ((ops.getD i5 default).guard == none) &&
  ((ops.getD i1 default).dst == some d1) && ((ops.getD i3 default).dst == some d3) && ((ops.getD i5 default).dst == some d5) &&
  decide (i1 ≠ i3) && decide (i1 ≠ i5) && decide (i3 ≠ i5) && decide (d1 ≠ d3) && decide (d1 ≠ d5) && decide (d3 ≠ d5) &&
  (((ops.getD i1 default).looksAt ops).contains d5 == false) && (((ops.getD i3 default).looksAt ops).contains d5 == false) && (((ops.getD i5 default).looksAt ops).contains d1 == false) && (((ops.getD i5 default).looksAt ops).contains d3 == false)
theorem diamond {fuel : Nat} {listed : Array Bool} {a : Act} {w : World} (i1 i3 i5 d1 d3 d5 : Nat) (hsel : Region.noSelect ops = true) (hB : diaB md ops listed i1 i3 i5 d1 d3 d5 = true) (V1 V3 V5 : Value → World → Prop)
    (h1 : ∀ W, S W → ∃ v W', (execOp a.eval (ops.getD i1 default)).run P W = .ok (.value v) W' ∧ S W' ∧ V1 v W' ∧ ∀ u, V5 u W → V5 u W')
    (h3 : ∀ u W, S W → V1 u W → ∃ v W', (execOp (a.put (some d1) u).eval (ops.getD i3 default)).run P W = .ok (.value v) W' ∧ S W' ∧ V3 v W' ∧ ∀ u, V5 u W → V5 u W')
    (h5 : ∀ W, S W → ∃ v W', (execOp a.eval (ops.getD i5 default)).run P W = .ok (.value v) W' ∧ S W' ∧ V5 v W' ∧ (∀ u, V1 u W → V1 u W') ∧ ∀ u, V3 u W → V3 u W')
    (hS : S w)
    (REST : ∀ u1 u3 u5 W, S W → V3 u3 W → V5 u5 W → wpAnyH P md ops Q S fuel (((listed.setIfInBounds i1 true).setIfInBounds i3 true).setIfInBounds i5 true) (((a.put (some d1) u1).put (some d3) u3).put (some d5) u5) W) :
    wpAnyH P md ops Q S (fuel + 3) listed a w := by
  simp only [diaB, Bool.and_eq_true, decide_eq_true_eq, beq_iff_eq] at hB
  obtain ⟨⟨⟨⟨⟨⟨⟨⟨⟨⟨⟨⟨⟨⟨⟨⟨⟨⟨⟨⟨⟨⟨⟨r0, r1⟩, r13⟩, r15⟩, r5⟩, z1⟩, z3⟩, z5⟩, g1⟩, g3⟩, g5⟩, e1⟩, e3⟩, e5⟩, n13⟩, n15⟩, n35⟩, m13⟩, m15⟩, m35⟩, l15⟩, l35⟩, l51⟩, l53⟩ := hB
  have s1 : ∀ cs b, (ops.getD i1 default).op ≠ .select cs b := fun cs b => Region.noSelect_spec hsel i1 _ cs b (getD_some z1)
  have s3 : ∀ cs b, (ops.getD i3 default).op ≠ .select cs b := fun cs b => Region.noSelect_spec hsel i3 _ cs b (getD_some z3)
  have s5 : ∀ cs b, (ops.getD i5 default).op ≠ .select cs b := fun cs b => Region.noSelect_spec hsel i5 _ cs b (getD_some z5)
  refine wpAnyH_all r0 (by simp) fun i hi => ?_
  simp only [List.mem_cons, List.not_mem_nil, or_false] at hi
  rcases hi with rfl | rfl
  · obtain ⟨v1, W1, q1, S1, p1, _⟩ := h1 w hS
    refine wpOp_val z1 g1 q1 ⟨S1, ?_⟩
    rw [e1]
    refine wpAnyH_all r1 (by simp) fun j hj => ?_
    simp only [List.mem_cons, List.not_mem_nil, or_false] at hj
    rcases hj with rfl | rfl
    · obtain ⟨v3, W3, q3, S3, p3, _⟩ := h3 v1 W1 S1 p1
      refine wpOp_val z3 g3 q3 ⟨S3, ?_⟩
      rw [e3]
      refine wpAnyH_all r13 (by simp) fun k hk => ?_
      simp only [List.mem_cons, List.not_mem_nil, or_false] at hk
      subst hk
      obtain ⟨v5, W5, q5, S5, p5, _, k3⟩ := h5 W3 S3
      refine wpOp_val z5 g5 (by rw [exec_put s5 _ _ _ l53, exec_put s5 _ _ _ l51]; exact q5) ⟨S5, ?_⟩
      rw [e5]
      exact REST v1 v3 v5 W5 S5 (k3 _ p3) p5
    · obtain ⟨v5, W5, q5, S5, p5, k1, _⟩ := h5 W1 S1
      refine wpOp_val z5 g5 (by rw [exec_put s5 _ _ _ l51]; exact q5) ⟨S5, ?_⟩
      rw [e5]
      refine wpAnyH_all r15 (by simp) fun k hk => ?_
      simp only [List.mem_cons, List.not_mem_nil, or_false] at hk
      subst hk
      obtain ⟨v3, W3, q3, S3, p3, k5⟩ := h3 v1 W5 S5 (k1 _ p1)
      refine wpOp_val z3 g3 (by rw [exec_put s3 _ _ _ l35]; exact q3) ⟨S3, ?_⟩
      rw [e3, put_comm _ _ _ m35.symm, Array.setIfInBounds_comm _ _ n35.symm]
      exact REST v1 v3 v5 W3 S3 p3 (k5 _ p5)
  · obtain ⟨v5, W5, q5, S5, p5, _, _⟩ := h5 w hS
    refine wpOp_val z5 g5 q5 ⟨S5, ?_⟩
    rw [e5]
    refine wpAnyH_all r5 (by simp) fun j hj => ?_
    simp only [List.mem_cons, List.not_mem_nil, or_false] at hj
    subst hj
    obtain ⟨v1, W1, q1, S1, p1, k5⟩ := h1 W5 S5
    refine wpOp_val z1 g1 (by rw [exec_put s1 _ _ _ l15]; exact q1) ⟨S1, ?_⟩
    rw [e1, put_comm _ _ _ m15.symm, Array.setIfInBounds_comm _ _ n15.symm]
    refine wpAnyH_all r15 (by simp) fun k hk => ?_
    simp only [List.mem_cons, List.not_mem_nil, or_false] at hk
    subst hk
    obtain ⟨v3, W3, q3, S3, p3, k5'⟩ := h3 v1 W1 S1 p1
    refine wpOp_val z3 g3 (by rw [exec_put s3 _ _ _ l35]; exact q3) ⟨S3, ?_⟩
    rw [e3, put_comm _ _ _ m35.symm, Array.setIfInBounds_comm _ _ n35.symm]
    exact REST v1 v3 v5 W3 S3 p3 (k5' _ (k5 _ p5))

/-- a tail, S kept -/
def wpListS (P : Program) (ops : Array Oper) (Q : Exit → Act → World → Prop) (S : World → Prop) : List Nat → Act → World → Prop
  | [], a, w => Q .normal a w
  | i :: t, a, w => wpOp P ops Q i (fun a' w' => S w' ∧ wpListS P ops Q S t a' w') a w
theorem stepS {i : Nat} {t : List Nat} {a : Act} {w W' : World} {v : Value} (d : Nat) (hd : (ops.getD i default).dst = some d) (hi : i < ops.size) (hg : (ops.getD i default).guard = none) (hr : (execOp a.eval (ops.getD i default)).run P w = .ok (.value v) W') (hS : S W') (h : wpListS P ops Q S t (a.put (some d) v) W') : wpListS P ops Q S (i :: t) a w :=
  wpOp_val hi hg hr ⟨hS, by rw [hd]; exact h⟩
theorem stepS_call {i : Nat} {t : List Nat} {a : Act} {w : World} {f : FuncId} {args : Array Value} {v : Value} {C : World → Prop} (d : Nat) (hd : (ops.getD i default).dst = some d) (hi : i < ops.size) (hg : (ops.getD i default).guard = none) (hr : (execOp a.eval (ops.getD i default)).run P w = .ok (.enter f args) w)
    (hc : Calls P f args w fun e w' => e = .returned v ∧ C w') (hS : ∀ W', C W' → S W') (h : ∀ W', C W' → wpListS P ops Q S t (a.put (some d) v) W') : wpListS P ops Q S (i :: t) a w := by
  unfold wpListS wpOp
  simp only [getD_some hi]
  rw [if_pos (by unfold Region.wanted; rw [hg])]
  refine .inl ?_
  unfold Oper.wp
  rw [hr]
  refine hc.mono fun e w' he => ?_
  obtain ⟨rfl, hC⟩ := he
  rw [hd]
  exact ⟨hS w' hC, h w' hC⟩
theorem early_stepS {k : Nat} {o : Oper} {a : Act} {w : World} {tl : List Nat} (he : tailB o = true) (hi : ops[k]? = some o) (h : wpOp P ops Q k (fun a' w' => S w' ∧ wpListS P ops Q S tl a' w') a w) : ∃ v, Yields P ops o v a ∧ wpListS P ops Q S tl (a.put o.dst v) w := by
  unfold tailB at he
  cases ho : o.op <;> rw [ho] at he <;> first
    | (simp at he; done)
    | skip
  rename_i t ix
  have hg : o.guard = none := by simpa using he
  have hw : Region.wanted o (yielded ops a.tmps) = true := by simp [Region.wanted, hg]
  unfold wpOp at h
  simp only [hi] at h
  rw [if_pos hw] at h
  rcases h with h | ⟨h, _⟩
  · unfold Oper.wp execOp at h
    simp only [ho, Sem.run_pure, Sem.run_bind, Instr.extract] at h
    cases ht : a.eval t <;> rw [ht] at h <;> simp only [] at h <;> first
      | (simp [Result.andThen, Oper.upon] at h; done)
      | skip
    rename_i vs
    cases hx : vs[ix]? with
    | none => simp [hx, Result.andThen, Oper.upon] at h
    | some v =>
      refine ⟨v, Or.inl ⟨hw, fun w' => ?_⟩, ?_⟩
      · unfold execOp
        simp [ho, ht, Instr.extract, hx]
      · have h' : S w ∧ wpListS P ops Q S tl (a.put o.dst v) w := by simpa [hx, Result.andThen, Oper.upon] using h
        exact h'.2
  · exfalso
    unfold Oper.asks execOp at h
    simp only [ho] at h
    have h1 := h.1
    unfold Instr.extract at h1
    have hn : ∀ e : Event, e ∉ (#[] : Array Event) := by simp
    cases ht : a.eval t <;> rw [ht] at h1
    case tuple vs =>
      simp only at h1
      cases hx : vs[ix]? <;> rw [hx] at h1 <;> exact hn _ h1
    all_goals exact hn _ h1
theorem wpAnyH_of_seqE (hsel : Region.noSelect ops = true) (hQ : ∀ c (a : Act) d v w, Q (.panic c) (a.put d v) w → Q (.panic c) a w) : ∀ (t : List Nat) (listed : Array Bool) (a : Act) (w : World), S w → (∀ i ∈ t, i < ops.size) →
    Region.seqE md ops t listed = true → wpListS P ops Q S t a w → wpAnyH P md ops Q S t.length listed a w
  | [], _, _, _, _, _, hB, h => ⟨by simpa [Region.seqE] using hB, h⟩
  | k :: t, listed, a, w, hS, hl, hB, h => by
    have h0 := getD_some (hl k (by simp))
    simp only [Region.seqE, Bool.and_eq_true, Bool.or_eq_true, decide_eq_true_eq] at hB
    rcases hB.1 with hr | ⟨⟨hr, ht⟩, hf⟩
    · refine ⟨fun h1 => (by rw [hr] at h1; cases h1), fun i hi => ?_⟩
      rw [hr] at hi
      have hik : i = k := by simpa using hi
      subst hik
      exact wpOp_mono (fun a' w' h' => ⟨h'.1, wpAnyH_of_seqE hsel hQ t _ a' w' h'.1 (fun j hj => hl j (by simp [hj])) hB.2 h'.2⟩) h
    · have h3 : wpOp P ops Q k (fun a' w' => S w' ∧ wpListS P ops Q S t a' w') a w := h
      obtain ⟨v, hy, h4⟩ := early_stepS ht h0 h3
      exact wpAnyH_take h0 hsel (free_any (by simpa using hr) hf) hr (fun c a w => hQ c a _ v w) hy.yieldsIf hS (wpAnyH_of_seqE hsel hQ t _ _ _ hS (fun j hj => hl j (by simp [hj])) hB.2 h4)
end
end Go.Proofs.Ytoifkfhbinfplaa
