/- a drawing region with makers, one of which may want another one's value. -/
import Derived.Test.YtoifkfhbinfplaaRegE
namespace Go.Proofs.Ytoifkfhbinfplaa
open Go Go.RowKit
set_option linter.unusedVariables false
set_option linter.unusedSimpArgs false
section
variable {P : Program} {ops : Array Oper} {md : Region.Mode}

/-- the closed fact: 'h' in the order of the text, 'k' makers; D: (i, j): maker i wants maker j's value -/
def Region.mkC (md : Region.Mode) (ops : Array Oper) (D : List (Nat × Nat)) (h k : List Nat) : Bool :=
  (((List.range h.length).all fun p => ((ops.getD (h.getD p 0) default).looksAt ops).all fun s =>
      ((List.range h.length).all fun q => (ops.getD (h.getD q 0) default).dst != some s || (if q < p then Region.waitsFor md ops (h.getD p 0) (h.getD q 0) else q == p || Region.waitsFor md ops (h.getD q 0) (h.getD p 0))) &&
      (k.all fun j => (ops.getD j default).dst != some s || Region.waitsFor md ops j (h.getD p 0))) &&
  (k.all fun i => ((ops.getD i default).looksAt ops).all fun s =>
      ((List.range h.length).all fun q => (ops.getD (h.getD q 0) default).dst != some s || Region.waitsFor md ops i (h.getD q 0)) && (k.all fun j => (ops.getD j default).dst != some s || D.contains (i, j)))) &&
  D.all fun x => Region.waitsFor md ops x.1 x.2
def MkAtC (P : Program) (ops : Array Oper) (D : List (Nat × Nat)) (k : List Nat) (i : Nat) (A : Act) (w : World) (V : Nat → Value → World → Prop) (N : Value → Value → Prop) : Prop :=
  ∀ (a' : Act) (W : World), Below w.heap.size w W →
    (∀ s ∈ (ops.getD i default).looksAt ops, (∀ j ∈ k, (i, j) ∈ D → (ops.getD j default).dst ≠ some s) → a'.tmps[s]? = A.tmps[s]?) →
    (∀ j ∈ k, (i, j) ∈ D → ∀ s, (ops.getD j default).dst = some s → ∃ u, a'.tmps[s]? = some u ∧ V j u W) →
    Region.wanted (ops.getD i default) (yielded ops a'.tmps) = true ∧ mkUpon P W (V i) (fun v => ∀ j u, V j u W → N v u ∧ N u v) ((execOp a'.eval (ops.getD i default)).run P W)
theorem MkAtC.plain {D : List (Nat × Nat)} {k : List Nat} {i : Nat} {A : Act} {w : World} {V : Nat → Value → World → Prop} {N : Value → Value → Prop} (hs : ∀ cs b, (ops.getD i default).op ≠ .select cs b) (hD : ∀ j, (i, j) ∉ D)
    (h : MkAt P ops (ops.getD i default) A w (V i) V N) : MkAtC P ops D k i A w V N := fun a' W hW hag _ => by
  obtain ⟨e1, e2⟩ := looks_same hs (fun s hs' => hag s hs' fun j _ hj => absurd hj (hD j))
  rw [e1, e2]
  exact ⟨h.1, h.2 W hW⟩
theorem MkAtC.one {D : List (Nat × Nat)} {k : List Nat} {i : Nat} {A : Act} {w : World} {V : Nat → Value → World → Prop} {N : Value → Value → Prop} (hs : ∀ cs b, (ops.getD i default).op ≠ .select cs b) (j d : Nat) (hj : j ∈ k) (hD : (i, j) ∈ D) (hd : (ops.getD j default).dst = some d) (hdl : d < A.tmps.size) (ho : ∀ j', (i, j') ∈ D → j' = j)
    (h : ∀ u W, Below w.heap.size w W → V j u W → Region.wanted (ops.getD i default) (yielded ops (A.put (some d) u).tmps) = true ∧ mkUpon P W (V i) (fun v => ∀ j u, V j u W → N v u ∧ N u v) ((execOp (A.put (some d) u).eval (ops.getD i default)).run P W)) : MkAtC P ops D k i A w V N := fun a' W hW hag hdp => by
  obtain ⟨u, hu, hV⟩ := hdp j hj hD d hd
  obtain ⟨e1, e2⟩ := looks_same (b := A.put (some d) u) hs (fun s hs' => by
    by_cases e : s = d
    · subst e
      rw [hu]
      simp [Act.put, hdl]
    · rw [hag s hs' fun j' _ hj' => by
        rw [ho j' hj', hd]
        intro h2
        injection h2 with h2
        exact e h2.symm]
      simp [Act.put, Array.getElem?_setIfInBounds, Ne.symm e])
  rw [e1, e2]
  exact h u W hW hV
/-- an extract, plain -/
def tailB (o : Oper) : Bool := match o.op with | .extract .. => o.guard == none | _ => false
theorem early_step {Q : Exit → Act → World → Prop} {o : Oper} {a : Act} {w : World} {rest : List Oper} (he : tailB o = true) (h : wpList P ops Q (o :: rest) a w) : ∃ v, Yields P ops o v a ∧ wpList P ops Q rest (a.put o.dst v) w := by
  unfold tailB at he
  cases ho : o.op <;> rw [ho] at he <;> first
    | (simp at he; done)
    | skip
  rename_i t ix
  have hg : o.guard = none := by simpa using he
  have hw : Region.wanted o (yielded ops a.tmps) = true := by simp [Region.wanted, hg]
  unfold wpList at h
  rw [if_pos hw] at h
  rcases h with h | ⟨h, _⟩
  · unfold Oper.wp execOp at h
    simp only [ho, Sem.run_pure, Sem.run_bind, Instr.extract] at h
    cases ht : a.eval t <;> rw [ht] at h <;> simp only [] at h <;> first
      | (simp [Result.andThen, Oper.upon] at h; done)
      | skip
    rename_i vs
    cases hx : vs[ix]? with
    | none => simp [hx, Result.andThen, Oper.upon] at h
    | some v =>
      refine ⟨v, Or.inl ⟨hw, fun w' => ?_⟩, ?_⟩
      · unfold execOp
        simp [ho, ht, Instr.extract, hx]
      · simpa [hx, Result.andThen, Oper.upon] using h
  · exfalso
    unfold Oper.asks execOp at h
    simp only [ho] at h
    have h1 := h.1
    unfold Instr.extract at h1
    have hn : ∀ e : Event, e ∉ (#[] : Array Event) := by simp
    cases ht : a.eval t <;> rw [ht] at h1
    case tuple vs =>
      simp only at h1
      cases hx : vs[ix]? <;> rw [hx] at h1 <;> exact hn _ h1
    all_goals exact hn _ h1
/-- The tail: one alone may come up each time, or an extract that may be taken first. -/
def Region.seqE (md : Region.Mode) (ops : Array Oper) : List Nat → Array Bool → Bool
  | [], listed => (Region.ready md ops listed).isEmpty
  | k :: t, listed => (decide (Region.ready md ops listed = [k]) || ((Region.ready md ops listed).contains k && tailB (ops.getD k default) && Region.freeE md ops k)) && Region.seqE md ops t (listed.setIfInBounds k true)
theorem wpAny_of_seqE {Q' : Exit → Act → World → Prop} (hsel : Region.noSelect ops = true) (hQ : ∀ c (a : Act) d v w, Q' (.panic c) (a.put d v) w → Q' (.panic c) a w) : ∀ (t : List Nat) (listed : Array Bool) (a : Act) (w : World), (∀ i ∈ t, i < ops.size) →
    Region.seqE md ops t listed = true → wpList P ops Q' (selOps ops t) a w → wpAny P md ops Q' t.length listed a w
  | [], _, _, _, _, hB, h => ⟨by simpa [Region.seqE] using hB, h⟩
  | k :: t, listed, a, w, hl, hB, h => by
    have h0 := getD_some (hl k (by simp))
    simp only [Region.seqE, Bool.and_eq_true, Bool.or_eq_true, decide_eq_true_eq] at hB
    rcases hB.1 with hr | ⟨⟨hr, ht⟩, hf⟩
    · refine ⟨fun h1 => (by rw [hr] at h1; cases h1), fun i hi => ?_⟩
      rw [hr] at hi
      have hik : i = k := by simpa using hi
      subst hik
      have hw : wpOp P ops Q' i (wpList P ops Q' (selOps ops t)) a w := by unfold wpOp; simp only [h0]; exact h
      exact wpOp_mono (fun a' w' h' => wpAny_of_seqE hsel hQ t _ a' w' (fun j hj => hl j (by simp [hj])) hB.2 h') hw
    · obtain ⟨v, hy, h2⟩ := early_step ht (show wpList P ops Q' (ops.getD k default :: selOps ops t) a w from h)
      exact wpAny_take h0 hsel (free_any (by simpa using hr) hf) hr (fun c a w => hQ c a _ v w) hy (wpAny_of_seqE hsel hQ t _ _ _ (fun j hj => hl j (by simp [hj])) hB.2 h2)
theorem wpAny_mkC {Q : Exit → Act → World → Prop} {a A : Act} {w : World} {E h k t : List Nat} {D : List (Nat × Nat)} {V : Nat → Value → World → Prop} {N : Value → Value → Prop} (hsel : Region.noSelect ops = true) (hnd : ((h ++ k) ++ t).Nodup)
    (hEh : ∀ e ∈ E, e ∈ h) (hEp : ∀ e ∈ E, earlyB (ops.getD e default).op = true) (hEf : ∀ e ∈ E, Region.freeE md ops e = true) (hQ : ∀ c (a : Act) d v w, Q (.panic c) (a.put d v) w → Q (.panic c) a w) (hs : Region.sinkE md ops E ((h ++ k) ++ t) (h ++ k).length = true) (hc : Region.chainI md ops ((h ++ k) ++ t) (h ++ k).length = true) (ht0 : 0 < t.length) (htop : Region.topB md ops (h ++ k) = true) (hin : ∀ x, x < ((h ++ k) ++ t).length → ((h ++ k) ++ t).getD x 0 < ops.size)
    (hmk : Region.mkC md ops D h k = true) (hdist : distB a.tmps.size (selOps ops (h ++ k)) = true) (hlex : LexX P ops w A (selOps ops h) a) (hk : ∀ i ∈ k, MkAtC P ops D k i A w V N)
    (hV : ∀ i v W W', V i v W → Below W.heap.size W W' → V i v W')
    (hL : ∀ listed a' W, HeadI md ops ((h ++ k) ++ t) (h ++ k).length listed → (∀ i ∈ h ++ k, listed.getD i true = true) → InvM ops a A w h k V N listed a' W → wpAny P md ops Q t.length listed a' W) :
    ∀ (f : Nat) (listed : Array Bool) (a' : Act) (W : World), unl (h ++ k) listed = f → HeadI md ops ((h ++ k) ++ t) (h ++ k).length listed → InvM ops a A w h k V N listed a' W → wpAny P md ops Q (f + t.length) listed a' W := by
  have hn : (h ++ k).length < ((h ++ k) ++ t).length := by rw [@List.length_append Nat (h ++ k) t]; omega
  have hord : ∀ x, x < (h ++ k).length → ((h ++ k) ++ t).getD x 0 = (h ++ k).getD x 0 := fun x hx => by
    rw [List.getD_eq_getElem?_getD, List.getElem?_append_left hx, ← List.getD_eq_getElem?_getD]
  have hin' : ∀ x, x < (h ++ k).length → (h ++ k).getD x 0 < ops.size := fun x hx => by rw [← hord x hx]; exact hin x (by omega)
  simp only [Region.mkC, Bool.and_eq_true] at hmk
  obtain ⟨⟨mk1, mk2⟩, mk3⟩ := hmk
  have hdh : distB a.tmps.size (selOps ops h) = true := by
    simp only [distB, Bool.and_eq_true, decide_eq_true_eq] at hdist ⊢
    unfold selOps at hdist ⊢
    rw [List.map_append, List.map_append, List.all_append, Bool.and_eq_true] at hdist
    exact ⟨hdist.1.1, (List.nodup_append.1 hdist.2).1⟩
  intro f
  induction f with
  | zero =>
    intro listed a' W hu inv iv
    rw [Nat.zero_add]
    exact hL listed a' W inv (unl_zero hu) iv
  | succ f ih =>
    intro listed a' W hu inv iv
    rw [show f + 1 + t.length = (f + t.length) + 1 by omega]
    obtain ⟨x, hx, hxu⟩ : ∃ x, x < (h ++ k).length ∧ listed.getD ((h ++ k).getD x 0) true = false := by
      have hne : ((h ++ k).filter fun i => !listed.getD i true) ≠ [] := fun e => by unfold unl at hu; rw [e] at hu; cases hu
      obtain ⟨y, hy⟩ := List.exists_mem_of_ne_nil _ hne
      rw [List.mem_filter] at hy
      obtain ⟨x, hx, he⟩ := List.mem_iff_getElem.1 hy.1
      exact ⟨x, hx, by rw [List.getD_eq_getElem?_getD, List.getElem?_eq_getElem hx]; simp only [Option.getD_some]; rw [he]; simpa using hy.2⟩
    obtain ⟨x0, hx0, hx0u, hx0r⟩ := ready_some htop hin' inv.size hx hxu
    have NEXT : ∀ i, i ∈ Region.ready md ops listed → i ∈ h ++ k → ∀ {d v W'}, (ops.getD i default).dst = some d → Below W.heap.size W W' → (i ∈ h → A.tmps[d]? = some v) → (i ∈ k → V i v W') → (i ∈ k → ∀ j u, V j u W → N v u ∧ N u v) → wpAny P md ops Q (f + t.length) (listed.setIfInBounds i true) (a'.put (some d) v) W' := by
      intro i hi him d v W' hd hW h1 h2 h3
      obtain ⟨hiu, oi, hoi, hdep⟩ := mem_ready.1 hi
      have hlt : i < ops.size := (Array.getElem?_eq_some_iff.1 hoi).1
      have ho : oi = ops.getD i default := by
        have := getD_some hlt
        rw [hoi] at this; exact Option.some.inj this
      subst ho
      obtain ⟨z, hz, hzi⟩ := inv.all i hlt hiu
      have hzn : z < (h ++ k).length := by
        rcases Nat.lt_or_ge z (h ++ k).length with h1 | h1
        · exact h1
        · exfalso
          obtain ⟨q, hq, hqi⟩ := List.mem_iff_getElem.1 him
          have e1 : ((h ++ k) ++ t).getD q 0 = i := by rw [hord q hq, List.getD_eq_getElem?_getD, List.getElem?_eq_getElem hq]; exact hqi
          have hq' : q < ((h ++ k) ++ t).length := by omega
          rw [List.getD_eq_getElem?_getD, List.getElem?_eq_getElem hz, Option.getD_some] at hzi
          rw [List.getD_eq_getElem?_getD, List.getElem?_eq_getElem hq', Option.getD_some] at e1
          have := (List.getElem_inj hnd).1 (hzi.trans e1.symm)
          omega

      refine ih _ _ _ ?_ ?_ (iv.step hdist hV him hiu hd hW h1 h2 h3)
      · have := unl_set (List.nodup_append.1 hnd).1 him hiu
        omega
      · have := inv.set hnd hz (hzi.symm ▸ hi) hzn
        rw [hzi] at this
        exact this
    have GET : ∀ i, i ∈ Region.ready md ops listed → i ∈ h → ∃ d v, (ops.getD i default).dst = some d ∧ A.tmps[d]? = some v ∧ ((Region.wanted (ops.getD i default) (yielded ops a'.tmps) = true ∧ YX P (ops.getD i default) a' w v) ∨ (Region.wanted (ops.getD i default) (yielded ops a'.tmps) = false ∧ v = undef)) := by
      intro i hi hih
      obtain ⟨hiu, oi, hoi, hdep⟩ := mem_ready.1 hi
      have hlt : i < ops.size := (Array.getElem?_eq_some_iff.1 hoi).1
      have ho : oi = ops.getD i default := by
        have := getD_some hlt
        rw [hoi] at this; exact Option.some.inj this
      subst ho
      obtain ⟨z, hz, hzi⟩ := inv.all i hlt hiu
      have listedOf : ∀ j, Region.waitsFor md ops i j = true → listed.getD j false = true := fun j hj => by
        obtain ⟨oj, hoj, e, he, hb, hon⟩ := Region.waitsFor_spec hj
        have : oj = ops.getD i default := Option.some.inj (hoj.symm.trans hoi)
        subst this
        rw [← hon]; exact hdep e he hb
      have unlistedOf : ∀ j, Region.waitsFor md ops j i = true → listed.getD j false = false := fun j hj => by
        obtain ⟨oj, hoj, e, he, hb, hon⟩ := Region.waitsFor_spec hj
        cases hl : listed.getD j false with
        | false => rfl
        | true =>
          have := inv.closed j oj hoj hl e he hb
          rw [hon, getD_both hiu] at this
          cases this
      obtain ⟨p, hp, hpi⟩ := List.mem_iff_getElem.1 hih
      have hpg : h.getD p 0 = i := by rw [List.getD_eq_getElem?_getD, List.getElem?_eq_getElem hp]; exact hpi
      have hag : ∀ s ∈ (ops.getD i default).looksAt ops, a'.tmps[s]? = if ∃ x ∈ (selOps ops h).take p, x.dst = some s then A.tmps[s]? else a.tmps[s]? := fun s hs' => by
        have m := List.all_eq_true.1 (List.all_eq_true.1 mk1 p (List.mem_range.2 hp)) s (by rw [hpg]; exact hs')
        rw [Bool.and_eq_true] at m
        split
        · rename_i hx
          obtain ⟨o, ho, hos⟩ := hx
          obtain ⟨q, hq, hqo⟩ := List.mem_iff_getElem.1 ho
          have hq1 : q < p := by rw [List.length_take] at hq; omega
          have hq2 : q < h.length := by omega
          have hoq : o = ops.getD (h.getD q 0) default := by
            rw [← hqo, List.getElem_take]
            unfold selOps
            rw [List.getElem_map, List.getD_eq_getElem?_getD, List.getElem?_eq_getElem hq2]; rfl
          have m1 := List.all_eq_true.1 m.1 q (List.mem_range.2 hq2)
          rw [← hoq, hos] at m1
          simp only [bne_self_eq_false, Bool.false_or, hq1, if_true, hpg] at m1
          exact iv.hv (h.getD q 0) (by rw [List.getD_eq_getElem?_getD, List.getElem?_eq_getElem hq2]; exact List.getElem_mem _) (listedOf _ m1) s (by rw [← hoq]; exact hos)
        · rename_i hx
          refine iv.old s fun j hj hjs => ?_
          rcases List.mem_append.1 hj with hj | hj
          · obtain ⟨q, hq, hqj⟩ := List.mem_iff_getElem.1 hj
            have hqg : h.getD q 0 = j := by rw [List.getD_eq_getElem?_getD, List.getElem?_eq_getElem hq]; exact hqj
            have m1 := List.all_eq_true.1 m.1 q (List.mem_range.2 hq)
            rw [hqg, hjs] at m1
            by_cases hqp : q < p
            · exfalso
              refine hx ⟨ops.getD j default, ?_, hjs⟩
              refine List.mem_iff_getElem.2 ⟨q, by unfold selOps; simp; omega, ?_⟩
              rw [List.getElem_take]
              unfold selOps
              rw [List.getElem_map, hqj]
            · simp only [bne_self_eq_false, Bool.false_or, hqp, if_false, Bool.or_eq_true, beq_iff_eq, hpg] at m1
              rcases m1 with e | m1
              · subst e
                have : j = i := by rw [← hqj, hpi]
                subst this; exact getD_both hiu
              · exact unlistedOf j m1
          · have m2 := List.all_eq_true.1 m.2 j hj
            rw [hjs, hpg] at m2
            simp only [bne_self_eq_false, Bool.false_or] at m2
            exact unlistedOf j m2
      exact LexX.get (selOps ops h) a hdh hlex p (ops.getD i default) (by unfold selOps; rw [List.getElem?_map, List.getElem?_eq_getElem hp, hpi]; rfl) (fun cs b => Region.noSelect_spec hsel i _ cs b hoi) a' hag
    by_cases hE : ∃ e ∈ E, e ∈ Region.ready md ops listed
    · obtain ⟨i, hiE, hi⟩ := hE
      have hih := hEh i hiE
      have him : i ∈ h ++ k := List.mem_append.2 (Or.inl hih)
      have hno : i ∈ k → False := fun hk' => by
        have := (List.nodup_append.1 (List.nodup_append.1 hnd).1).2.2 i hih i hk'
        exact this rfl
      obtain ⟨hiu, oi, hoi, hdep⟩ := mem_ready.1 hi
      have hlt : i < ops.size := (Array.getElem?_eq_some_iff.1 hoi).1
      obtain ⟨d, v, hd, hv, hcase⟩ := GET i hi hih
      have hy : Yields P ops (ops.getD i default) v a' := by
        rcases hcase with ⟨hw, hy⟩ | ⟨hw, rfl⟩
        · exact Or.inl ⟨hw, early_all (hEp i hiE) (hy w (Below.refl _ _))⟩
        · exact Or.inr ⟨hw, rfl⟩
      refine wpAny_take (getD_some hlt) hsel (free_any hi (hEf i hiE)) (by simpa using hi) (fun c a w => hQ c a _ v w) hy ?_
      rw [hd]
      exact NEXT i hi him hd (Below.refl _ _) (fun _ => hv) (fun hk' => (hno hk').elim) (fun hk' => (hno hk').elim)
    have hx0E : (h ++ k).getD x0 0 ∉ E := fun hh => hE ⟨_, hh, hx0r⟩
    refine ⟨fun h0 => (by rw [h0] at hx0r; cases hx0r), fun i hi => ?_⟩
    obtain ⟨hiu, oi, hoi, hdep⟩ := mem_ready.1 hi
    have hlt : i < ops.size := (Array.getElem?_eq_some_iff.1 hoi).1
    have ho : oi = ops.getD i default := by
      have := getD_some hlt
      rw [hoi] at this; exact Option.some.inj this
    subst ho
    obtain ⟨z, hz, hzi⟩ := inv.all i hlt hiu
    have hzn : z < (h ++ k).length := by
      rcases Nat.lt_or_ge z (h ++ k).length with h1 | h1
      · exact h1
      · exact absurd (hzi ▸ hi) (tail_waitsE hs hc hn inv _ x0 rfl hx0 (by rw [hord x0 hx0]; exact hx0E) (by rw [hord x0 hx0]; exact hx0u) z h1 hz)
    have him : i ∈ h ++ k := by
      rw [← hzi, hord z hzn, List.getD_eq_getElem?_getD, List.getElem?_eq_getElem hzn]
      exact List.getElem_mem _
    have listedOf : ∀ j, Region.waitsFor md ops i j = true → listed.getD j false = true := fun j hj => by
      obtain ⟨oj, hoj, e, he, hb, hon⟩ := Region.waitsFor_spec hj
      have : oj = ops.getD i default := Option.some.inj (hoj.symm.trans hoi)
      subst this
      rw [← hon]; exact hdep e he hb
    have unlistedOf : ∀ j, Region.waitsFor md ops j i = true → listed.getD j false = false := fun j hj => by
      obtain ⟨oj, hoj, e, he, hb, hon⟩ := Region.waitsFor_spec hj
      cases hl : listed.getD j false with
      | false => rfl
      | true =>
        have := inv.closed j oj hoj hl e he hb
        rw [hon, getD_both hiu] at this
        cases this
    have next := @NEXT i hi him
    unfold wpOp
    rw [hoi]
    simp only
    by_cases hih : i ∈ h
    · obtain ⟨d, v, hd, hv, hcase⟩ := GET i hi hih
      have hno : i ∈ k → False := fun hk' => by
        have := (List.nodup_append.1 (List.nodup_append.1 hnd).1).2.2 i hih i hk'
        exact this rfl
      rcases hcase with ⟨hw, hy⟩ | ⟨hw, rfl⟩
      · rw [if_pos hw]
        refine .inl (wp_of_YX hy iv.below fun W' hW' => ?_)
        rw [hd]
        exact next hd hW' (fun _ => hv) (fun hk' => (hno hk').elim) (fun hk' => (hno hk').elim)
      · rw [if_neg (by rw [hw]; simp), hd]
        exact next hd (Below.refl _ _) (fun _ => hv) (fun hk' => (hno hk').elim) (fun hk' => (hno hk').elim)
    · have hik : i ∈ k := (List.mem_append.1 him).resolve_left hih
      have hag : ∀ s ∈ (ops.getD i default).looksAt ops, (∀ j ∈ k, (i, j) ∈ D → (ops.getD j default).dst ≠ some s) → a'.tmps[s]? = A.tmps[s]? := fun s hs' hno => by
        have m := List.all_eq_true.1 (List.all_eq_true.1 mk2 i hik) s hs'
        rw [Bool.and_eq_true] at m
        by_cases hx : ∃ j ∈ h, (ops.getD j default).dst = some s
        · obtain ⟨j, hj, hjs⟩ := hx
          obtain ⟨q, hq, hqj⟩ := List.mem_iff_getElem.1 hj
          have hqg : h.getD q 0 = j := by rw [List.getD_eq_getElem?_getD, List.getElem?_eq_getElem hq]; exact hqj
          have m1 := List.all_eq_true.1 m.1 q (List.mem_range.2 hq)
          rw [hqg, hjs] at m1
          simp only [bne_self_eq_false, Bool.false_or] at m1
          exact iv.hv j hj (listedOf _ m1) s hjs
        · rw [lex_keeps (selOps ops h) a (fun o ho e => by
            unfold selOps at ho
            obtain ⟨j, hj, rfl⟩ := List.mem_map.1 ho
            exact hx ⟨j, hj, e⟩) hlex]
          refine iv.old s fun j hj hjs => ?_
          rcases List.mem_append.1 hj with hj | hj
          · exact absurd ⟨j, hj, hjs⟩ hx
          · have := List.all_eq_true.1 m.2 j hj
            rw [hjs] at this
            simp only [bne_self_eq_false, Bool.false_or, List.contains_eq_mem, decide_eq_true_eq] at this
            exact absurd hjs (hno j hj this)
      have hdp : ∀ j ∈ k, (i, j) ∈ D → ∀ s, (ops.getD j default).dst = some s → ∃ u, a'.tmps[s]? = some u ∧ V j u W := fun j hj hij s hs' => by
        have := List.all_eq_true.1 mk3 (i, j) hij
        exact iv.kv j hj (listedOf j this) s hs'
      obtain ⟨hw, hm⟩ := hk i hik a' W iv.below hag hdp
      obtain ⟨d, hd, _⟩ := (distB_get hdist).1 i him
      rw [if_pos hw]
      refine .inl (wp_of_mk (V := V i) hm fun v W' hW' hv hf => ?_)
      rw [hd]
      exact next hd hW' (fun hh => absurd hh hih) (fun _ => hv) (fun _ => hf)


/-- the closed fact of such a region -/
def Region.planC (md : Region.Mode) (ops : Array Oper) (n : Nat) (D : List (Nat × Nat)) (E h k t : List Nat) : Bool :=
  Region.noSelect ops && decide ((h ++ k) ++ t).Nodup && decide (0 < t.length) && Region.sinkE md ops E ((h ++ k) ++ t) (h ++ k).length && (E.all fun e => h.contains e && earlyB (ops.getD e default).op && Region.freeE md ops e) && Region.chainI md ops ((h ++ k) ++ t) (h ++ k).length &&
  Region.topB md ops (h ++ k) && (((h ++ k) ++ t).all fun i => decide (i < ops.size)) && Region.mkC md ops D h k && distB n (selOps ops (h ++ k)) &&
  ((List.range ops.size).all fun i => ((h ++ k) ++ t).contains i) && Region.seqE md ops t ((Array.range ops.size).map fun i => (h ++ k).contains i)

/-- **THE REGION**: 'h' in the order of the text, each of one value in whatever world comes, making new blocks alone; 'k' makers; 't' the tail in its one order. A: the act behind h. -/
theorem wp_region_chain {id : Nat} {Q : Exit → Act → World → Prop} {a : Act} {w : World} {l : List Oper} (D : List (Nat × Nat)) (E h k t : List Nat) (n : Nat) (V : Nat → Value → World → Prop) (N : Value → Value → Prop) (hm : P.follows .mixedOrders = true) (hB : Region.planC .any l.toArray n D E h k t = true) (hsz : a.tmps.size = n) (A : Act) (hQ : ∀ c (a : Act) d v w, Q (.panic c) (a.put d v) w → Q (.panic c) a w)
    (H : ∀ W, Below w.heap.size w W → wpQuiet P l.toArray (fun w' => ∃ x, w' = W.ext x) (· = A) (h.map (l.getD · default)) a)
    (hV : ∀ i v W W', V i v W → Below W.heap.size W W' → V i v W')
    (hk : ∀ i ∈ k, MkAtC P l.toArray D k i A w V N)
    (hT : TailX P l.toArray Q w (t.map (l.getD · default)) V N k [] (fun _ => True) A) :
    (Code.region id l.toArray true).wp P Q a w := by
  have esel : ∀ is, selOps l.toArray is = is.map (l.getD · default) := fun is => by
    unfold selOps
    apply List.map_congr_left
    intro i _
    simp [Array.getD, List.getD_eq_getElem?_getD]
    split <;> rename_i h
    · rw [List.getElem?_eq_getElem h]; rfl
    · rw [List.getElem?_eq_none (by omega)]; rfl
  simp only [Region.planC, Bool.and_eq_true, decide_eq_true_eq] at hB
  obtain ⟨⟨⟨⟨⟨⟨⟨⟨⟨⟨⟨hsel, hnd⟩, ht0⟩, hs⟩, hE⟩, hc⟩, htop⟩, hin⟩, hmk⟩, hdist⟩, hall⟩, hseq⟩ := hB
  subst hsz
  have hin' : ∀ x, x < ((h ++ k) ++ t).length → ((h ++ k) ++ t).getD x 0 < l.toArray.size := fun x hx => by
    have := List.all_eq_true.1 hin (((h ++ k) ++ t).getD x 0) (by rw [List.getD_eq_getElem?_getD, List.getElem?_eq_getElem hx]; exact List.getElem_mem _)
    simpa using this
  have hdh : distB a.tmps.size (selOps l.toArray h) = true := by
    have hdist' := hdist
    simp only [distB, Bool.and_eq_true, decide_eq_true_eq] at hdist' ⊢
    unfold selOps at hdist' ⊢
    rw [List.map_append, List.map_append, List.all_append, Bool.and_eq_true] at hdist'
    exact ⟨hdist'.1.1, (List.nodup_append.1 hdist'.2).1⟩
  have hlex : LexX P l.toArray w A (selOps l.toArray h) a := lex_of _ _ hdh fun W hW => by rw [esel]; exact H W hW
  obtain ⟨sz1, df1⟩ := lex_size _ _ hlex
  refine wp_region_any hm ?_
  have hsz0 : ∀ i, (Array.replicate l.toArray.size false).getD i false = false := fun i => getD_replicate_false _ _
  have hlen : unl (h ++ k) (Array.replicate l.toArray.size false) + t.length = l.toArray.size := by
    have h1 : unl (h ++ k) (Array.replicate l.toArray.size false) = (h ++ k).length := by
      unfold unl
      rw [List.filter_eq_self.2]
      intro i hi
      obtain ⟨x, hx, he⟩ := List.mem_iff_getElem.1 hi
      have := hin' x (by rw [@List.length_append Nat (h ++ k) t]; omega)
      rw [List.getD_eq_getElem?_getD, List.getElem?_append_left hx, List.getElem?_eq_getElem hx] at this
      simp only [Option.getD_some, he] at this
      have h2 : i < l.length := by simpa using this
      simp [h2]
    rw [h1, ← List.length_append]
    have h3 : ((h ++ k) ++ t).length ≤ (List.range l.toArray.size).length := nodup_le _ _ hnd fun i hi => by
      obtain ⟨x, hx, he⟩ := List.mem_iff_getElem.1 hi
      have := hin' x hx
      rw [List.getD_eq_getElem?_getD, List.getElem?_eq_getElem hx] at this
      simp only [Option.getD_some, he] at this
      exact List.mem_range.2 this
    have h4 : (List.range l.toArray.size).length ≤ ((h ++ k) ++ t).length := nodup_le _ _ List.nodup_range fun i hi => by
      have := List.all_eq_true.1 hall i hi
      simpa using this
    rw [List.length_range] at h3 h4
    omega
  have hFIN : ∀ (listed : Array Bool) (a' : Act) (W : World), HeadI .any l.toArray ((h ++ k) ++ t) (h ++ k).length listed → (∀ i ∈ h ++ k, listed.getD i true = true) → InvM l.toArray a A w h k V N listed a' W → wpAny P .any l.toArray Q t.length listed a' W := by
    intro listed a' W inv hl iv
    have hlist : listed = (Array.range l.toArray.size).map fun i => (h ++ k).contains i := by
      apply Array.ext
      · rw [inv.size]; simp
      · intro i h1 h2
        have hi : i < l.toArray.size := by rw [← inv.size]; exact h1
        simp only [Array.getElem_map, Array.getElem_range]
        by_cases hm : i ∈ h ++ k
        · have := hl i hm
          simp [h1] at this
          rw [this]
          symm
          simpa using hm
        · have hm' := List.all_eq_true.1 hall i (List.mem_range.2 hi)
          simp only [List.contains_eq_mem, decide_eq_true_eq] at hm'
          have ht' : i ∈ t := (List.mem_append.1 hm').resolve_left hm
          obtain ⟨y, hy, he⟩ := List.mem_iff_getElem.1 ht'
          have := inv.tail ((h ++ k).length + y) (by omega) (by rw [@List.length_append Nat (h ++ k) t]; omega)
          rw [List.getD_eq_getElem?_getD, List.getElem?_append_right (by omega), show (h ++ k).length + y - (h ++ k).length = y by omega, List.getElem?_eq_getElem hy] at this
          simp only [Option.getD_some, he] at this
          simp [h1] at this
          rw [this]
          symm
          simp only [List.contains_eq_mem, decide_eq_false_iff_not]
          exact hm
    have lst : ∀ i ∈ h ++ k, listed.getD i false = true := fun i hi => by
      have := hl i hi
      have hii := List.all_eq_true.1 hin i (by simp only [List.mem_append] at hi ⊢; exact Or.inl hi)
      have hii' : i < listed.size := by rw [inv.size]; simpa using hii
      simp [hii'] at this ⊢; exact this
    refine wpAny_of_seqE hsel hQ t listed a' W (fun i hi => ?_) (by rw [hlist]; exact hseq) ?_
    · have := List.all_eq_true.1 hin i (by simp [hi])
      simpa using this
    · rw [esel]
      refine tail_of iv.below k [] (fun _ => True) A (by rw [sz1, iv.size]) (by rw [df1, iv.defers]) (fun i hi => ?_) (fun s hs' => ?_) (List.nodup_append.1 (List.nodup_append.1 hnd).1).2.1 (fun x hx y hy hxy => iv.ap x hx y hy hxy (lst x (by simp [hx])) (lst y (by simp [hy]))) trivial hT
      · obtain ⟨d, hd, _⟩ := (distB_get hdist).1 i (by simp [hi])
        obtain ⟨v, e, hv⟩ := iv.kv i hi (by
          have := hl i (by simp [hi])
          have hii := List.all_eq_true.1 hin i (by simp [hi])
          have hii' : i < listed.size := by rw [inv.size]; simpa using hii
          simp [hii'] at this ⊢; exact this) d hd
        exact ⟨d, v, hd, e, hv, fun u hu => by cases hu⟩
      · by_cases hx : ∃ j ∈ h, (l.toArray.getD j default).dst = some s
        · obtain ⟨j, hj, hjs⟩ := hx
          refine iv.hv j hj ?_ s hjs
          have := hl j (by simp [hj])
          have hii := List.all_eq_true.1 hin j (by simp [hj])
          have hii' : j < listed.size := by rw [inv.size]; simpa using hii
          simp [hii'] at this ⊢; exact this
        · rw [lex_keeps (selOps l.toArray h) a (fun o ho e => by
            unfold selOps at ho
            obtain ⟨j, hj, rfl⟩ := List.mem_map.1 ho
            exact hx ⟨j, hj, e⟩) hlex]
          refine iv.old s fun j hj hjs => ?_
          rcases List.mem_append.1 hj with hj | hj
          · exact absurd ⟨j, hj, hjs⟩ hx
          · exact absurd hjs (hs' j hj)
  have hHD : HeadI .any l.toArray ((h ++ k) ++ t) (h ++ k).length (Array.replicate l.toArray.size false) := by
    refine ⟨by simp, fun j oj hj hl => ?_, fun i hi hl => ?_, fun y hy hyl => ?_, hin'⟩
    · rw [hsz0 j] at hl; cases hl
    · have := List.all_eq_true.1 hall i (List.mem_range.2 hi)
      simp only [List.contains_eq_mem, decide_eq_true_eq] at this
      obtain ⟨x, hx, he⟩ := List.mem_iff_getElem.1 this
      exact ⟨x, hx, by rw [List.getD_eq_getElem?_getD, List.getElem?_eq_getElem hx]; exact he⟩
    · have := hin' y hyl
      have h2 : ((h ++ k) ++ t).getD y 0 < l.length := by simpa using this
      exact getD_in (by simpa using h2) (hsz0 _)
  have hIV : InvM l.toArray a A w h k V N (Array.replicate l.toArray.size false) a w.drew := by
    exact ⟨(Below.refl w.heap.size w).drew, rfl, rfl, fun i hi hl => (by rw [hsz0 i] at hl; cases hl), fun i hi hl => (by rw [hsz0 i] at hl; cases hl), fun s _ => rfl, fun i hi j hj hij hl => (by rw [hsz0 i] at hl; cases hl)⟩
  have hE' : ∀ e ∈ E, e ∈ h ∧ earlyB (l.toArray.getD e default).op = true ∧ Region.freeE .any l.toArray e = true := fun e he => by
    have := List.all_eq_true.1 hE e he
    simp only [Bool.and_eq_true, List.contains_eq_mem, decide_eq_true_eq] at this
    exact ⟨this.1.1, this.1.2, this.2⟩
  have key := wpAny_mkC (Q := Q) (E := E) (A := A) (w := w) (h := h) (k := k) (V := V) hsel hnd (fun e he => (hE' e he).1) (fun e he => (hE' e he).2.1) (fun e he => (hE' e he).2.2) hQ hs hc ht0 htop hin' hmk hdist hlex hk hV hFIN _ (Array.replicate l.toArray.size false) a w.drew rfl hHD hIV
  rw [hlen] at key
  exact key
/-- .. in the form in which a walk finds A out: 'refine wp_region_chainE ..; apply Exists.intro; refine ⟨fun X hX => ?_, ?_, ?_⟩' -/
theorem wp_region_chainE {id : Nat} {Q : Exit → Act → World → Prop} {a : Act} {w : World} {l : List Oper} (D : List (Nat × Nat)) (E h k t : List Nat) (n : Nat) (V : Nat → Value → World → Prop) (N : Value → Value → Prop) (hm : P.follows .mixedOrders = true) (hB : Region.planC .any l.toArray n D E h k t = true) (hsz : a.tmps.size = n)
    (hV : ∀ i v W W', V i v W → Below W.heap.size W W' → V i v W')
    (H : ∃ A, (∀ W, Below w.heap.size w W → wpQuiet P l.toArray (fun w' => ∃ x, w' = W.ext x) (· = A) (h.map (l.getD · default)) a) ∧ (∀ i ∈ k, MkAtC P l.toArray D k i A w V N) ∧ TailX P l.toArray Q w (t.map (l.getD · default)) V N k [] (fun _ => True) A)
    (hQ : ∀ c (a : Act) d v w, Q (.panic c) (a.put d v) w → Q (.panic c) a w := by intro c a d v w h; cases d <;> exact h) :
    (Code.region id l.toArray true).wp P Q a w := by
  obtain ⟨A, h1, h2, h3⟩ := H
  exact wp_region_chain D E h k t n V N hm hB hsz A hQ h1 hV h2 h3
end
end Go.Proofs.Ytoifkfhbinfplaa
