/- Texts laid together: RegC, RegH, RegS, Snd5, Snd6, Snd7, RSnd1. -/
import Derived.OrdersHeld
import Derived.Test.YtmnbnjiipnocaaaSb7
/- a drawing region with makers, one of which may want another one's value. -/
namespace Go.Proofs.Ytmnbnjiipnocaaa
open Go Go.RowKit
set_option linter.unusedVariables false
set_option linter.unusedSimpArgs false
section
variable {P : Program} {ops : Array Oper} {md : Region.Mode}

/-- the closed fact: 'h' in the order of the text, 'k' makers; D: (i, j): maker i wants maker j's value -/
def Region.mkC (md : Region.Mode) (ops : Array Oper) (D : List (Nat × Nat)) (h k : List Nat) : Bool :=
  (((List.range h.length).all fun p => ((ops.getD (h.getD p 0) default).looksAt ops).all fun s =>
      ((List.range h.length).all fun q => (ops.getD (h.getD q 0) default).dst != some s || (if q < p then Region.waitsFor md ops (h.getD p 0) (h.getD q 0) else q == p || Region.waitsFor md ops (h.getD q 0) (h.getD p 0))) &&
      (k.all fun j => (ops.getD j default).dst != some s || Region.waitsFor md ops j (h.getD p 0))) &&
  (k.all fun i => ((ops.getD i default).looksAt ops).all fun s =>
      ((List.range h.length).all fun q => (ops.getD (h.getD q 0) default).dst != some s || Region.waitsFor md ops i (h.getD q 0)) && (k.all fun j => (ops.getD j default).dst != some s || D.contains (i, j)))) &&
  D.all fun x => Region.waitsFor md ops x.1 x.2
def MkAtC (P : Program) (ops : Array Oper) (D : List (Nat × Nat)) (k : List Nat) (i : Nat) (A : Act) (w : World) (V : Nat → Value → World → Prop) (N : Value → Value → Prop) : Prop :=
  ∀ (a' : Act) (W : World), Below w.heap.size w W →
    (∀ s ∈ (ops.getD i default).looksAt ops, (∀ j ∈ k, (i, j) ∈ D → (ops.getD j default).dst ≠ some s) → a'.tmps[s]? = A.tmps[s]?) →
    (∀ j ∈ k, (i, j) ∈ D → ∀ s, (ops.getD j default).dst = some s → ∃ u, a'.tmps[s]? = some u ∧ V j u W) →
    Region.wanted (ops.getD i default) (yielded ops a'.tmps) = true ∧ mkUpon P W (V i) (fun v => ∀ j u, V j u W → N v u ∧ N u v) ((execOp a'.eval (ops.getD i default)).run P W)
theorem MkAtC.plain {D : List (Nat × Nat)} {k : List Nat} {i : Nat} {A : Act} {w : World} {V : Nat → Value → World → Prop} {N : Value → Value → Prop} (hs : ∀ cs b, (ops.getD i default).op ≠ .select cs b) (hD : ∀ j, (i, j) ∉ D)
    (h : MkAt P ops (ops.getD i default) A w (V i) V N) : MkAtC P ops D k i A w V N := fun a' W hW hag _ => by
  obtain ⟨e1, e2⟩ := looks_same hs (fun s hs' => hag s hs' fun j _ hj => absurd hj (hD j))
  rw [e1, e2]
  exact ⟨h.1, h.2 W hW⟩
theorem MkAtC.one {D : List (Nat × Nat)} {k : List Nat} {i : Nat} {A : Act} {w : World} {V : Nat → Value → World → Prop} {N : Value → Value → Prop} (hs : ∀ cs b, (ops.getD i default).op ≠ .select cs b) (j d : Nat) (hj : j ∈ k) (hD : (i, j) ∈ D) (hd : (ops.getD j default).dst = some d) (hdl : d < A.tmps.size) (ho : ∀ j', (i, j') ∈ D → j' = j)
    (h : ∀ u W, Below w.heap.size w W → V j u W → Region.wanted (ops.getD i default) (yielded ops (A.put (some d) u).tmps) = true ∧ mkUpon P W (V i) (fun v => ∀ j u, V j u W → N v u ∧ N u v) ((execOp (A.put (some d) u).eval (ops.getD i default)).run P W)) : MkAtC P ops D k i A w V N := fun a' W hW hag hdp => by
  obtain ⟨u, hu, hV⟩ := hdp j hj hD d hd
  obtain ⟨e1, e2⟩ := looks_same (b := A.put (some d) u) hs (fun s hs' => by
    by_cases e : s = d
    · subst e
      rw [hu]
      simp [Act.put, hdl]
    · rw [hag s hs' fun j' _ hj' => by
        rw [ho j' hj', hd]
        intro h2
        injection h2 with h2
        exact e h2.symm]
      simp [Act.put, Array.getElem?_setIfInBounds, Ne.symm e])
  rw [e1, e2]
  exact h u W hW hV
/-- an extract, plain -/
def tailB (o : Oper) : Bool := match o.op with | .extract .. => o.guard == none | _ => false
theorem early_step {Q : Exit → Act → World → Prop} {o : Oper} {a : Act} {w : World} {rest : List Oper} (he : tailB o = true) (h : wpList P ops Q (o :: rest) a w) : ∃ v, Yields P ops o v a ∧ wpList P ops Q rest (a.put o.dst v) w := by
  unfold tailB at he
  cases ho : o.op <;> rw [ho] at he <;> first
    | (simp at he; done)
    | skip
  rename_i t ix
  have hg : o.guard = none := by simpa using he
  have hw : Region.wanted o (yielded ops a.tmps) = true := by simp [Region.wanted, hg]
  unfold wpList at h
  rw [if_pos hw] at h
  rcases h with h | ⟨h, _⟩
  · unfold Oper.wp execOp at h
    simp only [ho, Sem.run_pure, Sem.run_bind, Instr.extract] at h
    cases ht : a.eval t <;> rw [ht] at h <;> simp only [] at h <;> first
      | (simp [Result.andThen, Oper.upon] at h; done)
      | skip
    rename_i vs
    cases hx : vs[ix]? with
    | none => simp [hx, Result.andThen, Oper.upon] at h
    | some v =>
      refine ⟨v, Or.inl ⟨hw, fun w' => ?_⟩, ?_⟩
      · unfold execOp
        simp [ho, ht, Instr.extract, hx]
      · simpa [hx, Result.andThen, Oper.upon] using h
  · exfalso
    unfold Oper.asks execOp at h
    simp only [ho] at h
    have h1 := h.1
    unfold Instr.extract at h1
    have hn : ∀ e : Event, e ∉ (#[] : Array Event) := by simp
    cases ht : a.eval t <;> rw [ht] at h1
    case tuple vs =>
      simp only at h1
      cases hx : vs[ix]? <;> rw [hx] at h1 <;> exact hn _ h1
    all_goals exact hn _ h1
/-- The tail: one alone may come up each time, or an extract that may be taken first. -/
def Region.seqE (md : Region.Mode) (ops : Array Oper) : List Nat → Array Bool → Bool
  | [], listed => (Region.ready md ops listed).isEmpty
  | k :: t, listed => (decide (Region.ready md ops listed = [k]) || ((Region.ready md ops listed).contains k && tailB (ops.getD k default) && Region.freeE md ops k)) && Region.seqE md ops t (listed.setIfInBounds k true)
theorem wpAny_of_seqE {Q' : Exit → Act → World → Prop} (hsel : Region.noSelect ops = true) (hQ : ∀ c (a : Act) d v w, Q' (.panic c) (a.put d v) w → Q' (.panic c) a w) : ∀ (t : List Nat) (listed : Array Bool) (a : Act) (w : World), (∀ i ∈ t, i < ops.size) →
    Region.seqE md ops t listed = true → wpList P ops Q' (selOps ops t) a w → wpAny P md ops Q' t.length listed a w
  | [], _, _, _, _, hB, h => ⟨by simpa [Region.seqE] using hB, h⟩
  | k :: t, listed, a, w, hl, hB, h => by
    have h0 := getD_some (hl k (by simp))
    simp only [Region.seqE, Bool.and_eq_true, Bool.or_eq_true, decide_eq_true_eq] at hB
    rcases hB.1 with hr | ⟨⟨hr, ht⟩, hf⟩
    · refine ⟨fun h1 => (by rw [hr] at h1; cases h1), fun i hi => ?_⟩
      rw [hr] at hi
      have hik : i = k := by simpa using hi
      subst hik
      have hw : wpOp P ops Q' i (wpList P ops Q' (selOps ops t)) a w := by unfold wpOp; simp only [h0]; exact h
      exact wpOp_mono (fun a' w' h' => wpAny_of_seqE hsel hQ t _ a' w' (fun j hj => hl j (by simp [hj])) hB.2 h') hw
    · obtain ⟨v, hy, h2⟩ := early_step ht (show wpList P ops Q' (ops.getD k default :: selOps ops t) a w from h)
      exact wpAny_take h0 hsel (free_any (by simpa using hr) hf) hr (fun c a w => hQ c a _ v w) hy (wpAny_of_seqE hsel hQ t _ _ _ (fun j hj => hl j (by simp [hj])) hB.2 h2)
theorem wpAny_mkC {Q : Exit → Act → World → Prop} {a A : Act} {w : World} {E h k t : List Nat} {D : List (Nat × Nat)} {V : Nat → Value → World → Prop} {N : Value → Value → Prop} (hsel : Region.noSelect ops = true) (hnd : ((h ++ k) ++ t).Nodup)
    (hEh : ∀ e ∈ E, e ∈ h) (hEp : ∀ e ∈ E, earlyB (ops.getD e default).op = true) (hEf : ∀ e ∈ E, Region.freeE md ops e = true) (hQ : ∀ c (a : Act) d v w, Q (.panic c) (a.put d v) w → Q (.panic c) a w) (hs : Region.sinkE md ops E ((h ++ k) ++ t) (h ++ k).length = true) (hc : Region.chainI md ops ((h ++ k) ++ t) (h ++ k).length = true) (ht0 : 0 < t.length) (htop : Region.topB md ops (h ++ k) = true) (hin : ∀ x, x < ((h ++ k) ++ t).length → ((h ++ k) ++ t).getD x 0 < ops.size)
    (hmk : Region.mkC md ops D h k = true) (hdist : distB a.tmps.size (selOps ops (h ++ k)) = true) (hlex : LexX P ops w A (selOps ops h) a) (hk : ∀ i ∈ k, MkAtC P ops D k i A w V N)
    (hV : ∀ i v W W', V i v W → Below W.heap.size W W' → V i v W')
    (hL : ∀ listed a' W, HeadI md ops ((h ++ k) ++ t) (h ++ k).length listed → (∀ i ∈ h ++ k, listed.getD i true = true) → InvM ops a A w h k V N listed a' W → wpAny P md ops Q t.length listed a' W) :
    ∀ (f : Nat) (listed : Array Bool) (a' : Act) (W : World), unl (h ++ k) listed = f → HeadI md ops ((h ++ k) ++ t) (h ++ k).length listed → InvM ops a A w h k V N listed a' W → wpAny P md ops Q (f + t.length) listed a' W := by
  have hn : (h ++ k).length < ((h ++ k) ++ t).length := by rw [@List.length_append Nat (h ++ k) t]; omega
  have hord : ∀ x, x < (h ++ k).length → ((h ++ k) ++ t).getD x 0 = (h ++ k).getD x 0 := fun x hx => by
    rw [List.getD_eq_getElem?_getD, List.getElem?_append_left hx, ← List.getD_eq_getElem?_getD]
  have hin' : ∀ x, x < (h ++ k).length → (h ++ k).getD x 0 < ops.size := fun x hx => by rw [← hord x hx]; exact hin x (by omega)
  simp only [Region.mkC, Bool.and_eq_true] at hmk
  obtain ⟨⟨mk1, mk2⟩, mk3⟩ := hmk
  have hdh : distB a.tmps.size (selOps ops h) = true := by
    simp only [distB, Bool.and_eq_true, decide_eq_true_eq] at hdist ⊢
    unfold selOps at hdist ⊢
    rw [List.map_append, List.map_append, List.all_append, Bool.and_eq_true] at hdist
    exact ⟨hdist.1.1, (List.nodup_append.1 hdist.2).1⟩
  intro f
  induction f with
  | zero =>
    intro listed a' W hu inv iv
    rw [Nat.zero_add]
    exact hL listed a' W inv (unl_zero hu) iv
  | succ f ih =>
    intro listed a' W hu inv iv
    rw [show f + 1 + t.length = (f + t.length) + 1 by omega]
    obtain ⟨x, hx, hxu⟩ : ∃ x, x < (h ++ k).length ∧ listed.getD ((h ++ k).getD x 0) true = false := by
      have hne : ((h ++ k).filter fun i => !listed.getD i true) ≠ [] := fun e => by unfold unl at hu; rw [e] at hu; cases hu
      obtain ⟨y, hy⟩ := List.exists_mem_of_ne_nil _ hne
      rw [List.mem_filter] at hy
      obtain ⟨x, hx, he⟩ := List.mem_iff_getElem.1 hy.1
      exact ⟨x, hx, by rw [List.getD_eq_getElem?_getD, List.getElem?_eq_getElem hx]; simp only [Option.getD_some]; rw [he]; simpa using hy.2⟩
    obtain ⟨x0, hx0, hx0u, hx0r⟩ := ready_some htop hin' inv.size hx hxu
    have NEXT : ∀ i, i ∈ Region.ready md ops listed → i ∈ h ++ k → ∀ {d v W'}, (ops.getD i default).dst = some d → Below W.heap.size W W' → (i ∈ h → A.tmps[d]? = some v) → (i ∈ k → V i v W') → (i ∈ k → ∀ j u, V j u W → N v u ∧ N u v) → wpAny P md ops Q (f + t.length) (listed.setIfInBounds i true) (a'.put (some d) v) W' := by
      intro i hi him d v W' hd hW h1 h2 h3
      obtain ⟨hiu, oi, hoi, hdep⟩ := mem_ready.1 hi
      have hlt : i < ops.size := (Array.getElem?_eq_some_iff.1 hoi).1
      have ho : oi = ops.getD i default := by
        have := getD_some hlt
        rw [hoi] at this; exact Option.some.inj this
      subst ho
      obtain ⟨z, hz, hzi⟩ := inv.all i hlt hiu
      have hzn : z < (h ++ k).length := by
        rcases Nat.lt_or_ge z (h ++ k).length with h1 | h1
        · exact h1
        · exfalso
          obtain ⟨q, hq, hqi⟩ := List.mem_iff_getElem.1 him
          have e1 : ((h ++ k) ++ t).getD q 0 = i := by rw [hord q hq, List.getD_eq_getElem?_getD, List.getElem?_eq_getElem hq]; exact hqi
          have hq' : q < ((h ++ k) ++ t).length := by omega
          rw [List.getD_eq_getElem?_getD, List.getElem?_eq_getElem hz, Option.getD_some] at hzi
          rw [List.getD_eq_getElem?_getD, List.getElem?_eq_getElem hq', Option.getD_some] at e1
          have := (List.getElem_inj hnd).1 (hzi.trans e1.symm)
          omega

      refine ih _ _ _ ?_ ?_ (iv.step hdist hV him hiu hd hW h1 h2 h3)
      · have := unl_set (List.nodup_append.1 hnd).1 him hiu
        omega
      · have := inv.set hnd hz (hzi.symm ▸ hi) hzn
        rw [hzi] at this
        exact this
    have GET : ∀ i, i ∈ Region.ready md ops listed → i ∈ h → ∃ d v, (ops.getD i default).dst = some d ∧ A.tmps[d]? = some v ∧ ((Region.wanted (ops.getD i default) (yielded ops a'.tmps) = true ∧ YX P (ops.getD i default) a' w v) ∨ (Region.wanted (ops.getD i default) (yielded ops a'.tmps) = false ∧ v = undef)) := by
      intro i hi hih
      obtain ⟨hiu, oi, hoi, hdep⟩ := mem_ready.1 hi
      have hlt : i < ops.size := (Array.getElem?_eq_some_iff.1 hoi).1
      have ho : oi = ops.getD i default := by
        have := getD_some hlt
        rw [hoi] at this; exact Option.some.inj this
      subst ho
      obtain ⟨z, hz, hzi⟩ := inv.all i hlt hiu
      have listedOf : ∀ j, Region.waitsFor md ops i j = true → listed.getD j false = true := fun j hj => by
        obtain ⟨oj, hoj, e, he, hb, hon⟩ := Region.waitsFor_spec hj
        have : oj = ops.getD i default := Option.some.inj (hoj.symm.trans hoi)
        subst this
        rw [← hon]; exact hdep e he hb
      have unlistedOf : ∀ j, Region.waitsFor md ops j i = true → listed.getD j false = false := fun j hj => by
        obtain ⟨oj, hoj, e, he, hb, hon⟩ := Region.waitsFor_spec hj
        cases hl : listed.getD j false with
        | false => rfl
        | true =>
          have := inv.closed j oj hoj hl e he hb
          rw [hon, getD_both hiu] at this
          cases this
      obtain ⟨p, hp, hpi⟩ := List.mem_iff_getElem.1 hih
      have hpg : h.getD p 0 = i := by rw [List.getD_eq_getElem?_getD, List.getElem?_eq_getElem hp]; exact hpi
      have hag : ∀ s ∈ (ops.getD i default).looksAt ops, a'.tmps[s]? = if ∃ x ∈ (selOps ops h).take p, x.dst = some s then A.tmps[s]? else a.tmps[s]? := fun s hs' => by
        have m := List.all_eq_true.1 (List.all_eq_true.1 mk1 p (List.mem_range.2 hp)) s (by rw [hpg]; exact hs')
        rw [Bool.and_eq_true] at m
        split
        · rename_i hx
          obtain ⟨o, ho, hos⟩ := hx
          obtain ⟨q, hq, hqo⟩ := List.mem_iff_getElem.1 ho
          have hq1 : q < p := by rw [List.length_take] at hq; omega
          have hq2 : q < h.length := by omega
          have hoq : o = ops.getD (h.getD q 0) default := by
            rw [← hqo, List.getElem_take]
            unfold selOps
            rw [List.getElem_map, List.getD_eq_getElem?_getD, List.getElem?_eq_getElem hq2]; rfl
          have m1 := List.all_eq_true.1 m.1 q (List.mem_range.2 hq2)
          rw [← hoq, hos] at m1
          simp only [bne_self_eq_false, Bool.false_or, hq1, if_true, hpg] at m1
          exact iv.hv (h.getD q 0) (by rw [List.getD_eq_getElem?_getD, List.getElem?_eq_getElem hq2]; exact List.getElem_mem _) (listedOf _ m1) s (by rw [← hoq]; exact hos)
        · rename_i hx
          refine iv.old s fun j hj hjs => ?_
          rcases List.mem_append.1 hj with hj | hj
          · obtain ⟨q, hq, hqj⟩ := List.mem_iff_getElem.1 hj
            have hqg : h.getD q 0 = j := by rw [List.getD_eq_getElem?_getD, List.getElem?_eq_getElem hq]; exact hqj
            have m1 := List.all_eq_true.1 m.1 q (List.mem_range.2 hq)
            rw [hqg, hjs] at m1
            by_cases hqp : q < p
            · exfalso
              refine hx ⟨ops.getD j default, ?_, hjs⟩
              refine List.mem_iff_getElem.2 ⟨q, by unfold selOps; simp; omega, ?_⟩
              rw [List.getElem_take]
              unfold selOps
              rw [List.getElem_map, hqj]
            · simp only [bne_self_eq_false, Bool.false_or, hqp, if_false, Bool.or_eq_true, beq_iff_eq, hpg] at m1
              rcases m1 with e | m1
              · subst e
                have : j = i := by rw [← hqj, hpi]
                subst this; exact getD_both hiu
              · exact unlistedOf j m1
          · have m2 := List.all_eq_true.1 m.2 j hj
            rw [hjs, hpg] at m2
            simp only [bne_self_eq_false, Bool.false_or] at m2
            exact unlistedOf j m2
      exact LexX.get (selOps ops h) a hdh hlex p (ops.getD i default) (by unfold selOps; rw [List.getElem?_map, List.getElem?_eq_getElem hp, hpi]; rfl) (fun cs b => Region.noSelect_spec hsel i _ cs b hoi) a' hag
    by_cases hE : ∃ e ∈ E, e ∈ Region.ready md ops listed
    · obtain ⟨i, hiE, hi⟩ := hE
      have hih := hEh i hiE
      have him : i ∈ h ++ k := List.mem_append.2 (Or.inl hih)
      have hno : i ∈ k → False := fun hk' => by
        have := (List.nodup_append.1 (List.nodup_append.1 hnd).1).2.2 i hih i hk'
        exact this rfl
      obtain ⟨hiu, oi, hoi, hdep⟩ := mem_ready.1 hi
      have hlt : i < ops.size := (Array.getElem?_eq_some_iff.1 hoi).1
      obtain ⟨d, v, hd, hv, hcase⟩ := GET i hi hih
      have hy : Yields P ops (ops.getD i default) v a' := by
        rcases hcase with ⟨hw, hy⟩ | ⟨hw, rfl⟩
        · exact Or.inl ⟨hw, early_all (hEp i hiE) (hy w (Below.refl _ _))⟩
        · exact Or.inr ⟨hw, rfl⟩
      refine wpAny_take (getD_some hlt) hsel (free_any hi (hEf i hiE)) (by simpa using hi) (fun c a w => hQ c a _ v w) hy ?_
      rw [hd]
      exact NEXT i hi him hd (Below.refl _ _) (fun _ => hv) (fun hk' => (hno hk').elim) (fun hk' => (hno hk').elim)
    have hx0E : (h ++ k).getD x0 0 ∉ E := fun hh => hE ⟨_, hh, hx0r⟩
    refine ⟨fun h0 => (by rw [h0] at hx0r; cases hx0r), fun i hi => ?_⟩
    obtain ⟨hiu, oi, hoi, hdep⟩ := mem_ready.1 hi
    have hlt : i < ops.size := (Array.getElem?_eq_some_iff.1 hoi).1
    have ho : oi = ops.getD i default := by
      have := getD_some hlt
      rw [hoi] at this; exact Option.some.inj this
    subst ho
    obtain ⟨z, hz, hzi⟩ := inv.all i hlt hiu
    have hzn : z < (h ++ k).length := by
      rcases Nat.lt_or_ge z (h ++ k).length with h1 | h1
      · exact h1
      · exact absurd (hzi ▸ hi) (tail_waitsE hs hc hn inv _ x0 rfl hx0 (by rw [hord x0 hx0]; exact hx0E) (by rw [hord x0 hx0]; exact hx0u) z h1 hz)
    have him : i ∈ h ++ k := by
      rw [← hzi, hord z hzn, List.getD_eq_getElem?_getD, List.getElem?_eq_getElem hzn]
      exact List.getElem_mem _
    have listedOf : ∀ j, Region.waitsFor md ops i j = true → listed.getD j false = true := fun j hj => by
      obtain ⟨oj, hoj, e, he, hb, hon⟩ := Region.waitsFor_spec hj
      have : oj = ops.getD i default := Option.some.inj (hoj.symm.trans hoi)
      subst this
      rw [← hon]; exact hdep e he hb
    have unlistedOf : ∀ j, Region.waitsFor md ops j i = true → listed.getD j false = false := fun j hj => by
      obtain ⟨oj, hoj, e, he, hb, hon⟩ := Region.waitsFor_spec hj
      cases hl : listed.getD j false with
      | false => rfl
      | true =>
        have := inv.closed j oj hoj hl e he hb
        rw [hon, getD_both hiu] at this
        cases this
    have next := @NEXT i hi him
    unfold wpOp
    rw [hoi]
    simp only
    by_cases hih : i ∈ h
    · obtain ⟨d, v, hd, hv, hcase⟩ := GET i hi hih
      have hno : i ∈ k → False := fun hk' => by
        have := (List.nodup_append.1 (List.nodup_append.1 hnd).1).2.2 i hih i hk'
        exact this rfl
      rcases hcase with ⟨hw, hy⟩ | ⟨hw, rfl⟩
      · rw [if_pos hw]
        refine .inl (wp_of_YX hy iv.below fun W' hW' => ?_)
        rw [hd]
        exact next hd hW' (fun _ => hv) (fun hk' => (hno hk').elim) (fun hk' => (hno hk').elim)
      · rw [if_neg (by rw [hw]; simp), hd]
        exact next hd (Below.refl _ _) (fun _ => hv) (fun hk' => (hno hk').elim) (fun hk' => (hno hk').elim)
    · have hik : i ∈ k := (List.mem_append.1 him).resolve_left hih
      have hag : ∀ s ∈ (ops.getD i default).looksAt ops, (∀ j ∈ k, (i, j) ∈ D → (ops.getD j default).dst ≠ some s) → a'.tmps[s]? = A.tmps[s]? := fun s hs' hno => by
        have m := List.all_eq_true.1 (List.all_eq_true.1 mk2 i hik) s hs'
        rw [Bool.and_eq_true] at m
        by_cases hx : ∃ j ∈ h, (ops.getD j default).dst = some s
        · obtain ⟨j, hj, hjs⟩ := hx
          obtain ⟨q, hq, hqj⟩ := List.mem_iff_getElem.1 hj
          have hqg : h.getD q 0 = j := by rw [List.getD_eq_getElem?_getD, List.getElem?_eq_getElem hq]; exact hqj
          have m1 := List.all_eq_true.1 m.1 q (List.mem_range.2 hq)
          rw [hqg, hjs] at m1
          simp only [bne_self_eq_false, Bool.false_or] at m1
          exact iv.hv j hj (listedOf _ m1) s hjs
        · rw [lex_keeps (selOps ops h) a (fun o ho e => by
            unfold selOps at ho
            obtain ⟨j, hj, rfl⟩ := List.mem_map.1 ho
            exact hx ⟨j, hj, e⟩) hlex]
          refine iv.old s fun j hj hjs => ?_
          rcases List.mem_append.1 hj with hj | hj
          · exact absurd ⟨j, hj, hjs⟩ hx
          · have := List.all_eq_true.1 m.2 j hj
            rw [hjs] at this
            simp only [bne_self_eq_false, Bool.false_or, List.contains_eq_mem, decide_eq_true_eq] at this
            exact absurd hjs (hno j hj this)
      have hdp : ∀ j ∈ k, (i, j) ∈ D → ∀ s, (ops.getD j default).dst = some s → ∃ u, a'.tmps[s]? = some u ∧ V j u W := fun j hj hij s hs' => by
        have := List.all_eq_true.1 mk3 (i, j) hij
        exact iv.kv j hj (listedOf j this) s hs'
      obtain ⟨hw, hm⟩ := hk i hik a' W iv.below hag hdp
      obtain ⟨d, hd, _⟩ := (distB_get hdist).1 i him
      rw [if_pos hw]
      refine .inl (wp_of_mk (V := V i) hm fun v W' hW' hv hf => ?_)
      rw [hd]
      exact next hd hW' (fun hh => absurd hh hih) (fun _ => hv) (fun _ => hf)


/-- the closed fact of such a region -/
def Region.planC (md : Region.Mode) (ops : Array Oper) (n : Nat) (D : List (Nat × Nat)) (E h k t : List Nat) : Bool :=
  Region.noSelect ops && decide ((h ++ k) ++ t).Nodup && decide (0 < t.length) && Region.sinkE md ops E ((h ++ k) ++ t) (h ++ k).length && (E.all fun e => h.contains e && earlyB (ops.getD e default).op && Region.freeE md ops e) && Region.chainI md ops ((h ++ k) ++ t) (h ++ k).length &&
  Region.topB md ops (h ++ k) && (((h ++ k) ++ t).all fun i => decide (i < ops.size)) && Region.mkC md ops D h k && distB n (selOps ops (h ++ k)) &&
  ((List.range ops.size).all fun i => ((h ++ k) ++ t).contains i) && Region.seqE md ops t ((Array.range ops.size).map fun i => (h ++ k).contains i)

/-- **THE REGION**: 'h' in the order of the text, each of one value in whatever world comes, making new blocks alone; 'k' makers; 't' the tail in its one order. A: the act behind h. -/
theorem wp_region_chain {id : Nat} {Q : Exit → Act → World → Prop} {a : Act} {w : World} {l : List Oper} (D : List (Nat × Nat)) (E h k t : List Nat) (n : Nat) (V : Nat → Value → World → Prop) (N : Value → Value → Prop) (hm : P.follows .mixedOrders = true) (hB : Region.planC .any l.toArray n D E h k t = true) (hsz : a.tmps.size = n) (A : Act) (hQ : ∀ c (a : Act) d v w, Q (.panic c) (a.put d v) w → Q (.panic c) a w)
    (H : ∀ W, Below w.heap.size w W → wpQuiet P l.toArray (fun w' => ∃ x, w' = W.ext x) (· = A) (h.map (l.getD · default)) a)
    (hV : ∀ i v W W', V i v W → Below W.heap.size W W' → V i v W')
    (hk : ∀ i ∈ k, MkAtC P l.toArray D k i A w V N)
    (hT : TailX P l.toArray Q w (t.map (l.getD · default)) V N k [] (fun _ => True) A) :
    (Code.region id l.toArray true).wp P Q a w := by
  have esel : ∀ is, selOps l.toArray is = is.map (l.getD · default) := fun is => by
    unfold selOps
    apply List.map_congr_left
    intro i _
    simp [Array.getD, List.getD_eq_getElem?_getD]
    split <;> rename_i h
    · rw [List.getElem?_eq_getElem h]; rfl
    · rw [List.getElem?_eq_none (by omega)]; rfl
  simp only [Region.planC, Bool.and_eq_true, decide_eq_true_eq] at hB
  obtain ⟨⟨⟨⟨⟨⟨⟨⟨⟨⟨⟨hsel, hnd⟩, ht0⟩, hs⟩, hE⟩, hc⟩, htop⟩, hin⟩, hmk⟩, hdist⟩, hall⟩, hseq⟩ := hB
  subst hsz
  have hin' : ∀ x, x < ((h ++ k) ++ t).length → ((h ++ k) ++ t).getD x 0 < l.toArray.size := fun x hx => by
    have := List.all_eq_true.1 hin (((h ++ k) ++ t).getD x 0) (by rw [List.getD_eq_getElem?_getD, List.getElem?_eq_getElem hx]; exact List.getElem_mem _)
    simpa using this
  have hdh : distB a.tmps.size (selOps l.toArray h) = true := by
    have hdist' := hdist
    simp only [distB, Bool.and_eq_true, decide_eq_true_eq] at hdist' ⊢
    unfold selOps at hdist' ⊢
    rw [List.map_append, List.map_append, List.all_append, Bool.and_eq_true] at hdist'
    exact ⟨hdist'.1.1, (List.nodup_append.1 hdist'.2).1⟩
  have hlex : LexX P l.toArray w A (selOps l.toArray h) a := lex_of _ _ hdh fun W hW => by rw [esel]; exact H W hW
  obtain ⟨sz1, df1⟩ := lex_size _ _ hlex
  refine wp_region_any hm ?_
  have hsz0 : ∀ i, (Array.replicate l.toArray.size false).getD i false = false := fun i => getD_replicate_false _ _
  have hlen : unl (h ++ k) (Array.replicate l.toArray.size false) + t.length = l.toArray.size := by
    have h1 : unl (h ++ k) (Array.replicate l.toArray.size false) = (h ++ k).length := by
      unfold unl
      rw [List.filter_eq_self.2]
      intro i hi
      obtain ⟨x, hx, he⟩ := List.mem_iff_getElem.1 hi
      have := hin' x (by rw [@List.length_append Nat (h ++ k) t]; omega)
      rw [List.getD_eq_getElem?_getD, List.getElem?_append_left hx, List.getElem?_eq_getElem hx] at this
      simp only [Option.getD_some, he] at this
      have h2 : i < l.length := by simpa using this
      simp [h2]
    rw [h1, ← List.length_append]
    have h3 : ((h ++ k) ++ t).length ≤ (List.range l.toArray.size).length := nodup_le _ _ hnd fun i hi => by
      obtain ⟨x, hx, he⟩ := List.mem_iff_getElem.1 hi
      have := hin' x hx
      rw [List.getD_eq_getElem?_getD, List.getElem?_eq_getElem hx] at this
      simp only [Option.getD_some, he] at this
      exact List.mem_range.2 this
    have h4 : (List.range l.toArray.size).length ≤ ((h ++ k) ++ t).length := nodup_le _ _ List.nodup_range fun i hi => by
      have := List.all_eq_true.1 hall i hi
      simpa using this
    rw [List.length_range] at h3 h4
    omega
  have hFIN : ∀ (listed : Array Bool) (a' : Act) (W : World), HeadI .any l.toArray ((h ++ k) ++ t) (h ++ k).length listed → (∀ i ∈ h ++ k, listed.getD i true = true) → InvM l.toArray a A w h k V N listed a' W → wpAny P .any l.toArray Q t.length listed a' W := by
    intro listed a' W inv hl iv
    have hlist : listed = (Array.range l.toArray.size).map fun i => (h ++ k).contains i := by
      apply Array.ext
      · rw [inv.size]; simp
      · intro i h1 h2
        have hi : i < l.toArray.size := by rw [← inv.size]; exact h1
        simp only [Array.getElem_map, Array.getElem_range]
        by_cases hm : i ∈ h ++ k
        · have := hl i hm
          simp [h1] at this
          rw [this]
          symm
          simpa using hm
        · have hm' := List.all_eq_true.1 hall i (List.mem_range.2 hi)
          simp only [List.contains_eq_mem, decide_eq_true_eq] at hm'
          have ht' : i ∈ t := (List.mem_append.1 hm').resolve_left hm
          obtain ⟨y, hy, he⟩ := List.mem_iff_getElem.1 ht'
          have := inv.tail ((h ++ k).length + y) (by omega) (by rw [@List.length_append Nat (h ++ k) t]; omega)
          rw [List.getD_eq_getElem?_getD, List.getElem?_append_right (by omega), show (h ++ k).length + y - (h ++ k).length = y by omega, List.getElem?_eq_getElem hy] at this
          simp only [Option.getD_some, he] at this
          simp [h1] at this
          rw [this]
          symm
          simp only [List.contains_eq_mem, decide_eq_false_iff_not]
          exact hm
    have lst : ∀ i ∈ h ++ k, listed.getD i false = true := fun i hi => by
      have := hl i hi
      have hii := List.all_eq_true.1 hin i (by simp only [List.mem_append] at hi ⊢; exact Or.inl hi)
      have hii' : i < listed.size := by rw [inv.size]; simpa using hii
      simp [hii'] at this ⊢; exact this
    refine wpAny_of_seqE hsel hQ t listed a' W (fun i hi => ?_) (by rw [hlist]; exact hseq) ?_
    · have := List.all_eq_true.1 hin i (by simp [hi])
      simpa using this
    · rw [esel]
      refine tail_of iv.below k [] (fun _ => True) A (by rw [sz1, iv.size]) (by rw [df1, iv.defers]) (fun i hi => ?_) (fun s hs' => ?_) (List.nodup_append.1 (List.nodup_append.1 hnd).1).2.1 (fun x hx y hy hxy => iv.ap x hx y hy hxy (lst x (by simp [hx])) (lst y (by simp [hy]))) trivial hT
      · obtain ⟨d, hd, _⟩ := (distB_get hdist).1 i (by simp [hi])
        obtain ⟨v, e, hv⟩ := iv.kv i hi (by
          have := hl i (by simp [hi])
          have hii := List.all_eq_true.1 hin i (by simp [hi])
          have hii' : i < listed.size := by rw [inv.size]; simpa using hii
          simp [hii'] at this ⊢; exact this) d hd
        exact ⟨d, v, hd, e, hv, fun u hu => by cases hu⟩
      · by_cases hx : ∃ j ∈ h, (l.toArray.getD j default).dst = some s
        · obtain ⟨j, hj, hjs⟩ := hx
          refine iv.hv j hj ?_ s hjs
          have := hl j (by simp [hj])
          have hii := List.all_eq_true.1 hin j (by simp [hj])
          have hii' : j < listed.size := by rw [inv.size]; simpa using hii
          simp [hii'] at this ⊢; exact this
        · rw [lex_keeps (selOps l.toArray h) a (fun o ho e => by
            unfold selOps at ho
            obtain ⟨j, hj, rfl⟩ := List.mem_map.1 ho
            exact hx ⟨j, hj, e⟩) hlex]
          refine iv.old s fun j hj hjs => ?_
          rcases List.mem_append.1 hj with hj | hj
          · exact absurd ⟨j, hj, hjs⟩ hx
          · exact absurd hjs (hs' j hj)
  have hHD : HeadI .any l.toArray ((h ++ k) ++ t) (h ++ k).length (Array.replicate l.toArray.size false) := by
    refine ⟨by simp, fun j oj hj hl => ?_, fun i hi hl => ?_, fun y hy hyl => ?_, hin'⟩
    · rw [hsz0 j] at hl; cases hl
    · have := List.all_eq_true.1 hall i (List.mem_range.2 hi)
      simp only [List.contains_eq_mem, decide_eq_true_eq] at this
      obtain ⟨x, hx, he⟩ := List.mem_iff_getElem.1 this
      exact ⟨x, hx, by rw [List.getD_eq_getElem?_getD, List.getElem?_eq_getElem hx]; exact he⟩
    · have := hin' y hyl
      have h2 : ((h ++ k) ++ t).getD y 0 < l.length := by simpa using this
      exact getD_in (by simpa using h2) (hsz0 _)
  have hIV : InvM l.toArray a A w h k V N (Array.replicate l.toArray.size false) a w.drew := by
    exact ⟨(Below.refl w.heap.size w).drew, rfl, rfl, fun i hi hl => (by rw [hsz0 i] at hl; cases hl), fun i hi hl => (by rw [hsz0 i] at hl; cases hl), fun s _ => rfl, fun i hi j hj hij hl => (by rw [hsz0 i] at hl; cases hl)⟩
  have hE' : ∀ e ∈ E, e ∈ h ∧ earlyB (l.toArray.getD e default).op = true ∧ Region.freeE .any l.toArray e = true := fun e he => by
    have := List.all_eq_true.1 hE e he
    simp only [Bool.and_eq_true, List.contains_eq_mem, decide_eq_true_eq] at this
    exact ⟨this.1.1, this.1.2, this.2⟩
  have key := wpAny_mkC (Q := Q) (E := E) (A := A) (w := w) (h := h) (k := k) (V := V) hsel hnd (fun e he => (hE' e he).1) (fun e he => (hE' e he).2.1) (fun e he => (hE' e he).2.2) hQ hs hc ht0 htop hin' hmk hdist hlex hk hV hFIN _ (Array.replicate l.toArray.size false) a w.drew rfl hHD hIV
  rw [hlen] at key
  exact key
/-- .. in the form in which a walk finds A out: 'refine wp_region_chainE ..; apply Exists.intro; refine ⟨fun X hX => ?_, ?_, ?_⟩' -/
theorem wp_region_chainE {id : Nat} {Q : Exit → Act → World → Prop} {a : Act} {w : World} {l : List Oper} (D : List (Nat × Nat)) (E h k t : List Nat) (n : Nat) (V : Nat → Value → World → Prop) (N : Value → Value → Prop) (hm : P.follows .mixedOrders = true) (hB : Region.planC .any l.toArray n D E h k t = true) (hsz : a.tmps.size = n)
    (hV : ∀ i v W W', V i v W → Below W.heap.size W W' → V i v W')
    (H : ∃ A, (∀ W, Below w.heap.size w W → wpQuiet P l.toArray (fun w' => ∃ x, w' = W.ext x) (· = A) (h.map (l.getD · default)) a) ∧ (∀ i ∈ k, MkAtC P l.toArray D k i A w V N) ∧ TailX P l.toArray Q w (t.map (l.getD · default)) V N k [] (fun _ => True) A)
    (hQ : ∀ c (a : Act) d v w, Q (.panic c) (a.put d v) w → Q (.panic c) a w := by intro c a d v w h; cases d <;> exact h) :
    (Code.region id l.toArray true).wp P Q a w := by
  obtain ⟨A, h1, h2, h3⟩ := H
  exact wp_region_chain D E h k t n V N hm hB hsz A hQ h1 hV h2 h3
end
end Go.Proofs.Ytmnbnjiipnocaaa
/- a drawing region, its loads first (under S); then two makers beside a third (a diamond); then a tail. -/
namespace Go.Proofs.Ytmnbnjiipnocaaa
open Go Go.RowKit
set_option linter.unusedVariables false
set_option linter.unusedSimpArgs false
section
variable {P : Program} {ops : Array Oper} {md : Region.Mode} {Q : Exit → Act → World → Prop} {S : World → Prop}

theorem wpOp_val {i : Nat} {a : Act} {w W' : World} {v : Value} {K : Act → World → Prop} (hi : i < ops.size) (hg : (ops.getD i default).guard = none) (hr : (execOp a.eval (ops.getD i default)).run P w = .ok (.value v) W') (h : K (a.put (ops.getD i default).dst v) W') : wpOp P ops Q i K a w := by
  unfold wpOp
  simp only [getD_some hi]
  rw [if_pos (by unfold Region.wanted; rw [hg])]
  refine .inl ?_
  unfold Oper.wp
  rw [hr]
  exact h
theorem put_comm (a : Act) {d e : Nat} (u v : Value) (h : d ≠ e) : (a.put (some d) u).put (some e) v = (a.put (some e) v).put (some d) u := by
  simp only [Act.put]
  rw [Array.setIfInBounds_comm _ _ h]
theorem exec_put {o : Oper} (hs : ∀ cs b, o.op ≠ .select cs b) (a : Act) (d : Nat) (u : Value) (h : (o.looksAt ops).contains d = false) : execOp (a.put (some d) u).eval o = execOp a.eval o :=
  (looks_same hs fun s hs' => by
    have hne : s ≠ d := by
      intro e
      subst e
      rw [List.contains_eq_mem, decide_eq_false_iff_not] at h
      exact h hs'
    simp [Act.put, Array.getElem?_setIfInBounds, Ne.symm hne]).1
theorem takeFirst {i : Nat} {v : Value} {fuel : Nat} {listed : Array Bool} {a : Act} {w : World} (d : Nat) (z : i < ops.size) (hd : (ops.getD i default).dst = some d)
    (hs : Region.noSelect ops = true) (hf : Region.free md ops listed i = true) (hr : (Region.ready md ops listed).contains i = true)
    (hQ : ∀ c (a : Act) w, Q (.panic c) (a.put (some d) v) w → Q (.panic c) a w) (hy : YieldsIf P ops S (ops.getD i default) v a) (hS : S w)
    (h : wpAnyH P md ops Q S fuel (listed.setIfInBounds i true) (a.put (some d) v) w) : wpAnyH P md ops Q S (fuel + 1) listed a w :=
  wpAnyH_take (getD_some z) hs hf hr (fun c a w => by rw [hd]; exact hQ c a w) hy hS (by rw [hd]; exact h)
/-- the closed fact of the diamond: i1 ahead of i3; i5 beside them -/
def diaB (md : Region.Mode) (ops : Array Oper) (listed : Array Bool) (i1 i3 i5 d1 d3 d5 : Nat) : Bool :=
  decide (Region.ready md ops listed = [i1, i5]) && decide (Region.ready md ops (listed.setIfInBounds i1 true) = [i3, i5]) && decide (Region.ready md ops ((listed.setIfInBounds i1 true).setIfInBounds i3 true) = [i5]) &&
  decide (Region.ready md ops ((listed.setIfInBounds i1 true).setIfInBounds i5 true) = [i3]) && decide (Region.ready md ops (listed.setIfInBounds i5 true) = [i1]) &&
  decide (i1 < ops.size) && decide (i3 < ops.size) && decide (i5 < ops.size) && ((ops.getD i1 default).guard == none) && ((ops.getD i3 default).guard == none) && ((ops.getD i5 default).guard == none) &&
  ((ops.getD i1 default).dst == some d1) && ((ops.getD i3 default).dst == some d3) && ((ops.getD i5 default).dst == some d5) &&
  decide (i1 ≠ i3) && decide (i1 ≠ i5) && decide (i3 ≠ i5) && decide (d1 ≠ d3) && decide (d1 ≠ d5) && decide (d3 ≠ d5) &&
  (((ops.getD i1 default).looksAt ops).contains d5 == false) && (((ops.getD i3 default).looksAt ops).contains d5 == false) && (((ops.getD i5 default).looksAt ops).contains d1 == false) && (((ops.getD i5 default).looksAt ops).contains d3 == false)
theorem diamond {fuel : Nat} {listed : Array Bool} {a : Act} {w : World} (i1 i3 i5 d1 d3 d5 : Nat) (hsel : Region.noSelect ops = true) (hB : diaB md ops listed i1 i3 i5 d1 d3 d5 = true) (V1 V3 V5 : Value → World → Prop)
    (h1 : ∀ W, S W → ∃ v W', (execOp a.eval (ops.getD i1 default)).run P W = .ok (.value v) W' ∧ S W' ∧ V1 v W' ∧ ∀ u, V5 u W → V5 u W')
    (h3 : ∀ u W, S W → V1 u W → ∃ v W', (execOp (a.put (some d1) u).eval (ops.getD i3 default)).run P W = .ok (.value v) W' ∧ S W' ∧ V3 v W' ∧ ∀ u, V5 u W → V5 u W')
    (h5 : ∀ W, S W → ∃ v W', (execOp a.eval (ops.getD i5 default)).run P W = .ok (.value v) W' ∧ S W' ∧ V5 v W' ∧ (∀ u, V1 u W → V1 u W') ∧ ∀ u, V3 u W → V3 u W')
    (hS : S w)
    (REST : ∀ u1 u3 u5 W, S W → V3 u3 W → V5 u5 W → wpAnyH P md ops Q S fuel (((listed.setIfInBounds i1 true).setIfInBounds i3 true).setIfInBounds i5 true) (((a.put (some d1) u1).put (some d3) u3).put (some d5) u5) W) :
    wpAnyH P md ops Q S (fuel + 3) listed a w := by
  simp only [diaB, Bool.and_eq_true, decide_eq_true_eq, beq_iff_eq] at hB
  obtain ⟨⟨⟨⟨⟨⟨⟨⟨⟨⟨⟨⟨⟨⟨⟨⟨⟨⟨⟨⟨⟨⟨⟨r0, r1⟩, r13⟩, r15⟩, r5⟩, z1⟩, z3⟩, z5⟩, g1⟩, g3⟩, g5⟩, e1⟩, e3⟩, e5⟩, n13⟩, n15⟩, n35⟩, m13⟩, m15⟩, m35⟩, l15⟩, l35⟩, l51⟩, l53⟩ := hB
  have s1 : ∀ cs b, (ops.getD i1 default).op ≠ .select cs b := fun cs b => Region.noSelect_spec hsel i1 _ cs b (getD_some z1)
  have s3 : ∀ cs b, (ops.getD i3 default).op ≠ .select cs b := fun cs b => Region.noSelect_spec hsel i3 _ cs b (getD_some z3)
  have s5 : ∀ cs b, (ops.getD i5 default).op ≠ .select cs b := fun cs b => Region.noSelect_spec hsel i5 _ cs b (getD_some z5)
  refine wpAnyH_all r0 (by simp) fun i hi => ?_
  simp only [List.mem_cons, List.not_mem_nil, or_false] at hi
  rcases hi with rfl | rfl
  · obtain ⟨v1, W1, q1, S1, p1, _⟩ := h1 w hS
    refine wpOp_val z1 g1 q1 ⟨S1, ?_⟩
    rw [e1]
    refine wpAnyH_all r1 (by simp) fun j hj => ?_
    simp only [List.mem_cons, List.not_mem_nil, or_false] at hj
    rcases hj with rfl | rfl
    · obtain ⟨v3, W3, q3, S3, p3, _⟩ := h3 v1 W1 S1 p1
      refine wpOp_val z3 g3 q3 ⟨S3, ?_⟩
      rw [e3]
      refine wpAnyH_all r13 (by simp) fun k hk => ?_
      simp only [List.mem_cons, List.not_mem_nil, or_false] at hk
      subst hk
      obtain ⟨v5, W5, q5, S5, p5, _, k3⟩ := h5 W3 S3
      refine wpOp_val z5 g5 (by rw [exec_put s5 _ _ _ l53, exec_put s5 _ _ _ l51]; exact q5) ⟨S5, ?_⟩
      rw [e5]
      exact REST v1 v3 v5 W5 S5 (k3 _ p3) p5
    · obtain ⟨v5, W5, q5, S5, p5, k1, _⟩ := h5 W1 S1
      refine wpOp_val z5 g5 (by rw [exec_put s5 _ _ _ l51]; exact q5) ⟨S5, ?_⟩
      rw [e5]
      refine wpAnyH_all r15 (by simp) fun k hk => ?_
      simp only [List.mem_cons, List.not_mem_nil, or_false] at hk
      subst hk
      obtain ⟨v3, W3, q3, S3, p3, k5⟩ := h3 v1 W5 S5 (k1 _ p1)
      refine wpOp_val z3 g3 (by rw [exec_put s3 _ _ _ l35]; exact q3) ⟨S3, ?_⟩
      rw [e3, put_comm _ _ _ m35.symm, Array.setIfInBounds_comm _ _ n35.symm]
      exact REST v1 v3 v5 W3 S3 p3 (k5 _ p5)
  · obtain ⟨v5, W5, q5, S5, p5, _, _⟩ := h5 w hS
    refine wpOp_val z5 g5 q5 ⟨S5, ?_⟩
    rw [e5]
    refine wpAnyH_all r5 (by simp) fun j hj => ?_
    simp only [List.mem_cons, List.not_mem_nil, or_false] at hj
    subst hj
    obtain ⟨v1, W1, q1, S1, p1, k5⟩ := h1 W5 S5
    refine wpOp_val z1 g1 (by rw [exec_put s1 _ _ _ l15]; exact q1) ⟨S1, ?_⟩
    rw [e1, put_comm _ _ _ m15.symm, Array.setIfInBounds_comm _ _ n15.symm]
    refine wpAnyH_all r15 (by simp) fun k hk => ?_
    simp only [List.mem_cons, List.not_mem_nil, or_false] at hk
    subst hk
    obtain ⟨v3, W3, q3, S3, p3, k5'⟩ := h3 v1 W1 S1 p1
    refine wpOp_val z3 g3 (by rw [exec_put s3 _ _ _ l35]; exact q3) ⟨S3, ?_⟩
    rw [e3, put_comm _ _ _ m35.symm, Array.setIfInBounds_comm _ _ n35.symm]
    exact REST v1 v3 v5 W3 S3 p3 (k5' _ (k5 _ p5))

/-- a tail, S kept -/
def wpListS (P : Program) (ops : Array Oper) (Q : Exit → Act → World → Prop) (S : World → Prop) : List Nat → Act → World → Prop
  | [], a, w => Q .normal a w
  | i :: t, a, w => wpOp P ops Q i (fun a' w' => S w' ∧ wpListS P ops Q S t a' w') a w
theorem stepS {i : Nat} {t : List Nat} {a : Act} {w W' : World} {v : Value} (d : Nat) (hd : (ops.getD i default).dst = some d) (hi : i < ops.size) (hg : (ops.getD i default).guard = none) (hr : (execOp a.eval (ops.getD i default)).run P w = .ok (.value v) W') (hS : S W') (h : wpListS P ops Q S t (a.put (some d) v) W') : wpListS P ops Q S (i :: t) a w :=
  wpOp_val hi hg hr ⟨hS, by rw [hd]; exact h⟩
theorem stepS_call {i : Nat} {t : List Nat} {a : Act} {w : World} {f : FuncId} {args : Array Value} {v : Value} {C : World → Prop} (d : Nat) (hd : (ops.getD i default).dst = some d) (hi : i < ops.size) (hg : (ops.getD i default).guard = none) (hr : (execOp a.eval (ops.getD i default)).run P w = .ok (.enter f args) w)
    (hc : Calls P f args w fun e w' => e = .returned v ∧ C w') (hS : ∀ W', C W' → S W') (h : ∀ W', C W' → wpListS P ops Q S t (a.put (some d) v) W') : wpListS P ops Q S (i :: t) a w := by
  unfold wpListS wpOp
  simp only [getD_some hi]
  rw [if_pos (by unfold Region.wanted; rw [hg])]
  refine .inl ?_
  unfold Oper.wp
  rw [hr]
  refine hc.mono fun e w' he => ?_
  obtain ⟨rfl, hC⟩ := he
  rw [hd]
  exact ⟨hS w' hC, h w' hC⟩
theorem early_stepS {k : Nat} {o : Oper} {a : Act} {w : World} {tl : List Nat} (he : tailB o = true) (hi : ops[k]? = some o) (h : wpOp P ops Q k (fun a' w' => S w' ∧ wpListS P ops Q S tl a' w') a w) : ∃ v, Yields P ops o v a ∧ wpListS P ops Q S tl (a.put o.dst v) w := by
  unfold tailB at he
  cases ho : o.op <;> rw [ho] at he <;> first
    | (simp at he; done)
    | skip
  rename_i t ix
  have hg : o.guard = none := by simpa using he
  have hw : Region.wanted o (yielded ops a.tmps) = true := by simp [Region.wanted, hg]
  unfold wpOp at h
  simp only [hi] at h
  rw [if_pos hw] at h
  rcases h with h | ⟨h, _⟩
  · unfold Oper.wp execOp at h
    simp only [ho, Sem.run_pure, Sem.run_bind, Instr.extract] at h
    cases ht : a.eval t <;> rw [ht] at h <;> simp only [] at h <;> first
      | (simp [Result.andThen, Oper.upon] at h; done)
      | skip
    rename_i vs
    cases hx : vs[ix]? with
    | none => simp [hx, Result.andThen, Oper.upon] at h
    | some v =>
      refine ⟨v, Or.inl ⟨hw, fun w' => ?_⟩, ?_⟩
      · unfold execOp
        simp [ho, ht, Instr.extract, hx]
      · have h' : S w ∧ wpListS P ops Q S tl (a.put o.dst v) w := by simpa [hx, Result.andThen, Oper.upon] using h
        exact h'.2
  · exfalso
    unfold Oper.asks execOp at h
    simp only [ho] at h
    have h1 := h.1
    unfold Instr.extract at h1
    have hn : ∀ e : Event, e ∉ (#[] : Array Event) := by simp
    cases ht : a.eval t <;> rw [ht] at h1
    case tuple vs =>
      simp only at h1
      cases hx : vs[ix]? <;> rw [hx] at h1 <;> exact hn _ h1
    all_goals exact hn _ h1
theorem wpAnyH_of_seqE (hsel : Region.noSelect ops = true) (hQ : ∀ c (a : Act) d v w, Q (.panic c) (a.put d v) w → Q (.panic c) a w) : ∀ (t : List Nat) (listed : Array Bool) (a : Act) (w : World), S w → (∀ i ∈ t, i < ops.size) →
    Region.seqE md ops t listed = true → wpListS P ops Q S t a w → wpAnyH P md ops Q S t.length listed a w
  | [], _, _, _, _, _, hB, h => ⟨by simpa [Region.seqE] using hB, h⟩
  | k :: t, listed, a, w, hS, hl, hB, h => by
    have h0 := getD_some (hl k (by simp))
    simp only [Region.seqE, Bool.and_eq_true, Bool.or_eq_true, decide_eq_true_eq] at hB
    rcases hB.1 with hr | ⟨⟨hr, ht⟩, hf⟩
    · refine ⟨fun h1 => (by rw [hr] at h1; cases h1), fun i hi => ?_⟩
      rw [hr] at hi
      have hik : i = k := by simpa using hi
      subst hik
      exact wpOp_mono (fun a' w' h' => ⟨h'.1, wpAnyH_of_seqE hsel hQ t _ a' w' h'.1 (fun j hj => hl j (by simp [hj])) hB.2 h'.2⟩) h
    · have h3 : wpOp P ops Q k (fun a' w' => S w' ∧ wpListS P ops Q S t a' w') a w := h
      obtain ⟨v, hy, h4⟩ := early_stepS ht h0 h3
      exact wpAnyH_take h0 hsel (free_any (by simpa using hr) hf) hr (fun c a w => hQ c a _ v w) hy.yieldsIf hS (wpAnyH_of_seqE hsel hQ t _ _ _ hS (fun j hj => hl j (by simp [hj])) hB.2 h4)
end
end Go.Proofs.Ytmnbnjiipnocaaa
/- a drawing region whose operations turn the memory: what has a fixed value under S is taken first; then a chain of steps, in its one order, beside one operation that may come at any time; then a tail. -/
namespace Go.Proofs.Ytmnbnjiipnocaaa
open Go Go.RowKit
set_option linter.unusedVariables false
set_option linter.unusedSimpArgs false
section
variable {P : Program} {ops : Array Oper} {md : Region.Mode} {Q : Exit → Act → World → Prop} {S : World → Prop}

def setAll (listed : Array Bool) : List (Nat × Nat) → Array Bool
  | [] => listed
  | e :: es => setAll (listed.setIfInBounds e.1 true) es
def putAll (a : Act) : List (Nat × Nat) → List Value → Act
  | e :: es, v :: vs => putAll (a.put (some e.2) v) es vs
  | _, _ => a
def takeB (md : Region.Mode) (ops : Array Oper) : List (Nat × Nat) → Array Bool → Bool
  | [], _ => true
  | e :: es, listed => decide (e.1 < ops.size) && ((ops.getD e.1 default).dst == some e.2) && Region.free md ops listed e.1 && (Region.ready md ops listed).contains e.1 && takeB md ops es (listed.setIfInBounds e.1 true)
/-- each has its value in every world that meets S -/
def TakeOK (P : Program) (ops : Array Oper) (S : World → Prop) : List (Nat × Nat) → List Value → Act → Prop
  | [], [], _ => True
  | e :: es, v :: vs, a => YieldsIf P ops S (ops.getD e.1 default) v a ∧ TakeOK P ops S es vs (a.put (some e.2) v)
  | _, _, _ => False
theorem takeAll (hs : Region.noSelect ops = true) (hQ : ∀ c (a : Act) d v w, Q (.panic c) (a.put d v) w → Q (.panic c) a w) : ∀ (es : List (Nat × Nat)) (vs : List Value) (listed : Array Bool) (a : Act) (w : World) (fuel : Nat), takeB md ops es listed = true → TakeOK P ops S es vs a → S w → wpAnyH P md ops Q S fuel (setAll listed es) (putAll a es vs) w → wpAnyH P md ops Q S (fuel + es.length) listed a w
  | [], vs, listed, a, w, fuel, _, hT, _, h => by
    cases vs with
    | nil => exact h
    | cons v vs => exact hT.elim
  | e :: es, vs, listed, a, w, fuel, hB, hT, hS, h => by
    cases vs with
    | nil => exact hT.elim
    | cons v vs =>
      unfold takeB at hB
      simp only [Bool.and_eq_true, decide_eq_true_eq, beq_iff_eq] at hB
      obtain ⟨⟨⟨⟨b1, b2⟩, b3⟩, b4⟩, b5⟩ := hB
      have h2 := takeAll hs hQ es vs _ _ w fuel b5 hT.2 hS h
      exact takeFirst e.2 b1 b2 hs b3 b4 (fun c a w hh => hQ c a _ v w hh) hT.1 hS h2
/-- a step that answers v, in a world that meets C -/
def StepTo (P : Program) (sem : Sem Next) (W : World) (v : Value) (C : World → Prop) : Prop :=
  (∃ W', sem.run P W = .ok (.value v) W' ∧ C W') ∨ ∃ f args, sem.run P W = .ok (.enter f args) W ∧ Calls P f args W fun e W' => e = .returned v ∧ C W'
theorem StepTo.mono {sem : Sem Next} {W : World} {v : Value} {C C' : World → Prop} (h : StepTo P sem W v C) (hC : ∀ W', C W' → C' W') : StepTo P sem W v C' := by
  rcases h with ⟨W', h1, h2⟩ | ⟨f, args, h1, h2⟩
  · exact Or.inl ⟨W', h1, hC _ h2⟩
  · exact Or.inr ⟨f, args, h1, h2.mono fun e W' ⟨he, hc⟩ => ⟨he, hC _ hc⟩⟩
theorem StepTo.wpOp {i : Nat} {a : Act} {w : World} {v : Value} {C : World → Prop} {K : Act → World → Prop} {d : Nat} (hi : i < ops.size) (hg : (ops.getD i default).guard = none) (hd : (ops.getD i default).dst = some d) (h : StepTo P (execOp a.eval (ops.getD i default)) w v C) (hK : ∀ W', C W' → K (a.put (some d) v) W') : Go.wpOp P ops Q i K a w := by
  unfold Go.wpOp
  simp only [getD_some hi]
  rw [if_pos (by unfold Region.wanted; rw [hg])]
  refine .inl ?_
  unfold Oper.wp
  rcases h with ⟨W', h1, h2⟩ | ⟨f, args, h1, h2⟩
  · rw [h1]
    show K (a.put _ v) W'
    rw [hd]
    exact hK _ h2
  · rw [h1]
    refine h2.mono fun e W' he => ?_
    obtain ⟨rfl, hC⟩ := he
    show K (a.put _ v) W'
    rw [hd]
    exact hK _ hC
/-- each step of a chain, from a world that meets the one predicate to one that meets the next; what V says of the other operation's value stays -/
def ChainOK (P : Program) (ops : Array Oper) (S : World → Prop) (V : Value → World → Prop) (pf : World → Prop) : List (Nat × Nat) → List Value → List (World → Prop) → Act → Prop
  | [], [], [p], _ => ∀ W, p W → pf W
  | e :: es, v :: vs, p :: q :: ps, a => (∀ W, S W → p W → StepTo P (execOp a.eval (ops.getD e.1 default)) W v fun W' => S W' ∧ q W' ∧ ∀ u, V u W → V u W') ∧ ChainOK P ops S V pf es vs (q :: ps) (a.put (some e.2) v)
  | _, _, _, _ => False
def seqSB (md : Region.Mode) (ops : Array Oper) : List (Nat × Nat) → Array Bool → Bool
  | [], _ => true
  | e :: es, listed => (Region.ready md ops listed != []) && (Region.ready md ops listed).all (· == e.1) && decide (e.1 < ops.size) && ((ops.getD e.1 default).guard == none) && ((ops.getD e.1 default).dst == some e.2) && seqSB md ops es (listed.setIfInBounds e.1 true)
def combB (md : Region.Mode) (ops : Array Oper) (x dx : Nat) : List (Nat × Nat) → Array Bool → Bool
  | [], listed => (Region.ready md ops listed != []) && (Region.ready md ops listed).all (· == x)
  | e :: es, listed => (Region.ready md ops listed != []) && (Region.ready md ops listed).all (fun k => k == e.1 || k == x) && decide (e.1 < ops.size) && ((ops.getD e.1 default).guard == none) && ((ops.getD e.1 default).dst == some e.2) && decide (e.1 ≠ x) && decide (e.2 ≠ dx) && (((ops.getD e.1 default).looksAt ops).contains dx == false) && (((ops.getD x default).looksAt ops).contains e.2 == false) &&
    combB md ops x dx es (listed.setIfInBounds e.1 true) && seqSB md ops (e :: es) (listed.setIfInBounds x true)
variable {V : Value → World → Prop} {pf : World → Prop}
theorem ChainOK.put (hs : Region.noSelect ops = true) (dx : Nat) (u : Value) : ∀ (es : List (Nat × Nat)) (vs : List Value) (ps : List (World → Prop)) (a : Act), (∀ e ∈ es, e.1 < ops.size ∧ e.2 ≠ dx ∧ ((ops.getD e.1 default).looksAt ops).contains dx = false) → ChainOK P ops S V pf es vs ps a → ChainOK P ops S V pf es vs ps (a.put (some dx) u)
  | [], vs, ps, a, _, h => by
    match vs, ps, h with
    | [], [p], h => exact h
  | e :: es, vs, ps, a, hl, h => by
    match vs, ps, h with
    | v :: vs, p :: q :: ps, h =>
      obtain ⟨z, hd, hlk⟩ := hl e (by simp)
      have s1 : ∀ cs b, (ops.getD e.1 default).op ≠ .select cs b := fun cs b => Region.noSelect_spec hs e.1 _ cs b (getD_some z)
      refine ⟨fun W hS hp => ?_, ?_⟩
      · rw [exec_put s1 _ _ _ hlk]
        exact h.1 W hS hp
      · rw [put_comm _ _ _ hd.symm]
        exact ChainOK.put hs dx u es vs (q :: ps) _ (fun e' he' => hl e' (by simp [he'])) h.2
theorem seqS_run (u : Value) : ∀ (es : List (Nat × Nat)) (vs : List Value) (p : World → Prop) (ps : List (World → Prop)) (listed : Array Bool) (a : Act) (w : World) (fuel : Nat), seqSB md ops es listed = true → ChainOK P ops S V pf es vs (p :: ps) a → S w → p w → V u w →
    (∀ W, S W → pf W → V u W → wpAnyH P md ops Q S fuel (setAll listed es) (putAll a es vs) W) → wpAnyH P md ops Q S (fuel + es.length) listed a w
  | [], vs, p, ps, listed, a, w, fuel, _, hT, hS, hp, hV, h => by
    match vs, ps, hT with
    | [], [], hT => exact h w hS (hT w hp) hV
  | e :: es, vs, p, ps, listed, a, w, fuel, hB, hT, hS, hp, hV, h => by
    match vs, ps, hT with
    | v :: vs, q :: ps, hT =>
      unfold seqSB at hB
      simp only [Bool.and_eq_true, decide_eq_true_eq, beq_iff_eq, bne_iff_ne, ne_eq, List.all_eq_true] at hB
      obtain ⟨⟨⟨⟨⟨b0, b1⟩, b2⟩, b3⟩, b4⟩, b5⟩ := hB
      refine ⟨fun h0 => absurd h0 b0, fun i hi => ?_⟩
      obtain rfl := b1 i hi
      exact StepTo.wpOp b2 b3 b4 (hT.1 w hS hp) fun W' ⟨c1, c2, c3⟩ => ⟨c1, seqS_run u es vs q ps _ _ W' fuel b5 hT.2 c1 c2 (c3 u hV) h⟩
theorem combB_all {x dx : Nat} : ∀ (es : List (Nat × Nat)) (listed : Array Bool), combB md ops x dx es listed = true → ∀ e ∈ es, e.1 < ops.size ∧ e.2 ≠ dx ∧ ((ops.getD e.1 default).looksAt ops).contains dx = false
  | [], _, _, e, he => by cases he
  | e0 :: es, listed, hB, e, he => by
    unfold combB at hB
    simp only [Bool.and_eq_true, decide_eq_true_eq, beq_iff_eq] at hB
    obtain ⟨⟨⟨⟨⟨⟨⟨⟨⟨⟨_, _⟩, b2⟩, b3⟩, b4⟩, b5⟩, b6⟩, b7⟩, b8⟩, b9⟩, b10⟩ := hB
    rcases List.mem_cons.1 he with rfl | he
    · exact ⟨b2, b6, b7⟩
    · exact combB_all es _ b9 e he
theorem setAll_comm (x : Nat) : ∀ (es : List (Nat × Nat)) (listed : Array Bool), (∀ e ∈ es, e.1 ≠ x) → setAll (listed.setIfInBounds x true) es = (setAll listed es).setIfInBounds x true
  | [], _, _ => rfl
  | e :: es, listed, h => by
    show setAll ((listed.setIfInBounds x true).setIfInBounds e.1 true) es = _
    rw [Array.setIfInBounds_comm _ _ (h e (by simp)).symm, setAll_comm x es _ (fun e' he' => h e' (by simp [he']))]
    rfl
/-- a chain beside an operation that may come at any time -/
theorem comb (hs : Region.noSelect ops = true) (x dx : Nat) (hx0 : x < ops.size) (hxg : (ops.getD x default).guard = none) (hxd : (ops.getD x default).dst = some dx) : ∀ (es : List (Nat × Nat)) (vs : List Value) (p : World → Prop) (ps : List (World → Prop)) (listed : Array Bool) (a : Act) (w : World) (fuel : Nat),
    combB md ops x dx es listed = true → ChainOK P ops S V pf es vs (p :: ps) a →
    (∀ q ∈ p :: ps, ∀ W, S W → q W → ∃ u W', (execOp a.eval (ops.getD x default)).run P W = .ok (.value u) W' ∧ S W' ∧ q W' ∧ V u W') → S w → p w →
    (∀ u W, S W → pf W → V u W → wpAnyH P md ops Q S fuel (setAll (listed.setIfInBounds x true) es) (putAll (a.put (some dx) u) es vs) W) → wpAnyH P md ops Q S (fuel + es.length + 1) listed a w
  | [], vs, p, ps, listed, a, w, fuel, hB, hT, hX, hS, hp, h => by
    match vs, ps, hT with
    | [], [], hT =>
      unfold combB at hB
      simp only [Bool.and_eq_true, beq_iff_eq, bne_iff_ne, ne_eq, List.all_eq_true] at hB
      refine ⟨fun h0 => absurd h0 hB.1, fun i hi => ?_⟩
      obtain rfl := hB.2 i hi
      obtain ⟨u, W', h1, h2, h3, h4⟩ := hX p (by simp) w hS hp
      exact StepTo.wpOp hx0 hxg hxd (C := fun W'' => W'' = W') (Or.inl ⟨W', h1, rfl⟩) fun W'' e => by subst e; exact ⟨h2, h u _ h2 (hT _ h3) h4⟩
  | e :: es, vs, p, ps, listed, a, w, fuel, hB, hT, hX, hS, hp, h => by
    match vs, ps, hT with
    | v :: vs, q :: ps, hT =>
      have hB0 := hB
      unfold combB at hB
      simp only [Bool.and_eq_true, decide_eq_true_eq, beq_iff_eq, bne_iff_ne, ne_eq, List.all_eq_true, Bool.or_eq_true] at hB
      obtain ⟨⟨⟨⟨⟨⟨⟨⟨⟨⟨b0, b1⟩, b2⟩, b3⟩, b4⟩, b5⟩, b6⟩, b7⟩, b8⟩, b9⟩, b10⟩ := hB
      have sx : ∀ cs b, (ops.getD x default).op ≠ .select cs b := fun cs b => Region.noSelect_spec hs x _ cs b (getD_some hx0)
      refine ⟨fun h0 => absurd h0 b0, fun i hi => ?_⟩
      rcases b1 i hi with rfl | rfl
      · refine StepTo.wpOp b2 b3 b4 (hT.1 w hS hp) fun W' ⟨c1, c2, c3⟩ => ⟨c1, ?_⟩
        refine comb hs x dx hx0 hxg hxd es vs q ps _ _ W' fuel b9 hT.2 (fun r hr W hW hr2 => ?_) c1 c2 (fun u W hW hf hV => ?_)
        · rw [exec_put sx _ _ _ b8]
          exact hX r (by simp [List.mem_cons.1 hr]) W hW hr2
        · have := h u W hW hf hV
          rw [put_comm _ _ _ b6, Array.setIfInBounds_comm _ _ b5]
          exact this
      · obtain ⟨u, W', h1, h2, h3, h4⟩ := hX p (by simp) w hS hp
        refine StepTo.wpOp hx0 hxg hxd (C := fun W'' => W'' = W') (Or.inl ⟨W', h1, rfl⟩) fun W'' e' => ?_
        subst e'
        exact ⟨h2, seqS_run u (e :: es) (v :: vs) p (q :: ps) _ _ _ fuel b10 (ChainOK.put hs dx u _ _ _ _ (combB_all _ _ hB0) hT) h2 h3 h4 (fun W c1 c2 c3 => h u W c1 c2 c3)⟩
end
theorem exec_load {P : Program} {o : Oper} {a : Act} {ty : TypeId} {x : Operand} (ho : o.op = .load ty x) {pv v : Value} (hx : a.eval x = pv) {w : World} (hr : (Instr.loadAt ty pv).run P w = .ok v w) : (execOp a.eval o).run P w = .ok (.value v) w := by
  subst hx
  unfold execOp
  simp only [ho, Sem.run_bind, hr, Result.andThen_ok, Sem.run_pure]
end Go.Proofs.Ytmnbnjiipnocaaa
/- sender: Send, what it answers. -/
namespace Go.Proofs.Ytmnbnjiipnocaaa
open Go Go.RowKit
set_option linter.unusedVariables false
set_option linter.unusedSimpArgs false
attribute [local go_sem] bmax2 bmin2 bmax bmin cell_ext frozen_ext

/-- the first interval whose key is kept -/
def loOf (d : Int) (L : Nat) : Nat := max 1 ((L : Int) - d).toNat
/-- a sender that sent last in interval L; X: its blocks -/
def SX (B : Nat) (w : World) (X : Nat → Prop) (b : Nat) (S : List UInt8) (s l d c : Int) (n L : Nat) : Prop := ∃ bw g ad cp, SK B w b bw g ad cp S s l d c n (loOf d L) (L + 1) (L : Int) ∧ X = sdX b bw g ad
def sendE (s l c : Int) (L : Nat) (now : Int) (t : ByteArray) : Int := if (atP s l c now).2 = 0 then (if (atP s l c now).1 < (L : Int) then 14 else if 1000 < t.size then 5 else 0) else (atP s l c now).2
def sendL (s l c : Int) (L : Nat) (now : Int) (t : ByteArray) : Nat := if sendE s l c L now t = 0 then (atP s l c now).1.toNat else L
/-- the packet of an interval -/
def goodPk (F : Nat → List UInt8) (d : Int) (n i : Nat) (t : ByteArray) : List Value := pkL (i : Int) t (str (tagD (F (n - i)) (i : Int) t)) (((i : Int) - d).toNat : Nat) (if ((i : Int) - d).toNat = 0 then zeroK else F (n - ((i : Int) - d).toNat))
def sendPk (S : List UInt8) (s l d c : Int) (n L : Nat) (now : Int) (t : ByteArray) : List Value := if sendE s l c L now t = 0 then goodPk (chK S) d n (atP s l c now).1.toNat t else zeroPk
/-- Send's end -/
def SendEnd (B : Nat) (w : World) (X : Nat → Prop) (b : Nat) (S : List UInt8) (s l d c : Int) (n L L' : Nat) (pk : List Value) (er : Int) (e : Ending) (w' : World) : Prop :=
  ∃ X', e = .returned (.tuple #[.agg pk.toArray, .int .i64 er]) ∧ SX B w' X' b S s l d c n L' ∧ FrP X w w' ∧ ∀ k, X' k → X k ∨ w.heap.size ≤ k
theorem zeroPk_length : zeroPk.length = 36 := by kernel_rfl
theorem zeroPk_one : ∀ v ∈ zeroPk, v.oneCell' = true := pkL_one _ _ _ _ _
section
variable {P : Program}
theorem exec_store {o : Oper} {a : Act} {w w' : World} (ty : TypeId) (x y : Operand) (ho : o.op = .store ty x y) {pv v : Value} (hx : a.eval x = pv) (hy : a.eval y = v) (hr : (Instr.storeAt ty pv v).run P w = .ok () w') : (execOp a.eval o).run P w = .ok .skip w' := by
  unfold execOp
  simp only [ho, hx, hy, Sem.run_bind, hr, Result.andThen_ok, Sem.run_pure]
theorem stepS_skip {ops : Array Oper} {Q : Exit → Act → World → Prop} {S : World → Prop} {i : Nat} {t : List Nat} {a : Act} {w W' : World} (hd : (ops.getD i default).dst = none) (hi : i < ops.size) (hg : (ops.getD i default).guard = none) (hr : (execOp a.eval (ops.getD i default)).run P w = .ok .skip W') (hS : S W') (h : wpListS P ops Q S t a W') : wpListS P ops Q S (i :: t) a w := by
  unfold wpListS wpOp
  simp only [getD_some hi]
  rw [if_pos (by unfold Region.wanted; rw [hg])]
  refine .inl ?_
  unfold Oper.wp
  rw [hr]
  show S W' ∧ wpListS P ops Q S t (a.put _ undef) W'
  rw [hd]
  exact ⟨hS, h⟩
end
/-- refused: nothing turns -/
theorem SX.same {B : Nat} {w w' : World} {X : Nat → Prop} {b : Nat} {S : List UInt8} {s l d c : Int} {n L : Nat} (h : SX B w X b S s l d c n L) (hb : Below w.heap.size w w') : SX B w' X b S s l d c n L := by
  obtain ⟨bw, g, ad, cp, h, hX⟩ := h
  exact ⟨bw, g, ad, cp, h.bel hb, hX⟩
set_option maxHeartbeats 4000000 in
set_option maxRecDepth 100000 in
theorem S_Send_bad {B : Nat} {w : World} {X : Nat → Prop} {b : Nat} {S : List UInt8} {s l d c : Int} {n L : Nat} (h : SX B w X b S s l d c n L) (hS : S.length = 32) (hm : mayP s l d c = true) (now : Int) (ht0 : -9223372036854775808 ≤ now) (ht1 : now < 9223372036854775808) (t : ByteArray) (ht : t.size ≤ 1099511000) (hbad : sendE s l c L now t ≠ 0) :
    Calls Try.prog 15 #[.pointer (some ⟨b, 0, none⟩), .int .i64 now, .string t] w fun e w' => e = .returned (.tuple #[.agg zeroPk.toArray, .int .i64 (sendE s l c L now t)]) ∧ Below w.heap.size w w' := by
  have cA := kp (fun w' => P_At s l d c now hm ht0 ht1 w')
  obtain ⟨bw, g, ad, cp, hsk, hX⟩ := h
  have HN := kp (Blk.new w 44 zeroPk.toArray)
  have hb0 := ba (Below.refl w.heap.size w) (.cells zeroPk.toArray 44)
  have HSK := kp (hsk.bel hb0)
  have HB := kp hb0
  clear hb0 hX hsk
  unfold sendE at hbad ⊢
  have HSL := kp hS
  obtain ⟨AI, hAI⟩ : ∃ AI, (atP s l c now).1 = AI := ⟨_, rfl⟩
  obtain ⟨AE, hAE⟩ : ∃ AE, (atP s l c now).2 = AE := ⟨_, rfl⟩
  rw [hAI, hAE] at cA hbad ⊢
  have hzl := zeroPk_length
  have hz1 := kp zeroPk_one
  obtain ⟨Z, hZ⟩ : ∃ Z, zeroPk = Z := ⟨_, rfl⟩
  have HZ := kp hZ
  rw [hZ] at HN HB HSK hzl hz1
  clear hAI hAE ht0 ht1 hm
  have hcase : (AE ≠ 0 ∧ (if AE = 0 then (if AI < (L : Int) then (14 : Int) else if 1000 < t.size then 5 else 0) else AE) = AE) ∨ (AE = 0 ∧ AI < (L : Int) ∧ (if AE = 0 then (if AI < (L : Int) then (14 : Int) else if 1000 < t.size then 5 else 0) else AE) = 14) ∨ (AE = 0 ∧ ¬ AI < (L : Int) ∧ (1000 : Int) < t.size ∧ (if AE = 0 then (if AI < (L : Int) then (14 : Int) else if 1000 < t.size then 5 else 0) else AE) = 5) := by
    by_cases h0 : AE = 0
    · by_cases h1 : AI < (L : Int)
      · exact Or.inr (Or.inl ⟨h0, h1, by rw [if_pos h0, if_pos h1]⟩)
      · by_cases h2 : 1000 < t.size
        · exact Or.inr (Or.inr ⟨h0, h1, by omega, by rw [if_pos h0, if_neg h1, if_pos h2]⟩)
        · rw [if_pos h0, if_neg h1, if_neg h2] at hbad; exact absurd rfl hbad
    · exact Or.inl ⟨h0, if_neg h0⟩
  generalize (if AE = 0 then (if AI < (L : Int) then (14 : Int) else if 1000 < t.size then 5 else 0) else AE) = R at *
  clear hbad
  go_enter Try.func15, Try.ntmps15
  go_upto_region 1 with (fail)
  change Code.wp _ _ _ _ (w.alloc (.cells zeroPk.toArray 44))
  rw [hZ]
  clear hZ
  generalize w.alloc (.cells Z.toArray 44) = W at HN HB HSK ⊢
  have LP := HSK.out.ldPlan HSL.out
  have hlb := HSK.out.blk.lt
  rcases hcase with ⟨h0, rfl⟩ | ⟨rfl, h1, rfl⟩ | ⟨rfl, h1, h2, rfl⟩
  · have d0 : (R == 0) = false := by simpa using h0
    have d1 : (R != 0) = true := by simpa using h0
    go_wp2_with (refine wpL_load rfl 25 _ rfl rfl LP ?_)
    clear LP
    refine (cA.out _).mono ?_
    rintro e w1 ⟨rfl, hb1⟩
    have HN1 := kp (HN.out.bel hb1)
    have HB1 := kp (bt' HB.out hb1 HB.out.size)
    clear hb1 HN HB HSK
    have SC := sc_same (P := Try.prog) (w := w1) w.heap.size 44 Z HN1.out hz1.out
    go_wp2_with (refine wpL_val 23 rfl rfl (.agg Z.toArray) (by rw [← HZ.out]; kernel_rfl) ?_)
    refine bodyPost_ret (v := .tuple #[.agg Z.toArray, .int .i64 R]) ?_ rfl ⟨by rw [HZ.out], HB1.out⟩
    exact res2 Try.results15 w.heap.size 36 _ Z _ Try.underlying44 rfl info_pk hzl HN1.out _ rfl _ rfl
  · go_wp2_with (refine wpL_load rfl 25 _ rfl rfl LP ?_)
    clear LP
    refine (cA.out _).mono ?_
    rintro e w1 ⟨rfl, hb1⟩
    have HN1 := kp (HN.out.bel hb1)
    have HB1 := kp (bt' HB.out hb1 HB.out.size)
    obtain ⟨c68, c69, c70, hlb⟩ := (HSK.out.bel hb1).cells HSL.out
    clear hb1 HN HB HSK
    have SC := sc_same (P := Try.prog) (w := w1) w.heap.size 44 Z HN1.out hz1.out
    go_wp2_with (refine wpL_val 32 rfl rfl (.agg Z.toArray) (by rw [← HZ.out]; kernel_rfl) ?_)
    refine bodyPost_ret (v := .tuple #[.agg Z.toArray, .int .i64 14]) ?_ rfl ⟨by rw [HZ.out], HB1.out⟩
    exact res2 Try.results15 w.heap.size 36 _ Z _ Try.underlying44 rfl info_pk hzl HN1.out _ rfl _ rfl
  · go_wp2_with (refine wpL_load rfl 25 _ rfl rfl LP ?_)
    clear LP
    refine (cA.out _).mono ?_
    rintro e w1 ⟨rfl, hb1⟩
    have HN1 := kp (HN.out.bel hb1)
    have HB1 := kp (bt' HB.out hb1 HB.out.size)
    obtain ⟨c68, c69, c70, hlb⟩ := (HSK.out.bel hb1).cells HSL.out
    clear hb1 HN HB HSK
    have SC := sc_same (P := Try.prog) (w := w1) w.heap.size 44 Z HN1.out hz1.out
    go_wp2_with (refine wpL_val 37 rfl rfl (.agg Z.toArray) (by rw [← HZ.out]; kernel_rfl) ?_)
    refine bodyPost_ret (v := .tuple #[.agg Z.toArray, .int .i64 5]) ?_ rfl ⟨by rw [HZ.out], HB1.out⟩
    exact res2 Try.results15 w.heap.size 36 _ Z _ Try.underlying44 rfl info_pk hzl HN1.out _ rfl _ rfl
end Go.Proofs.Ytmnbnjiipnocaaa
/- sender: Send, a packet that is sent. -/
namespace Go.Proofs.Ytmnbnjiipnocaaa
open Go Go.RowKit
set_option linter.unusedVariables false
set_option linter.unusedSimpArgs false
attribute [local go_sem] bmax2 bmin2 bmax bmin cell_ext frozen_ext

/-- while it sends: keys of [lo, a) are kept; its blocks are those it had, or new; the result's cell lies in r -/
def TS (B : Nat) (w : World) (X : Nat → Prop) (b bw : Nat) (S : List UInt8) (s l d c : Int) (n lo : Nat) (L : Int) (Z : List Value) (a : Nat) (W : World) : Prop :=
  ∃ g ad cp, SK B W b bw g ad cp S s l d c n lo a L ∧ FrP X w W ∧ (∀ k, sdX b bw g ad k → X k ∨ w.heap.size < k) ∧ Blk W w.heap.size 44 Z.toArray
section
variable {B : Nat} {w W W' : World} {X : Nat → Prop} {b bw : Nat} {S : List UInt8} {s l d c : Int} {n lo a : Nat} {L : Int} {Z : List Value}
theorem TS.bel (h : TS B w X b bw S s l d c n lo L Z a W) (hb : Below W.heap.size W W') : TS B w X b bw S s l d c n lo L Z a W' := by
  obtain ⟨g, ad, cp, h1, h2, h3, h4⟩ := h
  exact ⟨g, ad, cp, h1.bel hb, h2.trans (FrP.of_bel (X := X) hb) (fun k hk => Or.inl hk), h3, h4.bel hb⟩
theorem TS.lt (h : TS B w X b bw S s l d c n lo L Z a W) : w.heap.size < W.heap.size := by
  obtain ⟨g, ad, cp, h1, h2, h3, h4⟩ := h
  exact h4.lt
theorem TS.far (h : TS B w X b bw S s l d c n lo L Z a W) (hX : ∀ k, X k → k < w.heap.size) {Y : Nat → Prop} (hf : FrP Y W W') (hY : ∀ k, Y k → w.heap.size < k ∧ ∀ T cs, Blk W k T cs → T ≠ 67 ∧ T ≠ 94 ∧ T ≠ 91 ∧ T ≠ 108) : TS B w X b bw S s l d c n lo L Z a W' := by
  obtain ⟨g, ad, cp, h1, h2, h3, h4⟩ := h
  refine ⟨g, ad, cp, h1.frP hf (fun k hk hy => ?_), h2.trans hf (fun k hk => Or.inr (Nat.le_of_lt (hY k hk).1)), h3, h4.frP hf (fun hy => by have := (hY _ hy).1; omega)⟩
  obtain ⟨_, _, T, cs, hb, hT⟩ := h1.types hk
  obtain ⟨e1, e2, e3, e4⟩ := (hY k hy).2 T cs hb
  rcases hT with h | h | h | h
  · exact e1 h
  · exact e2 h
  · exact e3 h
  · exact e4 h
/-- a key is told -/
theorem TS.key (h : TS B w X b bw S s l d c n lo L Z a W) (hS : S.length = 32) (hn1 : 1 ≤ n) (hn2 : n ≤ 1024) (i : Nat) (h1 : lo ≤ i) (h2 : i ≤ n) (ha : a ≤ n + 1) (hX : ∀ k, X k → k < w.heap.size) (hB : B ≤ w.heap.size) :
    Calls Try.prog 33 #[.pointer (some ⟨b, 0, none⟩), .int .i64 (i : Int)] W fun e W' => e = .returned (.agg (cellsU8 (chK S (n - i))).toArray) ∧ TS B w X b bw S s l d c n lo L Z (max a (i + 1)) W' ∧ ∀ k T cs, Blk W k T cs → T ≠ 67 → T ≠ 94 → T ≠ 91 → T ≠ 108 → Blk W' k T cs := by
  obtain ⟨g, ad, cp, k1, k2, k3, k4⟩ := h
  refine (S_key k1 hS hn1 hn2 i h1 h2 ha (Nat.le_trans hB k2.size)).mono ?_
  rintro e W' ⟨g', ad', cp', rfl, q1, q2, q3⟩
  have hne : ∀ k T cs, Blk W k T cs → T ≠ 67 → T ≠ 94 → T ≠ 91 → T ≠ 108 → ¬ sdX b bw g ad k := fun k T cs hb e1 e2 e3 e4 hk => by
    obtain ⟨_, _, T', cs', hb', hT⟩ := k1.types hk
    have : T = T' := by
      unfold Blk at hb hb'
      rw [hb] at hb'
      injection hb' with hb'
      injection hb' with _ ht
    subst this
    rcases hT with h | h | h | h
    · exact e1 h
    · exact e2 h
    · exact e3 h
    · exact e4 h
  refine ⟨rfl, ⟨g', ad', cp', q1, k2.trans q2 (fun k hk => (k3 k hk).imp id Nat.le_of_lt), fun k hk => ?_, k4.frP q2 (hne _ _ _ k4 (by decide) (by decide) (by decide) (by decide))⟩, fun k T cs hb e1 e2 e3 e4 => hb.frP q2 (hne k T cs hb e1 e2 e3 e4)⟩
  rcases q3 k hk with h | h
  · exact k3 k h
  · right
    have := k4.lt
    omega
end
theorem lo_le {d : Int} {L i : Nat} (hd : 1 ≤ d) (hi : 1 ≤ i) (h : L ≤ i) : loOf d L ≤ i := by unfold loOf; omega
theorem lo_next {d : Int} {L i : Nat} (hd : 1 ≤ d) (h : L ≤ i) : max (loOf d L) ((i : Int) - d).toNat = loOf d i := by unfold loOf; omega
set_option maxHeartbeats 8000000 in
set_option maxRecDepth 100000 in
theorem S_Send_good {B : Nat} {w : World} {X : Nat → Prop} {b : Nat} {S : List UInt8} {s l d c : Int} {n L : Nat} (h : SX B w X b S s l d c n L) (hS : S.length = 32) (hm : mayP s l d c = true) (hc : c = (n : Int)) (now : Int) (ht0 : -9223372036854775808 ≤ now) (ht1 : now < 9223372036854775808) (t : ByteArray) (hB : B ≤ w.heap.size) (i : Nat) (hat : atP s l c now = ((i : Int), 0)) (hi1 : 1 ≤ i) (hi2 : i ≤ n) (hLi : L ≤ i) (ht : t.size ≤ 1000) :
    Calls Try.prog 15 #[.pointer (some ⟨b, 0, none⟩), .int .i64 now, .string t] w (SendEnd B w X b S s l d c n L i (goodPk (chK S) d n i t) 0) := by
  subst hc
  have cA := kp (fun w' => P_At s l d n now hm ht0 ht1 w')
  have hmm := mayP_iff.1 hm
  rw [hat] at cA
  have cTl := kp (fun w' => P_Tells s l d n i hm w')
  obtain ⟨T, hT⟩ : ∃ T : Nat, ((i : Int) - d).toNat = T := ⟨_, rfl⟩
  have hTl : tellsP d n i = (T : Int) := by unfold tellsP; rw [if_pos (by omega)]; omega
  rw [hTl] at cTl
  obtain ⟨bw, g, ad, cp, hsk, hX⟩ := h
  subst hX
  have HXL : Kp (∀ k, sdX b bw g ad k → k < w.heap.size) := kp (fun k hk => (hsk.types hk).2.1)
  have HN := kp (Blk.new w 44 zeroPk.toArray)
  have hb0 := ba (Below.refl w.heap.size w) (.cells zeroPk.toArray 44)
  have hlo : loOf d L ≤ i := lo_le (by omega) hi1 hLi
  have hlo2 := lo_next (d := d) (by omega) hLi
  rw [hT] at hlo2
  have hloT : T ≠ 0 → loOf d L ≤ T := by unfold loOf; omega
  have hn1 : 1 ≤ n := by omega
  have hn2 : n ≤ 1024 := by omega
  have hTi : T < i := by omega
  have hgp : goodPk (chK S) d n i t = pkL (i : Int) t (str (tagD (chK S (n - i)) (i : Int) t)) (T : Int) (if T = 0 then zeroK else chK S (n - T)) := by unfold goodPk; rw [hT]
  have cTag := kp (fun w' => S_Tag (chK S (n - i)) (i : Int) t (chK_length S _) (by omega) w')
  obtain ⟨TG, hTG⟩ : ∃ TG, str (tagD (chK S (n - i)) (i : Int) t) = TG := ⟨_, rfl⟩
  rw [hTG] at cTag hgp
  have HTS : Kp (TS B w (sdX b bw g ad) b bw S s l d n n (loOf d L) L zeroPk (L + 1) (w.alloc (.cells zeroPk.toArray 44))) := kp ⟨g, ad, cp, hsk.bel hb0, FrP.of_bel hb0, fun k hk => Or.inl hk, HN.out⟩
  have HSL := kp hS
  have HBB := kp hB
  have HHAT := kp hsk
  obtain ⟨KK, hKK⟩ : ∃ KK, (if T = 0 then zeroK else chK S (n - T)) = KK := ⟨_, rfl⟩
  rw [hKK] at hgp
  have HKK := kp hKK
  rw [hgp]
  clear hKK
  have HLO2 := kp hlo2
  have HMM := kp hmm
  have HLO := kp hlo
  have HLT := kp hloT
  have HTI := kp hTi
  have HN1 := kp hn1
  have HN2 := kp hn2
  have HI1 := kp hi1
  have HI2 := kp hi2
  have HLI := kp hLi
  have HT := kp hT
  have HTT := kp ht
  clear hb0 hTG hgp hTl hat HN hm ht0 ht1 hmm hlo hloT hTi hn1 hn2 hi1 hi2 hT hB hlo2 hS
  have hzl := zeroPk_length
  have hz1 := kp zeroPk_one
  have HZP : Kp (∀ (iv : Int) (tx tg : ByteArray) (tl : Int) (W : World), (Instr.build 44 #[(0, .int .i64 iv), (1, .string tx), (2, .string tg), (3, .int .i64 tl)]).run Try.prog W = .ok (.agg (pkL iv tx tg tl zeroK).toArray) W) := kp build_pk4
  obtain ⟨Z, hZ⟩ : ∃ Z, zeroPk = Z := ⟨_, rfl⟩
  have HZ := kp hZ
  rw [hZ] at HTS hzl hz1
  go_enter Try.func15, Try.ntmps15
  go_upto_region 1 with (fail)
  change Code.wp _ _ _ _ (w.alloc (.cells zeroPk.toArray 44))
  rw [hZ]
  clear hZ hsk
  generalize w.alloc (.cells Z.toArray 44) = W at HTS ⊢
  obtain ⟨g1, ad1, cp1, k1, k2, k3, k4⟩ := HTS.out
  have LP := k1.ldPlan HSL.out
  have hlb := k1.blk.lt
  clear k1 k2 k3 k4
  go_wp2_with (refine wpL_load rfl 25 _ rfl rfl LP ?_)
  clear LP hlb
  refine (cA.out _).mono ?_
  rintro e w1 ⟨rfl, hb1⟩
  have HTS := kp (HTS.out.bel hb1)
  clear hb1
  obtain ⟨g1, ad1, cp1, k1, k2, k3, k4⟩ := HTS.out
  obtain ⟨c68, c69, c70, hlb⟩ := k1.cells HSL.out
  clear k1 k2 k3 k4
  have i1 : ¬ (i : Int) < (L : Int) := by omega
  have i2 : ¬ (1000 : Int) < (t.size : Int) := by omega
  go_upto_region 8 with (fail)
  clear c68 c69 c70 hlb
  have hLn : L + 1 ≤ n + 1 := by have := HLI.out; have := HI2.out; omega
  have HMX : Kp (max (L + 1) (i + 1) = i + 1) := kp (by have := HLI.out; omega)
  have cK := kp (fun W' (h : TS B w (sdX b bw g ad) b bw S s l d n n (loOf d L) L Z (L + 1) W') => h.key HSL.out HN1.out HN2.out i HLO.out HI2.out hLn HXL.out HBB.out)
  rw [HMX.out] at cK
  have HKL := kp (chK_length S (n - i))
  obtain ⟨A, hA⟩ : ∃ A, chK S (n - i) = A := ⟨_, rfl⟩
  rw [hA] at cK cTag HKL
  clear hA hLn
  refine wp_region_held (S := fun W' => ∃ a, TS B w (sdX b bw g ad) b bw S s l d n n (loOf d L) L Z a W') (by kernel_rfl) ?_
  have HT0 : TS B w (sdX b bw g ad) b bw S s l d n n (loOf d L) L Z (L + 1) { w1 with drawn := w1.drawn + 1 } := HTS.out.bel (Below.refl _ _).drew
  change wpAnyH _ _ _ _ _ 17 _ _ _
  refine takeAll (by kernel_rfl) (fun _ _ d _ _ h => by cases d <;> exact h) [(0, 38), (1, 39), (2, 40), (3, 41), (5, 43), (6, 44), (8, 46), (9, 47), (10, 48), (11, 49), (12, 50)] [.int .i64 (i : Int), .string t, .pointer (some ⟨b, 0, none⟩), .int .i64 (i : Int), .int .i64 (i : Int), .string t, .pointer (some ⟨b, 0, none⟩), .pointer (some ⟨b, 0, none⟩), .pointer (some ⟨b, 32, none⟩), .agg (planL s l d n).toArray, .int .i64 (i : Int)] _ _ _ 6 (by kernel_rfl) ⟨Or.inl ⟨by kernel_rfl, fun w hS => by kernel_rfl⟩, Or.inl ⟨by kernel_rfl, fun w hS => by kernel_rfl⟩, Or.inl ⟨by kernel_rfl, fun w hS => by kernel_rfl⟩, Or.inl ⟨by kernel_rfl, fun w hS => by kernel_rfl⟩, Or.inl ⟨by kernel_rfl, fun w hS => by kernel_rfl⟩, Or.inl ⟨by kernel_rfl, fun w hS => by kernel_rfl⟩, Or.inl ⟨by kernel_rfl, fun w hS => by kernel_rfl⟩, Or.inl ⟨by kernel_rfl, fun w hS => by kernel_rfl⟩, Or.inl ⟨by kernel_rfl, fun w hS => by kernel_rfl⟩, Or.inl ⟨by kernel_rfl, fun w hS => by
      obtain ⟨a, g1, ad1, cp1, h1, _⟩ := hS
      exact exec_load (ty := 25) (x := .tmp 48) (by kernel_rfl) (pv := .pointer (some ⟨b, 32, none⟩)) (by kernel_rfl) (h1.ldPlan HSL.out)⟩, Or.inl ⟨by kernel_rfl, fun w hS => by kernel_rfl⟩, trivial⟩ ⟨_, HT0⟩ ?_
  refine comb (by kernel_rfl) 15 10 (of_decide_eq_true (by kernel_rfl)) (by kernel_rfl) (by kernel_rfl) [(4, 42), (7, 45), (13, 51), (14, 52)] [.agg (cellsU8 A).toArray, .string TG, .int .i64 (T : Int), .agg (pkL (i : Int) t TG (T : Int) zeroK).toArray]
    (TS B w (sdX b bw g ad) b bw S s l d n n (loOf d L) L Z (L + 1)) [TS B w (sdX b bw g ad) b bw S s l d n n (loOf d L) L Z (i + 1), TS B w (sdX b bw g ad) b bw S s l d n n (loOf d L) L Z (i + 1), TS B w (sdX b bw g ad) b bw S s l d n n (loOf d L) L Z (i + 1), TS B w (sdX b bw g ad) b bw S s l d n n (loOf d L) L Z (i + 1)] _ _ _ 1
    (V := fun u W => ∃ bk, u = .pointer (some ⟨bk, 0, none⟩) ∧ w.heap.size < bk ∧ Blk W bk 44 Z.toArray) (pf := TS B w (sdX b bw g ad) b bw S s l d n n (loOf d L) L Z (i + 1)) (by kernel_rfl) ⟨?_, ?_, ?_, ?_, fun _ h => h⟩ ?_ ⟨_, HT0⟩ HT0 ?_
  · intro W hS hp
    refine Or.inr ⟨33, #[.pointer (some ⟨b, 0, none⟩), .int .i64 (i : Int)], by kernel_rfl, (cK.out W hp).mono fun e W' ⟨he, h1, h2⟩ => ⟨he, ⟨_, h1⟩, h1, ?_⟩⟩
    rintro u ⟨bk, e1, e2, e3⟩
    exact ⟨bk, e1, e2, h2 _ _ _ e3 (by decide) (by decide) (by decide) (by decide)⟩
  · intro W hS hp
    refine Or.inr ⟨21, #[.agg (cellsU8 A).toArray, .int .i64 (i : Int), .string t], by kernel_rfl, (cTag.out W).mono fun e W' ⟨he, hb⟩ => ⟨he, ⟨_, hp.bel hb⟩, hp.bel hb, ?_⟩⟩
    rintro u ⟨bk, e1, e2, e3⟩
    exact ⟨bk, e1, e2, e3.bel hb⟩
  · intro W hS hp
    refine Or.inr ⟨34, #[.agg (planL s l d n).toArray, .int .i64 (i : Int)], by kernel_rfl, (cTl.out W).mono fun e W' ⟨he, hb⟩ => ⟨he, ⟨_, hp.bel hb⟩, hp.bel hb, ?_⟩⟩
    rintro u ⟨bk, e1, e2, e3⟩
    exact ⟨bk, e1, e2, e3.bel hb⟩
  · intro W hS hp
    refine Or.inl ⟨W, ?_, ⟨_, hp⟩, hp, fun u hu => hu⟩
    exact exec_build (ty := 44) (ps := #[(0, .tmp 38), (1, .tmp 39), (2, .tmp 45), (3, .tmp 51)]) (parts := #[(0, .int .i64 (i : Int)), (1, .string t), (2, .string TG), (3, .int .i64 (T : Int))]) (by kernel_rfl) (by kernel_rfl) (HZP.out _ _ _ _ _)
  · intro q hq W hS hp
    have hw : ∃ a1, q = TS B w (sdX b bw g ad) b bw S s l d n n (loOf d L) L Z a1 := by
      simp only [List.mem_cons, List.not_mem_nil, or_false] at hq
      rcases hq with h | h | h | h | h <;> exact ⟨_, h⟩
    obtain ⟨a1, rfl⟩ := hw
    have hp2 := hp.bel (ba (Below.refl W.heap.size W) (.cells Z.toArray 44))
    exact ⟨.pointer (some ⟨W.heap.size, 0, none⟩), W.alloc (.cells Z.toArray 44), by rw [← HZ.out]; kernel_rfl, ⟨_, hp2⟩, hp2, ⟨_, rfl, hp.lt, Blk.new _ _ _⟩⟩
  · rintro u W1 hS hp ⟨bk, rfl, hbk, hkk⟩
    have hzk : zeroK.length = 32 := zeroK_length
    have hpl0 : (pkL (i : Int) t TG (T : Int) zeroK).length = 36 := pkL_length hzk
    have hst := st_all (P := Try.prog) (w := W1) bk 36 44 44 (pkL (i : Int) t TG (T : Int) zeroK) Z info_pk hpl0 hzl hkk (pkL_one _ _ _ _ _)
    have HPK0 := kp (hkk.row (pkL (i : Int) t TG (T : Int) zeroK).toArray)
    have hTS2 := hp.far HXL.out (FrP.of_grown (X := fun k => k = bk) (gbrow W1 bk (pkL (i : Int) t TG (T : Int) zeroK).toArray) (fun k hk => by injection hk with hk; exact hk.symm)) (fun k hk => by
      have hk : k = bk := hk
      subst hk
      refine ⟨hbk, fun T' cs hb => ?_⟩
      unfold Blk at hb hkk
      rw [hkk] at hb
      injection hb with hb
      injection hb with _ ht
      subst ht
      exact ⟨by decide, by decide, by decide, by decide⟩)
    have HTS := kp hTS2
    change wpAnyH _ _ _ _ _ [16].length _ _ _
    refine wpAnyH_of_seqE (by kernel_rfl) (fun _ _ d _ _ h => by cases d <;> exact h) [16] _ _ _ ⟨_, hp⟩ (of_decide_eq_true (by kernel_rfl)) (by kernel_rfl) ?_
    refine stepS_skip (by kernel_rfl) (of_decide_eq_true (by kernel_rfl)) (by kernel_rfl) (exec_store 44 (.tmp 10) (.tmp 52) (by kernel_rfl) (pv := .pointer (some ⟨bk, 0, none⟩)) (by kernel_rfl) (v := .agg (pkL (i : Int) t TG (T : Int) zeroK).toArray) (by kernel_rfl) hst) ⟨_, hTS2⟩ ?_
    have hpl00 := hpl0
    clear hst hTS2 hp hS hkk hpl0 HT0
    generalize W1.setRow bk (pkL (i : Int) t TG (T : Int) zeroK).toArray = V at HPK0 HTS ⊢
    unfold wpListS
    dsimp only [Exit.then, putAll, Act.put]
    simp only [List.setIfInBounds_toArray, List.set_cons_succ, List.set_cons_zero]
    have c3 := HPK0.out.atL (show (pkL (i : Int) t TG (T : Int) zeroK)[3]? = some (.int .i64 (T : Int)) from rfl)
    have hlk := HPK0.out.lt
    by_cases hT0 : T = 0
    · have hKv : zeroK = KK := by rw [← HKK.out, if_pos hT0]
      have HKKL : Kp (KK.length = 32) := kp (hKv ▸ hzk)
      rw [hKv] at HPK0
      have HPK := HPK0
      clear hzk hKv HPK0
      have d0 : decide ((0 : Int) < (T : Int)) = false := decide_eq_false (by omega)
      have d1 : ¬ (0 : Int) < (T : Int) := by omega
      have d2 : ¬ 0 < T := by omega
      have d3 : decide (0 < T) = false := decide_eq_false (by omega)
      clear hT0 c3 hlk
      obtain ⟨g2, ad2, cp2, k1, k2, k3, k4⟩ := HTS.out
      have c3 := HPK.out.atL (show (pkL (i : Int) t TG (T : Int) KK)[3]? = some (.int .i64 (T : Int)) from rfl)
      have hlk := HPK.out.lt
      go_wp2_with fail
      clear c3 hlk
      refine (S_forget k1 HSL.out HN2.out T (by have := HTI.out; omega) (by have := HLO.out; omega) (by have := HI2.out; omega)).mono ?_
      rintro e w5 ⟨ad3, cp3, ⟨u, rfl⟩, q1, q2, q3⟩
      rw [HLO2.out] at q1
      have HPK := kp (HPK.out.frP q2 (fun hk => by
        obtain ⟨_, _, T', cs', hb', hT⟩ := k1.types hk
        have := HPK.out
        unfold Blk at this hb'
        rw [this] at hb'
        injection hb' with hb'
        injection hb' with _ ht
        rcases hT with h | h | h | h
        · exact absurd (ht.trans h) (by decide)
        · exact absurd (ht.trans h) (by decide)
        · exact absurd (ht.trans h) (by decide)
        · exact absurd (ht.trans h) (by decide)))
      have HR := kp (k4.frP q2 (fun hk => by
        obtain ⟨_, _, T', cs', hb', hT⟩ := k1.types hk
        unfold Blk at k4 hb'
        rw [k4] at hb'
        injection hb' with hb'
        injection hb' with _ ht
        rcases hT with h | h | h | h
        · exact absurd (ht.trans h) (by decide)
        · exact absurd (ht.trans h) (by decide)
        · exact absurd (ht.trans h) (by decide)
        · exact absurd (ht.trans h) (by decide)))
      have HXX : Kp (∀ k, sdX b bw g2 ad3 k → sdX b bw g ad k ∨ w.heap.size < k) := kp (fun k hk => k3 k (by
        rcases hk with h | h | h | h
        · exact Or.inl h
        · exact Or.inr (Or.inl h)
        · exact Or.inr (Or.inr (Or.inl h))
        · exact Or.inr (Or.inr (Or.inr (q3 ▸ h)))))
      have HFP := kp (k2.trans q2 (fun k hk => (k3 k hk).imp id Nat.le_of_lt))
      have hs2 := q1.blk.setL 70 (.int .i64 (i : Int))
      rw [sdL_last HSL.out (chK_length S n)] at hs2
      have hset := gbset w5 b 70 (.int .i64 (i : Int))
      obtain ⟨n1, n2, n3, n4⟩ := q1.ne
      have hfs := FrP.of_grown (X := fun k => k = b) hset (fun k hk => by injection hk with hk; exact hk.symm)
      have hbk2 : bk ≠ b := HPK.out.ne_ q1.blk (by decide)
      have hbr : w.heap.size ≠ b := HR.out.ne_ q1.blk (by decide)
      have HSK2 : Kp (SK B (w5.setCell ⟨b, 70, none⟩ (.int .i64 (i : Int))) b bw g2 ad3 cp3 S s l d n n (loOf d i) (i + 1) (i : Int)) := kp ⟨hs2, q1.wk.frP hfs (fun e => n1 e.symm) (fun e => n2 e.symm), q1.ks.frP hfs (fun k hk e => (n4 k hk).1 e), q1.ge, q1.le⟩
      have HPK := kp (HPK.out.far (p := ⟨b, 70, none⟩) hbk2 (.int .i64 (i : Int)))
      have HR := kp (HR.out.far (p := ⟨b, 70, none⟩) hbr (.int .i64 (i : Int)))
      have HFP := kp (HFP.out.trans hfs (fun k hk => by have : k = b := hk; subst this; exact Or.inl (Or.inl rfl)))
      have hlb := q1.blk.lt
      have f70 := q1.blk.frozen 70
      obtain ⟨c68, c69, c70, _⟩ := q1.cells HSL.out
      have hpl : (pkL (i : Int) t TG (T : Int) KK).length = 36 := pkL_length HKKL.out
      have hp1 := kp (pkL_one (i : Int) t TG (T : Int) KK)
      obtain ⟨PK, hPK⟩ : ∃ PK, pkL (i : Int) t TG (T : Int) KK = PK := ⟨_, rfl⟩
      rw [hPK] at HPK hpl hp1
      clear hs2 hset hfs n1 n2 n3 n4 k1 k2 k3 k4 q1 q2 q3 hbk2 hbr c68 c69 HTS
      have L6 := ld_all (P := Try.prog) bk 36 44 44 PK _ Try.underlying44 rfl info_pk hpl HPK.out
      have SC := sc_all (P := Try.prog) (w := w5.setCell ⟨b, 70, none⟩ (.int .i64 (i : Int))) w.heap.size 44 PK Z HR.out (by rw [hpl, hzl]) hp1.out
      have HRES := kp (HR.out.row PK.toArray)
      have hrow := FrP.of_grown (X := fun k => k = w.heap.size) (gbrow (w5.setCell ⟨b, 70, none⟩ (.int .i64 (i : Int))) w.heap.size PK.toArray) (fun k hk => by injection hk with hk; exact hk.symm)
      have HEND : Kp (SendEnd B w (sdX b bw g ad) b S s l d n n L i (pkL (i : Int) t TG (T : Int) KK) 0 (.returned (.tuple #[.agg PK.toArray, .int .i64 0])) ((w5.setCell ⟨b, 70, none⟩ (.int .i64 (i : Int))).setRow w.heap.size PK.toArray)) := kp
        ⟨sdX b bw g2 ad3, by rw [hPK], ⟨bw, g2, ad3, cp3, HSK2.out.frP hrow (fun k hk e => by
            have e : k = w.heap.size := e
            rcases HXX.out k hk with h | h
            · have := HXL.out k h; omega
            · omega), rfl⟩, HFP.out.trans hrow (fun k hk => Or.inr (Nat.le_of_eq (Eq.symm hk))), fun k hk => (HXX.out k hk).imp id Nat.le_of_lt⟩
      clear hrow HSK2 HFP HXX HXL HR HHAT hPK
      go_wp2_with (refine wpL_load rfl 44 _ rfl rfl L6 ?_)
      refine bodyPost_ret (v := .tuple #[.agg PK.toArray, .int .i64 0]) ?_ rfl HEND.out
      exact res2 Try.results15 w.heap.size 36 _ PK _ Try.underlying44 rfl info_pk hpl HRES.out _ rfl _ rfl
    · have hKv : chK S (n - T) = KK := by rw [← HKK.out, if_neg hT0]
      have HKKL : Kp (KK.length = 32) := kp (hKv ▸ chK_length S _)
      have d0 : decide ((0 : Int) < (T : Int)) = true := decide_eq_true (by omega)
      have d1 : (0 : Int) < (T : Int) := by omega
      have d2 : 0 < T := by omega
      have d3 : decide (0 < T) = true := decide_eq_true (by omega)
      have cK2 := HTS.out.key HSL.out HN1.out HN2.out T (HLT.out hT0) (by have := HTI.out; have := HI2.out; omega) (by have := HI2.out; omega) HXL.out HBB.out
      rw [show max (i + 1) (T + 1) = i + 1 by have := HTI.out; omega, hKv] at cK2
      clear hKv hT0
      go_wp2_with fail
      clear c3 hlk
      refine cK2.mono ?_
      rintro e w4 ⟨rfl, hts, hkeep⟩
      have HPK1 := kp (hkeep _ _ _ HPK0.out (by decide) (by decide) (by decide) (by decide))
      have HTS0 := kp hts
      have hkl := key_cells KK HKKL.out
      have hzc := key_cells zeroK hzk
      have SC := sc_row (P := Try.prog) (w := w4) bk 4 44 (cellsU8 KK) (pkL (i : Int) t TG (T : Int) zeroK) HPK1.out (by rw [hkl, hpl00]; omega) (cellsU8_one _)
      have hrow2 : (pkL (i : Int) t TG (T : Int) zeroK).take 4 ++ cellsU8 KK ++ (pkL (i : Int) t TG (T : Int) zeroK).drop (4 + (cellsU8 KK).length) = pkL (i : Int) t TG (T : Int) KK := by
        rw [hkl]
        have : List.drop (4 + 32) (pkL (i : Int) t TG (T : Int) zeroK) = [] := List.drop_eq_nil_of_le (by rw [hpl00]; omega)
        rw [this, List.append_nil]
        rfl
      rw [hrow2] at SC
      have HPK := kp (HPK1.out.row (pkL (i : Int) t TG (T : Int) KK).toArray)
      have HTS := kp (HTS0.out.far HXL.out (FrP.of_grown (X := fun k => k = bk) (gbrow w4 bk (pkL (i : Int) t TG (T : Int) KK).toArray) (fun k hk => by injection hk with hk; exact hk.symm)) (fun k hk => by
        have hk : k = bk := hk
        subst hk
        refine ⟨hbk, fun T' cs hb => ?_⟩
        have h1 := HPK1.out
        unfold Blk at hb h1
        rw [h1] at hb
        injection hb with hb
        injection hb with _ ht
        subst ht
        exact ⟨by decide, by decide, by decide, by decide⟩))
      clear hts hkeep hrow2 hzk cK2 HPK0 HTS0 HPK1
      go_upto_region 11 with (fail)
      clear SC hkl hzc d0 d1 d2 d3 hpl00
      generalize w4.setRow bk (pkL (i : Int) t TG (T : Int) KK).toArray = V at HPK HTS ⊢
      obtain ⟨g2, ad2, cp2, k1, k2, k3, k4⟩ := HTS.out
      have c3 := HPK.out.atL (show (pkL (i : Int) t TG (T : Int) KK)[3]? = some (.int .i64 (T : Int)) from rfl)
      have hlk := HPK.out.lt
      go_wp2_with fail
      clear c3 hlk
      refine (S_forget k1 HSL.out HN2.out T (by have := HTI.out; omega) (by have := HLO.out; omega) (by have := HI2.out; omega)).mono ?_
      rintro e w5 ⟨ad3, cp3, ⟨u, rfl⟩, q1, q2, q3⟩
      rw [HLO2.out] at q1
      have HPK := kp (HPK.out.frP q2 (fun hk => by
        obtain ⟨_, _, T', cs', hb', hT⟩ := k1.types hk
        have := HPK.out
        unfold Blk at this hb'
        rw [this] at hb'
        injection hb' with hb'
        injection hb' with _ ht
        rcases hT with h | h | h | h
        · exact absurd (ht.trans h) (by decide)
        · exact absurd (ht.trans h) (by decide)
        · exact absurd (ht.trans h) (by decide)
        · exact absurd (ht.trans h) (by decide)))
      have HR := kp (k4.frP q2 (fun hk => by
        obtain ⟨_, _, T', cs', hb', hT⟩ := k1.types hk
        unfold Blk at k4 hb'
        rw [k4] at hb'
        injection hb' with hb'
        injection hb' with _ ht
        rcases hT with h | h | h | h
        · exact absurd (ht.trans h) (by decide)
        · exact absurd (ht.trans h) (by decide)
        · exact absurd (ht.trans h) (by decide)
        · exact absurd (ht.trans h) (by decide)))
      have HXX : Kp (∀ k, sdX b bw g2 ad3 k → sdX b bw g ad k ∨ w.heap.size < k) := kp (fun k hk => k3 k (by
        rcases hk with h | h | h | h
        · exact Or.inl h
        · exact Or.inr (Or.inl h)
        · exact Or.inr (Or.inr (Or.inl h))
        · exact Or.inr (Or.inr (Or.inr (q3 ▸ h)))))
      have HFP := kp (k2.trans q2 (fun k hk => (k3 k hk).imp id Nat.le_of_lt))
      have hs2 := q1.blk.setL 70 (.int .i64 (i : Int))
      rw [sdL_last HSL.out (chK_length S n)] at hs2
      have hset := gbset w5 b 70 (.int .i64 (i : Int))
      obtain ⟨n1, n2, n3, n4⟩ := q1.ne
      have hfs := FrP.of_grown (X := fun k => k = b) hset (fun k hk => by injection hk with hk; exact hk.symm)
      have hbk2 : bk ≠ b := HPK.out.ne_ q1.blk (by decide)
      have hbr : w.heap.size ≠ b := HR.out.ne_ q1.blk (by decide)
      have HSK2 : Kp (SK B (w5.setCell ⟨b, 70, none⟩ (.int .i64 (i : Int))) b bw g2 ad3 cp3 S s l d n n (loOf d i) (i + 1) (i : Int)) := kp ⟨hs2, q1.wk.frP hfs (fun e => n1 e.symm) (fun e => n2 e.symm), q1.ks.frP hfs (fun k hk e => (n4 k hk).1 e), q1.ge, q1.le⟩
      have HPK := kp (HPK.out.far (p := ⟨b, 70, none⟩) hbk2 (.int .i64 (i : Int)))
      have HR := kp (HR.out.far (p := ⟨b, 70, none⟩) hbr (.int .i64 (i : Int)))
      have HFP := kp (HFP.out.trans hfs (fun k hk => by have : k = b := hk; subst this; exact Or.inl (Or.inl rfl)))
      have hlb := q1.blk.lt
      have f70 := q1.blk.frozen 70
      obtain ⟨c68, c69, c70, _⟩ := q1.cells HSL.out
      have hpl : (pkL (i : Int) t TG (T : Int) KK).length = 36 := pkL_length HKKL.out
      have hp1 := kp (pkL_one (i : Int) t TG (T : Int) KK)
      obtain ⟨PK, hPK⟩ : ∃ PK, pkL (i : Int) t TG (T : Int) KK = PK := ⟨_, rfl⟩
      rw [hPK] at HPK hpl hp1
      clear hs2 hset hfs n1 n2 n3 n4 k1 k2 k3 k4 q1 q2 q3 hbk2 hbr c68 c69 HTS
      have L6 := ld_all (P := Try.prog) bk 36 44 44 PK _ Try.underlying44 rfl info_pk hpl HPK.out
      have SC := sc_all (P := Try.prog) (w := w5.setCell ⟨b, 70, none⟩ (.int .i64 (i : Int))) w.heap.size 44 PK Z HR.out (by rw [hpl, hzl]) hp1.out
      have HRES := kp (HR.out.row PK.toArray)
      have hrow := FrP.of_grown (X := fun k => k = w.heap.size) (gbrow (w5.setCell ⟨b, 70, none⟩ (.int .i64 (i : Int))) w.heap.size PK.toArray) (fun k hk => by injection hk with hk; exact hk.symm)
      have HEND : Kp (SendEnd B w (sdX b bw g ad) b S s l d n n L i (pkL (i : Int) t TG (T : Int) KK) 0 (.returned (.tuple #[.agg PK.toArray, .int .i64 0])) ((w5.setCell ⟨b, 70, none⟩ (.int .i64 (i : Int))).setRow w.heap.size PK.toArray)) := kp
        ⟨sdX b bw g2 ad3, by rw [hPK], ⟨bw, g2, ad3, cp3, HSK2.out.frP hrow (fun k hk e => by
            have e : k = w.heap.size := e
            rcases HXX.out k hk with h | h
            · have := HXL.out k h; omega
            · omega), rfl⟩, HFP.out.trans hrow (fun k hk => Or.inr (Nat.le_of_eq (Eq.symm hk))), fun k hk => (HXX.out k hk).imp id Nat.le_of_lt⟩
      clear hrow HSK2 HFP HXX HXL HR HHAT hPK
      go_wp2_with (refine wpL_load rfl 44 _ rfl rfl L6 ?_)
      refine bodyPost_ret (v := .tuple #[.agg PK.toArray, .int .i64 0]) ?_ rfl HEND.out
      exact res2 Try.results15 w.heap.size 36 _ PK _ Try.underlying44 rfl info_pk hpl HRES.out _ rfl _ rfl
end Go.Proofs.Ytmnbnjiipnocaaa
/- sender: Send, whatever comes; Renew. -/
namespace Go.Proofs.Ytmnbnjiipnocaaa
open Go Go.RowKit
set_option linter.unusedVariables false
set_option linter.unusedSimpArgs false
attribute [local go_sem] bmax2 bmin2 bmax bmin cell_ext frozen_ext

theorem sendE_zero {s l d c : Int} {n L : Nat} {now : Int} {t : ByteArray} (hm : mayP s l d c = true) (hc : c = (n : Int)) (h : sendE s l c L now t = 0) : ∃ i : Nat, atP s l c now = ((i : Int), 0) ∧ 1 ≤ i ∧ i ≤ n ∧ L ≤ i ∧ t.size ≤ 1000 ∧ s ≤ now ∧ now < s + c * l := by
  unfold sendE at h
  have h2 : (atP s l c now).2 = 0 := by
    by_cases h0 : (atP s l c now).2 = 0
    · exact h0
    · rw [if_neg h0] at h; exact absurd h h0
  rw [if_pos h2] at h
  by_cases h1 : (atP s l c now).1 < (L : Int)
  · rw [if_pos h1] at h; exact absurd h (by decide)
  rw [if_neg h1] at h
  by_cases h3 : 1000 < t.size
  · rw [if_pos h3] at h; exact absurd h (by decide)
  have hs : s ≤ now := by
    rcases Int.lt_or_le now s with h | h
    · exfalso; unfold atP at h2; rw [if_pos h] at h2; exact absurd h2 (by decide)
    · exact h
  have he : now < s + c * l := by
    rcases Int.lt_or_le now (s + c * l) with h | h
    · exact h
    · exfalso; unfold atP at h2; rw [if_neg (by omega), if_pos h] at h2; exact absurd h2 (by decide)
  have hin := atP_in hm hs he
  have hat : atP s l c now = ((now - s) / l + 1, 0) := by unfold atP; rw [if_neg (by omega), if_neg (by omega)]
  rw [hat] at h1
  refine ⟨((now - s) / l + 1).toNat, ?_, by omega, by omega, by simp only at h1; omega, by omega, hs, he⟩
  rw [hat, Int.toNat_of_nonneg (by omega)]
theorem S_Send {B : Nat} {w : World} {X : Nat → Prop} {b : Nat} {S : List UInt8} {s l d c : Int} {n L : Nat} (h : SX B w X b S s l d c n L) (hS : S.length = 32) (hm : mayP s l d c = true) (hc : c = (n : Int)) (now : Int) (ht0 : -9223372036854775808 ≤ now) (ht1 : now < 9223372036854775808) (t : ByteArray) (hB : B ≤ w.heap.size) (ht : t.size ≤ 1099511000) :
    Calls Try.prog 15 #[.pointer (some ⟨b, 0, none⟩), .int .i64 now, .string t] w (SendEnd B w X b S s l d c n L (sendL s l c L now t) (sendPk S s l d c n L now t) (sendE s l c L now t)) := by
  by_cases h0 : sendE s l c L now t = 0
  · obtain ⟨i, hat, h1, h2, h3, h4, _, _⟩ := sendE_zero hm hc h0
    have e1 : sendL s l c L now t = i := by unfold sendL; rw [if_pos h0, hat]; simp
    have e2 : sendPk S s l d c n L now t = goodPk (chK S) d n i t := by unfold sendPk; rw [if_pos h0, hat]; simp
    rw [e1, e2, h0]
    exact S_Send_good h hS hm hc now ht0 ht1 t hB i hat h1 h2 h3 h4
  · have e1 : sendL s l c L now t = L := if_neg h0
    have e2 : sendPk S s l d c n L now t = zeroPk := if_neg h0
    rw [e1, e2]
    exact (S_Send_bad h hS hm now ht0 ht1 t ht h0).mono fun e w' ⟨he, hb⟩ => ⟨X, he, h.same hb, FrP.of_bel hb, fun k hk => Or.inl hk⟩
section
variable {P : Program} {ops : Array Oper} {Q : Exit → Act → World → Prop} {S : World → Prop}
theorem stepS_callE {i : Nat} {t : List Nat} {a : Act} {w : World} {f : FuncId} {args : Array Value} {C : Value → World → Prop} (d : Nat) (hd : (ops.getD i default).dst = some d) (hi : i < ops.size) (hg : (ops.getD i default).guard = none) (hr : (execOp a.eval (ops.getD i default)).run P w = .ok (.enter f args) w)
    (hc : Calls P f args w fun e w' => ∃ v, e = .returned v ∧ C v w') (hS : ∀ v W', C v W' → S W') (h : ∀ v W', C v W' → wpListS P ops Q S t (a.put (some d) v) W') : wpListS P ops Q S (i :: t) a w := by
  unfold wpListS wpOp
  simp only [getD_some hi]
  rw [if_pos (by unfold Region.wanted; rw [hg])]
  refine .inl ?_
  unfold Oper.wp
  rw [hr]
  refine hc.mono fun e w' he => ?_
  obtain ⟨v, rfl, hC⟩ := he
  rw [hd]
  exact ⟨hS v w' hC, h v w' hC⟩
end
theorem loOf_zero {d : Int} (hd : 1 ≤ d) : loOf d 0 = 1 := by unfold loOf; omega
theorem mayP_next {s l d c : Int} (hm : mayP s l d c = true) (h : s + c * l ≤ 1152921504606846976) : mayP (s + c * l) l d c = true := by
  have hb := beg_in (i := c + 1) hm (by have := mayP_iff.1 hm; omega) (by omega)
  rw [show c + 1 - 1 = c by omega] at hb
  rw [mayP_iff] at hm ⊢
  omega
/-- Renew's end -/
def RenewEnd (B : Nat) (w : World) (S : List UInt8) (s l d c : Int) (n : Nat) (e : Ending) (w' : World) : Prop :=
  (1152921504606846976 < s + c * l ∧ e = .returned (.tuple #[.pointer none, .int .i64 6]) ∧ Below w.heap.size w w') ∨
  (s + c * l ≤ 1152921504606846976 ∧ ∃ b X, e = .returned (.tuple #[.pointer (some ⟨b, 0, none⟩), .int .i64 0]) ∧ SX B w' X b (macD S seedS) (s + c * l) l d c n 0 ∧ Below w.heap.size w w' ∧ ∀ k, X k → w.heap.size ≤ k)
set_option maxHeartbeats 4000000 in
set_option maxRecDepth 100000 in
theorem S_Renew {B : Nat} {w : World} {X : Nat → Prop} {b : Nat} {S : List UInt8} {s l d c : Int} {n L : Nat} (h : SX B w X b S s l d c n L) (hS : S.length = 32) (hm : mayP s l d c = true) (hc : c = (n : Int)) (hB : B ≤ w.heap.size) :
    Calls Try.prog 13 #[.pointer (some ⟨b, 0, none⟩)] w (RenewEnd B w S s l d c n) := by
  subst hc
  have cT := kp (fun w' => P_Then s l d n hm w')
  obtain ⟨bw, g, ad, cp, hsk, hX⟩ := h
  have HSK := kp hsk
  clear hX hsk
  have HSL := kp hS
  have LP := HSK.out.ldPlan HSL.out
  have hlb := HSK.out.blk.lt
  unfold thenV at cT
  by_cases hov : 1152921504606846976 < s + n * l
  · rw [if_pos hov] at cT
    have HOV := kp hov
    have hpl := planL_length 0 0 0 0
    have hp1 := kp (planL_one 0 0 0 0)
    generalize planL 0 0 0 0 = PZ at cT hpl hp1
    clear hov
    go_enter Try.func13, Try.ntmps13
    go_wp2_with (refine wpL_load rfl 25 _ rfl rfl LP ?_)
    clear LP hlb
    refine (cT.out _).mono ?_
    rintro e w1 ⟨rfl, hb1⟩
    have HB := kp (ba hb1 (.cells PZ.toArray 25))
    have SC := fun (cur : Array Value) (h : cur.size = 4) => sc_new (P := Try.prog) w1 25 PZ hp1.out cur (by rw [hpl]; exact h)
    clear hb1
    go_wp2
    go_ret2
    exact Or.inl ⟨HOV.out, rfl, HB.out⟩
  · rw [if_neg hov] at cT
    have hm2 := mayP_next hm (by omega)
    have cN := kp (fun w' => Next_any S hS w')
    have hEl := macD_length S seedS
    have cW := kp (fun w' (h : B ≤ w'.heap.size) => S_New_good (B := B) (macD S seedS) (s + n * l) l d n hEl hm2 n rfl w' h)
    have HOV := kp (show s + (n : Int) * l ≤ 1152921504606846976 by omega)
    have HD := kp (loOf_zero (d := d) (by have := mayP_iff.1 hm; omega))
    have hpl := planL_length (s + n * l) l d n
    have hp1 := kp (planL_one (s + n * l) l d n)
    obtain ⟨PL, hPL⟩ : ∃ PL, planL (s + n * l) l d n = PL := ⟨_, rfl⟩
    rw [hPL] at cT cW hpl hp1
    clear hov hm2 hm hPL
    obtain ⟨E, hE⟩ : ∃ E, macD S seedS = E := ⟨_, rfl⟩
    rw [hE] at cN cW hEl
    have HEE := kp hE
    clear hE
    have HBB := kp hB
    clear hB
    go_enter Try.func13, Try.ntmps13
    go_wp2_with (refine wpL_load rfl 25 _ rfl rfl LP ?_)
    clear LP hlb
    refine (cT.out _).mono ?_
    rintro e w1 ⟨rfl, hb1⟩
    have HB := kp (ba hb1 (.cells PL.toArray 25))
    have HSK := kp (HSK.out.bel (ba hb1 (.cells PL.toArray 25)))
    have HP := kp (Blk.new w1 25 PL.toArray)
    have SC := fun (cur : Array Value) (h : cur.size = 4) => sc_new (P := Try.prog) w1 25 PL hp1.out cur (by rw [hpl]; exact h)
    clear hb1
    go_upto_region 4 with (fail)
    clear SC
    generalize w1.alloc (.cells PL.toArray 25) = W at HB HSK HP ⊢
    generalize w1.heap.size = b4 at HP ⊢
    refine wp_region_held (S := fun W' => Below W.heap.size W W') (by kernel_rfl) ?_
    change wpAnyH _ _ _ _ _ 11 _ _ _
    refine takeAll (by kernel_rfl) (fun _ _ d _ _ h => by cases d <;> exact h) [(0, 17), (1, 18), (2, 19), (3, 20), (5, 22)] [.pointer (some ⟨b, 0, none⟩), .pointer (some ⟨b, 0, none⟩), .pointer (some ⟨b, 0, none⟩), .agg (cellsU8 S).toArray, .agg PL.toArray] _ _ _ 6 (by kernel_rfl) ⟨Or.inl ⟨by kernel_rfl, fun w hS => by kernel_rfl⟩, Or.inl ⟨by kernel_rfl, fun w hS => by kernel_rfl⟩, Or.inl ⟨by kernel_rfl, fun w hS => by kernel_rfl⟩,
      Or.inl ⟨by kernel_rfl, fun w hS => exec_load (ty := 23) (x := .tmp 19) (by kernel_rfl) (pv := .pointer (some ⟨b, 0, none⟩)) (by kernel_rfl) ((HSK.out.bel hS).ldSeed HSL.out)⟩,
      Or.inl ⟨by kernel_rfl, fun w hS => exec_load (ty := 25) (x := .tmp 4) (by kernel_rfl) (pv := .pointer (some ⟨b4, 0, none⟩)) (by kernel_rfl) (ld_all (P := Try.prog) b4 4 25 25 PL _ Try.underlying25 rfl info_plan hpl (HP.out.bel hS))⟩, trivial⟩ (Below.refl _ _).drew ?_
    have hdr : Below W.heap.size W { W with drawn := W.drawn + 1 } := (Below.refl _ _).drew
    change wpAnyH _ _ _ _ _ [4, 6, 7, 8, 9, 10].length _ _ _
    refine wpAnyH_of_seqE (by kernel_rfl) (fun _ _ d _ _ h => by cases d <;> exact h) [4, 6, 7, 8, 9, 10] _ _ _ (Below.refl _ _).drew (of_decide_eq_true (by kernel_rfl)) (by kernel_rfl) ?_
    refine stepS_call 21 (by kernel_rfl) (of_decide_eq_true (by kernel_rfl)) (by kernel_rfl) (f := 29) (args := #[.agg (cellsU8 S).toArray]) (by kernel_rfl) (cN.out _) (fun W' h => bt' hdr h hdr.size) fun W2 h2 => ?_
    have hW2 : Below W.heap.size W W2 := bt' hdr h2 hdr.size
    refine stepS_callE 23 (by kernel_rfl) (of_decide_eq_true (by kernel_rfl)) (by kernel_rfl) (f := 10) (args := #[.agg (cellsU8 E).toArray, .agg PL.toArray]) (C := fun v W' => ∃ b bw g, v = .tuple #[.pointer (some ⟨b, 0, none⟩), .int .i64 0] ∧ SK B W' b bw g none 0 E (s + n * l) l d n n 1 1 0 ∧ Below W2.heap.size W2 W' ∧ ∀ k, sdX b bw g none k → W2.heap.size ≤ k) (by kernel_rfl)
      ((cW.out W2 (Nat.le_trans HBB.out (Nat.le_trans HB.out.size hW2.size))).mono fun e W' ⟨b, bw, g, he, h⟩ => ⟨_, he, b, bw, g, rfl, h⟩) (fun v W' ⟨_, _, _, _, _, h, _⟩ => bt' hW2 h hW2.size) ?_
    rintro v W3 ⟨b2, bw2, g2, rfl, q1, q2, q3⟩
    have hW3 : Below W.heap.size W W3 := bt' hW2 q2 hW2.size
    refine stepS 24 (by kernel_rfl) (of_decide_eq_true (by kernel_rfl)) (by kernel_rfl) (W' := W3) (v := .pointer (some ⟨b2, 0, none⟩)) (by kernel_rfl) hW3 ?_
    refine stepS 25 (by kernel_rfl) (of_decide_eq_true (by kernel_rfl)) (by kernel_rfl) (W' := W3) (v := .int .i64 0) (by kernel_rfl) hW3 ?_
    refine stepS 2 (by kernel_rfl) (of_decide_eq_true (by kernel_rfl)) (by kernel_rfl) (W' := W3) (v := .pointer (some ⟨b2, 0, none⟩)) (by kernel_rfl) hW3 ?_
    refine stepS 3 (by kernel_rfl) (of_decide_eq_true (by kernel_rfl)) (by kernel_rfl) (W' := W3) (v := .int .i64 0) (by kernel_rfl) hW3 ?_
    have HEND : Kp (RenewEnd B w S s l d n n (.returned (.tuple #[.pointer (some ⟨b2, 0, none⟩), .int .i64 0])) W3) := kp (Or.inr ⟨HOV.out, b2, sdX b2 bw2 g2 none, rfl, ⟨bw2, g2, none, 0, by rw [HEE.out, HD.out]; exact q1, rfl⟩, bt' HB.out hW3 HB.out.size, fun k hk => Nat.le_trans (Nat.le_trans HB.out.size hW2.size) (q3 k hk)⟩)
    clear q1 q2 q3 hW3 hW2 h2 HSK HP HB
    unfold wpListS
    dsimp only [Exit.then, putAll, Act.put]
    simp only [List.setIfInBounds_toArray, List.set_cons_succ, List.set_cons_zero]
    go_wp2
    go_ret2
    exact HEND.out
end Go.Proofs.Ytmnbnjiipnocaaa
/- the reference's sender: Tag, Then, Renew. -/
namespace Go.Proofs.Ytmnbnjiipnocaaa
open Go Go.RowKit
set_option linter.unusedVariables false
set_option linter.unusedSimpArgs false
attribute [local go_sem] bmax2 bmin2 bmax bmin cell_ext frozen_ext

set_option maxHeartbeats 1000000 in
set_option maxRecDepth 100000 in
theorem R12_Tag (K : List UInt8) (i : Int) (t : ByteArray) (hK : K.length = 32) (ht : t.size ≤ 1099511000) (w : World) :
    Calls Try.prog 20 #[.agg (cellsU8 K).toArray, .int .i64 i, .string t] w fun e w' => e = .returned (.string (str (tagD K i t))) ∧ Below w.heap.size w w' := by
  have c1 : Kp (∀ w', Calls Try.prog 31 #[.agg (cellsU8 K).toArray, .string ⟨#[116, 97, 103]⟩] w' fun e w'' => e = .returned (.agg (cellsU8 (macD K tagS)).toArray) ∧ Below w'.heap.size w' w'') := kp (fun w' => R_Of K ⟨#[116, 97, 103]⟩ hK (by decide) w')
  obtain ⟨N, hN⟩ : ∃ N : Nat, i % 18446744073709551616 = (N : Int) := ⟨(i % 18446744073709551616).toNat, by omega⟩
  have hN2 : N < U64 := by unfold U64; omega
  have hs := kp (str_tagT i t)
  rw [hN, Int.toNat_natCast] at hs
  have c2 := kp (fun w' => ref01_Put_mid N 4 w' hN2 (by decide) 4 (by decide))
  have hw : IntKind.u64.wrap i = (N : Int) := by rw [wrapU, hN]
  have hz : (str (putL N 4)).size ≤ 4 := by rw [str_size, length_putL]; omega
  have hel := macD_length K tagS
  have c3 := kp (fun w' => R_Short (str (macD K tagS)) (str (tagT i t)) 16 16 (by decide) (by rw [str_size]; omega) (by rw [tagT_size]; omega) w')
  rw [bs_str, bs_tagT] at c3
  unfold tagD
  rw [← hs.out] at c3
  generalize macD K tagS = E at *
  generalize tagT i t = TT at *
  generalize str (putL N 4) = A at *
  have hcl := key_cells _ hel
  have HEL := kp hel
  have HB := kp (ba (Below.refl w.heap.size w) (.cells (cellsU8 K).toArray 23))
  have LD := ldK K hK (Blk.new w 23 (cellsU8 K).toArray)
  clear hel hN hN2 hs
  go_enter Try.func20, Try.ntmps20
  go_wp2_with (refine wpL_load rfl 23 _ rfl rfl LD ?_)
  clear LD
  refine (c1.out _).mono ?_
  rintro e w1 ⟨rfl, hb1⟩
  have SC := fun (cur : Array Value) (h : cur.size = 32) => sc_new (P := Try.prog) w1 23 (cellsU8 E) (cellsU8_one _) cur (by rw [hcl]; exact h)
  have K3 := kp (Blk.new w1 23 (cellsU8 E).toArray)
  have HB3 := kp (ba (bt' HB.out hb1 HB.out.size) (.cells (cellsU8 E).toArray 23))
  clear hb1 HB
  go_upto_region 2 with (fail)
  clear SC
  generalize w1.alloc (.cells (cellsU8 E).toArray 23) = W3 at K3 HB3 ⊢
  generalize w1.heap.size = b3 at K3 ⊢
  have hcv := fun x => blk_str (P := Try.prog) 58 (e := 5) (dst := 9) (n := 32) (cap := 32) Try.underlying58 Try.underlying5 Try.underlying9 (K3.out.bel (ext_below W3 x)) HEL.out
  refine wp_region_ext [0, 1, 2, 3, 4, 5, 6, 7] [8] (by kernel_rfl) (by kernel_rfl) ?_
  simp only [List.map_cons, List.map_nil, List.getD_cons_succ, List.getD_cons_zero]
  repeat (first
    | go_big_quiet_step (first | (go_at_call 40; with_reducible exact Calls.ext_of (c2.out _)) | (go_at_call 39; with_reducible exact Calls.ext_of (c3.out _))))
  refine wpQuiet_nil ?_
  rintro z
  have HB4 := kp (bt' HB3.out (ext_below W3 z) HB3.out.size)
  clear hcv
  generalize W3.ext z = V at HB4 ⊢
  go_wp2
  go_ret
  exact ⟨rfl, HB4.out⟩
set_option maxHeartbeats 2000000 in
set_option maxRecDepth 100000 in
theorem R10_Then (s l d c : Int) (n : Nat) (hc : c = (n : Int)) (hm : mayP s l d c = true) (w : World) : Calls Try.prog 30 #[.agg (planL s l d c).toArray] w fun e w' => e = .returned (thenV s l d c) ∧ Below w.heap.size w w' := by
  subst hc
  have hmm := mayP_iff.1 hm
  have cB := kp (fun w' => R10_Begins s l d n (n + 1) hm (by omega) (by omega) w')
  rw [show ((n + 1 : Nat) : Int) = (n : Int) + 1 by omega, show ((n : Int) + 1 - 1) = (n : Int) by omega] at cB
  have HP := kp ((Blk.new w 34 (planL s l d n).toArray).alloc (.cells (planL 0 0 0 0).toArray 34))
  have HN := kp (Blk.new (w.alloc (.cells (planL s l d n).toArray 34)) 34 (planL 0 0 0 0).toArray)
  have HB := kp (ba (ba (Below.refl w.heap.size w) (.cells (planL s l d n).toArray 34)) (.cells (planL 0 0 0 0).toArray 34))
  rw [size_all] at HN
  have e1 : wrap64 ((n : Int) + 1) = (n : Int) + 1 := IntWalk.wrap64_in _ (by omega)
  have C1 : Kp ((planL s l d n)[1]? = some (.int .i64 l)) := kp rfl
  have C2 : Kp ((planL s l d n)[2]? = some (.int .i64 d)) := kp rfl
  have C3 : Kp ((planL s l d n)[3]? = some (.int .i64 (n : Int))) := kp rfl
  have hPl := planL_length s l d n
  unfold thenV
  have hbp : Kp (∀ (E : Int) (W : World), (Instr.build 34 #[(0, .int .i64 E), (1, .int .i64 l), (2, .int .i64 d), (3, .int .i64 (n : Int))]).run Try.prog W = .ok (.agg (planL E l d n).toArray) W) := kp (fun E W => run_build W 34 _ _ (by kernel_rfl))
  obtain ⟨E, hE⟩ : ∃ E, s + (n : Int) * l = E := ⟨_, rfl⟩
  rw [hE] at cB
  rw [hE]
  clear hE hmm hm
  have hzl := planL_length 0 0 0 0
  have hz1 := kp (planL_one 0 0 0 0)
  have hql := planL_length E l d n
  have hq1 := kp (planL_one E l d n)
  generalize planL s l d n = X at *
  obtain ⟨Z, hZ⟩ : ∃ Z, planL 0 0 0 0 = Z := ⟨_, rfl⟩
  have HZ := kp hZ
  rw [hZ] at HP HN HB hzl hz1
  obtain ⟨Y, hY⟩ : ∃ Y, planL E l d n = Y := ⟨_, rfl⟩
  rw [hY] at hql hq1
  have HY := kp (fun W => (hbp.out E W).trans (by rw [hY]))
  rw [hY]
  clear hbp hY
  by_cases hov : 1152921504606846976 < E
  · rw [if_pos hov, hZ]
    go_enter Try.func30, Try.ntmps30
    go_upto_region 1 with (fail)
    change Code.wp _ _ _ _ ((w.alloc (.cells X.toArray 34)).alloc (.cells (planL 0 0 0 0).toArray 34))
    rw [hZ]
    clear hZ
    generalize (w.alloc (.cells X.toArray 34)).alloc (.cells Z.toArray 34) = W at HP HN HB ⊢
    have LX := ld_all (P := Try.prog) w.heap.size 4 34 34 X _ Try.underlying34 rfl info_rplan hPl HP.out
    have x3 := HP.out.atL C3.out
    have k1 := HP.out.lt
    go_wp2_with (refine wpL_load rfl 34 _ rfl rfl LX ?_)
    clear LX x3 k1
    refine (cB.out _).mono ?_
    rintro e w1 ⟨rfl, hb1⟩
    have HB1 := kp (bt' HB.out hb1 HB.out.size)
    have HN1 := kp (HN.out.bel hb1)
    clear hb1 HP HN HB
    have SC := sc_same (P := Try.prog) (w := w1) (w.heap.size + 1) 34 Z HN1.out hz1.out
    go_wp2_with (refine wpL_val 20 rfl rfl (.agg Z.toArray) (by rw [← HZ.out]; kernel_rfl) ?_)
    refine bodyPost_ret (v := .tuple #[.agg Z.toArray, .int .i64 6]) ?_ rfl ⟨rfl, HB1.out⟩
    exact res2 Try.results30 (w.heap.size + 1) 4 _ Z _ Try.underlying34 rfl info_rplan hzl HN1.out _ rfl _ rfl
  · rw [if_neg hov]
    go_enter Try.func30, Try.ntmps30
    go_upto_region 1 with (fail)
    change Code.wp _ _ _ _ ((w.alloc (.cells X.toArray 34)).alloc (.cells (planL 0 0 0 0).toArray 34))
    rw [hZ]
    clear hZ
    generalize (w.alloc (.cells X.toArray 34)).alloc (.cells Z.toArray 34) = W at HP HN HB ⊢
    have LX := ld_all (P := Try.prog) w.heap.size 4 34 34 X _ Try.underlying34 rfl info_rplan hPl HP.out
    have x3 := HP.out.atL C3.out
    have k1 := HP.out.lt
    go_wp2_with (refine wpL_load rfl 34 _ rfl rfl LX ?_)
    clear LX x3 k1
    refine (cB.out _).mono ?_
    rintro e w1 ⟨rfl, hb1⟩
    have HB1 := kp (bt' HB.out hb1 HB.out.size)
    have HN1 := kp (HN.out.bel hb1)
    have HP1 := kp (HP.out.bel hb1)
    clear hb1 HP HN HB
    have x1 := HP1.out.atL C1.out
    have x2 := HP1.out.atL C2.out
    have x3 := HP1.out.atL C3.out
    have k1 := HP1.out.lt
    have SC := sc_all (P := Try.prog) (w := w1) (w.heap.size + 1) 34 Y Z HN1.out (by rw [hql, hzl]) hq1.out
    have HRES := kp (HN1.out.row Y.toArray)
    have HBX := kp (bsr HB1.out (b := w.heap.size + 1) (by omega) HB1.out.size Y.toArray)
    go_wp2_with (refine wpL_val 28 rfl rfl (.agg Y.toArray) (exec_build (parts := #[(0, .int .i64 E), (1, .int .i64 l), (2, .int .i64 d), (3, .int .i64 (n : Int))]) rfl (by simp [Act.eval, Act.put]) (HY.out _)) ?_)
    refine bodyPost_ret (v := .tuple #[.agg Y.toArray, .int .i64 0]) ?_ rfl ⟨rfl, HBX.out⟩
    exact res2 Try.results30 (w.heap.size + 1) 4 _ Y _ Try.underlying34 rfl info_rplan hql HRES.out _ rfl _ rfl
end Go.Proofs.Ytmnbnjiipnocaaa
