/- Texts laid together: Peb4, RegE, RPeb, Peb5, EqS, Wid1, Wid2, Pln1, Pln2. -/
import Derived.Test.YtmblknknbbdmeaaGreatProg
import Derived.WalkMore
import Derived.Test.YtmblknknbbdmeaaGreatRcb6
/- pebble: Skip. -/
namespace Go.Proofs.YtmblknknbbdmeaaGreat
open Go Go.RowKit
set_option linter.unusedVariables false
set_option linter.unusedSimpArgs false
attribute [local go_sem] bmax2 bmin2 bmax bmin cell_ext frozen_ext
variable {w : World} {b g cap : Nat} {cur : Array Value} {F : Nat → List UInt8} {n at_ : Nat} {ps : List Nat}

theorem Skp.len {n at_ to_ : Nat} {ps : List Nat} (h : Skp n at_ to_ ps) (ha : at_ ≤ n) (hn1 : 1 ≤ n) (hn : n ≤ 1024) : ps.length ≤ 12 := by
  have := Hv.len ps _ h.hv (by omega)
  have h2 : 2 ^ ps.length ≤ 4098 := Nat.le_trans this (by omega)
  rcases Nat.lt_or_ge 12 ps.length with h3 | h3
  · have : 2 ^ 13 ≤ 2 ^ ps.length := Nat.pow_le_pow_right (by decide) h3
    omega
  · exact h3
theorem Skp.ne {n at_ to_ : Nat} {ps : List Nat} (h : Skp n at_ to_ ps) : ps ≠ [] := by
  obtain ⟨r, rfl⟩ := h.hd; simp
/-- how long a walker's slice is: a loop's measure -/
def lenAt (w : World) (b : Nat) : Nat :=
  match w.cell? ⟨b, 2, none⟩ with
  | some (.slice _ n _) => n
  | _ => 0
theorem Wk.lenAt (h : Wk w b g cap cur F n at_ ps) : lenAt w b = ps.length := by
  unfold Proofs.YtmblknknbbdmeaaGreat.lenAt
  rw [h.cells.2.2.1]

/-- Skip's end -/
def PSkipEnd (w : World) (b g : Nat) (F : Nat → List UInt8) (n tw : Nat) (e : Ending) (w' : World) : Prop := ∃ cap' cur' ps', e = .returned (.int .i64 0) ∧ Wk w' b g cap' cur' F n tw ps' ∧ Inv n tw ps' ∧ Fr w w' b g
end Go.Proofs.YtmblknknbbdmeaaGreat
/- a drawing region with makers, some of whose plain operations (E) may come behind the tail's first ones: these are taken as soon as they may be -/
namespace Go.Proofs.YtmblknknbbdmeaaGreat
open Go Go.RowKit
set_option linter.unusedVariables false
set_option linter.unusedSimpArgs false
section
variable {P : Program} {ops : Array Oper} {md : Region.Mode}

def earlyB : Op → Bool
  | .move _ | .assign _ | .extract .. | .pick .. => true
  | _ => false
theorem early_all {o : Oper} {a : Act} {W : World} {v : Value} {C : World → Prop} (he : earlyB o.op = true) (h : o.quietAt P a C W v) : ∀ w, (execOp a.eval o).run P w = .ok (.value v) w := by
  intro w
  unfold Oper.quietAt execOp at h
  unfold execOp
  cases ho : o.op <;> rw [ho] at he h <;> first
    | (simp [earlyB] at he; done)
    | skip
  case extract t ix =>
    simp only [Sem.run_pure, Sem.run_bind, Oper.quietUpon] at h ⊢
    cases ht : a.eval t <;> rw [ht] at h <;> simp only [Instr.extract] at h ⊢ <;> first
      | (simp [Result.andThen] at h; done)
      | skip
    all_goals
      rename_i vs
      cases hx : vs[ix]? <;> simp [hx, Result.andThen] at h ⊢
      exact h
  case pick c x y =>
    simp only [Sem.run_pure, Sem.run_bind, Oper.quietUpon] at h ⊢
    cases hc : a.eval c <;> rw [hc] at h <;> simp only [asBool] at h ⊢ <;> first
      | (simp [Result.andThen] at h; done)
      | skip
    simp only [Sem.run_pure, Result.andThen_ok] at h ⊢
    rw [h.2]
  all_goals
    simp only [Sem.run_pure, Sem.run_bind, Oper.quietUpon] at h ⊢
    rw [h.2]
/-- apart from all that may come up beside it -/
def Region.freeE (md : Region.Mode) (ops : Array Oper) (i : Nat) : Bool :=
  match ops[i]? with
  | none => false
  | some oi => (List.range ops.size).all fun j => j == i || Region.waitsFor md ops i j || match ops[j]? with
      | some oj => oj.after.any (fun e => Region.binds md e && e.on == i) || oi.apart ops oj
      | none => true
theorem free_any {i : Nat} {listed : Array Bool} (hr : i ∈ Region.ready md ops listed) (h : Region.freeE md ops i = true) : Region.free md ops listed i = true := by
  obtain ⟨_, oi', hoi', hall⟩ := mem_ready.1 hr
  unfold Region.freeE at h
  unfold Region.free
  split at h
  · cases h
  · rename_i oi hoi
    rw [hoi]
    simp only
    rw [List.all_eq_true] at h ⊢
    intro j hj
    have h1 := h j hj
    simp only [Bool.or_eq_true] at h1 ⊢
    rcases h1 with (h1 | h1) | h1
    · exact Or.inl (Or.inl h1)
    · obtain ⟨o', ho', e, he, hb, hon⟩ := Region.waitsFor_spec h1
      have : o' = oi' := Option.some.inj (ho'.symm.trans hoi')
      subst this
      have h2 := hall e he hb
      rw [hon] at h2
      refine Or.inl (Or.inr ?_)
      cases hl : listed.getD j true with
      | true => rfl
      | false => rw [getD_both hl] at h2; cases h2
    · exact Or.inr h1

def Region.sinkE (md : Region.Mode) (ops : Array Oper) (E ord : List Nat) (n : Nat) : Bool :=
  (List.range n).all fun x => E.contains (ord.getD x 0) || (List.range (n + 1)).any fun y => decide (x < y) && (decide (y = n) || !E.contains (ord.getD y 0)) && Region.waitsFor md ops (ord.getD y 0) (ord.getD x 0)
theorem tail_waitsE {E ord : List Nat} {n : Nat} {listed : Array Bool} (hs : Region.sinkE md ops E ord n = true) (hc : Region.chainI md ops ord n = true) (hn : n < ord.length) (inv : HeadI md ops ord n listed) :
    ∀ (d x : Nat), n - x = d → x < n → ord.getD x 0 ∉ E → listed.getD (ord.getD x 0) true = false → ∀ y, n ≤ y → y < ord.length → ord.getD y 0 ∉ Region.ready md ops listed := by
  intro d
  induction d using Nat.strongRecOn with
  | _ d ih =>
    intro x hd hx hxE hun y hy hyl hr
    obtain ⟨_, ot, hot, hall⟩ := mem_ready.1 hr
    by_cases hyn : y = n
    · subst hyn
      have h1 := List.all_eq_true.1 hs x (List.mem_range.2 hx)
      rw [Bool.or_eq_true] at h1
      replace h1 := h1.resolve_left (by simpa using hxE)
      obtain ⟨z, hz, hz2⟩ := List.any_eq_true.1 h1
      simp only [Bool.and_eq_true, decide_eq_true_eq] at hz2
      obtain ⟨oj, hoj, e, he, hb, hon⟩ := Region.waitsFor_spec hz2.2
      have hz3 := hz2.1.2
      simp only [Bool.or_eq_true, decide_eq_true_eq] at hz3
      replace hz2 : x < z ∧ True := ⟨hz2.1.1, trivial⟩
      have hzle : z ≤ y := by have := List.mem_range.1 hz; omega
      by_cases hzy : z = y
      · subst hzy
        have : oj = ot := Option.some.inj (hoj.symm.trans hot)
        subst this
        have h2 := hall e he hb
        rw [hon, getD_both hun] at h2
        cases h2
      · cases hl : listed.getD (ord.getD z 0) false with
        | true =>
          have h2 := inv.closed _ oj hoj hl e he hb
          rw [hon, getD_both hun] at h2
          cases h2
        | false =>
          have hjs : ord.getD z 0 < listed.size := by rw [inv.size]; exact inv.inb z (by omega)
          exact ih (y - z) (by omega) z rfl (by omega) (by have := hz3.resolve_left hzy; simpa using this) (getD_in hjs hl) y (Nat.le_refl _) hyl hr
    · have h1 := List.all_eq_true.1 hc y (List.mem_range.2 hyl)
      simp only [Bool.or_eq_true, decide_eq_true_eq] at h1
      rcases h1 with h1 | h1
      · omega
      · obtain ⟨o', ho', e, he, hb, hon⟩ := Region.waitsFor_spec h1
        have : o' = ot := Option.some.inj (ho'.symm.trans hot)
        subst this
        have h2 := hall e he hb
        rw [hon, getD_both (inv.tail (y - 1) (by omega) (by omega))] at h2
        cases h2


theorem ready_some {ord : List Nat} {listed : Array Bool} (ht : Region.topB md ops ord = true) (hin : ∀ x, x < ord.length → ord.getD x 0 < ops.size) (hsz : listed.size = ops.size) {x : Nat} (hx : x < ord.length) (hu : listed.getD (ord.getD x 0) true = false) : ∃ y, y < ord.length ∧ listed.getD (ord.getD y 0) true = false ∧ ord.getD y 0 ∈ Region.ready md ops listed := by
  induction x using Nat.strongRecOn with
  | _ x ih =>
    by_cases hall : ∀ y, y < x → listed.getD (ord.getD y 0) true = true
    · refine ⟨x, hx, hu, ?_⟩
      refine mem_ready.2 ⟨hu, _, getD_some (hin x hx), fun e he hb => ?_⟩
      have h1 := List.all_eq_true.1 ht x (List.mem_range.2 hx)
      have h2 := Array.all_eq_true'.1 h1 e he
      rw [hb] at h2
      simp only [Bool.not_true, Bool.false_or, List.contains_eq_mem, decide_eq_true_eq] at h2
      obtain ⟨y, hy, hye⟩ := List.mem_iff_getElem.1 h2
      have hyx : y < x := by rw [List.length_take] at hy; omega
      have hl := hall y hyx
      have e1 : ord.getD y 0 = e.on := by
        rw [List.getElem_take] at hye
        rw [List.getD_eq_getElem?_getD, List.getElem?_eq_getElem (by omega)]
        exact hye
      rw [e1] at hl
      have hes : e.on < listed.size := by rw [hsz, ← e1]; exact hin y (by omega)
      simp [hes] at hl ⊢
      exact hl
    · simp only [Classical.not_forall] at hall
      obtain ⟨y, hy, hn⟩ := hall
      exact ih y hy (by omega) (by simpa using hn)
theorem wpAny_mkE {Q : Exit → Act → World → Prop} {a A : Act} {w : World} {E h k t : List Nat} {V : Nat → Value → World → Prop} {N : Value → Value → Prop} (hsel : Region.noSelect ops = true) (hnd : ((h ++ k) ++ t).Nodup)
    (hEh : ∀ e ∈ E, e ∈ h) (hEp : ∀ e ∈ E, earlyB (ops.getD e default).op = true) (hEf : ∀ e ∈ E, Region.freeE md ops e = true) (hQ : ∀ c (a : Act) d v w, Q (.panic c) (a.put d v) w → Q (.panic c) a w) (hs : Region.sinkE md ops E ((h ++ k) ++ t) (h ++ k).length = true) (hc : Region.chainI md ops ((h ++ k) ++ t) (h ++ k).length = true) (ht0 : 0 < t.length) (htop : Region.topB md ops (h ++ k) = true) (hin : ∀ x, x < ((h ++ k) ++ t).length → ((h ++ k) ++ t).getD x 0 < ops.size)
    (hmk : Region.mkB md ops h k = true) (hdist : distB a.tmps.size (selOps ops (h ++ k)) = true) (hlex : LexX P ops w A (selOps ops h) a) (hk : ∀ i ∈ k, MkAt P ops (ops.getD i default) A w (V i) V N)
    (hV : ∀ i v W W', V i v W → Below W.heap.size W W' → V i v W')
    (hL : ∀ listed a' W, HeadI md ops ((h ++ k) ++ t) (h ++ k).length listed → (∀ i ∈ h ++ k, listed.getD i true = true) → InvM ops a A w h k V N listed a' W → wpAny P md ops Q t.length listed a' W) :
    ∀ (f : Nat) (listed : Array Bool) (a' : Act) (W : World), unl (h ++ k) listed = f → HeadI md ops ((h ++ k) ++ t) (h ++ k).length listed → InvM ops a A w h k V N listed a' W → wpAny P md ops Q (f + t.length) listed a' W := by
  have hn : (h ++ k).length < ((h ++ k) ++ t).length := by rw [@List.length_append Nat (h ++ k) t]; omega
  have hord : ∀ x, x < (h ++ k).length → ((h ++ k) ++ t).getD x 0 = (h ++ k).getD x 0 := fun x hx => by
    rw [List.getD_eq_getElem?_getD, List.getElem?_append_left hx, ← List.getD_eq_getElem?_getD]
  have hin' : ∀ x, x < (h ++ k).length → (h ++ k).getD x 0 < ops.size := fun x hx => by rw [← hord x hx]; exact hin x (by omega)
  simp only [Region.mkB, Bool.and_eq_true] at hmk
  obtain ⟨mk1, mk2⟩ := hmk
  have hdh : distB a.tmps.size (selOps ops h) = true := by
    simp only [distB, Bool.and_eq_true, decide_eq_true_eq] at hdist ⊢
    unfold selOps at hdist ⊢
    rw [List.map_append, List.map_append, List.all_append, Bool.and_eq_true] at hdist
    exact ⟨hdist.1.1, (List.nodup_append.1 hdist.2).1⟩
  intro f
  induction f with
  | zero =>
    intro listed a' W hu inv iv
    rw [Nat.zero_add]
    exact hL listed a' W inv (unl_zero hu) iv
  | succ f ih =>
    intro listed a' W hu inv iv
    rw [show f + 1 + t.length = (f + t.length) + 1 by omega]
    obtain ⟨x, hx, hxu⟩ : ∃ x, x < (h ++ k).length ∧ listed.getD ((h ++ k).getD x 0) true = false := by
      have hne : ((h ++ k).filter fun i => !listed.getD i true) ≠ [] := fun e => by unfold unl at hu; rw [e] at hu; cases hu
      obtain ⟨y, hy⟩ := List.exists_mem_of_ne_nil _ hne
      rw [List.mem_filter] at hy
      obtain ⟨x, hx, he⟩ := List.mem_iff_getElem.1 hy.1
      exact ⟨x, hx, by rw [List.getD_eq_getElem?_getD, List.getElem?_eq_getElem hx]; simp only [Option.getD_some]; rw [he]; simpa using hy.2⟩
    obtain ⟨x0, hx0, hx0u, hx0r⟩ := ready_some htop hin' inv.size hx hxu
    have NEXT : ∀ i, i ∈ Region.ready md ops listed → i ∈ h ++ k → ∀ {d v W'}, (ops.getD i default).dst = some d → Below W.heap.size W W' → (i ∈ h → A.tmps[d]? = some v) → (i ∈ k → V i v W') → (i ∈ k → ∀ j u, V j u W → N v u ∧ N u v) → wpAny P md ops Q (f + t.length) (listed.setIfInBounds i true) (a'.put (some d) v) W' := by
      intro i hi him d v W' hd hW h1 h2 h3
      obtain ⟨hiu, oi, hoi, hdep⟩ := mem_ready.1 hi
      have hlt : i < ops.size := (Array.getElem?_eq_some_iff.1 hoi).1
      have ho : oi = ops.getD i default := by
        have := getD_some hlt
        rw [hoi] at this; exact Option.some.inj this
      subst ho
      obtain ⟨z, hz, hzi⟩ := inv.all i hlt hiu
      have hzn : z < (h ++ k).length := by
        rcases Nat.lt_or_ge z (h ++ k).length with h1 | h1
        · exact h1
        · exfalso
          obtain ⟨q, hq, hqi⟩ := List.mem_iff_getElem.1 him
          have e1 : ((h ++ k) ++ t).getD q 0 = i := by rw [hord q hq, List.getD_eq_getElem?_getD, List.getElem?_eq_getElem hq]; exact hqi
          have hq' : q < ((h ++ k) ++ t).length := by omega
          rw [List.getD_eq_getElem?_getD, List.getElem?_eq_getElem hz, Option.getD_some] at hzi
          rw [List.getD_eq_getElem?_getD, List.getElem?_eq_getElem hq', Option.getD_some] at e1
          have := (List.getElem_inj hnd).1 (hzi.trans e1.symm)
          omega

      refine ih _ _ _ ?_ ?_ (iv.step hdist hV him hiu hd hW h1 h2 h3)
      · have := unl_set (List.nodup_append.1 hnd).1 him hiu
        omega
      · have := inv.set hnd hz (hzi.symm ▸ hi) hzn
        rw [hzi] at this
        exact this
    have GET : ∀ i, i ∈ Region.ready md ops listed → i ∈ h → ∃ d v, (ops.getD i default).dst = some d ∧ A.tmps[d]? = some v ∧ ((Region.wanted (ops.getD i default) (yielded ops a'.tmps) = true ∧ YX P (ops.getD i default) a' w v) ∨ (Region.wanted (ops.getD i default) (yielded ops a'.tmps) = false ∧ v = undef)) := by
      intro i hi hih
      obtain ⟨hiu, oi, hoi, hdep⟩ := mem_ready.1 hi
      have hlt : i < ops.size := (Array.getElem?_eq_some_iff.1 hoi).1
      have ho : oi = ops.getD i default := by
        have := getD_some hlt
        rw [hoi] at this; exact Option.some.inj this
      subst ho
      obtain ⟨z, hz, hzi⟩ := inv.all i hlt hiu
      have listedOf : ∀ j, Region.waitsFor md ops i j = true → listed.getD j false = true := fun j hj => by
        obtain ⟨oj, hoj, e, he, hb, hon⟩ := Region.waitsFor_spec hj
        have : oj = ops.getD i default := Option.some.inj (hoj.symm.trans hoi)
        subst this
        rw [← hon]; exact hdep e he hb
      have unlistedOf : ∀ j, Region.waitsFor md ops j i = true → listed.getD j false = false := fun j hj => by
        obtain ⟨oj, hoj, e, he, hb, hon⟩ := Region.waitsFor_spec hj
        cases hl : listed.getD j false with
        | false => rfl
        | true =>
          have := inv.closed j oj hoj hl e he hb
          rw [hon, getD_both hiu] at this
          cases this
      obtain ⟨p, hp, hpi⟩ := List.mem_iff_getElem.1 hih
      have hpg : h.getD p 0 = i := by rw [List.getD_eq_getElem?_getD, List.getElem?_eq_getElem hp]; exact hpi
      have hag : ∀ s ∈ (ops.getD i default).looksAt ops, a'.tmps[s]? = if ∃ x ∈ (selOps ops h).take p, x.dst = some s then A.tmps[s]? else a.tmps[s]? := fun s hs' => by
        have m := List.all_eq_true.1 (List.all_eq_true.1 mk1 p (List.mem_range.2 hp)) s (by rw [hpg]; exact hs')
        rw [Bool.and_eq_true] at m
        split
        · rename_i hx
          obtain ⟨o, ho, hos⟩ := hx
          obtain ⟨q, hq, hqo⟩ := List.mem_iff_getElem.1 ho
          have hq1 : q < p := by rw [List.length_take] at hq; omega
          have hq2 : q < h.length := by omega
          have hoq : o = ops.getD (h.getD q 0) default := by
            rw [← hqo, List.getElem_take]
            unfold selOps
            rw [List.getElem_map, List.getD_eq_getElem?_getD, List.getElem?_eq_getElem hq2]; rfl
          have m1 := List.all_eq_true.1 m.1 q (List.mem_range.2 hq2)
          rw [← hoq, hos] at m1
          simp only [bne_self_eq_false, Bool.false_or, hq1, if_true, hpg] at m1
          exact iv.hv (h.getD q 0) (by rw [List.getD_eq_getElem?_getD, List.getElem?_eq_getElem hq2]; exact List.getElem_mem _) (listedOf _ m1) s (by rw [← hoq]; exact hos)
        · rename_i hx
          refine iv.old s fun j hj hjs => ?_
          rcases List.mem_append.1 hj with hj | hj
          · obtain ⟨q, hq, hqj⟩ := List.mem_iff_getElem.1 hj
            have hqg : h.getD q 0 = j := by rw [List.getD_eq_getElem?_getD, List.getElem?_eq_getElem hq]; exact hqj
            have m1 := List.all_eq_true.1 m.1 q (List.mem_range.2 hq)
            rw [hqg, hjs] at m1
            by_cases hqp : q < p
            · exfalso
              refine hx ⟨ops.getD j default, ?_, hjs⟩
              refine List.mem_iff_getElem.2 ⟨q, by unfold selOps; simp; omega, ?_⟩
              rw [List.getElem_take]
              unfold selOps
              rw [List.getElem_map, hqj]
            · simp only [bne_self_eq_false, Bool.false_or, hqp, if_false, Bool.or_eq_true, beq_iff_eq, hpg] at m1
              rcases m1 with e | m1
              · subst e
                have : j = i := by rw [← hqj, hpi]
                subst this; exact getD_both hiu
              · exact unlistedOf j m1
          · have m2 := List.all_eq_true.1 m.2 j hj
            rw [hjs, hpg] at m2
            simp only [bne_self_eq_false, Bool.false_or] at m2
            exact unlistedOf j m2
      exact LexX.get (selOps ops h) a hdh hlex p (ops.getD i default) (by unfold selOps; rw [List.getElem?_map, List.getElem?_eq_getElem hp, hpi]; rfl) (fun cs b => Region.noSelect_spec hsel i _ cs b hoi) a' hag
    by_cases hE : ∃ e ∈ E, e ∈ Region.ready md ops listed
    · obtain ⟨i, hiE, hi⟩ := hE
      have hih := hEh i hiE
      have him : i ∈ h ++ k := List.mem_append.2 (Or.inl hih)
      have hno : i ∈ k → False := fun hk' => by
        have := (List.nodup_append.1 (List.nodup_append.1 hnd).1).2.2 i hih i hk'
        exact this rfl
      obtain ⟨hiu, oi, hoi, hdep⟩ := mem_ready.1 hi
      have hlt : i < ops.size := (Array.getElem?_eq_some_iff.1 hoi).1
      obtain ⟨d, v, hd, hv, hcase⟩ := GET i hi hih
      have hy : Yields P ops (ops.getD i default) v a' := by
        rcases hcase with ⟨hw, hy⟩ | ⟨hw, rfl⟩
        · exact Or.inl ⟨hw, early_all (hEp i hiE) (hy w (Below.refl _ _))⟩
        · exact Or.inr ⟨hw, rfl⟩
      refine wpAny_take (getD_some hlt) hsel (free_any hi (hEf i hiE)) (by simpa using hi) (fun c a w => hQ c a _ v w) hy ?_
      rw [hd]
      exact NEXT i hi him hd (Below.refl _ _) (fun _ => hv) (fun hk' => (hno hk').elim) (fun hk' => (hno hk').elim)
    have hx0E : (h ++ k).getD x0 0 ∉ E := fun hh => hE ⟨_, hh, hx0r⟩
    refine ⟨fun h0 => (by rw [h0] at hx0r; cases hx0r), fun i hi => ?_⟩
    obtain ⟨hiu, oi, hoi, hdep⟩ := mem_ready.1 hi
    have hlt : i < ops.size := (Array.getElem?_eq_some_iff.1 hoi).1
    have ho : oi = ops.getD i default := by
      have := getD_some hlt
      rw [hoi] at this; exact Option.some.inj this
    subst ho
    obtain ⟨z, hz, hzi⟩ := inv.all i hlt hiu
    have hzn : z < (h ++ k).length := by
      rcases Nat.lt_or_ge z (h ++ k).length with h1 | h1
      · exact h1
      · exact absurd (hzi ▸ hi) (tail_waitsE hs hc hn inv _ x0 rfl hx0 (by rw [hord x0 hx0]; exact hx0E) (by rw [hord x0 hx0]; exact hx0u) z h1 hz)
    have him : i ∈ h ++ k := by
      rw [← hzi, hord z hzn, List.getD_eq_getElem?_getD, List.getElem?_eq_getElem hzn]
      exact List.getElem_mem _
    have listedOf : ∀ j, Region.waitsFor md ops i j = true → listed.getD j false = true := fun j hj => by
      obtain ⟨oj, hoj, e, he, hb, hon⟩ := Region.waitsFor_spec hj
      have : oj = ops.getD i default := Option.some.inj (hoj.symm.trans hoi)
      subst this
      rw [← hon]; exact hdep e he hb
    have unlistedOf : ∀ j, Region.waitsFor md ops j i = true → listed.getD j false = false := fun j hj => by
      obtain ⟨oj, hoj, e, he, hb, hon⟩ := Region.waitsFor_spec hj
      cases hl : listed.getD j false with
      | false => rfl
      | true =>
        have := inv.closed j oj hoj hl e he hb
        rw [hon, getD_both hiu] at this
        cases this
    have next := @NEXT i hi him
    unfold wpOp
    rw [hoi]
    simp only
    by_cases hih : i ∈ h
    · obtain ⟨d, v, hd, hv, hcase⟩ := GET i hi hih
      have hno : i ∈ k → False := fun hk' => by
        have := (List.nodup_append.1 (List.nodup_append.1 hnd).1).2.2 i hih i hk'
        exact this rfl
      rcases hcase with ⟨hw, hy⟩ | ⟨hw, rfl⟩
      · rw [if_pos hw]
        refine .inl (wp_of_YX hy iv.below fun W' hW' => ?_)
        rw [hd]
        exact next hd hW' (fun _ => hv) (fun hk' => (hno hk').elim) (fun hk' => (hno hk').elim)
      · rw [if_neg (by rw [hw]; simp), hd]
        exact next hd (Below.refl _ _) (fun _ => hv) (fun hk' => (hno hk').elim) (fun hk' => (hno hk').elim)
    · have hik : i ∈ k := (List.mem_append.1 him).resolve_left hih
      obtain ⟨hw, hm⟩ := hk i hik
      have hag : ∀ s ∈ (ops.getD i default).looksAt ops, a'.tmps[s]? = A.tmps[s]? := fun s hs' => by
        have m := List.all_eq_true.1 (List.all_eq_true.1 mk2 i hik) s hs'
        rw [Bool.and_eq_true] at m
        by_cases hx : ∃ j ∈ h, (ops.getD j default).dst = some s
        · obtain ⟨j, hj, hjs⟩ := hx
          obtain ⟨q, hq, hqj⟩ := List.mem_iff_getElem.1 hj
          have hqg : h.getD q 0 = j := by rw [List.getD_eq_getElem?_getD, List.getElem?_eq_getElem hq]; exact hqj
          have m1 := List.all_eq_true.1 m.1 q (List.mem_range.2 hq)
          rw [hqg, hjs] at m1
          simp only [bne_self_eq_false, Bool.false_or] at m1
          exact iv.hv j hj (listedOf _ m1) s hjs
        · rw [lex_keeps (selOps ops h) a (fun o ho e => by
            unfold selOps at ho
            obtain ⟨j, hj, rfl⟩ := List.mem_map.1 ho
            exact hx ⟨j, hj, e⟩) hlex]
          refine iv.old s fun j hj hjs => ?_
          rcases List.mem_append.1 hj with hj | hj
          · exact absurd ⟨j, hj, hjs⟩ hx
          · have := List.all_eq_true.1 m.2 j hj
            rw [hjs] at this
            simp at this
      obtain ⟨e1, e2⟩ := looks_same (fun cs b => Region.noSelect_spec hsel i _ cs b hoi) hag
      obtain ⟨d, hd, _⟩ := (distB_get hdist).1 i him
      rw [if_pos (by rw [e2]; exact hw)]
      refine .inl (wp_of_mk (V := V i) (by rw [e1]; exact hm W iv.below) fun v W' hW' hv hf => ?_)
      rw [hd]
      exact next hd hW' (fun hh => absurd hh hih) (fun _ => hv) (fun _ => hf)


/-- the closed fact of such a region -/
def Region.planE (md : Region.Mode) (ops : Array Oper) (n : Nat) (E h k t : List Nat) : Bool :=
  Region.noSelect ops && decide ((h ++ k) ++ t).Nodup && decide (0 < t.length) && Region.sinkE md ops E ((h ++ k) ++ t) (h ++ k).length && (E.all fun e => h.contains e && earlyB (ops.getD e default).op && Region.freeE md ops e) && Region.chainI md ops ((h ++ k) ++ t) (h ++ k).length &&
  Region.topB md ops (h ++ k) && (((h ++ k) ++ t).all fun i => decide (i < ops.size)) && Region.mkB md ops h k && distB n (selOps ops (h ++ k)) &&
  ((List.range ops.size).all fun i => ((h ++ k) ++ t).contains i) && Region.seqI md ops t ((Array.range ops.size).map fun i => (h ++ k).contains i)

/-- **THE REGION**: 'h' in the order of the text, each of one value in whatever world comes, making new blocks alone; 'k' makers; 't' the tail in its one order. A: the act behind h. -/
theorem wp_region_early {id : Nat} {Q : Exit → Act → World → Prop} {a : Act} {w : World} {l : List Oper} (E h k t : List Nat) (n : Nat) (V : Nat → Value → World → Prop) (N : Value → Value → Prop) (hm : P.follows .mixedOrders = true) (hB : Region.planE .any l.toArray n E h k t = true) (hsz : a.tmps.size = n) (A : Act) (hQ : ∀ c (a : Act) d v w, Q (.panic c) (a.put d v) w → Q (.panic c) a w)
    (H : ∀ W, Below w.heap.size w W → wpQuiet P l.toArray (fun w' => ∃ x, w' = W.ext x) (· = A) (h.map (l.getD · default)) a)
    (hV : ∀ i v W W', V i v W → Below W.heap.size W W' → V i v W')
    (hk : MkAll P l.toArray A w V N k)
    (hT : TailX P l.toArray Q w (t.map (l.getD · default)) V N k [] (fun _ => True) A) :
    (Code.region id l.toArray true).wp P Q a w := by
  have esel : ∀ is, selOps l.toArray is = is.map (l.getD · default) := fun is => by
    unfold selOps
    apply List.map_congr_left
    intro i _
    simp [Array.getD, List.getD_eq_getElem?_getD]
    split <;> rename_i h
    · rw [List.getElem?_eq_getElem h]; rfl
    · rw [List.getElem?_eq_none (by omega)]; rfl
  simp only [Region.planE, Bool.and_eq_true, decide_eq_true_eq] at hB
  obtain ⟨⟨⟨⟨⟨⟨⟨⟨⟨⟨⟨hsel, hnd⟩, ht0⟩, hs⟩, hE⟩, hc⟩, htop⟩, hin⟩, hmk⟩, hdist⟩, hall⟩, hseq⟩ := hB
  subst hsz
  have hin' : ∀ x, x < ((h ++ k) ++ t).length → ((h ++ k) ++ t).getD x 0 < l.toArray.size := fun x hx => by
    have := List.all_eq_true.1 hin (((h ++ k) ++ t).getD x 0) (by rw [List.getD_eq_getElem?_getD, List.getElem?_eq_getElem hx]; exact List.getElem_mem _)
    simpa using this
  have hdh : distB a.tmps.size (selOps l.toArray h) = true := by
    have hdist' := hdist
    simp only [distB, Bool.and_eq_true, decide_eq_true_eq] at hdist' ⊢
    unfold selOps at hdist' ⊢
    rw [List.map_append, List.map_append, List.all_append, Bool.and_eq_true] at hdist'
    exact ⟨hdist'.1.1, (List.nodup_append.1 hdist'.2).1⟩
  have hlex : LexX P l.toArray w A (selOps l.toArray h) a := lex_of _ _ hdh fun W hW => by rw [esel]; exact H W hW
  obtain ⟨sz1, df1⟩ := lex_size _ _ hlex
  refine wp_region_any hm ?_
  have hsz0 : ∀ i, (Array.replicate l.toArray.size false).getD i false = false := fun i => getD_replicate_false _ _
  have hlen : unl (h ++ k) (Array.replicate l.toArray.size false) + t.length = l.toArray.size := by
    have h1 : unl (h ++ k) (Array.replicate l.toArray.size false) = (h ++ k).length := by
      unfold unl
      rw [List.filter_eq_self.2]
      intro i hi
      obtain ⟨x, hx, he⟩ := List.mem_iff_getElem.1 hi
      have := hin' x (by rw [@List.length_append Nat (h ++ k) t]; omega)
      rw [List.getD_eq_getElem?_getD, List.getElem?_append_left hx, List.getElem?_eq_getElem hx] at this
      simp only [Option.getD_some, he] at this
      have h2 : i < l.length := by simpa using this
      simp [h2]
    rw [h1, ← List.length_append]
    have h3 : ((h ++ k) ++ t).length ≤ (List.range l.toArray.size).length := nodup_le _ _ hnd fun i hi => by
      obtain ⟨x, hx, he⟩ := List.mem_iff_getElem.1 hi
      have := hin' x hx
      rw [List.getD_eq_getElem?_getD, List.getElem?_eq_getElem hx] at this
      simp only [Option.getD_some, he] at this
      exact List.mem_range.2 this
    have h4 : (List.range l.toArray.size).length ≤ ((h ++ k) ++ t).length := nodup_le _ _ List.nodup_range fun i hi => by
      have := List.all_eq_true.1 hall i hi
      simpa using this
    rw [List.length_range] at h3 h4
    omega
  have hFIN : ∀ (listed : Array Bool) (a' : Act) (W : World), HeadI .any l.toArray ((h ++ k) ++ t) (h ++ k).length listed → (∀ i ∈ h ++ k, listed.getD i true = true) → InvM l.toArray a A w h k V N listed a' W → wpAny P .any l.toArray Q t.length listed a' W := by
    intro listed a' W inv hl iv
    have hlist : listed = (Array.range l.toArray.size).map fun i => (h ++ k).contains i := by
      apply Array.ext
      · rw [inv.size]; simp
      · intro i h1 h2
        have hi : i < l.toArray.size := by rw [← inv.size]; exact h1
        simp only [Array.getElem_map, Array.getElem_range]
        by_cases hm : i ∈ h ++ k
        · have := hl i hm
          simp [h1] at this
          rw [this]
          symm
          simpa using hm
        · have hm' := List.all_eq_true.1 hall i (List.mem_range.2 hi)
          simp only [List.contains_eq_mem, decide_eq_true_eq] at hm'
          have ht' : i ∈ t := (List.mem_append.1 hm').resolve_left hm
          obtain ⟨y, hy, he⟩ := List.mem_iff_getElem.1 ht'
          have := inv.tail ((h ++ k).length + y) (by omega) (by rw [@List.length_append Nat (h ++ k) t]; omega)
          rw [List.getD_eq_getElem?_getD, List.getElem?_append_right (by omega), show (h ++ k).length + y - (h ++ k).length = y by omega, List.getElem?_eq_getElem hy] at this
          simp only [Option.getD_some, he] at this
          simp [h1] at this
          rw [this]
          symm
          simp only [List.contains_eq_mem, decide_eq_false_iff_not]
          exact hm
    have lst : ∀ i ∈ h ++ k, listed.getD i false = true := fun i hi => by
      have := hl i hi
      have hii := List.all_eq_true.1 hin i (by simp only [List.mem_append] at hi ⊢; exact Or.inl hi)
      have hii' : i < listed.size := by rw [inv.size]; simpa using hii
      simp [hii'] at this ⊢; exact this
    refine wpAny_of_seqI t listed a' W (fun i hi => ?_) (by rw [hlist]; exact hseq) ?_
    · have := List.all_eq_true.1 hin i (by simp [hi])
      simpa using this
    · rw [esel]
      refine tail_of iv.below k [] (fun _ => True) A (by rw [sz1, iv.size]) (by rw [df1, iv.defers]) (fun i hi => ?_) (fun s hs' => ?_) (List.nodup_append.1 (List.nodup_append.1 hnd).1).2.1 (fun x hx y hy hxy => iv.ap x hx y hy hxy (lst x (by simp [hx])) (lst y (by simp [hy]))) trivial hT
      · obtain ⟨d, hd, _⟩ := (distB_get hdist).1 i (by simp [hi])
        obtain ⟨v, e, hv⟩ := iv.kv i hi (by
          have := hl i (by simp [hi])
          have hii := List.all_eq_true.1 hin i (by simp [hi])
          have hii' : i < listed.size := by rw [inv.size]; simpa using hii
          simp [hii'] at this ⊢; exact this) d hd
        exact ⟨d, v, hd, e, hv, fun u hu => by cases hu⟩
      · by_cases hx : ∃ j ∈ h, (l.toArray.getD j default).dst = some s
        · obtain ⟨j, hj, hjs⟩ := hx
          refine iv.hv j hj ?_ s hjs
          have := hl j (by simp [hj])
          have hii := List.all_eq_true.1 hin j (by simp [hj])
          have hii' : j < listed.size := by rw [inv.size]; simpa using hii
          simp [hii'] at this ⊢; exact this
        · rw [lex_keeps (selOps l.toArray h) a (fun o ho e => by
            unfold selOps at ho
            obtain ⟨j, hj, rfl⟩ := List.mem_map.1 ho
            exact hx ⟨j, hj, e⟩) hlex]
          refine iv.old s fun j hj hjs => ?_
          rcases List.mem_append.1 hj with hj | hj
          · exact absurd ⟨j, hj, hjs⟩ hx
          · exact absurd hjs (hs' j hj)
  have hHD : HeadI .any l.toArray ((h ++ k) ++ t) (h ++ k).length (Array.replicate l.toArray.size false) := by
    refine ⟨by simp, fun j oj hj hl => ?_, fun i hi hl => ?_, fun y hy hyl => ?_, hin'⟩
    · rw [hsz0 j] at hl; cases hl
    · have := List.all_eq_true.1 hall i (List.mem_range.2 hi)
      simp only [List.contains_eq_mem, decide_eq_true_eq] at this
      obtain ⟨x, hx, he⟩ := List.mem_iff_getElem.1 this
      exact ⟨x, hx, by rw [List.getD_eq_getElem?_getD, List.getElem?_eq_getElem hx]; exact he⟩
    · have := hin' y hyl
      have h2 : ((h ++ k) ++ t).getD y 0 < l.length := by simpa using this
      exact getD_in (by simpa using h2) (hsz0 _)
  have hIV : InvM l.toArray a A w h k V N (Array.replicate l.toArray.size false) a w.drew := by
    exact ⟨(Below.refl w.heap.size w).drew, rfl, rfl, fun i hi hl => (by rw [hsz0 i] at hl; cases hl), fun i hi hl => (by rw [hsz0 i] at hl; cases hl), fun s _ => rfl, fun i hi j hj hij hl => (by rw [hsz0 i] at hl; cases hl)⟩
  have hE' : ∀ e ∈ E, e ∈ h ∧ earlyB (l.toArray.getD e default).op = true ∧ Region.freeE .any l.toArray e = true := fun e he => by
    have := List.all_eq_true.1 hE e he
    simp only [Bool.and_eq_true, List.contains_eq_mem, decide_eq_true_eq] at this
    exact ⟨this.1.1, this.1.2, this.2⟩
  have key := wpAny_mkE (Q := Q) (E := E) (A := A) (w := w) (h := h) (k := k) (V := V) hsel hnd (fun e he => (hE' e he).1) (fun e he => (hE' e he).2.1) (fun e he => (hE' e he).2.2) hQ hs hc ht0 htop hin' hmk hdist hlex hk.get hV hFIN _ (Array.replicate l.toArray.size false) a w.drew rfl hHD hIV
  rw [hlen] at key
  exact key
/-- .. in the form in which a walk finds A out: 'refine wp_region_earlyE ..; apply Exists.intro; refine ⟨fun X hX => ?_, ?_, ?_⟩' -/
theorem wp_region_earlyE {id : Nat} {Q : Exit → Act → World → Prop} {a : Act} {w : World} {l : List Oper} (E h k t : List Nat) (n : Nat) (V : Nat → Value → World → Prop) (N : Value → Value → Prop) (hm : P.follows .mixedOrders = true) (hB : Region.planE .any l.toArray n E h k t = true) (hsz : a.tmps.size = n)
    (hV : ∀ i v W W', V i v W → Below W.heap.size W W' → V i v W')
    (H : ∃ A, (∀ W, Below w.heap.size w W → wpQuiet P l.toArray (fun w' => ∃ x, w' = W.ext x) (· = A) (h.map (l.getD · default)) a) ∧ MkAll P l.toArray A w V N k ∧ TailX P l.toArray Q w (t.map (l.getD · default)) V N k [] (fun _ => True) A)
    (hQ : ∀ c (a : Act) d v w, Q (.panic c) (a.put d v) w → Q (.panic c) a w := by intro c a d v w h; cases d <;> exact h) :
    (Code.region id l.toArray true).wp P Q a w := by
  obtain ⟨A, h1, h2, h3⟩ := H
  exact wp_region_early E h k t n V N hm hB hsz A hQ h1 hV h2 h3
end
end Go.Proofs.YtmblknknbbdmeaaGreat
/- the reference of layer 9. -/
namespace Go.Proofs.YtmblknknbbdmeaaGreat
open Go Go.RowKit
set_option linter.unusedVariables false
set_option linter.unusedSimpArgs false
attribute [local go_sem] bmax2 bmin2 bmax bmin cell_ext frozen_ext

/-- the least b with n < 2^b, and 2 -/
def mostN (n : Nat) : Nat := n.log2 + 3
theorem Inv.mostN {n at_ : Nat} {ps : List Nat} (h : Inv n at_ ps) (hn : 1 ≤ n) : ps.length ≤ mostN n := by
  have := h.most (b := n.log2 + 1) hn Nat.lt_log2_self
  unfold Proofs.YtmblknknbbdmeaaGreat.mostN
  omega
/-- a walker of the reference -/
def rwL (K : List UInt8) (n at_ : Nat) : List Value := cellsU8 K ++ [.int .i64 (n : Int), .int .i64 (at_ : Int)]
theorem rwL_length {K : List UInt8} (hK : K.length = 32) (n at_ : Nat) : (rwL K n at_).length = 34 := by simp [rwL, length_cellsU8, hK]
end Go.Proofs.YtmblknknbbdmeaaGreat
/- pebble: a law's own walker, told at once. -/
namespace Go.Proofs.YtmblknknbbdmeaaGreat
open Go Go.RowKit
set_option linter.unusedVariables false
set_option linter.unusedSimpArgs false
attribute [local go_sem] bmax2 bmin2 bmax bmin cell_ext frozen_ext

/-- on from w: what lies below B is as it was, and so is all else but walkers and stones -/
structure Mv (B : Nat) (w w' : World) : Prop where
  below : Below B w w'
  keep : ∀ {k T : Nat} {cs : Array Value}, T ≠ 192 → T ≠ 189 → Blk w k T cs → Blk w' k T cs
theorem Mv.of_bel {B : Nat} {w w' : World} (h : Below w.heap.size w w') (hB : B ≤ w.heap.size) : Mv B w w' := ⟨h.mono hB, fun _ _ hk => hk.bel h⟩
/-- a walker, its stones in block g -/
def WG (B : Nat) (w : World) (b g : Nat) (F : Nat → List UInt8) (n at_ : Nat) : Prop := ∃ cap cur ps, Wk w b g cap cur F n at_ ps ∧ Inv n at_ ps ∧ B ≤ b ∧ B ≤ g
/-- a walker -/
def WS (B : Nat) (w : World) (b : Nat) (F : Nat → List UInt8) (n at_ : Nat) : Prop := ∃ g, WG B w b g F n at_
variable {B : Nat} {w w' : World} {b g : Nat} {F : Nat → List UInt8} {S : List UInt8} {n at_ : Nat}
theorem WG.bel (h : WG B w b g F n at_) (hb : Below w.heap.size w w') : WG B w' b g F n at_ := by
  obtain ⟨cap, cur, ps, hk, hi, h1, h2⟩ := h
  exact ⟨cap, cur, ps, hk.bel hb, hi, h1, h2⟩
theorem WS.bel (h : WS B w b F n at_) (hb : Below w.heap.size w w') : WS B w' b F n at_ := by
  obtain ⟨g, h⟩ := h
  exact ⟨g, h.bel hb⟩
theorem WG.mv (h : WG B w b g F n at_) (hf : Fr w w' b g) (hB : B ≤ w.heap.size) : Mv B w w' := by
  obtain ⟨cap, cur, ps, hk, hi, h1, h2⟩ := h
  exact ⟨hf.below h1 h2 hB, fun t1 t2 hx => hx.fr hf (hx.ne_ hk.blk t1) (hx.ne_ hk.row t2)⟩
theorem WS.mono {B' : Nat} (h : WS B w b F n at_) (hB : B' ≤ B) : WS B' w b F n at_ := by
  obtain ⟨g, cap, cur, ps, hk, hi, h1, h2⟩ := h
  exact ⟨g, cap, cur, ps, hk, hi, by omega, by omega⟩
/-- New: a walker -/
theorem G_New (S : List UInt8) (hS : S.length = 32) (n : Nat) (h1 : 1 ≤ n) (h2 : n ≤ 1024) (w : World) (hB : B ≤ w.heap.size) :
    Calls Tryz.prog 72 #[.agg (cellsU8 S).toArray, .int .i64 (n : Int)] w fun e w' => ∃ b g, e = .returned (.tuple #[.pointer (some ⟨b, 0, none⟩), .int .i64 0]) ∧ WG B w' b g (chK S) n 0 ∧ Below w.heap.size w w' ∧ w.heap.size ≤ b ∧ w.heap.size ≤ g :=
  (PNew_good S hS n h1 h2 w).mono fun e w' ⟨b, g, cap, cur, he, hk, hb, hg, hbl⟩ => ⟨b, g, he, ⟨cap, cur, [n], hk, Inv.new n h1, by omega, by omega⟩, hbl, hb, hg⟩
theorem S_New (S : List UInt8) (hS : S.length = 32) (n : Nat) (h1 : 1 ≤ n) (h2 : n ≤ 1024) (w : World) (hB : B ≤ w.heap.size) :
    Calls Tryz.prog 72 #[.agg (cellsU8 S).toArray, .int .i64 (n : Int)] w fun e w' => ∃ b, e = .returned (.tuple #[.pointer (some ⟨b, 0, none⟩), .int .i64 0]) ∧ WS B w' b (chK S) n 0 ∧ Below w.heap.size w w' :=
  (G_New S hS n h1 h2 w hB).mono fun e w' ⟨b, g, he, hk, hbl, _, _⟩ => ⟨b, he, ⟨g, hk⟩, hbl⟩
theorem G_Next (h : WG B w b g (chK S) n at_) (h1 : 1 ≤ n) (h2 : n ≤ 1024) (ha : at_ ≤ n) (hB : B ≤ w.heap.size) :
    Calls Tryz.prog 73 #[.pointer (some ⟨b, 0, none⟩)] w fun e w' => ∃ g', e = .returned (.tuple #[.agg (cellsU8 (chK S (n - at_))).toArray, .int .i64 0]) ∧ WG B w' b g' (chK S) n (at_ + 1) ∧ Fr w w' b g ∧ (g' = g ∨ w.heap.size ≤ g') := by
  obtain ⟨cap, cur, ps, hk, hi, hb, hg⟩ := h
  refine (PNext_some hk hi h1 h2 ha).mono ?_
  rintro e w' ⟨g', cap', cur', ps', he, hk', hi', hf, hg'⟩
  exact ⟨g', he, ⟨cap', cur', ps', hk', hi', hb, by omega⟩, hf, hg'⟩
theorem S_Next (h : WS B w b (chK S) n at_) (h1 : 1 ≤ n) (h2 : n ≤ 1024) (ha : at_ ≤ n) (hB : B ≤ w.heap.size) :
    Calls Tryz.prog 73 #[.pointer (some ⟨b, 0, none⟩)] w fun e w' => e = .returned (.tuple #[.agg (cellsU8 (chK S (n - at_))).toArray, .int .i64 0]) ∧ WS B w' b (chK S) n (at_ + 1) ∧ Mv B w w' := by
  obtain ⟨g, h⟩ := h
  refine (G_Next h h1 h2 ha hB).mono ?_
  rintro e w' ⟨g', he, hk', hf, hg'⟩
  exact ⟨he, ⟨g', hk'⟩, h.mv hf hB⟩
theorem S_none (h : WS B w b F n at_) (ha : n < at_) (hB : B ≤ w.heap.size) :
    Calls Tryz.prog 73 #[.pointer (some ⟨b, 0, none⟩)] w fun e w' => e = .returned (.tuple #[.agg (cellsU8 zeroK).toArray, .int .i64 10]) ∧ WS B w' b F n at_ ∧ Below w.heap.size w w' := by
  have h0 := h
  obtain ⟨g, cap, cur, ps, hk, hi, hb, hg⟩ := h
  exact (PNext_none hk ha).mono fun e w' ⟨he, hbl⟩ => ⟨he, h0.bel hbl, hbl⟩
theorem S_At (h : WS B w b F n at_) : Calls Tryz.prog 108 #[.pointer (some ⟨b, 0, none⟩)] w fun e w' => e = .returned (.int .i64 (at_ : Int)) ∧ w = w' := by
  obtain ⟨g, cap, cur, ps, hk, hi, hb, hg⟩ := h
  exact PAt_any hk
theorem WS.le (h : WS B w b F n at_) : at_ ≤ n + 1 := by
  obtain ⟨g, cap, cur, ps, hk, hi, hb, hg⟩ := h
  exact hi.le
end Go.Proofs.YtmblknknbbdmeaaGreat
/- structs of numbers, texts and rows of bytes, compared. -/
namespace Go.Proofs.YtmblknknbbdmeaaGreat
open Go Go.RowKit
set_option linter.unusedVariables false
set_option linter.unusedSimpArgs false

/-- a field's shape, a field's value -/
inductive FSh | int (k : IntKind) | txt | u8s (n : Nat)
inductive Fv | int (k : IntKind) (z : Int) | txt (t : ByteArray) | u8s (l : List UInt8)
def Fv.cells : Fv → List Value | .int k z => [.int k z] | .txt t => [.string t] | .u8s l => cellsU8 l
def FSh.size : FSh → Nat | .int _ => 1 | .txt => 1 | .u8s n => n
def Fv.has : Fv → FSh → Prop | .int k _, .int k' => k = k' | .txt _, .txt => True | .u8s l, .u8s n => l.length = n | _, _ => False
def Fv.hasAll : List Fv → List FSh → Prop | [], [] => True | v :: vs, s :: ss => v.has s ∧ Fv.hasAll vs ss | _, _ => False
def Fv.row (vs : List Fv) : List Value := (vs.map Fv.cells).flatten
def Fv.eq1 : Fv → Fv → Bool | .int _ a, .int _ b => a == b | .txt a, .txt b => decide (a = b) | .u8s a, .u8s b => decide (a = b) | _, _ => false
def Fv.eqAll : List Fv → List Fv → Bool | v :: vs, u :: us => v.eq1 u && Fv.eqAll vs us | _, _ => true
def okT (P : Program) (t : TypeId) : FSh → Bool
  | .int _ => flatB P t && (match P.underlying t with | some (.int _) => true | _ => false)
  | .txt => flatB P t && (match P.underlying t with | some .string => true | _ => false)
  | .u8s n => (match P.underlying t with | some (.array m e) => m == n && (match P.underlying e with | some (.int .u8) => true | _ => false) && (P.info? e).map (·.size) == some 1 | _ => false) && (P.info? t).map (·.size) == some n
def okS (P : Program) : Nat → List Field → List FSh → Bool
  | _, [], [] => true
  | i, f :: fs, s :: ss => f.name != "_" && f.offset == i && okT P f.type s && okS P (i + s.size) fs ss
  | _, _, _ => false
theorem Fv.cells_length {v : Fv} {s : FSh} (h : v.has s) : v.cells.length = s.size := by
  cases v <;> cases s <;> first | rfl | exact h.elim | (simp only [Fv.cells, length_cellsU8, FSh.size]; exact h)
theorem part_agg {P : Program} (t : TypeId) (n m e : Nat) (cs : Array Value) (off : Nat) (w : World) (hu : P.underlying t = some (.array m e)) (hi : (P.info? t).map (·.size) = some n) : (part t cs off).run P w = .ok (.agg (cs.extract off (off + n))) w := by
  have hagg : (isAgg t).run P w = .ok true w := by
    unfold isAgg
    rw [Sem.run_bind, run_underlying hu w]
    simp
  cases hq : P.info? t with
  | none => simp [hq] at hi
  | some i =>
    have hs : i.size = n := by simpa [hq] using hi
    simp [part, Sem.run_bind, hagg, sizeOf, typeInfo, hq, hs]
theorem eq_part {P : Program} {w : World} {d : Nat} {t : TypeId} {s : FSh} {v u : Fv} {xs ys : List Value} {i : Nat} (h : okT P t s = true) (hv : v.has s) (hu : u.has s) (h1 : (xs.drop i).take s.size = v.cells) (h2 : (ys.drop i).take s.size = u.cells) :
    ∃ a b, (part t xs.toArray i).run P w = .ok a w ∧ (part t ys.toArray i).run P w = .ok b w ∧ (Op.equalIn (d + 2) t a b).run P w = .ok (v.eq1 u) w := by
  have one : ∀ {zs : List Value} {x : Value}, (zs.drop i).take 1 = [x] → zs.toArray[i]? = some x := by
    intro zs x hz
    have : (List.take 1 (List.drop i zs))[0]? = some x := by rw [hz]; rfl
    rw [List.getElem?_take, if_pos (by omega), List.getElem?_drop, Nat.add_zero] at this
    simpa using this
  cases s with
  | int k0 =>
    cases v with
    | int k a =>
      cases u with
      | int k2 b =>
        obtain rfl : k = k0 := hv
        obtain rfl : k2 = k := hu
        unfold okT at h
        simp only [Bool.and_eq_true] at h
        obtain ⟨hf, h4⟩ := h
        obtain ⟨k', hk'⟩ : ∃ k', P.underlying t = some (.int k') := by
          split at h4
          · rename_i k' hk; exact ⟨k', hk⟩
          · cases h4
        have p1 := run_part (P := P) t xs.toArray i _ w hf (one h1)
        have p2 := run_part (P := P) t ys.toArray i _ w hf (one h2)
        refine ⟨_, _, p1, p2, ?_⟩
        unfold Op.equalIn
        simp [run_underlying hk', Fv.eq1]
      | txt _ => exact hu.elim
      | u8s _ => exact hu.elim
    | txt _ => exact hv.elim
    | u8s _ => exact hv.elim
  | txt =>
    cases v with
    | txt a =>
      cases u with
      | txt b =>
        unfold okT at h
        simp only [Bool.and_eq_true] at h
        obtain ⟨hf, h4⟩ := h
        have hk' : P.underlying t = some .string := by
          split at h4
          · rename_i hk; exact hk
          · cases h4
        have p1 := run_part (P := P) t xs.toArray i _ w hf (one h1)
        have p2 := run_part (P := P) t ys.toArray i _ w hf (one h2)
        refine ⟨_, _, p1, p2, ?_⟩
        have he := run_equalIn_string (P := P) w (d + 1) t a b hk'
        rw [he]
        congr 1
        show (a.toList == b.toList) = decide (a = b)
        rw [Bool.eq_iff_iff, beq_iff_eq, decide_eq_true_iff]
        refine ⟨fun h => ?_, fun h => by rw [h]⟩
        rw [ByteArray.toList_eq, ByteArray.toList_eq] at h
        exact ByteArray.ext (Array.toList_inj.1 h)
      | int _ _ => exact hu.elim
      | u8s _ => exact hu.elim
    | int _ _ => exact hv.elim
    | u8s _ => exact hv.elim
  | u8s n =>
    cases v with
    | u8s a =>
      cases u with
      | u8s b =>
        unfold okT at h
        simp only [Bool.and_eq_true, beq_iff_eq] at h
        obtain ⟨h4, hi⟩ := h
        obtain ⟨e, hk', he, hie⟩ : ∃ e, P.underlying t = some (.array n e) ∧ P.underlying e = some (.int .u8) ∧ (P.info? e).map (·.size) = some 1 := by
          split at h4
          · rename_i m e hk
            simp only [Bool.and_eq_true, beq_iff_eq] at h4
            obtain ⟨⟨hm, h5⟩, h6⟩ := h4
            refine ⟨e, by rw [hk, hm], ?_, h6⟩
            split at h5
            · assumption
            · cases h5
          · cases h4
        have p1 := part_agg (P := P) t n _ _ xs.toArray i w hk' hi
        have p2 := part_agg (P := P) t n _ _ ys.toArray i w hk' hi
        have x1 : xs.toArray.extract i (i + n) = (cellsU8 a).toArray := by
          rw [List.extract_toArray, List.extract_eq_take_drop, Nat.add_sub_cancel_left]
          exact congrArg _ h1
        have x2 : ys.toArray.extract i (i + n) = (cellsU8 b).toArray := by
          rw [List.extract_toArray, List.extract_eq_take_drop, Nat.add_sub_cancel_left]
          exact congrArg _ h2
        rw [x1] at p1
        rw [x2] at p2
        exact ⟨_, _, p1, p2, run_equalIn_u8arr d n t e a b w hk' he hie hv hu⟩
      | int _ _ => exact hu.elim
      | txt _ => exact hu.elim
    | int _ _ => exact hv.elim
    | txt _ => exact hv.elim
theorem eqS {P : Program} {d : Nat} (w : World) {xs ys : List Value} : ∀ (fs : List Field) (ss : List FSh) (vs us : List Fv) (i : Nat), okS P i fs ss = true → Fv.hasAll vs ss → Fv.hasAll us ss → xs.drop i = Fv.row vs → ys.drop i = Fv.row us →
    (Op.eqFields (d + 2) xs.toArray ys.toArray fs).run P w = .ok (Fv.eqAll vs us) w
  | [], [], vs, us, i, _, hv, hu, _, _ => by
    unfold Op.eqFields
    rw [Sem.run_pure]
    match vs, us, hv, hu with
    | [], [], _, _ => rfl
  | [], _ :: _, vs, us, i, h, hv, hu, _, _ => by unfold okS at h; cases h
  | _ :: _, [], vs, us, i, h, hv, hu, _, _ => by unfold okS at h; cases h
  | f :: fs, s :: ss, vs, us, i, h, hv, hu, h1, h2 => by
    cases vs with
    | nil => exact hv.elim
    | cons v vs =>
     cases us with
     | nil => exact hu.elim
     | cons u us =>
      unfold okS at h
      simp only [Bool.and_eq_true, bne_iff_ne, ne_eq, beq_iff_eq] at h
      obtain ⟨⟨⟨n1, n2⟩, n3⟩, n4⟩ := h
      have hl1 := Fv.cells_length hv.1
      have hl2 := Fv.cells_length hu.1
      have hx : xs.drop i = v.cells ++ Fv.row vs := by rw [h1]; simp [Fv.row]
      have hy : ys.drop i = u.cells ++ Fv.row us := by rw [h2]; simp [Fv.row]
      have ih := eqS (d := d) w fs ss vs us (i + s.size) n4 hv.2 hu.2 (by rw [← List.drop_drop, hx, ← hl1, List.drop_left]) (by rw [← List.drop_drop, hy, ← hl2, List.drop_left])
      obtain ⟨a, b, p1, p2, p3⟩ := eq_part (w := w) (d := d) n3 hv.1 hu.1 (by rw [hx, ← hl1, List.take_left]) (by rw [hy, ← hl2, List.take_left])
      conv => lhs; unfold Op.eqFields
      rw [if_pos n1, n2, Sem.run_bind, p1, Result.andThen_ok, Sem.run_bind, p2, Result.andThen_ok, Sem.run_bind, p3, Result.andThen_ok]
      show _ = Result.ok (v.eq1 u && Fv.eqAll vs us) w
      cases hab : v.eq1 u with
      | true =>
        rw [if_neg (by simp), ih, Bool.true_and]
      | false =>
        rw [if_pos (by simp), Sem.run_pure, Bool.false_and]
/-- a struct type that is compared so -/
structure EqT (P : Program) (t : TypeId) (ss : List FSh) : Prop where
  str : P.underlying t = some (.struct (P.fieldsOf t))
  held : P.stoodInHeld t = false
  ok : okS P 0 (P.fieldsOf t).toList ss = true
  guard : P.eqGuardType P.depth t = false
theorem eq_st {P : Program} {t : TypeId} {ss : List FSh} (h : EqT P t ss) {vs us : List Fv} {xs ys : List Value} (hv : Fv.hasAll vs ss) (hu : Fv.hasAll us ss) (hx : xs = Fv.row vs) (hy : ys = Fv.row us) (w : World) : (Op.equalIn 10000 t (.agg xs.toArray) (.agg ys.toArray)).run P w = .ok (Fv.eqAll vs us) w := by
  rw [show (10000 : Nat) = 9999 + 1 from rfl, run_equalIn_struct (P := P) w 9999 t _ _ h.str h.held]
  exact eqS (d := 9997) w _ ss vs us 0 h.ok hv hu hx hy
theorem exec_eqs {P : Program} {t : TypeId} {ss : List FSh} (h : EqT P t ss) {o : Oper} {a : Act} {x y : Operand} {t' : TypeId} (ho : o.op = .binOp .eql t x y t') {vs us : List Fv} {xs ys : List Value} (hx : a.eval x = .agg xs.toArray) (hy : a.eval y = .agg ys.toArray) (hv : Fv.hasAll vs ss) (hu : Fv.hasAll us ss) (hxs : xs = Fv.row vs) (hys : ys = Fv.row us) {b : Bool} (hb : Fv.eqAll vs us = b) (w : World) :
    (execOp a.eval o).run P w = .ok (.value (.bool b)) w := by
  have e := eq_st h hv hu hxs hys w
  have e2 : (Go.binOp .eql t (.agg xs.toArray) (.agg ys.toArray)).run P w = .ok (.bool b) w := by rw [run_eql_struct, e, hb]; rfl
  have g := h.guard
  unfold execOp
  simp only [ho, hx, hy]
  unfold eqGuard
  simp [Sem.run_bind, e2, g]
theorem exec_nes {P : Program} {t : TypeId} {ss : List FSh} (h : EqT P t ss) {o : Oper} {a : Act} {x y : Operand} {t' : TypeId} (ho : o.op = .binOp .neq t x y t') {vs us : List Fv} {xs ys : List Value} (hx : a.eval x = .agg xs.toArray) (hy : a.eval y = .agg ys.toArray) (hv : Fv.hasAll vs ss) (hu : Fv.hasAll us ss) (hxs : xs = Fv.row vs) (hys : ys = Fv.row us) {b : Bool} (hb : (!Fv.eqAll vs us) = b) (w : World) :
    (execOp a.eval o).run P w = .ok (.value (.bool b)) w := by
  have e := eq_st h hv hu hxs hys w
  have e2 : (Go.binOp .neq t (.agg xs.toArray) (.agg ys.toArray)).run P w = .ok (.bool b) w := by rw [run_neq_struct, e, ← hb]; rfl
  have g := h.guard
  unfold execOp
  simp only [ho, hx, hy]
  unfold eqGuard
  simp [Sem.run_bind, e2, g]
/-- a value told in every world, as one step of a quiet region -/
theorem quiet_ex {P : Program} {o : Oper} {a : Act} {C : World → Prop} {K : Act → Prop} (d : Tmp) (hd : o.dst = some d) (v : Value) (hr : ∀ w, (execOp a.eval o).run P w = .ok (.value v) w) (h : K { a with tmps := a.tmps.setIfInBounds d v }) : o.quiet P a C K := by
  refine ⟨v, fun w hw => ?_, by rw [hd]; exact h⟩
  unfold Oper.quietAt
  rw [hr w]
  exact ⟨rfl, rfl⟩
end Go.Proofs.YtmblknknbbdmeaaGreat
/- wide: numbers of 128 bits. -/
namespace Go.Proofs.YtmblknknbbdmeaaGreat
open Go Go.RowKit
set_option linter.unusedVariables false
set_option linter.unusedSimpArgs false
attribute [local go_sem] bmax2 bmin2 bmax bmin cell_ext frozen_ext

theorem info_num : (Tryz.prog.info? 195).map (·.size) = some 2 := by kernel_rfl
theorem wrapU (n : Int) : IntKind.u64.wrap n = n % 18446744073709551616 := rfl
/-- a number's halves, modulo 2^128 -/
def numH (z : Int) : Int := wrap64 (z / 18446744073709551616)
def numL (z : Int) : Int := z % 18446744073709551616
def numC (z : Int) : List Value := [.int .i64 (numH z), .int .u64 (numL z)]
theorem numC_length (z : Int) : (numC z).length = 2 := rfl
theorem numC_one (z : Int) : ∀ v ∈ numC z, v.oneCell' = true := by
  intro v hv; simp only [numC, List.mem_cons, List.not_mem_nil, or_false] at hv; rcases hv with rfl | rfl <;> rfl
theorem numL0 (z : Int) : 0 ≤ numL z := by unfold numL; omega
theorem numL1 (z : Int) : numL z < 18446744073709551616 := by unfold numL; omega
theorem not_bv (x : BitVec 64) : (BitVec.ofInt 64 (-1) ^^^ x).toNat = 18446744073709551615 - x.toNat := by
  have h : BitVec.ofInt 64 (-1) = BitVec.allOnes 64 := by decide
  rw [h, BitVec.allOnes_xor, BitVec.toNat_not]
theorem not_i64 (a : Int) (h0 : -9223372036854775808 ≤ a) (h1 : a < 9223372036854775808) : bits .xor .i64 (-1) a = -1 - a := by
  show IntKind.i64.wrap ((BitVec.ofInt 64 (-1) ^^^ BitVec.ofInt 64 a).toNat : Int) = _
  rw [not_bv, IntKind.wrap_i64, BitVec.toNat_ofInt]
  omega
theorem not_u64 (a : Int) (h0 : 0 ≤ a) (h1 : a < 18446744073709551616) : bits .xor .u64 IntKind.u64.max a = 18446744073709551615 - a := by
  have h : BitVec.ofInt 64 IntKind.u64.max = BitVec.ofInt 64 (-1) := by decide
  show IntKind.u64.wrap ((BitVec.ofInt 64 IntKind.u64.max ^^^ BitVec.ofInt 64 a).toNat : Int) = _
  rw [h, not_bv, IntKind.wrap_u64, BitVec.toNat_ofInt]
  omega
theorem wrap_wrap (n : Int) : wrap64 (wrap64 n) = wrap64 n := by unfold wrap64; omega
theorem numH0 (z : Int) : -9223372036854775808 ≤ numH z := by unfold numH wrap64; omega
theorem numH1 (z : Int) : numH z < 9223372036854775808 := by unfold numH wrap64; omega
theorem Blk.top {w : World} {n : Nat} (h : w.heap.size = n) (t : TypeId) (cs : Array Value) : Blk (w.alloc (.cells cs t)) n t cs := h ▸ Blk.new w t cs
theorem W_Of (n : Int) (h0 : -9223372036854775808 ≤ n) (h1 : n < 9223372036854775808) (w : World) : Calls Tryz.prog 103 #[.int .i64 n] w fun e w' => e = .returned (.agg (numC n).toArray) ∧ Below w.heap.size w w' := by
  have e1 : numH n = n / 9223372036854775808 := by unfold numH wrap64; omega
  have e2 : numL n = IntKind.u64.wrap n := rfl
  have e3 : numC n = [.int .i64 (n / 9223372036854775808), .int .u64 (IntKind.u64.wrap n)] := by unfold numC; rw [e1, e2]
  rw [e3]
  clear e1 e2 e3
  go_enter Tryz.func103, Tryz.ntmps103
  go_wp2
  refine bodyPost_ret (v := .agg #[.int .i64 (n / 9223372036854775808), .int .u64 (IntKind.u64.wrap n)]) ?_ rfl ⟨rfl, ba (Below.refl _ _) _⟩
  exact res_all Tryz.results103 w.heap.size 2 _ [.int .i64 (n / 9223372036854775808), .int .u64 (IntKind.u64.wrap n)] _ Tryz.underlying195 rfl info_num rfl (Blk.new _ _ _) _ rfl
theorem W_sum (x y : Int) (w : World) : Calls Tryz.prog 128 #[.agg (numC x).toArray, .agg (numC y).toArray] w fun e w' => e = .returned (.agg (numC (x + y)).toArray) ∧ Below w.heap.size w w' := by
  have hH : numH (x + y) = if numL x + numL y < 18446744073709551616 then wrap64 (numH x + numH y) else wrap64 (wrap64 (numH x + numH y) + 1) := by unfold numH numL wrap64; split <;> omega
  have hL : numL (x + y) = IntKind.u64.wrap (numL x + numL y) := by rw [wrapU]; unfold numL; omega
  have a0 := numL0 x
  have a1 := numL1 x
  have b0 := numL0 y
  have b1 := numL1 y
  unfold numC
  rw [hL]
  generalize numH (x + y) = c at hH ⊢
  generalize numH x = a at *
  generalize numH y = b at *
  generalize numL x = l at *
  generalize numL y = m at *
  clear hL
  by_cases h : l + m < 18446744073709551616
  · rw [if_pos h] at hH
    subst hH
    have g : decide (IntKind.u64.wrap (l + m) < l) = false := decide_eq_false (by rw [wrapU]; omega)
    have g2 : ¬ IntKind.u64.wrap (l + m) < l := by rw [wrapU]; omega
    go_enter Tryz.func128, Tryz.ntmps128
    go_wp2
    refine bodyPost_ret (v := .agg #[.int .i64 (wrap64 (a + b)), .int .u64 (IntKind.u64.wrap (l + m))]) ?_ rfl ⟨rfl, ba (ba (ba (Below.refl _ _) _) _) _⟩
    exact res_all Tryz.results128 (w.heap.size + 1 + 1) 2 _ [.int .i64 (wrap64 (a + b)), .int .u64 (IntKind.u64.wrap (l + m))] _ Tryz.underlying195 rfl info_num rfl (by rw [IntWalk.u64_in (l + m) (by omega), wrap_wrap]; exact Blk.top (by simp only [size_all]) _ _) _ rfl
  · rw [if_neg h] at hH
    subst hH
    have g : decide (IntKind.u64.wrap (l + m) < l) = true := decide_eq_true (by rw [wrapU]; omega)
    have g2 : IntKind.u64.wrap (l + m) < l := by rw [wrapU]; omega
    go_enter Tryz.func128, Tryz.ntmps128
    go_wp2
    refine bodyPost_ret (v := .agg #[.int .i64 (wrap64 (wrap64 (a + b) + 1)), .int .u64 (IntKind.u64.wrap (l + m))]) ?_ rfl ⟨rfl, ba (ba (ba (Below.refl _ _) _) _) _⟩
    exact res_all Tryz.results128 (w.heap.size + 1 + 1) 2 _ [.int .i64 (wrap64 (wrap64 (a + b) + 1)), .int .u64 (IntKind.u64.wrap (l + m))] _ Tryz.underlying195 rfl info_num rfl (Blk.top (by simp only [size_all]) _ _) _ rfl
theorem W_less (x : Int) (w : World) : Calls Tryz.prog 129 #[.agg (numC x).toArray] w fun e w' => e = .returned (.agg (numC (-x)).toArray) ∧ Below w.heap.size w w' := by
  have a0 := numL0 x
  have a1 := numL1 x
  have c0 := numH0 x
  have c1 := numH1 x
  have hH : numH (-x - 1) = -1 - numH x := by unfold numH wrap64; omega
  have hL : numL (-x - 1) = 18446744073709551615 - numL x := by unfold numL; omega
  have cS := fun w' => W_sum (-x - 1) 1 w'
  rw [show -x - 1 + 1 = -x by omega, show numC 1 = [.int .i64 0, .int .u64 1] by kernel_rfl] at cS
  have hC := numC_length (-x)
  have hO := numC_one (-x)
  generalize numC (-x) = C at *
  unfold numC at *
  rw [hH, hL, ← not_i64 _ c0 c1, ← not_u64 _ a0 a1] at cS
  generalize numH x = a at *
  generalize numL x = l at *
  clear hH hL
  have HN := kp (Blk.new (w.alloc (.cells #[.int .i64 a, .int .u64 l] 195)) 195 #[.int .i64 0, .int .u64 0])
  have HB := kp (ba (ba (Below.refl w.heap.size w) (.cells #[.int .i64 a, .int .u64 l] 195)) (.cells #[.int .i64 0, .int .u64 0] 195))
  rw [size_all] at HN
  have HC := kp hC
  have HO := kp hO
  clear hO
  go_enter Tryz.func129, Tryz.ntmps129
  go_wp2_with fail
  refine (cS _).mono ?_
  rintro e w1 ⟨rfl, hb⟩
  have h5 := HN.out.bel hb
  have SC := sc_all (P := Tryz.prog) (w := w1) (w.heap.size + 1) 195 C [.int .i64 0, .int .u64 0] h5 (by rw [HC.out]; rfl) HO.out
  have HX := kp (h5.row C.toArray)
  have HBX := kp (bsr (bt' HB.out hb HB.out.size) (Nat.le_succ w.heap.size) (Nat.le_trans HB.out.size hb.size) C.toArray)
  clear h5 hb HN HB
  generalize hY : w1.setRow (w.heap.size + 1) C.toArray = Y at SC HX HBX
  clear hY
  go_wp2
  refine bodyPost_ret (v := .agg C.toArray) ?_ rfl ⟨rfl, HBX.out⟩
  exact res_all Tryz.results129 (w.heap.size + 1) 2 _ _ _ Tryz.underlying195 rfl info_num HC.out HX.out _ rfl
theorem eqT_num : EqT Tryz.prog 195 [.int .i64, .int .u64] := ⟨by kernel_rfl, by kernel_rfl, by kernel_rfl, by kernel_rfl⟩
theorem W_Int (x : Int) (h0 : -170141183460469231731687303715884105728 ≤ x) (h1 : x < 170141183460469231731687303715884105728) (w : World) : Calls Tryz.prog 105 #[.agg (numC x).toArray] w fun e w' => e = .returned (.tuple (if -9223372036854775808 ≤ x ∧ x < 9223372036854775808 then #[.int .i64 x, .int .i64 0] else #[.int .i64 0, .int .i64 6])) ∧ Below w.heap.size w w' := by
  obtain ⟨n, hn⟩ : ∃ n, wrap64 (numL x) = n := ⟨_, rfl⟩
  have cO := kp (fun w' => W_Of n (by rw [← hn]; unfold wrap64; omega) (by rw [← hn]; unfold wrap64; omega) w')
  have hb : Kp (∀ b : Bool, (b = true ↔ (-9223372036854775808 ≤ x ∧ x < 9223372036854775808)) → ((numH n == numH x) && ((numL n == numL x) && true)) = b) := kp (by
    intro b hb
    rw [Bool.eq_iff_iff, hb]
    simp only [Bool.and_true, Bool.and_eq_true, beq_iff_eq, ← hn]
    unfold numH numL wrap64
    omega)
  have hnx : (-9223372036854775808 ≤ x ∧ x < 9223372036854775808) → n = x := by rw [← hn]; unfold numL wrap64; omega
  have HB := kp (ba (Below.refl w.heap.size w) (.cells (numC x).toArray 195))
  have hq : ∃ b : Bool, (b = true ↔ (-9223372036854775808 ≤ x ∧ x < 9223372036854775808)) := ⟨decide _, decide_eq_true_iff⟩
  obtain ⟨b, hq⟩ := hq
  have E := kp (hb.out b hq)
  unfold numC at cO HB ⊢
  generalize numH x = a at *
  generalize numL x = l at *
  generalize numH n = a2 at *
  generalize numL n = m at *
  cases b with
  | true =>
    rw [if_pos (hq.1 rfl)]
    have hx := hnx (hq.1 rfl)
    clear hnx hq hb
    subst hx
    go_enter Tryz.func105, Tryz.ntmps105
    go_wp2
    refine wp_region_ext [0, 1, 2] [3] (by kernel_rfl) (by kernel_rfl) ?_
    simp only [List.map_cons, List.map_nil, List.getD_cons_succ, List.getD_cons_zero]
    repeat (go_big_quiet_step (exact Calls.ext_of (cO.out _)))
    refine wpQuiet_nil ?_
    rintro z
    have HBX := kp (bt' HB.out (ext_below _ z) HB.out.size)
    generalize World.ext _ z = V at HBX ⊢
    refine wpL_val 11 rfl rfl (.bool false) (exec_nes eqT_num rfl (vs := [.int .i64 a2, .int .u64 m]) (us := [.int .i64 a, .int .u64 l]) rfl rfl ⟨rfl, rfl, trivial⟩ ⟨rfl, rfl, trivial⟩ rfl rfl (by show (!((a2 == a) && ((m == l) && true))) = _; rw [E.out]; rfl) _) ?_
    go_wp2
    go_ret2
    exact ⟨rfl, HBX.out⟩
  | false =>
    rw [if_neg (fun h => by have := hq.2 h; cases this)]
    clear hnx hq hb
    go_enter Tryz.func105, Tryz.ntmps105
    go_wp2
    refine wp_region_ext [0, 1, 2] [3] (by kernel_rfl) (by kernel_rfl) ?_
    simp only [List.map_cons, List.map_nil, List.getD_cons_succ, List.getD_cons_zero]
    repeat (go_big_quiet_step (exact Calls.ext_of (cO.out _)))
    refine wpQuiet_nil ?_
    rintro z
    have HBX := kp (bt' HB.out (ext_below _ z) HB.out.size)
    generalize World.ext _ z = V at HBX ⊢
    refine wpL_val 11 rfl rfl (.bool true) (exec_nes eqT_num rfl (vs := [.int .i64 a2, .int .u64 m]) (us := [.int .i64 a, .int .u64 l]) rfl rfl ⟨rfl, rfl, trivial⟩ ⟨rfl, rfl, trivial⟩ rfl rfl (by show (!((a2 == a) && ((m == l) && true))) = _; rw [E.out]; rfl) _) ?_
    go_wp2
    go_ret2
    exact ⟨rfl, HBX.out⟩
/-- numbers of 128 bits -/
def In128 (x : Int) : Prop := -170141183460469231731687303715884105728 ≤ x ∧ x < 170141183460469231731687303715884105728
instance (x : Int) : Decidable (In128 x) := inferInstanceAs (Decidable (_ ∧ _))
def overV (z : Int) : Value := if In128 z then .tuple #[.agg (numC z).toArray, .int .i64 0] else .tuple #[.agg (numC 0).toArray, .int .i64 6]
theorem numH_neg {x : Int} (h : In128 x) : decide (numH x < 0) = decide (x < 0) := by
  unfold In128 at h
  rw [Bool.eq_iff_iff, decide_eq_true_iff, decide_eq_true_iff]
  unfold numH wrap64
  omega
theorem numH_sub {x y : Int} (hx : In128 x) (hy : In128 y) : ((decide (numH x < 0) != decide (numH y < 0)) && (decide (numH (x - y) < 0) != decide (numH x < 0))) = !decide (In128 (x - y)) := by
  rw [numH_neg hx, numH_neg hy]
  unfold In128 at hx hy
  have h : numH (x - y) < 0 ↔ (170141183460469231731687303715884105728 ≤ x - y ∨ (-170141183460469231731687303715884105728 ≤ x - y ∧ x - y < 0)) := by unfold numH wrap64; omega
  generalize numH (x - y) = c at *
  by_cases g1 : x < 0 <;> by_cases g2 : y < 0 <;> by_cases g3 : c < 0
  all_goals
    simp only [g1, g2, g3, decide_true, decide_false, bne_self_eq_false, Bool.false_and, Bool.and_false]
    first
    | (rw [decide_eq_true (show In128 (x - y) by unfold In128; omega)]; rfl)
    | (rw [decide_eq_false (show ¬ In128 (x - y) by unfold In128; omega)]; rfl)
set_option maxHeartbeats 1000000 in
set_option maxRecDepth 100000 in
theorem W_Sub (x y : Int) (hx : In128 x) (hy : In128 y) (w : World) : Calls Tryz.prog 102 #[.agg (numC x).toArray, .agg (numC y).toArray] w fun e w' => e = .returned (overV (x - y)) ∧ Below w.heap.size w w' := by
  have cS := kp (fun w' => W_sum x (-y) w')
  have cL := kp (fun w' => W_less y w')
  rw [← Int.sub_eq_add_neg] at cS
  have hov := numH_sub hx hy
  have HR1 : Kp (In128 (x - y) → overV (x - y) = .tuple #[.agg (numC (x - y)).toArray, .int .i64 0]) := kp (fun h => if_pos h)
  have HR0 : Kp (¬ In128 (x - y) → overV (x - y) = .tuple #[.agg (numC 0).toArray, .int .i64 6]) := kp (fun h => if_neg h)
  generalize overV (x - y) = R at *
  have hCl := numC_length (x - y)
  have HC1 := kp (numC_one (x - y))
  have HC0 : Kp ((numC (x - y))[0]? = some (.int .i64 (numH (x - y)))) := kp rfl
  have HX0 : Kp ((numC x)[0]? = some (.int .i64 (numH x))) := kp rfl
  have HY0 : Kp ((numC y)[0]? = some (.int .i64 (numH y))) := kp rfl
  have H1 := kp (((Blk.new w 195 (numC x).toArray).alloc (.cells (numC y).toArray 195)).alloc (.cells #[.int .i64 0, .int .u64 0] 195))
  have H2 := kp ((Blk.new (w.alloc (.cells (numC x).toArray 195)) 195 (numC y).toArray).alloc (.cells #[.int .i64 0, .int .u64 0] 195))
  have H3 := kp (Blk.new ((w.alloc (.cells (numC x).toArray 195)).alloc (.cells (numC y).toArray 195)) 195 #[.int .i64 0, .int .u64 0])
  have HB := kp (ba (ba (ba (Below.refl w.heap.size w) (.cells (numC x).toArray 195)) (.cells (numC y).toArray 195)) (.cells #[.int .i64 0, .int .u64 0] 195))
  rw [size_all, size_all] at H3
  rw [size_all] at H2
  have hXl := numC_length x
  have hYl := numC_length y
  generalize numC (x - y) = C at *
  generalize numH (x - y) = c at *
  generalize numC x = X at *
  generalize numH x = a at *
  generalize numC y = Y at *
  generalize numH y = b at *
  go_enter Tryz.func102, Tryz.ntmps102
  go_upto_region 1 with (fail)
  change Code.wp _ _ _ _ (((w.alloc (.cells X.toArray 195)).alloc (.cells Y.toArray 195)).alloc (.cells #[.int .i64 0, .int .u64 0] 195))
  generalize ((w.alloc (.cells X.toArray 195)).alloc (.cells Y.toArray 195)).alloc (.cells #[.int .i64 0, .int .u64 0] 195) = W at H1 H2 H3 HB ⊢
  refine wp_region_mkE [0, 1, 2, 3] [4] [5] 29 (fun _ => VA W.heap.size 195 #[.int .i64 0, .int .u64 0]) (· ≠ ·) (by kernel_rfl) (by kernel_rfl) rfl (fun i v W W' h hb => h.mono hb) ?_
  apply Exists.intro
  refine ⟨fun V hV => ?_, ?_, ?_⟩
  · have L1 := kp (fun x => ld_all (P := Tryz.prog) w.heap.size 2 195 195 X _ Tryz.underlying195 rfl info_num hXl ((H1.out.bel hV).bel (ext_below V x)))
    have L2 := kp (fun x => ld_all (P := Tryz.prog) (w.heap.size + 1) 2 195 195 Y _ Tryz.underlying195 rfl info_num hYl ((H2.out.bel hV).bel (ext_below V x)))
    simp only [List.map_cons, List.map_nil, List.getD_cons_succ, List.getD_cons_zero]
    repeat (first
      | (go_big_quiet_want; refine quiet_load _ rfl 195 _ rfl rfl (fun w hw => by obtain ⟨x, rfl⟩ := hw; exact L1.out x) ?_; go_simp; go_big_quiet_on)
      | (go_big_quiet_want; refine quiet_load _ rfl 195 _ rfl rfl (fun w hw => by obtain ⟨x, rfl⟩ := hw; exact L2.out x) ?_; go_simp; go_big_quiet_on)
      | go_big_quiet_step (first | (go_at_call 129; with_reducible exact Calls.ext_of (cL.out _)) | (go_at_call 128; with_reducible exact Calls.ext_of (cS.out _))))
    exact wpQuiet_nil rfl
  · exact ⟨mk_alloc rfl (fun W => by kernel_rfl) (fun j u W h => h.ne), trivial⟩
  · intro ev _
    simp only [List.map_cons, List.map_nil, List.getD_cons_succ, List.getD_cons_zero, TailX]
    rintro V hV ⟨_, b4, rfl, hb4, hk4⟩
    have SC := sc_all (P := Tryz.prog) (w := V) b4 195 C [.int .i64 0, .int .u64 0] hk4 (by rw [hCl]; rfl) HC1.out
    have J4 := kp (hk4.row C.toArray)
    have J1 := kp ((H1.out.bel hV).rowfar (b := b4) (by have := H1.out.lt; omega) C.toArray)
    have J2 := kp ((H2.out.bel hV).rowfar (b := b4) (by have := H2.out.lt; omega) C.toArray)
    have J3 := kp ((H3.out.bel hV).rowfar (b := b4) (by have := H3.out.lt; omega) C.toArray)
    have hbx := bt' HB.out hV HB.out.size
    have JB := kp (bsr hbx (show w.heap.size ≤ b4 by have := HB.out.size; omega) hbx.size C.toArray)
    clear hV hk4 hbx hb4 H1 H2 H3 HB
    generalize V.setRow b4 C.toArray = U at SC J1 J2 J3 J4 JB
    go_upto_region 2 with (fail)
    clear SC
    have x0 := J1.out.atL HX0.out
    have y0 := J2.out.atL HY0.out
    have c0 := J4.out.atL HC0.out
    have k1 := J1.out.lt
    have k2 := J2.out.lt
    have k4 := J4.out.lt
    have LC := ld_all (P := Tryz.prog) b4 2 195 195 C _ Tryz.underlying195 rfl info_num hCl J4.out
    have hcase : In128 (x - y) ∨ ¬ In128 (x - y) := Decidable.em _
    rcases hcase with hin | hin
    · rw [decide_eq_true hin] at hov
      have HR := kp (HR1.out hin)
      have SC := sc_all (P := Tryz.prog) (w := U) (w.heap.size + 1 + 1) 195 C [.int .i64 0, .int .u64 0] J3.out (by rw [hCl]; rfl) HC1.out
      have HX := kp (J3.out.row C.toArray)
      have HBX := kp (bsr JB.out (show w.heap.size ≤ w.heap.size + 1 + 1 by omega) JB.out.size C.toArray)
      generalize U.setRow (w.heap.size + 1 + 1) C.toArray = U2 at SC HX HBX
      clear hin hx hy
      by_cases ga : a < 0 <;> by_cases gb : b < 0 <;> by_cases gc : c < 0
      all_goals
        first
        | (exfalso; revert hov; simp only [ga, gb, gc, decide_true, decide_false]; decide)
        | (clear hov
           first | (have g1 := decide_eq_true ga) | (have g1 := decide_eq_false ga)
           first | (have g2 := decide_eq_true gb) | (have g2 := decide_eq_false gb)
           first | (have g3 := decide_eq_true gc) | (have g3 := decide_eq_false gc)
           go_wp2_with (refine wpL_load rfl 195 _ rfl rfl LC ?_)
           refine bodyPost_ret (v := .tuple #[.agg C.toArray, .int .i64 0]) ?_ rfl ⟨by rw [HR.out], HBX.out⟩
           exact res2 Tryz.results102 (w.heap.size + 1 + 1) 2 _ _ _ Tryz.underlying195 rfl info_num hCl HX.out _ rfl _ rfl)
    · rw [decide_eq_false hin] at hov
      have HR := kp (HR0.out hin)
      have hZl := numC_length 0
      have hZ1 := numC_one 0
      have HZ : Kp (numC 0 = [.int .i64 0, .int .u64 0]) := kp (by kernel_rfl)
      obtain ⟨Z, hZ⟩ : ∃ Z, numC 0 = Z := ⟨_, rfl⟩
      rw [hZ] at HZ hZl hZ1 HR
      have SC := sc_all (P := Tryz.prog) (w := U) (w.heap.size + 1 + 1) 195 Z [.int .i64 0, .int .u64 0] J3.out (by rw [hZl]; rfl) hZ1
      have HX := kp (J3.out.row Z.toArray)
      have HBX := kp (bsr JB.out (show w.heap.size ≤ w.heap.size + 1 + 1 by omega) JB.out.size Z.toArray)
      generalize U.setRow (w.heap.size + 1 + 1) Z.toArray = U2 at SC HX HBX
      clear hin hx hy hZ hZ1
      by_cases ga : a < 0 <;> by_cases gb : b < 0 <;> by_cases gc : c < 0
      all_goals
        first
        | (exfalso; revert hov; simp only [ga, gb, gc, decide_true, decide_false]; decide)
        | (clear hov
           first | (have g1 := decide_eq_true ga) | (have g1 := decide_eq_false ga)
           first | (have g2 := decide_eq_true gb) | (have g2 := decide_eq_false gb)
           first | (have g3 := decide_eq_true gc) | (have g3 := decide_eq_false gc)
           go_wp2_with (refine wpL_val 27 rfl rfl (.agg Z.toArray) (by rw [HZ.out]; kernel_rfl) ?_)
           refine bodyPost_ret (v := .tuple #[.agg Z.toArray, .int .i64 6]) ?_ rfl ⟨by rw [HR.out], HBX.out⟩
           exact res2 Tryz.results102 (w.heap.size + 1 + 1) 2 _ _ _ Tryz.underlying195 rfl info_num hZl HX.out _ rfl _ rfl)
end Go.Proofs.YtmblknknbbdmeaaGreat
/- wide: parted. -/
namespace Go.Proofs.YtmblknknbbdmeaaGreat
open Go Go.RowKit
set_option linter.unusedVariables false
set_option linter.unusedSimpArgs false
attribute [local go_sem] bmax2 bmin2 bmax bmin cell_ext frozen_ext

/-- a function with three results: a struct or an array in a block, and two slots -/
theorem res3 {P : Program} {w : World} {fn : Func} {p q r : Tmp} {ty : TypeId} (h : fn.results = #[.cell p ty, .tmp q, .tmp r]) (g n : Nat) (t : TypeId) (cs : List Value) (d : TypeDesc) (hu : P.underlying ty = some d) (hd : aggB d = true) (hi : (P.info? ty).map (·.size) = some n) (hn : cs.length = n) (hb : Blk w g t cs.toArray)
    (tmps : Array Value) (hp : tmps.getD p undef = .pointer (some ⟨g, 0, none⟩)) (v : Value) (hq : tmps.getD q undef = v) (u : Value) (hr : tmps.getD r undef = u) : (results fn tmps).run P w = .ok (.tuple #[.agg cs.toArray, v, u]) w := by
  have hp' : tmps[p]?.getD undef = .pointer (some ⟨g, 0, none⟩) := by simpa using hp
  have hq' : tmps[q]?.getD undef = v := by simpa using hq
  have hr' : tmps[r]?.getD undef = u := by simpa using hr
  have hl := run_loadVar_row (P := P) w g t ty cs.toArray (0, 0) d hb hu (by cases d <;> simp_all [aggB]) (by rw [hi]; simp [hn])
  simp [results, h, hp', hq', hr', asAddr, hl]
theorem or_bit (r c : Nat) (hc : c < 2) (hr : r < 9223372036854775808) : bits .or .u64 ((r : Int) * 2) (c : Int) = ((r * 2 + c : Nat) : Int) := by
  have e3 := u64_or_nat (r * 2) c (by omega) (by omega)
  have e4 := nat_join 1 (r * 2) c (by omega) (by omega)
  rw [e4] at e3
  rw [← e3]
  rfl
theorem or_one (q : Nat) : bits .or .u64 (numL ((2 * q : Nat) : Int)) 1 = numL ((2 * q + 1 : Nat) : Int) := by
  have h1 : numL ((2 * q : Nat) : Int) = ((2 * q % 18446744073709551616 : Nat) : Int) := by unfold numL; omega
  have h2 : numL ((2 * q + 1 : Nat) : Int) = ((2 * q % 18446744073709551616 + 1 : Nat) : Int) := by unfold numL; omega
  have e3 := u64_or_nat (2 * q % 18446744073709551616) 1 (by omega) (by omega)
  have e4 := nat_join 1 (2 * q % 18446744073709551616) 1 (by omega) (by omega)
  rw [e4] at e3
  rw [h1, h2, ← e3]
  rfl
theorem and_one (n : Nat) (h : n < 18446744073709551616) : bits .and .u64 (n : Int) 1 = ((n % 2 : Nat) : Int) := by
  have e3 := u64_and_nat n 1 h (by omega)
  rw [Nat.and_one_is_mod] at e3
  exact e3
theorem bit_hi (x h j : Nat) (h1 : h < 18446744073709551616) (hh : x / 18446744073709551616 = h) (hj : 64 ≤ j) (hj2 : j < 128) : bits .and .u64 ((h : Int) / 2 ^ (j % 64)) 1 = ((x / 2 ^ j % 2 : Nat) : Int) := by
  have e : (h : Int) / 2 ^ (j % 64) = ((h / 2 ^ (j % 64) : Nat) : Int) := by rw [Int.natCast_ediv, Int.natCast_pow]; rfl
  rw [e, and_one _ (Nat.lt_of_le_of_lt (Nat.div_le_self _ _) h1), ← hh, show (18446744073709551616 : Nat) = 2 ^ 64 from rfl, Nat.div_div_eq_div_mul, ← Nat.pow_add, show 64 + j % 64 = j by omega]
theorem bit_lo (x l j : Nat) (hl : x % 18446744073709551616 = l) (hj : j < 64) : bits .and .u64 ((l : Int) / 2 ^ (j % 64)) 1 = ((x / 2 ^ j % 2 : Nat) : Int) := by
  have e : (l : Int) / 2 ^ (j % 64) = ((l / 2 ^ (j % 64) : Nat) : Int) := by rw [Int.natCast_ediv, Int.natCast_pow]; rfl
  rw [e, and_one _ (Nat.lt_of_le_of_lt (Nat.div_le_self _ _) (by omega)), Nat.mod_eq_of_lt hj]
  have h2 : (18446744073709551616 : Nat) = 2 ^ j * (2 * 2 ^ (63 - j)) := by rw [← Nat.pow_succ', ← Nat.pow_add, show j + (63 - j).succ = 64 by omega]
  have h3 := Nat.div_add_mod x 18446744073709551616
  rw [hl] at h3
  have h4 : x / 2 ^ j = 2 * (2 ^ (63 - j) * (x / 18446744073709551616)) + l / 2 ^ j := by
    conv => lhs; rw [← h3, h2, Nat.mul_assoc, Nat.mul_add_div (Nat.pow_pos (by omega))]
    rw [Nat.mul_assoc, ← h2]
  rw [h4]
  omega
theorem part_step (n b q r c R : Nat) (hb0 : 0 < b) (hr : r < b) (hc : c < 2) (hn : n = 2 * (b * q + r) + c) (hR : r * 2 + c = R) : (n / b = if R < b then 2 * q else 2 * q + 1) ∧ (n % b = if R < b then R else R - b) := by
  have h1 : n = b * (2 * q) + R := by rw [hn, Nat.mul_left_comm]; omega
  split
  · rename_i h
    rw [h1]
    constructor
    · rw [Nat.mul_add_div hb0, Nat.div_eq_of_lt h, Nat.add_zero]
    · rw [Nat.mul_add_mod, Nat.mod_eq_of_lt h]
  · rename_i h
    have h2 : n = b * (2 * q + 1) + (R - b) := by rw [h1, Nat.mul_add, Nat.mul_one]; omega
    have h3 : R - b < b := by omega
    rw [h2]
    constructor
    · rw [Nat.mul_add_div hb0, Nat.div_eq_of_lt h3, Nat.add_zero]
    · rw [Nat.mul_add_mod, Nat.mod_eq_of_lt h3]
set_option maxHeartbeats 1000000 in
set_option maxRecDepth 100000 in
theorem W_parted (x b : Nat) (hx : x < 170141183460469231731687303715884105728) (hb0 : 0 < b) (hb : b < 9223372036854775808) (w : World) : Calls Tryz.prog 130 #[.agg (numC x).toArray, .int .u64 (b : Int)] w fun e w' => e = .returned (.tuple #[.agg (numC ((x / b : Nat) : Int)).toArray, .int .u64 ((x % b : Nat) : Int)]) ∧ Below w.heap.size w w' := by
  obtain ⟨QF, hQF⟩ : ∃ QF : Nat, x / b = QF := ⟨_, rfl⟩
  obtain ⟨RF, hRF⟩ : ∃ RF : Nat, x % b = RF := ⟨_, rfl⟩
  have HQF := kp hQF
  have HRF := kp hRF
  rw [hQF, hRF]
  clear hQF hRF
  have H1 := kp ((Blk.new w 195 (numC x).toArray).alloc (.cells (numC 0).toArray 195))
  have H3 := kp (Blk.new (w.alloc (.cells (numC x).toArray 195)) 195 (numC 0).toArray)
  have HB := kp (ba (ba (Below.refl w.heap.size w) (.cells (numC x).toArray 195)) (.cells (numC 0).toArray 195))
  rw [size_all] at H3
  have HX0 : Kp ((numC x)[0]? = some (.int .i64 (numH x))) := kp rfl
  have HX1 : Kp ((numC x)[1]? = some (.int .u64 (numL x))) := kp rfl
  have HZ : Kp (numC 0 = [.int .i64 0, .int .u64 0]) := kp (by kernel_rfl)
  have hXl := numC_length x
  have hH : numH x = ((x / 18446744073709551616 : Nat) : Int) := by unfold numH wrap64; omega
  have hL : numL x = ((x % 18446744073709551616 : Nat) : Int) := by unfold numL; omega
  rw [hH] at HX0
  rw [hL] at HX1
  generalize hXX : numC x = X at *
  obtain ⟨h, hh⟩ : ∃ h, x / 18446744073709551616 = h := ⟨_, rfl⟩
  obtain ⟨l, hl⟩ : ∃ l, x % 18446744073709551616 = l := ⟨_, rfl⟩
  rw [hh] at HX0
  rw [hl] at HX1
  have h1 : h < 9223372036854775808 := by omega
  have l1 : l < 18446744073709551616 := by omega
  have hwr : IntKind.u64.wrap (h : Int) = (h : Int) := IntWalk.u64_in _ (by omega)
  have HH := kp hh
  have HLL := kp hl
  clear hh hl hH hL hXX
  go_enter Tryz.func130, Tryz.ntmps130
  go_wp2
  go_step3
  go_upto_region 1 with (fail)
  change Code.wp _ _ _ _ ((w.alloc (.cells X.toArray 195)).alloc (.cells #[.int .i64 0, .int .u64 0] 195))
  have hz : #[Value.int .i64 0, .int .u64 0] = (numC 0).toArray := by rw [HZ.out]
  rw [hz]
  clear hz
  generalize (w.alloc (.cells X.toArray 195)).alloc (.cells (numC 0).toArray 195) = W at H1 H3 HB ⊢
  have a0 := H1.out.atL HX0.out
  have kl := H1.out.lt
  go_wp2
  go_step3
  go_wp2
  clear a0
  go_loopw [5, 7, 8] (fun r i _ wr => ∃ j : Nat, j ≤ 128 ∧ r = .int .u64 (((x / 2 ^ j) % b : Nat) : Int) ∧ i = .int .i64 ((j : Int) - 1) ∧ Kp (Blk wr (w.heap.size + 1) 195 (numC (((x / 2 ^ j) / b : Nat) : Int)).toArray) ∧ Kp (Blk wr w.heap.size 195 X.toArray) ∧ Kp (Below w.heap.size w wr)) (fun _ i _ _ => (intOf i + 1).toNat)
  case atStart => 
    have hx0 : x / 2 ^ 128 = 0 := Nat.div_eq_of_lt (by omega)
    exact ⟨128, by omega, by rw [hx0, Nat.zero_mod]; rfl, rfl, by rw [hx0, Nat.zero_div]; exact H3, H1, HB⟩
  case round =>
    obtain ⟨j, hj, rfl, rfl, J3, J1, JB⟩ := hrel
    have x0 := J1.out.atL HX0.out
    have x1 := J1.out.atL HX1.out
    have k1 := J1.out.lt
    have k3 := J3.out.lt
    cases j with
    | zero =>
      obtain ⟨q, hq⟩ : ∃ q : Nat, x / 2 ^ 0 / b = q := ⟨_, rfl⟩
      obtain ⟨r, hr⟩ : ∃ r : Nat, x / 2 ^ 0 % b = r := ⟨_, rfl⟩
      rw [hq] at J3
      rw [hr]
      rw [Nat.pow_zero, Nat.div_one] at hq hr
      obtain rfl : q = QF := by rw [← HQF.out, hq]
      obtain rfl : r = RF := by rw [← HRF.out, hr]
      clear hq hr x0 x1 HX0 HX1 HH HLL
      have hCl := numC_length (q : Int)
      have hC1 := numC_one (q : Int)
      obtain ⟨C, hC⟩ : ∃ C, numC (q : Int) = C := ⟨_, rfl⟩
      rw [hC] at hCl hC1 J3
      have HC := kp hC
      clear hC
      have LQ := ld_all (P := Tryz.prog) (w.heap.size + 1) 2 195 195 C _ Tryz.underlying195 rfl info_num hCl J3.out
      have SC := sc_same (P := Tryz.prog) (w := wr) (w.heap.size + 1) 195 C J3.out hC1
      go_wp2_with (refine wpL_load rfl 195 _ rfl rfl LQ ?_)
      try rw [Exit.noGoto_ret]
      refine bodyPost_ret (v := .tuple #[.agg C.toArray, .int .u64 (r : Int)]) ?_ rfl ⟨by rw [HC.out], JB.out⟩
      exact res2 Tryz.results130 (w.heap.size + 1) 2 _ _ _ Tryz.underlying195 rfl info_num hCl J3.out _ rfl _ rfl
    | succ j =>
      rw [show ((j + 1 : Nat) : Int) - 1 = (j : Int) by omega]
      obtain ⟨q, hq⟩ : ∃ q : Nat, x / 2 ^ (j + 1) / b = q := ⟨_, rfl⟩
      obtain ⟨r, hr⟩ : ∃ r : Nat, x / 2 ^ (j + 1) % b = r := ⟨_, rfl⟩
      obtain ⟨c, hc⟩ : ∃ c : Nat, x / 2 ^ j % 2 = c := ⟨_, rfl⟩
      rw [hq] at J3
      rw [hr]
      have hrb : r < b := hr ▸ Nat.mod_lt _ hb0
      have hc2 : c < 2 := by omega
      have hxj : x / 2 ^ j = 2 * (b * q + r) + c := by
        have h1 : b * (x / 2 ^ (j + 1) / b) + x / 2 ^ (j + 1) % b = x / 2 ^ (j + 1) := Nat.div_add_mod _ b
        rw [hq, hr] at h1
        have h2 : x / 2 ^ (j + 1) = x / 2 ^ j / 2 := by rw [Nat.div_div_eq_div_mul, Nat.pow_succ]
        omega
      have hR := or_bit r c hc2 (by omega)
      obtain ⟨R, hRR⟩ : ∃ R, r * 2 + c = R := ⟨_, rfl⟩
      rw [hRR] at hR
      have hn : ((x / 2 ^ j) / b = if R < b then 2 * q else 2 * q + 1) ∧ ((x / 2 ^ j) % b = if R < b then R else R - b) := part_step _ b q r c R hb0 hrb hc2 hxj hRR
      have hql : (q : Int) + (q : Int) = ((2 * q : Nat) : Int) := by omega
      have cS := kp (fun w' => W_sum (q : Int) (q : Int) w')
      rw [hql] at cS
      have hlow : bits .or .u64 (numL ((2 * q : Nat) : Int)) 1 = numL ((2 * q + 1 : Nat) : Int) := or_one q
      have hhi : numH ((2 * q + 1 : Nat) : Int) = numH ((2 * q : Nat) : Int) := by unfold numH wrap64; omega
      have hCl := numC_length (q : Int)
      have LQ := ld_all (P := Tryz.prog) (w.heap.size + 1) 2 195 195 (numC (q : Int)) _ Tryz.underlying195 rfl info_num hCl J3.out
      have HN := kp hn
      have hRlt : R < 18446744073709551616 := by omega
      have hD0 : Kp ((numC ((2 * q : Nat) : Int))[1]? = some (.int .u64 (numL ((2 * q : Nat) : Int)))) := kp rfl
      have hD : Kp ((numC ((2 * q : Nat) : Int)).set 1 (.int .u64 (numL ((2 * q + 1 : Nat) : Int))) = numC ((2 * q + 1 : Nat) : Int)) := kp (by unfold numC; rw [hhi]; rfl)
      have hDl := numC_length ((2 * q : Nat) : Int)
      have hD1 := numC_one ((2 * q : Nat) : Int)
      generalize numC (q : Int) = C at *
      obtain ⟨D, hdd⟩ : ∃ D, numC ((2 * q : Nat) : Int) = D := ⟨_, rfl⟩
      have HDD := kp hdd
      rw [hdd] at hD0 hD hDl hD1 cS
      clear hdd
      obtain ⟨E, hE⟩ : ∃ E, numC ((2 * q + 1 : Nat) : Int) = E := ⟨_, rfl⟩
      have HE := kp hE
      rw [hE] at hD
      have hg := hE ▸ numC_length ((2 * q + 1 : Nat) : Int)
      generalize numL ((2 * q : Nat) : Int) = lo at *
      generalize numL ((2 * q + 1 : Nat) : Int) = lo2 at *
      clear hE hxj hRR hql hhi
      generalize hQ2 : 2 * q = Q2 at *
      generalize hQ3 : Q2 + 1 = Q3 at *
      clear hQ2 hq hr
      have hb64 : (64 ≤ j ∧ bits .and .u64 ((h : Int) / 2 ^ (j % 64)) 1 = (c : Int)) ∨ (¬ 64 ≤ j ∧ bits .and .u64 ((l : Int) / 2 ^ (j % 64)) 1 = (c : Int)) := by
        rw [← hc]
        by_cases h64 : 64 ≤ j
        · exact .inl ⟨h64, bit_hi x h j (by omega) HH.out h64 (by omega)⟩
        · exact .inr ⟨h64, bit_lo x l j HLL.out (by omega)⟩
      have FIN : Kp (∀ (w3 : World) (q3 r3 : Nat), x / 2 ^ j / b = q3 → x / 2 ^ j % b = r3 → Blk w3 (w.heap.size + 1) 195 (numC (q3 : Int)).toArray → Blk w3 w.heap.size 195 X.toArray → Below w.heap.size w w3 →
          ∃ j2 : Nat, j2 ≤ 128 ∧ Value.int .u64 (r3 : Int) = .int .u64 (((x / 2 ^ j2) % b : Nat) : Int) ∧ Value.int .i64 ((j : Int) - 1) = .int .i64 ((j2 : Int) - 1) ∧ Kp (Blk w3 (w.heap.size + 1) 195 (numC (((x / 2 ^ j2) / b : Nat) : Int)).toArray) ∧ Kp (Blk w3 w.heap.size 195 X.toArray) ∧ Kp (Below w.heap.size w w3)) := kp (by
        intro w3 q3 r3 e1 e2 k1 k2 k3
        exact ⟨j, by omega, by rw [e2], rfl, kp (by rw [e1]; exact k1), kp k2, kp k3⟩)
      clear hn
      rcases hb64 with ⟨h64, hbit⟩ | ⟨h64, hbit⟩
      all_goals
        have hc' := kp hc
        clear hc
        go_wp2_with (refine wpL_load rfl 195 _ rfl rfl LQ ?_)
        refine (cS.out _).mono ?_
        rintro e w1 ⟨rfl, hb1⟩
        have M3 := J3.out.bel hb1
        have M1 := kp (J1.out.bel hb1)
        have MB := kp (bt' JB.out hb1 JB.out.size)
        have SC := sc_all (P := Tryz.prog) (w := w1) (w.heap.size + 1) 195 D C M3 (by rw [hDl, hCl]) hD1
        have N3 := kp (M3.row D.toArray)
        have N1 := kp (M1.out.rowfar (b := w.heap.size + 1) (by omega) D.toArray)
        have NB := kp (bsr MB.out (show w.heap.size ≤ w.heap.size + 1 by omega) MB.out.size D.toArray)
        clear M3 M1 MB hb1
        generalize w1.setRow (w.heap.size + 1) D.toArray = w2 at SC N3 N1 NB
        have d1 := N3.out.atL hD0.out
        have kk := N3.out.lt
        have fz := N3.out.frozen 1
        by_cases hlt : R < b
        · have hlt2 : (R : Int) < (b : Int) := by omega
          have e1 := HN.out.1
          have e2 := HN.out.2
          rw [if_pos hlt] at e1 e2
          have E1 := kp e1
          have E2 := kp e2
          clear e1 e2
          go_wp2
          go_roundw
          case measure => simp [intOf]
          case rel => exact FIN.out _ _ _ E1.out E2.out (by rw [HDD.out]; exact N3.out) N1.out NB.out
        · have hlt2 : ¬ (R : Int) < (b : Int) := by omega
          have e1 := HN.out.1
          have e2 := HN.out.2
          rw [if_neg hlt] at e1 e2
          have E1 := kp e1
          have E2 := kp e2
          clear e1 e2
          have hsub : (R : Int) - (b : Int) = ((R - b : Nat) : Int) := by omega
          have hRl : R - b < 18446744073709551616 := by omega
          have hwr2 : IntKind.u64.wrap ((R - b : Nat) : Int) = ((R - b : Nat) : Int) := IntWalk.u64_in _ (by omega)
          generalize hRb : R - b = Rb at *
          clear hRb
          have P3 := kp (N3.out.setL 1 (.int .u64 lo2))
          have P1 := kp (N1.out.far (p := ⟨w.heap.size + 1, 1, none⟩) (by show _ ≠ _; simp) (.int .u64 lo2))
          have PB := kp (bsc NB.out (p := ⟨w.heap.size + 1, 1, none⟩) (by show _ ≤ _; simp) (.int .u64 lo2))
          rw [hD.out] at P3
          go_wp2
          go_roundw
          case measure => simp [intOf]
          case rel => exact FIN.out _ _ _ E1.out E2.out (by rw [HE.out]; exact P3.out) P1.out PB.out
theorem build_num (a b : Int) (W : World) : (Instr.build 195 #[(0, .int .i64 a), (1, .int .u64 b)]).run Tryz.prog W = .ok (.agg ([.int .i64 a, .int .u64 b] : List Value).toArray) W := run_build W 195 _ _ (by kernel_rfl)
set_option maxHeartbeats 1000000 in
set_option maxRecDepth 100000 in
theorem W_Div (x : Int) (b : Nat) (hx : In128 x) (hb0 : 0 < b) (hb : b < 9223372036854775808) (w : World) : Calls Tryz.prog 104 #[.agg (numC x).toArray, .int .i64 (b : Int)] w fun e w' => e = .returned (.tuple #[.agg (numC (x / b)).toArray, .int .i64 (x % b), .int .i64 0]) ∧ Below w.heap.size w w' := by
  have HX0 : Kp ((numC x)[0]? = some (.int .i64 (numH x))) := kp rfl
  have HX1 : Kp ((numC x)[1]? = some (.int .u64 (numL x))) := kp rfl
  have hXl := numC_length x
  have l0 := numL0 x
  have l1 := numL1 x
  have h0 := numH0 x
  have h1 := numH1 x
  unfold In128 at hx
  have hu : IntKind.u64.wrap (b : Int) = (b : Int) := IntWalk.u64_in _ (by omega)
  have hbi : ¬ (b : Int) < 1 := by omega
  have H1 := kp ((Blk.new w 195 (numC x).toArray).alloc (.cells (numC 0).toArray 195))
  have H3 := kp (Blk.new (w.alloc (.cells (numC x).toArray 195)) 195 (numC 0).toArray)
  have HB := kp (ba (ba (Below.refl w.heap.size w) (.cells (numC x).toArray 195)) (.cells (numC 0).toArray 195))
  rw [size_all] at H3
  have HZ : Kp (numC 0 = [.int .i64 0, .int .u64 0]) := kp (by kernel_rfl)
  by_cases hneg : x < 0
  · have hp : 0 ≤ -x - 1 := by omega
    obtain ⟨n, hn⟩ : ∃ n : Nat, -x - 1 = (n : Int) := ⟨(-x - 1).toNat, by omega⟩
    have cP := kp (fun w' => W_parted n b (by omega) hb0 hb w')
    have hH : numH x < 0 := by unfold numH wrap64; omega
    have hH2 : decide (0 ≤ numH x) = false := decide_eq_false (by omega)
    clear hH
    have hmb : n % b < b := Nat.mod_lt _ hb0
    have hqx : x / (b : Int) = -((n / b : Nat) : Int) - 1 := by
      have h2 : (n : Int) = (b : Int) * ((n / b : Nat) : Int) + ((n % b : Nat) : Int) := by rw [← Int.natCast_mul, ← Int.natCast_add, Nat.div_add_mod]
      have h3 : x = (b : Int) * (-((n / b : Nat) : Int) - 1) + ((b : Int) - 1 - ((n % b : Nat) : Int)) := by rw [Int.mul_sub, Int.mul_neg]; omega
      rw [h3, Int.mul_add_ediv_left _ _ (by omega), Int.ediv_eq_zero_of_lt (by omega) (by omega), Int.add_zero]
    have hmx : x % (b : Int) = (b : Int) - 1 - ((n % b : Nat) : Int) := by
      have h2 : (n : Int) = (b : Int) * ((n / b : Nat) : Int) + ((n % b : Nat) : Int) := by rw [← Int.natCast_mul, ← Int.natCast_add, Nat.div_add_mod]
      have h3 : x = (b : Int) * (-((n / b : Nat) : Int) - 1) + ((b : Int) - 1 - ((n % b : Nat) : Int)) := by rw [Int.mul_sub, Int.mul_neg]; omega
      rw [h3, Int.mul_add_emod_self_left, Int.emod_eq_of_lt (by omega) (by omega)]
    rw [hqx, hmx]
    have eA : numC (n : Int) = [.int .i64 (bits .xor .i64 (-1) (numH x)), .int .u64 (bits .xor .u64 IntKind.u64.max (numL x))] := by
      rw [not_i64 _ h0 h1, not_u64 _ l0 l1, ← hn]
      unfold numC
      rw [show numH (-x - 1) = -1 - numH x by unfold numH wrap64; omega, show numL (-x - 1) = 18446744073709551615 - numL x by unfold numL; omega]
    obtain ⟨q, hq⟩ : ∃ q, n / b = q := ⟨_, rfl⟩
    rw [hq] at cP ⊢
    have q0 := numL0 (q : Int)
    have q1 := numL1 (q : Int)
    have q2 := numH0 (q : Int)
    have q3 := numH1 (q : Int)
    have eB : numC (-(q : Int) - 1) = [.int .i64 (bits .xor .i64 (-1) (numH (q : Int))), .int .u64 (bits .xor .u64 IntKind.u64.max (numL (q : Int)))] := by
      rw [not_i64 _ q2 q3, not_u64 _ q0 q1]
      unfold numC
      rw [show numH (-(q : Int) - 1) = -1 - numH (q : Int) by unfold numH wrap64; omega, show numL (-(q : Int) - 1) = 18446744073709551615 - numL (q : Int) by unfold numL; omega]
    rw [eA] at cP
    have D0 : Kp ((numC (q : Int))[0]? = some (.int .i64 (numH (q : Int)))) := kp rfl
    have D1 : Kp ((numC (q : Int))[1]? = some (.int .u64 (numL (q : Int)))) := kp rfl
    have hDl := numC_length (q : Int)
    have hD1 := kp (numC_one (q : Int))
    have hZl := numC_length 0
    have EB := kp eB
    clear eA eB hqx hmx hn hneg hp hx hq q0 q1 q2 q3
    generalize n % b = m at *
    have HMB := kp hmb
    clear hmb
    generalize numC (q : Int) = D at *
    generalize numH (q : Int) = qh at *
    generalize numL (q : Int) = ql at *
    generalize numH x = hh at *
    generalize numL x = ll at *
    generalize numC x = X at *
    clear h0 h1 l0 l1
    go_enter Tryz.func104, Tryz.ntmps104
    go_upto_region 1 with (fail)
    change Code.wp _ _ _ _ ((w.alloc (.cells X.toArray 195)).alloc (.cells #[.int .i64 0, .int .u64 0] 195))
    have hz : #[Value.int .i64 0, .int .u64 0] = (numC 0).toArray := by rw [HZ.out]
    rw [hz]
    clear hz
    generalize numC 0 = Z at *
    generalize (w.alloc (.cells X.toArray 195)).alloc (.cells Z.toArray 195) = W at H1 H3 HB ⊢
    have x0 := H1.out.atL HX0.out
    have x1 := H1.out.atL HX1.out
    have k1 := H1.out.lt
    go_wp2_with fail
    refine (cP.out _).mono ?_
    rintro e w1 ⟨rfl, hb1⟩
    have J3 := kp (H3.out.bel hb1)
    have JB := kp (bt' HB.out hb1 HB.out.size)
    clear hb1
    have SC := sc_new (P := Tryz.prog) w1 195 D hD1.out #[.int .i64 0, .int .u64 0] (by rw [hDl]; rfl)
    have J3 := kp (J3.out.alloc (.cells D.toArray 195))
    have JB := kp (ba JB.out (.cells D.toArray 195))
    have J9 := kp (Blk.new w1 195 D.toArray)
    have k9 := J9.out.lt
    go_upto_region 7 with (fail)
    change Code.wp _ _ _ _ (w1.alloc (.cells D.toArray 195))
    clear SC x0 x1
    generalize w1.alloc (.cells D.toArray 195) = W5 at J3 JB J9 k9 ⊢
    have d0 := J9.out.atL D0.out
    have d1 := J9.out.atL D1.out
    have hEl := numC_length (-(q : Int) - 1)
    have hE1 := kp (numC_one (-(q : Int) - 1))
    have SC := sc_all (P := Tryz.prog) (w := W5) (w.heap.size + 1) 195 (numC (-(q : Int) - 1)) Z J3.out (by rw [hEl, hZl]) hE1.out
    have HX := kp (J3.out.row (numC (-(q : Int) - 1)).toArray)
    have HBX := kp (bsr JB.out (show w.heap.size ≤ w.heap.size + 1 by omega) JB.out.size (numC (-(q : Int) - 1)).toArray)
    obtain ⟨E, hE⟩ : ∃ E, numC (-(q : Int) - 1) = E := ⟨_, rfl⟩
    rw [hE] at SC HX HBX EB hEl hE1
    have HE := kp hE
    clear hE
    generalize W5.setRow (w.heap.size + 1) E.toArray = W6 at SC HX HBX
    have hmb := HMB.out
    have hm : IntKind.i64.wrap (m : Int) = (m : Int) := IntWalk.i64_in _ (by omega)
    have hm2 : (m : Int) < 9223372036854775808 := by omega
    have hw1 : wrap64 ((b : Int) - 1) = (b : Int) - 1 := IntWalk.wrap64_in _ (by omega)
    have hw2 : wrap64 ((b : Int) - 1 - (m : Int)) = (b : Int) - 1 - (m : Int) := IntWalk.wrap64_in _ (by omega)
    go_wp2_with (refine wpL_val 46 rfl rfl (.agg E.toArray) ((exec_build (parts := #[(0, .int .i64 (bits .xor .i64 (-1) qh)), (1, .int .u64 (bits .xor .u64 IntKind.u64.max ql))]) rfl (by simp [Act.eval, Act.put]) (build_num _ _ _)).trans (by rw [EB.out])) ?_)
    refine bodyPost_ret (v := .tuple #[.agg E.toArray, .int .i64 ((b : Int) - 1 - (m : Int)), .int .i64 0]) ?_ rfl ⟨by rw [HE.out], HBX.out⟩
    exact res3 Tryz.results104 (w.heap.size + 1) 2 _ _ _ Tryz.underlying195 rfl info_num hEl HX.out _ rfl _ rfl _ rfl
  · obtain ⟨n, rfl⟩ : ∃ n : Nat, x = (n : Int) := ⟨x.toNat, by omega⟩
    have cP := kp (fun w' => W_parted n b (by omega) hb0 hb w')
    have hH : ¬ numH (n : Int) < 0 := by unfold numH wrap64; omega
    have hH2 : 0 ≤ numH (n : Int) := by omega
    have hmb : n % b < b := Nat.mod_lt _ hb0
    rw [show ((n : Int) / (b : Int)) = ((n / b : Nat) : Int) by simp, show ((n : Int) % (b : Int)) = ((n % b : Nat) : Int) by simp]
    have hDl := numC_length ((n / b : Nat) : Int)
    have hD1 := kp (numC_one ((n / b : Nat) : Int))
    have hZl := numC_length 0
    obtain ⟨D, hDD⟩ : ∃ D, numC ((n / b : Nat) : Int) = D := ⟨_, rfl⟩
    have HDD := kp hDD
    rw [hDD] at hDl hD1 cP
    clear hDD
    generalize n % b = m at *
    have hm : IntKind.i64.wrap (m : Int) = (m : Int) := IntWalk.i64_in _ (by omega)
    have hm2 : (m : Int) < 9223372036854775808 := by omega
    generalize numH (n : Int) = hh at *
    generalize numL (n : Int) = ll at *
    generalize numC (n : Int) = X at *
    go_enter Tryz.func104, Tryz.ntmps104
    go_upto_region 1 with (fail)
    change Code.wp _ _ _ _ ((w.alloc (.cells X.toArray 195)).alloc (.cells #[.int .i64 0, .int .u64 0] 195))
    have hz : #[Value.int .i64 0, .int .u64 0] = (numC 0).toArray := by rw [HZ.out]
    rw [hz]
    clear hz
    generalize numC 0 = Z at *
    generalize (w.alloc (.cells X.toArray 195)).alloc (.cells Z.toArray 195) = W at H1 H3 HB ⊢
    have x0 := H1.out.atL HX0.out
    have k1 := H1.out.lt
    have LX := ld_all (P := Tryz.prog) w.heap.size 2 195 195 X _ Tryz.underlying195 rfl info_num hXl H1.out
    go_wp2_with (refine wpL_load rfl 195 _ rfl rfl LX ?_)
    refine (cP.out _).mono ?_
    rintro e w1 ⟨rfl, hb1⟩
    have J3 := kp (H3.out.bel hb1)
    have JB := kp (bt' HB.out hb1 HB.out.size)
    clear hb1
    have SC := sc_new (P := Tryz.prog) w1 195 D hD1.out #[.int .i64 0, .int .u64 0] (by rw [hDl]; rfl)
    have J3 := kp (J3.out.alloc (.cells D.toArray 195))
    have JB := kp (ba JB.out (.cells D.toArray 195))
    have J9 := kp (Blk.new w1 195 D.toArray)
    have k9 := J9.out.lt
    go_upto_region 5 with (fail)
    change Code.wp _ _ _ _ (w1.alloc (.cells D.toArray 195))
    clear SC LX x0
    generalize w1.alloc (.cells D.toArray 195) = W5 at J3 JB J9 k9 ⊢
    have SC := sc_all (P := Tryz.prog) (w := W5) (w.heap.size + 1) 195 D Z J3.out (by rw [hDl, hZl]) hD1.out
    have LD := ld_all (P := Tryz.prog) w1.heap.size 2 195 195 D _ Tryz.underlying195 rfl info_num hDl J9.out
    have HX := kp (J3.out.row D.toArray)
    have HBX := kp (bsr JB.out (show w.heap.size ≤ w.heap.size + 1 by omega) JB.out.size D.toArray)
    generalize W5.setRow (w.heap.size + 1) D.toArray = W6 at SC HX HBX
    go_wp2_with (refine wpL_load rfl 195 _ rfl rfl LD ?_)
    refine bodyPost_ret (v := .tuple #[.agg D.toArray, .int .i64 (m : Int), .int .i64 0]) ?_ rfl ⟨by rw [HDD.out], HBX.out⟩
    exact res3 Tryz.results104 (w.heap.size + 1) 2 _ _ _ Tryz.underlying195 rfl info_num hDl HX.out _ rfl _ rfl _ rfl
end Go.Proofs.YtmblknknbbdmeaaGreat
/- plan: May, begins, Begins, End, Tells, Then. -/
namespace Go.Proofs.YtmblknknbbdmeaaGreat
open Go Go.RowKit
set_option linter.unusedVariables false
set_option linter.unusedSimpArgs false
attribute [local go_sem] bmax2 bmin2 bmax bmin cell_ext frozen_ext

def inP (n a b : Int) : Bool := decide (a ≤ n) && decide (n ≤ b)
theorem inP_iff {n a b : Int} : inP n a b = true ↔ a ≤ n ∧ n ≤ b := by unfold inP; simp
def planL (s l d c : Int) : List Value := [.int .i64 s, .int .i64 l, .int .i64 d, .int .i64 c]
def mayP (s l d c : Int) : Bool := inP s (-1152921504606846976) 1152921504606846976 && (inP l 1 1099511627776 && (inP d 1 16 && inP c 1 1024))
theorem mayP_iff {s l d c : Int} : mayP s l d c = true ↔ (-1152921504606846976 ≤ s ∧ s ≤ 1152921504606846976) ∧ (1 ≤ l ∧ l ≤ 1099511627776) ∧ (1 ≤ d ∧ d ≤ 16) ∧ (1 ≤ c ∧ c ≤ 1024) := by
  unfold mayP
  simp only [Bool.and_eq_true, inP_iff]
theorem planL_length (s l d c : Int) : (planL s l d c).length = 4 := rfl
theorem planL_one (s l d c : Int) : ∀ v ∈ planL s l d c, v.oneCell' = true := by
  intro v hv; simp only [planL, List.mem_cons, List.not_mem_nil, or_false] at hv; rcases hv with rfl | rfl | rfl | rfl <;> rfl
theorem P_in (n a b : Int) (w : World) : Calls Tryz.prog 63 #[.int .i64 n, .int .i64 a, .int .i64 b] w fun e w' => e = .returned (.bool (inP n a b)) ∧ w = w' := by
  unfold inP
  by_cases h : a ≤ n
  · rw [decide_eq_true h, Bool.true_and]
    go_enter Tryz.func63, Tryz.ntmps63
    go_wp2
    go_ret
    exact ⟨rfl, rfl⟩
  · rw [decide_eq_false h, Bool.false_and]
    go_enter Tryz.func63, Tryz.ntmps63
    go_wp2
    go_ret
    exact ⟨rfl, rfl⟩
set_option maxHeartbeats 1000000 in
theorem P_May (s l d c : Int) (w : World) : Calls Tryz.prog 28 #[.agg (planL s l d c).toArray] w fun e w' => e = .returned (.bool (mayP s l d c)) ∧ Below w.heap.size w w' := by
  have c1 := kp (fun w' => P_in s (-1152921504606846976) 1152921504606846976 w')
  have c2 := kp (fun w' => P_in l 1 1099511627776 w')
  have c3 := kp (fun w' => P_in d 1 16 w')
  have c4 := kp (fun w' => P_in c 1 1024 w')
  unfold mayP
  have HB := kp (ba (Below.refl w.heap.size w) (.cells (planL s l d c).toArray 29))
  unfold planL at HB ⊢
  generalize inP s (-1152921504606846976) 1152921504606846976 = b1 at *
  generalize inP l 1 1099511627776 = b2 at *
  generalize inP d 1 16 = b3 at *
  generalize inP c 1 1024 = b4 at *
  cases b1
  · go_enter Tryz.func28, Tryz.ntmps28
    go_wp2_with fail
    refine (c1.out _).mono ?_
    rintro e w1 ⟨rfl, rfl⟩
    go_wp2
    go_ret
    exact ⟨rfl, HB.out⟩
  cases b2
  · go_enter Tryz.func28, Tryz.ntmps28
    go_wp2_with fail
    refine (c1.out _).mono ?_
    rintro e w1 ⟨rfl, rfl⟩
    go_wp2_with fail
    refine (c2.out _).mono ?_
    rintro e w1 ⟨rfl, rfl⟩
    go_wp2
    go_ret
    exact ⟨rfl, HB.out⟩
  cases b3
  · go_enter Tryz.func28, Tryz.ntmps28
    go_wp2_with fail
    refine (c1.out _).mono ?_
    rintro e w1 ⟨rfl, rfl⟩
    go_wp2_with fail
    refine (c2.out _).mono ?_
    rintro e w1 ⟨rfl, rfl⟩
    go_wp2_with fail
    refine (c3.out _).mono ?_
    rintro e w1 ⟨rfl, rfl⟩
    go_wp2
    go_ret
    exact ⟨rfl, HB.out⟩
  · go_enter Tryz.func28, Tryz.ntmps28
    go_wp2_with fail
    refine (c1.out _).mono ?_
    rintro e w1 ⟨rfl, rfl⟩
    go_wp2_with fail
    refine (c2.out _).mono ?_
    rintro e w1 ⟨rfl, rfl⟩
    go_wp2_with fail
    refine (c3.out _).mono ?_
    rintro e w1 ⟨rfl, rfl⟩
    go_wp2_with fail
    refine (c4.out _).mono ?_
    rintro e w1 ⟨rfl, rfl⟩
    go_wp2
    go_ret
    exact ⟨rfl, HB.out⟩
set_option maxHeartbeats 1000000 in
theorem P_begins (s l d c i : Int) (h1 : -9223372036854775808 ≤ (i - 1) * l) (h2 : (i - 1) * l < 9223372036854775808) (h3 : -9223372036854775808 ≤ s + (i - 1) * l) (h4 : s + (i - 1) * l < 9223372036854775808) (h5 : -9223372036854775808 ≤ i - 1) (h6 : i - 1 < 9223372036854775808) (w : World) : Calls Tryz.prog 80 #[.agg (planL s l d c).toArray, .int .i64 i] w fun e w' => e = .returned (.int .i64 (s + (i - 1) * l)) ∧ Below w.heap.size w w' := by
  have HB := kp (ba (Below.refl w.heap.size w) (.cells (planL s l d c).toArray 29))
  unfold planL at HB ⊢
  have e1 : wrap64 (i - 1) = i - 1 := IntWalk.wrap64_in _ (by omega)
  have hv := kp (show wrap64 (s + wrap64 ((i - 1) * l)) = s + (i - 1) * l by rw [IntWalk.wrap64_in _ (show _ ∧ _ from ⟨h1, by omega⟩), IntWalk.wrap64_in _ ⟨h3, by omega⟩])
  clear h1 h2 h3 h4 h5 h6
  go_enter Tryz.func80, Tryz.ntmps80
  go_wp2
  refine bodyPost_ret (v := .int .i64 (wrap64 (s + wrap64 ((i - 1) * l)))) ?_ rfl ⟨by rw [hv.out], HB.out⟩
  simp [results, Tryz.results80]
theorem beg_in {s l d c i : Int} (h : mayP s l d c = true) (h1 : 1 ≤ i) (h2 : i ≤ c + 1) : 0 ≤ (i - 1) * l ∧ (i - 1) * l ≤ 1125899906842624 := by
  rw [mayP_iff] at h
  obtain ⟨_, ⟨l1, l2⟩, _, c1, c2⟩ := h
  refine ⟨Int.mul_nonneg (by omega) (by omega), ?_⟩
  have := Int.mul_le_mul (show i - 1 ≤ 1024 by omega) l2 (by omega) (by omega)
  omega
theorem P_begins_may (s l d c i : Int) (h : mayP s l d c = true) (h1 : 1 ≤ i) (h2 : i ≤ c + 1) (w : World) : Calls Tryz.prog 80 #[.agg (planL s l d c).toArray, .int .i64 i] w fun e w' => e = .returned (.int .i64 (s + (i - 1) * l)) ∧ Below w.heap.size w w' := by
  have hb := beg_in h h1 h2
  have hm := mayP_iff.1 h
  exact P_begins s l d c i (by omega) (by omega) (by omega) (by omega) (by omega) (by omega) w
theorem info_plan : (Tryz.prog.info? 29).map (·.size) = some 4 := by kernel_rfl
/-- when an interval begins, or 0 and ErrArg -/
def beginsV (s l d c i : Int) : Value := if mayP s l d c = true ∧ 1 ≤ i ∧ i ≤ c + 1 then .tuple #[.int .i64 (s + (i - 1) * l), .int .i64 0] else .tuple #[.int .i64 0, .int .i64 1]
set_option maxHeartbeats 1000000 in
set_option maxRecDepth 100000 in
theorem P_Begins (s l d c i : Int) (w : World) : Calls Tryz.prog 41 #[.agg (planL s l d c).toArray, .int .i64 i] w fun e w' => e = .returned (beginsV s l d c i) ∧ Below w.heap.size w w' := by
  have cM := kp (fun w' => P_May s l d c w')
  have HB := kp (ba (Below.refl w.heap.size w) (.cells (planL s l d c).toArray 29))
  have HN := kp (Blk.new w 29 (planL s l d c).toArray)
  have hPl := planL_length s l d c
  have C3 : Kp ((planL s l d c)[3]? = some (.int .i64 c)) := kp rfl
  unfold beginsV
  cases hm : mayP s l d c with
  | false =>
    rw [if_neg (by simp)]
    rw [hm] at cM
    clear hm
    generalize planL s l d c = X at *
    go_enter Tryz.func41, Tryz.ntmps41
    have LX := ld_all (P := Tryz.prog) w.heap.size 4 29 29 X _ Tryz.underlying29 rfl info_plan hPl HN.out
    go_wp2_with (refine wpL_load rfl 29 _ rfl rfl LX ?_)
    refine (cM.out _).mono ?_
    rintro e w1 ⟨rfl, hb1⟩
    have HB1 := kp (bt' HB.out hb1 HB.out.size)
    clear hb1
    go_wp2

    go_ret2
    exact ⟨rfl, HB1.out⟩
  | true =>
    have hmm := mayP_iff.1 hm
    have e1 : wrap64 (c + 1) = c + 1 := IntWalk.wrap64_in _ (by omega)
    rw [hm] at cM
    have cB := kp (fun (h1 : 1 ≤ i) (h2 : i ≤ c + 1) w' => P_begins_may s l d c i hm h1 h2 w')
    clear hmm
    generalize planL s l d c = X at *
    by_cases h1 : i < 1
    · rw [if_neg (by omega)]
      go_enter Tryz.func41, Tryz.ntmps41
      have LX := ld_all (P := Tryz.prog) w.heap.size 4 29 29 X _ Tryz.underlying29 rfl info_plan hPl HN.out
      go_wp2_with (refine wpL_load rfl 29 _ rfl rfl LX ?_)
      refine (cM.out _).mono ?_
      rintro e w1 ⟨rfl, hb1⟩
      have HB1 := kp (bt' HB.out hb1 HB.out.size)
      clear hb1
      go_wp2
      go_ret2
      exact ⟨rfl, HB1.out⟩
    · by_cases h2 : c + 1 < i
      · rw [if_neg (by omega)]
        go_enter Tryz.func41, Tryz.ntmps41
        have LX := ld_all (P := Tryz.prog) w.heap.size 4 29 29 X _ Tryz.underlying29 rfl info_plan hPl HN.out
        go_wp2_with (refine wpL_load rfl 29 _ rfl rfl LX ?_)
        refine (cM.out _).mono ?_
        rintro e w1 ⟨rfl, hb1⟩
        have HB1 := kp (bt' HB.out hb1 HB.out.size)
        have x3 := (HN.out.bel hb1).atL C3.out
        have k1 := (HN.out.bel hb1).lt
        clear hb1
        go_wp2
        go_ret2
        exact ⟨rfl, HB1.out⟩
      · rw [if_pos ⟨rfl, by omega, by omega⟩]
        go_enter Tryz.func41, Tryz.ntmps41
        have LX := ld_all (P := Tryz.prog) w.heap.size 4 29 29 X _ Tryz.underlying29 rfl info_plan hPl HN.out
        go_wp2_with (refine wpL_load rfl 29 _ rfl rfl LX ?_)
        refine (cM.out _).mono ?_
        rintro e w1 ⟨rfl, hb1⟩
        have HB1 := kp (bt' HB.out hb1 HB.out.size)
        have HN1 := kp (HN.out.bel hb1)
        have x3 := HN1.out.atL C3.out
        have k1 := HN1.out.lt
        have LX1 := ld_all (P := Tryz.prog) w.heap.size 4 29 29 X _ Tryz.underlying29 rfl info_plan hPl HN1.out
        clear hb1
        go_wp2_with (refine wpL_load rfl 29 _ rfl rfl LX1 ?_)
        refine (cB.out (by omega) (by omega) _).mono ?_
        rintro e w2 ⟨rfl, hb2⟩
        have HB2 := kp (bt' HB1.out hb2 HB1.out.size)
        clear hb2
        go_wp2
        go_ret2
        exact ⟨rfl, HB2.out⟩
end Go.Proofs.YtmblknknbbdmeaaGreat
/- plan: Tells, End, Then, At, of a plan that may be. -/
namespace Go.Proofs.YtmblknknbbdmeaaGreat
open Go Go.RowKit
set_option linter.unusedVariables false
set_option linter.unusedSimpArgs false
attribute [local go_sem] bmax2 bmin2 bmax bmin cell_ext frozen_ext

def tellsP (d c i : Int) : Int := if 1 ≤ i ∧ i ≤ c + d then max (i - d) 0 else 0
set_option maxHeartbeats 1000000 in
set_option maxRecDepth 100000 in
theorem P_Tells (s l d c i : Int) (hm : mayP s l d c = true) (w : World) : Calls Tryz.prog 59 #[.agg (planL s l d c).toArray, .int .i64 i] w fun e w' => e = .returned (.int .i64 (tellsP d c i)) ∧ Below w.heap.size w w' := by
  have cM := kp (fun w' => P_May s l d c w')
  have HB := kp (ba (Below.refl w.heap.size w) (.cells (planL s l d c).toArray 29))
  have HN := kp (Blk.new w 29 (planL s l d c).toArray)
  have hPl := planL_length s l d c
  have C2 : Kp ((planL s l d c)[2]? = some (.int .i64 d)) := kp rfl
  have C3 : Kp ((planL s l d c)[3]? = some (.int .i64 c)) := kp rfl
  unfold tellsP
  have hmm := mayP_iff.1 hm
  rw [hm] at cM
  clear hm
  have e1 : wrap64 (c + d) = c + d := IntWalk.wrap64_in _ (by omega)
  generalize planL s l d c = X at *
  by_cases h1 : i < 1
  · rw [if_neg (by omega)]
    clear hmm
    go_enter Tryz.func59, Tryz.ntmps59
    have LX := ld_all (P := Tryz.prog) w.heap.size 4 29 29 X _ Tryz.underlying29 rfl info_plan hPl HN.out
    go_wp2_with (refine wpL_load rfl 29 _ rfl rfl LX ?_)
    refine (cM.out _).mono ?_
    rintro e w1 ⟨rfl, hb1⟩
    have HB1 := kp (bt' HB.out hb1 HB.out.size)
    clear hb1
    go_wp2
    go_ret
    exact ⟨rfl, HB1.out⟩
  · by_cases h2 : c + d < i
    · rw [if_neg (by omega)]
      clear hmm
      go_enter Tryz.func59, Tryz.ntmps59
      have LX := ld_all (P := Tryz.prog) w.heap.size 4 29 29 X _ Tryz.underlying29 rfl info_plan hPl HN.out
      go_wp2_with (refine wpL_load rfl 29 _ rfl rfl LX ?_)
      refine (cM.out _).mono ?_
      rintro e w1 ⟨rfl, hb1⟩
      have HB1 := kp (bt' HB.out hb1 HB.out.size)
      have x2 := (HN.out.bel hb1).atL C2.out
      have x3 := (HN.out.bel hb1).atL C3.out
      have k1 := (HN.out.bel hb1).lt
      clear hb1
      go_wp2
      go_ret
      exact ⟨rfl, HB1.out⟩
    · rw [if_pos (by omega)]
      have e2 : wrap64 (i - d) = i - d := IntWalk.wrap64_in _ (by omega)
      clear hmm
      go_enter Tryz.func59, Tryz.ntmps59
      have LX := ld_all (P := Tryz.prog) w.heap.size 4 29 29 X _ Tryz.underlying29 rfl info_plan hPl HN.out
      go_wp2_with (refine wpL_load rfl 29 _ rfl rfl LX ?_)
      refine (cM.out _).mono ?_
      rintro e w1 ⟨rfl, hb1⟩
      have HB1 := kp (bt' HB.out hb1 HB.out.size)
      have x2 := (HN.out.bel hb1).atL C2.out
      have x3 := (HN.out.bel hb1).atL C3.out
      have k1 := (HN.out.bel hb1).lt
      clear hb1
      go_wp2
      go_ret
      exact ⟨rfl, HB1.out⟩
def thenV (s l d c : Int) : Value := if 1152921504606846976 < s + c * l then .tuple #[.agg (planL 0 0 0 0).toArray, .int .i64 6] else .tuple #[.agg (planL (s + c * l) l d c).toArray, .int .i64 0]
end Go.Proofs.YtmblknknbbdmeaaGreat
