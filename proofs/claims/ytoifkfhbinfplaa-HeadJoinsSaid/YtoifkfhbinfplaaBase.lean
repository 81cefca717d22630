/- Regions that draw their order, in a class of worlds; worlds that differ from one by what was made since. -/
import Derived.StillTail
import Derived.Deep.Quiet
import Derived.BigQuiet
import Derived.WalkKit
import Derived.WalkSpells
import Derived.WalkLawsBesides
import Derived.Deep.LoopGhost
import Derived.Deep.DeepCutAuto
import Derived.Deep.DeepFit
import Derived.KernelRfl
namespace Go.Proofs.Ytoifkfhbinfplaa
open Go Go.RowKit
set_option linter.unusedVariables false
set_option linter.unusedSimpArgs false

/-- 'max' and 'min' of two whole numbers, kept as they are. -/
theorem bmax2 (k k' : IntKind) (x y : Int) : Builtin.max2 (.int k x) (.int k' y) = pure (.int k (max x y)) := by
  simp only [Builtin.max2, gt_iff_lt]; congr 2; omega
theorem bmin2 (k k' : IntKind) (x y : Int) : Builtin.min2 (.int k x) (.int k' y) = pure (.int k (min x y)) := by
  simp only [Builtin.min2]; congr 2; omega
theorem bmax (ats : Array TypeId) (ty : TypeId) (a b : Value) : Builtin.max_ ats ty #[a, b] = (Builtin.max2 a b >>= fun s => pure s) := by simp only [Builtin.max_, List.foldlM_cons, List.foldlM_nil]
theorem bmin (ats : Array TypeId) (ty : TypeId) (a b : Value) : Builtin.min_ ats ty #[a, b] = (Builtin.min2 a b >>= fun s => pure s) := by simp only [Builtin.min_, List.foldlM_cons, List.foldlM_nil]

theorem hid {p : Prop} (h : p) : RowKit.Hid p := h
/-- a fact put away for good: nothing sees through it -/
structure Kp (p : Prop) : Prop where
  out : p
theorem kp {p : Prop} (h : p) : Kp p := ⟨h⟩

/-! ### A region in three parts: plain operations, taken first; quiet ones, in whatever order; a tail in its one order -/
section
variable {P : Program} {ops : Array Oper} {md : Region.Mode} {C : World → Prop}

/-- Operations that look at no memory and call nothing. -/
def plainB : Op → Bool
  | .move _ | .assign _ | .pick .. | .binOp .. | .unOp .. | .convert .. | .slice .. | .fieldAddr .. | .field .. | .indexAddr .. | .index .. | .extract .. => true
  | _ => false

theorem bind_value {α : Type} {s : Sem α} {f : α → Value} {w w' : World} {n : Next} (h : (s >>= fun x => pure (Next.value (f x)) : Sem Next).run P w = .ok n w') : ∃ v, n = .value v := by
  have h2 : (s.run P w).andThen (fun a w' => .ok (.value (f a)) w') = .ok n w' := by simpa using h
  cases hr : s.run P w with
  | ok a w1 => rw [hr] at h2; simp [Result.andThen] at h2; exact ⟨f a, h2.1.symm⟩
  | halt x w1 => rw [hr] at h2; simp [Result.andThen] at h2

theorem plain_value {o : Oper} (hp : plainB o.op = true) {ρ : Operand → Value} {w w' : World} {n : Next} (h : (execOp ρ o).run P w = .ok n w') : ∃ v, n = .value v := by
  unfold execOp at h
  cases ho : o.op <;> rw [ho] at hp h <;> first
    | (simp [plainB] at hp; done)
    | exact bind_value h
    | exact bind_value (f := fun x => x) h
    | (simp at h; exact ⟨_, h.1.symm⟩)

theorem yields_of_quiet {o : Oper} {v : Value} {a : Act} (hp : plainB o.op = true) (hy : YieldsIn P ops (fun _ => True) o v a) : Yields P ops o v a := by
  rcases hy with ⟨hw, hq⟩ | ⟨hw, rfl⟩
  · refine .inl ⟨hw, fun w => ?_⟩
    have h := hq w trivial
    unfold Oper.quietAt at h
    cases hr : (execOp a.eval o).run P w with
    | halt x w' => rw [hr] at h; simp [Oper.quietUpon] at h
    | ok n w' =>
      obtain ⟨u, rfl⟩ := plain_value hp hr
      rw [hr] at h
      simp only [Oper.quietUpon] at h
      rw [h.1, h.2]
  · exact .inr ⟨hw, rfl⟩

/-- The operations of a list of numbers. -/
def selOps (ops : Array Oper) (is : List Nat) : List Oper := is.map fun i => ops.getD i default

/-- 'p' may be taken first, one after another; then 'k' of what is listed. -/
def Region.pureB (md : Region.Mode) (ops : Array Oper) (k : Array Bool → Bool) : List Nat → Array Bool → Bool
  | [], listed => k listed
  | i :: is, listed => decide (i < ops.size) && (Region.ready md ops listed).contains i && Region.free md ops listed i && plainB (ops.getD i default).op && Region.pureB md ops k is (listed.setIfInBounds i true)

theorem getD_some {i : Nat} (h : i < ops.size) : ops[i]? = some (ops.getD i default) := by simp [h]

theorem wpAny_pure {Q : Exit → Act → World → Prop} {Lq : Act → Prop} {k : Array Bool → Bool} {g : Nat} (hsel : Region.noSelect ops = true)
    (hQ : ∀ c (a : Act) d v w, Q (.panic c) (a.put d v) w → Q (.panic c) a w) {w : World} (hL : ∀ listed a, k listed = true → Lq a → wpAny P md ops Q g listed a w) :
    ∀ (p : List Nat) (listed : Array Bool) (a : Act), Region.pureB md ops k p listed = true → wpQuiet P ops (fun _ => True) Lq (selOps ops p) a → wpAny P md ops Q (p.length + g) listed a w
  | [], listed, a, hB, h => by
    rw [List.length_nil, Nat.zero_add]
    exact hL _ _ hB h
  | i :: p, listed, a, hB, h => by
    simp only [Region.pureB, Bool.and_eq_true, decide_eq_true_eq] at hB
    obtain ⟨⟨⟨⟨hi, hr⟩, hf⟩, hp⟩, hB'⟩ := hB
    have h0 := getD_some hi
    have hq : qOp P ops (fun _ => True) i (wpQuiet P ops (fun _ => True) Lq (selOps ops p)) a := by unfold qOp; simp only [h0]; exact h
    obtain ⟨v, hy, hK⟩ := yieldsIn_of_qOp h0 hq
    have e : (i :: p).length + g = (p.length + g) + 1 := by simp; omega
    rw [e]
    exact wpAny_take h0 hsel hf hr (fun c a w => hQ c a _ v w) (yields_of_quiet hp hy) (wpAny_pure hsel hQ hL p _ _ hB' hK)

/-- Of the order 'ord' the first n may come in whatever order; each of these is waited for by a later one, up to the n-th; each behind the n-th waits for the one ahead. -/
def Region.sinkI (md : Region.Mode) (ops : Array Oper) (ord : List Nat) (n : Nat) : Bool :=
  (List.range n).all fun x => (List.range (n + 1)).any fun y => decide (x < y) && Region.waitsFor md ops (ord.getD y 0) (ord.getD x 0)
def Region.chainI (md : Region.Mode) (ops : Array Oper) (ord : List Nat) (n : Nat) : Bool :=
  (List.range ord.length).all fun y => decide (y ≤ n) || Region.waitsFor md ops (ord.getD y 0) (ord.getD (y - 1) 0)
/-- Every one that is not listed stands in the order. -/
def Region.allI (ops : Array Oper) (ord : List Nat) (listed : Array Bool) : Bool :=
  (List.range ops.size).all fun i => listed.getD i true || ord.contains i
def Region.inI (ops : Array Oper) (ord : List Nat) (listed : Array Bool) : Bool := ord.all fun i => decide (i < ops.size) && !listed.getD i true
def Region.closedI (md : Region.Mode) (ops : Array Oper) (listed : Array Bool) : Bool :=
  (List.range ops.size).all fun j => !listed.getD j false || (ops.getD j default).after.all fun e => !Region.binds md e || listed.getD e.on false

structure HeadI (md : Region.Mode) (ops : Array Oper) (ord : List Nat) (n : Nat) (listed : Array Bool) : Prop where
  size : listed.size = ops.size
  closed : ∀ j oj, ops[j]? = some oj → listed.getD j false = true → ∀ e ∈ oj.after, Region.binds md e = true → listed.getD e.on false = true
  all : ∀ i, i < ops.size → listed.getD i true = false → ∃ x, x < ord.length ∧ ord.getD x 0 = i
  tail : ∀ y, n ≤ y → y < ord.length → listed.getD (ord.getD y 0) true = false
  inb : ∀ y, y < ord.length → ord.getD y 0 < ops.size

theorem HeadI.set {ord : List Nat} {n x : Nat} {listed : Array Bool} (inv : HeadI md ops ord n listed) (hnd : ord.Nodup) (hx : x < ord.length) (hi : ord.getD x 0 ∈ Region.ready md ops listed) (hxn : x < n) : HeadI md ops ord n (listed.setIfInBounds (ord.getD x 0) true) := by
  obtain ⟨_, oi, hoi, hall⟩ := mem_ready.1 hi
  refine ⟨by simp [inv.size], fun j oj hj hl e he hb => ?_, fun i hi hl => ?_, fun y hy hyl => ?_, inv.inb⟩
  · by_cases hij : ord.getD x 0 = j
    · subst hij
      have : oj = oi := Option.some.inj (hj.symm.trans hoi)
      subst this
      exact getD_set_true (hall e he hb)
    · rw [getD_set_ne false hij] at hl
      exact getD_set_true (inv.closed j oj hj hl e he hb)
  · by_cases hij : ord.getD x 0 = i
    · exact ⟨x, hx, hij⟩
    · rw [getD_set_ne true hij] at hl
      exact inv.all i hi hl
  · have hne : ord.getD x 0 ≠ ord.getD y 0 := by
      intro h
      simp only [List.getD_eq_getElem?_getD, List.getElem?_eq_getElem hx, List.getElem?_eq_getElem hyl, Option.getD_some] at h
      have := (List.getElem_inj hnd).1 h
      omega
    rw [getD_set_ne true hne]
    exact inv.tail y hy hyl

theorem tail_waitsI {ord : List Nat} {n : Nat} {listed : Array Bool} (hs : Region.sinkI md ops ord n = true) (hc : Region.chainI md ops ord n = true) (hn : n < ord.length) (inv : HeadI md ops ord n listed) :
    ∀ (d x : Nat), n - x = d → x < n → listed.getD (ord.getD x 0) true = false → ∀ y, n ≤ y → y < ord.length → ord.getD y 0 ∉ Region.ready md ops listed := by
  intro d
  induction d using Nat.strongRecOn with
  | _ d ih =>
    intro x hd hx hun y hy hyl hr
    obtain ⟨_, ot, hot, hall⟩ := mem_ready.1 hr
    by_cases hyn : y = n
    · subst hyn
      have h1 := List.all_eq_true.1 hs x (List.mem_range.2 hx)
      obtain ⟨z, hz, hz2⟩ := List.any_eq_true.1 h1
      simp only [Bool.and_eq_true, decide_eq_true_eq] at hz2
      obtain ⟨oj, hoj, e, he, hb, hon⟩ := Region.waitsFor_spec hz2.2
      have hzle : z ≤ y := by have := List.mem_range.1 hz; omega
      by_cases hzy : z = y
      · subst hzy
        have : oj = ot := Option.some.inj (hoj.symm.trans hot)
        subst this
        have h2 := hall e he hb
        rw [hon, getD_both hun] at h2
        cases h2
      · cases hl : listed.getD (ord.getD z 0) false with
        | true =>
          have h2 := inv.closed _ oj hoj hl e he hb
          rw [hon, getD_both hun] at h2
          cases h2
        | false =>
          have hjs : ord.getD z 0 < listed.size := by rw [inv.size]; exact inv.inb z (by omega)
          exact ih (y - z) (by omega) z rfl (by omega) (getD_in hjs hl) y (Nat.le_refl _) hyl hr
    · have h1 := List.all_eq_true.1 hc y (List.mem_range.2 hyl)
      simp only [Bool.or_eq_true, decide_eq_true_eq] at h1
      rcases h1 with h1 | h1
      · omega
      · obtain ⟨o', ho', e, he, hb, hon⟩ := Region.waitsFor_spec h1
        have : o' = ot := Option.some.inj (ho'.symm.trans hot)
        subst this
        have h2 := hall e he hb
        rw [hon, getD_both (inv.tail (y - 1) (by omega) (by omega))] at h2
        cases h2

def wpAnyLC (P : Program) (md : Region.Mode) (ops : Array Oper) (C : World → Prop) (L : Array Bool → Act → Prop) : Nat → Array Bool → Act → Prop
  | 0, listed, a => L listed a
  | f + 1, listed, a =>
    Region.ready md ops listed ≠ [] ∧ ∀ i ∈ Region.ready md ops listed, qOp P ops C i (wpAnyLC P md ops C L f (listed.setIfInBounds i true)) a

theorem wpAnyC_of_head {g : Nat} {L : Array Bool → Act → Prop} {Q' : Exit → Act → World → Prop} (hL : ∀ listed a w, C w → L listed a → wpAny P md ops Q' g listed a w) :
    ∀ (f : Nat) (listed : Array Bool) (a : Act) (w : World), C w → wpAnyLC P md ops C L f listed a → wpAny P md ops Q' (f + g) listed a w
  | 0, listed, a, w, hw, h => by rw [Nat.zero_add]; exact hL _ _ _ hw h
  | f + 1, listed, a, w, hw, h => by
    rw [show f + 1 + g = (f + g) + 1 by omega]
    exact ⟨fun h0 => absurd h0 h.1, fun i hi => wpOp_of_qOp hw (fun a' w' hw' h' => wpAnyC_of_head hL f _ a' w' hw' h') (h.2 i hi)⟩

theorem wpAnyLC_first {ord : List Nat} {n x : Nat} {oi : Oper} {v : Value} {L : Array Bool → Act → Prop} (hnd : ord.Nodup) (hx : x < n) (hi : ops[ord.getD x 0]? = some oi) (hsel : ∀ (j : Nat) (o : Oper) cs b, ops[j]? = some o → o.op ≠ .select cs b)
    (hs : Region.sinkI md ops ord n = true) (hc : Region.chainI md ops ord n = true) (hn : n < ord.length)
    (hdone : ∀ listed a, L listed a → ∀ j ∈ Region.ready md ops listed, ∀ y, y < n → ord.getD y 0 ≠ j) :
    ∀ (f : Nat) (listed : Array Bool) (a : Act), HeadI md ops ord n listed →
      (∀ j oj, ops[j]? = some oj → j ≠ ord.getD x 0 → listed.getD j true = false → (∀ e ∈ oj.after, Region.binds md e = true → e.on ≠ ord.getD x 0) → oi.apart ops oj = true) →
      ord.getD x 0 ∈ Region.ready md ops listed → YieldsIn P ops C oi v a →
      wpAnyLC P md ops C L f (listed.setIfInBounds (ord.getD x 0) true) (a.put oi.dst v) → wpAnyLC P md ops C L (f + 1) listed a := by
  intro f
  have inHead : ∀ (listed : Array Bool), HeadI md ops ord n listed → listed.getD (ord.getD x 0) true = false → ∀ j ∈ Region.ready md ops listed, ∃ y, y < n ∧ ord.getD y 0 = j := by
    intro listed inv hun j hj
    obtain ⟨hjun, oj, hoj, _⟩ := mem_ready.1 hj
    obtain ⟨y, hyl, hy⟩ := inv.all j (Array.getElem?_eq_some_iff.1 hoj).1 hjun
    rcases Nat.lt_or_ge y n with h | h
    · exact ⟨y, h, hy⟩
    · exact absurd (hy ▸ hj) (tail_waitsI hs hc hn inv _ x rfl hx hun y h hyl)
  induction f with
  | zero =>
    intro listed a inv _ hr hy H
    have hun := (mem_ready.1 hr).1
    refine ⟨fun h => (by rw [h] at hr; cases hr), fun j hj => ?_⟩
    obtain ⟨y, hyn, hyj⟩ := inHead listed inv hun j hj
    by_cases hji : j = ord.getD x 0
    · subst hji; exact hy.qOp hi H
    · exact absurd hyj (hdone _ _ H j (ready_mono hj hji) y hyn)
  | succ f ih =>
    intro listed a inv hfree hr hy H
    have hun := (mem_ready.1 hr).1
    refine ⟨fun h => (by rw [h] at hr; cases hr), fun j hj => ?_⟩
    obtain ⟨y, hyn, hyj⟩ := inHead listed inv hun j hj
    by_cases hji : j = ord.getD x 0
    · subst hji; exact hy.qOp hi H
    · have h1 := H.2 j (ready_mono hj hji)
      obtain ⟨hjun, oj, hoj, hall⟩ := mem_ready.1 hj
      have hnot : ∀ e ∈ oj.after, Region.binds md e = true → e.on ≠ ord.getD x 0 := fun e he hb heq => by
        have h1 := hall e he hb
        rw [heq, getD_both hun] at h1
        cases h1
      have h2 := qOp_put hoj (hfree j oj hoj hji hjun hnot) (fun cs b => hsel _ oi cs b hi) (fun cs b => hsel j oj cs b hoj) hy h1
      have hfree' : ∀ k ok, ops[k]? = some ok → k ≠ ord.getD x 0 → (listed.setIfInBounds j true).getD k true = false →
          (∀ e ∈ ok.after, Region.binds md e = true → e.on ≠ ord.getD x 0) → oi.apart ops ok = true := fun k ok hk hki hun hno => by
        refine hfree k ok hk hki ?_ hno
        by_cases hjk : j = k
        · subst hjk; exact hjun
        · rw [getD_set_ne true hjk] at hun; exact hun
      subst hyj
      refine qOp_mono (fun a' h3 => ih (listed.setIfInBounds (ord.getD y 0) true) a' (inv.set hnd (by omega) hj hyn) hfree' (ready_mono hr (Ne.symm hji)) h3.1 ?_) h2
      rw [Array.setIfInBounds_comm _ _ hji]
      exact h3.2

/-- The tail: one alone may come up, each time. -/
def Region.seqI (md : Region.Mode) (ops : Array Oper) : List Nat → Array Bool → Bool
  | [], listed => (Region.ready md ops listed).isEmpty
  | k :: t, listed => decide (Region.ready md ops listed = [k]) && Region.seqI md ops t (listed.setIfInBounds k true)

theorem wpAny_of_seqI {Q' : Exit → Act → World → Prop} : ∀ (t : List Nat) (listed : Array Bool) (a : Act) (w : World), (∀ i ∈ t, i < ops.size) →
    Region.seqI md ops t listed = true → wpList P ops Q' (selOps ops t) a w → wpAny P md ops Q' t.length listed a w
  | [], _, _, _, _, hB, h => ⟨by simpa [Region.seqI] using hB, h⟩
  | k :: t, listed, a, w, hl, hB, h => by
    have h0 := getD_some (hl k (by simp))
    simp only [Region.seqI, Bool.and_eq_true, decide_eq_true_eq] at hB
    refine ⟨fun h1 => (by rw [hB.1] at h1; cases h1), fun i hi => ?_⟩
    rw [hB.1] at hi
    have hik : i = k := by simpa using hi
    subst hik
    have hw : wpOp P ops Q' i (wpList P ops Q' (selOps ops t)) a w := by unfold wpOp; simp only [h0]; exact h
    exact wpOp_mono (fun a' w' h' => wpAny_of_seqI t _ a' w' (fun j hj => hl j (by simp [hj])) hB.2 h') hw

def Region.headI (md : Region.Mode) (ops : Array Oper) (t : List Nat) : List Nat → Array Bool → Bool
  | [], listed => Region.seqI md ops t listed
  | i :: h, listed => (Region.ready md ops listed).contains i && Region.free md ops listed i && Region.headI md ops t h (listed.setIfInBounds i true)

theorem seqI_ready {t : List Nat} {listed : Array Bool} (h : Region.seqI md ops t listed = true) : ∀ j ∈ Region.ready md ops listed, j ∈ t := by
  cases t with
  | nil => intro j hj; simp only [Region.seqI, List.isEmpty_iff] at h; rw [h] at hj; cases hj
  | cons k t =>
    intro j hj
    simp only [Region.seqI, Bool.and_eq_true, decide_eq_true_eq] at h
    rw [h.1] at hj
    have : j = k := by simpa using hj
    simp [this]

theorem wpAnyLC_lex {t : List Nat} {Lq : Act → Prop} {ord : List Nat} {n : Nat} (hnd : ord.Nodup) (hsel : Region.noSelect ops = true) (hs : Region.sinkI md ops ord n = true) (hc : Region.chainI md ops ord n = true) (hn : n < ord.length)
    (ht : ∀ y, y < n → ord.getD y 0 ∉ t) :
    ∀ (h : List Nat) (k : Nat) (listed : Array Bool) (a : Act), (∀ j, j < h.length → ord.getD (k + j) 0 = h.getD j 0) → k + h.length = n → HeadI md ops ord n listed →
    Region.headI md ops t h listed = true → wpQuiet P ops C Lq (selOps ops h) a →
    wpAnyLC P md ops C (fun listed' a' => Region.seqI md ops t listed' = true ∧ Lq a') h.length listed a
  | [], k, listed, a, _, hk, _, hB, h => ⟨by simpa [Region.headI] using hB, h⟩
  | i :: hd, k, listed, a, hl, hk, inv, hB, h => by
    simp only [List.length_cons] at hk
    have hki : ord.getD k 0 = i := by simpa using hl 0 (by simp)
    have hkn : k < n := by omega
    have h0 : ops[i]? = some (ops.getD i default) := getD_some (hki ▸ inv.inb k (by omega))
    simp only [Region.headI, Bool.and_eq_true] at hB
    obtain ⟨⟨hr, hf⟩, hB'⟩ := hB
    have hr' : i ∈ Region.ready md ops listed := by simpa using hr
    have hst : qOp P ops C i (wpQuiet P ops C Lq (selOps ops hd)) a := by unfold qOp; simp only [h0]; exact h
    obtain ⟨v, hy, hK⟩ := yieldsIn_of_qOp h0 hst
    subst hki
    exact wpAnyLC_first hnd hkn h0 (Region.noSelect_spec hsel) hs hc hn (fun listed' a' hL j hj y hy e => ht y hy (e ▸ seqI_ready hL.1 j hj)) hd.length listed a inv (Region.free_spec h0 hf) hr' hy
      (wpAnyLC_lex hnd hsel hs hc hn ht hd (k + 1) _ _ (fun j hj => by
        have := hl (j + 1) (by simp; omega)
        rw [show k + 1 + j = k + (j + 1) by omega, this]; simp) (by omega) (inv.set hnd (by omega) hr' hkn) hB' hK)

theorem putPanic {R : Ending → World → Prop} {fn : Func} : ∀ c (a : Act) (d : Option Tmp) v w, bodyPost P fn R (.panic c) (a.put d v) w → bodyPost P fn R (.panic c) a w := by
  intro c a d v w h; cases d <;> exact h

/-- The closed fact of a plan. -/
def Region.planB (md : Region.Mode) (ops : Array Oper) (p h t : List Nat) : Bool :=
  Region.noSelect ops && decide (h ++ t).Nodup && decide (0 < t.length) && (h.all fun i => !t.contains i) && decide (p.length + (h.length + t.length) = ops.size) &&
  Region.sinkI md ops (h ++ t) h.length && Region.chainI md ops (h ++ t) h.length &&
  Region.pureB md ops (fun listed => decide (listed.size = ops.size) && Region.closedI md ops listed && Region.allI ops (h ++ t) listed && Region.inI ops (h ++ t) listed && Region.headI md ops t h listed) p (Array.replicate ops.size false)

/-- **A region in three parts**: 'p' plain operations, taken first; 'h' quiet in the class 'C', in whatever order; 't' in its order, from any world of the class. -/
theorem wp_region_plan {id : Nat} {Q : Exit → Act → World → Prop} {a : Act} {w : World} (p h t : List Nat) (hm : P.follows .mixedOrders = true) (hB : Region.planB .any ops p h t = true)
    (hQ : ∀ c (a : Act) d v w, Q (.panic c) (a.put d v) w → Q (.panic c) a w) (hC : C w.drew)
    (H : wpQuiet P ops (fun _ => True) (fun a1 => wpQuiet P ops C (fun a2 => ∀ w', C w' → wpList P ops Q (selOps ops t) a2 w') (selOps ops h) a1) (selOps ops p) a) :
    (Code.region id ops true).wp P Q a w := by
  simp only [Region.planB, Bool.and_eq_true, decide_eq_true_eq] at hB
  obtain ⟨⟨⟨⟨⟨⟨⟨hsel, hnd⟩, ht0⟩, hdis⟩, hlen⟩, hs⟩, hc⟩, hpure⟩ := hB
  refine wp_region_any hm ?_
  have key := wpAny_pure (P := P) (md := .any) (Q := Q) (g := h.length + t.length) (w := w.drew) hsel hQ (Lq := fun a1 => wpQuiet P ops C (fun a2 => ∀ w', C w' → wpList P ops Q (selOps ops t) a2 w') (selOps ops h) a1)
    (k := fun listed => decide (listed.size = ops.size) && Region.closedI .any ops listed && Region.allI ops (h ++ t) listed && Region.inI ops (h ++ t) listed && Region.headI .any ops t h listed)
    (fun listed a1 hk hq => by
      simp only [Bool.and_eq_true, decide_eq_true_eq] at hk
      obtain ⟨⟨⟨⟨hsz, hcl⟩, hall⟩, hin⟩, hhead⟩ := hk
      have hin' : ∀ y, y < (h ++ t).length → (h ++ t).getD y 0 < ops.size ∧ listed.getD ((h ++ t).getD y 0) true = false := by
        intro y hy
        have := List.all_eq_true.1 hin ((h ++ t).getD y 0) (by
          rw [List.getD_eq_getElem?_getD, List.getElem?_eq_getElem hy]; exact List.getElem_mem _)
        simpa using this
      have inv : HeadI .any ops (h ++ t) h.length listed :=
        ⟨hsz, fun j oj hj hl e he hb => by
            have hjs := (Array.getElem?_eq_some_iff.1 hj).1
            have := List.all_eq_true.1 hcl j (List.mem_range.2 hjs)
            have e1 : ops.getD j default = oj := by simp [Array.getD, hjs]; exact (Array.getElem?_eq_some_iff.1 hj).2
            rw [e1, hl] at this
            simp only [Bool.not_true, Bool.false_or] at this
            have := Array.all_eq_true'.1 this e he
            rw [hb] at this
            simpa using this,
          fun i hi hl => by
            have := List.all_eq_true.1 hall i (List.mem_range.2 hi)
            rw [hl] at this
            simp only [Bool.false_or, List.contains_eq_mem, decide_eq_true_eq] at this
            obtain ⟨x, hx, he⟩ := List.mem_iff_getElem.1 this
            exact ⟨x, hx, by rw [List.getD_eq_getElem?_getD, List.getElem?_eq_getElem hx]; exact he⟩,
          fun y hy hyl => (hin' y hyl).2, fun y hy => (hin' y hy).1⟩
      have hn : h.length < (h ++ t).length := by rw [List.length_append]; omega
      have H2 := wpAnyLC_lex (P := P) (C := C) (md := .any) (t := t) (ord := h ++ t) (n := h.length) hnd hsel hs hc hn (fun y hy hyt => by
        have e1 : (h ++ t).getD y 0 = h[y] := by rw [List.getD_eq_getElem?_getD, List.getElem?_append_left hy, List.getElem?_eq_getElem hy]; rfl
        rw [e1] at hyt
        have := List.all_eq_true.1 hdis h[y] (List.getElem_mem _)
        simp [hyt] at this) h 0 listed a1 (fun j hj => by
          simp only [Nat.zero_add, List.getD_eq_getElem?_getD]
          rw [List.getElem?_append_left hj]) (by omega) inv hhead hq
      exact wpAnyC_of_head (Q' := Q) (g := t.length) (fun listed' a' w' hw' hL => wpAny_of_seqI t listed' a' w' (fun i hi => by
        obtain ⟨x, hx, he⟩ := List.mem_iff_getElem.1 hi
        have := inv.inb (h.length + x) (by rw [List.length_append]; omega)
        rw [List.getD_eq_getElem?_getD, List.getElem?_append_right (by omega), show h.length + x - h.length = x by omega, List.getElem?_eq_getElem hx] at this
        rw [← he]; exact this) hL.1 (hL.2 w' hw')) _ _ _ _ hC H2)
    p (Array.replicate ops.size false) a hpure H
  rw [hlen] at key
  exact key

/-- .. whose operations are written out. -/
theorem wp_region_plan_lit {id : Nat} {Q : Exit → Act → World → Prop} {a : Act} {w : World} {l : List Oper} (p h t : List Nat) (hm : P.follows .mixedOrders = true) (hB : Region.planB .any l.toArray p h t = true)
    (hQ : ∀ c (a : Act) d v w, Q (.panic c) (a.put d v) w → Q (.panic c) a w) (hC : C w.drew)
    (H : wpQuiet P l.toArray (fun _ => True) (fun a1 => wpQuiet P l.toArray C (fun a2 => ∀ w', C w' → wpList P l.toArray Q (t.map (l.getD · default)) a2 w') (h.map (l.getD · default)) a1) (p.map (l.getD · default)) a) :
    (Code.region id l.toArray true).wp P Q a w := by
  have e : ∀ is, selOps l.toArray is = is.map (l.getD · default) := fun is => by
    unfold selOps
    apply List.map_congr_left
    intro i _
    simp [Array.getD, List.getD_eq_getElem?_getD]
    split <;> rename_i h
    · rw [List.getElem?_eq_getElem h]; rfl
    · rw [List.getElem?_eq_none (by omega)]; rfl
  exact wp_region_plan p h t hm hB hQ hC (by rw [e, e, e]; exact H)
end

/-! ### Chains of 'Below' -/
theorem bt {a b c : World} (h : Below a.heap.size a b) (k : Below b.heap.size b c) : Below a.heap.size a c := h.trans (k.mono h.size)
theorem bd {B : Nat} {a b : World} (h : Below B a b) (n : Nat) : Below B a (b.drewN n) := below_drewN h n
theorem ba {a b : World} (h : Below a.heap.size a b) (o : Obj) : Below a.heap.size a (b.alloc o) := h.alloc h.size o

theorem bt' {B : Nat} {a b c : World} (h : Below B a b) (k : Below b.heap.size b c) (hB : B ≤ b.heap.size := by omega) : Below B a c := h.trans (k.mono hB)

/-! ### A world with more in it -/
open Classical in
/-- 'x', if it is 'w' with new blocks behind; else 'w'. -/
noncomputable def _root_.Go.World.ext (w x : World) : World := if Below w.heap.size w x then x else w

theorem ext_below (w x : World) : Below w.heap.size w (w.ext x) := by
  unfold World.ext; split
  · assumption
  · exact Below.refl _ _
theorem ext_of {w x : World} (h : Below w.heap.size w x) : w.ext x = x := if_pos h
theorem cell_ext (w x : World) (b o : Nat) (h : b < w.heap.size) : (w.ext x).cell? ⟨b, o, none⟩ = w.cell? ⟨b, o, none⟩ := (ext_below w x).cell (p := ⟨b, o, none⟩) h
theorem frozen_ext (w x : World) (b o : Nat) (h : b < w.heap.size) : (w.ext x).frozen? ⟨b, o, none⟩ = w.frozen? ⟨b, o, none⟩ := (ext_below w x).frozen (p := ⟨b, o, none⟩) h
theorem size_ext (w x : World) : w.heap.size ≤ (w.ext x).heap.size := (ext_below w x).size

theorem Calls.ext_same {P : Program} {f : FuncId} {args : Array Value} {w x : World} {v : Value}
    (h : Calls P f args (w.ext x) fun e w' => e = .returned v ∧ w.ext x = w') : Calls P f args (w.ext x) fun e w'' => e = .returned v ∧ ∃ y, w'' = w.ext y :=
  h.mono fun _ w' ⟨he, hb⟩ => ⟨he, x, hb.symm⟩
theorem Calls.ext_drew {P : Program} {f : FuncId} {args : Array Value} {w x : World} {v : Value}
    (h : Calls P f args (w.ext x) fun e w' => e = .returned v ∧ ∃ m, w' = (w.ext x).drewN m) : Calls P f args (w.ext x) fun e w'' => e = .returned v ∧ ∃ y, w'' = w.ext y :=
  h.mono fun _ w' ⟨he, m, hb⟩ => ⟨he, w', (Go.Proofs.Ytoifkfhbinfplaa.ext_of (hb ▸ (below_drewN (ext_below w x) m))).symm⟩
theorem Calls.ext_of {P : Program} {f : FuncId} {args : Array Value} {w x : World} {v : Value}
    (h : Calls P f args (w.ext x) fun e w' => e = .returned v ∧ Below (w.ext x).heap.size (w.ext x) w') : Calls P f args (w.ext x) fun e w'' => e = .returned v ∧ ∃ y, w'' = w.ext y :=
  h.mono fun _ w' ⟨he, hb⟩ => ⟨he, w', (Go.Proofs.Ytoifkfhbinfplaa.ext_of ((ext_below w x).trans (hb.mono (size_ext w x)))).symm⟩


theorem wpQuiet_mono {P : Program} {ops : Array Oper} {C : World → Prop} {Q Q' : Act → Prop} (h : ∀ a, Q a → Q' a) : ∀ (l : List Oper) (a : Act), wpQuiet P ops C Q l a → wpQuiet P ops C Q' l a
  | [], a, hh => h a hh
  | o :: rest, a, hh => by
    simp only [wpQuiet] at hh ⊢
    split
    · rename_i hw
      rw [if_pos hw] at hh
      exact Oper.quiet_mono (fun a ha => wpQuiet_mono h rest a ha) hh
    · rename_i hw
      rw [if_neg hw] at hh
      exact wpQuiet_mono h rest _ hh
/-- **A region whose operations 'h' leave the world as it was but for new blocks, and which ends by 't'.** -/
theorem wp_region_ext {P : Program} {id : Nat} {Q : Exit → Act → World → Prop} {a : Act} {w : World} {l : List Oper} (h t : List Nat) (hm : P.follows .mixedOrders = true) (hB : Region.planB .any l.toArray [] h t = true)
    (H : wpQuiet P l.toArray (fun w' => ∃ x, w' = w.ext x) (fun a2 => ∀ x, wpList P l.toArray Q (t.map (l.getD · default)) a2 (w.ext x)) (h.map (l.getD · default)) a)
    (hQ : ∀ c (a : Act) d v w, Q (.panic c) (a.put d v) w → Q (.panic c) a w := by intro c a d v w h; cases d <;> exact h) :
    (Code.region id l.toArray true).wp P Q a w :=
  wp_region_plan_lit [] h t hm hB hQ ⟨w.drew, (ext_of (Below.refl _ _).drew).symm⟩ (wpQuiet_nil (wpQuiet_mono (fun a2 h2 w' hw => by obtain ⟨x, rfl⟩ := hw; exact h2 x) _ _ H))

theorem wpList_of_quiet {P : Program} {ops : Array Oper} {C : World → Prop} {Q : Exit → Act → World → Prop} {rest : List Oper} : ∀ (h : List Oper) (a : Act) (w : World), C w → wpQuiet P ops C (fun a2 => ∀ w', C w' → wpList P ops Q rest a2 w') h a → wpList P ops Q (h ++ rest) a w
  | [], a, w, hw, h => h w hw
  | o :: hs, a, w, hw, h => by
    rw [List.cons_append]
    simp only [wpQuiet] at h
    refine wpList_step fun K hK => ?_
    split
    · rename_i hwt
      rw [if_pos hwt] at h
      exact Oper.wp_of_quiet hw (fun a' w' hw' h' => hK _ _ (wpList_of_quiet hs a' w' hw' h')) h
    · rename_i hwt
      rw [if_neg hwt] at h
      exact hK _ _ (wpList_of_quiet hs _ w hw h)
/-- **A region in its one order, whose first n operations leave the world as it was but for new blocks.** -/
theorem wp_region_extP {P : Program} {id : Nat} {Q : Exit → Act → World → Prop} {a : Act} {w : World} {l : List Oper} (n : Nat)
    (H : wpQuiet P l.toArray (fun w' => ∃ x, w' = w.ext x) (fun a2 => ∀ x, wpList P l.toArray Q (l.drop n) a2 (w.ext x)) (l.take n) a) : (Code.region id l.toArray false).wp P Q a w := by
  refine wp_region_lit ?_
  have := wpList_of_quiet (Q := Q) (rest := l.drop n) (l.take n) a w ⟨w, (ext_of (Below.refl _ _)).symm⟩ (wpQuiet_mono (fun a2 h2 w' hw => by obtain ⟨x, rfl⟩ := hw; exact h2 x) _ _ H)
  rwa [List.take_append_drop] at this

/-! ### Bytes in cells -/
def cellsU8 (l : List UInt8) : List Value := l.map fun c => .int .u8 (c.toNat : Int)
theorem length_cellsU8 (l : List UInt8) : (cellsU8 l).length = l.length := by simp [cellsU8]
theorem cellsU8_get (l : List UInt8) (i : Nat) (h : i < l.length) : (cellsU8 l)[i]? = some (.int .u8 (l[i].toNat : Int)) := by simp [cellsU8, h]
theorem cellsU8_set (l : List UInt8) (i : Nat) (c : UInt8) : (cellsU8 l).set i (.int .u8 (c.toNat : Int)) = cellsU8 (l.set i c) := by simp [cellsU8, List.map_set]
theorem cellsU8_append (l m : List UInt8) : cellsU8 (l ++ m) = cellsU8 l ++ cellsU8 m := by simp [cellsU8]
theorem cellsU8_zero (k : Nat) : (madeCells (Value.int .u8 0).cells (k * 1)).toList = cellsU8 (List.replicate k 0) := by
  have : (Value.int .u8 0).cells = #[Value.int .u8 0] := rfl
  rw [this, toList_madeCells_one, Nat.mul_one]; simp [cellsU8]

theorem strNums (l : List UInt8) : strOfNums (l.map fun c => (c.toNat : Int)) = ⟨l.toArray⟩ := by
  have : (strOfNums (l.map fun c => (c.toNat : Int))).data.toList = l := by
    rw [strOfNums_data, List.map_map]
    exact (List.map_congr_left (fun c _ => by simp)).trans (List.map_id l)
  cases h : strOfNums (l.map fun c => (c.toNat : Int)) with
  | mk d =>
    rw [h] at this
    subst this
    rfl

/-- A slice of bytes that a call owns, made a text. -/
theorem own_str {P : Program} {w : World} {base n : Nat} {e' : TypeId} (src : TypeId) {e dst : TypeId} {v : Value} {l : List UInt8} (hs : P.underlying src = some (.slice e)) (he : P.underlying e = some (.int .u8)) (hd : P.underlying dst = some .string)
    (h : w.ownsRow base e' 1 v n (cellsU8 l)) : (Go.convert src dst v).run P w = .ok (.string ⟨l.toArray⟩) w := by
  have hl : l.length = n := by have := h.1; rw [length_cellsU8] at this; omega
  rcases h.2 with ⟨rfl, rfl⟩ | ⟨g, cap, cur, rfl, _⟩
  · obtain rfl : l = [] := List.eq_nil_of_length_eq_zero hl
    exact run_convert_bytes_nil w src e hs he 0 0 dst hd
  · have := run_convert_bytes_arg w src e hs he g 0 n cap (l.map fun c => (c.toNat : Int)) (by simpa using hl) (fun i hi => ?_) dst hd
    · rw [strNums] at this; exact this
    · have hc := h.cells (g := g) rfl i (.int .u8 (l[i]'(by omega)).toNat) (cellsU8_get l i (by omega))
      have ha : (⟨g, 0, none⟩ : Addr).add i = ⟨g, 0 + i, none⟩ := by unfold Addr.add; split <;> simp_all
      rw [ha] at hc
      rw [hc]
      simp [List.getD_eq_getElem?_getD, List.getElem?_eq_getElem (show i < l.length by omega)]

/-- A text of one byte. -/
theorem conv_one {P : Program} (w : World) {e' : TypeId} (src : TypeId) {e dst : TypeId} (hs : P.underlying src = some (.slice e)) (he : P.underlying e = some (.int .u8)) (hd : P.underlying dst = some .string) (x : Int) :
    (Go.convert src dst (.slice (some ⟨w.heap.size, 0, none⟩) 1 1)).run P (w.alloc (.cells #[.int .u8 x] e')) = .ok (.string (strOfNums [x])) (w.alloc (.cells #[.int .u8 x] e')) :=
  run_convert_bytes_arg _ src e hs he _ 0 1 1 [x] rfl (fun i hi => by
    obtain rfl : i = 0 := by omega
    simp) dst hd

/-- How long a text in a slot is: for a loop's measure. -/
def lenOf : Value → Nat | .string s => s.size | _ => 0

/-- '[]byte(s)': a new row of its bytes. -/
theorem toBytes {P : Program} (w : World) (src dst : TypeId) {e : TypeId} (s : ByteArray) (hs : P.underlying src = some .string) (hd : P.underlying dst = some (.slice e)) (he : P.underlying e = some (.int .u8)) :
    ∃ cap w2, (Go.convert src dst (.string s)).run P w = .ok (.slice (some ⟨w.heap.size, 0, none⟩) s.size cap) w2 ∧ Below w.heap.size w w2 ∧ w.heap.size < w2.heap.size ∧ s.size ≤ cap ∧
      (∀ i (h : i < s.data.toList.length), w2.cell? ⟨w.heap.size, i, none⟩ = some (.int .u8 ((s.data.toList[i]).toNat : Int))) ∧ (∀ i, i < s.size → w2.frozen? ⟨w.heap.size, i, none⟩ = false) := by
  refine ⟨_, _, run_bytes_of_string w src dst e s hs hd he, (Below.refl _ _).drew.alloc (Nat.le_refl _) _, by simp, grownCap_ge _ _ _ _, fun i h => ?_, fun i h => ?_⟩
  · have := World.cell?_alloc_mark w.drew (bytesRow s (grownCap w s.size 0 e)) e ((bytesRow s (grownCap w s.size 0 e)).size, (bytesRow s (grownCap w s.size 0 e)).size + 1) i
    rw [World.size_drew] at this
    rw [this, bytesRow_at s _ i (by simpa using h)]
    rfl
  · have := World.frozen?_alloc_mark w.drew (bytesRow s (grownCap w s.size 0 e)) e (bytesRow s (grownCap w s.size 0 e)).size ((bytesRow s (grownCap w s.size 0 e)).size + 1) i
    rw [World.size_drew] at this
    rw [this]
    have hz : s.size ≤ (bytesRow s (grownCap w s.size 0 e)).size := by simp only [bytesRow, Array.size_append, Array.size_map]; exact Nat.le_add_right _ _
    simp; omega

theorem set_cells {w : World} {b : Nat} {l : List UInt8} (h : ∀ i (h : i < l.length), w.cell? ⟨b, i, none⟩ = some (.int .u8 (l[i].toNat : Int))) {k : Nat} (hk : k < l.length) (c : UInt8) :
    ∀ j (hj : j < (l.set k c).length), (w.setCell ⟨b, k, none⟩ (.int .u8 (c.toNat : Int))).cell? ((⟨b, 0, none⟩ : Addr).add j) = some (.int .u8 ((l.set k c)[j].toNat : Int)) := by
  intro j hj
  have ha : (⟨b, 0, none⟩ : Addr).add j = ⟨b, j, none⟩ := by unfold Addr.add; split <;> simp_all
  rw [ha, List.getElem_set]
  by_cases h2 : k = j
  · subst h2
    rw [if_pos rfl]
    exact World.cell?_setCell_same _ _ _ (h k hk)
  · rw [if_neg h2, World.cell?_setCell_other _ _ _ _ (by intro e; injection e; omega)]
    exact h j (by simpa using hj)

/-- 'copy' onto a row, whatever the element's size. -/
theorem run_copy_rowk {P : Program} (w : World) (dT sT ty elem : TypeId) (g o dLen dCap : Nat) (a : Addr) (sLen sCap sz : Nat) (cur : Array Value) (t : TypeId) (cs : List Value)
    (hu : P.underlying dT = some (.slice elem)) (hs : (P.info? elem).map (·.size) = some sz)
    (hg : w.heap[g]? = some (.cells cur t (0, 0))) (hn : cs.length = Nat.min sLen dLen * sz)
    (hsrc : ∀ j v, cs[j]? = some v → w.cell? (a.add j) = some v) (hfit : o + cs.length ≤ cur.size) (h1 : ∀ v ∈ cs, v.oneCell' = true) :
    (Builtin.copy_ #[dT, sT] ty #[.slice (some ⟨g, o, none⟩) dLen dCap, .slice (some a) sLen sCap]).run P w =
      .ok (goInt (Nat.min sLen dLen)) (w.setRow g (cur.toList.take o ++ cs ++ cur.toList.drop (o + cs.length)).toArray) := by
  have hl := run_loadCells_list (P := P) w a cs hsrc
  have hst := run_storeCells_at P g o t cs 0 cur w hg (by simpa using hfit) h1
  cases hq : P.info? elem with
  | none => simp [hq] at hs
  | some i =>
    have hi : i.size = sz := by simpa [hq] using hs
    rw [hn] at hl
    simp [Builtin.copy_, run_underlying hu, Builtin.lenOf, Builtin.firstCells, sizeOf, typeInfo, hq, hi, hl, hst]

/-! ### One block turned -/
theorem gb {w w' : World} (h : Below w.heap.size w w') (b : Option Nat) : w.grownBy w' b := ⟨h.os, h.tape, h.output, h.size, fun k hk _ => h.block k hk⟩
theorem gbt {a b c : World} {r : Option Nat} (h : a.grownBy b r) (k : b.grownBy c r) : a.grownBy c r :=
  ⟨k.os.trans h.os, k.tape.trans h.tape, k.output.trans h.output, Nat.le_trans h.size k.size, fun i hi hne => (k.block i (Nat.lt_of_lt_of_le hi h.size) hne).trans (h.block i hi hne)⟩
theorem gbset (w : World) (b o : Nat) (v : Value) : w.grownBy (w.setCell ⟨b, o, none⟩ v) (some b) :=
  ⟨rfl, rfl, rfl, by simp, fun k _ hk => Below.heap_setCell _ _ _ _ (fun e => hk (by rw [e]))⟩
theorem gbrow (w : World) (b : Nat) (cs : Array Value) : w.grownBy (w.setRow b cs) (some b) :=
  ⟨rfl, rfl, rfl, by simp [World.setRow], fun k _ hk => by
    simp only [World.setRow, Array.getElem?_modify]
    rw [if_neg (fun e => hk (by rw [e]))]⟩
/-- a block of the call's own was turned alone: below it all is as it was -/
theorem bgb {B : Nat} {a w w' : World} {b : Nat} (h : Below B a w) (hg : w.grownBy w' (some b)) (hB : B ≤ b) (hs : B ≤ w.heap.size) : Below B a w' := h.grown hg hs (fun k hk => by injection hk with e; omega)
theorem gbcell {w w' : World} {b c o : Nat} {v : Value} (hg : w.grownBy w' (some b)) (h : w.cell? ⟨c, o, none⟩ = some v) (hne : c ≠ b) : w'.cell? ⟨c, o, none⟩ = some v := hg.cell h (by simpa using hne)

end Go.Proofs.Ytoifkfhbinfplaa
