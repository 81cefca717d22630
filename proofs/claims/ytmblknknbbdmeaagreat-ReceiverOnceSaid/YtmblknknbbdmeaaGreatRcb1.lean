/- Texts laid together: Base, Law, Pl, Mem, IMap, Chan1, Chan2, Drw, Buf1. -/
import Derived.StillTail
import Derived.Deep.Quiet
import Derived.BigQuiet
import Derived.WalkKit
import Derived.WalkSpells
import Derived.WalkLawsBesides
import Derived.Deep.LoopGhost
import Derived.Deep.DeepCutAuto
import Derived.Deep.DeepFit
import Derived.KernelRfl
import Derived.Test.YtmblknknbbdmeaaGreatRows
import Derived.ProofKit
import Derived.OpenShut
import Derived.ShutString
import Derived.Shelf.Strings.Repeat
import Derived.Laws.OwnMore
import Derived.Laws.Rows
import Derived.Deep.Draws
import Derived.Test.YtmblknknbbdmeaaGreatProg
import Derived.Maps.OwnSet
import Derived.Lib.SlKeysI
import Derived.Conc.LoneSelect
/- Regions that draw their order, in a class of worlds; worlds that differ from one by what was made since. -/
namespace Go.Proofs.YtmblknknbbdmeaaGreat
open Go Go.RowKit
set_option linter.unusedVariables false
set_option linter.unusedSimpArgs false

/-- 'max' and 'min' of two whole numbers, kept as they are. -/
theorem bmax2 (k k' : IntKind) (x y : Int) : Builtin.max2 (.int k x) (.int k' y) = pure (.int k (max x y)) := by
  simp only [Builtin.max2, gt_iff_lt]; congr 2; omega
theorem bmin2 (k k' : IntKind) (x y : Int) : Builtin.min2 (.int k x) (.int k' y) = pure (.int k (min x y)) := by
  simp only [Builtin.min2]; congr 2; omega
theorem bmax (ats : Array TypeId) (ty : TypeId) (a b : Value) : Builtin.max_ ats ty #[a, b] = (Builtin.max2 a b >>= fun s => pure s) := by simp only [Builtin.max_, List.foldlM_cons, List.foldlM_nil]
theorem bmin (ats : Array TypeId) (ty : TypeId) (a b : Value) : Builtin.min_ ats ty #[a, b] = (Builtin.min2 a b >>= fun s => pure s) := by simp only [Builtin.min_, List.foldlM_cons, List.foldlM_nil]

theorem hid {p : Prop} (h : p) : RowKit.Hid p := h
/-- a fact put away for good: nothing sees through it -/
structure Kp (p : Prop) : Prop where
  out : p
theorem kp {p : Prop} (h : p) : Kp p := ⟨h⟩

/-! ### A region in three parts: plain operations, taken first; quiet ones, in whatever order; a tail in its one order -/
section
variable {P : Program} {ops : Array Oper} {md : Region.Mode} {C : World → Prop}

/-- Operations that look at no memory and call nothing. -/
def plainB : Op → Bool
  | .move _ | .assign _ | .pick .. | .binOp .. | .unOp .. | .convert .. | .slice .. | .fieldAddr .. | .field .. | .indexAddr .. | .index .. | .extract .. => true
  | _ => false

theorem bind_value {α : Type} {s : Sem α} {f : α → Value} {w w' : World} {n : Next} (h : (s >>= fun x => pure (Next.value (f x)) : Sem Next).run P w = .ok n w') : ∃ v, n = .value v := by
  have h2 : (s.run P w).andThen (fun a w' => .ok (.value (f a)) w') = .ok n w' := by simpa using h
  cases hr : s.run P w with
  | ok a w1 => rw [hr] at h2; simp [Result.andThen] at h2; exact ⟨f a, h2.1.symm⟩
  | halt x w1 => rw [hr] at h2; simp [Result.andThen] at h2

theorem plain_value {o : Oper} (hp : plainB o.op = true) {ρ : Operand → Value} {w w' : World} {n : Next} (h : (execOp ρ o).run P w = .ok n w') : ∃ v, n = .value v := by
  unfold execOp at h
  cases ho : o.op <;> rw [ho] at hp h <;> first
    | (simp [plainB] at hp; done)
    | exact bind_value h
    | exact bind_value (f := fun x => x) h
    | (simp at h; exact ⟨_, h.1.symm⟩)

theorem yields_of_quiet {o : Oper} {v : Value} {a : Act} (hp : plainB o.op = true) (hy : YieldsIn P ops (fun _ => True) o v a) : Yields P ops o v a := by
  rcases hy with ⟨hw, hq⟩ | ⟨hw, rfl⟩
  · refine .inl ⟨hw, fun w => ?_⟩
    have h := hq w trivial
    unfold Oper.quietAt at h
    cases hr : (execOp a.eval o).run P w with
    | halt x w' => rw [hr] at h; simp [Oper.quietUpon] at h
    | ok n w' =>
      obtain ⟨u, rfl⟩ := plain_value hp hr
      rw [hr] at h
      simp only [Oper.quietUpon] at h
      rw [h.1, h.2]
  · exact .inr ⟨hw, rfl⟩

/-- The operations of a list of numbers. -/
def selOps (ops : Array Oper) (is : List Nat) : List Oper := is.map fun i => ops.getD i default

/-- 'p' may be taken first, one after another; then 'k' of what is listed. -/
def Region.pureB (md : Region.Mode) (ops : Array Oper) (k : Array Bool → Bool) : List Nat → Array Bool → Bool
  | [], listed => k listed
  | i :: is, listed => decide (i < ops.size) && (Region.ready md ops listed).contains i && Region.free md ops listed i && plainB (ops.getD i default).op && Region.pureB md ops k is (listed.setIfInBounds i true)

theorem getD_some {i : Nat} (h : i < ops.size) : ops[i]? = some (ops.getD i default) := by simp [h]

theorem wpAny_pure {Q : Exit → Act → World → Prop} {Lq : Act → Prop} {k : Array Bool → Bool} {g : Nat} (hsel : Region.noSelect ops = true)
    (hQ : ∀ c (a : Act) d v w, Q (.panic c) (a.put d v) w → Q (.panic c) a w) {w : World} (hL : ∀ listed a, k listed = true → Lq a → wpAny P md ops Q g listed a w) :
    ∀ (p : List Nat) (listed : Array Bool) (a : Act), Region.pureB md ops k p listed = true → wpQuiet P ops (fun _ => True) Lq (selOps ops p) a → wpAny P md ops Q (p.length + g) listed a w
  | [], listed, a, hB, h => by
    rw [List.length_nil, Nat.zero_add]
    exact hL _ _ hB h
  | i :: p, listed, a, hB, h => by
    simp only [Region.pureB, Bool.and_eq_true, decide_eq_true_eq] at hB
    obtain ⟨⟨⟨⟨hi, hr⟩, hf⟩, hp⟩, hB'⟩ := hB
    have h0 := getD_some hi
    have hq : qOp P ops (fun _ => True) i (wpQuiet P ops (fun _ => True) Lq (selOps ops p)) a := by unfold qOp; simp only [h0]; exact h
    obtain ⟨v, hy, hK⟩ := yieldsIn_of_qOp h0 hq
    have e : (i :: p).length + g = (p.length + g) + 1 := by simp; omega
    rw [e]
    exact wpAny_take h0 hsel hf hr (fun c a w => hQ c a _ v w) (yields_of_quiet hp hy) (wpAny_pure hsel hQ hL p _ _ hB' hK)

/-- Of the order 'ord' the first n may come in whatever order; each of these is waited for by a later one, up to the n-th; each behind the n-th waits for the one ahead. -/
def Region.sinkI (md : Region.Mode) (ops : Array Oper) (ord : List Nat) (n : Nat) : Bool :=
  (List.range n).all fun x => (List.range (n + 1)).any fun y => decide (x < y) && Region.waitsFor md ops (ord.getD y 0) (ord.getD x 0)
def Region.chainI (md : Region.Mode) (ops : Array Oper) (ord : List Nat) (n : Nat) : Bool :=
  (List.range ord.length).all fun y => decide (y ≤ n) || Region.waitsFor md ops (ord.getD y 0) (ord.getD (y - 1) 0)
/-- Every one that is not listed stands in the order. -/
def Region.allI (ops : Array Oper) (ord : List Nat) (listed : Array Bool) : Bool :=
  (List.range ops.size).all fun i => listed.getD i true || ord.contains i
def Region.inI (ops : Array Oper) (ord : List Nat) (listed : Array Bool) : Bool := ord.all fun i => decide (i < ops.size) && !listed.getD i true
def Region.closedI (md : Region.Mode) (ops : Array Oper) (listed : Array Bool) : Bool :=
  (List.range ops.size).all fun j => !listed.getD j false || (ops.getD j default).after.all fun e => !Region.binds md e || listed.getD e.on false

structure HeadI (md : Region.Mode) (ops : Array Oper) (ord : List Nat) (n : Nat) (listed : Array Bool) : Prop where
  size : listed.size = ops.size
  closed : ∀ j oj, ops[j]? = some oj → listed.getD j false = true → ∀ e ∈ oj.after, Region.binds md e = true → listed.getD e.on false = true
  all : ∀ i, i < ops.size → listed.getD i true = false → ∃ x, x < ord.length ∧ ord.getD x 0 = i
  tail : ∀ y, n ≤ y → y < ord.length → listed.getD (ord.getD y 0) true = false
  inb : ∀ y, y < ord.length → ord.getD y 0 < ops.size

theorem HeadI.set {ord : List Nat} {n x : Nat} {listed : Array Bool} (inv : HeadI md ops ord n listed) (hnd : ord.Nodup) (hx : x < ord.length) (hi : ord.getD x 0 ∈ Region.ready md ops listed) (hxn : x < n) : HeadI md ops ord n (listed.setIfInBounds (ord.getD x 0) true) := by
  obtain ⟨_, oi, hoi, hall⟩ := mem_ready.1 hi
  refine ⟨by simp [inv.size], fun j oj hj hl e he hb => ?_, fun i hi hl => ?_, fun y hy hyl => ?_, inv.inb⟩
  · by_cases hij : ord.getD x 0 = j
    · subst hij
      have : oj = oi := Option.some.inj (hj.symm.trans hoi)
      subst this
      exact getD_set_true (hall e he hb)
    · rw [getD_set_ne false hij] at hl
      exact getD_set_true (inv.closed j oj hj hl e he hb)
  · by_cases hij : ord.getD x 0 = i
    · exact ⟨x, hx, hij⟩
    · rw [getD_set_ne true hij] at hl
      exact inv.all i hi hl
  · have hne : ord.getD x 0 ≠ ord.getD y 0 := by
      intro h
      simp only [List.getD_eq_getElem?_getD, List.getElem?_eq_getElem hx, List.getElem?_eq_getElem hyl, Option.getD_some] at h
      have := (List.getElem_inj hnd).1 h
      omega
    rw [getD_set_ne true hne]
    exact inv.tail y hy hyl

theorem tail_waitsI {ord : List Nat} {n : Nat} {listed : Array Bool} (hs : Region.sinkI md ops ord n = true) (hc : Region.chainI md ops ord n = true) (hn : n < ord.length) (inv : HeadI md ops ord n listed) :
    ∀ (d x : Nat), n - x = d → x < n → listed.getD (ord.getD x 0) true = false → ∀ y, n ≤ y → y < ord.length → ord.getD y 0 ∉ Region.ready md ops listed := by
  intro d
  induction d using Nat.strongRecOn with
  | _ d ih =>
    intro x hd hx hun y hy hyl hr
    obtain ⟨_, ot, hot, hall⟩ := mem_ready.1 hr
    by_cases hyn : y = n
    · subst hyn
      have h1 := List.all_eq_true.1 hs x (List.mem_range.2 hx)
      obtain ⟨z, hz, hz2⟩ := List.any_eq_true.1 h1
      simp only [Bool.and_eq_true, decide_eq_true_eq] at hz2
      obtain ⟨oj, hoj, e, he, hb, hon⟩ := Region.waitsFor_spec hz2.2
      have hzle : z ≤ y := by have := List.mem_range.1 hz; omega
      by_cases hzy : z = y
      · subst hzy
        have : oj = ot := Option.some.inj (hoj.symm.trans hot)
        subst this
        have h2 := hall e he hb
        rw [hon, getD_both hun] at h2
        cases h2
      · cases hl : listed.getD (ord.getD z 0) false with
        | true =>
          have h2 := inv.closed _ oj hoj hl e he hb
          rw [hon, getD_both hun] at h2
          cases h2
        | false =>
          have hjs : ord.getD z 0 < listed.size := by rw [inv.size]; exact inv.inb z (by omega)
          exact ih (y - z) (by omega) z rfl (by omega) (getD_in hjs hl) y (Nat.le_refl _) hyl hr
    · have h1 := List.all_eq_true.1 hc y (List.mem_range.2 hyl)
      simp only [Bool.or_eq_true, decide_eq_true_eq] at h1
      rcases h1 with h1 | h1
      · omega
      · obtain ⟨o', ho', e, he, hb, hon⟩ := Region.waitsFor_spec h1
        have : o' = ot := Option.some.inj (ho'.symm.trans hot)
        subst this
        have h2 := hall e he hb
        rw [hon, getD_both (inv.tail (y - 1) (by omega) (by omega))] at h2
        cases h2

def wpAnyLC (P : Program) (md : Region.Mode) (ops : Array Oper) (C : World → Prop) (L : Array Bool → Act → Prop) : Nat → Array Bool → Act → Prop
  | 0, listed, a => L listed a
  | f + 1, listed, a =>
    Region.ready md ops listed ≠ [] ∧ ∀ i ∈ Region.ready md ops listed, qOp P ops C i (wpAnyLC P md ops C L f (listed.setIfInBounds i true)) a

theorem wpAnyC_of_head {g : Nat} {L : Array Bool → Act → Prop} {Q' : Exit → Act → World → Prop} (hL : ∀ listed a w, C w → L listed a → wpAny P md ops Q' g listed a w) :
    ∀ (f : Nat) (listed : Array Bool) (a : Act) (w : World), C w → wpAnyLC P md ops C L f listed a → wpAny P md ops Q' (f + g) listed a w
  | 0, listed, a, w, hw, h => by rw [Nat.zero_add]; exact hL _ _ _ hw h
  | f + 1, listed, a, w, hw, h => by
    rw [show f + 1 + g = (f + g) + 1 by omega]
    exact ⟨fun h0 => absurd h0 h.1, fun i hi => wpOp_of_qOp hw (fun a' w' hw' h' => wpAnyC_of_head hL f _ a' w' hw' h') (h.2 i hi)⟩

theorem wpAnyLC_first {ord : List Nat} {n x : Nat} {oi : Oper} {v : Value} {L : Array Bool → Act → Prop} (hnd : ord.Nodup) (hx : x < n) (hi : ops[ord.getD x 0]? = some oi) (hsel : ∀ (j : Nat) (o : Oper) cs b, ops[j]? = some o → o.op ≠ .select cs b)
    (hs : Region.sinkI md ops ord n = true) (hc : Region.chainI md ops ord n = true) (hn : n < ord.length)
    (hdone : ∀ listed a, L listed a → ∀ j ∈ Region.ready md ops listed, ∀ y, y < n → ord.getD y 0 ≠ j) :
    ∀ (f : Nat) (listed : Array Bool) (a : Act), HeadI md ops ord n listed →
      (∀ j oj, ops[j]? = some oj → j ≠ ord.getD x 0 → listed.getD j true = false → (∀ e ∈ oj.after, Region.binds md e = true → e.on ≠ ord.getD x 0) → oi.apart ops oj = true) →
      ord.getD x 0 ∈ Region.ready md ops listed → YieldsIn P ops C oi v a →
      wpAnyLC P md ops C L f (listed.setIfInBounds (ord.getD x 0) true) (a.put oi.dst v) → wpAnyLC P md ops C L (f + 1) listed a := by
  intro f
  have inHead : ∀ (listed : Array Bool), HeadI md ops ord n listed → listed.getD (ord.getD x 0) true = false → ∀ j ∈ Region.ready md ops listed, ∃ y, y < n ∧ ord.getD y 0 = j := by
    intro listed inv hun j hj
    obtain ⟨hjun, oj, hoj, _⟩ := mem_ready.1 hj
    obtain ⟨y, hyl, hy⟩ := inv.all j (Array.getElem?_eq_some_iff.1 hoj).1 hjun
    rcases Nat.lt_or_ge y n with h | h
    · exact ⟨y, h, hy⟩
    · exact absurd (hy ▸ hj) (tail_waitsI hs hc hn inv _ x rfl hx hun y h hyl)
  induction f with
  | zero =>
    intro listed a inv _ hr hy H
    have hun := (mem_ready.1 hr).1
    refine ⟨fun h => (by rw [h] at hr; cases hr), fun j hj => ?_⟩
    obtain ⟨y, hyn, hyj⟩ := inHead listed inv hun j hj
    by_cases hji : j = ord.getD x 0
    · subst hji; exact hy.qOp hi H
    · exact absurd hyj (hdone _ _ H j (ready_mono hj hji) y hyn)
  | succ f ih =>
    intro listed a inv hfree hr hy H
    have hun := (mem_ready.1 hr).1
    refine ⟨fun h => (by rw [h] at hr; cases hr), fun j hj => ?_⟩
    obtain ⟨y, hyn, hyj⟩ := inHead listed inv hun j hj
    by_cases hji : j = ord.getD x 0
    · subst hji; exact hy.qOp hi H
    · have h1 := H.2 j (ready_mono hj hji)
      obtain ⟨hjun, oj, hoj, hall⟩ := mem_ready.1 hj
      have hnot : ∀ e ∈ oj.after, Region.binds md e = true → e.on ≠ ord.getD x 0 := fun e he hb heq => by
        have h1 := hall e he hb
        rw [heq, getD_both hun] at h1
        cases h1
      have h2 := qOp_put hoj (hfree j oj hoj hji hjun hnot) (fun cs b => hsel _ oi cs b hi) (fun cs b => hsel j oj cs b hoj) hy h1
      have hfree' : ∀ k ok, ops[k]? = some ok → k ≠ ord.getD x 0 → (listed.setIfInBounds j true).getD k true = false →
          (∀ e ∈ ok.after, Region.binds md e = true → e.on ≠ ord.getD x 0) → oi.apart ops ok = true := fun k ok hk hki hun hno => by
        refine hfree k ok hk hki ?_ hno
        by_cases hjk : j = k
        · subst hjk; exact hjun
        · rw [getD_set_ne true hjk] at hun; exact hun
      subst hyj
      refine qOp_mono (fun a' h3 => ih (listed.setIfInBounds (ord.getD y 0) true) a' (inv.set hnd (by omega) hj hyn) hfree' (ready_mono hr (Ne.symm hji)) h3.1 ?_) h2
      rw [Array.setIfInBounds_comm _ _ hji]
      exact h3.2

/-- The tail: one alone may come up, each time. -/
def Region.seqI (md : Region.Mode) (ops : Array Oper) : List Nat → Array Bool → Bool
  | [], listed => (Region.ready md ops listed).isEmpty
  | k :: t, listed => decide (Region.ready md ops listed = [k]) && Region.seqI md ops t (listed.setIfInBounds k true)

theorem wpAny_of_seqI {Q' : Exit → Act → World → Prop} : ∀ (t : List Nat) (listed : Array Bool) (a : Act) (w : World), (∀ i ∈ t, i < ops.size) →
    Region.seqI md ops t listed = true → wpList P ops Q' (selOps ops t) a w → wpAny P md ops Q' t.length listed a w
  | [], _, _, _, _, hB, h => ⟨by simpa [Region.seqI] using hB, h⟩
  | k :: t, listed, a, w, hl, hB, h => by
    have h0 := getD_some (hl k (by simp))
    simp only [Region.seqI, Bool.and_eq_true, decide_eq_true_eq] at hB
    refine ⟨fun h1 => (by rw [hB.1] at h1; cases h1), fun i hi => ?_⟩
    rw [hB.1] at hi
    have hik : i = k := by simpa using hi
    subst hik
    have hw : wpOp P ops Q' i (wpList P ops Q' (selOps ops t)) a w := by unfold wpOp; simp only [h0]; exact h
    exact wpOp_mono (fun a' w' h' => wpAny_of_seqI t _ a' w' (fun j hj => hl j (by simp [hj])) hB.2 h') hw

def Region.headI (md : Region.Mode) (ops : Array Oper) (t : List Nat) : List Nat → Array Bool → Bool
  | [], listed => Region.seqI md ops t listed
  | i :: h, listed => (Region.ready md ops listed).contains i && Region.free md ops listed i && Region.headI md ops t h (listed.setIfInBounds i true)

theorem seqI_ready {t : List Nat} {listed : Array Bool} (h : Region.seqI md ops t listed = true) : ∀ j ∈ Region.ready md ops listed, j ∈ t := by
  cases t with
  | nil => intro j hj; simp only [Region.seqI, List.isEmpty_iff] at h; rw [h] at hj; cases hj
  | cons k t =>
    intro j hj
    simp only [Region.seqI, Bool.and_eq_true, decide_eq_true_eq] at h
    rw [h.1] at hj
    have : j = k := by simpa using hj
    simp [this]

theorem wpAnyLC_lex {t : List Nat} {Lq : Act → Prop} {ord : List Nat} {n : Nat} (hnd : ord.Nodup) (hsel : Region.noSelect ops = true) (hs : Region.sinkI md ops ord n = true) (hc : Region.chainI md ops ord n = true) (hn : n < ord.length)
    (ht : ∀ y, y < n → ord.getD y 0 ∉ t) :
    ∀ (h : List Nat) (k : Nat) (listed : Array Bool) (a : Act), (∀ j, j < h.length → ord.getD (k + j) 0 = h.getD j 0) → k + h.length = n → HeadI md ops ord n listed →
    Region.headI md ops t h listed = true → wpQuiet P ops C Lq (selOps ops h) a →
    wpAnyLC P md ops C (fun listed' a' => Region.seqI md ops t listed' = true ∧ Lq a') h.length listed a
  | [], k, listed, a, _, hk, _, hB, h => ⟨by simpa [Region.headI] using hB, h⟩
  | i :: hd, k, listed, a, hl, hk, inv, hB, h => by
    simp only [List.length_cons] at hk
    have hki : ord.getD k 0 = i := by simpa using hl 0 (by simp)
    have hkn : k < n := by omega
    have h0 : ops[i]? = some (ops.getD i default) := getD_some (hki ▸ inv.inb k (by omega))
    simp only [Region.headI, Bool.and_eq_true] at hB
    obtain ⟨⟨hr, hf⟩, hB'⟩ := hB
    have hr' : i ∈ Region.ready md ops listed := by simpa using hr
    have hst : qOp P ops C i (wpQuiet P ops C Lq (selOps ops hd)) a := by unfold qOp; simp only [h0]; exact h
    obtain ⟨v, hy, hK⟩ := yieldsIn_of_qOp h0 hst
    subst hki
    exact wpAnyLC_first hnd hkn h0 (Region.noSelect_spec hsel) hs hc hn (fun listed' a' hL j hj y hy e => ht y hy (e ▸ seqI_ready hL.1 j hj)) hd.length listed a inv (Region.free_spec h0 hf) hr' hy
      (wpAnyLC_lex hnd hsel hs hc hn ht hd (k + 1) _ _ (fun j hj => by
        have := hl (j + 1) (by simp; omega)
        rw [show k + 1 + j = k + (j + 1) by omega, this]; simp) (by omega) (inv.set hnd (by omega) hr' hkn) hB' hK)

theorem putPanic {R : Ending → World → Prop} {fn : Func} : ∀ c (a : Act) (d : Option Tmp) v w, bodyPost P fn R (.panic c) (a.put d v) w → bodyPost P fn R (.panic c) a w := by
  intro c a d v w h; cases d <;> exact h

/-- The closed fact of a plan. -/
def Region.planB (md : Region.Mode) (ops : Array Oper) (p h t : List Nat) : Bool :=
  Region.noSelect ops && decide (h ++ t).Nodup && decide (0 < t.length) && (h.all fun i => !t.contains i) && decide (p.length + (h.length + t.length) = ops.size) &&
  Region.sinkI md ops (h ++ t) h.length && Region.chainI md ops (h ++ t) h.length &&
  Region.pureB md ops (fun listed => decide (listed.size = ops.size) && Region.closedI md ops listed && Region.allI ops (h ++ t) listed && Region.inI ops (h ++ t) listed && Region.headI md ops t h listed) p (Array.replicate ops.size false)

/-- **A region in three parts**: 'p' plain operations, taken first; 'h' quiet in the class 'C', in whatever order; 't' in its order, from any world of the class. -/
theorem wp_region_plan {id : Nat} {Q : Exit → Act → World → Prop} {a : Act} {w : World} (p h t : List Nat) (hm : P.follows .mixedOrders = true) (hB : Region.planB .any ops p h t = true)
    (hQ : ∀ c (a : Act) d v w, Q (.panic c) (a.put d v) w → Q (.panic c) a w) (hC : C w.drew)
    (H : wpQuiet P ops (fun _ => True) (fun a1 => wpQuiet P ops C (fun a2 => ∀ w', C w' → wpList P ops Q (selOps ops t) a2 w') (selOps ops h) a1) (selOps ops p) a) :
    (Code.region id ops true).wp P Q a w := by
  simp only [Region.planB, Bool.and_eq_true, decide_eq_true_eq] at hB
  obtain ⟨⟨⟨⟨⟨⟨⟨hsel, hnd⟩, ht0⟩, hdis⟩, hlen⟩, hs⟩, hc⟩, hpure⟩ := hB
  refine wp_region_any hm ?_
  have key := wpAny_pure (P := P) (md := .any) (Q := Q) (g := h.length + t.length) (w := w.drew) hsel hQ (Lq := fun a1 => wpQuiet P ops C (fun a2 => ∀ w', C w' → wpList P ops Q (selOps ops t) a2 w') (selOps ops h) a1)
    (k := fun listed => decide (listed.size = ops.size) && Region.closedI .any ops listed && Region.allI ops (h ++ t) listed && Region.inI ops (h ++ t) listed && Region.headI .any ops t h listed)
    (fun listed a1 hk hq => by
      simp only [Bool.and_eq_true, decide_eq_true_eq] at hk
      obtain ⟨⟨⟨⟨hsz, hcl⟩, hall⟩, hin⟩, hhead⟩ := hk
      have hin' : ∀ y, y < (h ++ t).length → (h ++ t).getD y 0 < ops.size ∧ listed.getD ((h ++ t).getD y 0) true = false := by
        intro y hy
        have := List.all_eq_true.1 hin ((h ++ t).getD y 0) (by
          rw [List.getD_eq_getElem?_getD, List.getElem?_eq_getElem hy]; exact List.getElem_mem _)
        simpa using this
      have inv : HeadI .any ops (h ++ t) h.length listed :=
        ⟨hsz, fun j oj hj hl e he hb => by
            have hjs := (Array.getElem?_eq_some_iff.1 hj).1
            have := List.all_eq_true.1 hcl j (List.mem_range.2 hjs)
            have e1 : ops.getD j default = oj := by simp [Array.getD, hjs]; exact (Array.getElem?_eq_some_iff.1 hj).2
            rw [e1, hl] at this
            simp only [Bool.not_true, Bool.false_or] at this
            have := Array.all_eq_true'.1 this e he
            rw [hb] at this
            simpa using this,
          fun i hi hl => by
            have := List.all_eq_true.1 hall i (List.mem_range.2 hi)
            rw [hl] at this
            simp only [Bool.false_or, List.contains_eq_mem, decide_eq_true_eq] at this
            obtain ⟨x, hx, he⟩ := List.mem_iff_getElem.1 this
            exact ⟨x, hx, by rw [List.getD_eq_getElem?_getD, List.getElem?_eq_getElem hx]; exact he⟩,
          fun y hy hyl => (hin' y hyl).2, fun y hy => (hin' y hy).1⟩
      have hn : h.length < (h ++ t).length := by rw [List.length_append]; omega
      have H2 := wpAnyLC_lex (P := P) (C := C) (md := .any) (t := t) (ord := h ++ t) (n := h.length) hnd hsel hs hc hn (fun y hy hyt => by
        have e1 : (h ++ t).getD y 0 = h[y] := by rw [List.getD_eq_getElem?_getD, List.getElem?_append_left hy, List.getElem?_eq_getElem hy]; rfl
        rw [e1] at hyt
        have := List.all_eq_true.1 hdis h[y] (List.getElem_mem _)
        simp [hyt] at this) h 0 listed a1 (fun j hj => by
          simp only [Nat.zero_add, List.getD_eq_getElem?_getD]
          rw [List.getElem?_append_left hj]) (by omega) inv hhead hq
      exact wpAnyC_of_head (Q' := Q) (g := t.length) (fun listed' a' w' hw' hL => wpAny_of_seqI t listed' a' w' (fun i hi => by
        obtain ⟨x, hx, he⟩ := List.mem_iff_getElem.1 hi
        have := inv.inb (h.length + x) (by rw [List.length_append]; omega)
        rw [List.getD_eq_getElem?_getD, List.getElem?_append_right (by omega), show h.length + x - h.length = x by omega, List.getElem?_eq_getElem hx] at this
        rw [← he]; exact this) hL.1 (hL.2 w' hw')) _ _ _ _ hC H2)
    p (Array.replicate ops.size false) a hpure H
  rw [hlen] at key
  exact key

/-- .. whose operations are written out. -/
theorem wp_region_plan_lit {id : Nat} {Q : Exit → Act → World → Prop} {a : Act} {w : World} {l : List Oper} (p h t : List Nat) (hm : P.follows .mixedOrders = true) (hB : Region.planB .any l.toArray p h t = true)
    (hQ : ∀ c (a : Act) d v w, Q (.panic c) (a.put d v) w → Q (.panic c) a w) (hC : C w.drew)
    (H : wpQuiet P l.toArray (fun _ => True) (fun a1 => wpQuiet P l.toArray C (fun a2 => ∀ w', C w' → wpList P l.toArray Q (t.map (l.getD · default)) a2 w') (h.map (l.getD · default)) a1) (p.map (l.getD · default)) a) :
    (Code.region id l.toArray true).wp P Q a w := by
  have e : ∀ is, selOps l.toArray is = is.map (l.getD · default) := fun is => by
    unfold selOps
    apply List.map_congr_left
    intro i _
    simp [Array.getD, List.getD_eq_getElem?_getD]
    split <;> rename_i h
    · rw [List.getElem?_eq_getElem h]; rfl
    · rw [List.getElem?_eq_none (by omega)]; rfl
  exact wp_region_plan p h t hm hB hQ hC (by rw [e, e, e]; exact H)
end

/-! ### Chains of 'Below' -/
theorem bt {a b c : World} (h : Below a.heap.size a b) (k : Below b.heap.size b c) : Below a.heap.size a c := h.trans (k.mono h.size)
theorem bd {B : Nat} {a b : World} (h : Below B a b) (n : Nat) : Below B a (b.drewN n) := below_drewN h n
theorem ba {a b : World} (h : Below a.heap.size a b) (o : Obj) : Below a.heap.size a (b.alloc o) := h.alloc h.size o

theorem bt' {B : Nat} {a b c : World} (h : Below B a b) (k : Below b.heap.size b c) (hB : B ≤ b.heap.size := by omega) : Below B a c := h.trans (k.mono hB)

/-! ### A world with more in it -/
open Classical in
/-- 'x', if it is 'w' with new blocks behind; else 'w'. -/
noncomputable def _root_.Go.World.ext (w x : World) : World := if Below w.heap.size w x then x else w

theorem ext_below (w x : World) : Below w.heap.size w (w.ext x) := by
  unfold World.ext; split
  · assumption
  · exact Below.refl _ _
theorem ext_of {w x : World} (h : Below w.heap.size w x) : w.ext x = x := if_pos h
theorem cell_ext (w x : World) (b o : Nat) (h : b < w.heap.size) : (w.ext x).cell? ⟨b, o, none⟩ = w.cell? ⟨b, o, none⟩ := (ext_below w x).cell (p := ⟨b, o, none⟩) h
theorem frozen_ext (w x : World) (b o : Nat) (h : b < w.heap.size) : (w.ext x).frozen? ⟨b, o, none⟩ = w.frozen? ⟨b, o, none⟩ := (ext_below w x).frozen (p := ⟨b, o, none⟩) h
theorem size_ext (w x : World) : w.heap.size ≤ (w.ext x).heap.size := (ext_below w x).size

theorem Calls.ext_same {P : Program} {f : FuncId} {args : Array Value} {w x : World} {v : Value}
    (h : Calls P f args (w.ext x) fun e w' => e = .returned v ∧ w.ext x = w') : Calls P f args (w.ext x) fun e w'' => e = .returned v ∧ ∃ y, w'' = w.ext y :=
  h.mono fun _ w' ⟨he, hb⟩ => ⟨he, x, hb.symm⟩
theorem Calls.ext_drew {P : Program} {f : FuncId} {args : Array Value} {w x : World} {v : Value}
    (h : Calls P f args (w.ext x) fun e w' => e = .returned v ∧ ∃ m, w' = (w.ext x).drewN m) : Calls P f args (w.ext x) fun e w'' => e = .returned v ∧ ∃ y, w'' = w.ext y :=
  h.mono fun _ w' ⟨he, m, hb⟩ => ⟨he, w', (Go.Proofs.YtmblknknbbdmeaaGreat.ext_of (hb ▸ (below_drewN (ext_below w x) m))).symm⟩
theorem Calls.ext_of {P : Program} {f : FuncId} {args : Array Value} {w x : World} {v : Value}
    (h : Calls P f args (w.ext x) fun e w' => e = .returned v ∧ Below (w.ext x).heap.size (w.ext x) w') : Calls P f args (w.ext x) fun e w'' => e = .returned v ∧ ∃ y, w'' = w.ext y :=
  h.mono fun _ w' ⟨he, hb⟩ => ⟨he, w', (Go.Proofs.YtmblknknbbdmeaaGreat.ext_of ((ext_below w x).trans (hb.mono (size_ext w x)))).symm⟩


theorem wpQuiet_mono {P : Program} {ops : Array Oper} {C : World → Prop} {Q Q' : Act → Prop} (h : ∀ a, Q a → Q' a) : ∀ (l : List Oper) (a : Act), wpQuiet P ops C Q l a → wpQuiet P ops C Q' l a
  | [], a, hh => h a hh
  | o :: rest, a, hh => by
    simp only [wpQuiet] at hh ⊢
    split
    · rename_i hw
      rw [if_pos hw] at hh
      exact Oper.quiet_mono (fun a ha => wpQuiet_mono h rest a ha) hh
    · rename_i hw
      rw [if_neg hw] at hh
      exact wpQuiet_mono h rest _ hh
/-- **A region whose operations 'h' leave the world as it was but for new blocks, and which ends by 't'.** -/
theorem wp_region_ext {P : Program} {id : Nat} {Q : Exit → Act → World → Prop} {a : Act} {w : World} {l : List Oper} (h t : List Nat) (hm : P.follows .mixedOrders = true) (hB : Region.planB .any l.toArray [] h t = true)
    (H : wpQuiet P l.toArray (fun w' => ∃ x, w' = w.ext x) (fun a2 => ∀ x, wpList P l.toArray Q (t.map (l.getD · default)) a2 (w.ext x)) (h.map (l.getD · default)) a)
    (hQ : ∀ c (a : Act) d v w, Q (.panic c) (a.put d v) w → Q (.panic c) a w := by intro c a d v w h; cases d <;> exact h) :
    (Code.region id l.toArray true).wp P Q a w :=
  wp_region_plan_lit [] h t hm hB hQ ⟨w.drew, (ext_of (Below.refl _ _).drew).symm⟩ (wpQuiet_nil (wpQuiet_mono (fun a2 h2 w' hw => by obtain ⟨x, rfl⟩ := hw; exact h2 x) _ _ H))

theorem wpList_of_quiet {P : Program} {ops : Array Oper} {C : World → Prop} {Q : Exit → Act → World → Prop} {rest : List Oper} : ∀ (h : List Oper) (a : Act) (w : World), C w → wpQuiet P ops C (fun a2 => ∀ w', C w' → wpList P ops Q rest a2 w') h a → wpList P ops Q (h ++ rest) a w
  | [], a, w, hw, h => h w hw
  | o :: hs, a, w, hw, h => by
    rw [List.cons_append]
    simp only [wpQuiet] at h
    refine wpList_step fun K hK => ?_
    split
    · rename_i hwt
      rw [if_pos hwt] at h
      exact Oper.wp_of_quiet hw (fun a' w' hw' h' => hK _ _ (wpList_of_quiet hs a' w' hw' h')) h
    · rename_i hwt
      rw [if_neg hwt] at h
      exact hK _ _ (wpList_of_quiet hs _ w hw h)
/-- **A region in its one order, whose first n operations leave the world as it was but for new blocks.** -/
theorem wp_region_extP {P : Program} {id : Nat} {Q : Exit → Act → World → Prop} {a : Act} {w : World} {l : List Oper} (n : Nat)
    (H : wpQuiet P l.toArray (fun w' => ∃ x, w' = w.ext x) (fun a2 => ∀ x, wpList P l.toArray Q (l.drop n) a2 (w.ext x)) (l.take n) a) : (Code.region id l.toArray false).wp P Q a w := by
  refine wp_region_lit ?_
  have := wpList_of_quiet (Q := Q) (rest := l.drop n) (l.take n) a w ⟨w, (ext_of (Below.refl _ _)).symm⟩ (wpQuiet_mono (fun a2 h2 w' hw => by obtain ⟨x, rfl⟩ := hw; exact h2 x) _ _ H)
  rwa [List.take_append_drop] at this

/-! ### Bytes in cells -/
def cellsU8 (l : List UInt8) : List Value := l.map fun c => .int .u8 (c.toNat : Int)
theorem length_cellsU8 (l : List UInt8) : (cellsU8 l).length = l.length := by simp [cellsU8]
theorem cellsU8_get (l : List UInt8) (i : Nat) (h : i < l.length) : (cellsU8 l)[i]? = some (.int .u8 (l[i].toNat : Int)) := by simp [cellsU8, h]
theorem cellsU8_set (l : List UInt8) (i : Nat) (c : UInt8) : (cellsU8 l).set i (.int .u8 (c.toNat : Int)) = cellsU8 (l.set i c) := by simp [cellsU8, List.map_set]
theorem cellsU8_append (l m : List UInt8) : cellsU8 (l ++ m) = cellsU8 l ++ cellsU8 m := by simp [cellsU8]
theorem cellsU8_zero (k : Nat) : (madeCells (Value.int .u8 0).cells (k * 1)).toList = cellsU8 (List.replicate k 0) := by
  have : (Value.int .u8 0).cells = #[Value.int .u8 0] := rfl
  rw [this, toList_madeCells_one, Nat.mul_one]; simp [cellsU8]

theorem strNums (l : List UInt8) : strOfNums (l.map fun c => (c.toNat : Int)) = ⟨l.toArray⟩ := by
  have : (strOfNums (l.map fun c => (c.toNat : Int))).data.toList = l := by
    rw [strOfNums_data, List.map_map]
    exact (List.map_congr_left (fun c _ => by simp)).trans (List.map_id l)
  cases h : strOfNums (l.map fun c => (c.toNat : Int)) with
  | mk d =>
    rw [h] at this
    subst this
    rfl

/-- A slice of bytes that a call owns, made a text. -/
theorem own_str {P : Program} {w : World} {base n : Nat} {e' : TypeId} (src : TypeId) {e dst : TypeId} {v : Value} {l : List UInt8} (hs : P.underlying src = some (.slice e)) (he : P.underlying e = some (.int .u8)) (hd : P.underlying dst = some .string)
    (h : w.ownsRow base e' 1 v n (cellsU8 l)) : (Go.convert src dst v).run P w = .ok (.string ⟨l.toArray⟩) w := by
  have hl : l.length = n := by have := h.1; rw [length_cellsU8] at this; omega
  rcases h.2 with ⟨rfl, rfl⟩ | ⟨g, cap, cur, rfl, _⟩
  · obtain rfl : l = [] := List.eq_nil_of_length_eq_zero hl
    exact run_convert_bytes_nil w src e hs he 0 0 dst hd
  · have := run_convert_bytes_arg w src e hs he g 0 n cap (l.map fun c => (c.toNat : Int)) (by simpa using hl) (fun i hi => ?_) dst hd
    · rw [strNums] at this; exact this
    · have hc := h.cells (g := g) rfl i (.int .u8 (l[i]'(by omega)).toNat) (cellsU8_get l i (by omega))
      have ha : (⟨g, 0, none⟩ : Addr).add i = ⟨g, 0 + i, none⟩ := by unfold Addr.add; split <;> simp_all
      rw [ha] at hc
      rw [hc]
      simp [List.getD_eq_getElem?_getD, List.getElem?_eq_getElem (show i < l.length by omega)]

/-- A text of one byte. -/
theorem conv_one {P : Program} (w : World) {e' : TypeId} (src : TypeId) {e dst : TypeId} (hs : P.underlying src = some (.slice e)) (he : P.underlying e = some (.int .u8)) (hd : P.underlying dst = some .string) (x : Int) :
    (Go.convert src dst (.slice (some ⟨w.heap.size, 0, none⟩) 1 1)).run P (w.alloc (.cells #[.int .u8 x] e')) = .ok (.string (strOfNums [x])) (w.alloc (.cells #[.int .u8 x] e')) :=
  run_convert_bytes_arg _ src e hs he _ 0 1 1 [x] rfl (fun i hi => by
    obtain rfl : i = 0 := by omega
    simp) dst hd

/-- How long a text in a slot is: for a loop's measure. -/
def lenOf : Value → Nat | .string s => s.size | _ => 0

/-- '[]byte(s)': a new row of its bytes. -/
theorem toBytes {P : Program} (w : World) (src dst : TypeId) {e : TypeId} (s : ByteArray) (hs : P.underlying src = some .string) (hd : P.underlying dst = some (.slice e)) (he : P.underlying e = some (.int .u8)) :
    ∃ cap w2, (Go.convert src dst (.string s)).run P w = .ok (.slice (some ⟨w.heap.size, 0, none⟩) s.size cap) w2 ∧ Below w.heap.size w w2 ∧ w.heap.size < w2.heap.size ∧ s.size ≤ cap ∧
      (∀ i (h : i < s.data.toList.length), w2.cell? ⟨w.heap.size, i, none⟩ = some (.int .u8 ((s.data.toList[i]).toNat : Int))) ∧ (∀ i, i < s.size → w2.frozen? ⟨w.heap.size, i, none⟩ = false) := by
  refine ⟨_, _, run_bytes_of_string w src dst e s hs hd he, (Below.refl _ _).drew.alloc (Nat.le_refl _) _, by simp, grownCap_ge _ _ _ _, fun i h => ?_, fun i h => ?_⟩
  · have := World.cell?_alloc_mark w.drew (bytesRow s (grownCap w s.size 0 e)) e ((bytesRow s (grownCap w s.size 0 e)).size, (bytesRow s (grownCap w s.size 0 e)).size + 1) i
    rw [World.size_drew] at this
    rw [this, bytesRow_at s _ i (by simpa using h)]
    rfl
  · have := World.frozen?_alloc_mark w.drew (bytesRow s (grownCap w s.size 0 e)) e (bytesRow s (grownCap w s.size 0 e)).size ((bytesRow s (grownCap w s.size 0 e)).size + 1) i
    rw [World.size_drew] at this
    rw [this]
    have hz : s.size ≤ (bytesRow s (grownCap w s.size 0 e)).size := by simp only [bytesRow, Array.size_append, Array.size_map]; exact Nat.le_add_right _ _
    simp; omega

theorem set_cells {w : World} {b : Nat} {l : List UInt8} (h : ∀ i (h : i < l.length), w.cell? ⟨b, i, none⟩ = some (.int .u8 (l[i].toNat : Int))) {k : Nat} (hk : k < l.length) (c : UInt8) :
    ∀ j (hj : j < (l.set k c).length), (w.setCell ⟨b, k, none⟩ (.int .u8 (c.toNat : Int))).cell? ((⟨b, 0, none⟩ : Addr).add j) = some (.int .u8 ((l.set k c)[j].toNat : Int)) := by
  intro j hj
  have ha : (⟨b, 0, none⟩ : Addr).add j = ⟨b, j, none⟩ := by unfold Addr.add; split <;> simp_all
  rw [ha, List.getElem_set]
  by_cases h2 : k = j
  · subst h2
    rw [if_pos rfl]
    exact World.cell?_setCell_same _ _ _ (h k hk)
  · rw [if_neg h2, World.cell?_setCell_other _ _ _ _ (by intro e; injection e; omega)]
    exact h j (by simpa using hj)

/-- 'copy' onto a row, whatever the element's size. -/
theorem run_copy_rowk {P : Program} (w : World) (dT sT ty elem : TypeId) (g o dLen dCap : Nat) (a : Addr) (sLen sCap sz : Nat) (cur : Array Value) (t : TypeId) (cs : List Value)
    (hu : P.underlying dT = some (.slice elem)) (hs : (P.info? elem).map (·.size) = some sz)
    (hg : w.heap[g]? = some (.cells cur t (0, 0))) (hn : cs.length = Nat.min sLen dLen * sz)
    (hsrc : ∀ j v, cs[j]? = some v → w.cell? (a.add j) = some v) (hfit : o + cs.length ≤ cur.size) (h1 : ∀ v ∈ cs, v.oneCell' = true) :
    (Builtin.copy_ #[dT, sT] ty #[.slice (some ⟨g, o, none⟩) dLen dCap, .slice (some a) sLen sCap]).run P w =
      .ok (goInt (Nat.min sLen dLen)) (w.setRow g (cur.toList.take o ++ cs ++ cur.toList.drop (o + cs.length)).toArray) := by
  have hl := run_loadCells_list (P := P) w a cs hsrc
  have hst := run_storeCells_at P g o t cs 0 cur w hg (by simpa using hfit) h1
  cases hq : P.info? elem with
  | none => simp [hq] at hs
  | some i =>
    have hi : i.size = sz := by simpa [hq] using hs
    rw [hn] at hl
    simp [Builtin.copy_, run_underlying hu, Builtin.lenOf, Builtin.firstCells, sizeOf, typeInfo, hq, hi, hl, hst]

/-! ### One block turned -/
theorem gb {w w' : World} (h : Below w.heap.size w w') (b : Option Nat) : w.grownBy w' b := ⟨h.os, h.tape, h.output, h.size, fun k hk _ => h.block k hk⟩
theorem gbt {a b c : World} {r : Option Nat} (h : a.grownBy b r) (k : b.grownBy c r) : a.grownBy c r :=
  ⟨k.os.trans h.os, k.tape.trans h.tape, k.output.trans h.output, Nat.le_trans h.size k.size, fun i hi hne => (k.block i (Nat.lt_of_lt_of_le hi h.size) hne).trans (h.block i hi hne)⟩
theorem gbset (w : World) (b o : Nat) (v : Value) : w.grownBy (w.setCell ⟨b, o, none⟩ v) (some b) :=
  ⟨rfl, rfl, rfl, by simp, fun k _ hk => Below.heap_setCell _ _ _ _ (fun e => hk (by rw [e]))⟩
theorem gbrow (w : World) (b : Nat) (cs : Array Value) : w.grownBy (w.setRow b cs) (some b) :=
  ⟨rfl, rfl, rfl, by simp [World.setRow], fun k _ hk => by
    simp only [World.setRow, Array.getElem?_modify]
    rw [if_neg (fun e => hk (by rw [e]))]⟩
/-- a block of the call's own was turned alone: below it all is as it was -/
theorem bgb {B : Nat} {a w w' : World} {b : Nat} (h : Below B a w) (hg : w.grownBy w' (some b)) (hB : B ≤ b) (hs : B ≤ w.heap.size) : Below B a w' := h.grown hg hs (fun k hk => by injection hk with e; omega)
theorem gbcell {w w' : World} {b c o : Nat} {v : Value} (hg : w.grownBy w' (some b)) (h : w.cell? ⟨c, o, none⟩ = some v) (hne : c ≠ b) : w'.cell? ⟨c, o, none⟩ = some v := hg.cell h (by simpa using hne)

end Go.Proofs.YtmblknknbbdmeaaGreat
/- From a walk to a row: what a law leaves behind. -/
namespace Go.Proofs.YtmblknknbbdmeaaGreat
open Go Go.RowKit Go.ChangeShapes Go.WideShapes Go.ChangeAt
set_option linter.unusedVariables false
set_option linter.unusedSimpArgs false

theorem Tryz.own : ownKnob Tryz.prog.godebug = none := by kernel_rfl
theorem Tryz.laidOut : laidOutB Tryz.prog = true := by kernel_rfl

theorem trodAll_below {H : Type} {enc : TypeId × Value → H} {P : Program} (hl : laidOutB P = true) {W W' : World} (hb : Below W.heap.size W W') :
    ∀ (ts : List TypeId) (vs : List Value) (ds : List (DataW H)) (ps : List MemPlace), (∀ t ∈ ts, P.readableRec t = true ∧ t < P.types.size) → (∀ x ∈ ps, x.block < W.heap.size) →
      DataW.TrodAll enc P W 0 (fun _ => true) true ts vs ds ps → DataW.TrodAll enc P W' 0 (fun b => decide (b < W.heap.size)) true ts vs ds ps
  | [], vs, ds, ps, _, _, h => by
    obtain ⟨rfl, rfl, rfl⟩ := trodAll_nil h
    exact trodAll_mk0
  | t :: ts, vs, ds, ps, hr, hlt, h => by
    obtain ⟨v, vs', d, ds', p, q, rfl, rfl, rfl, h1, h2⟩ := trodAll_cons h
    have hr1 := hr t (by simp)
    exact trodAll_cons_mk (Below.trod hl hr1.1 hr1.2 h1 hb fun x hx => hlt x (by simp [hx]))
      (trodAll_below hl hb ts vs' ds' q (fun t' ht' => hr t' (by simp [ht'])) (fun x hx => hlt x (by simp [hx])) h2)

theorem law_post {H : Type} {enc : TypeId × Value → H} {P : Program} (hl : laidOutB P = true) {f : Func} {s : ChangeSpec} {W W' : World} {args : Array Value} {ds : List (DataW H)} {p : List MemPlace} {tb : TypeId}
    (hv : s.vars = []) (hr : (f.params.toList.all fun t => P.readableRec t && decide (t < P.types.size)) = true) (hres : f.resultTypes = #[tb]) (hub : P.underlying tb = some .bool)
    (hW : DataW.Whole enc P f.params.toList s.vars false W args.toList ds [] p)
    (hs : s.fn H (ds ++ []) = { results := [.lit (.bool true)], args := ds }) (hb : Below W.heap.size W W') :
    s.post enc P f false true false false W args (.bool true) W' := by
  have hW0 := hW
  obtain ⟨q1, q2, hA, hV, rfl, hfz, hnd⟩ := hW
  rw [hv] at hV
  obtain ⟨_, rfl⟩ := trodVars_none hV
  refine ⟨ds, [], _, [] ++ [], q1, [], hW0, ?_, ?_, ?_, hb.frame _, fun h => by cases h⟩
  · rw [hs, hres]
    exact trodAll_mk1 (shut_bool hub true)
  · rw [hs]
    refine trodAll_below hl hb _ _ _ _ (fun t ht => ?_) (fun x hx => hW0.lt x (by simp [hx])) hA
    have := List.all_eq_true.1 hr t ht
    simpa using this
  · rw [hv]
    show DataW.TrodVars enc P W' _ [] (s.fn H (ds ++ [])).vars []
    rw [hs]
    exact rfl

end Go.Proofs.YtmblknknbbdmeaaGreat
/- Plain words on bytes and numbers: no program in sight. -/
namespace Go.Proofs.YtmblknknbbdmeaaGreat
set_option linter.unusedVariables false
set_option linter.unusedSimpArgs false
open Go Go.RowKit

/-- a number's k lowest bytes, from the high end -/
def putL (n : Nat) : Nat → List UInt8
  | 0 => []
  | k + 1 => UInt8.ofNat (n / 256 ^ k % 256) :: putL n k
/-- the number of bytes -/
def takeN (l : List UInt8) : Nat := l.foldl (fun a c => a * 256 + c.toNat) 0
def str (l : List UInt8) : ByteArray := ⟨l.toArray⟩
abbrev bs (s : ByteArray) : List UInt8 := s.data.toList

theorem bs_str (l : List UInt8) : bs (str l) = l := rfl
theorem str_bs (s : ByteArray) : str (bs s) = s := rfl
theorem size_bs (s : ByteArray) : (bs s).length = s.size := rfl
theorem str_size (l : List UInt8) : (str l).size = l.length := rfl
theorem bs_inj {s t : ByteArray} (h : bs s = bs t) : s = t := by rw [← str_bs s, ← str_bs t, h]

theorem takeN_snoc (l : List UInt8) (c : UInt8) : takeN (l ++ [c]) = takeN l * 256 + c.toNat := by simp [takeN]
theorem foldN_lt : ∀ (l : List UInt8) (a : Nat), l.foldl (fun a c => a * 256 + c.toNat) a < (a + 1) * 256 ^ l.length
  | [], a => by simp
  | c :: l, a => by
    have h := foldN_lt l (a * 256 + c.toNat)
    have hc := c.toNat_lt
    have h2 : (a * 256 + c.toNat + 1) * 256 ^ l.length ≤ ((a + 1) * 256) * 256 ^ l.length := Nat.mul_le_mul_right _ (by omega)
    simp only [List.foldl_cons, List.length_cons, Nat.pow_succ]
    rw [Nat.mul_comm (256 ^ l.length) 256, ← Nat.mul_assoc]
    omega
theorem takeN_lt (l : List UInt8) : takeN l < 256 ^ l.length := by have := foldN_lt l 0; simpa [takeN] using this
theorem takeN_lt64 (l : List UInt8) (h : l.length ≤ 8) : takeN l < 18446744073709551616 :=
  Nat.lt_of_lt_of_le (takeN_lt l) (Nat.le_trans (Nat.pow_le_pow_right (by omega) h) (by decide))
theorem take_snoc (l : List UInt8) (k : Nat) (h : k < l.length) : l.take (k + 1) = l.take k ++ [l[k]] := by
  rw [List.take_succ_eq_append_getElem h]
theorem length_putL (n k : Nat) : (putL n k).length = k := by
  induction k with
  | zero => rfl
  | succ k ih => simp [putL, ih]


theorem i64_and31 (x : Int) : bits .and .i64 x 31 = x % 32 := by
  have h : (BitVec.ofInt 64 x &&& BitVec.ofInt 64 31) = BitVec.ofNat 64 ((x % 32).toNat) := by
    apply BitVec.eq_of_toNat_eq
    rw [BitVec.toNat_and, show (BitVec.ofInt 64 31).toNat = 31 from by decide, show (31:Nat) = 2^5 - 1 by decide, Nat.and_two_pow_sub_one_eq_mod, BitVec.toNat_ofInt, BitVec.toNat_ofNat]
    omega
  show IntKind.i64.wrap ((BitVec.ofInt 64 x &&& BitVec.ofInt 64 31).toNat : Int) = x % 32
  rw [h, BitVec.toNat_ofNat, IntWalk.i64_in _ (by omega)]
  omega
theorem shl8_or (a c : Nat) (hc : c < 256) (h : a * 256 + c < 18446744073709551616) :
    bits .or .u64 (IntKind.u64.wrap ((a : Int) * 256)) (IntKind.u64.wrap (c : Int)) = ((a * 256 + c : Nat) : Int) := by
  have e1 := IntWalk.u64_in ((a : Int) * 256) (by omega)
  have e2 := IntWalk.u64_in (c : Int) (by omega)
  have ha : a * 256 < 18446744073709551616 := Nat.lt_of_le_of_lt (Nat.le_add_right _ c) h
  have hc2 : c < 18446744073709551616 := Nat.lt_of_le_of_lt (Nat.le_add_left _ (a*256)) h
  have e3 := u64_or_nat (a * 256) c ha hc2
  have e4 := nat_join 8 (a * 256) c (by omega) (by omega)
  rw [e4] at e3
  rw [e1, e2, ← e3]
  rfl
/-- A number turned to the left by k bits. -/
def leftN (n k : Nat) : Nat := (n * 2 ^ k) % 4294967296 ||| n / 2 ^ (32 - k)

theorem left_eq (n k : Nat) (hn : n < 4294967296) (hk : k < 32) : bits .or .u32 ((n : Int) * 2 ^ k % 4294967296) ((n : Int) / 2 ^ (32 - k)) = ((leftN n (k : Int).toNat : Nat) : Int) := by
  have e1 : (n : Int) * 2 ^ k % 4294967296 = ((n * 2 ^ k % 4294967296 : Nat) : Int) := by simp
  have e2 : (n : Int) / 2 ^ (32 - k) = ((n / 2 ^ (32 - k) : Nat) : Int) := by simp
  have h2 : n / 2 ^ (32 - k) ≤ n := Nat.div_le_self _ _
  rw [e1, e2, u32_or_nat _ _ (by omega) (by omega)]
  rfl
/-- 2^64, not opened by arithmetic. -/
def U64 : Nat := 18446744073709551616

theorem getElem_putL (n : Nat) : ∀ (k j : Nat) (h : j < (putL n k).length), (putL n k)[j] = UInt8.ofNat (n / 256 ^ (k - 1 - j) % 256)
  | k + 1, 0, _ => by simp [putL]
  | k + 1, j + 1, h => by
    have := getElem_putL n k j (by simpa [putL] using h)
    simp only [putL, List.getElem_cons_succ, this]
    congr 4; omega
/-- the bytes that are written, and bytes 0 for those that are not yet -/
def putUp (n k j : Nat) : List UInt8 := (putL n k).take j ++ List.replicate (k - j) 0
theorem putUp_zero (n k : Nat) : putUp n k 0 = List.replicate k 0 := by simp [putUp]
theorem putUp_all (n k : Nat) : putUp n k k = putL n k := by simp [putUp, List.take_of_length_le, length_putL]
theorem length_putUp (n k j : Nat) (h : j ≤ k) : (putUp n k j).length = k := by simp [putUp, length_putL]; omega
theorem putUp_set (n k j : Nat) (h : j < k) : (putUp n k j).set j (UInt8.ofNat (n / 256 ^ (k - 1 - j) % 256)) = putUp n k (j + 1) := by
  have hl := length_putL n k
  unfold putUp
  rw [List.set_append_right _ _ (by simp [hl]; omega), List.take_succ_eq_append_getElem (by omega), getElem_putL, List.append_assoc]
  congr 1
  have e : j - (List.take j (putL n k)).length = 0 := by simp [hl]; omega
  rw [e, show k - j = (k - (j + 1)) + 1 by omega, List.replicate_succ]
  rfl
theorem shr_byte (n m : Nat) : ((n : Int) / 2 ^ (8 * m) % 256) = (((UInt8.ofNat (n / 256 ^ m % 256)).toNat : Nat) : Int) := by
  have h : (2 : Nat) ^ (8 * m) = 256 ^ m := by rw [Nat.pow_mul]
  have e : (n : Int) / 2 ^ (8 * m) % 256 = ((n / 2 ^ (8 * m) % 256 : Nat) : Int) := by simp
  rw [e, h]
  simp

theorem mul8_add (a c : Nat) (hc : c < 256) (h : a * 256 + c < 18446744073709551616) :
    IntKind.u64.wrap (IntKind.u64.wrap ((a : Int) * 256) + IntKind.u64.wrap (c : Int)) = ((a * 256 + c : Nat) : Int) := by
  have e1 := IntWalk.u64_in ((a : Int) * 256) (by omega)
  have e2 := IntWalk.u64_in (c : Int) (by omega)
  rw [e1, e2]
  have e3 := IntWalk.u64_in ((a : Int) * 256 + c) (by omega)
  rw [e3]
  omega
theorem leftN_zero (n : Nat) (h : n < 4294967296) : leftN n 0 = n := by
  unfold leftN
  rw [Nat.pow_zero, Nat.mul_one, Nat.mod_eq_of_lt h, Nat.div_eq_of_lt (by omega), Nat.or_zero]
theorem leftUp_lt (n : Nat) (h : n < 4294967296) : ∀ k, k < 32 → leftN n k < 4294967296 := by
  intro k hk
  unfold leftN
  have h1 : n * 2 ^ k % 4294967296 < 2 ^ 32 := Nat.mod_lt _ (by decide)
  have h2 : n / 2 ^ (32 - k) < 2 ^ 32 := Nat.lt_of_le_of_lt (Nat.div_le_self _ _) h
  exact Nat.or_lt_two_pow h1 h2
theorem leftN_bit (n k i : Nat) (hn : n < 4294967296) (hk : k < 32) : (leftN n k).testBit i = (decide (i < 32) && ((decide (k ≤ i) && n.testBit (i - k)) || n.testBit (i + (32 - k)))) := by
  unfold leftN
  rw [Nat.testBit_or, show (4294967296 : Nat) = 2 ^ 32 from rfl, Nat.testBit_mod_two_pow, Nat.mul_comm, Nat.testBit_two_pow_mul, Nat.testBit_div_two_pow]
  by_cases h : i < 32
  · simp [h, Nat.add_comm]
  · have : n.testBit (i + (32 - k)) = false := Nat.testBit_lt_two_pow (Nat.lt_of_lt_of_le hn (Nat.pow_le_pow_right (n := 2) (i := 32) (by omega) (by omega)))
    simp [h, this]
theorem testBit_far (n i : Nat) (hn : n < 4294967296) (h : 32 ≤ i) : n.testBit i = false :=
  Nat.testBit_lt_two_pow (Nat.lt_of_lt_of_le hn (Nat.pow_le_pow_right (n := 2) (i := 32) (by omega) h))
theorem leftN_bit' (n k i : Nat) (hn : n < 4294967296) (hk : k < 32) : (leftN n k).testBit i = (decide (i < 32) && n.testBit ((i + (32 - k)) % 32)) := by
  rw [leftN_bit n k i hn hk]
  by_cases h : i < 32
  · by_cases h2 : k ≤ i
    · rw [testBit_far n (i + (32 - k)) hn (by omega), show (i + (32 - k)) % 32 = i - k by omega]
      simp [h, h2]
    · rw [show (i + (32 - k)) % 32 = i + (32 - k) by omega]
      simp [h2]
  · simp [h]
theorem leftN_comp (n a b : Nat) (hn : n < 4294967296) (ha : a < 32) (hb : b < 32) : leftN (leftN n a) b = leftN n ((a + b) % 32) := by
  have hl := leftUp_lt n hn a ha
  apply Nat.eq_of_testBit_eq
  intro i
  rw [leftN_bit' _ _ _ hl hb, leftN_bit' _ _ _ hn ha, leftN_bit' _ _ _ hn (Nat.mod_lt _ (by omega))]
  by_cases h : i < 32
  · have h1 : (i + (32 - b)) % 32 < 32 := Nat.mod_lt _ (by omega)
    rw [show ((i + (32 - b)) % 32 + (32 - a)) % 32 = (i + (32 - (a + b) % 32)) % 32 by omega]
    simp [h, h1]
  · simp [h]
theorem leftN_xor (n m k : Nat) (hn : n < 4294967296) (hm : m < 4294967296) (hk : k < 32) : leftN n k ^^^ leftN m k = leftN (n ^^^ m) k := by
  have hx : n ^^^ m < 4294967296 := Nat.xor_lt_two_pow (n := 32) hn hm
  apply Nat.eq_of_testBit_eq
  intro i
  rw [Nat.testBit_xor, leftN_bit' _ _ _ hn hk, leftN_bit' _ _ _ hm hk, leftN_bit' _ _ _ hx hk, Nat.testBit_xor]
  cases decide (i < 32) <;> simp
theorem leftN_succ (n k : Nat) (h : n < 4294967296) (hk : k + 1 < 32) : leftN n (k + 1) = leftN n k * 2 % 4294967296 + leftN n k / 2147483648 := by
  have hl := leftUp_lt n h k (by omega)
  have e : leftN n k * 2 % 4294967296 + leftN n k / 2147483648 = leftN (leftN n k) 1 := by
    have := nat_join 1 (leftN n k * 2 % 4294967296) (leftN n k / 2147483648) (by omega) (by omega)
    rw [← this]
    rfl
  rw [e, leftN_comp n k 1 h (by omega) (by omega), Nat.mod_eq_of_lt hk]
theorem put_step (n j : Nat) : strOfNums [(((n / 256 ^ j : Nat) : Int) % 256)] ++ str (putL n j) = str (putL n (j + 1)) := by
  apply bs_inj
  rw [bs_str, bs, ByteArray.data_append, Array.toList_append, strOfNums_data]
  show [UInt8.ofNat (((n / 256 ^ j : Nat) : Int) % 256).toNat] ++ putL n j = putL n (j + 1)
  rw [show ((((n / 256 ^ j : Nat) : Int) % 256).toNat) = n / 256 ^ j % 256 by omega]
  rfl
theorem u64_div256 (q : Nat) (h : q < U64) : IntKind.u64.wrap ((q : Int) / 256) = ((q / 256 : Nat) : Int) := by
  unfold U64 at h
  rw [IntWalk.u64_in _ (by omega)]
  omega
theorem repeat_zero (q : Nat) : Lib.repeatL [(0 : UInt8)] q = List.replicate q 0 := by
  induction q with
  | zero => rfl
  | succ q ih => simp [Lib.repeatL, ih, List.replicate_succ]

theorem or_eq_zero (a b : Nat) : a ||| b = 0 ↔ a = 0 ∧ b = 0 := Nat.or_eq_zero_iff
theorem xor_eq_zero (a b : Nat) : a ^^^ b = 0 ↔ a = b := by
  constructor
  · intro h
    have : (a ^^^ b) ^^^ b = 0 ^^^ b := by rw [h]
    simpa [Nat.xor_assoc] using this
  · rintro rfl; simp

/-- A text's parts, of n bytes each but the last one. -/
def chunksF (n : Nat) : Nat → List UInt8 → List (List UInt8)
  | 0, _ => []
  | f + 1, l => if l = [] then [] else l.take n :: chunksF n f (l.drop n)
def chunks (n : Nat) (l : List UInt8) : List (List UInt8) := chunksF n l.length l
theorem chunks_nil (n : Nat) : chunks n [] = [] := rfl
theorem chunksF_more (n : Nat) (hn : 1 ≤ n) : ∀ (f g : Nat) (l : List UInt8), l.length ≤ f → l.length ≤ g → chunksF n f l = chunksF n g l
  | 0, 0, _, _, _ => rfl
  | 0, g + 1, l, h, _ => by
    obtain rfl : l = [] := List.eq_nil_of_length_eq_zero (by omega)
    simp [chunksF]
  | f + 1, 0, l, _, h => by
    obtain rfl : l = [] := List.eq_nil_of_length_eq_zero (by omega)
    simp [chunksF]
  | f + 1, g + 1, l, h1, h2 => by
    simp only [chunksF]
    split
    · rfl
    · rename_i hl
      have : 0 < l.length := List.length_pos_iff.2 hl
      rw [chunksF_more n hn f g (l.drop n) (by simp; omega) (by simp; omega)]
theorem chunks_cons (n : Nat) (hn : 1 ≤ n) (l : List UInt8) (h : l ≠ []) : chunks n l = l.take n :: chunks n (l.drop n) := by
  have : 0 < l.length := List.length_pos_iff.2 h
  unfold chunks
  obtain ⟨f, hf⟩ : ∃ f, l.length = f + 1 := ⟨l.length - 1, by omega⟩
  rw [hf]
  simp only [chunksF, if_neg h]
  rw [chunksF_more n hn f (l.drop n).length _ (by simp; omega) (by simp)]

theorem toList_bs (s : ByteArray) : s.toList = bs s := ByteArray.toList_eq s
theorem empty_str (l : List UInt8) : (str l).toList.isEmpty = l.isEmpty := by rw [toList_bs]; rfl
theorem extract_str (l : List UInt8) (a b : Nat) : (str l).extract a b = str ((l.drop a).take (b - a)) := by
  apply bs_inj
  have := Lib.extract_toList (str l) a b
  rw [toList_bs] at this
  exact this

theorem take_min {α : Type} (r : List α) (n : Nat) : r.take (min n r.length) = r.take n := by
  by_cases h : n ≤ r.length
  · rw [Nat.min_eq_left h]
  · rw [Nat.min_eq_right (by omega), List.take_of_length_le (Nat.le_refl _), List.take_of_length_le (by omega)]
theorem drop_min {α : Type} (r : List α) (n : Nat) : r.drop (min n r.length) = r.drop n := by
  by_cases h : n ≤ r.length
  · rw [Nat.min_eq_left h]
  · rw [Nat.min_eq_right (by omega), List.drop_of_length_le (Nat.le_refl _), List.drop_of_length_le (by omega)]

theorem chunks_length (n : Nat) (hn : 1 ≤ n) : ∀ (f : Nat) (l : List UInt8), l.length ≤ f → (chunks n l).length ≤ l.length
  | 0, l, h => by
    obtain rfl : l = [] := List.eq_nil_of_length_eq_zero (by omega)
    simp [chunks_nil]
  | f + 1, l, h => by
    by_cases h0 : l = []
    · subst h0; simp [chunks_nil]
    · have hp : 0 < l.length := List.length_pos_iff.2 h0
      rw [chunks_cons n hn l h0]
      have := chunks_length n hn f (l.drop n) (by simp; omega)
      simp at this ⊢
      omega
theorem chunks_append (n : Nat) (hn : 1 ≤ n) (r : List UInt8) : ∀ (f : Nat) (l : List UInt8), l.length ≤ f → n ∣ l.length → chunks n (l ++ r) = chunks n l ++ chunks n r
  | 0, l, h, _ => by
    obtain rfl : l = [] := List.eq_nil_of_length_eq_zero (by omega)
    simp [chunks_nil]
  | f + 1, l, h, hd => by
    by_cases h0 : l = []
    · subst h0; simp [chunks_nil]
    · have hp : 0 < l.length := List.length_pos_iff.2 h0
      have hle : n ≤ l.length := Nat.le_of_dvd hp hd
      rw [chunks_cons n hn l h0, chunks_cons n hn (l ++ r) (by simp [h0]), List.take_append_of_le_length hle, List.drop_append_of_le_length hle, chunks_append n hn r f (l.drop n) (by simp; omega) (by simp; exact Nat.dvd_sub hd (Nat.dvd_refl n))]
      rfl
theorem chunks_short (n : Nat) (hn : 1 ≤ n) (l : List UInt8) (h0 : l ≠ []) (h : l.length ≤ n) : chunks n l = [l] := by
  rw [chunks_cons n hn l h0, List.take_of_length_le h, List.drop_of_length_le h, chunks_nil]

/-- how many bytes 0 come behind -/
def padN (n t : Nat) : Nat := (t - n % t) % t
theorem padN_lt (n t : Nat) (h : 0 < t) : padN n t < t := Nat.mod_lt _ h
theorem pad_done (n t : Nat) (h : 0 < t) : (n + padN n t) % t = 0 := by
  unfold padN
  have h1 := Nat.mod_lt n h
  by_cases h0 : n % t = 0
  · rw [h0, Nat.sub_zero, Nat.mod_self, Nat.add_zero]; exact h0
  · rw [Nat.mod_eq_of_lt (show t - n % t < t by omega), Nat.add_mod, Nat.mod_eq_of_lt (show t - n % t < t by omega), show n % t + (t - n % t) = t by omega, Nat.mod_self]
theorem pad_notyet (n t j : Nat) (h : 0 < t) (hj : j < padN n t) : (n + j) % t ≠ 0 := by
  unfold padN at hj
  have h1 := Nat.mod_lt n h
  by_cases h0 : n % t = 0
  · rw [h0, Nat.sub_zero, Nat.mod_self] at hj; omega
  · rw [Nat.mod_eq_of_lt (show t - n % t < t by omega)] at hj
    rw [Nat.add_mod, Nat.mod_eq_of_lt (show j < t by omega), Nat.mod_eq_of_lt (show n % t + j < t by omega)]
    omega

theorem parts_step (n : Nat) (hn : 1 ≤ n) (S l r : List UInt8) (h : l ++ r = S) (hd : n ∣ l.length ∨ r = []) (h0 : r ≠ []) :
    (l ++ r.take n) ++ r.drop n = S ∧ (n ∣ (l ++ r.take n).length ∨ r.drop n = []) ∧ chunks n (l ++ r.take n) = chunks n l ++ [r.take n] := by
  have hpos : 0 < r.length := List.length_pos_iff.2 h0
  have hr0 : r.take n ≠ [] := by
    intro h
    have := congrArg List.length h
    rw [List.length_take, List.length_nil] at this
    omega
  refine ⟨by rw [List.append_assoc, List.take_append_drop]; exact h, ?_, ?_⟩
  · by_cases hge : n ≤ r.length
    · refine Or.inl ?_
      rcases hd with h | h
      · rw [List.length_append, List.length_take, Nat.min_eq_left hge]
        exact Nat.dvd_add h (Nat.dvd_refl n)
      · exact absurd h h0
    · exact Or.inr (List.drop_of_length_le (by omega))
  · rcases hd with h | h
    · rw [chunks_append n hn _ _ l (Nat.le_refl _) h, chunks_short n hn _ hr0 (by simp; omega)]
    · exact absurd h h0

theorem toList_beq (a b : ByteArray) : (a.toList == b.toList) = decide (a = b) := by
  rw [toList_bs, toList_bs]
  by_cases h : a = b
  · subst h; simp
  · have h2 : ¬ bs a = bs b := fun e => h (bs_inj e)
    rw [decide_eq_false h]
    simpa using h2

theorem ne_more (a : ByteArray) (c : UInt8) : (a.toList == (a ++ (⟨#[c]⟩ : ByteArray)).toList) = false := by
  rw [toList_beq]
  refine decide_eq_false fun h => ?_
  have := congrArg ByteArray.size h
  rw [ByteArray.size_append] at this
  have h1 : (⟨#[c]⟩ : ByteArray).size = 1 := rfl
  omega

theorem wf_u16 {c : Int} (h : (Lit.int .u16 c).wf = true) : 0 ≤ c ∧ c ≤ 65535 := by simpa [Lit.wf, IntKind.min, IntKind.max, IntKind.signed, IntKind.bits] using h
theorem wf_u8 {c : Int} (h : (Lit.int .u8 c).wf = true) : 0 ≤ c ∧ c ≤ 255 := by simpa [Lit.wf, IntKind.min, IntKind.max, IntKind.signed, IntKind.bits] using h
theorem wf_u32 {c : Int} (h : (Lit.int .u32 c).wf = true) : 0 ≤ c ∧ c ≤ 4294967295 := by simpa [Lit.wf, IntKind.min, IntKind.max, IntKind.signed, IntKind.bits] using h
theorem wf_u64 {c : Int} (h : (Lit.int .u64 c).wf = true) : 0 ≤ c ∧ c ≤ 18446744073709551615 := by simpa [Lit.wf, IntKind.min, IntKind.max, IntKind.signed, IntKind.bits] using h
theorem wf_i16 {c : Int} (h : (Lit.int .i16 c).wf = true) : -32768 ≤ c ∧ c ≤ 32767 := by simpa [Lit.wf, IntKind.min, IntKind.max, IntKind.signed, IntKind.bits] using h
theorem wf_i64 {c : Int} (h : (Lit.int .i64 c).wf = true) : -9223372036854775808 ≤ c ∧ c ≤ 9223372036854775807 := by simpa [Lit.wf, IntKind.min, IntKind.max, IntKind.signed, IntKind.bits] using h

theorem ne_set (a : ByteArray) (k : Nat) (hk : k < (bs a).length) : (a.toList == (⟨((bs a).set k ((bs a)[k] ^^^ 1)).toArray⟩ : ByteArray).toList) = false := by
  rw [toList_beq]
  refine decide_eq_false fun h => ?_
  have h2 : bs a = (bs a).set k ((bs a)[k] ^^^ 1) := congrArg bs h
  have h3 : (bs a)[k] = ((bs a).set k ((bs a)[k] ^^^ 1))[k]'(by simpa using hk) := getElem_congr_coll h2
  rw [List.getElem_set_self] at h3
  have h4 := congrArg (fun c => (bs a)[k] ^^^ c) h3
  simp only [UInt8.xor_self, ← UInt8.xor_assoc, UInt8.zero_xor] at h4
  exact absurd h4 (by decide)

theorem nat_u64 {c : Int} (h : (Lit.int .u64 c).wf = true) : ∃ n : Nat, c = n ∧ n < U64 := by
  have := wf_u64 h
  exact ⟨c.toNat, by omega, by unfold U64; omega⟩
theorem put_k (b : Int) : ∃ k : Nat, min (max b 0) 8 = (k : Int) ∧ k ≤ 8 := ⟨(min (max b 0) 8).toNat, by omega, by omega⟩

theorem foldN_add (l : List UInt8) : ∀ a : Nat, l.foldl (fun a c => a * 256 + c.toNat) a = a * 256 ^ l.length + takeN l := by
  induction l with
  | nil => intro a; simp [takeN]
  | cons c l ih =>
    intro a
    simp only [List.foldl_cons, List.length_cons, Nat.pow_succ, takeN, Nat.zero_mul, Nat.zero_add]
    rw [ih, ih c.toNat, Nat.add_mul, Nat.mul_assoc, Nat.mul_comm 256, Nat.add_assoc]
theorem takeN_cons (c : UInt8) (l : List UInt8) : takeN (c :: l) = c.toNat * 256 ^ l.length + takeN l := by
  have := foldN_add l c.toNat
  simpa [takeN] using this
theorem takeN_putL (n k : Nat) : takeN (putL n k) = n % 256 ^ k := by
  induction k with
  | zero => simp [putL, takeN, Nat.mod_one]
  | succ k ih =>
    rw [putL, takeN_cons, length_putL, ih]
    have h1 : (UInt8.ofNat (n / 256 ^ k % 256)).toNat = n / 256 ^ k % 256 := by simp
    rw [h1, Nat.pow_succ, Nat.mod_mul]
    rw [Nat.mul_comm, Nat.add_comm]
theorem putL_mod (a b k : Nat) (h : a % 256 ^ k = b % 256 ^ k) : putL a k = putL b k := by
  induction k with
  | zero => rfl
  | succ k ih =>
    have h1 : a % 256 ^ k = b % 256 ^ k := by
      have := congrArg (· % 256 ^ k) h
      simpa [Nat.pow_succ, Nat.mod_mul_right_mod] using this
    have h2 : a / 256 ^ k % 256 = b / 256 ^ k % 256 := by
      have := congrArg (· / 256 ^ k) h
      simpa [Nat.pow_succ, Nat.mod_mul_right_div_self] using this
    rw [putL, putL, ih h1, h2]
theorem putL_takeN (l : List UInt8) : putL (takeN l) l.length = l := by
  induction l with
  | nil => rfl
  | cons c l ih =>
    have hlt := takeN_lt l
    have hp : 0 < 256 ^ l.length := Nat.pos_of_ne_zero (by simp)
    have hp2 : putL (takeN (c :: l)) l.length = putL (takeN l) l.length := by
      apply putL_mod
      rw [takeN_cons, Nat.mul_comm]
      simp
    rw [List.length_cons, putL, hp2, ih, takeN_cons, Nat.mul_comm, Nat.mul_add_div hp, Nat.div_eq_of_lt hlt, Nat.add_zero]
    congr 1
    have := c.toNat_lt
    rw [Nat.mod_eq_of_lt (by omega)]
    exact UInt8.ofNat_toNat

theorem mask_u64 (N k : Nat) (hN : N < U64) (hk : k < 8) :
    bits .and .u64 (N : Int) (IntKind.u64.wrap (IntKind.u64.wrap (2 ^ (8 * k)) - 1)) = ((N % 256 ^ k : Nat) : Int) := by
  have h1 : (2 : Nat) ^ (8 * k) = 256 ^ k := by rw [Nat.pow_mul]
  have h2 : (256 : Nat) ^ k ≤ 256 ^ 7 := Nat.pow_le_pow_right (by omega) (by omega)
  have h3 : 0 < (256 : Nat) ^ k := Nat.pow_pos (by omega)
  have h4 : (256 : Nat) ^ 7 = 72057594037927936 := by decide
  rw [h4] at h2
  have e1 : ((2 : Int) ^ (8 * k)) = ((256 ^ k : Nat) : Int) := by rw [← h1]; simp
  have e2 := IntWalk.u64_in (((256 ^ k : Nat) : Int)) (by omega)
  have e3 := IntWalk.u64_in (((256 ^ k : Nat) : Int) - 1) (by omega)
  have e4 : (((256 ^ k : Nat) : Int) - 1) = ((256 ^ k - 1 : Nat) : Int) := by omega
  have hb : 256 ^ k - 1 < 18446744073709551616 := by omega
  have e5 := u64_and_nat N (256 ^ k - 1) hN hb
  rw [e1, e2, e3, e4, e5, ← h1, Nat.and_two_pow_sub_one_eq_mod]

theorem bytesLess_putL (n m : Nat) : ∀ k, Op.bytesLess (putL n k) (putL m k) = decide (n % 256 ^ k < m % 256 ^ k)
  | 0 => by simp [putL, Op.bytesLess, Nat.mod_one]
  | k + 1 => by
    have ih := bytesLess_putL n m k
    have hp : 0 < 256 ^ k := Nat.pow_pos (by omega)
    have h1 := Nat.mod_lt n hp
    have h2 := Nat.mod_lt m hp
    have ha : n / 256 ^ k % 256 < 256 := Nat.mod_lt _ (by omega)
    have hb : m / 256 ^ k % 256 < 256 := Nat.mod_lt _ (by omega)
    have en : n % 256 ^ (k + 1) = n % 256 ^ k + 256 ^ k * (n / 256 ^ k % 256) := by rw [Nat.pow_succ, Nat.mod_mul]
    have em : m % 256 ^ (k + 1) = m % 256 ^ k + 256 ^ k * (m / 256 ^ k % 256) := by rw [Nat.pow_succ, Nat.mod_mul]
    rw [putL, putL, Op.bytesLess, ih, en, em]
    generalize n % 256 ^ k = r at *
    generalize m % 256 ^ k = t at *
    generalize n / 256 ^ k % 256 = a at *
    generalize m / 256 ^ k % 256 = b at *
    generalize 256 ^ k = p at *
    have e1 : (UInt8.ofNat a < UInt8.ofNat b) ↔ a < b := by
      rw [UInt8.lt_iff_toNat_lt]; simp; rw [Nat.mod_eq_of_lt ha, Nat.mod_eq_of_lt hb]
    have e2 : (UInt8.ofNat a == UInt8.ofNat b) = decide (a = b) := by
      by_cases h : a = b
      · subst h; simp
      · rw [decide_eq_false h]
        simp only [beq_eq_false_iff_ne]
        intro h3
        have := congrArg UInt8.toNat h3
        simp at this
        rw [Nat.mod_eq_of_lt ha, Nat.mod_eq_of_lt hb] at this
        exact h this
    rw [e2]
    simp only [e1]
    rcases Nat.lt_trichotomy a b with h | h | h
    · have : p * a + p ≤ p * b := by rw [← Nat.mul_succ]; exact Nat.mul_le_mul_left _ h
      simp [h]; omega
    · subst h; simp
    · have : p * b + p ≤ p * a := by rw [← Nat.mul_succ]; exact Nat.mul_le_mul_left _ h
      have h4 : ¬ a < b := by omega
      have h5 : ¬ a = b := by omega
      simp [h4, h5]; omega
theorem putL_inj8 (n m : Nat) (hn : n < U64) (hm : m < U64) (h : putL n 8 = putL m 8) : n = m := by
  have := congrArg takeN h
  rw [takeN_putL, takeN_putL] at this
  have h1 : n % 256 ^ 8 = n := Nat.mod_eq_of_lt hn
  have h2 : m % 256 ^ 8 = m := Nat.mod_eq_of_lt hm
  rw [h1, h2] at this
  exact this

theorem chunks_flatten (n : Nat) (hn : 1 ≤ n) : ∀ (f : Nat) (l : List UInt8), l.length ≤ f → (chunks n l).flatten = l
  | 0, l, h => by
    obtain rfl : l = [] := List.eq_nil_of_length_eq_zero (by omega)
    rfl
  | f + 1, l, h => by
    by_cases h0 : l = []
    · subst h0; rfl
    · have hp : 0 < l.length := List.length_pos_iff.2 h0
      rw [chunks_cons n hn l h0, List.flatten_cons, chunks_flatten n hn f (l.drop n) (by simp; omega), List.take_append_drop]
theorem chunks_get (n : Nat) (hn : 1 ≤ n) : ∀ (f : Nat) (l : List UInt8), l.length ≤ f → ∀ k (h : k < (chunks n l).length), (chunks n l)[k] ≠ [] ∧ (chunks n l)[k].length ≤ n ∧ (k + 1 < (chunks n l).length → (chunks n l)[k].length = n)
  | 0, l, h, k, hk => by
    obtain rfl : l = [] := List.eq_nil_of_length_eq_zero (by omega)
    simp [chunks_nil] at hk
  | f + 1, l, h, k, hk => by
    by_cases h0 : l = []
    · subst h0; simp [chunks_nil] at hk
    · have hp : 0 < l.length := List.length_pos_iff.2 h0
      have e := chunks_cons n hn l h0
      cases k with
      | zero =>
        simp only [e, List.getElem_cons_zero, List.length_cons, List.length_take]
        refine ⟨fun h => ?_, by omega, fun h => ?_⟩
        · have := congrArg List.length h
          rw [List.length_take, List.length_nil] at this
          omega
        · have h2 := chunks_length n hn _ (l.drop n) (Nat.le_refl _)
          rw [List.length_drop] at h2
          omega
      | succ k =>
        have := chunks_get n hn f (l.drop n) (by simp; omega) k (by rw [e] at hk; simpa using hk)
        simp only [e, List.getElem_cons_succ, List.length_cons]
        exact ⟨this.1, this.2.1, fun h => this.2.2 (by omega)⟩

end Go.Proofs.YtmblknknbbdmeaaGreat
/- Memory words: a block that is known whole, and what leaves it so. -/
namespace Go.Proofs.YtmblknknbbdmeaaGreat
open Go Go.RowKit
set_option linter.unusedVariables false
set_option linter.unusedSimpArgs false

/-- block g is just the cells cs of element type t, none frozen -/
def Blk (w : World) (g : Nat) (t : TypeId) (cs : Array Value) : Prop := w.heap[g]? = some (.cells cs t (0, 0))
section
variable {w w' : World} {g : Nat} {t : TypeId} {cs : Array Value}
theorem Blk.lt (h : Blk w g t cs) : g < w.heap.size := by
  rcases Nat.lt_or_ge g w.heap.size with hlt | hge
  · exact hlt
  · unfold Blk at h; rw [Array.getElem?_eq_none hge] at h; cases h
theorem Blk.cell (h : Blk w g t cs) (i : Nat) : w.cell? ⟨g, i, none⟩ = cs[i]? := cell_of_row w g i cs t (0, 0) h
theorem Blk.at (h : Blk w g t cs) {i : Nat} {v : Value} (hv : cs[i]? = some v) : w.cell? ⟨g, i, none⟩ = some v := (h.cell i).trans hv
theorem Blk.atL {l : List Value} (h : Blk w g t l.toArray) {i : Nat} {v : Value} (hv : l[i]? = some v) : w.cell? ⟨g, i, none⟩ = some v := h.at (by simpa using hv)
theorem Blk.setL {l : List Value} (h : Blk w g t l.toArray) (i : Nat) (u : Value) : Blk (w.setCell ⟨g, i, none⟩ u) g t (l.set i u).toArray := by
  unfold Blk at h ⊢
  simp [World.setCell, Array.getElem?_modify, h]
theorem Blk.frozen (h : Blk w g t cs) (i : Nat) : w.frozen? ⟨g, i, none⟩ = false := frozen_of_row w g i cs t h
theorem Blk.new (w : World) (t : TypeId) (cs : Array Value) : Blk (w.alloc (.cells cs t)) w.heap.size t cs := heap_alloc_new w _
theorem Blk.drewN (h : Blk w g t cs) (n : Nat) : Blk (w.drewN n) g t cs := by unfold Blk at *; simpa using h
theorem Blk.alloc (h : Blk w g t cs) (o : Obj) : Blk (w.alloc o) g t cs := (Below.heap_alloc w o g h.lt).trans h
theorem Blk.set_ (h : Blk w g t cs) (i : Nat) (u : Value) : Blk (w.setCell ⟨g, i, none⟩ u) g t (cs.setIfInBounds i u) := by
  unfold Blk at h ⊢
  simp [World.setCell, Array.getElem?_modify, h]
theorem Blk.row (h : Blk w g t cs) (cs' : Array Value) : Blk (w.setRow g cs') g t cs' := by
  unfold Blk at h ⊢
  simp [World.setRow, Array.getElem?_modify, h]
theorem Blk.rowfar (h : Blk w g t cs) {b : Nat} (hne : g ≠ b) (cs' : Array Value) : Blk (w.setRow b cs') g t cs := by
  unfold Blk at h ⊢
  simp only [World.setRow, Array.getElem?_modify]
  rw [if_neg (fun e => hne e.symm)]; exact h
theorem Blk.far (h : Blk w g t cs) {p : Addr} (hp : g ≠ p.block) (u : Value) : Blk (w.setCell p u) g t cs := (Below.heap_setCell w p u g hp).trans h
theorem Blk.below {B : Nat} (h : Blk w g t cs) (hb : Below B w w') (hg : g < B) : Blk w' g t cs := (hb.block g hg).trans h
theorem Blk.bel (h : Blk w g t cs) (hb : Below w.heap.size w w') : Blk w' g t cs := h.below hb h.lt
theorem Blk.grown {row : Option Nat} (h : Blk w g t cs) (hb : w.grownBy w' row) (hg : some g ≠ row) : Blk w' g t cs := (hb.block g h.lt hg).trans h
theorem Blk.ne_ {g' : Nat} {t' : TypeId} {cs' : Array Value} (h : Blk w g t cs) (h' : Blk w g' t' cs') (hne : t ≠ t') : g ≠ g' := by
  rintro rfl
  unfold Blk at h h'
  rw [h] at h'
  injection h' with h'
  injection h' with _ ht
  exact hne ht
end
/-- a store into a block behind B -/
theorem bsc {B : Nat} {w w' : World} (h : Below B w w') {p : Addr} (hp : B ≤ p.block) (u : Value) : Below B w (w'.setCell p u) := h.setCell hp u
theorem bsr {B : Nat} {w w' : World} (h : Below B w w') {b : Nat} (hp : B ≤ b) (hs : B ≤ w'.heap.size) (cs : Array Value) : Below B w (w'.setRow b cs) := h.grown (gbrow w' b cs) hs (fun k hk => by injection hk with e; omega)

theorem addr_add (g o j : Nat) : (⟨g, o, none⟩ : Addr).add j = ⟨g, o + j, none⟩ := by unfold Addr.add; split <;> simp_all
def aggB (d : TypeDesc) : Bool := match d with | .struct _ | .array _ _ => true | _ => false
/-- a struct or an array, loaded whole -/
theorem ld_row {P : Program} {w : World} (g o n ty : Nat) (cs : List Value) (d : TypeDesc) (hu : P.underlying ty = some d) (hd : aggB d = true) (hi : (P.info? ty).map (·.size) = some n) (hn : cs.length = n)
    (hc : ∀ j v, cs[j]? = some v → w.cell? ⟨g, o + j, none⟩ = some v) : (Instr.loadAt ty (.pointer (some ⟨g, o, none⟩))).run P w = .ok (.agg cs.toArray) w := by
  have hl : (loadCells ⟨g, o, none⟩ cs.length).run P w = .ok cs.toArray w := run_loadCells_list (P := P) w ⟨g, o, none⟩ cs (fun j v hv => by rw [addr_add]; exact hc j v hv)
  cases hq : P.info? ty with
  | none => simp [hq] at hi
  | some i =>
    have hs : i.size = n := by simpa [hq] using hi
    have hagg : (isAgg ty).run P w = .ok true w := by
      unfold isAgg
      rw [Sem.run_bind, run_underlying hu w]
      cases d <;> simp_all [aggB]
    rw [hn] at hl
    simp [Instr.loadAt, Instr.sureAddr, loadVar, Sem.run_bind, hagg, sizeOf, typeInfo, hq, hs, hl]
/-- .. stored whole -/
theorem st_row {P : Program} {w : World} (g o n ty : Nat) (t : TypeId) (cs cur : List Value) (hi : (P.info? ty).map (·.size) = some n) (hn : cs.length = n) (hb : Blk w g t cur.toArray) (hf : o + n ≤ cur.length) (h1 : ∀ v ∈ cs, v.oneCell' = true) :
    (Instr.storeAt ty (.pointer (some ⟨g, o, none⟩)) (.agg cs.toArray)).run P w = .ok () (w.setRow g (cur.take o ++ cs ++ cur.drop (o + n)).toArray) := by
  have hst := run_storeCells_at P g o t cs 0 cur.toArray w hb (by simpa [hn] using hf) h1
  cases hq : P.info? ty with
  | none => simp [hq] at hi
  | some i =>
    have hs : i.size = n := by simpa [hq] using hi
    have e : (Value.agg cs.toArray).cells = cs.toArray := rfl
    simp only [Nat.add_zero, hn] at hst
    simp [Instr.storeAt, Instr.sureAddr, storeVar, Sem.run_bind, sizeOf, typeInfo, hq, hs, e, hn, hst]
theorem Blk.setRow_self {w : World} {g : Nat} {t : TypeId} {cs : Array Value} (h : Blk w g t cs) : w.setRow g cs = w := Go.setRow_self w g cs t (0, 0) h
/-- a block's own content stored into it -/
theorem st_same {P : Program} {w : World} (g n ty : Nat) (t : TypeId) (cs : List Value) (hi : (P.info? ty).map (·.size) = some n) (hn : cs.length = n) (hb : Blk w g t cs.toArray) (h1 : ∀ v ∈ cs, v.oneCell' = true) :
    (Instr.storeAt ty (.pointer (some ⟨g, 0, none⟩)) (.agg cs.toArray)).run P w = .ok () w := by
  rw [st_row g 0 n ty t cs cs hi hn hb (by omega) h1, List.take_zero, List.nil_append, List.drop_of_length_le (by omega), List.append_nil, hb.setRow_self]
/-- a block's whole content stored anew -/
theorem st_all {P : Program} {w : World} (g n ty : Nat) (t : TypeId) (cs cur : List Value) (hi : (P.info? ty).map (·.size) = some n) (hn : cs.length = n) (hc : cur.length = n) (hb : Blk w g t cur.toArray) (h1 : ∀ v ∈ cs, v.oneCell' = true) :
    (Instr.storeAt ty (.pointer (some ⟨g, 0, none⟩)) (.agg cs.toArray)).run P w = .ok () (w.setRow g cs.toArray) := by
  rw [st_row g 0 n ty t cs cur hi hn hb (by omega) h1, List.take_zero, List.nil_append, List.drop_of_length_le (by omega), List.append_nil]
theorem ld_all {P : Program} {w : World} (g n ty : Nat) (t : TypeId) (cs : List Value) (d : TypeDesc) (hu : P.underlying ty = some d) (hd : aggB d = true) (hi : (P.info? ty).map (·.size) = some n) (hn : cs.length = n) (hb : Blk w g t cs.toArray) :
    (Instr.loadAt ty (.pointer (some ⟨g, 0, none⟩))).run P w = .ok (.agg cs.toArray) w :=
  ld_row g 0 n ty cs d hu hd hi hn fun j v hv => by rw [Nat.zero_add]; exact hb.atL hv
/-- a function whose one result is a struct or an array in a block -/
theorem res_all {P : Program} {w : World} {fn : Func} {p : Tmp} {ty : TypeId} (h : fn.results = #[.cell p ty]) (g n : Nat) (t : TypeId) (cs : List Value) (d : TypeDesc) (hu : P.underlying ty = some d) (hd : aggB d = true) (hi : (P.info? ty).map (·.size) = some n) (hn : cs.length = n) (hb : Blk w g t cs.toArray)
    (tmps : Array Value) (hp : tmps.getD p undef = .pointer (some ⟨g, 0, none⟩)) : (results fn tmps).run P w = .ok (.agg cs.toArray) w :=
  results_cell_row h tmps w g t cs.toArray (0, 0) d hp hb hu (by cases d <;> simp_all [aggB]) (by rw [hi]; simp [hn])
/-- an operation whose value is known, picked by its slot -/
theorem wpL_val {P : Program} {ops : Array Oper} {rest : List Oper} {o : Oper} {a : Act} {w : World} {Q : Exit → Act → World → Prop} (d : Tmp) (hd : o.dst = some d) (hgd : o.guard = none) (v : Value)
    (hr : (execOp a.eval o).run P w = .ok (.value v) w) (h : wpList P ops Q rest (a.put (some d) v) w) : wpList P ops Q (o :: rest) a w :=
  wpList_plain hgd fun K hK => by
    unfold Oper.wp
    rw [hr]
    simp only [Oper.upon, hd]
    exact hK _ _ h
/-- a load whose run is known -/
theorem wpL_load {P : Program} {ops : Array Oper} {rest : List Oper} {o : Oper} {a : Act} {w : World} {Q : Exit → Act → World → Prop} (hgd : o.guard = none) (ty : TypeId) (x : Operand) (ho : o.op = .load ty x) {pv v : Value} (hx : a.eval x = pv)
    (hr : (Instr.loadAt ty pv).run P w = .ok v w) (h : wpList P ops Q rest (a.put o.dst v) w) : wpList P ops Q (o :: rest) a w :=
  wpList_plain hgd fun K hK => by
    unfold Oper.wp execOp
    simp only [ho, hx, Sem.run_bind, hr, Result.andThen_ok, Sem.run_pure]
    exact hK _ _ h
/-- a store whose run is known -/
theorem wpL_store {P : Program} {ops : Array Oper} {rest : List Oper} {o : Oper} {a : Act} {w w' : World} {Q : Exit → Act → World → Prop} (hgd : o.guard = none) (ty : TypeId) (x y : Operand) (ho : o.op = .store ty x y) {pv v : Value} (hx : a.eval x = pv) (hy : a.eval y = v)
    (hr : (Instr.storeAt ty pv v).run P w = .ok () w') (h : wpList P ops Q rest (a.put o.dst undef) w') : wpList P ops Q (o :: rest) a w :=
  wpList_plain hgd fun K hK => by
    unfold Oper.wp execOp
    simp only [ho, hx, hy, Sem.run_bind, hr, Result.andThen_ok, Sem.run_pure]
    exact hK _ _ h
/-- what the walk makes of a store of a struct or an array: cells stored one behind the other (lay it with the length of 'cs' open) -/
theorem sc_row {P : Program} {w : World} (g o : Nat) (t : TypeId) (cs cur : List Value) (hb : Blk w g t cur.toArray) (hf : o + cs.length ≤ cur.length) (h1 : ∀ v ∈ cs, v.oneCell' = true) :
    (storeCells ⟨g, o, none⟩ cs).run P w = .ok () (w.setRow g (cur.take o ++ cs ++ cur.drop (o + cs.length)).toArray) := by
  have hst := run_storeCells_at P g o t cs 0 cur.toArray w hb (by simpa using hf) h1
  simpa using hst
theorem sc_all {P : Program} {w : World} (g : Nat) (t : TypeId) (cs cur : List Value) (hb : Blk w g t cur.toArray) (hf : cs.length = cur.length) (h1 : ∀ v ∈ cs, v.oneCell' = true) :
    (storeCells ⟨g, 0, none⟩ cs).run P w = .ok () (w.setRow g cs.toArray) := by
  rw [sc_row g 0 t cs cur hb (by omega) h1, List.take_zero, List.nil_append, List.drop_of_length_le (by omega), List.append_nil]
theorem sc_same {P : Program} {w : World} (g : Nat) (t : TypeId) (cs : List Value) (hb : Blk w g t cs.toArray) (h1 : ∀ v ∈ cs, v.oneCell' = true) : (storeCells ⟨g, 0, none⟩ cs).run P w = .ok () w := by
  rw [sc_all g t cs cs hb rfl h1, hb.setRow_self]
/-- the last block's whole content stored anew -/
theorem sc_new {P : Program} (w : World) (t : TypeId) (cs : List Value) (h1 : ∀ v ∈ cs, v.oneCell' = true) (cur : Array Value) (hc : cur.size = cs.length) : (storeCells ⟨w.heap.size, 0, none⟩ cs).run P (w.alloc (.cells cur t)) = .ok () (w.alloc (.cells cs.toArray t)) := by
  have h := sc_all (P := P) w.heap.size t cs cur.toList (w := w.alloc (.cells cur t)) (by rw [Array.toArray_toList]; exact Blk.new w t cur) (by rw [Array.length_toList]; exact hc.symm) h1
  rw [h]
  congr 1
  unfold World.setRow World.alloc
  congr 1
  apply Array.ext
  · simp
  · intro i h1 h2
    simp only [Array.getElem_modify]
    split
    · rename_i he
      subst he
      simp
    · rename_i he
      have : i < w.heap.size := by simp at h1; omega
      simp [Array.getElem_push, this]
def flatB (P : Program) (e : TypeId) : Bool := match P.underlying e with | some (.struct _) => false | some (.array _ _) => false | none => false | _ => true
/-- an array's value, indexed; its elements one cell each -/
theorem run_index_row {P : Program} {cs : List Value} {n : Nat} (t e : TypeId) (hu : P.underlying t = some (.array n e)) (he : (P.info? e).map (·.size) = some 1) (hf : flatB P e = true) (hn : cs.length = n) (k : Nat) (v : Value) (hv : cs[k]? = some v) (W : World) :
    (Instr.index t (.agg cs.toArray) (.int .i64 k)).run P W = .ok v W := by
  have hk : k < n := by rw [← hn]; exact (List.getElem?_eq_some_iff.1 hv).1
  cases hq : P.info? e with
  | none => simp [hq] at he
  | some i =>
    have hs : i.size = 1 := by simpa [hq] using he
    unfold flatB at hf
    cases hd : P.underlying e with
    | none => rw [hd] at hf; cases hf
    | some d =>
      rw [hd] at hf
      have hagg : (isAgg e).run P W = .ok false W := by
        unfold isAgg
        rw [Sem.run_bind, run_underlying hd W]
        cases d <;> simp_all
      simp [Instr.index, asIntOf, Sem.run_bind, run_underlying hu W, part, hagg, sizeOf, typeInfo, hq, hs, hk, hv]
theorem cellsU8_one (l : List UInt8) : ∀ v ∈ cellsU8 l, v.oneCell' = true := by
  intro v hv; simp only [cellsU8, List.mem_map] at hv; obtain ⟨x, _, rfl⟩ := hv; rfl
theorem madeCells_toArray {α : Type} (l : List α) : l.toArray.toList = l := rfl
theorem ret_int {k : IntKind} {a b : Int} (h : a = b) : Ending.returned (.int k a) = .returned (.int k b) := by rw [h]
theorem size_all (w : World) (o : Obj) : (w.alloc o).heap.size = w.heap.size + 1 := by simp
/-- cells of numbers of 32 bits -/
def c32 (l : List Nat) : List Value := l.map fun (x : Nat) => .int .u32 (x : Int)
def arr32 (l : List Nat) : Value := .agg (c32 l).toArray
theorem length_c32 (l : List Nat) : (c32 l).length = l.length := by simp [c32]
theorem c32_get {l : List Nat} {i : Nat} (h : i < l.length) : (c32 l)[i]? = some (.int .u32 (l.getD i 0 : Nat)) := by
  simp [c32, h]
theorem c32_one (l : List Nat) : ∀ v ∈ c32 l, v.oneCell' = true := by
  intro v hv; simp only [c32, List.mem_map] at hv; obtain ⟨x, _, rfl⟩ := hv; rfl
theorem c32_set (l : List Nat) (i x : Nat) : (c32 l).set i (.int .u32 (x : Int)) = c32 (l.set i x) := by simp [c32, List.map_set]
/-- a part of a text -/
theorem slice_str {P : Program} (t : TypeId) (hu : P.underlying t = some .string) (s : ByteArray) (a b : Nat) (x y : Int) (hx : x = a) (hy : y = b) (h1 : a ≤ b) (h2 : b ≤ s.size) (W : World) :
    (Instr.slice t (.string s) (some (.int .i64 x)) (some (.int .i64 y)) none).run P W = .ok (.string (s.extract a b)) W := by
  subst hx hy
  have e1 : (a : Int) ≤ (b : Int) := by omega
  have e2 : (b : Int) ≤ (s.size : Int) := by omega
  simp [Instr.slice, run_underlying hu, Instr.sliceBounds, run_sliceBound, h1, h2]
/-- bytes in a block, made a text -/
theorem blk_str {P : Program} {w : World} {g n cap : Nat} {T : TypeId} {l : List UInt8} (src : TypeId) {e dst : TypeId} (hs : P.underlying src = some (.slice e)) (he : P.underlying e = some (.int .u8)) (hd : P.underlying dst = some .string)
    (h : Blk w g T (cellsU8 l).toArray) (hl : l.length = n) : (Go.convert src dst (.slice (some ⟨g, 0, none⟩) n cap)).run P w = .ok (.string (str l)) w := by
  have := run_convert_bytes_arg w src e hs he g 0 n cap (l.map fun c => (c.toNat : Int)) (by simpa using hl) (fun i hi => by
    rw [Nat.zero_add]
    rw [h.atL (cellsU8_get l i (by omega))]
    simp [List.getD_eq_getElem?_getD, List.getElem?_eq_getElem (show i < l.length by omega)]) dst hd
  rw [strNums] at this
  exact this
end Go.Proofs.YtmblknknbbdmeaaGreat
/- a map of the call's own, keyed by int, told by a list of its entries. -/
namespace Go.Proofs.YtmblknknbbdmeaaGreat
open Go Go.RowKit
set_option linter.unusedVariables false
set_option linter.unusedSimpArgs false

/-- how elements of a map lie, and read -/
structure EK (α : Type) where
  t : TypeId
  e : TypeId
  R : Value → Option (DataW Unit × List MemPlace)
  z : Value
  zd : DataW Unit
  enc : α → DataW Unit
  val : α → Value
  ht : Tryz.prog.underlying t = some (.map 3 e)
  hz : ∀ w, (zeroValue e).run Tryz.prog w = .ok z w
  hzd : R z = some (zd, [])
  hR : ∀ x, R (val x) = some (enc x, [])
  inv : ∀ v x ps, R v = some (enc x, ps) → v = val x
  invz : ∀ v ps, R v = some (zd, ps) → v = z
def kI (i : Int) : Lit := .int .i64 i
theorem kI_key (i : Int) : WideAt.IsKeyLit (kI i) := trivial
theorem kI_of {i : Int} (h : (kI i).wf = true) : keyOf Tryz.prog 3 (.int .i64 i) = some (kI i) := Maps.keyOf_int_mk Tryz.underlying3 h
theorem keyedI : Maps.Keyed Tryz.prog 3 := Maps.int_keyed Tryz.underlying3
/-- the entry of a key -/
def fnd {α : Type} (F : List (Int × α)) (i : Int) : Option α := (F.find? fun p => p.1 == i).map (·.2)
def del {α : Type} (F : List (Int × α)) (i : Int) : List (Int × α) := F.filter fun p => p.1 != i
section
variable {α : Type} {E : EK α} {w w' : World} {g n : Nat} {F : List (Int × α)}
/-- block g is a map of at most n entries: those of F -/
structure IM (E : EK α) (w : World) (g n : Nat) (F : List (Int × α)) : Prop where
  own : ∃ D : DataW Unit, w.ownsMap Tryz.prog 3 E.R g n D ∧ (∀ i, D.atKey (kI i) E.zd = ((fnd F i).map E.enc).getD E.zd) ∧ ∀ i, Maps.has D (kI i) = (fnd F i).isSome
  nodup : (F.map (·.1)).Nodup
theorem IM.lt (h : IM E w g n F) : g < w.heap.size := by
  obtain ⟨D, h1, _⟩ := h.own
  exact h1.lt
theorem IM.made (E : EK α) (w : World) : IM E (w.alloc (.map #[] 0)) w.heap.size 0 [] := ⟨⟨.map [], World.ownsMap_made w _ _ _, fun i => by simp [DataW.atKey, fnd], fun i => by simp [Maps.has, fnd]⟩, by simp⟩
theorem IM.kept {row : Option Nat} (h : IM E w g n F) (hg : w.grownBy w' row) (hne : some g ≠ row) : IM E w' g n F := by
  obtain ⟨D, h1, h2⟩ := h.own
  exact ⟨⟨D, h1.kept hg hne, h2⟩, h.nodup⟩
theorem IM.bel (h : IM E w g n F) (hb : Below w.heap.size w w') : IM E w' g n F := h.kept (row := none) ⟨hb.os, hb.tape, hb.output, hb.size, fun k hk _ => hb.block k hk⟩ (by simp)
theorem IM.far (h : IM E w g n F) {p : Addr} (hp : g ≠ p.block) (u : Value) : IM E (w.setCell p u) g n F := by
  obtain ⟨D, h1, h2⟩ := h.own
  exact ⟨⟨D, h1.setCell hp u, h2⟩, h.nodup⟩
theorem fnd_eq_none {i : Int} : fnd F i = none ↔ i ∉ F.map (·.1) := by
  unfold fnd
  rw [Option.map_eq_none_iff, List.find?_eq_none]
  simp
  exact ⟨fun h x hx => h i x hx rfl, fun h a b hab e => h b (e ▸ hab)⟩
theorem fnd_del_same (i : Int) : fnd (del F i) i = none := by
  rw [fnd_eq_none]
  unfold del
  simp
theorem fnd_del_other {i j : Int} (h : j ≠ i) : fnd (del F i) j = fnd F j := by
  unfold fnd del
  rw [List.find?_filter]
  congr 2
  funext p
  by_cases hp : p.1 = j
  · subst hp; simp [h]
  · simp [hp]
theorem fnd_cons_same (i : Int) (x : α) : fnd ((i, x) :: F) i = some x := by simp [fnd]
theorem fnd_cons_other {i j : Int} (h : j ≠ i) (x : α) : fnd ((i, x) :: F) j = fnd F j := by simp [fnd, Ne.symm h]
theorem nodup_del (h : (F.map (·.1)).Nodup) (i : Int) : ((del F i).map (·.1)).Nodup := by
  unfold del
  exact (List.Sublist.map _ List.filter_sublist).nodup h
theorem not_mem_del (i : Int) : i ∉ (del F i).map (·.1) := by unfold del; simp
/-- a look-up, and whether the key is there -/
theorem IM.look (h : IM E w g n F) (i : Int) (hi : (kI i).wf = true) : (Instr.lookup E.t (.map (some g)) (.int .i64 i) true).run Tryz.prog w = .ok (.tuple #[((fnd F i).map E.val).getD E.z, .bool (fnd F i).isSome]) w := by
  obtain ⟨D, h1, h2, h3⟩ := h.own
  obtain ⟨v, ps, hr, hv⟩ := h1.look_ok keyedI E.ht (E.hz w) E.hzd (kI_of hi)
  rw [h2 i] at hv
  rw [hr, h3 i]
  cases hf : fnd F i with
  | none => rw [hf] at hv; rw [E.invz v ps hv]; rfl
  | some x => rw [hf] at hv; rw [E.inv v x ps hv]; rfl
theorem IM.look1 (h : IM E w g n F) (i : Int) (hi : (kI i).wf = true) : (Instr.lookup E.t (.map (some g)) (.int .i64 i) false).run Tryz.prog w = .ok (((fnd F i).map E.val).getD E.z) w := by
  obtain ⟨D, h1, h2, h3⟩ := h.own
  obtain ⟨v, ps, hr, hv⟩ := h1.lookup keyedI E.ht (E.hz w) E.hzd (kI_of hi)
  rw [h2 i] at hv
  rw [hr]
  cases hf : fnd F i with
  | none => rw [hf] at hv; rw [E.invz v ps hv]; rfl
  | some x => rw [hf] at hv; rw [E.inv v x ps hv]; rfl
theorem IM.put (h : IM E w g n F) (i : Int) (hi : (kI i).wf = true) (hn : n < maxLen) (x : α) : ∃ w', (Instr.mapUpdate E.t (.map (some g)) (.int .i64 i) (E.val x)).run Tryz.prog w = .ok () w' ∧ IM E w' g (n + 1) ((i, x) :: del F i) ∧ w.mapTurned w' g := by
  obtain ⟨D, h1, h2, h3⟩ := h.own
  obtain ⟨w', hr, ho, hg⟩ := h1.store keyedI E.ht hn (kI_of hi) (E.hR x)
  refine ⟨w', hr, ⟨⟨_, ho, fun j => ?_, fun j => ?_⟩, ?_⟩, hg⟩
  · by_cases hj : j = i
    · subst hj
      rw [Maps.atKey_put_same h1.isMap (kI_key _), fnd_cons_same]
      rfl
    · rw [Maps.atKey_put_other (by unfold kI; intro e; injection e with _ e; exact hj e), h2 j, fnd_cons_other hj, fnd_del_other hj]
  · by_cases hj : j = i
    · subst hj
      rw [Maps.has_put_same h1.isMap (kI_key _), fnd_cons_same]
      rfl
    · rw [Maps.has_put_other (by unfold kI; intro e; injection e with _ e; exact hj e), h3 j, fnd_cons_other hj, fnd_del_other hj]
  · rw [List.map_cons, List.nodup_cons]
    exact ⟨not_mem_del i, nodup_del h.nodup i⟩
theorem IM.drop (h : IM E w g n F) (i : Int) (hi : (kI i).wf = true) (ty : TypeId) : ∃ w', (Builtin.delete_ #[E.t, 3] ty #[.map (some g), .int .i64 i]).run Tryz.prog w = .ok (.tuple #[]) w' ∧ IM E w' g n (del F i) ∧ w.mapTurned w' g := by
  obtain ⟨D, h1, h2, h3⟩ := h.own
  obtain ⟨w', hr, ho, hg⟩ := h1.drop keyedI E.ht (kI_of hi) ty
  refine ⟨w', hr, ⟨⟨_, ho, fun j => ?_, fun j => ?_⟩, nodup_del h.nodup i⟩, hg⟩
  · by_cases hj : j = i
    · subst hj
      rw [Maps.atKey_del_same, fnd_del_same]
      rfl
    · rw [Maps.atKey_del_other (by unfold kI; intro e; injection e with _ e; exact hj e), h2 j, fnd_del_other hj]
  · by_cases hj : j = i
    · subst hj
      rw [Maps.has_del_same, fnd_del_same]
      rfl
    · rw [Maps.has_del_other (by unfold kI; intro e; injection e with _ e; exact hj e), h3 j, fnd_del_other hj]
theorem IM.keys (h : IM E w g n F) : ∃ D : DataW Unit, w.ownsMap Tryz.prog 3 E.R g n D ∧ (F.map (·.1)).Perm (intKeys D) ∧ Maps.size D = F.length := by
  obtain ⟨D, h1, h2, h3⟩ := h.own
  have hc : CollectedI D (fun _ => false) (F.map (·.1)) := ⟨h.nodup, fun x => by
    rw [show Lit.int .i64 x = kI x from rfl, h3 x, Option.isSome_iff_ne_none, ne_eq, fnd_eq_none]
    simp⟩
  have hp := hc.perm h1 keyedI Tryz.underlying3 (fun _ => rfl)
  refine ⟨D, h1, hp, ?_⟩
  obtain ⟨es, rfl⟩ := h1.isMap
  have := hp.length_eq
  simp only [intKeys, List.length_map] at this
  exact this.symm
theorem IM.tight (h : IM E w g n F) : IM E w g F.length F := by
  obtain ⟨D, h1, h2, h3⟩ := h.own
  obtain ⟨D2, k1, k2, k3⟩ := h.keys
  refine ⟨⟨D2, ?_, ?_, ?_⟩, h.nodup⟩
  · obtain ⟨es, cl, hb, Ft, hs, rfl⟩ := k1
    refine ⟨es, cl, hb, Ft, ?_, rfl⟩
    rw [← k3]
    simp [Maps.size, length_sorted]
  · obtain ⟨es, cl, hb, Ft, hs, rfl⟩ := k1
    obtain ⟨es', cl', hb', Ft', hs', rfl⟩ := h1
    rw [hb] at hb'
    injection hb' with e
    injection e with e1 e2
    subst e1
    exact h2
  · obtain ⟨es, cl, hb, Ft, hs, rfl⟩ := k1
    obtain ⟨es', cl', hb', Ft', hs', rfl⟩ := h1
    rw [hb] at hb'
    injection hb' with e
    injection e with e1 e2
    subst e1
    exact h3
theorem IM.len (h : IM E w g n F) (ty : TypeId) : (Builtin.len_ #[E.t] ty #[.map (some g)]).run Tryz.prog w = .ok (.int .i64 (F.length : Int)) w := by
  obtain ⟨D, h1, h2, h3⟩ := h.keys
  rw [h1.len E.ht ty, h3]
end
end Go.Proofs.YtmblknknbbdmeaaGreat
/- communication in one goroutine, where nothing waits: a walk over frames that are not early ones; a select of one case with a default. -/
namespace Go.Proofs.YtmblknknbbdmeaaGreat
open Go Go.RowKit Go.Conc
set_option linter.unusedVariables false
set_option linter.unusedSimpArgs false

/-- as the kit's walk, for frames that are not early ones -/
def wpN (P : Program) (c : Code) (Q : Exit → Act → World → Prop) (a : Act) (w : World) : Prop :=
  ∀ (b : Frame) (k : List Item) (cs : List Frame), b.kind ≠ .early → ∃ e a' w', Q e a' w' ∧ Arrives P (lone (b.at a (.code c :: k)) cs w) b k cs e a' w'
section
variable {P : Program} {Q : Exit → Act → World → Prop} {a : Act} {w : World}
theorem wpN_of_wp {c : Code} (h : c.wp P Q a w) : wpN P c Q a w := fun b k cs _ => h b k cs
/-- what comes behind the first part, wherever that goes -/
theorem wpN_seq {x y : Code} (h : wpN P x (Exit.then (wpN P y Q) Q) a w) : wpN P (.seq x y) Q a w := by
  intro b k cs hb
  obtain ⟨e, a1, w1, hq, ha⟩ := h b (.code y :: k) cs hb
  have go : ∀ e', (∀ a w, e' ≠ .normal ∨ Arrives P (lone (b.at a1 (.code y :: k)) cs w1) b k cs e' a w) → e = e' → e' ≠ .normal → Arrives P (lone (b.at a (.code (.seq x y) :: k)) cs w) b k cs e' a1 w1 := by
    rintro e' _ rfl hne
    exact .of_steps (.one step_seq) (.pass (x := .code y) rfl (fun _ _ => .inl hne) ha)
  by_cases he : e = .normal
  · subst he
    obtain ⟨e2, a2, w2, hq2, ha2⟩ := hq b k cs hb
    exact ⟨e2, a2, w2, hq2, .of_steps (.head step_seq ha) ha2⟩
  · refine ⟨e, a1, w1, ?_, go e (fun _ _ => .inl he) rfl he⟩
    cases e <;> first | exact hq | exact absurd rfl he
theorem wpN_seq_k {x y : Code} (h : ∀ K : Act → World → Prop, (∀ a w, wpN P y Q a w → K a w) → wpN P x (Exit.then K Q) a w) : wpN P (.seq x y) Q a w := wpN_seq (h _ fun _ _ h => h)
theorem wpN_seq_plain {x y : Code} (h : ∀ K : Act → World → Prop, (∀ a w, wpN P y Q a w → K a w) → x.wp P (Exit.then K Q) a w) : wpN P (.seq x y) Q a w := wpN_seq_k fun K hK => wpN_of_wp (h K hK)
theorem wpN_mono {c : Code} {Q' : Exit → Act → World → Prop} (h : wpN P c Q a w) (hq : ∀ e a w, Q e a w → Q' e a w) : wpN P c Q' a w :=
  fun b k cs hb => let ⟨e, a', w', q, r⟩ := h b k cs hb; ⟨e, a', w', hq _ _ _ q, r⟩
theorem wpN_block {id : Nat} {c : Code} (h : wpN P c (Exit.inBlock id Q) a w) : wpN P (.block id c) Q a w := by
  intro b k cs hb
  obtain ⟨e, a1, w1, hq, ha⟩ := h b (.inBlock id :: k) cs hb
  rcases e with _ | id' | l | _ | ch | _
  · exact ⟨.normal, a1, w1, hq, .head step_block (Steps.trans ha (.one step_inBlock))⟩
  · by_cases hid : id' = id
    · have hq' : Q .normal a1 w1 := by simpa [Exit.inBlock, hid] using hq
      exact ⟨.normal, a1, w1, hq', .head step_block (ha k (by simp [exitTo, hid]))⟩
    · have hq' : Q (.exit id') a1 w1 := by simpa [Exit.inBlock, hid] using hq
      have hne : (id == id') = false := by simpa using fun h => hid h.symm
      exact ⟨.exit id', a1, w1, hq', fun k' hk => .head step_block (ha k' (by simp [exitTo, hne, hk]))⟩
  · exact ⟨_, a1, w1, hq, fun k' hk => .head step_block (ha k' (by simp [gotoIn, hk]))⟩
  · exact ⟨_, a1, w1, hq, .of_steps (.one step_block) ha⟩
  · exact ⟨_, a1, w1, hq, .of_steps (.one step_block) ha⟩
  · exact ⟨_, a1, w1, hq, .of_steps (b := b) (k := k) (cs := cs) (e := .outgrown) (.one step_block) ha⟩
theorem wpN_loop {c : Code} (I : Act → World → Prop) (m : Act → World → Nat) (h0 : I a w) (round : ∀ a w, I a w → wpN P c (Exit.then (fun a' w' => I a' w' ∧ m a' w' < m a w) Q) a w) : wpN P (.loop c) Q a w := by
  intro b k cs hb
  have key : ∀ n a w, m a w = n → I a w → ∃ e a' w', Q e a' w' ∧ Arrives P (lone (b.at a (.code c :: .inLoop c :: k)) cs w) b k cs e a' w' := by
    intro n
    induction n using Nat.strongRecOn with
    | _ n ih =>
      intro a w hn hI
      obtain ⟨e, a1, w1, hq, ha⟩ := round a w hI b (.inLoop c :: k) cs hb
      by_cases he : e = .normal
      · subst he
        obtain ⟨hI1, hlt⟩ := hq
        obtain ⟨e2, a2, w2, hq2, ha2⟩ := ih _ (hn ▸ hlt) a1 w1 rfl hI1
        exact ⟨e2, a2, w2, hq2, .of_steps (Steps.trans ha (.one step_inLoop)) ha2⟩
      · refine ⟨e, a1, w1, ?_, .pass (x := .inLoop c) rfl (fun _ _ => .inl he) ha⟩
        cases e <;> first | exact hq | exact absurd rfl he
  obtain ⟨e, a', w', hq, ha⟩ := key _ a w rfl h0
  exact ⟨e, a', w', hq, .of_steps (.one step_loop) ha⟩
/-- a region whose first operation is one step of the machine, whatever it is -/
theorem wpN_first {id : Nat} {o : Oper} {l : List Oper} {v : Value} {w1 : World}
    (h : ∀ (b : Frame) (k : List Item) (cs : List Frame) (rest : List Nat), b.kind ≠ .early → step P (lone (b.at a (.inRegion (o :: l).toArray (0 :: rest) :: k)) cs w) = .next (lone ((b.at a (.inRegion (o :: l).toArray (0 :: rest) :: k)).finish v) cs w1))
    (hl : wpList P (o :: l).toArray Q l (a.put o.dst v) w1) : wpN P (.region id (o :: l).toArray false) Q a w := by
  intro b k cs hb
  have hr : List.range (o :: l).toArray.size = 0 :: List.range' 1 l.length := by
    rw [List.range_eq_range']
    simp [List.range'_succ]
  have h1 := h b k cs (List.range' 1 l.length) hb
  rw [Frame.finish_at] at h1
  have hl2 : wpOps P (o :: l).toArray Q (List.range' 1 l.length) (a.put o.dst v) w1 := by
    rw [wpOps_eq_wpList l 1 (fun j => by simp [Nat.add_comm 1 j])]
    exact hl
  obtain ⟨e, a', w', hq, ha⟩ := wp_ops _ _ _ hl2 b k cs
  refine ⟨e, a', w', hq, .of_steps (.head step_region ?_) ha⟩
  rw [hr]
  exact .one (by simpa using h1)
theorem callsN {f : FuncId} {fn : Func} {c : Code} {args : Array Value} {R : Ending → World → Prop} (hf : P.funcs[f]? = some fn) (hb : fn.body = some c)
    (h : wpN P c (bodyPost P fn R) { tmps := args ++ Array.replicate (fn.ntmps - args.size) undef, defers := [] } w) : Calls P f args w R := by
  intro cs
  let b : Frame := { (default : Frame) with fn := f, kind := .normal }
  have he : Frame.enter P f args .normal = b.at { tmps := args ++ Array.replicate (fn.ntmps - args.size) undef, defers := [] } [.code c] := by
    simp [Frame.enter, Frame.at, hf, hb, b]
  obtain ⟨e, a', w', hq, ha⟩ := h b [] cs (by simp [b])
  rw [← he] at ha
  rcases e with _ | id | l | _ | ch | _
  · obtain ⟨hd, v, hr, hR⟩ := hq
    exact ⟨.returned v, w', _, hR, Steps.trans ha (.one step_end), rfl, rfl, hd, rfl, fn, hf, hr⟩
  · exact hq.elim
  · exact hq.elim
  · obtain ⟨hd, v, hr, hR⟩ := hq
    obtain ⟨todo, hs⟩ := ha
    exact ⟨.returned v, w', _, hR, hs, rfl, rfl, hd, rfl, fn, hf, hr⟩
  · obtain ⟨hd, hR⟩ := hq
    obtain ⟨todo, hs⟩ := ha
    exact ⟨.panicked ch, w', _, hR, hs, rfl, rfl, hd, fn, hf⟩
  · exact ⟨.outgrown, w', b, hq, ha.resolve_left (by simp [b]), rfl, trivial⟩
end
end Go.Proofs.YtmblknknbbdmeaaGreat
/- a select of one case with a default, at this program. -/
namespace Go.Proofs.YtmblknknbbdmeaaGreat
open Go Go.RowKit Go.Conc
set_option linter.unusedVariables false
set_option linter.unusedSimpArgs false

theorem exec_selSend {o : Oper} {a : Act} {x y : Operand} (ho : o.op = .select #[{ chan := x, send := some y, elem := 9 }] false) {c : Nat} {v : Value} (hx : a.eval x = .chan (some c)) (hy : a.eval y = v) (w : World) :
    (execOp a.eval o).run Tryz.prog w = .ok (.comm #[scase c v (.string ⟨#[]⟩)] false .select) w := by
  have hz : (zeroValue 9).run Tryz.prog w = .ok (.string ⟨#[]⟩) w := by kernel_rfl
  unfold execOp
  simp [ho, hx, hy, hz, scase, Sem.run_bind]
theorem exec_selRecv {o : Oper} {a : Act} {x : Operand} (ho : o.op = .select #[{ chan := x, send := none, elem := 9 }] false) {c : Nat} (hx : a.eval x = .chan (some c)) (w : World) :
    (execOp a.eval o).run Tryz.prog w = .ok (.comm #[rcase c (.string ⟨#[]⟩)] false .select) w := by
  have hz : (zeroValue 9).run Tryz.prog w = .ok (.string ⟨#[]⟩) w := by kernel_rfl
  unfold execOp
  simp [ho, hx, hz, rcase, Sem.run_bind]
theorem wpN_selSend_room {id : Nat} {Q : Exit → Act → World → Prop} {a : Act} {w : World} {o : Oper} {l : List Oper} (d : Tmp) (hd : o.dst = some d) (hg : o.guard = none) {x y : Operand} (ho : o.op = .select #[{ chan := x, send := some y, elem := 9 }] false) {c : Nat} {v : Value} (hx : a.eval x = .chan (some c)) (hy : a.eval y = v) {cap s r : Nat} {buf : Array Value} {tm : Bool} (hc : w.heap[c]? = some (.chan cap buf false s r tm)) (hb1 : buf.size < cap)
    (hl : wpList Tryz.prog (o :: l).toArray Q l (a.put (some d) (.tuple #[goInt 0, .bool false])) (w.setChan c cap (buf.push v) false (s + 1) r tm)) : wpN Tryz.prog (.region id (o :: l).toArray false) Q a w := by
  refine wpN_first (v := (.tuple #[goInt 0, .bool false])) (w1 := (w.setChan c cap (buf.push v) false (s + 1) r tm)) (fun b k cs rest hb => ?_) (by rw [hd]; exact hl)
  exact step_lone_select_send_room (stepG_comm (i := 0) (o := o) rfl (by simp [Region.wanted, hg]) hb (exec_selSend ho hx hy w)) hc hb1
theorem wpN_selSend_full {id : Nat} {Q : Exit → Act → World → Prop} {a : Act} {w : World} {o : Oper} {l : List Oper} (d : Tmp) (hd : o.dst = some d) (hg : o.guard = none) {x y : Operand} (ho : o.op = .select #[{ chan := x, send := some y, elem := 9 }] false) {c : Nat} {v : Value} (hx : a.eval x = .chan (some c)) (hy : a.eval y = v) {cap s r : Nat} {buf : Array Value} {tm : Bool} (hc : w.heap[c]? = some (.chan cap buf false s r tm)) (hb1 : cap ≤ buf.size)
    (hl : wpList Tryz.prog (o :: l).toArray Q l (a.put (some d) (.tuple #[goInt (-1), .bool false])) w) : wpN Tryz.prog (.region id (o :: l).toArray false) Q a w := by
  refine wpN_first (v := (.tuple #[goInt (-1), .bool false])) (w1 := w) (fun b k cs rest hb => ?_) (by rw [hd]; exact hl)
  exact step_lone_select_send_full (stepG_comm (i := 0) (o := o) rfl (by simp [Region.wanted, hg]) hb (exec_selSend ho hx hy w)) hc hb1
theorem wpN_selRecv_buf {id : Nat} {Q : Exit → Act → World → Prop} {a : Act} {w : World} {o : Oper} {l : List Oper} (d : Tmp) (hd : o.dst = some d) (hg : o.guard = none) {x : Operand} (ho : o.op = .select #[{ chan := x, send := none, elem := 9 }] false) {c : Nat} (hx : a.eval x = .chan (some c)) {cap s r : Nat} {buf : Array Value} {closed tm : Bool} (hc : w.heap[c]? = some (.chan cap buf closed s r tm)) (hb1 : 0 < buf.size)
    (hl : wpList Tryz.prog (o :: l).toArray Q l (a.put (some d) (.tuple #[goInt 0, .bool true, buf.getD 0 undef])) (w.setChan c cap (buf.extract 1 buf.size) closed s (r + 1) tm)) : wpN Tryz.prog (.region id (o :: l).toArray false) Q a w := by
  refine wpN_first (v := (.tuple #[goInt 0, .bool true, buf.getD 0 undef])) (w1 := (w.setChan c cap (buf.extract 1 buf.size) closed s (r + 1) tm)) (fun b k cs rest hb => ?_) (by rw [hd]; exact hl)
  exact step_lone_select_recv_buf (stepG_comm (i := 0) (o := o) rfl (by simp [Region.wanted, hg]) hb (exec_selRecv ho hx w)) hc hb1
theorem wpN_selRecv_none {id : Nat} {Q : Exit → Act → World → Prop} {a : Act} {w : World} {o : Oper} {l : List Oper} (d : Tmp) (hd : o.dst = some d) (hg : o.guard = none) {x : Operand} (ho : o.op = .select #[{ chan := x, send := none, elem := 9 }] false) {c : Nat} (hx : a.eval x = .chan (some c)) {cap s r : Nat} {tm : Bool} (hc : w.heap[c]? = some (.chan cap #[] false s r tm))
    (hl : wpList Tryz.prog (o :: l).toArray Q l (a.put (some d) (.tuple #[goInt (-1), .bool false, .string ⟨#[]⟩])) w) : wpN Tryz.prog (.region id (o :: l).toArray false) Q a w := by
  refine wpN_first (v := (.tuple #[goInt (-1), .bool false, .string ⟨#[]⟩])) (w1 := w) (fun b k cs rest hb => ?_) (by rw [hd]; exact hl)
  exact step_lone_select_default (stepG_comm (i := 0) (o := o) rfl (by simp [Region.wanted, hg]) hb (exec_selRecv ho hx w)) hc
end Go.Proofs.YtmblknknbbdmeaaGreat
/- a set of texts: a map[string]bool of the call's own. -/
namespace Go.Proofs.YtmblknknbbdmeaaGreat
open Go Go.RowKit
set_option linter.unusedVariables false
set_option linter.unusedSimpArgs false
attribute [local go_sem] bmax2 bmin2 bmax bmin cell_ext frozen_ext

/-! ### the texts that were drawn -/
theorem plainElem_bool_inv {H : Type} {P : Program} {e : TypeId} (he : P.underlying e = some .bool) {v : Value} {z : DataW H × List MemPlace} (h : plainElem P e v = some z) : ∃ x, v = .bool x ∧ z = (.lit (.bool x), []) := by
  unfold plainElem at h
  rw [he] at h
  cases v <;> simp at h
  exact ⟨_, rfl, h.symm⟩
/-- a set of texts: a map[string]bool that reads true at those of L alone -/
def Drw (w : World) (b n : Nat) (L : List (List UInt8)) : Prop := ∃ D : DataW Unit, w.ownsMap Tryz.prog 9 (plainElem Tryz.prog 4) b n D ∧ ∀ k : List UInt8, D.atKey (.string k) (.lit (.bool false)) = .lit (.bool (decide (k ∈ L)))
section
variable {w w' : World} {b n : Nat} {L : List (List UInt8)}
theorem Drw.lt (h : Drw w b n L) : b < w.heap.size := by
  obtain ⟨D, h1, h2⟩ := h
  exact h1.lt
theorem Drw.made (w : World) : Drw (w.alloc (.map #[] 0)) w.heap.size 0 [] := ⟨.map [], World.ownsMap_made w _ _ _, fun k => by simp [DataW.atKey]⟩
theorem Drw.kept {row : Option Nat} (h : Drw w b n L) (hg : w.grownBy w' row) (hne : some b ≠ row) : Drw w' b n L := by
  obtain ⟨D, h1, h2⟩ := h
  exact ⟨D, h1.kept hg hne, h2⟩
theorem Drw.bel (h : Drw w b n L) (hb : Below w.heap.size w w') : Drw w' b n L := h.kept (row := none) ⟨hb.os, hb.tape, hb.output, hb.size, fun k hk _ => hb.block k hk⟩ (by simp)
theorem Drw.far (h : Drw w b n L) {p : Addr} (hp : b ≠ p.block) (u : Value) : Drw (w.setCell p u) b n L := by
  obtain ⟨D, h1, h2⟩ := h
  exact ⟨D, h1.setCell hp u, h2⟩
set_option maxRecDepth 100000 in
theorem Drw.look (h : Drw w b n L) (k : ByteArray) (hk : k.size ≤ maxLen) : (Instr.lookup 79 (.map (some b)) (.string k) false).run Tryz.prog w = .ok (.bool (decide (bs k ∈ L))) w := by
  obtain ⟨D, h1, h2⟩ := h
  obtain ⟨v, ps, hr, hv⟩ := h1.lookup (t := 79) (e := 4) (z := .bool false) (zd := .lit (.bool false)) (zp := []) (key := .string k) (kl := .string k.data.toList) (Maps.string_keyed Tryz.underlying9) Tryz.underlying79 (by kernel_rfl) (plainElem_bool Tryz.underlying4 false) (WideMaps.keyOf_string_mk Tryz.underlying9 hk)
  obtain ⟨x, rfl, hx⟩ := plainElem_bool_inv Tryz.underlying4 hv
  simp only [Prod.mk.injEq] at hx
  rw [show k.data.toList = bs k from rfl, h2 (bs k)] at hx
  have e := hx.1
  injection e with e
  injection e with e
  rw [hr, e]
theorem Drw.put (h : Drw w b n L) (k : ByteArray) (hk : k.size ≤ maxLen) (hn : n < maxLen) : ∃ w', (Instr.mapUpdate 79 (.map (some b)) (.string k) (.bool true)).run Tryz.prog w = .ok () w' ∧ Drw w' b (n + 1) (bs k :: L) ∧ w.grownBy w' (some b) := by
  obtain ⟨D, h1, h2⟩ := h
  obtain ⟨w', hr, ho, hg⟩ := h1.update (t := 79) (e := 4) (key := .string k) (val := .bool true) (kl := .string k.data.toList) (d := .lit (.bool true)) (ps := []) (Maps.string_keyed Tryz.underlying9) Tryz.underlying79 hn (WideMaps.keyOf_string_mk Tryz.underlying9 hk) (plainElem_bool Tryz.underlying4 true)
  refine ⟨w', hr, ⟨_, ho, fun j => ?_⟩, hg⟩
  by_cases hj : j = bs k
  · subst hj
    rw [show k.data.toList = bs k from rfl, Maps.atKey_put_same h1.isMap (by trivial)]
    simp
  · rw [show k.data.toList = bs k from rfl, Maps.atKey_put_other (by intro e; injection e with e; exact hj e), h2 j]
    simp [hj]
end
theorem wpL_mapUpdate {P : Program} {ops : Array Oper} {rest : List Oper} {o : Oper} {a : Act} {w w' : World} {Q : Exit → Act → World → Prop} (hgd : o.guard = none) (t : TypeId) (m x y : Operand) (ho : o.op = .mapUpdate t m x y) {mv kv v : Value} (hm : a.eval m = mv) (hx : a.eval x = kv) (hy : a.eval y = v)
    (hr : (Instr.mapUpdate t mv kv v).run P w = .ok () w') (h : wpList P ops Q rest (a.put o.dst undef) w') : wpList P ops Q (o :: rest) a w :=
  wpList_plain hgd fun K hK => by
    unfold Oper.wp execOp
    simp only [ho, hm, hx, hy, Sem.run_bind, hr, Result.andThen_ok, Sem.run_pure]
    exact hK _ _ h

end Go.Proofs.YtmblknknbbdmeaaGreat
/- buffer: its memory; New, Size, Dropped. -/
namespace Go.Proofs.YtmblknknbbdmeaaGreat
open Go Go.RowKit
set_option linter.unusedVariables false
set_option linter.unusedSimpArgs false
attribute [local go_sem] bmax2 bmin2 bmax bmin cell_ext frozen_ext

/-- a slot's datum -/
def slD (c g : Nat) : DataW Unit := .agg [.lit (.int .u64 (c : Int)), .lit (.int .u64 (g : Int))]
def slR : Value → Option (DataW Unit × List MemPlace)
  | .agg ⟨[.chan (some c), .map (some g)]⟩ => some (slD c g, [])
  | .agg ⟨[.chan none, .map none]⟩ => some (.nil, [])
  | _ => none
theorem slR_some {v : Value} {x : DataW Unit} {ps : List MemPlace} (h : slR v = some (x, ps)) : (∃ c g, v = .agg #[.chan (some c), .map (some g)] ∧ x = slD c g) ∨ (v = .agg #[.chan none, .map none] ∧ x = .nil) := by
  unfold slR at h
  split at h
  · injection h with h
    injection h with h1 h2
    exact Or.inl ⟨_, _, rfl, h1.symm⟩
  · injection h with h
    injection h with h1 h2
    exact Or.inr ⟨rfl, h1.symm⟩
  · cases h
/-- elements of the map of slots: a channel, a set -/
def SL : EK (Nat × Nat) where
  t := 176
  e := 181
  R := slR
  z := .agg #[.chan none, .map none]
  zd := .nil
  enc := fun x => slD x.1 x.2
  val := fun x => .agg #[.chan (some x.1), .map (some x.2)]
  ht := Tryz.underlying176
  hz := fun w => by kernel_rfl
  hzd := rfl
  hR := fun x => rfl
  inv := fun v x ps h => by
    rcases slR_some h with ⟨c, g, rfl, e⟩ | ⟨_, e⟩
    · simp only [slD, DataW.agg.injEq, List.cons.injEq, DataW.lit.injEq, Lit.int.injEq, Int.ofNat_inj, true_and, and_true] at e
      rw [e.1, e.2]
    · simp [slD] at e
  invz := fun v ps h => by
    rcases slR_some h with ⟨c, g, rfl, e⟩ | ⟨rfl, _⟩
    · simp [slD] at e
    · rfl
def bufC (each room : Int) (gm : Nat) (sz dr : Int) : List Value := [.int .i64 each, .int .i64 room, .map (some gm), .int .i64 sz, .int .i64 dr]
/-- a line's content -/
def lineV (ts : List (List UInt8)) : Array Value := (ts.map fun t => Value.string (str t)).toArray
/-- what a buffer holds: slots by their intervals, things in order -/
structure Bf where
  each : Nat
  room : Nat
  sl : List (Int × List (List UInt8))
  sz : Int
  dr : Int
/-- a buffer in memory: F: each slot's channel and set -/
structure BF (w : World) (bb gm n : Nat) (F : List (Int × (Nat × Nat))) (B : Bf) : Prop where
  blk : Blk w bb 178 (bufC B.each B.room gm B.sz B.dr).toArray
  im : IM SL w gm n F
  keys : F.map (·.1) = B.sl.map (·.1)
  slot : ∀ i c g, fnd F i = some (c, g) → ∃ ts s r m, fnd B.sl i = some ts ∧ w.heap[c]? = some (.chan B.each (lineV ts) false s r false) ∧ m ≤ ts.length ∧ Drw w g m ts
  inj : ∀ i j c g c' g', fnd F i = some (c, g) → fnd F j = some (c', g') → (c = c' ∨ g = g') → i = j
  sets : ∀ i c g, fnd F i = some (c, g) → g ≠ gm
end Go.Proofs.YtmblknknbbdmeaaGreat
