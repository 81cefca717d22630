/- Texts laid together: Reg, Sha4, Sha5, Stp, Eq, Sha6, RSha1, RSha2. -/
import Derived.Lib.BufferWrite
import Derived.Laws.StructEq
import Derived.Test.YtmblknknbbdmeaaGreatProg
import Derived.Deep.AppendLies
import Derived.Test.YtmblknknbbdmeaaGreatRcb3
/- A region that draws its order, whose operations leave the world as it was but for new blocks, some of which make what is new: one walk serves every order. -/
namespace Go.Proofs.YtmblknknbbdmeaaGreat
open Go Go.RowKit
set_option linter.unusedVariables false
set_option linter.unusedSimpArgs false

section
variable {P : Program} {ops : Array Oper} {md : Region.Mode}

theorem looks_same {o : Oper} (hs : ∀ cs b, o.op ≠ .select cs b) {a b : Act} (h : ∀ s ∈ o.looksAt ops, a.tmps[s]? = b.tmps[s]?) :
    execOp a.eval o = execOp b.eval o ∧ Region.wanted o (yielded ops a.tmps) = Region.wanted o (yielded ops b.tmps) := by
  constructor
  · refine execOp_congr o hs fun x hx => ?_
    cases x with
    | tmp t =>
      have := h t (List.mem_append_left _ (List.mem_filterMap.2 ⟨.tmp t, by simpa using hx, rfl⟩))
      simp only [Act.eval, Array.getD_eq_getD_getElem?, this]
    | _ => rfl
  · unfold Region.wanted
    cases hg : o.guard with
    | none => rfl
    | some gw =>
      obtain ⟨g, want⟩ := gw
      have hy : yielded ops a.tmps g = yielded ops b.tmps g := by
        unfold yielded
        cases ht : (ops[g]?).bind (·.dst) with
        | none => rfl
        | some t =>
          have := h t (by simp [Oper.looksAt, hg, ht])
          simp only [Option.bind_some, this]
      simp only [hy]

/-- one value, in every world behind w; new blocks alone -/
def YX (P : Program) (o : Oper) (a : Act) (w : World) (v : Value) : Prop := ∀ W, Below w.heap.size w W → o.quietAt P a (fun w' => Below W.heap.size W w') W v

def LexX (P : Program) (ops : Array Oper) (w : World) (A : Act) : List Oper → Act → Prop
  | [], a => a = A
  | o :: rest, a => (Region.wanted o (yielded ops a.tmps) = true ∧ ∃ v, YX P o a w v ∧ LexX P ops w A rest (a.put o.dst v)) ∨ (Region.wanted o (yielded ops a.tmps) = false ∧ LexX P ops w A rest (a.put o.dst undef))

/-- the slots are there, and each is another one -/
def distB (n : Nat) (l : List Oper) : Bool := (l.all fun o => match o.dst with | some d => decide (d < n) | none => false) && decide (l.map (·.dst)).Nodup

theorem distB_cons {n : Nat} {o : Oper} {l : List Oper} (h : distB n (o :: l) = true) : (∃ d, o.dst = some d ∧ d < n ∧ ∀ x ∈ l, x.dst ≠ some d) ∧ distB n l = true := by
  simp only [distB, List.all_cons, List.map_cons, List.nodup_cons, Bool.and_eq_true, decide_eq_true_eq] at h
  obtain ⟨⟨h1, h2⟩, h3, h4⟩ := h
  cases hd : o.dst with
  | none => rw [hd] at h1; cases h1
  | some d =>
    rw [hd] at h1 h3
    refine ⟨⟨d, rfl, by simpa using h1, fun x hx he => h3 (List.mem_map.2 ⟨x, hx, he⟩)⟩, ?_⟩
    simp only [distB, Bool.and_eq_true, decide_eq_true_eq]
    exact ⟨h2, h4⟩

theorem put_size (a : Act) (d : Option Tmp) (v : Value) : (a.put d v).tmps.size = a.tmps.size := by cases d <;> simp [Act.put]
theorem put_defers' (a : Act) (d : Option Tmp) (v : Value) : (a.put d v).defers = a.defers := by cases d <;> rfl
theorem put_get_ne (a : Act) {d : Option Tmp} (v : Value) {s : Tmp} (h : d ≠ some s) : (a.put d v).tmps[s]? = a.tmps[s]? := by
  cases d with
  | none => rfl
  | some d => simp only [Act.put]; rw [Array.getElem?_setIfInBounds_ne (by intro e; subst e; exact h rfl)]
theorem put_get (a : Act) {d : Tmp} (v : Value) (h : d < a.tmps.size) : (a.put (some d) v).tmps[d]? = some v := by simp [Act.put, h]

theorem quiet_keeps {C : World → Prop} {A : Act} {s : Tmp} : ∀ (l : List Oper) (b : Act), (∀ x ∈ l, x.dst ≠ some s) → wpQuiet P ops C (· = A) l b → A.tmps[s]? = b.tmps[s]?
  | [], b, _, h => by rw [show b = A from h]
  | o :: rest, b, hd, h => by
    simp only [wpQuiet] at h
    have h1 := hd o (by simp)
    have h2 : ∀ x ∈ rest, x.dst ≠ some s := fun x hx => hd x (by simp [hx])
    split at h
    · obtain ⟨v, _, hn⟩ := h
      rw [quiet_keeps rest _ h2 hn, put_get_ne b v h1]
    · rw [quiet_keeps rest _ h2 h, put_get_ne b undef h1]
theorem lex_keeps {w : World} {A : Act} {s : Tmp} : ∀ (l : List Oper) (b : Act), (∀ x ∈ l, x.dst ≠ some s) → LexX P ops w A l b → A.tmps[s]? = b.tmps[s]?
  | [], b, _, h => by rw [show b = A from h]
  | o :: rest, b, hd, h => by
    have h1 := hd o (by simp)
    have h2 : ∀ x ∈ rest, x.dst ≠ some s := fun x hx => hd x (by simp [hx])
    rcases h with ⟨_, v, _, hn⟩ | ⟨_, hn⟩
    · rw [lex_keeps rest _ h2 hn, put_get_ne b v h1]
    · rw [lex_keeps rest _ h2 hn, put_get_ne b undef h1]
theorem lex_size {w : World} {A : Act} : ∀ (l : List Oper) (b : Act), LexX P ops w A l b → A.tmps.size = b.tmps.size ∧ A.defers = b.defers
  | [], b, h => by rw [show b = A from h]; exact ⟨rfl, rfl⟩
  | o :: rest, b, h => by
    rcases h with ⟨_, v, _, hn⟩ | ⟨_, hn⟩
    · have := lex_size rest _ hn
      rw [put_size, put_defers'] at this; exact this
    · have := lex_size rest _ hn
      rw [put_size, put_defers'] at this; exact this

theorem quietAt_below {o : Oper} {a : Act} {W : World} {v : Value} (h : o.quietAt P a (fun w' => ∃ x, w' = W.ext x) W v) : o.quietAt P a (fun w' => Below W.heap.size W w') W v := by
  unfold Oper.quietAt at *
  generalize (execOp a.eval o).run P W = r at *
  cases r with
  | ok n w' =>
    cases n <;> simp only [Oper.quietUpon] at h ⊢
    case value u => exact h
    case skip => exact h
    case enter f args => exact ⟨h.1, h.2.mono fun e w'' ⟨he, x, hx⟩ => ⟨he, by rw [hx]; exact ext_below W x⟩⟩
  | halt x w' => simp only [Oper.quietUpon] at h

theorem lex_of {w : World} {A : Act} : ∀ (l : List Oper) (a : Act), distB a.tmps.size l = true → (∀ W, Below w.heap.size w W → wpQuiet P ops (fun w' => ∃ x, w' = W.ext x) (· = A) l a) → LexX P ops w A l a
  | [], a, _, h => h w (Below.refl _ _)
  | o :: rest, a, hB, h => by
    obtain ⟨⟨d, hd, hlt, hne⟩, hB'⟩ := distB_cons hB
    by_cases hw : Region.wanted o (yielded ops a.tmps) = true
    · have h' : ∀ W, Below w.heap.size w W → o.quiet P a (fun w' => ∃ x, w' = W.ext x) (wpQuiet P ops (fun w' => ∃ x, w' = W.ext x) (· = A) rest) := fun W hW => by
        have := h W hW
        simp only [wpQuiet, if_pos hw] at this
        exact this
      have key : ∀ W, Below w.heap.size w W → ∃ v, o.quietAt P a (fun w' => Below W.heap.size W w') W v ∧ wpQuiet P ops (fun w' => ∃ x, w' = W.ext x) (· = A) rest (a.put o.dst v) ∧ A.tmps[d]? = some v := fun W hW => by
        obtain ⟨v, hq, hn⟩ := h' W hW
        refine ⟨v, quietAt_below (hq W ⟨W, (ext_of (Below.refl _ _)).symm⟩), hn, ?_⟩
        rw [quiet_keeps rest _ hne hn, hd, put_get a v hlt]
      obtain ⟨v0, _, _, e0⟩ := key w (Below.refl _ _)
      refine Or.inl ⟨hw, v0, fun W hW => ?_, lex_of rest _ (by rw [put_size]; exact hB') fun W hW => ?_⟩
      · obtain ⟨v, hq, _, e⟩ := key W hW
        rw [e0] at e
        injection e with e
        rw [e]; exact hq
      · obtain ⟨v, _, hn, e⟩ := key W hW
        rw [e0] at e
        injection e with e
        rw [e]; exact hn
    · refine Or.inr ⟨by simpa using hw, lex_of rest _ (by rw [put_size]; exact hB') fun W hW => ?_⟩
      have := h W hW
      simp only [wpQuiet, if_neg hw] at this
      exact this

/-- what the walk in the order of the text tells of its p-th operation, at any act that agrees with it in what the operation looks at -/
theorem LexX.get {w : World} {A : Act} : ∀ (l : List Oper) (a : Act), distB a.tmps.size l = true → LexX P ops w A l a → ∀ (p : Nat) (o : Oper), l[p]? = some o → (∀ cs b, o.op ≠ .select cs b) → ∀ a' : Act,
    (∀ s ∈ o.looksAt ops, a'.tmps[s]? = if ∃ x ∈ l.take p, x.dst = some s then A.tmps[s]? else a.tmps[s]?) →
    ∃ d v, o.dst = some d ∧ A.tmps[d]? = some v ∧ ((Region.wanted o (yielded ops a'.tmps) = true ∧ YX P o a' w v) ∨ (Region.wanted o (yielded ops a'.tmps) = false ∧ v = undef))
  | [], a, _, _, p, o, hp, _, _, _ => by simp at hp
  | o' :: rest, a, hB, h, 0, o, hp, hs, a', hag => by
    obtain ⟨⟨d, hd, hlt, hne⟩, hB'⟩ := distB_cons hB
    have : o' = o := by simpa using hp
    subst this
    have hag' : ∀ s ∈ o'.looksAt ops, a'.tmps[s]? = a.tmps[s]? := fun s hs' => by simpa using hag s hs'
    obtain ⟨e1, e2⟩ := looks_same hs hag'
    rcases h with ⟨hw, v, hy, hn⟩ | ⟨hw, hn⟩
    · refine ⟨d, v, hd, by rw [lex_keeps rest _ hne hn, hd, put_get a v hlt], Or.inl ⟨by rw [e2]; exact hw, fun W hW => ?_⟩⟩
      have := hy W hW
      unfold Oper.quietAt at *
      rw [e1]; exact this
    · exact ⟨d, undef, hd, by rw [lex_keeps rest _ hne hn, hd, put_get a undef hlt], Or.inr ⟨by rw [e2]; exact hw, rfl⟩⟩
  | o' :: rest, a, hB, h, p + 1, o, hp, hs, a', hag => by
    obtain ⟨⟨d, hd, hlt, hne⟩, hB'⟩ := distB_cons hB
    have step : ∀ v, LexX P ops w A rest (a.put o'.dst v) → ∃ d v, o.dst = some d ∧ A.tmps[d]? = some v ∧ ((Region.wanted o (yielded ops a'.tmps) = true ∧ YX P o a' w v) ∨ (Region.wanted o (yielded ops a'.tmps) = false ∧ v = undef)) := fun v hn => by
      refine LexX.get rest _ (by rw [put_size]; exact hB') hn p o (by simpa using hp) hs a' fun s hs' => ?_
      rw [hag s hs']
      by_cases h1 : ∃ x ∈ rest.take p, x.dst = some s
      · rw [if_pos h1, if_pos (by obtain ⟨x, hx, he⟩ := h1; exact ⟨x, by simp [hx], he⟩)]
      · rw [if_neg h1]
        by_cases h2 : o'.dst = some s
        · rw [if_pos ⟨o', by simp, h2⟩]
          have hsd : d = s := by rw [hd] at h2; injection h2
          subst hsd
          exact lex_keeps rest _ hne hn
        · rw [if_neg (by
            rintro ⟨x, hx, he⟩
            rw [List.take_succ_cons, List.mem_cons] at hx
            rcases hx with rfl | hx
            · exact h2 he
            · exact h1 ⟨x, hx, he⟩), put_get_ne a v h2]
    rcases h with ⟨_, v, _, hn⟩ | ⟨_, hn⟩
    · exact step v hn
    · exact step undef hn

/-- an operation that makes what is new -/
def mkUpon (P : Program) (W : World) (V : Value → World → Prop) (F : Value → Prop) : Result Next → Prop
  | .ok (.value v) W' => Below W.heap.size W W' ∧ V v W' ∧ F v
  | .ok (.enter f args) W' => W' = W ∧ Calls P f args W (fun e w'' => ∃ v, e = .returned v ∧ Below W.heap.size W w'' ∧ V v w'' ∧ F v)
  | _ => False
/-- .. whose value is apart (N) from what the others made -/
def MkAt (P : Program) (ops : Array Oper) (o : Oper) (A : Act) (w : World) (V : Value → World → Prop) (Vs : Nat → Value → World → Prop) (N : Value → Value → Prop) : Prop :=
  Region.wanted o (yielded ops A.tmps) = true ∧ ∀ W, Below w.heap.size w W → mkUpon P W V (fun v => ∀ j u, Vs j u W → N v u ∧ N u v) ((execOp A.eval o).run P W)

/-- the closed fact: 'h' in the order of the text, 'k' makers -/
def Region.mkB (md : Region.Mode) (ops : Array Oper) (h k : List Nat) : Bool :=
  ((List.range h.length).all fun p => ((ops.getD (h.getD p 0) default).looksAt ops).all fun s =>
      ((List.range h.length).all fun q => (ops.getD (h.getD q 0) default).dst != some s || (if q < p then Region.waitsFor md ops (h.getD p 0) (h.getD q 0) else q == p || Region.waitsFor md ops (h.getD q 0) (h.getD p 0))) &&
      (k.all fun j => (ops.getD j default).dst != some s || Region.waitsFor md ops j (h.getD p 0))) &&
  (k.all fun i => ((ops.getD i default).looksAt ops).all fun s =>
      ((List.range h.length).all fun q => (ops.getD (h.getD q 0) default).dst != some s || Region.waitsFor md ops i (h.getD q 0)) && (k.all fun j => (ops.getD j default).dst != some s))

theorem wp_of_YX {o : Oper} {a : Act} {w W : World} {v : Value} {K : Act → World → Prop} {Q : Exit → Act → World → Prop} (hy : YX P o a w v) (hW : Below w.heap.size w W) (hK : ∀ W', Below W.heap.size W W' → K (a.put o.dst v) W') : o.wp P a W K Q := by
  have h3 := hy W hW
  unfold Oper.quietAt at h3
  unfold Oper.wp
  generalize (execOp a.eval o).run P W = r at *
  cases r with
  | ok n w' =>
    cases n <;> simp only [Oper.quietUpon] at h3 <;> simp only [Oper.upon]
    case value u =>
      obtain ⟨e1, e2⟩ := h3
      rw [e1, e2]
      exact hK _ (Below.refl _ _)
    case skip =>
      obtain ⟨e1, e2⟩ := h3
      rw [e1, ← e2]
      exact hK _ (Below.refl _ _)
    case enter f args =>
      obtain ⟨e1, hc⟩ := h3
      rw [e1]
      exact hc.mono fun e w'' ⟨he, hw''⟩ => by subst he; exact hK _ hw''
  | halt x w' => simp only [Oper.quietUpon] at h3

theorem wp_of_mk {o : Oper} {a : Act} {W : World} {V : Value → World → Prop} {F : Value → Prop} {K : Act → World → Prop} {Q : Exit → Act → World → Prop} (h3 : mkUpon P W V F ((execOp a.eval o).run P W)) (hK : ∀ v W', Below W.heap.size W W' → V v W' → F v → K (a.put o.dst v) W') : o.wp P a W K Q := by
  unfold Oper.wp
  generalize (execOp a.eval o).run P W = r at *
  cases r with
  | ok n w' =>
    cases n <;> simp only [mkUpon] at h3 <;> simp only [Oper.upon]
    case value u => exact hK _ _ h3.1 h3.2.1 h3.2.2
    case enter f args =>
      obtain ⟨e1, hc⟩ := h3
      rw [e1]
      exact hc.mono fun e w'' ⟨v, he, hw'', hv, hf⟩ => by subst he; exact hK _ _ hw'' hv hf
  | halt x w' => simp only [mkUpon] at h3

structure InvM (ops : Array Oper) (a A : Act) (w : World) (h k : List Nat) (V : Nat → Value → World → Prop) (N : Value → Value → Prop) (listed : Array Bool) (a' : Act) (W : World) : Prop where
  below : Below w.heap.size w W
  size : a'.tmps.size = a.tmps.size
  defers : a'.defers = a.defers
  hv : ∀ i ∈ h, listed.getD i false = true → ∀ s, (ops.getD i default).dst = some s → a'.tmps[s]? = A.tmps[s]?
  kv : ∀ i ∈ k, listed.getD i false = true → ∀ s, (ops.getD i default).dst = some s → ∃ v, a'.tmps[s]? = some v ∧ V i v W
  old : ∀ s, (∀ i ∈ h ++ k, (ops.getD i default).dst = some s → listed.getD i false = false) → a'.tmps[s]? = a.tmps[s]?
  ap : ∀ i ∈ k, ∀ j ∈ k, i ≠ j → listed.getD i false = true → listed.getD j false = true → ∀ s t u v, (ops.getD i default).dst = some s → (ops.getD j default).dst = some t → a'.tmps[s]? = some u → a'.tmps[t]? = some v → N u v

/-- how many of a list are not listed -/
def unl (l : List Nat) (listed : Array Bool) : Nat := (l.filter fun i => !listed.getD i true).length
theorem unl_set {l : List Nat} {listed : Array Bool} {i : Nat} (hnd : l.Nodup) (hi : i ∈ l) (hu : listed.getD i true = false) : unl l listed = unl l (listed.setIfInBounds i true) + 1 := by
  have hil : i < listed.size := by
    rcases Nat.lt_or_ge i listed.size with h | h
    · exact h
    · simp [Array.getElem?_eq_none h] at hu
  induction l with
  | nil => cases hi
  | cons x l ih =>
    rw [List.nodup_cons] at hnd
    by_cases hx : x = i
    · subst hx
      have h1 : (listed.setIfInBounds x true).getD x true = true := by simp [hil]
      have h2 : unl l (listed.setIfInBounds x true) = unl l listed := by
        unfold unl
        congr 1
        apply List.filter_congr
        intro y hy
        have hne : x ≠ y := fun e => hnd.1 (e ▸ hy)
        rw [getD_set_ne true hne]
      unfold unl at *
      rw [List.filter_cons, List.filter_cons, hu, h1]
      simp only [Bool.not_false, if_true, Bool.not_true, Bool.false_eq_true, if_false, List.length_cons]
      omega
    · have hi' : i ∈ l := by
        rcases List.mem_cons.1 hi with h | h
        · exact absurd h.symm hx
        · exact h
      have := ih hnd.2 hi'
      have e : (listed.setIfInBounds i true).getD x true = listed.getD x true := getD_set_ne true (fun e => hx e.symm)
      unfold unl at *
      rw [List.filter_cons, List.filter_cons, e]
      split <;> simp_all
theorem unl_zero {l : List Nat} {listed : Array Bool} (h : unl l listed = 0) : ∀ i ∈ l, listed.getD i true = true := by
  intro i hi
  unfold unl at h
  have := List.filter_eq_nil_iff.1 (List.eq_nil_of_length_eq_zero h) i hi
  simpa using this

/-- each one of the order waits for ones ahead of it alone -/
def Region.topB (md : Region.Mode) (ops : Array Oper) (ord : List Nat) : Bool :=
  (List.range ord.length).all fun x => (ops.getD (ord.getD x 0) default).after.all fun e => !Region.binds md e || (ord.take x).contains e.on

theorem ready_ne {ord : List Nat} {listed : Array Bool} (ht : Region.topB md ops ord = true) (hin : ∀ x, x < ord.length → ord.getD x 0 < ops.size) (hsz : listed.size = ops.size) {x : Nat} (hx : x < ord.length) (hu : listed.getD (ord.getD x 0) true = false) : Region.ready md ops listed ≠ [] := by
  induction x using Nat.strongRecOn with
  | _ x ih =>
    by_cases hall : ∀ y, y < x → listed.getD (ord.getD y 0) true = true
    · intro he
      have hm : ord.getD x 0 ∈ Region.ready md ops listed := by
        refine mem_ready.2 ⟨hu, _, getD_some (hin x hx), fun e he hb => ?_⟩
        have h1 := List.all_eq_true.1 ht x (List.mem_range.2 hx)
        have h2 := Array.all_eq_true'.1 h1 e he
        rw [hb] at h2
        simp only [Bool.not_true, Bool.false_or, List.contains_eq_mem, decide_eq_true_eq] at h2
        obtain ⟨y, hy, hye⟩ := List.mem_iff_getElem.1 h2
        have hyx : y < x := by rw [List.length_take] at hy; omega
        have hl := hall y hyx
        have e1 : ord.getD y 0 = e.on := by
          rw [List.getElem_take] at hye
          rw [List.getD_eq_getElem?_getD, List.getElem?_eq_getElem (by omega)]
          exact hye
        rw [e1] at hl
        have hes : e.on < listed.size := by rw [hsz, ← e1]; exact hin y (by omega)
        simp [hes] at hl ⊢
        exact hl
      rw [he] at hm
      cases hm
    · simp only [Classical.not_forall] at hall
      obtain ⟨y, hy, hn⟩ := hall
      exact ih y hy (by omega) (by simpa using hn)

theorem inj_of_nodup_map {α β : Type} {f : α → β} : ∀ {l : List α}, (l.map f).Nodup → ∀ x ∈ l, ∀ y ∈ l, f x = f y → x = y
  | [], _, x, hx, _, _, _ => by cases hx
  | z :: l, h, x, hx, y, hy, e => by
    rw [List.map_cons, List.nodup_cons] at h
    rcases List.mem_cons.1 hx with rfl | hx'
    · rcases List.mem_cons.1 hy with rfl | hy'
      · rfl
      · exact absurd (List.mem_map.2 ⟨y, hy', e.symm⟩) h.1
    · rcases List.mem_cons.1 hy with rfl | hy'
      · exact absurd (List.mem_map.2 ⟨x, hx', e⟩) h.1
      · exact inj_of_nodup_map h.2 x hx' y hy' e
theorem distB_get {n : Nat} {l : List Nat} (h : distB n (selOps ops l) = true) : (∀ i ∈ l, ∃ d, (ops.getD i default).dst = some d ∧ d < n) ∧ (∀ i ∈ l, ∀ j ∈ l, (ops.getD i default).dst = (ops.getD j default).dst → i = j) := by
  simp only [distB, Bool.and_eq_true, decide_eq_true_eq] at h
  constructor
  · intro i hi
    have := List.all_eq_true.1 h.1 (ops.getD i default) (List.mem_map.2 ⟨i, hi, rfl⟩)
    cases hd : (ops.getD i default).dst with
    | none => rw [hd] at this; cases this
    | some d => rw [hd] at this; exact ⟨d, rfl, by simpa using this⟩
  · intro i hi j hj e
    have h2 := h.2
    unfold selOps at h2
    rw [List.map_map] at h2
    exact inj_of_nodup_map h2 i hi j hj e

theorem InvM.step {a A : Act} {w W W' : World} {h k : List Nat} {V : Nat → Value → World → Prop} {N : Value → Value → Prop} {listed : Array Bool} {a' : Act} (inv : InvM ops a A w h k V N listed a' W) (hdist : distB a.tmps.size (selOps ops (h ++ k)) = true)
    (hV : ∀ i v W W', V i v W → Below W.heap.size W W' → V i v W') {i : Nat} (hi : i ∈ h ++ k) (hu : listed.getD i true = false) {d : Tmp} {v : Value} (hd : (ops.getD i default).dst = some d) (hW : Below W.heap.size W W')
    (hh : i ∈ h → A.tmps[d]? = some v) (hk : i ∈ k → V i v W') (hN : i ∈ k → ∀ j u, V j u W → N v u ∧ N u v) : InvM ops a A w h k V N (listed.setIfInBounds i true) (a'.put (some d) v) W' := by
  obtain ⟨h1, h2⟩ := distB_get hdist
  have hdl : d < a'.tmps.size := by
    obtain ⟨d', e, hl⟩ := h1 i hi
    rw [hd] at e; injection e with e; subst e
    rw [inv.size]; exact hl
  have ne : ∀ j ∈ h ++ k, j ≠ i → ∀ s, (ops.getD j default).dst = some s → (some d : Option Tmp) ≠ some s := fun j hj hji s hs e => hji (h2 j hj i hi (by rw [hs, hd]; exact e.symm))
  refine ⟨bt' inv.below hW inv.below.size, by rw [put_size]; exact inv.size, by rw [put_defers']; exact inv.defers, fun j hj hl s hs => ?_, fun j hj hl s hs => ?_, fun s hs => ?_, fun x hx y hy hxy hlx hly s t u z hs ht hu' hz => ?_⟩
  · by_cases hji : j = i
    · subst hji
      rw [hd] at hs; injection hs with hs; subst hs
      rw [put_get a' v hdl, hh hj]
    · rw [getD_set_ne false (fun e => hji e.symm)] at hl
      rw [put_get_ne a' v (ne j (by simp [hj]) hji s hs)]
      exact inv.hv j hj hl s hs
  · by_cases hji : j = i
    · subst hji
      rw [hd] at hs; injection hs with hs; subst hs
      exact ⟨v, put_get a' v hdl, hk hj⟩
    · rw [getD_set_ne false (fun e => hji e.symm)] at hl
      rw [put_get_ne a' v (ne j (by simp [hj]) hji s hs)]
      obtain ⟨u, e, hu⟩ := inv.kv j hj hl s hs
      exact ⟨u, e, hV _ _ _ _ hu hW⟩
  · have hil : i < listed.size := by
      rcases Nat.lt_or_ge i listed.size with hh | hh
      · exact hh
      · simp [Array.getElem?_eq_none hh] at hu
    have hds : (some d : Option Tmp) ≠ some s := fun e => by
      have := hs i hi (by rw [hd]; exact e)
      simp [hil] at this
    rw [put_get_ne a' v hds]
    refine inv.old s fun j hj hjs => ?_
    have := hs j hj hjs
    by_cases hji : j = i
    · subst hji; exact getD_both hu
    · rw [getD_set_ne false (fun e => hji e.symm)] at this; exact this
  · by_cases hxi : x = i
    · subst hxi
      have hyx : y ≠ x := fun e => hxy e.symm
      rw [hd] at hs; injection hs with hs; subst hs
      rw [put_get a' v hdl] at hu'; injection hu' with hu'; subst hu'
      rw [getD_set_ne false (fun e => hyx e.symm)] at hly
      rw [put_get_ne a' v (ne y (by simp [hy]) hyx t ht)] at hz
      obtain ⟨q, e, hq⟩ := inv.kv y hy hly t ht
      rw [hz] at e; injection e with e; subst e
      exact (hN hx y z hq).1
    · rw [getD_set_ne false (fun e => hxi e.symm)] at hlx
      rw [put_get_ne a' v (ne x (by simp [hx]) hxi s hs)] at hu'
      by_cases hyi : y = i
      · subst hyi
        rw [hd] at ht; injection ht with ht; subst ht
        rw [put_get a' v hdl] at hz; injection hz with hz; subst hz
        obtain ⟨q, e, hq⟩ := inv.kv x hx hlx s hs
        rw [hu'] at e; injection e with e; subst e
        exact (hN hy x u hq).2
      · rw [getD_set_ne false (fun e => hyi e.symm)] at hly
        rw [put_get_ne a' v (ne y (by simp [hy]) hyi t ht)] at hz
        exact inv.ap x hx y hy hxy hlx hly s t u z hs ht hu' hz

theorem wpAny_mk {Q : Exit → Act → World → Prop} {a A : Act} {w : World} {h k t : List Nat} {V : Nat → Value → World → Prop} {N : Value → Value → Prop} (hsel : Region.noSelect ops = true) (hnd : ((h ++ k) ++ t).Nodup)
    (hs : Region.sinkI md ops ((h ++ k) ++ t) (h ++ k).length = true) (hc : Region.chainI md ops ((h ++ k) ++ t) (h ++ k).length = true) (ht0 : 0 < t.length) (htop : Region.topB md ops (h ++ k) = true) (hin : ∀ x, x < ((h ++ k) ++ t).length → ((h ++ k) ++ t).getD x 0 < ops.size)
    (hmk : Region.mkB md ops h k = true) (hdist : distB a.tmps.size (selOps ops (h ++ k)) = true) (hlex : LexX P ops w A (selOps ops h) a) (hk : ∀ i ∈ k, MkAt P ops (ops.getD i default) A w (V i) V N)
    (hV : ∀ i v W W', V i v W → Below W.heap.size W W' → V i v W')
    (hL : ∀ listed a' W, HeadI md ops ((h ++ k) ++ t) (h ++ k).length listed → (∀ i ∈ h ++ k, listed.getD i true = true) → InvM ops a A w h k V N listed a' W → wpAny P md ops Q t.length listed a' W) :
    ∀ (f : Nat) (listed : Array Bool) (a' : Act) (W : World), unl (h ++ k) listed = f → HeadI md ops ((h ++ k) ++ t) (h ++ k).length listed → InvM ops a A w h k V N listed a' W → wpAny P md ops Q (f + t.length) listed a' W := by
  have hn : (h ++ k).length < ((h ++ k) ++ t).length := by rw [@List.length_append Nat (h ++ k) t]; omega
  have hord : ∀ x, x < (h ++ k).length → ((h ++ k) ++ t).getD x 0 = (h ++ k).getD x 0 := fun x hx => by
    rw [List.getD_eq_getElem?_getD, List.getElem?_append_left hx, ← List.getD_eq_getElem?_getD]
  have hin' : ∀ x, x < (h ++ k).length → (h ++ k).getD x 0 < ops.size := fun x hx => by rw [← hord x hx]; exact hin x (by omega)
  simp only [Region.mkB, Bool.and_eq_true] at hmk
  obtain ⟨mk1, mk2⟩ := hmk
  have hdh : distB a.tmps.size (selOps ops h) = true := by
    simp only [distB, Bool.and_eq_true, decide_eq_true_eq] at hdist ⊢
    unfold selOps at hdist ⊢
    rw [List.map_append, List.map_append, List.all_append, Bool.and_eq_true] at hdist
    exact ⟨hdist.1.1, (List.nodup_append.1 hdist.2).1⟩
  intro f
  induction f with
  | zero =>
    intro listed a' W hu inv iv
    rw [Nat.zero_add]
    exact hL listed a' W inv (unl_zero hu) iv
  | succ f ih =>
    intro listed a' W hu inv iv
    rw [show f + 1 + t.length = (f + t.length) + 1 by omega]
    obtain ⟨x, hx, hxu⟩ : ∃ x, x < (h ++ k).length ∧ listed.getD ((h ++ k).getD x 0) true = false := by
      have hne : ((h ++ k).filter fun i => !listed.getD i true) ≠ [] := fun e => by unfold unl at hu; rw [e] at hu; cases hu
      obtain ⟨y, hy⟩ := List.exists_mem_of_ne_nil _ hne
      rw [List.mem_filter] at hy
      obtain ⟨x, hx, he⟩ := List.mem_iff_getElem.1 hy.1
      exact ⟨x, hx, by rw [List.getD_eq_getElem?_getD, List.getElem?_eq_getElem hx]; simp only [Option.getD_some]; rw [he]; simpa using hy.2⟩
    refine ⟨fun h0 => absurd h0 (ready_ne htop hin' inv.size hx hxu), fun i hi => ?_⟩
    obtain ⟨hiu, oi, hoi, hdep⟩ := mem_ready.1 hi
    have hlt : i < ops.size := (Array.getElem?_eq_some_iff.1 hoi).1
    have ho : oi = ops.getD i default := by
      have := getD_some hlt
      rw [hoi] at this; exact Option.some.inj this
    subst ho
    obtain ⟨z, hz, hzi⟩ := inv.all i hlt hiu
    have hzn : z < (h ++ k).length := by
      rcases Nat.lt_or_ge z (h ++ k).length with h1 | h1
      · exact h1
      · exact absurd (hzi ▸ hi) (tail_waitsI hs hc hn inv _ x rfl hx (by rw [hord x hx]; exact hxu) z h1 hz)
    have him : i ∈ h ++ k := by
      rw [← hzi, hord z hzn, List.getD_eq_getElem?_getD, List.getElem?_eq_getElem hzn]
      exact List.getElem_mem _
    have listedOf : ∀ j, Region.waitsFor md ops i j = true → listed.getD j false = true := fun j hj => by
      obtain ⟨oj, hoj, e, he, hb, hon⟩ := Region.waitsFor_spec hj
      have : oj = ops.getD i default := Option.some.inj (hoj.symm.trans hoi)
      subst this
      rw [← hon]; exact hdep e he hb
    have unlistedOf : ∀ j, Region.waitsFor md ops j i = true → listed.getD j false = false := fun j hj => by
      obtain ⟨oj, hoj, e, he, hb, hon⟩ := Region.waitsFor_spec hj
      cases hl : listed.getD j false with
      | false => rfl
      | true =>
        have := inv.closed j oj hoj hl e he hb
        rw [hon, getD_both hiu] at this
        cases this
    have next : ∀ {d v W'}, (ops.getD i default).dst = some d → Below W.heap.size W W' → (i ∈ h → A.tmps[d]? = some v) → (i ∈ k → V i v W') → (i ∈ k → ∀ j u, V j u W → N v u ∧ N u v) → wpAny P md ops Q (f + t.length) (listed.setIfInBounds i true) (a'.put (some d) v) W' := fun {d v W'} hd hW h1 h2 h3 => by
      refine ih _ _ _ ?_ ?_ (iv.step hdist hV him hiu hd hW h1 h2 h3)
      · have := unl_set (List.nodup_append.1 hnd).1 him hiu
        omega
      · have := inv.set hnd hz (hzi.symm ▸ hi) hzn
        rw [hzi] at this
        exact this
    unfold wpOp
    rw [hoi]
    simp only
    by_cases hih : i ∈ h
    · obtain ⟨p, hp, hpi⟩ := List.mem_iff_getElem.1 hih
      have hpg : h.getD p 0 = i := by rw [List.getD_eq_getElem?_getD, List.getElem?_eq_getElem hp]; exact hpi
      have hag : ∀ s ∈ (ops.getD i default).looksAt ops, a'.tmps[s]? = if ∃ x ∈ (selOps ops h).take p, x.dst = some s then A.tmps[s]? else a.tmps[s]? := fun s hs' => by
        have m := List.all_eq_true.1 (List.all_eq_true.1 mk1 p (List.mem_range.2 hp)) s (by rw [hpg]; exact hs')
        rw [Bool.and_eq_true] at m
        split
        · rename_i hx
          obtain ⟨o, ho, hos⟩ := hx
          obtain ⟨q, hq, hqo⟩ := List.mem_iff_getElem.1 ho
          have hq1 : q < p := by rw [List.length_take] at hq; omega
          have hq2 : q < h.length := by omega
          have hoq : o = ops.getD (h.getD q 0) default := by
            rw [← hqo, List.getElem_take]
            unfold selOps
            rw [List.getElem_map, List.getD_eq_getElem?_getD, List.getElem?_eq_getElem hq2]; rfl
          have m1 := List.all_eq_true.1 m.1 q (List.mem_range.2 hq2)
          rw [← hoq, hos] at m1
          simp only [bne_self_eq_false, Bool.false_or, hq1, if_true, hpg] at m1
          exact iv.hv (h.getD q 0) (by rw [List.getD_eq_getElem?_getD, List.getElem?_eq_getElem hq2]; exact List.getElem_mem _) (listedOf _ m1) s (by rw [← hoq]; exact hos)
        · rename_i hx
          refine iv.old s fun j hj hjs => ?_
          rcases List.mem_append.1 hj with hj | hj
          · obtain ⟨q, hq, hqj⟩ := List.mem_iff_getElem.1 hj
            have hqg : h.getD q 0 = j := by rw [List.getD_eq_getElem?_getD, List.getElem?_eq_getElem hq]; exact hqj
            have m1 := List.all_eq_true.1 m.1 q (List.mem_range.2 hq)
            rw [hqg, hjs] at m1
            by_cases hqp : q < p
            · exfalso
              refine hx ⟨ops.getD j default, ?_, hjs⟩
              refine List.mem_iff_getElem.2 ⟨q, by unfold selOps; simp; omega, ?_⟩
              rw [List.getElem_take]
              unfold selOps
              rw [List.getElem_map, hqj]
            · simp only [bne_self_eq_false, Bool.false_or, hqp, if_false, Bool.or_eq_true, beq_iff_eq, hpg] at m1
              rcases m1 with e | m1
              · subst e
                have : j = i := by rw [← hqj, hpi]
                subst this; exact getD_both hiu
              · exact unlistedOf j m1
          · have m2 := List.all_eq_true.1 m.2 j hj
            rw [hjs, hpg] at m2
            simp only [bne_self_eq_false, Bool.false_or] at m2
            exact unlistedOf j m2
      obtain ⟨d, v, hd, hv, hcase⟩ := LexX.get (selOps ops h) a hdh hlex p (ops.getD i default) (by unfold selOps; rw [List.getElem?_map, List.getElem?_eq_getElem hp, hpi]; rfl) (fun cs b => Region.noSelect_spec hsel i _ cs b hoi) a' hag
      have hno : i ∈ k → False := fun hk' => by
        have := (List.nodup_append.1 (List.nodup_append.1 hnd).1).2.2 i hih i hk'
        exact this rfl
      rcases hcase with ⟨hw, hy⟩ | ⟨hw, rfl⟩
      · rw [if_pos hw]
        refine .inl (wp_of_YX hy iv.below fun W' hW' => ?_)
        rw [hd]
        exact next hd hW' (fun _ => hv) (fun hk' => (hno hk').elim) (fun hk' => (hno hk').elim)
      · rw [if_neg (by rw [hw]; simp), hd]
        exact next hd (Below.refl _ _) (fun _ => hv) (fun hk' => (hno hk').elim) (fun hk' => (hno hk').elim)
    · have hik : i ∈ k := (List.mem_append.1 him).resolve_left hih
      obtain ⟨hw, hm⟩ := hk i hik
      have hag : ∀ s ∈ (ops.getD i default).looksAt ops, a'.tmps[s]? = A.tmps[s]? := fun s hs' => by
        have m := List.all_eq_true.1 (List.all_eq_true.1 mk2 i hik) s hs'
        rw [Bool.and_eq_true] at m
        by_cases hx : ∃ j ∈ h, (ops.getD j default).dst = some s
        · obtain ⟨j, hj, hjs⟩ := hx
          obtain ⟨q, hq, hqj⟩ := List.mem_iff_getElem.1 hj
          have hqg : h.getD q 0 = j := by rw [List.getD_eq_getElem?_getD, List.getElem?_eq_getElem hq]; exact hqj
          have m1 := List.all_eq_true.1 m.1 q (List.mem_range.2 hq)
          rw [hqg, hjs] at m1
          simp only [bne_self_eq_false, Bool.false_or] at m1
          exact iv.hv j hj (listedOf _ m1) s hjs
        · rw [lex_keeps (selOps ops h) a (fun o ho e => by
            unfold selOps at ho
            obtain ⟨j, hj, rfl⟩ := List.mem_map.1 ho
            exact hx ⟨j, hj, e⟩) hlex]
          refine iv.old s fun j hj hjs => ?_
          rcases List.mem_append.1 hj with hj | hj
          · exact absurd ⟨j, hj, hjs⟩ hx
          · have := List.all_eq_true.1 m.2 j hj
            rw [hjs] at this
            simp at this
      obtain ⟨e1, e2⟩ := looks_same (fun cs b => Region.noSelect_spec hsel i _ cs b hoi) hag
      obtain ⟨d, hd, _⟩ := (distB_get hdist).1 i him
      rw [if_pos (by rw [e2]; exact hw)]
      refine .inl (wp_of_mk (V := V i) (by rw [e1]; exact hm W iv.below) fun v W' hW' hv hf => ?_)
      rw [hd]
      exact next hd hW' (fun hh => absurd hh hih) (fun _ => hv) (fun _ => hf)

/-- the tail, whatever the makers made -/
def TailX (P : Program) (ops : Array Oper) (Q : Exit → Act → World → Prop) (w : World) (t : List Oper) (V : Nat → Value → World → Prop) (N : Value → Value → Prop) : List Nat → List Value → (World → Prop) → Act → Prop
  | [], _, C, A => ∀ W, Below w.heap.size w W → C W → wpList P ops Q t A W
  | i :: ks, l, C, A => ∀ v, (∀ u ∈ l, N u v) → TailX P ops Q w t V N ks (v :: l) (fun W => C W ∧ V i v W) (A.put (ops.getD i default).dst v)

theorem nodup_le : ∀ (l m : List Nat), l.Nodup → (∀ x ∈ l, x ∈ m) → l.length ≤ m.length
  | [], m, _, _ => Nat.zero_le _
  | x :: l, m, hn, hs => by
    rw [List.nodup_cons] at hn
    have hx := hs x (by simp)
    have := nodup_le l (m.erase x) hn.2 fun y hy => (List.mem_erase_of_ne (fun e => hn.1 (by rw [← e]; exact hy))).2 (hs y (by simp [hy]))
    have h2 := List.length_erase_of_mem hx
    have h3 : 0 < m.length := List.length_pos_of_mem hx
    rw [List.length_cons]
    omega
theorem act_ext {a b : Act} (h1 : a.tmps.size = b.tmps.size) (h2 : a.defers = b.defers) (h : ∀ s : Nat, a.tmps[s]? = b.tmps[s]?) : a = b := by
  obtain ⟨at', ad⟩ := a
  obtain ⟨bt', bd⟩ := b
  obtain rfl : at' = bt' := Array.ext_getElem? h
  obtain rfl : ad = bd := h2
  rfl

theorem tail_of {Q : Exit → Act → World → Prop} {w : World} {t : List Oper} {V : Nat → Value → World → Prop} {N : Value → Value → Prop} {a' : Act} {W : World} (hW : Below w.heap.size w W) :
    ∀ (ks : List Nat) (l : List Value) (C : World → Prop) (B : Act), B.tmps.size = a'.tmps.size → B.defers = a'.defers → (∀ i ∈ ks, ∃ d v, (ops.getD i default).dst = some d ∧ a'.tmps[d]? = some v ∧ V i v W ∧ (∀ u ∈ l, N u v)) →
      (∀ s, (∀ i ∈ ks, (ops.getD i default).dst ≠ some s) → a'.tmps[s]? = B.tmps[s]?) → ks.Nodup → (∀ i ∈ ks, ∀ j ∈ ks, i ≠ j → ∀ s t u v, (ops.getD i default).dst = some s → (ops.getD j default).dst = some t → a'.tmps[s]? = some u → a'.tmps[t]? = some v → N u v) → C W → TailX P ops Q w t V N ks l C B → wpList P ops Q t a' W
  | [], l, C, B, h1, h2, _, h4, _, _, hC, h => by
    have : a' = B := act_ext h1.symm h2.symm fun s => h4 s (fun i hi => by cases hi)
    rw [this]
    exact h W hW hC
  | i :: ks, l, C, B, h1, h2, h3, h4, hnd, hap, hC, h => by
    obtain ⟨d, v, hd, hv, hV, hN⟩ := h3 i (by simp)
    rw [List.nodup_cons] at hnd
    refine tail_of hW ks (v :: l) _ _ (by rw [put_size]; exact h1) (by rw [put_defers']; exact h2) (fun j hj => ?_) (fun s hs => ?_) hnd.2 (fun x hx y hy => hap x (by simp [hx]) y (by simp [hy])) ⟨hC, hV⟩ (h v hN)
    · obtain ⟨d', v', hd', hv', hV', hN'⟩ := h3 j (by simp [hj])
      refine ⟨d', v', hd', hv', hV', fun u hu => ?_⟩
      rcases List.mem_cons.1 hu with rfl | hu
      · exact hap i (by simp) j (by simp [hj]) (fun e => hnd.1 (e ▸ hj)) d d' _ _ hd hd' hv hv'
      · exact hN' u hu
    · by_cases e : (ops.getD i default).dst = some s
      · have : d = s := by rw [hd] at e; injection e
        subst this
        have hl : d < B.tmps.size := by rw [h1]; exact (Array.getElem?_eq_some_iff.1 hv).1
        rw [hd, put_get B v hl, hv]
      · rw [put_get_ne B v e]
        exact h4 s fun j hj => by
          rcases List.mem_cons.1 hj with rfl | hj
          · exact e
          · exact hs j hj

def MkAll (P : Program) (ops : Array Oper) (A : Act) (w : World) (V : Nat → Value → World → Prop) (N : Value → Value → Prop) : List Nat → Prop
  | [] => True
  | i :: ks => MkAt P ops (ops.getD i default) A w (V i) V N ∧ MkAll P ops A w V N ks
theorem MkAll.get {A : Act} {w : World} {V : Nat → Value → World → Prop} {N : Value → Value → Prop} : ∀ {k : List Nat}, MkAll P ops A w V N k → ∀ i ∈ k, MkAt P ops (ops.getD i default) A w (V i) V N
  | x :: ks, h, i, hi => by
    rcases List.mem_cons.1 hi with rfl | hi
    · exact h.1
    · exact MkAll.get h.2 i hi

/-- the closed fact of such a region -/
def Region.planM (md : Region.Mode) (ops : Array Oper) (n : Nat) (h k t : List Nat) : Bool :=
  Region.noSelect ops && decide ((h ++ k) ++ t).Nodup && decide (0 < t.length) && Region.sinkI md ops ((h ++ k) ++ t) (h ++ k).length && Region.chainI md ops ((h ++ k) ++ t) (h ++ k).length &&
  Region.topB md ops (h ++ k) && (((h ++ k) ++ t).all fun i => decide (i < ops.size)) && Region.mkB md ops h k && distB n (selOps ops (h ++ k)) &&
  ((List.range ops.size).all fun i => ((h ++ k) ++ t).contains i) && Region.seqI md ops t ((Array.range ops.size).map fun i => (h ++ k).contains i)

/-- **THE REGION**: 'h' in the order of the text, each of one value in whatever world comes, making new blocks alone; 'k' makers; 't' the tail in its one order. A: the act behind h. -/
theorem wp_region_mk {id : Nat} {Q : Exit → Act → World → Prop} {a : Act} {w : World} {l : List Oper} (h k t : List Nat) (n : Nat) (V : Nat → Value → World → Prop) (N : Value → Value → Prop) (hm : P.follows .mixedOrders = true) (hB : Region.planM .any l.toArray n h k t = true) (hsz : a.tmps.size = n) (A : Act)
    (H : ∀ W, Below w.heap.size w W → wpQuiet P l.toArray (fun w' => ∃ x, w' = W.ext x) (· = A) (h.map (l.getD · default)) a)
    (hV : ∀ i v W W', V i v W → Below W.heap.size W W' → V i v W')
    (hk : MkAll P l.toArray A w V N k)
    (hT : TailX P l.toArray Q w (t.map (l.getD · default)) V N k [] (fun _ => True) A) :
    (Code.region id l.toArray true).wp P Q a w := by
  have esel : ∀ is, selOps l.toArray is = is.map (l.getD · default) := fun is => by
    unfold selOps
    apply List.map_congr_left
    intro i _
    simp [Array.getD, List.getD_eq_getElem?_getD]
    split <;> rename_i h
    · rw [List.getElem?_eq_getElem h]; rfl
    · rw [List.getElem?_eq_none (by omega)]; rfl
  simp only [Region.planM, Bool.and_eq_true, decide_eq_true_eq] at hB
  obtain ⟨⟨⟨⟨⟨⟨⟨⟨⟨⟨hsel, hnd⟩, ht0⟩, hs⟩, hc⟩, htop⟩, hin⟩, hmk⟩, hdist⟩, hall⟩, hseq⟩ := hB
  subst hsz
  have hin' : ∀ x, x < ((h ++ k) ++ t).length → ((h ++ k) ++ t).getD x 0 < l.toArray.size := fun x hx => by
    have := List.all_eq_true.1 hin (((h ++ k) ++ t).getD x 0) (by rw [List.getD_eq_getElem?_getD, List.getElem?_eq_getElem hx]; exact List.getElem_mem _)
    simpa using this
  have hdh : distB a.tmps.size (selOps l.toArray h) = true := by
    have hdist' := hdist
    simp only [distB, Bool.and_eq_true, decide_eq_true_eq] at hdist' ⊢
    unfold selOps at hdist' ⊢
    rw [List.map_append, List.map_append, List.all_append, Bool.and_eq_true] at hdist'
    exact ⟨hdist'.1.1, (List.nodup_append.1 hdist'.2).1⟩
  have hlex : LexX P l.toArray w A (selOps l.toArray h) a := lex_of _ _ hdh fun W hW => by rw [esel]; exact H W hW
  obtain ⟨sz1, df1⟩ := lex_size _ _ hlex
  refine wp_region_any hm ?_
  have hsz0 : ∀ i, (Array.replicate l.toArray.size false).getD i false = false := fun i => getD_replicate_false _ _
  have hlen : unl (h ++ k) (Array.replicate l.toArray.size false) + t.length = l.toArray.size := by
    have h1 : unl (h ++ k) (Array.replicate l.toArray.size false) = (h ++ k).length := by
      unfold unl
      rw [List.filter_eq_self.2]
      intro i hi
      obtain ⟨x, hx, he⟩ := List.mem_iff_getElem.1 hi
      have := hin' x (by rw [@List.length_append Nat (h ++ k) t]; omega)
      rw [List.getD_eq_getElem?_getD, List.getElem?_append_left hx, List.getElem?_eq_getElem hx] at this
      simp only [Option.getD_some, he] at this
      have h2 : i < l.length := by simpa using this
      simp [h2]
    rw [h1, ← List.length_append]
    have h3 : ((h ++ k) ++ t).length ≤ (List.range l.toArray.size).length := nodup_le _ _ hnd fun i hi => by
      obtain ⟨x, hx, he⟩ := List.mem_iff_getElem.1 hi
      have := hin' x hx
      rw [List.getD_eq_getElem?_getD, List.getElem?_eq_getElem hx] at this
      simp only [Option.getD_some, he] at this
      exact List.mem_range.2 this
    have h4 : (List.range l.toArray.size).length ≤ ((h ++ k) ++ t).length := nodup_le _ _ List.nodup_range fun i hi => by
      have := List.all_eq_true.1 hall i hi
      simpa using this
    rw [List.length_range] at h3 h4
    omega
  have hFIN : ∀ (listed : Array Bool) (a' : Act) (W : World), HeadI .any l.toArray ((h ++ k) ++ t) (h ++ k).length listed → (∀ i ∈ h ++ k, listed.getD i true = true) → InvM l.toArray a A w h k V N listed a' W → wpAny P .any l.toArray Q t.length listed a' W := by
    intro listed a' W inv hl iv
    have hlist : listed = (Array.range l.toArray.size).map fun i => (h ++ k).contains i := by
      apply Array.ext
      · rw [inv.size]; simp
      · intro i h1 h2
        have hi : i < l.toArray.size := by rw [← inv.size]; exact h1
        simp only [Array.getElem_map, Array.getElem_range]
        by_cases hm : i ∈ h ++ k
        · have := hl i hm
          simp [h1] at this
          rw [this]
          symm
          simpa using hm
        · have hm' := List.all_eq_true.1 hall i (List.mem_range.2 hi)
          simp only [List.contains_eq_mem, decide_eq_true_eq] at hm'
          have ht' : i ∈ t := (List.mem_append.1 hm').resolve_left hm
          obtain ⟨y, hy, he⟩ := List.mem_iff_getElem.1 ht'
          have := inv.tail ((h ++ k).length + y) (by omega) (by rw [@List.length_append Nat (h ++ k) t]; omega)
          rw [List.getD_eq_getElem?_getD, List.getElem?_append_right (by omega), show (h ++ k).length + y - (h ++ k).length = y by omega, List.getElem?_eq_getElem hy] at this
          simp only [Option.getD_some, he] at this
          simp [h1] at this
          rw [this]
          symm
          simp only [List.contains_eq_mem, decide_eq_false_iff_not]
          exact hm
    have lst : ∀ i ∈ h ++ k, listed.getD i false = true := fun i hi => by
      have := hl i hi
      have hii := List.all_eq_true.1 hin i (by simp only [List.mem_append] at hi ⊢; exact Or.inl hi)
      have hii' : i < listed.size := by rw [inv.size]; simpa using hii
      simp [hii'] at this ⊢; exact this
    refine wpAny_of_seqI t listed a' W (fun i hi => ?_) (by rw [hlist]; exact hseq) ?_
    · have := List.all_eq_true.1 hin i (by simp [hi])
      simpa using this
    · rw [esel]
      refine tail_of iv.below k [] (fun _ => True) A (by rw [sz1, iv.size]) (by rw [df1, iv.defers]) (fun i hi => ?_) (fun s hs' => ?_) (List.nodup_append.1 (List.nodup_append.1 hnd).1).2.1 (fun x hx y hy hxy => iv.ap x hx y hy hxy (lst x (by simp [hx])) (lst y (by simp [hy]))) trivial hT
      · obtain ⟨d, hd, _⟩ := (distB_get hdist).1 i (by simp [hi])
        obtain ⟨v, e, hv⟩ := iv.kv i hi (by
          have := hl i (by simp [hi])
          have hii := List.all_eq_true.1 hin i (by simp [hi])
          have hii' : i < listed.size := by rw [inv.size]; simpa using hii
          simp [hii'] at this ⊢; exact this) d hd
        exact ⟨d, v, hd, e, hv, fun u hu => by cases hu⟩
      · by_cases hx : ∃ j ∈ h, (l.toArray.getD j default).dst = some s
        · obtain ⟨j, hj, hjs⟩ := hx
          refine iv.hv j hj ?_ s hjs
          have := hl j (by simp [hj])
          have hii := List.all_eq_true.1 hin j (by simp [hj])
          have hii' : j < listed.size := by rw [inv.size]; simpa using hii
          simp [hii'] at this ⊢; exact this
        · rw [lex_keeps (selOps l.toArray h) a (fun o ho e => by
            unfold selOps at ho
            obtain ⟨j, hj, rfl⟩ := List.mem_map.1 ho
            exact hx ⟨j, hj, e⟩) hlex]
          refine iv.old s fun j hj hjs => ?_
          rcases List.mem_append.1 hj with hj | hj
          · exact absurd ⟨j, hj, hjs⟩ hx
          · exact absurd hjs (hs' j hj)
  have hHD : HeadI .any l.toArray ((h ++ k) ++ t) (h ++ k).length (Array.replicate l.toArray.size false) := by
    refine ⟨by simp, fun j oj hj hl => ?_, fun i hi hl => ?_, fun y hy hyl => ?_, hin'⟩
    · rw [hsz0 j] at hl; cases hl
    · have := List.all_eq_true.1 hall i (List.mem_range.2 hi)
      simp only [List.contains_eq_mem, decide_eq_true_eq] at this
      obtain ⟨x, hx, he⟩ := List.mem_iff_getElem.1 this
      exact ⟨x, hx, by rw [List.getD_eq_getElem?_getD, List.getElem?_eq_getElem hx]; exact he⟩
    · have := hin' y hyl
      have h2 : ((h ++ k) ++ t).getD y 0 < l.length := by simpa using this
      exact getD_in (by simpa using h2) (hsz0 _)
  have hIV : InvM l.toArray a A w h k V N (Array.replicate l.toArray.size false) a w.drew := by
    exact ⟨(Below.refl w.heap.size w).drew, rfl, rfl, fun i hi hl => (by rw [hsz0 i] at hl; cases hl), fun i hi hl => (by rw [hsz0 i] at hl; cases hl), fun s _ => rfl, fun i hi j hj hij hl => (by rw [hsz0 i] at hl; cases hl)⟩
  have key := wpAny_mk (Q := Q) (A := A) (w := w) (h := h) (k := k) (V := V) hsel hnd hs hc ht0 htop hin' hmk hdist hlex hk.get hV hFIN _ (Array.replicate l.toArray.size false) a w.drew rfl hHD hIV
  rw [hlen] at key
  exact key
/-- .. in the form in which a walk finds A out: 'refine wp_region_mkE ..; apply Exists.intro; refine ⟨fun X hX => ?_, ?_, ?_⟩' -/
theorem wp_region_mkE {id : Nat} {Q : Exit → Act → World → Prop} {a : Act} {w : World} {l : List Oper} (h k t : List Nat) (n : Nat) (V : Nat → Value → World → Prop) (N : Value → Value → Prop) (hm : P.follows .mixedOrders = true) (hB : Region.planM .any l.toArray n h k t = true) (hsz : a.tmps.size = n)
    (hV : ∀ i v W W', V i v W → Below W.heap.size W W' → V i v W')
    (H : ∃ A, (∀ W, Below w.heap.size w W → wpQuiet P l.toArray (fun w' => ∃ x, w' = W.ext x) (· = A) (h.map (l.getD · default)) a) ∧ MkAll P l.toArray A w V N k ∧ TailX P l.toArray Q w (t.map (l.getD · default)) V N k [] (fun _ => True) A) :
    (Code.region id l.toArray true).wp P Q a w := by
  obtain ⟨A, h1, h2, h3⟩ := H
  exact wp_region_mk h k t n V N hm hB hsz A h1 hV h2 h3
/-- a new block, as a maker's value -/
def VA (B : Nat) (T : TypeId) (cs : Array Value) (v : Value) (W : World) : Prop := ∃ b, v = .pointer (some ⟨b, 0, none⟩) ∧ B ≤ b ∧ Blk W b T cs
theorem VA.mono {B : Nat} {T : TypeId} {cs : Array Value} {v : Value} {W W' : World} (h : VA B T cs v W) (hb : Below W.heap.size W W') : VA B T cs v W' := by
  obtain ⟨b, e, hB, hk⟩ := h
  exact ⟨b, e, hB, hk.bel hb⟩
/-- pointers to blocks that were there -/
theorem VA.ne {B : Nat} {T : TypeId} {cs : Array Value} {v : Value} {W : World} (h : VA B T cs v W) : Value.pointer (some ⟨W.heap.size, 0, none⟩) ≠ v ∧ v ≠ .pointer (some ⟨W.heap.size, 0, none⟩) := by
  obtain ⟨b, rfl, _, hk⟩ := h
  have := hk.lt
  constructor
  · intro e; injection e with e; injection e with e; injection e with e; omega
  · intro e; injection e with e; injection e with e; injection e with e; omega
theorem mk_alloc {w : World} {A : Act} {o : Oper} {T : TypeId} {cs : Array Value} {Vs : Nat → Value → World → Prop} (hg : o.guard = none) (hr : ∀ W : World, (execOp A.eval o).run P W = .ok (.value (.pointer (some ⟨W.heap.size, 0, none⟩))) (W.alloc (.cells cs T)))
    (hn : ∀ j u W, Vs j u W → Value.pointer (some ⟨W.heap.size, 0, none⟩) ≠ u ∧ u ≠ .pointer (some ⟨W.heap.size, 0, none⟩)) : MkAt P ops o A w (VA w.heap.size T cs) Vs (· ≠ ·) := by
  refine ⟨by simp [Region.wanted, hg], fun W hW => ?_⟩
  rw [hr W]
  exact ⟨ba (Below.refl _ _) _, ⟨W.heap.size, rfl, hW.size, Blk.new W T cs⟩, fun j u hu => hn j u W hu⟩
end
end Go.Proofs.YtmblknknbbdmeaaGreat
/- sha: Key, Sum, Walk, Hex. -/
namespace Go.Proofs.YtmblknknbbdmeaaGreat
open Go Go.RowKit
set_option linter.unusedVariables false
set_option linter.unusedSimpArgs false
attribute [local go_sem] bmax2 bmin2 bmax bmin cell_ext frozen_ext

/-- a key, as a value -/
def keyV (k : List UInt8) : Value := .agg (cellsU8 k).toArray
theorem info_key : (Tryz.prog.info? 27).map (·.size) = some 32 := by kernel_rfl

theorem slice_lo (b k : Nat) (hk : k < 8) (W : World) : (Instr.sliceAt 27 (.pointer (some ⟨b, 0, none⟩)) (some (.int .i64 (4 * (k : Int)))) none none).run Tryz.prog W = .ok (.slice (some ⟨b, 4 * k, none⟩) (32 - 4 * k) (32 - 4 * k)) W := by
  have h1 : (0 : Int) ≤ 4 * (k : Int) := by omega
  have h2 : 4 * (k : Int) ≤ ((32 : Nat) : Int) := by omega
  have h3 : (4 * (k : Int)).toNat = 4 * k := by omega
  have h4 : (Tryz.prog.info? 5).map (·.size) = some 1 := by kernel_rfl
  have hl : Tryz.prog.arrayLen 27 = 32 := by kernel_rfl
  have he : Tryz.prog.elem 27 = 5 := by kernel_rfl
  have hu : Tryz.prog.underlying 27 = some (.array (Tryz.prog.arrayLen 27) (Tryz.prog.elem 27)) := by kernel_rfl
  rw [run_sliceAt_array_l W 27 ⟨b, 0, none⟩ hu .i64 _ h1 (by rw [hl]; exact h2), h3, hl, he]
  cases hq : Tryz.prog.info? 5 with
  | none => simp [hq] at h4
  | some i =>
    have hs : i.size = 1 := by simpa [hq] using h4
    have e : ¬ 32 = 4 * k := by omega
    simp [sizeOf, typeInfo, hq, hs, slicedAt, addr_add, e]

set_option maxRecDepth 100000 in
theorem copy_put {W : World} {b k : Nat} {T : TypeId} {l : List Nat} {S : ByteArray} (h : Blk W b T (cellsU8 (outP l k ++ List.replicate (32 - 4 * k) 0)).toArray) (hl : l.length = 8) (hk : k < 8) (hS : S = str (putL (l.getD k 0) 4)) : ∃ Y,
    (Builtin.copy_ #[93, 9] 3 #[.slice (some ⟨b, 4 * k, none⟩) (32 - 4 * k) (32 - 4 * k), .string S]).run Tryz.prog W = .ok (.int .i64 4) Y ∧
      Blk Y b T (cellsU8 (outP l (k + 1) ++ List.replicate (32 - 4 * (k + 1)) 0)).toArray ∧ W.grownBy Y (some b) := by
  have hinfo : (Tryz.prog.info? 5).map (·.size) = some 1 := by kernel_rfl
  have hz : S.size = 4 := by rw [hS, str_size, length_putL]
  have hol := outP_length l k (by omega)
  have := Lib.run_copy_row_string (P := Tryz.prog) W 93 9 3 5 b (4 * k) (32 - 4 * k) (32 - 4 * k) S _ T Tryz.underlying93 hinfo h (by rw [hz]; omega) (by rw [hz]; simp [cellsU8, hol]; omega)
  rw [hz] at this
  refine ⟨_, this, ?_, gbrow _ _ _⟩
  have e : (((cellsU8 (outP l k ++ List.replicate (32 - 4 * k) 0)).toArray.toList.take (4 * k) ++ Lib.byteCells S.data.toList ++ (cellsU8 (outP l k ++ List.replicate (32 - 4 * k) 0)).toArray.toList.drop (4 * k + 4)).toArray) = (cellsU8 (outP l (k + 1) ++ List.replicate (32 - 4 * (k + 1)) 0)).toArray := by
    refine congrArg List.toArray ?_
    show (cellsU8 _).take _ ++ cellsU8 S.data.toList ++ (cellsU8 _).drop _ = _
    unfold cellsU8
    rw [← List.map_take, ← List.map_drop, ← List.map_append, ← List.map_append, outP_succ l k (by omega), hS]
    refine congrArg (List.map _) ?_
    rw [show (str (putL (l.getD k 0) 4)).data.toList = putL (l.getD k 0) 4 from rfl]
    rw [List.take_left' hol, List.drop_append, List.drop_of_length_le (by omega), List.nil_append, List.drop_replicate]
    congr 2; omega
  rw [e]
  exact h.row _

set_option maxHeartbeats 4000000 in
set_option maxRecDepth 100000 in
theorem Key_any (m : List UInt8) (v : V8) (rest : List UInt8) (n : Int) (b : Bool) (hst : (b = true ∧ v = hOf m ∧ rest = restOf m ∧ n = (m.length : Int)) ∨ (b = false ∧ m = [])) (hn : n = (m.length : Int)) (hsz : m.length ≤ 549755813888) (w : World) :
    Calls Tryz.prog 146 #[stA v (str rest) n b] w fun e w' => e = .returned (keyV (digest m)) ∧ Below w.heap.size w w' := by
  have hMore := More_any m (padB m) v rest n b hst (by rw [padB_length]; unfold gapN; omega)
  have hg1 : 1 ≤ gapN m.length ∧ gapN m.length ≤ 64 := by unfold gapN; omega
  have hg : 64 - (n + 8) % 64 = ((gapN m.length : Nat) : Int) := by rw [hn]; unfold gapN; omega
  have hg2 : ((gapN m.length : Nat) : Int) - 1 = ((gapN m.length - 1 : Nat) : Int) := by omega
  have hn0 : 0 ≤ n := by omega
  have hn1 : n ≤ 549755813888 := by omega
  have hn8 : IntKind.u64.wrap (n * 8) = ((m.length * 8 : Nat) : Int) := by rw [IntWalk.u64_in _ (by omega), hn]; omega
  have hnn : IntKind.u64.wrap n = n := IntWalk.u64_in _ (by omega)
  have hPad : (⟨#[128]⟩ : ByteArray) ++ str (List.replicate (gapN m.length - 1) 0) ++ str (putL (m.length * 8) 8) = str (padB m) := by
    rw [show (⟨#[128]⟩ : ByteArray) = str [128] from rfl, str_append, str_append]; rfl
  have hs1 : (str (List.replicate (gapN m.length - 1) 0)).size ≤ 64 := by rw [str_size, List.length_replicate]; omega
  have hs2 : (str (putL (m.length * 8) 8)).size ≤ 8 := by rw [str_size, length_putL]; omega
  have hs3 : ((⟨#[128]⟩ : ByteArray) ++ str (List.replicate (gapN m.length - 1) 0)).size ≤ 128 := by rw [show (⟨#[128]⟩ : ByteArray) = str [128] from rfl, str_append, str_size, List.length_append, List.length_replicate]; simp; omega
  have hRep := kp (fun w' => repeat_zeros (gapN m.length - 1) w' (by omega) (by omega))
  have hPut := kp (fun w' => octet_Put_mid (m.length * 8) 8 w' (by unfold U64; omega) (by omega) 8 (by decide))
  obtain ⟨g, hgn⟩ : ∃ g, gapN m.length = g := ⟨_, rfl⟩
  rw [hgn] at hg hg2 hPad hs1 hs3 hg1 hRep
  obtain ⟨Z, hZ⟩ : ∃ Z, str (List.replicate (g - 1) 0) = Z := ⟨_, rfl⟩
  obtain ⟨U, hU⟩ : ∃ U, str (putL (m.length * 8) 8) = U := ⟨_, rfl⟩
  rw [hZ] at hPad hs1 hs3 hRep
  rw [hU] at hPad hs2 hPut
  have hok := kp (hOf_ok (m ++ padB m))
  obtain ⟨V, hV⟩ : ∃ V, hOf (m ++ padB m) = V := ⟨_, rfl⟩
  rw [hV] at hMore hok
  have HD : Kp (digest m = outB V) := kp (by rw [← hV]; rfl)
  obtain ⟨CS, hCS⟩ : ∃ CS, stL V (str (restOf (m ++ padB m))) ((m ++ padB m).length : Int) true = CS := ⟨_, rfl⟩
  have hl11 : CS.length = 11 := by rw [← hCS]; rfl
  have h1c : ∀ x ∈ CS, x.oneCell' = true := by rw [← hCS]; exact stL_one _ _ _ _
  unfold stA at hMore
  rw [hCS] at hMore
  unfold stL at hMore
  have HCS := kp hCS
  have H1C := kp h1c
  clear hV hCS h1c
  have HM := kp hMore
  have HN := kp hn
  clear hgn hZ hU hMore hst hn hsz
  unfold stA stL
  go_enter Tryz.func146, Tryz.ntmps146
  go_wp2
  have HW0 := kp ((Blk.new w 245 (stL v (str rest) n b).toArray).alloc (.cells (cellsU8 (List.replicate 32 0)).toArray 27))
  have HW1 := kp (Blk.new (w.alloc (.cells (stL v (str rest) n b).toArray 245)) 27 (cellsU8 (List.replicate 32 0)).toArray)
  have HWB := kp (ba (ba (Below.refl w.heap.size w) (.cells (stL v (str rest) n b).toArray 245)) (.cells (cellsU8 (List.replicate 32 0)).toArray 27))
  rw [size_all] at HW1
  change Code.wp _ _ _ _ ((w.alloc (.cells (stL v (str rest) n b).toArray 245)).alloc (.cells (cellsU8 (List.replicate 32 0)).toArray 27))
  generalize ((w.alloc (.cells (stL v (str rest) n b).toArray 245)).alloc (.cells (cellsU8 (List.replicate 32 0)).toArray 27)) = W at HW0 HW1 HWB ⊢
  refine wp_region_mkE [0, 1, 2, 3, 4, 5, 6, 7, 8, 9, 10, 11] [12] [13] 40 (fun _ => VA W.heap.size 245 (stL ⟨0, 0, 0, 0, 0, 0, 0, 0⟩ ⟨#[]⟩ 0 false).toArray) (· ≠ ·) (by kernel_rfl) (by kernel_rfl) rfl (fun i v W W' h hb => h.mono hb) ?_
  apply Exists.intro
  refine ⟨fun X hX => ?_, ?_, ?_⟩
  · skip
    have h0 := HW0.out.bel hX
    obtain ⟨c0, c1, c2, c3, c4, c5, c6, c7, c8, c9, c10⟩ := st_cells h0
    have hlx := h0.lt
    simp only [List.map_cons, List.map_nil, List.getD_cons_succ, List.getD_cons_zero]
    repeat (go_big_quiet_step (first | (go_at_call 162; exact Calls.ext_of (hRep.out _)) | (go_at_call 119; exact Calls.ext_of (hPut.out _)) | (go_at_call 145; exact Calls.ext_of (HM.out _))))
    exact wpQuiet_nil rfl
  · exact ⟨mk_alloc rfl (fun W => by kernel_rfl) (fun j u W h => h.ne), trivial⟩
  · intro ev _
    simp only [List.map_cons, List.map_nil, List.getD_cons_succ, List.getD_cons_zero, TailX]
    rintro X hX ⟨_, b4, rfl, hb4, hk4⟩
    have SC := sc_all (P := Tryz.prog) (w := X) b4 245 CS _ hk4 hl11 H1C.out
    have HE := kp (hk4.row CS.toArray)
    have hb41 : w.heap.size + 1 < b4 := Nat.lt_of_lt_of_le HW1.out.lt hb4
    have HX1 := kp ((HW1.out.bel hX).rowfar (b := b4) (by omega) CS.toArray)
    have HXB := kp (bsr (bt' HWB.out hX HWB.out.size) (b := b4) (by omega) (bt' HWB.out hX HWB.out.size).size CS.toArray)
    clear hX hk4 hb4 HW0 HW1 HWB hRep hPut HM
    generalize X.setRow b4 CS.toArray = Y at SC HE HX1 HXB
    have HO := kp (Blk.new Y 27 (cellsU8 (outP V.list 0 ++ List.replicate (32 - 4 * 0) 0)).toArray)
    have HE2 := kp (HE.out.alloc (.cells (cellsU8 (outP V.list 0 ++ List.replicate (32 - 4 * 0) 0)).toArray 27))
    have HX2 := kp (HX1.out.alloc (.cells (cellsU8 (outP V.list 0 ++ List.replicate (32 - 4 * 0) 0)).toArray 27))
    have HXB2 := kp (ba (HXB.out) (.cells (cellsU8 (outP V.list 0 ++ List.replicate (32 - 4 * 0) 0)).toArray 27))
    have LD := ld_row (P := Tryz.prog) (w := Y.alloc (.cells (cellsU8 (outP V.list 0 ++ List.replicate (32 - 4 * 0) 0)).toArray 27)) b4 0 8 243 (c32 V.list) _ Tryz.underlying243 rfl info_a8 rfl (fun j v hv => by
      rw [Nat.zero_add]
      refine HE2.out.atL ?_
      rw [← HCS.out, show stL V (str (restOf (m ++ padB m))) ((m ++ padB m).length : Int) true = c32 V.list ++ stT (str (restOf (m ++ padB m))) ((m ++ padB m).length : Int) true from rfl, List.getElem?_append_left (List.getElem?_eq_some_iff.1 hv).1]
      exact hv)
    have hyb : b4 < Y.heap.size := HE.out.lt
    go_wp2_with (refine wpL_load rfl 243 _ rfl rfl LD ?_)
    clear SC hl11 H1C HCS hn0 hn1 hn8 hnn hg1 hg2 hg hs3 hs1 hs2 hPad LD HX1 HXB HE HE2
    have hb5 : w.heap.size + 1 < Y.heap.size := by omega
    generalize Y.heap.size = b5 at HO hb5 hyb ⊢
    go_loopw [27] (fun i wr => ∃ k : Nat, k ≤ 8 ∧ i = .int .i64 k ∧ Kp (Blk wr b5 27 (cellsU8 (outP V.list k ++ List.replicate (32 - 4 * k) 0)).toArray) ∧ Kp (Blk wr (w.heap.size + 1) 27 (cellsU8 (List.replicate 32 0)).toArray) ∧ Kp (Below w.heap.size w wr)) (fun i _ => 8 - (intOf i).toNat)
    case atStart => exact ⟨0, by omega, rfl, HO, HX2, HXB2⟩
    case round =>
      obtain ⟨k, hk, rfl, h5, h1, hb⟩ := hrel
      by_cases hlt : k < 8
      · have hlt' : (k : Int) < 8 := by omega
        have i2 : (0 : Int) ≤ (k : Int) := by omega
        have hxl := getD_lt V.list hok.out k
        obtain ⟨x, hx⟩ : ∃ x, V.list.getD k 0 = x := ⟨_, rfl⟩
        have ix : ∀ W : World, (Instr.index 243 (.agg (c32 V.list).toArray) (.int .i64 k)).run Tryz.prog W = .ok (.int .u32 (x : Int)) W := fun W => by rw [← hx]; exact run_index32 243 22 Tryz.underlying243 (by kernel_rfl) (by kernel_rfl) rfl k hlt W
        rw [hx] at hxl
        have hwx : IntKind.u64.wrap (x : Int) = (x : Int) := IntWalk.u64_in _ (by have : x < 4294967296 := hxl; omega)
        have hx0 : (0 : Int) ≤ (x : Int) := by omega
        have hx1 : (x : Int) < 4294967296 := by have : x < 4294967296 := hxl; omega
        have hsl := slice_lo b5 k hlt
        have PU := kp (fun w' => octet_Put_mid x 4 w' (by unfold U64; have : x < 4294967296 := hxl; omega) (by omega) 4 (by decide))
        have HXX := kp hx
        clear hx hxl
        obtain ⟨S, hS⟩ : ∃ S, str (putL x 4) = S := ⟨_, rfl⟩
        rw [hS] at PU
        have HS := kp hS
        clear hS
        go_wp2
        refine wp_region_ext [0, 1, 2, 3, 4, 5] [6] (by kernel_rfl) (by kernel_rfl) ?_
        simp only [List.map_cons, List.map_nil, List.getD_cons_succ, List.getD_cons_zero]
        repeat (go_big_quiet_step ((go_at_call 119; exact Calls.ext_of (PU.out _))))
        refine wpQuiet_nil ?_
        rintro z
        obtain ⟨Z, hcp, hZ, hgZ⟩ := copy_put (k := k) (S := S) (h5.out.bel (ext_below wr z)) (l := V.list) rfl hlt (by rw [HXX.out]; exact HS.out.symm)
        have HZ := kp hZ
        have HZ1 := kp ((h1.out.bel (ext_below wr z)).grown hgZ (by intro e; injection e; omega))
        have HZB := kp (bgb (bt' hb.out (ext_below wr z) hb.out.size) hgZ (by omega) (bt' hb.out (ext_below wr z) hb.out.size).size)
        clear hZ hgZ h5 h1 hb
        go_wp2
        go_roundw
        case measure => simp [intOf]; omega
        case rel => exact ⟨k + 1, by omega, by go_num, HZ, HZ1, HZB⟩
      · obtain rfl : k = 8 := by omega
        have HE : Kp (Blk wr b5 27 (cellsU8 (digest m)).toArray) := by
          have := h5.out
          rw [show 32 - 4 * 8 = 0 from rfl, List.replicate_zero, List.append_nil, outP_all, ← HD.out] at this
          exact kp this
        have hdl := digest_length m
        obtain ⟨D, hD⟩ : ∃ D, digest m = D := ⟨_, rfl⟩
        rw [hD] at HE hdl
        have HDD := kp hD
        have hcl : (cellsU8 D).length = 32 := by rw [length_cellsU8, hdl]
        have LD := ld_all (P := Tryz.prog) (w := wr) b5 32 27 _ (cellsU8 D) _ Tryz.underlying27 rfl info_key hcl HE.out
        have SC := sc_all (P := Tryz.prog) (w := wr) (w.heap.size + 1) 27 (cellsU8 D) _ h1.out hcl (cellsU8_one _)
        have HX := kp (h1.out.row (cellsU8 D).toArray)
        have HBX := kp (bsr hb.out (show w.heap.size ≤ w.heap.size + 1 by omega) hb.out.size (cellsU8 D).toArray)
        have HL := kp hcl
        clear hD hdl h5 h1 hb HE HX2 HXB2 HO HD
        generalize hY : wr.setRow (w.heap.size + 1) (cellsU8 D).toArray = Z at SC HX HBX
        clear hY
        go_wp2_with (refine wpL_load rfl 27 _ rfl rfl LD ?_)
        refine bodyPost_ret (v := keyV D) ?_ rfl ⟨by rw [HDD.out], HBX.out⟩
        exact res_all Tryz.results146 (w.heap.size + 1) 32 _ (cellsU8 D) _ Tryz.underlying27 rfl info_key HL.out HX.out _ rfl

theorem key_cells (D : List UInt8) (h : D.length = 32) : (cellsU8 D).length = 32 := by rw [length_cellsU8, h]

set_option maxRecDepth 100000 in
theorem Sum_any (t : List UInt8) (ht : t.length ≤ 549755813888) (w : World) :
    Calls Tryz.prog 124 #[.string (str t)] w fun e w' => e = .returned (keyV (digest t)) ∧ Below w.heap.size w w' := by
  have HM := kp (fun w' => More_any [] t h0V [] 0 true (Or.inl ⟨rfl, rfl, rfl, rfl⟩) (by simp; omega) w')
  have HK := kp (fun w' => Key_any t (hOf t) (restOf t) (t.length : Int) true (Or.inl ⟨rfl, rfl, rfl, rfl⟩) rfl ht w')
  rw [List.nil_append] at HM
  have hcl := key_cells _ (digest_length t)
  obtain ⟨D, hD⟩ : ∃ D, digest t = D := ⟨_, rfl⟩
  rw [hD] at HK hcl
  have HD := kp hD
  clear hD
  unfold keyV at HK
  go_enter Tryz.func124, Tryz.ntmps124
  go_wp2_with fail
  refine (New_any _).mono ?_
  rintro e w1 ⟨rfl, hb1⟩
  go_wp2_with fail
  refine (HM.out _).mono ?_
  rintro e w2 ⟨rfl, hb2⟩
  go_wp2_with fail
  refine (HK.out _).mono ?_
  rintro e w3 ⟨rfl, hb3⟩
  have h0 := (((Blk.new w 27 (cellsU8 (List.replicate 32 0)).toArray).bel hb1).bel hb2).bel hb3
  have hb := bt' (bt' (bt' (ba (Below.refl w.heap.size w) _) hb1 (by simp)) hb2 (by have := hb1.size; simp at this; omega)) hb3 (by have := hb1.size; have := hb2.size; simp at *; omega)
  have SC := sc_all (P := Tryz.prog) (w := w3) w.heap.size 27 (cellsU8 D) _ h0 hcl (cellsU8_one _)
  have HX := kp (h0.row (cellsU8 D).toArray)
  have HBX := kp (bsr hb (Nat.le_refl _) (by have := hb1.size; have := hb2.size; have := hb3.size; simp at *; omega) (cellsU8 D).toArray)
  have HL := kp hcl
  clear h0 hb hb1 hb2 hb3
  generalize hY : w3.setRow w.heap.size (cellsU8 D).toArray = Z at SC HX HBX
  clear hY
  go_wp2
  refine bodyPost_ret (v := keyV D) ?_ rfl ⟨by rw [HD.out], HBX.out⟩
  exact res_all Tryz.results124 w.heap.size 32 _ (cellsU8 D) _ Tryz.underlying27 rfl info_key HL.out HX.out _ rfl

set_option maxHeartbeats 1000000 in
set_option maxRecDepth 100000 in
theorem Walk_any (K : List UInt8) (hK : K.length = 32) (n : Int) (N : Nat) (hN : min (max n 0) 4096 = (N : Int)) (w : World) :
    Calls Tryz.prog 95 #[keyV K, .int .i64 n] w fun e w' => e = .returned (keyV (walkD K N)) ∧ Below w.heap.size w w' := by
  unfold keyV
  have hk0 := key_cells K hK
  have HK := kp hK
  clear hK
  go_enter Tryz.func95, Tryz.ntmps95
  go_wp2
  have hN2 : N ≤ 4096 := by omega
  have HN := kp hN
  clear hN
  have h0 := kp ((Blk.new w 27 (cellsU8 (walkD K 0)).toArray).alloc (.cells (cellsU8 (List.replicate 32 0)).toArray 27))
  have h1 := kp (Blk.new (w.alloc (.cells (cellsU8 (walkD K 0)).toArray 27)) 27 (cellsU8 (List.replicate 32 0)).toArray)
  have hb := kp (ba (ba (Below.refl w.heap.size w) (.cells (cellsU8 (walkD K 0)).toArray 27)) (.cells (cellsU8 (List.replicate 32 0)).toArray 27))
  rw [size_all] at h1
  go_loopw [8] (fun i wr => ∃ j : Nat, j ≤ N ∧ i = .int .i64 j ∧ Kp (Blk wr w.heap.size 27 (cellsU8 (walkD K j)).toArray) ∧ Kp (Blk wr (w.heap.size + 1) 27 (cellsU8 (List.replicate 32 0)).toArray) ∧ Kp (Below w.heap.size w wr)) (fun i _ => N - (intOf i).toNat)
  case atStart => exact ⟨0, Nat.zero_le _, rfl, h0, h1, hb⟩
  case round =>
    clear h0 h1 hb
    obtain ⟨j, hj, rfl, h0, h1, hb⟩ := hrel
    have hwl := walkD_length K HK.out j
    by_cases hlt : j < N
    · have hlt' : (j : Int) < (N : Int) := by omega
      have hcv := blk_str (P := Tryz.prog) 93 (e := 5) (dst := 9) (n := 32) (cap := 32) Tryz.underlying93 Tryz.underlying5 Tryz.underlying9 h0.out hwl
      have SU := kp (fun w' => Sum_any (walkD K j) (by rw [hwl]; omega) w')
      have hdl := digest_length (walkD K j)
      have HS : Kp (walkD K (j + 1) = digest (walkD K j)) := kp rfl
      have HCV := kp hwl
      clear hwl
      obtain ⟨D, hD⟩ : ∃ D, digest (walkD K j) = D := ⟨_, rfl⟩
      rw [hD] at SU hdl HS
      clear hD
      have hcl := key_cells D hdl
      clear hdl
      unfold keyV at SU
      go_wp2_with fail
      refine (SU.out _).mono ?_
      rintro e w1 ⟨rfl, hb1⟩
      have SC := sc_all (P := Tryz.prog) (w := w1) w.heap.size 27 (cellsU8 D) _ (h0.out.bel hb1) (by rw [hcl, length_cellsU8, HCV.out]) (cellsU8_one _)
      have HX := kp ((h0.out.bel hb1).row (cellsU8 D).toArray)
      have HX1 := kp ((h1.out.bel hb1).rowfar (b := w.heap.size) (by omega) (cellsU8 D).toArray)
      have HBX := kp (bsr (bt' hb.out hb1 hb.out.size) (Nat.le_refl _) (by have := hb1.size; have := hb.out.size; omega) (cellsU8 D).toArray)
      clear h0 h1 hb hb1
      generalize hY : w1.setRow w.heap.size (cellsU8 D).toArray = Z at SC HX HX1 HBX
      clear hY hcv
      go_wp2
      go_roundw
      case measure => simp [intOf]; omega
      case rel => exact ⟨j + 1, by omega, by go_num, by rw [HS.out]; exact HX, HX1, HBX⟩
    · obtain rfl : j = N := by omega
      have hcl := key_cells _ hwl
      obtain ⟨D, hD⟩ : ∃ D, walkD K j = D := ⟨_, rfl⟩
      rw [hD] at h0 hcl
      have HD := kp hD
      have LD := ld_all (P := Tryz.prog) (w := wr) w.heap.size 32 27 _ (cellsU8 D) _ Tryz.underlying27 rfl info_key hcl h0.out
      have SC := sc_all (P := Tryz.prog) (w := wr) (w.heap.size + 1) 27 (cellsU8 D) _ h1.out hcl (cellsU8_one _)
      have HX := kp (h1.out.row (cellsU8 D).toArray)
      have HBX := kp (bsr hb.out (show w.heap.size ≤ w.heap.size + 1 by omega) hb.out.size (cellsU8 D).toArray)
      have HL := kp hcl
      clear hD hwl h0 h1 hb
      generalize hY : wr.setRow (w.heap.size + 1) (cellsU8 D).toArray = Z at SC HX HBX
      clear hY
      go_wp2_with (refine wpL_load rfl 27 _ rfl rfl LD ?_)
      refine bodyPost_ret (v := keyV D) ?_ rfl ⟨by rw [HD.out]; rfl, HBX.out⟩
      exact res_all Tryz.results95 (w.heap.size + 1) 32 _ (cellsU8 D) _ Tryz.underlying27 rfl info_key HL.out HX.out _ rfl
end Go.Proofs.YtmblknknbbdmeaaGreat
/- sha: Hex. -/
namespace Go.Proofs.YtmblknknbbdmeaaGreat
open Go Go.RowKit
set_option linter.unusedVariables false
set_option linter.unusedSimpArgs false
attribute [local go_sem] bmax2 bmin2 bmax bmin cell_ext frozen_ext

theorem digits_at : ∀ (q : Nat) (h : q < 16) (W : World), (Instr.index 9 (.string ⟨#[48, 49, 50, 51, 52, 53, 54, 55, 56, 57, 97, 98, 99, 100, 101, 102]⟩) (.int .u8 (q : Int))).run Tryz.prog W = .ok (.int .u8 ((dig16 q).toNat : Int)) W
  | 0, _, W => by kernel_rfl
  | 1, _, W => by kernel_rfl
  | 2, _, W => by kernel_rfl
  | 3, _, W => by kernel_rfl
  | 4, _, W => by kernel_rfl
  | 5, _, W => by kernel_rfl
  | 6, _, W => by kernel_rfl
  | 7, _, W => by kernel_rfl
  | 8, _, W => by kernel_rfl
  | 9, _, W => by kernel_rfl
  | 10, _, W => by kernel_rfl
  | 11, _, W => by kernel_rfl
  | 12, _, W => by kernel_rfl
  | 13, _, W => by kernel_rfl
  | 14, _, W => by kernel_rfl
  | 15, _, W => by kernel_rfl
  | q + 16, h, W => by omega

end Go.Proofs.YtmblknknbbdmeaaGreat
/- steps of walks, for any program. -/
namespace Go.Proofs.YtmblknknbbdmeaaGreat
open Go Go.RowKit
set_option linter.unusedVariables false
set_option linter.unusedSimpArgs false

/-- in a quiet region: a load whose run is known -/
theorem quiet_load {P : Program} {o : Oper} {a : Act} {C : World → Prop} {K : Act → Prop} (d : Tmp) (hd : o.dst = some d) (ty : TypeId) (x : Operand) (ho : o.op = .load ty x) {pv v : Value} (hx : a.eval x = pv)
    (hr : ∀ w, C w → (Instr.loadAt ty pv).run P w = .ok v w) (h : K { a with tmps := a.tmps.setIfInBounds d v }) : o.quiet P a C K := by
  refine ⟨v, fun w hw => ?_, by rw [hd]; exact h⟩
  unfold Oper.quietAt execOp
  simp only [ho, hx, Sem.run_bind, hr w hw, Result.andThen_ok, Sem.run_pure, Oper.quietUpon]
  exact ⟨trivial, trivial⟩
/-- in a quiet region: an operation whose value is known -/
theorem quiet_val {P : Program} {o : Oper} {a : Act} {C : World → Prop} {K : Act → Prop} (d : Tmp) (hd : o.dst = some d) (v : Value) (hr : ∀ w, C w → (execOp a.eval o).run P w = .ok (.value v) w) (h : K { a with tmps := a.tmps.setIfInBounds d v }) : o.quiet P a C K := by
  refine ⟨v, fun w hw => ?_, by rw [hd]; exact h⟩
  unfold Oper.quietAt
  rw [hr w hw]
  exact ⟨rfl, rfl⟩
/-- in a region in its one order, from the operation that writes slot d on: n operations that leave the world as it was but for new blocks -/
theorem wpList_extAt {P : Program} {ops : Array Oper} {Q : Exit → Act → World → Prop} {a : Act} {w : World} {o : Oper} {rest : List Oper} (d : Tmp) (hd : o.dst = some d) (n : Nat)
    (H : wpQuiet P ops (fun w' => ∃ x, w' = w.ext x) (fun a2 => ∀ x, wpList P ops Q ((o :: rest).drop n) a2 (w.ext x)) ((o :: rest).take n) a) : wpList P ops Q (o :: rest) a w := by
  have := wpList_of_quiet (Q := Q) (rest := (o :: rest).drop n) ((o :: rest).take n) a w ⟨w, (ext_of (Below.refl _ _)).symm⟩ (wpQuiet_mono (fun a2 h2 w' hw => by obtain ⟨x, rfl⟩ := hw; exact h2 x) _ _ H)
  rwa [List.take_append_drop] at this
theorem exec_build {P : Program} {o : Oper} {a : Act} {ty : TypeId} {ps : Array (Nat × Operand)} (ho : o.op = .build ty ps) {parts : Array (Nat × Value)} (hp : ps.map (fun p => (p.1, a.eval p.2)) = parts) {v : Value} {w : World} (hr : (Instr.build ty parts).run P w = .ok v w) : (execOp a.eval o).run P w = .ok (.value v) w := by
  subst hp
  unfold execOp
  simp only [ho, Sem.run_bind, hr, Result.andThen_ok, Sem.run_pure]
/-- an operation that makes a new block, in a region in its one order -/
theorem wpL_make {P : Program} {ops : Array Oper} {rest : List Oper} {o : Oper} {a : Act} {w w' : World} {Q : Exit → Act → World → Prop} (d : Tmp) (hd : o.dst = some d) (hgd : o.guard = none) (v : Value)
    (hr : (execOp a.eval o).run P w = .ok (.value v) w') (h : wpList P ops Q rest (a.put (some d) v) w') : wpList P ops Q (o :: rest) a w :=
  wpList_plain hgd fun K hK => by
    unfold Oper.wp
    rw [hr]
    simp only [Oper.upon, hd]
    exact hK _ _ h
theorem exec_buildSlice {P : Program} {o : Oper} {a : Act} {ty : TypeId} {len : Nat} {ps : Array (Nat × Operand)} (ho : o.op = .buildSlice ty len ps) {parts : Array (Nat × Value)} (hp : ps.map (fun p => (p.1, a.eval p.2)) = parts) {v : Value} {w w' : World} (hr : (Instr.buildSlice ty len parts).run P w = .ok v w') : (execOp a.eval o).run P w = .ok (.value v) w' := by
  subst hp
  unfold execOp
  simp only [ho, Sem.run_bind, hr, Result.andThen_ok, Sem.run_pure]

theorem exec_field {P : Program} {o : Oper} {a : Act} {ty : TypeId} {x : Operand} {k : Nat} (ho : o.op = .field ty x k) {xv v : Value} (hx : a.eval x = xv) {w : World} (hr : (Instr.field ty xv k).run P w = .ok v w) : (execOp a.eval o).run P w = .ok (.value v) w := by
  subst hx
  unfold execOp
  simp only [ho, Sem.run_bind, hr, Result.andThen_ok, Sem.run_pure]
theorem wpL_append {P : Program} {ops : Array Oper} {rest : List Oper} {o : Oper} {a : Act} {w w' : World} {Q : Exit → Act → World → Prop} (d : Tmp) (hd : o.dst = some d) (hgd : o.guard = none) (s x : Operand) (t : TypeId)
    (ho : o.op = .call { callee := .builtin .append, args := #[s, x], argTypes := #[t, t] }) {sv xv v : Value} (hs : a.eval s = sv) (hx : a.eval x = xv)
    (hr : (Builtin.append_ #[t, t] o.type #[sv, xv]).run P w = .ok v w') (h : wpList P ops Q rest (a.put (some d) v) w') : wpList P ops Q (o :: rest) a w := by
  refine wpList_plain hgd fun K hK => ?_
  unfold Oper.wp execOp
  simp only [ho, resolve, invoke, builtin, Sem.run_bind, Sem.run_pure, Result.andThen_ok, List.map_toArray, List.map_cons, List.map_nil, hs, hx, hr, Oper.upon, hd]
  exact hK _ _ h
/-- a function with two results: a struct or an array in a block, and a slot -/
theorem res2 {P : Program} {w : World} {fn : Func} {p q : Tmp} {ty : TypeId} (h : fn.results = #[.cell p ty, .tmp q]) (g n : Nat) (t : TypeId) (cs : List Value) (d : TypeDesc) (hu : P.underlying ty = some d) (hd : aggB d = true) (hi : (P.info? ty).map (·.size) = some n) (hn : cs.length = n) (hb : Blk w g t cs.toArray)
    (tmps : Array Value) (hp : tmps.getD p undef = .pointer (some ⟨g, 0, none⟩)) (v : Value) (hq : tmps.getD q undef = v) : (results fn tmps).run P w = .ok (.tuple #[.agg cs.toArray, v]) w := by
  have hp' : tmps[p]?.getD undef = .pointer (some ⟨g, 0, none⟩) := by simpa using hp
  have hq' : tmps[q]?.getD undef = v := by simpa using hq
  have hl := run_loadVar_row (P := P) w g t ty cs.toArray (0, 0) d hb hu (by cases d <;> simp_all [aggB]) (by rw [hi]; simp [hn])
  simp [results, h, hp', hq', asAddr, hl]
end Go.Proofs.YtmblknknbbdmeaaGreat
/- Arrays compared. -/
namespace Go.Proofs.YtmblknknbbdmeaaGreat
open Go Go.RowKit
set_option linter.unusedVariables false
set_option linter.unusedSimpArgs false

theorem run_part {P : Program} (e : TypeId) (cs : Array Value) (k : Nat) (v : Value) (w : World) (hf : flatB P e = true) (hv : cs[k]? = some v) : (part e cs k).run P w = .ok v w := by
  unfold flatB at hf
  cases hd : P.underlying e with
  | none => rw [hd] at hf; cases hf
  | some d =>
    rw [hd] at hf
    have hagg : (isAgg e).run P w = .ok false w := by
      unfold isAgg
      rw [Sem.run_bind, run_underlying hd w]
      cases d <;> simp_all
    simp [part, Sem.run_bind, hagg, hv]

theorem eq_loop {P : Program} (d e : Nat) (D E : List UInt8) (w : World) (he : P.underlying e = some (.int .u8)) (hl : D.length = E.length) : ∀ (L : List Nat), (∀ k ∈ L, k < D.length) →
    (forIn L (none, ()) fun i (__s : Option Bool × Unit) => do
        let a ← part e (cellsU8 D).toArray (i * 1)
        let b ← part e (cellsU8 E).toArray (i * 1)
        let r ← Op.equalIn (d + 1) e a b
        if (!r) = true then pure (ForInStep.done (some false, ())) else pure (ForInStep.yield (none, ()))).run P w = .ok (if ∀ k ∈ L, D[k]? = E[k]? then (none, ()) else (some false, ())) w
  | [], _ => by simp
  | k :: L, hk => by
    have h1 : k < D.length := hk k (by simp)
    have h2 : k < E.length := by omega
    have hf : flatB P e = true := by unfold flatB; rw [he]
    have p1 := run_part (P := P) e (cellsU8 D).toArray (k * 1) _ w hf (by rw [Nat.mul_one]; simpa using cellsU8_get D k h1)
    have p2 := run_part (P := P) e (cellsU8 E).toArray (k * 1) _ w hf (by rw [Nat.mul_one]; simpa using cellsU8_get E k h2)
    have p3 := run_equalIn_int (P := P) w d e .u8 .u8 (D[k].toNat : Int) (E[k].toNat : Int) he
    rw [List.forIn_cons]
    simp only [Sem.run_bind, p1, p2, p3, Result.andThen_ok]
    by_cases hx : D[k] = E[k]
    · have hb : ((D[k].toNat : Int) == (E[k].toNat : Int)) = true := by rw [hx]; simp
      have ih := eq_loop d e D E w he hl L (fun j hj => hk j (by simp [hj]))
      simp only [hb, Bool.not_true, Bool.false_eq_true, if_false, Sem.run_pure, Result.andThen_ok]
      rw [ih]
      congr 1
      have hx2 : D[k]? = E[k]? := by rw [List.getElem?_eq_getElem h1, List.getElem?_eq_getElem h2, hx]
      simp [hx2]
    · have hb : ((D[k].toNat : Int) == (E[k].toNat : Int)) = false := by
        simp only [beq_eq_false_iff_ne, ne_eq]
        intro h
        exact hx (UInt8.toNat_inj.1 (by omega))
      have hx2 : ¬ D[k]? = E[k]? := by
        rw [List.getElem?_eq_getElem h1, List.getElem?_eq_getElem h2]
        intro h; injection h with h; exact hx h
      simp only [hb, Bool.not_false, if_true, Sem.run_pure, Result.andThen_ok]
      simp [hx2]

theorem run_equalIn_u8arr {P : Program} (d n t e : Nat) (D E : List UInt8) (w : World) (hu : P.underlying t = some (.array n e)) (he : P.underlying e = some (.int .u8)) (hi : (P.info? e).map (·.size) = some 1) (hD : D.length = n) (hE : E.length = n) :
    (Op.equalIn (d + 2) t (.agg (cellsU8 D).toArray) (.agg (cellsU8 E).toArray)).run P w = .ok (decide (D = E)) w := by
  cases hq : P.info? e with
  | none => simp [hq] at hi
  | some i =>
    have hs : i.size = 1 := by simpa [hq] using hi
    have key := eq_loop (P := P) d e D E w he (by omega) (List.range' 0 n) (fun k hk => by have := List.mem_range'.1 hk; omega)
    unfold Op.equalIn
    simp only [Sem.run_bind, run_underlying hu, Result.andThen_ok, sizeOf, typeInfo, run_program, hq, Sem.run_pure]
    simp only [hs, Std.Legacy.Range.forIn_eq_forIn_range', Std.Legacy.Range.size]
    rw [show (n - 0 + 1 - 1) / 1 = n by omega, key]
    simp only [Result.andThen_ok]
    by_cases h : D = E
    · subst h
      simp
    · have : ¬ ∀ k ∈ List.range' 0 n, D[k]? = E[k]? := fun hall => h (List.ext_getElem? fun k => by
        by_cases hk : k < n
        · exact hall k (List.mem_range'.2 ⟨k, hk, by omega⟩)
        · rw [List.getElem?_eq_none (by omega), List.getElem?_eq_none (by omega)])
      rw [if_neg this]
      simp [h]
/-- keys compared, in the walk's words -/
theorem guard_key : Tryz.prog.eqGuardType Tryz.prog.depth 27 = false := by kernel_rfl
theorem eq_key (D E : List UInt8) (hD : D.length = 32) (hE : E.length = 32) (w : World) : (Op.equalIn 10000 27 (.agg (cellsU8 D).toArray) (.agg (cellsU8 E).toArray)).run Tryz.prog w = .ok (decide (D = E)) w :=
  run_equalIn_u8arr 9998 32 27 5 D E w Tryz.underlying27 Tryz.underlying5 (by kernel_rfl) hD hE
end Go.Proofs.YtmblknknbbdmeaaGreat
/- sha: what the document fixes. -/
namespace Go.Proofs.YtmblknknbbdmeaaGreat
open Go Go.RowKit
set_option linter.unusedVariables false
set_option linter.unusedSimpArgs false
attribute [local go_sem] bmax2 bmin2 bmax bmin cell_ext frozen_ext

/-- a state behind a text -/
def stLm (m : List UInt8) : List Value := stL (hOf m) (str (restOf m)) (m.length : Int) true
def keyC (k : List UInt8) : List Value := cellsU8 k
theorem stLm_len (m : List UInt8) : (stLm m).length = 11 := rfl
theorem stLm_one (m : List UInt8) : ∀ x ∈ stLm m, x.oneCell' = true := stL_one _ _ _ _
theorem New_st (w : World) : Calls Tryz.prog 144 #[] w fun e w' => e = .returned (.agg (stLm []).toArray) ∧ Below w.heap.size w w' := New_any w
theorem More_st (m : List UInt8) (t : ByteArray) (h : m.length + t.size ≤ 1099511627776) (w : World) : Calls Tryz.prog 145 #[.agg (stLm m).toArray, .string t] w fun e w' => e = .returned (.agg (stLm (m ++ bs t)).toArray) ∧ Below w.heap.size w w' :=
  More_any m (bs t) _ _ _ true (Or.inl ⟨rfl, rfl, rfl, rfl⟩) h w
theorem Key_st (m : List UInt8) (h : m.length ≤ 549755813888) (w : World) : Calls Tryz.prog 146 #[.agg (stLm m).toArray] w fun e w' => e = .returned (.agg (cellsU8 (digest m)).toArray) ∧ Below w.heap.size w w' :=
  Key_any m _ _ _ true (Or.inl ⟨rfl, rfl, rfl, rfl⟩) rfl h w
theorem Sum_st (t : ByteArray) (h : t.size ≤ 549755813888) (w : World) : Calls Tryz.prog 124 #[.string t] w fun e w' => e = .returned (.agg (cellsU8 (digest (bs t))).toArray) ∧ Below w.heap.size w w' := Sum_any (bs t) h w
theorem Walk_st (K : List UInt8) (hK : K.length = 32) (n : Int) (N : Nat) (hN : min (max n 0) 4096 = (N : Int)) (w : World) : Calls Tryz.prog 95 #[.agg (cellsU8 K).toArray, .int .i64 n] w fun e w' => e = .returned (.agg (cellsU8 (walkD K N)).toArray) ∧ Below w.heap.size w w' := Walk_any K hK n N hN w
theorem eq_same (D : List UInt8) (hD : D.length = 32) (w : World) : (Op.equalIn 10000 27 (.agg (cellsU8 D).toArray) (.agg (cellsU8 D).toArray)).run Tryz.prog w = .ok true w := by rw [eq_key D D hD hD]; simp
theorem eq_dig (m : List UInt8) (w : World) : (Op.equalIn 10000 27 (.agg (cellsU8 (digest m)).toArray) (.agg (cellsU8 (digest m)).toArray)).run Tryz.prog w = .ok true w := eq_same _ (digest_length m) w
theorem bs_append (a b : ByteArray) : bs (a ++ b) = bs a ++ bs b := by rw [bs, ByteArray.data_append, Array.toList_append]
theorem ldK (K : List UInt8) (hK : K.length = 32) {w : World} {b : Nat} (h : Blk w b 27 (cellsU8 K).toArray) : (Instr.loadAt 27 (.pointer (some ⟨b, 0, none⟩))).run Tryz.prog w = .ok (.agg (cellsU8 K).toArray) w :=
  ld_all b 32 27 _ (cellsU8 K) _ Tryz.underlying27 rfl info_key (key_cells K hK) h
theorem ldS (m : List UInt8) {w : World} {b : Nat} (h : Blk w b 245 (stLm m).toArray) : (Instr.loadAt 245 (.pointer (some ⟨b, 0, none⟩))).run Tryz.prog w = .ok (.agg (stLm m).toArray) w :=
  ld_all b 11 245 _ (stLm m) _ Tryz.underlying245 rfl info_st rfl h

theorem digest_abc : hexL (digest [97, 98, 99]) = [98, 97, 55, 56, 49, 54, 98, 102, 56, 102, 48, 49, 99, 102, 101, 97, 52, 49, 52, 49, 52, 48, 100, 101, 53, 100, 97, 101, 50, 50, 50, 51, 98, 48, 48, 51, 54, 49, 97, 51, 57, 54, 49, 55, 55, 97, 57, 99, 98, 52, 49, 48, 102, 102, 54, 49, 102, 50, 48, 48, 49, 53, 97, 100] := by decide +kernel

theorem stA_eq (v : V8) (R : ByteArray) (n : Int) (b : Bool) : stA v R n b = .agg (stL v R n b).toArray := rfl

end Go.Proofs.YtmblknknbbdmeaaGreat
/- the reference's sha: right, constants, filled. -/
namespace Go.Proofs.YtmblknknbbdmeaaGreat
open Go Go.RowKit
set_option linter.unusedVariables false
set_option linter.unusedSimpArgs false
attribute [local go_sem] bmax2 bmin2 bmax bmin cell_ext frozen_ext

theorem right_eq (n k : Nat) (hn : n < M32) (hk : 1 ≤ k ∧ k ≤ 31) : bits .or .u32 ((n : Int) / 2 ^ k) ((n : Int) * 2 ^ (32 - k) % 4294967296) = ((rr n k : Nat) : Int) := by
  have e1 : (n : Int) * 2 ^ (32 - k) % 4294967296 = ((n * 2 ^ (32 - k) % 4294967296 : Nat) : Int) := by simp
  have e2 : (n : Int) / 2 ^ k = ((n / 2 ^ k : Nat) : Int) := by simp
  have h2 : n / 2 ^ k ≤ n := Nat.div_le_self _ _
  rw [e1, e2, u32_or_nat _ _ (Nat.lt_of_le_of_lt h2 hn) (Nat.mod_lt _ (by decide)), Nat.or_comm]
  unfold rr leftN
  rw [show 32 - (32 - k) = k by omega]

theorem R_right (n : Nat) (k : Nat) (b : Int) (w : World) (hn : n < M32) (hb : b = k) (hk : 1 ≤ k ∧ k ≤ 31) :
    Calls Tryz.prog 113 #[.int .u32 n, .int .i64 b] w fun e w' => e = .returned (.int .u32 (rr n k : Nat)) ∧ ∃ m, w' = w.drewN m := by
  have hn' : (n : Int) < 4294967296 := by have : n < 4294967296 := hn; omega
  have e1 : 32 - b = ((32 - k : Nat) : Int) := by omega
  subst hb
  have k1 : (1 : Int) ≤ (k : Int) := by omega
  have k2 : (k : Int) ≤ 31 := by omega
  go_enter Tryz.func113, Tryz.ntmps113
  go_wp2
  go_quiet (fail)
  go_wp2
  go_ret
  exact ⟨congrArg _ (congrArg _ (right_eq n k hn ⟨by omega, by omega⟩)), nq, rfl⟩

set_option maxRecDepth 100000 in
theorem R_constants (w : World) : Calls Tryz.prog 110 #[] w fun e w' => e = .returned (.slice (some ⟨w.heap.size, 0, none⟩) 64 64) ∧ Below w.heap.size w w' ∧ Blk w' w.heap.size 22 (c32 kL).toArray := by
  go_enter Tryz.func110, Tryz.ntmps110
  go_wp2_with fail
  refine bodyPost_ret (v := .slice (some ⟨w.heap.size, 0, none⟩) 64 64) (by simp [results, Tryz.results110, go_sem]) rfl ⟨rfl, ba (Below.refl _ _) _, ?_⟩
  exact Blk.new w 22 (c32 kL).toArray

/-- a text and the first j+1 bytes behind it -/
def fillL (m : List UInt8) (j : Nat) : List UInt8 := m ++ ([0x80] ++ List.replicate j 0)
theorem fillL_length (m : List UInt8) (j : Nat) : (fillL m j).length = m.length + 1 + j := by simp [fillL]; omega
theorem fillL_succ (m : List UInt8) (j : Nat) : fillL m (j + 1) = fillL m j ++ [0] := by simp [fillL, List.replicate_succ']
theorem fillL_put (m : List UInt8) : fillL m (gapN m.length - 1) ++ putL (m.length * 8) 8 = m ++ padB m := by simp [fillL, padB]
theorem fillL_zero (m : List UInt8) : str m ++ ⟨#[128]⟩ = str (fillL m 0) := str_append m [128]
theorem fillL_next (m : List UInt8) (j : Nat) : str (fillL m j) ++ ⟨#[0]⟩ = str (fillL m (j + 1)) := by rw [fillL_succ]; exact str_append _ [0]

theorem R_filled (m : List UInt8) (hm : m.length ≤ 1099511627776) (w : World) :
    Calls Tryz.prog 111 #[.string (str m)] w fun e w' => e = .returned (.string (str (m ++ padB m))) ∧ Below w.heap.size w w' := by
  have hz : (str m).size ≤ 1099511627776 := by rw [str_size]; exact hm
  have hz2 : (str m).size = m.length := str_size m
  have P : Kp (∀ w, Calls Tryz.prog 93 #[.int .u64 (8 * (m.length : Int)), .int .i64 8] w fun e w' => e = .returned (.string (str (putL (m.length * 8) 8))) ∧ Below w.heap.size w w') :=
    kp fun w => by
      have := ref01_Put_mid (m.length * 8) 8 w (show _ < 18446744073709551616 by omega) (by omega) 8 (by omega)
      rw [show ((m.length * 8 : Nat) : Int) = 8 * (m.length : Int) by omega] at this
      exact this
  have f0 := fillL_zero m
  have fp := kp (fillL_put m)
  have hs1 : (⟨#[128]⟩ : ByteArray).size ≤ 1 := by decide
  have hs0 : (⟨#[0]⟩ : ByteArray).size ≤ 1 := by decide
  have fn_ := kp (fillL_next m)
  have fs := kp (fun j => (str_size (fillL m j)).trans (fillL_length m j))
  obtain ⟨G, hG⟩ : ∃ G, gapN m.length - 1 = G := ⟨_, rfl⟩
  have hg1 : (m.length + 1 + G) % 64 = 56 := by unfold gapN at hG; omega
  have hg2 : G < 64 := by unfold gapN at hG; omega
  rw [hG] at fp
  have HM := kp hm
  clear hG hm
  obtain ⟨N, hN⟩ : ∃ N, m.length = N := ⟨_, rfl⟩
  rw [hN] at hz2 hg1 P fs HM fp
  generalize hS : str m = S at hz hz2 f0
  have hpz : (str (putL (N * 8) 8)).size ≤ 8 := by rw [str_size, length_putL]; omega
  have sa := kp (str_append (fillL m G) (putL (N * 8) 8))
  generalize putL (N * 8) 8 = PL at hpz sa fp P
  generalize m ++ padB m = R at fp ⊢
  go_enter Tryz.func111, Tryz.ntmps111
  go_wp2
  go_loop [3] (fun t => ∃ j : Nat, t = .string (str (fillL m j)) ∧ j ≤ G) (fun t => 1099511631872 - lenOf t)
  case atStart => exact ⟨0, rfl, Nat.zero_le _⟩
  case round =>
    obtain ⟨j, rfl, hj⟩ := hrel
    have hsz := fs.out j
    have hl := HM.out
    by_cases hlt : j < G
    · have hm : (((str (fillL m j)).size : Int) % 64) ≠ 56 := by omega
      have hb : ((((str (fillL m j)).size : Int) % 64) == 56) = false := by simpa using hm
      have hb2 : ((((str (fillL m j)).size : Int) % 64) != 56) = true := by simpa using hm
      have hu : (str (fillL m j)).size ≤ 1099511627900 := by omega
      have hnx := fn_.out j
      have HSZ := kp hsz
      have HSY := kp (fs.out (j + 1))
      clear hm hsz
      go_wp2
      go_round
      case measure =>
        show 1099511631872 - (str (fillL m (j + 1))).size < 1099511631872 - (str (fillL m j)).size
        have := HSZ.out; have := HSY.out; omega
      case rel => exact ⟨j + 1, rfl, by omega⟩
    · obtain rfl : j = G := by omega
      have hm : (((str (fillL m j)).size : Int) % 64) = 56 := by omega
      have hb : ((((str (fillL m j)).size : Int) % 64) == 56) = true := by simpa using hm
      have hb2 : ((((str (fillL m j)).size : Int) % 64) != 56) = false := by simpa using hm
      have hu : (str (fillL m j)).size ≤ 1099511627900 := by omega
      clear hm hsz
      go_wp2_with fail
      refine (P.out w).mono ?_
      rintro e w1 ⟨rfl, hbl⟩
      have sa' := sa.out
      rw [fp.out] at sa'
      go_wp2
      go_ret
      exact ⟨by first | rfl | rw [sa'], hbl⟩
end Go.Proofs.YtmblknknbbdmeaaGreat
/- the reference's sha: a block's numbers. -/
namespace Go.Proofs.YtmblknknbbdmeaaGreat
open Go Go.RowKit
set_option linter.unusedVariables false
set_option linter.unusedSimpArgs false
attribute [local go_sem] bmax2 bmin2 bmax bmin cell_ext frozen_ext

theorem R_right_i (n : Nat) (a : Int) (w : World) (hn : n < M32) (ha : 1 ≤ a ∧ a ≤ 31) :
    Calls Tryz.prog 113 #[.int .u32 n, .int .i64 a] w fun e w' => e = .returned (.int .u32 (rr n a.toNat : Nat)) ∧ ∃ m, w' = w.drewN m :=
  R_right n a.toNat a w hn (by omega) (by omega)

/-- cells of a row that is owned -/
theorem own32_cell {w : World} {base g n cap : Nat} {e : TypeId} {L : List Nat} (h : w.ownsRow base e 1 (.slice (some ⟨g, 0, none⟩) n cap) n (c32 L)) (hL : L.length = n) (i : Nat) (hi : i < n) : w.cell? ⟨g, i, none⟩ = some (.int .u32 (L.getD i 0 : Nat)) := by
  rw [h.cellAt i (by omega)]
  exact c32_get (by omega)
theorem own_below {w w' : World} {B e size n : Nat} {g c : Nat} {xs : List Value} (h : w.ownsRow B e size (.slice (some ⟨g, 0, none⟩) n c) n xs) (hb : Below w.heap.size w w') : w'.ownsRow B e size (.slice (some ⟨g, 0, none⟩) n c) n xs :=
  h.kept (gb hb none) (Or.inr (by intro e; cases e))
theorem own_lt {w : World} {B e size n : Nat} {g c : Nat} {xs : List Value} (h : w.ownsRow B e size (.slice (some ⟨g, 0, none⟩) n c) n xs) : B ≤ g ∧ g < w.heap.size := h.lt g rfl
theorem numbers_facts {W : World} {B g k j cap : Nat} {T : TypeId} {L : List Nat} (hB : W.ownsRow B T 1 (.slice (some ⟨g, 0, none⟩) j cap) j (c32 L)) (hL : L.length = k + 16) (hj : k + 16 = j) :
    W.cell? ⟨g, j - 15, none⟩ = some (.int .u32 (L.getD (k + 1) 0 : Nat)) ∧ W.cell? ⟨g, j - 2, none⟩ = some (.int .u32 (L.getD (k + 14) 0 : Nat)) ∧ W.cell? ⟨g, j - 16, none⟩ = some (.int .u32 (L.getD k 0 : Nat)) ∧ W.cell? ⟨g, j - 7, none⟩ = some (.int .u32 (L.getD (k + 9) 0 : Nat)) ∧ g < W.heap.size := by
  rw [show j - 15 = k + 1 by omega, show j - 2 = k + 14 by omega, show j - 16 = k by omega, show j - 7 = k + 9 by omega]
  exact ⟨own32_cell hB (by omega) _ (by omega), own32_cell hB (by omega) _ (by omega), own32_cell hB (by omega) _ (by omega), own32_cell hB (by omega) _ (by omega), (own_lt hB).2⟩
theorem c32_snoc (L : List Nat) (x : Nat) (z : Int) (h : z = (x : Int)) : c32 L ++ [.int .u32 z] = c32 (L ++ [x]) := by simp [c32, h]
theorem sg0_eq (x : Nat) (h : x < M32) : bits .xor .u32 (bits .xor .u32 ((rr x 7 : Nat) : Int) ((rr x 18 : Nat) : Int)) ((x : Int) / 8) = ((sg0 x : Nat) : Int) := by
  rw [u32_xor_nat _ _ (rr_lt _ _ h (by omega)) (rr_lt _ _ h (by omega)), show (x : Int) / 8 = ((x / 8 : Nat) : Int) by omega, u32_xor_nat _ _ (xor_lt32 (rr_lt _ _ h (by omega)) (rr_lt _ _ h (by omega))) (Nat.lt_of_le_of_lt (Nat.div_le_self _ _) h)]
  rfl
theorem sg1_eq (x : Nat) (h : x < M32) : bits .xor .u32 (bits .xor .u32 ((rr x 17 : Nat) : Int) ((rr x 19 : Nat) : Int)) ((x : Int) / 1024) = ((sg1 x : Nat) : Int) := by
  rw [u32_xor_nat _ _ (rr_lt _ _ h (by omega)) (rr_lt _ _ h (by omega)), show (x : Int) / 1024 = ((x / 1024 : Nat) : Int) by omega, u32_xor_nat _ _ (xor_lt32 (rr_lt _ _ h (by omega)) (rr_lt _ _ h (by omega))) (Nat.lt_of_le_of_lt (Nat.div_le_self _ _) h)]
  rfl
theorem info_u32 : (Tryz.prog.info? 22).map (fun i => (i.zero, i.size, i.bytes)) = some (some (.int .u32 0), 1, 4) := by kernel_rfl

set_option maxHeartbeats 2000000 in
set_option maxRecDepth 100000 in
theorem R_numbers (p : List UInt8) (hp : p.length = 64) (w : World) :
    Calls Tryz.prog 112 #[.string (str p)] w fun e w' => ∃ g cap, e = .returned (.slice (some ⟨g, 0, none⟩) 64 cap) ∧ w'.ownsRow w.heap.size 22 1 (.slice (some ⟨g, 0, none⟩) 64 cap) 64 (c32 (sched p)) ∧ Below w.heap.size w w' := by
  obtain ⟨i0, hi, hz0, hz1, hz2⟩ := info_parts info_u32
  have Hz2 := kp hz2
  have Hz1 := kp hz1
  clear hz1 hz2
  have hsz : (str p).size = 64 := by rw [str_size]; exact hp
  have HP := kp hp
  go_enter Tryz.func112, Tryz.ntmps112
  go_wp2
  go_loopw [3, 4] (fun v i wr => ∃ k : Nat, k ≤ 16 ∧ i = .int .i64 ((4 * k : Nat) : Int) ∧ Kp (wr.ownsRow w.heap.size 22 1 v k (c32 (w16 p k))) ∧ Kp (Below w.heap.size w wr)) (fun _ i _ => 64 - (intOf i).toNat)
  case atStart => exact ⟨0, Nat.zero_le _, rfl, kp (World.ownsRow_lit w #[] 0 (Nat.le_refl _) (by unfold maxLen; omega) rfl), kp ((Below.refl _ _).alloc (Nat.le_refl _) _)⟩
  case round =>
    obtain ⟨k, hk, rfl, ho, hb⟩ := hrel
    by_cases hlt : k < 16
    · obtain ⟨j, hj⟩ : ∃ j, 4 * k = j := ⟨_, rfl⟩
      rw [hj]
      have j1 : (j : Int) < 64 := by omega
      have j2 : (0 : Int) ≤ (j : Int) := by omega
      have j3 : (j : Int) + 4 ≤ 64 := by omega
      have hx : (str p).extract j (j + 4) = str ((p.drop (4 * k)).take 4) := by rw [extract_str, hj, show j + 4 - j = 4 by omega]
      have t4 : (str ((p.drop (4 * k)).take 4)).size ≤ 8 := by rw [str_size]; simp; omega
      have T4 := kp (fun w' => ref01_Take_any (str ((p.drop (4 * k)).take 4)) w' t4)
      rw [bs_str] at T4
      have e1 : Kp (((takeN ((p.drop (4 * k)).take 4) : Nat) : Int) % 4294967296 = ((takeN ((p.drop (4 * k)).take 4) : Nat) : Int)) := kp (by
          have h1 := takeN_lt ((p.drop (4 * k)).take 4)
          have h2 : 256 ^ ((p.drop (4 * k)).take 4).length ≤ 256 ^ 4 := Nat.pow_le_pow_right (by omega) (by simp; omega)
          omega)
      have e2 : Kp (w16 p (k + 1) = w16 p k ++ [takeN ((p.drop (4 * k)).take 4)]) := kp rfl
      generalize takeN ((p.drop (4 * k)).take 4) = X at T4 e1 e2
      generalize w16 p k = L at ho e2
      have HJ := kp hj
      have hbs := hb.out.size
      clear hj t4
      go_wp2_with fail
      refine (T4.out _).mono ?_
      rintro e w' ⟨rfl, rfl⟩
      go_wp2_with (at_builtin; refine wpList_append_own _ rfl _ _ 100 rfl w.heap.size 22 i0 (.int .u32 0) 1 4 Tryz.underlying100 hi hz0 Hz1.out Hz2.out rfl (by decide) _ _ _ rfl (ho.out.alloc _) ⟨wr.heap.size, 0, none⟩ 1 1 [.int .u32 ((X : Int) % 4294967296)] rfl rfl ?c1 ?c2 ?c3 ?c4 ?c5 ?_)
      case c1 => exact cell_one_new _ _ _
      case c2 => simp [Value.oneCell']
      case c3 => unfold maxLen; omega
      case c4 => omega
      case c5 => simp; omega
      intro v' w1 hown' hgrow' _
      have HB1 := kp ((hb.out.alloc hb.out.size _).grown hgrow' (by simp; omega) (fun x hx => (ho.out.lt x hx).1))
      have HO1 := kp hown'
      clear hown' hgrow'
      go_wp2
      go_roundw
      case measure => simp [intOf]; omega
      case rel =>
        have := HJ.out
        refine ⟨k + 1, by omega, by rw [show 4 * (k + 1) = j + 4 by omega]; go_num, ?_, HB1⟩
        rw [e2.out, ← c32_snoc L X _ e1.out]
        exact HO1
    · obtain rfl : k = 16 := by omega
      obtain ⟨g, cap, rfl, -, -⟩ := World.ownsRow.form ho.out (by omega)
      have HO0 : Kp (wr.ownsRow w.heap.size 22 1 (.slice (some ⟨g, 0, none⟩) 16 cap) 16 (c32 (more (w16 p 16) 0))) := ho
      clear ho
      rw [show ((4 * 16 : Nat) : Int) = 64 from rfl]
      go_wp2
      go_loopw [3, 7] (fun v i wx => ∃ (k g cap : Nat), k ≤ 48 ∧ i = .int .i64 ((k + 16 : Nat) : Int) ∧ v = .slice (some ⟨g, 0, none⟩) (k + 16) cap ∧ Kp (wx.ownsRow w.heap.size 22 1 (.slice (some ⟨g, 0, none⟩) (k + 16) cap) (k + 16) (c32 (more (w16 p 16) k))) ∧ Kp (Below w.heap.size w wx)) (fun _ i _ => 64 - (intOf i).toNat)
      case atStart => exact ⟨0, g, cap, Nat.zero_le _, rfl, rfl, HO0, hb⟩
      case round =>
        clear HO0 hb
        obtain ⟨k, g, cap, hk, rfl, rfl, ho, hb⟩ := hrel
        by_cases hlt : k < 48
        · have hL : (more (w16 p 16) k).length = k + 16 := by rw [more_length, w16_length]; omega
          have hL2 : ∀ x ∈ more (w16 p 16) k, x < M32 := more_lt _ (w16_lt p 16) k
          have hL3 : Kp (nxt (more (w16 p 16) k) = ((more (w16 p 16) k).getD k 0 + (more (w16 p 16) k).getD (k + 9) 0 + sg0 ((more (w16 p 16) k).getD (k + 1) 0) + sg1 ((more (w16 p 16) k).getD (k + 14) 0)) % M32) := kp (by
            unfold nxt
            rw [hL, show k + 16 - 16 = k by omega, show k + 16 - 7 = k + 9 by omega, show k + 16 - 15 = k + 1 by omega, show k + 16 - 2 = k + 14 by omega])
          have hS : Kp (more (w16 p 16) (k + 1) = more (w16 p 16) k ++ [nxt (more (w16 p 16) k)]) := kp rfl
          obtain ⟨L, hLn⟩ : ∃ L, more (w16 p 16) k = L := ⟨_, rfl⟩
          rw [hLn] at hL hL2 hL3 hS ho
          obtain ⟨j, hj⟩ : ∃ j, k + 16 = j := ⟨_, rfl⟩
          rw [hj] at ho ⊢
          have FA := kp (fun W h => numbers_facts (W := W) (T := 22) (B := w.heap.size) (g := g) (cap := cap) (L := L) h hL hj)
          have l1 := getD_lt L hL2 (k + 1)
          have l2 := getD_lt L hL2 (k + 14)
          generalize hx1 : L.getD (k + 1) 0 = x1 at *
          generalize hx2 : L.getD (k + 14) 0 = x2 at *
          generalize hx3 : L.getD k 0 = x3 at *
          generalize hx4 : L.getD (k + 9) 0 = x4 at *
          have b1 : (16 : Int) ≤ (j : Int) := by omega
          have b2 : (j : Int) < 64 := by omega
          have HJ := kp hj
          have HLN := kp hLn
          have G0 := kp (sg0_eq x1 l1)
          have G1 := kp (sg1_eq x2 l2)
          clear hx1 hx2 hx3 hx4 hL hL2 hj hLn
          obtain ⟨c1, c2, c3, c4, c7⟩ := FA.out _ ho.out
          go_wp2
          refine wp_region_plan_lit (C := fun w' => ∃ x, w' = wr.ext x) [0] [1, 2, 3, 4, 5, 6, 7, 8, 9, 10, 11, 12, 13, 14, 15, 16, 17, 18, 19, 20, 21, 22, 23, 24, 25, 26, 27, 28, 29] [30, 31, 32] (by kernel_rfl) (by kernel_rfl) (by intro c a d v w h; cases d <;> exact h) ⟨wr.drew, (ext_of (Below.refl _ _).drew).symm⟩ ?_
          simp only [List.map_cons, List.map_nil, List.getD_cons_succ, List.getD_cons_zero]
          go_big_quiet_step (fail)
          refine wpQuiet_nil ?_
          repeat (go_big_quiet_step ((go_at_call 113; exact Calls.ext_drew (R_right_i _ _ _ (by assumption) (by decide)))))
          refine wpQuiet_nil ?_
          rintro _ ⟨z, rfl⟩
          clear c1 c2 c3 c4 c7
          have HO := kp (own_below ho.out (ext_below wr z))
          have HBZ := kp (bt' hb.out (ext_below wr z) hb.out.size)
          clear ho hb
          generalize (wr.ext z) = Z at HO HBZ ⊢
          have hbs := HBZ.out.size
          go_wp2_with (at_builtin; refine wpList_append_own _ rfl _ _ 100 rfl w.heap.size 22 i0 (.int .u32 0) 1 4 Tryz.underlying100 hi hz0 Hz1.out Hz2.out rfl (by decide) _ _ _ rfl (HO.out.alloc _) ⟨Z.heap.size, 0, none⟩ 1 1 [.int .u32 (((x3 : Int) + (x4 : Int) + bits .xor .u32 (bits .xor .u32 ((rr x1 7 : Nat) : Int) ((rr x1 18 : Nat) : Int)) ((x1 : Int) / 8) + bits .xor .u32 (bits .xor .u32 ((rr x2 17 : Nat) : Int) ((rr x2 19 : Nat) : Int)) ((x2 : Int) / 1024)) % 4294967296)] rfl rfl ?c1 ?c2 ?c3 ?c4 ?c5 ?_)
          case c1 => exact cell_one_new _ _ _
          case c2 => simp [Value.oneCell']
          case c3 => unfold maxLen; omega
          case c4 => omega
          case c5 => simp; omega
          intro v' w1 hown' hgrow' _
          obtain ⟨g', cap', rfl, -, -⟩ := World.ownsRow.form hown' (by omega)
          have HB1 := kp ((HBZ.out.alloc HBZ.out.size _).grown hgrow' (by simp; omega) (fun x hx => (HO.out.lt x hx).1))
          have HO1 := kp hown'
          clear hown' hgrow'
          go_wp2
          go_roundw
          case measure => simp [intOf]; omega
          case rel =>
            have hj := HJ.out
            refine ⟨k + 1, g', cap', by omega, by rw [show k + 1 + 16 = j + 1 by omega]; go_num, by rw [show k + 1 + 16 = j + 1 by omega], ?_, HB1⟩
            rw [show k + 1 + 16 = j + 1 by omega, hS.out]
            have h1 := HO1.out
            rw [G0.out, G1.out, c32_snoc L (nxt L) _ (by rw [hL3.out]; simp)] at h1
            exact kp h1
        · obtain rfl : k = 48 := by omega
          go_wp2
          go_ret
          exact ⟨g, cap, rfl, ho.out, hb.out⟩
end Go.Proofs.YtmblknknbbdmeaaGreat
