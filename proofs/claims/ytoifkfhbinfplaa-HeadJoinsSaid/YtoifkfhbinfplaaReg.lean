/- A region that draws its order, whose operations leave the world as it was but for new blocks, some of which make what is new: one walk serves every order. -/
import Derived.Test.YtoifkfhbinfplaaMem
namespace Go.Proofs.Ytoifkfhbinfplaa
open Go Go.RowKit
set_option linter.unusedVariables false
set_option linter.unusedSimpArgs false

section
variable {P : Program} {ops : Array Oper} {md : Region.Mode}

theorem looks_same {o : Oper} (hs : ∀ cs b, o.op ≠ .select cs b) {a b : Act} (h : ∀ s ∈ o.looksAt ops, a.tmps[s]? = b.tmps[s]?) :
    execOp a.eval o = execOp b.eval o ∧ Region.wanted o (yielded ops a.tmps) = Region.wanted o (yielded ops b.tmps) := by
  constructor
  · refine execOp_congr o hs fun x hx => ?_
    cases x with
    | tmp t =>
      have := h t (List.mem_append_left _ (List.mem_filterMap.2 ⟨.tmp t, by simpa using hx, rfl⟩))
      simp only [Act.eval, Array.getD_eq_getD_getElem?, this]
    | _ => rfl
  · unfold Region.wanted
    cases hg : o.guard with
    | none => rfl
    | some gw =>
      obtain ⟨g, want⟩ := gw
      have hy : yielded ops a.tmps g = yielded ops b.tmps g := by
        unfold yielded
        cases ht : (ops[g]?).bind (·.dst) with
        | none => rfl
        | some t =>
          have := h t (by simp [Oper.looksAt, hg, ht])
          simp only [Option.bind_some, this]
      simp only [hy]

/-- one value, in every world behind w; new blocks alone -/
def YX (P : Program) (o : Oper) (a : Act) (w : World) (v : Value) : Prop := ∀ W, Below w.heap.size w W → o.quietAt P a (fun w' => Below W.heap.size W w') W v

def LexX (P : Program) (ops : Array Oper) (w : World) (A : Act) : List Oper → Act → Prop
  | [], a => a = A
  | o :: rest, a => (Region.wanted o (yielded ops a.tmps) = true ∧ ∃ v, YX P o a w v ∧ LexX P ops w A rest (a.put o.dst v)) ∨ (Region.wanted o (yielded ops a.tmps) = false ∧ LexX P ops w A rest (a.put o.dst undef))

/-- the slots are there, and each is another one -/
def distB (n : Nat) (l : List Oper) : Bool := (l.all fun o => match o.dst with | some d => decide (d < n) | none => false) && decide (l.map (·.dst)).Nodup

theorem distB_cons {n : Nat} {o : Oper} {l : List Oper} (h : distB n (o :: l) = true) : (∃ d, o.dst = some d ∧ d < n ∧ ∀ x ∈ l, x.dst ≠ some d) ∧ distB n l = true := by
  simp only [distB, List.all_cons, List.map_cons, List.nodup_cons, Bool.and_eq_true, decide_eq_true_eq] at h
  obtain ⟨⟨h1, h2⟩, h3, h4⟩ := h
  cases hd : o.dst with
  | none => rw [hd] at h1; cases h1
  | some d =>
    rw [hd] at h1 h3
    refine ⟨⟨d, rfl, by simpa using h1, fun x hx he => h3 (List.mem_map.2 ⟨x, hx, he⟩)⟩, ?_⟩
    simp only [distB, Bool.and_eq_true, decide_eq_true_eq]
    exact ⟨h2, h4⟩

theorem put_size (a : Act) (d : Option Tmp) (v : Value) : (a.put d v).tmps.size = a.tmps.size := by cases d <;> simp [Act.put]
theorem put_defers' (a : Act) (d : Option Tmp) (v : Value) : (a.put d v).defers = a.defers := by cases d <;> rfl
theorem put_get_ne (a : Act) {d : Option Tmp} (v : Value) {s : Tmp} (h : d ≠ some s) : (a.put d v).tmps[s]? = a.tmps[s]? := by
  cases d with
  | none => rfl
  | some d => simp only [Act.put]; rw [Array.getElem?_setIfInBounds_ne (by intro e; subst e; exact h rfl)]
theorem put_get (a : Act) {d : Tmp} (v : Value) (h : d < a.tmps.size) : (a.put (some d) v).tmps[d]? = some v := by simp [Act.put, h]

theorem quiet_keeps {C : World → Prop} {A : Act} {s : Tmp} : ∀ (l : List Oper) (b : Act), (∀ x ∈ l, x.dst ≠ some s) → wpQuiet P ops C (· = A) l b → A.tmps[s]? = b.tmps[s]?
  | [], b, _, h => by rw [show b = A from h]
  | o :: rest, b, hd, h => by
    simp only [wpQuiet] at h
    have h1 := hd o (by simp)
    have h2 : ∀ x ∈ rest, x.dst ≠ some s := fun x hx => hd x (by simp [hx])
    split at h
    · obtain ⟨v, _, hn⟩ := h
      rw [quiet_keeps rest _ h2 hn, put_get_ne b v h1]
    · rw [quiet_keeps rest _ h2 h, put_get_ne b undef h1]
theorem lex_keeps {w : World} {A : Act} {s : Tmp} : ∀ (l : List Oper) (b : Act), (∀ x ∈ l, x.dst ≠ some s) → LexX P ops w A l b → A.tmps[s]? = b.tmps[s]?
  | [], b, _, h => by rw [show b = A from h]
  | o :: rest, b, hd, h => by
    have h1 := hd o (by simp)
    have h2 : ∀ x ∈ rest, x.dst ≠ some s := fun x hx => hd x (by simp [hx])
    rcases h with ⟨_, v, _, hn⟩ | ⟨_, hn⟩
    · rw [lex_keeps rest _ h2 hn, put_get_ne b v h1]
    · rw [lex_keeps rest _ h2 hn, put_get_ne b undef h1]
theorem lex_size {w : World} {A : Act} : ∀ (l : List Oper) (b : Act), LexX P ops w A l b → A.tmps.size = b.tmps.size ∧ A.defers = b.defers
  | [], b, h => by rw [show b = A from h]; exact ⟨rfl, rfl⟩
  | o :: rest, b, h => by
    rcases h with ⟨_, v, _, hn⟩ | ⟨_, hn⟩
    · have := lex_size rest _ hn
      rw [put_size, put_defers'] at this; exact this
    · have := lex_size rest _ hn
      rw [put_size, put_defers'] at this; exact this

theorem quietAt_below {o : Oper} {a : Act} {W : World} {v : Value} (h : o.quietAt P a (fun w' => ∃ x, w' = W.ext x) W v) : o.quietAt P a (fun w' => Below W.heap.size W w') W v := by
  unfold Oper.quietAt at *
  generalize (execOp a.eval o).run P W = r at *
  cases r with
  | ok n w' =>
    cases n <;> simp only [Oper.quietUpon] at h ⊢
    case value u => exact h
    case skip => exact h
    case enter f args => exact ⟨h.1, h.2.mono fun e w'' ⟨he, x, hx⟩ => ⟨he, by rw [hx]; exact ext_below W x⟩⟩
  | halt x w' => simp only [Oper.quietUpon] at h

theorem lex_of {w : World} {A : Act} : ∀ (l : List Oper) (a : Act), distB a.tmps.size l = true → (∀ W, Below w.heap.size w W → wpQuiet P ops (fun w' => ∃ x, w' = W.ext x) (· = A) l a) → LexX P ops w A l a
  | [], a, _, h => h w (Below.refl _ _)
  | o :: rest, a, hB, h => by
    obtain ⟨⟨d, hd, hlt, hne⟩, hB'⟩ := distB_cons hB
    by_cases hw : Region.wanted o (yielded ops a.tmps) = true
    · have h' : ∀ W, Below w.heap.size w W → o.quiet P a (fun w' => ∃ x, w' = W.ext x) (wpQuiet P ops (fun w' => ∃ x, w' = W.ext x) (· = A) rest) := fun W hW => by
        have := h W hW
        simp only [wpQuiet, if_pos hw] at this
        exact this
      have key : ∀ W, Below w.heap.size w W → ∃ v, o.quietAt P a (fun w' => Below W.heap.size W w') W v ∧ wpQuiet P ops (fun w' => ∃ x, w' = W.ext x) (· = A) rest (a.put o.dst v) ∧ A.tmps[d]? = some v := fun W hW => by
        obtain ⟨v, hq, hn⟩ := h' W hW
        refine ⟨v, quietAt_below (hq W ⟨W, (ext_of (Below.refl _ _)).symm⟩), hn, ?_⟩
        rw [quiet_keeps rest _ hne hn, hd, put_get a v hlt]
      obtain ⟨v0, _, _, e0⟩ := key w (Below.refl _ _)
      refine Or.inl ⟨hw, v0, fun W hW => ?_, lex_of rest _ (by rw [put_size]; exact hB') fun W hW => ?_⟩
      · obtain ⟨v, hq, _, e⟩ := key W hW
        rw [e0] at e
        injection e with e
        rw [e]; exact hq
      · obtain ⟨v, _, hn, e⟩ := key W hW
        rw [e0] at e
        injection e with e
        rw [e]; exact hn
    · refine Or.inr ⟨by simpa using hw, lex_of rest _ (by rw [put_size]; exact hB') fun W hW => ?_⟩
      have := h W hW
      simp only [wpQuiet, if_neg hw] at this
      exact this

/-- what the walk in the order of the text tells of its p-th operation, at any act that agrees with it in what the operation looks at -/
theorem LexX.get {w : World} {A : Act} : ∀ (l : List Oper) (a : Act), distB a.tmps.size l = true → LexX P ops w A l a → ∀ (p : Nat) (o : Oper), l[p]? = some o → (∀ cs b, o.op ≠ .select cs b) → ∀ a' : Act,
    (∀ s ∈ o.looksAt ops, a'.tmps[s]? = if ∃ x ∈ l.take p, x.dst = some s then A.tmps[s]? else a.tmps[s]?) →
    ∃ d v, o.dst = some d ∧ A.tmps[d]? = some v ∧ ((Region.wanted o (yielded ops a'.tmps) = true ∧ YX P o a' w v) ∨ (Region.wanted o (yielded ops a'.tmps) = false ∧ v = undef))
  | [], a, _, _, p, o, hp, _, _, _ => by simp at hp
  | o' :: rest, a, hB, h, 0, o, hp, hs, a', hag => by
    obtain ⟨⟨d, hd, hlt, hne⟩, hB'⟩ := distB_cons hB
    have : o' = o := by simpa using hp
    subst this
    have hag' : ∀ s ∈ o'.looksAt ops, a'.tmps[s]? = a.tmps[s]? := fun s hs' => by simpa using hag s hs'
    obtain ⟨e1, e2⟩ := looks_same hs hag'
    rcases h with ⟨hw, v, hy, hn⟩ | ⟨hw, hn⟩
    · refine ⟨d, v, hd, by rw [lex_keeps rest _ hne hn, hd, put_get a v hlt], Or.inl ⟨by rw [e2]; exact hw, fun W hW => ?_⟩⟩
      have := hy W hW
      unfold Oper.quietAt at *
      rw [e1]; exact this
    · exact ⟨d, undef, hd, by rw [lex_keeps rest _ hne hn, hd, put_get a undef hlt], Or.inr ⟨by rw [e2]; exact hw, rfl⟩⟩
  | o' :: rest, a, hB, h, p + 1, o, hp, hs, a', hag => by
    obtain ⟨⟨d, hd, hlt, hne⟩, hB'⟩ := distB_cons hB
    have step : ∀ v, LexX P ops w A rest (a.put o'.dst v) → ∃ d v, o.dst = some d ∧ A.tmps[d]? = some v ∧ ((Region.wanted o (yielded ops a'.tmps) = true ∧ YX P o a' w v) ∨ (Region.wanted o (yielded ops a'.tmps) = false ∧ v = undef)) := fun v hn => by
      refine LexX.get rest _ (by rw [put_size]; exact hB') hn p o (by simpa using hp) hs a' fun s hs' => ?_
      rw [hag s hs']
      by_cases h1 : ∃ x ∈ rest.take p, x.dst = some s
      · rw [if_pos h1, if_pos (by obtain ⟨x, hx, he⟩ := h1; exact ⟨x, by simp [hx], he⟩)]
      · rw [if_neg h1]
        by_cases h2 : o'.dst = some s
        · rw [if_pos ⟨o', by simp, h2⟩]
          have hsd : d = s := by rw [hd] at h2; injection h2
          subst hsd
          exact lex_keeps rest _ hne hn
        · rw [if_neg (by
            rintro ⟨x, hx, he⟩
            rw [List.take_succ_cons, List.mem_cons] at hx
            rcases hx with rfl | hx
            · exact h2 he
            · exact h1 ⟨x, hx, he⟩), put_get_ne a v h2]
    rcases h with ⟨_, v, _, hn⟩ | ⟨_, hn⟩
    · exact step v hn
    · exact step undef hn

/-- an operation that makes what is new -/
def mkUpon (P : Program) (W : World) (V : Value → World → Prop) (F : Value → Prop) : Result Next → Prop
  | .ok (.value v) W' => Below W.heap.size W W' ∧ V v W' ∧ F v
  | .ok (.enter f args) W' => W' = W ∧ Calls P f args W (fun e w'' => ∃ v, e = .returned v ∧ Below W.heap.size W w'' ∧ V v w'' ∧ F v)
  | _ => False
/-- .. whose value is apart (N) from what the others made -/
def MkAt (P : Program) (ops : Array Oper) (o : Oper) (A : Act) (w : World) (V : Value → World → Prop) (Vs : Nat → Value → World → Prop) (N : Value → Value → Prop) : Prop :=
  Region.wanted o (yielded ops A.tmps) = true ∧ ∀ W, Below w.heap.size w W → mkUpon P W V (fun v => ∀ j u, Vs j u W → N v u ∧ N u v) ((execOp A.eval o).run P W)

/-- the closed fact: 'h' in the order of the text, 'k' makers -/
def Region.mkB (md : Region.Mode) (ops : Array Oper) (h k : List Nat) : Bool :=
  ((List.range h.length).all fun p => ((ops.getD (h.getD p 0) default).looksAt ops).all fun s =>
      ((List.range h.length).all fun q => (ops.getD (h.getD q 0) default).dst != some s || (if q < p then Region.waitsFor md ops (h.getD p 0) (h.getD q 0) else q == p || Region.waitsFor md ops (h.getD q 0) (h.getD p 0))) &&
      (k.all fun j => (ops.getD j default).dst != some s || Region.waitsFor md ops j (h.getD p 0))) &&
  (k.all fun i => ((ops.getD i default).looksAt ops).all fun s =>
      ((List.range h.length).all fun q => (ops.getD (h.getD q 0) default).dst != some s || Region.waitsFor md ops i (h.getD q 0)) && (k.all fun j => (ops.getD j default).dst != some s))

theorem wp_of_YX {o : Oper} {a : Act} {w W : World} {v : Value} {K : Act → World → Prop} {Q : Exit → Act → World → Prop} (hy : YX P o a w v) (hW : Below w.heap.size w W) (hK : ∀ W', Below W.heap.size W W' → K (a.put o.dst v) W') : o.wp P a W K Q := by
  have h3 := hy W hW
  unfold Oper.quietAt at h3
  unfold Oper.wp
  generalize (execOp a.eval o).run P W = r at *
  cases r with
  | ok n w' =>
    cases n <;> simp only [Oper.quietUpon] at h3 <;> simp only [Oper.upon]
    case value u =>
      obtain ⟨e1, e2⟩ := h3
      rw [e1, e2]
      exact hK _ (Below.refl _ _)
    case skip =>
      obtain ⟨e1, e2⟩ := h3
      rw [e1, ← e2]
      exact hK _ (Below.refl _ _)
    case enter f args =>
      obtain ⟨e1, hc⟩ := h3
      rw [e1]
      exact hc.mono fun e w'' ⟨he, hw''⟩ => by subst he; exact hK _ hw''
  | halt x w' => simp only [Oper.quietUpon] at h3

theorem wp_of_mk {o : Oper} {a : Act} {W : World} {V : Value → World → Prop} {F : Value → Prop} {K : Act → World → Prop} {Q : Exit → Act → World → Prop} (h3 : mkUpon P W V F ((execOp a.eval o).run P W)) (hK : ∀ v W', Below W.heap.size W W' → V v W' → F v → K (a.put o.dst v) W') : o.wp P a W K Q := by
  unfold Oper.wp
  generalize (execOp a.eval o).run P W = r at *
  cases r with
  | ok n w' =>
    cases n <;> simp only [mkUpon] at h3 <;> simp only [Oper.upon]
    case value u => exact hK _ _ h3.1 h3.2.1 h3.2.2
    case enter f args =>
      obtain ⟨e1, hc⟩ := h3
      rw [e1]
      exact hc.mono fun e w'' ⟨v, he, hw'', hv, hf⟩ => by subst he; exact hK _ _ hw'' hv hf
  | halt x w' => simp only [mkUpon] at h3

structure InvM (ops : Array Oper) (a A : Act) (w : World) (h k : List Nat) (V : Nat → Value → World → Prop) (N : Value → Value → Prop) (listed : Array Bool) (a' : Act) (W : World) : Prop where
  below : Below w.heap.size w W
  size : a'.tmps.size = a.tmps.size
  defers : a'.defers = a.defers
  hv : ∀ i ∈ h, listed.getD i false = true → ∀ s, (ops.getD i default).dst = some s → a'.tmps[s]? = A.tmps[s]?
  kv : ∀ i ∈ k, listed.getD i false = true → ∀ s, (ops.getD i default).dst = some s → ∃ v, a'.tmps[s]? = some v ∧ V i v W
  old : ∀ s, (∀ i ∈ h ++ k, (ops.getD i default).dst = some s → listed.getD i false = false) → a'.tmps[s]? = a.tmps[s]?
  ap : ∀ i ∈ k, ∀ j ∈ k, i ≠ j → listed.getD i false = true → listed.getD j false = true → ∀ s t u v, (ops.getD i default).dst = some s → (ops.getD j default).dst = some t → a'.tmps[s]? = some u → a'.tmps[t]? = some v → N u v

/-- how many of a list are not listed -/
def unl (l : List Nat) (listed : Array Bool) : Nat := (l.filter fun i => !listed.getD i true).length
theorem unl_set {l : List Nat} {listed : Array Bool} {i : Nat} (hnd : l.Nodup) (hi : i ∈ l) (hu : listed.getD i true = false) : unl l listed = unl l (listed.setIfInBounds i true) + 1 := by
  have hil : i < listed.size := by
    rcases Nat.lt_or_ge i listed.size with h | h
    · exact h
    · simp [Array.getElem?_eq_none h] at hu
  induction l with
  | nil => cases hi
  | cons x l ih =>
    rw [List.nodup_cons] at hnd
    by_cases hx : x = i
    · subst hx
      have h1 : (listed.setIfInBounds x true).getD x true = true := by simp [hil]
      have h2 : unl l (listed.setIfInBounds x true) = unl l listed := by
        unfold unl
        congr 1
        apply List.filter_congr
        intro y hy
        have hne : x ≠ y := fun e => hnd.1 (e ▸ hy)
        rw [getD_set_ne true hne]
      unfold unl at *
      rw [List.filter_cons, List.filter_cons, hu, h1]
      simp only [Bool.not_false, if_true, Bool.not_true, Bool.false_eq_true, if_false, List.length_cons]
      omega
    · have hi' : i ∈ l := by
        rcases List.mem_cons.1 hi with h | h
        · exact absurd h.symm hx
        · exact h
      have := ih hnd.2 hi'
      have e : (listed.setIfInBounds i true).getD x true = listed.getD x true := getD_set_ne true (fun e => hx e.symm)
      unfold unl at *
      rw [List.filter_cons, List.filter_cons, e]
      split <;> simp_all
theorem unl_zero {l : List Nat} {listed : Array Bool} (h : unl l listed = 0) : ∀ i ∈ l, listed.getD i true = true := by
  intro i hi
  unfold unl at h
  have := List.filter_eq_nil_iff.1 (List.eq_nil_of_length_eq_zero h) i hi
  simpa using this

/-- each one of the order waits for ones ahead of it alone -/
def Region.topB (md : Region.Mode) (ops : Array Oper) (ord : List Nat) : Bool :=
  (List.range ord.length).all fun x => (ops.getD (ord.getD x 0) default).after.all fun e => !Region.binds md e || (ord.take x).contains e.on

theorem ready_ne {ord : List Nat} {listed : Array Bool} (ht : Region.topB md ops ord = true) (hin : ∀ x, x < ord.length → ord.getD x 0 < ops.size) (hsz : listed.size = ops.size) {x : Nat} (hx : x < ord.length) (hu : listed.getD (ord.getD x 0) true = false) : Region.ready md ops listed ≠ [] := by
  induction x using Nat.strongRecOn with
  | _ x ih =>
    by_cases hall : ∀ y, y < x → listed.getD (ord.getD y 0) true = true
    · intro he
      have hm : ord.getD x 0 ∈ Region.ready md ops listed := by
        refine mem_ready.2 ⟨hu, _, getD_some (hin x hx), fun e he hb => ?_⟩
        have h1 := List.all_eq_true.1 ht x (List.mem_range.2 hx)
        have h2 := Array.all_eq_true'.1 h1 e he
        rw [hb] at h2
        simp only [Bool.not_true, Bool.false_or, List.contains_eq_mem, decide_eq_true_eq] at h2
        obtain ⟨y, hy, hye⟩ := List.mem_iff_getElem.1 h2
        have hyx : y < x := by rw [List.length_take] at hy; omega
        have hl := hall y hyx
        have e1 : ord.getD y 0 = e.on := by
          rw [List.getElem_take] at hye
          rw [List.getD_eq_getElem?_getD, List.getElem?_eq_getElem (by omega)]
          exact hye
        rw [e1] at hl
        have hes : e.on < listed.size := by rw [hsz, ← e1]; exact hin y (by omega)
        simp [hes] at hl ⊢
        exact hl
      rw [he] at hm
      cases hm
    · simp only [Classical.not_forall] at hall
      obtain ⟨y, hy, hn⟩ := hall
      exact ih y hy (by omega) (by simpa using hn)

theorem inj_of_nodup_map {α β : Type} {f : α → β} : ∀ {l : List α}, (l.map f).Nodup → ∀ x ∈ l, ∀ y ∈ l, f x = f y → x = y
  | [], _, x, hx, _, _, _ => by cases hx
  | z :: l, h, x, hx, y, hy, e => by
    rw [List.map_cons, List.nodup_cons] at h
    rcases List.mem_cons.1 hx with rfl | hx'
    · rcases List.mem_cons.1 hy with rfl | hy'
      · rfl
      · exact absurd (List.mem_map.2 ⟨y, hy', e.symm⟩) h.1
    · rcases List.mem_cons.1 hy with rfl | hy'
      · exact absurd (List.mem_map.2 ⟨x, hx', e⟩) h.1
      · exact inj_of_nodup_map h.2 x hx' y hy' e
theorem distB_get {n : Nat} {l : List Nat} (h : distB n (selOps ops l) = true) : (∀ i ∈ l, ∃ d, (ops.getD i default).dst = some d ∧ d < n) ∧ (∀ i ∈ l, ∀ j ∈ l, (ops.getD i default).dst = (ops.getD j default).dst → i = j) := by
  simp only [distB, Bool.and_eq_true, decide_eq_true_eq] at h
  constructor
  · intro i hi
    have := List.all_eq_true.1 h.1 (ops.getD i default) (List.mem_map.2 ⟨i, hi, rfl⟩)
    cases hd : (ops.getD i default).dst with
    | none => rw [hd] at this; cases this
    | some d => rw [hd] at this; exact ⟨d, rfl, by simpa using this⟩
  · intro i hi j hj e
    have h2 := h.2
    unfold selOps at h2
    rw [List.map_map] at h2
    exact inj_of_nodup_map h2 i hi j hj e

theorem InvM.step {a A : Act} {w W W' : World} {h k : List Nat} {V : Nat → Value → World → Prop} {N : Value → Value → Prop} {listed : Array Bool} {a' : Act} (inv : InvM ops a A w h k V N listed a' W) (hdist : distB a.tmps.size (selOps ops (h ++ k)) = true)
    (hV : ∀ i v W W', V i v W → Below W.heap.size W W' → V i v W') {i : Nat} (hi : i ∈ h ++ k) (hu : listed.getD i true = false) {d : Tmp} {v : Value} (hd : (ops.getD i default).dst = some d) (hW : Below W.heap.size W W')
    (hh : i ∈ h → A.tmps[d]? = some v) (hk : i ∈ k → V i v W') (hN : i ∈ k → ∀ j u, V j u W → N v u ∧ N u v) : InvM ops a A w h k V N (listed.setIfInBounds i true) (a'.put (some d) v) W' := by
  obtain ⟨h1, h2⟩ := distB_get hdist
  have hdl : d < a'.tmps.size := by
    obtain ⟨d', e, hl⟩ := h1 i hi
    rw [hd] at e; injection e with e; subst e
    rw [inv.size]; exact hl
  have ne : ∀ j ∈ h ++ k, j ≠ i → ∀ s, (ops.getD j default).dst = some s → (some d : Option Tmp) ≠ some s := fun j hj hji s hs e => hji (h2 j hj i hi (by rw [hs, hd]; exact e.symm))
  refine ⟨bt' inv.below hW inv.below.size, by rw [put_size]; exact inv.size, by rw [put_defers']; exact inv.defers, fun j hj hl s hs => ?_, fun j hj hl s hs => ?_, fun s hs => ?_, fun x hx y hy hxy hlx hly s t u z hs ht hu' hz => ?_⟩
  · by_cases hji : j = i
    · subst hji
      rw [hd] at hs; injection hs with hs; subst hs
      rw [put_get a' v hdl, hh hj]
    · rw [getD_set_ne false (fun e => hji e.symm)] at hl
      rw [put_get_ne a' v (ne j (by simp [hj]) hji s hs)]
      exact inv.hv j hj hl s hs
  · by_cases hji : j = i
    · subst hji
      rw [hd] at hs; injection hs with hs; subst hs
      exact ⟨v, put_get a' v hdl, hk hj⟩
    · rw [getD_set_ne false (fun e => hji e.symm)] at hl
      rw [put_get_ne a' v (ne j (by simp [hj]) hji s hs)]
      obtain ⟨u, e, hu⟩ := inv.kv j hj hl s hs
      exact ⟨u, e, hV _ _ _ _ hu hW⟩
  · have hil : i < listed.size := by
      rcases Nat.lt_or_ge i listed.size with hh | hh
      · exact hh
      · simp [Array.getElem?_eq_none hh] at hu
    have hds : (some d : Option Tmp) ≠ some s := fun e => by
      have := hs i hi (by rw [hd]; exact e)
      simp [hil] at this
    rw [put_get_ne a' v hds]
    refine inv.old s fun j hj hjs => ?_
    have := hs j hj hjs
    by_cases hji : j = i
    · subst hji; exact getD_both hu
    · rw [getD_set_ne false (fun e => hji e.symm)] at this; exact this
  · by_cases hxi : x = i
    · subst hxi
      have hyx : y ≠ x := fun e => hxy e.symm
      rw [hd] at hs; injection hs with hs; subst hs
      rw [put_get a' v hdl] at hu'; injection hu' with hu'; subst hu'
      rw [getD_set_ne false (fun e => hyx e.symm)] at hly
      rw [put_get_ne a' v (ne y (by simp [hy]) hyx t ht)] at hz
      obtain ⟨q, e, hq⟩ := inv.kv y hy hly t ht
      rw [hz] at e; injection e with e; subst e
      exact (hN hx y z hq).1
    · rw [getD_set_ne false (fun e => hxi e.symm)] at hlx
      rw [put_get_ne a' v (ne x (by simp [hx]) hxi s hs)] at hu'
      by_cases hyi : y = i
      · subst hyi
        rw [hd] at ht; injection ht with ht; subst ht
        rw [put_get a' v hdl] at hz; injection hz with hz; subst hz
        obtain ⟨q, e, hq⟩ := inv.kv x hx hlx s hs
        rw [hu'] at e; injection e with e; subst e
        exact (hN hy x u hq).2
      · rw [getD_set_ne false (fun e => hyi e.symm)] at hly
        rw [put_get_ne a' v (ne y (by simp [hy]) hyi t ht)] at hz
        exact inv.ap x hx y hy hxy hlx hly s t u z hs ht hu' hz

theorem wpAny_mk {Q : Exit → Act → World → Prop} {a A : Act} {w : World} {h k t : List Nat} {V : Nat → Value → World → Prop} {N : Value → Value → Prop} (hsel : Region.noSelect ops = true) (hnd : ((h ++ k) ++ t).Nodup)
    (hs : Region.sinkI md ops ((h ++ k) ++ t) (h ++ k).length = true) (hc : Region.chainI md ops ((h ++ k) ++ t) (h ++ k).length = true) (ht0 : 0 < t.length) (htop : Region.topB md ops (h ++ k) = true) (hin : ∀ x, x < ((h ++ k) ++ t).length → ((h ++ k) ++ t).getD x 0 < ops.size)
    (hmk : Region.mkB md ops h k = true) (hdist : distB a.tmps.size (selOps ops (h ++ k)) = true) (hlex : LexX P ops w A (selOps ops h) a) (hk : ∀ i ∈ k, MkAt P ops (ops.getD i default) A w (V i) V N)
    (hV : ∀ i v W W', V i v W → Below W.heap.size W W' → V i v W')
    (hL : ∀ listed a' W, HeadI md ops ((h ++ k) ++ t) (h ++ k).length listed → (∀ i ∈ h ++ k, listed.getD i true = true) → InvM ops a A w h k V N listed a' W → wpAny P md ops Q t.length listed a' W) :
    ∀ (f : Nat) (listed : Array Bool) (a' : Act) (W : World), unl (h ++ k) listed = f → HeadI md ops ((h ++ k) ++ t) (h ++ k).length listed → InvM ops a A w h k V N listed a' W → wpAny P md ops Q (f + t.length) listed a' W := by
  have hn : (h ++ k).length < ((h ++ k) ++ t).length := by rw [@List.length_append Nat (h ++ k) t]; omega
  have hord : ∀ x, x < (h ++ k).length → ((h ++ k) ++ t).getD x 0 = (h ++ k).getD x 0 := fun x hx => by
    rw [List.getD_eq_getElem?_getD, List.getElem?_append_left hx, ← List.getD_eq_getElem?_getD]
  have hin' : ∀ x, x < (h ++ k).length → (h ++ k).getD x 0 < ops.size := fun x hx => by rw [← hord x hx]; exact hin x (by omega)
  simp only [Region.mkB, Bool.and_eq_true] at hmk
  obtain ⟨mk1, mk2⟩ := hmk
  have hdh : distB a.tmps.size (selOps ops h) = true := by
    simp only [distB, Bool.and_eq_true, decide_eq_true_eq] at hdist ⊢
    unfold selOps at hdist ⊢
    rw [List.map_append, List.map_append, List.all_append, Bool.and_eq_true] at hdist
    exact ⟨hdist.1.1, (List.nodup_append.1 hdist.2).1⟩
  intro f
  induction f with
  | zero =>
    intro listed a' W hu inv iv
    rw [Nat.zero_add]
    exact hL listed a' W inv (unl_zero hu) iv
  | succ f ih =>
    intro listed a' W hu inv iv
    rw [show f + 1 + t.length = (f + t.length) + 1 by omega]
    obtain ⟨x, hx, hxu⟩ : ∃ x, x < (h ++ k).length ∧ listed.getD ((h ++ k).getD x 0) true = false := by
      have hne : ((h ++ k).filter fun i => !listed.getD i true) ≠ [] := fun e => by unfold unl at hu; rw [e] at hu; cases hu
      obtain ⟨y, hy⟩ := List.exists_mem_of_ne_nil _ hne
      rw [List.mem_filter] at hy
      obtain ⟨x, hx, he⟩ := List.mem_iff_getElem.1 hy.1
      exact ⟨x, hx, by rw [List.getD_eq_getElem?_getD, List.getElem?_eq_getElem hx]; simp only [Option.getD_some]; rw [he]; simpa using hy.2⟩
    refine ⟨fun h0 => absurd h0 (ready_ne htop hin' inv.size hx hxu), fun i hi => ?_⟩
    obtain ⟨hiu, oi, hoi, hdep⟩ := mem_ready.1 hi
    have hlt : i < ops.size := (Array.getElem?_eq_some_iff.1 hoi).1
    have ho : oi = ops.getD i default := by
      have := getD_some hlt
      rw [hoi] at this; exact Option.some.inj this
    subst ho
    obtain ⟨z, hz, hzi⟩ := inv.all i hlt hiu
    have hzn : z < (h ++ k).length := by
      rcases Nat.lt_or_ge z (h ++ k).length with h1 | h1
      · exact h1
      · exact absurd (hzi ▸ hi) (tail_waitsI hs hc hn inv _ x rfl hx (by rw [hord x hx]; exact hxu) z h1 hz)
    have him : i ∈ h ++ k := by
      rw [← hzi, hord z hzn, List.getD_eq_getElem?_getD, List.getElem?_eq_getElem hzn]
      exact List.getElem_mem _
    have listedOf : ∀ j, Region.waitsFor md ops i j = true → listed.getD j false = true := fun j hj => by
      obtain ⟨oj, hoj, e, he, hb, hon⟩ := Region.waitsFor_spec hj
      have : oj = ops.getD i default := Option.some.inj (hoj.symm.trans hoi)
      subst this
      rw [← hon]; exact hdep e he hb
    have unlistedOf : ∀ j, Region.waitsFor md ops j i = true → listed.getD j false = false := fun j hj => by
      obtain ⟨oj, hoj, e, he, hb, hon⟩ := Region.waitsFor_spec hj
      cases hl : listed.getD j false with
      | false => rfl
      | true =>
        have := inv.closed j oj hoj hl e he hb
        rw [hon, getD_both hiu] at this
        cases this
    have next : ∀ {d v W'}, (ops.getD i default).dst = some d → Below W.heap.size W W' → (i ∈ h → A.tmps[d]? = some v) → (i ∈ k → V i v W') → (i ∈ k → ∀ j u, V j u W → N v u ∧ N u v) → wpAny P md ops Q (f + t.length) (listed.setIfInBounds i true) (a'.put (some d) v) W' := fun {d v W'} hd hW h1 h2 h3 => by
      refine ih _ _ _ ?_ ?_ (iv.step hdist hV him hiu hd hW h1 h2 h3)
      · have := unl_set (List.nodup_append.1 hnd).1 him hiu
        omega
      · have := inv.set hnd hz (hzi.symm ▸ hi) hzn
        rw [hzi] at this
        exact this
    unfold wpOp
    rw [hoi]
    simp only
    by_cases hih : i ∈ h
    · obtain ⟨p, hp, hpi⟩ := List.mem_iff_getElem.1 hih
      have hpg : h.getD p 0 = i := by rw [List.getD_eq_getElem?_getD, List.getElem?_eq_getElem hp]; exact hpi
      have hag : ∀ s ∈ (ops.getD i default).looksAt ops, a'.tmps[s]? = if ∃ x ∈ (selOps ops h).take p, x.dst = some s then A.tmps[s]? else a.tmps[s]? := fun s hs' => by
        have m := List.all_eq_true.1 (List.all_eq_true.1 mk1 p (List.mem_range.2 hp)) s (by rw [hpg]; exact hs')
        rw [Bool.and_eq_true] at m
        split
        · rename_i hx
          obtain ⟨o, ho, hos⟩ := hx
          obtain ⟨q, hq, hqo⟩ := List.mem_iff_getElem.1 ho
          have hq1 : q < p := by rw [List.length_take] at hq; omega
          have hq2 : q < h.length := by omega
          have hoq : o = ops.getD (h.getD q 0) default := by
            rw [← hqo, List.getElem_take]
            unfold selOps
            rw [List.getElem_map, List.getD_eq_getElem?_getD, List.getElem?_eq_getElem hq2]; rfl
          have m1 := List.all_eq_true.1 m.1 q (List.mem_range.2 hq2)
          rw [← hoq, hos] at m1
          simp only [bne_self_eq_false, Bool.false_or, hq1, if_true, hpg] at m1
          exact iv.hv (h.getD q 0) (by rw [List.getD_eq_getElem?_getD, List.getElem?_eq_getElem hq2]; exact List.getElem_mem _) (listedOf _ m1) s (by rw [← hoq]; exact hos)
        · rename_i hx
          refine iv.old s fun j hj hjs => ?_
          rcases List.mem_append.1 hj with hj | hj
          · obtain ⟨q, hq, hqj⟩ := List.mem_iff_getElem.1 hj
            have hqg : h.getD q 0 = j := by rw [List.getD_eq_getElem?_getD, List.getElem?_eq_getElem hq]; exact hqj
            have m1 := List.all_eq_true.1 m.1 q (List.mem_range.2 hq)
            rw [hqg, hjs] at m1
            by_cases hqp : q < p
            · exfalso
              refine hx ⟨ops.getD j default, ?_, hjs⟩
              refine List.mem_iff_getElem.2 ⟨q, by unfold selOps; simp; omega, ?_⟩
              rw [List.getElem_take]
              unfold selOps
              rw [List.getElem_map, hqj]
            · simp only [bne_self_eq_false, Bool.false_or, hqp, if_false, Bool.or_eq_true, beq_iff_eq, hpg] at m1
              rcases m1 with e | m1
              · subst e
                have : j = i := by rw [← hqj, hpi]
                subst this; exact getD_both hiu
              · exact unlistedOf j m1
          · have m2 := List.all_eq_true.1 m.2 j hj
            rw [hjs, hpg] at m2
            simp only [bne_self_eq_false, Bool.false_or] at m2
            exact unlistedOf j m2
      obtain ⟨d, v, hd, hv, hcase⟩ := LexX.get (selOps ops h) a hdh hlex p (ops.getD i default) (by unfold selOps; rw [List.getElem?_map, List.getElem?_eq_getElem hp, hpi]; rfl) (fun cs b => Region.noSelect_spec hsel i _ cs b hoi) a' hag
      have hno : i ∈ k → False := fun hk' => by
        have := (List.nodup_append.1 (List.nodup_append.1 hnd).1).2.2 i hih i hk'
        exact this rfl
      rcases hcase with ⟨hw, hy⟩ | ⟨hw, rfl⟩
      · rw [if_pos hw]
        refine .inl (wp_of_YX hy iv.below fun W' hW' => ?_)
        rw [hd]
        exact next hd hW' (fun _ => hv) (fun hk' => (hno hk').elim) (fun hk' => (hno hk').elim)
      · rw [if_neg (by rw [hw]; simp), hd]
        exact next hd (Below.refl _ _) (fun _ => hv) (fun hk' => (hno hk').elim) (fun hk' => (hno hk').elim)
    · have hik : i ∈ k := (List.mem_append.1 him).resolve_left hih
      obtain ⟨hw, hm⟩ := hk i hik
      have hag : ∀ s ∈ (ops.getD i default).looksAt ops, a'.tmps[s]? = A.tmps[s]? := fun s hs' => by
        have m := List.all_eq_true.1 (List.all_eq_true.1 mk2 i hik) s hs'
        rw [Bool.and_eq_true] at m
        by_cases hx : ∃ j ∈ h, (ops.getD j default).dst = some s
        · obtain ⟨j, hj, hjs⟩ := hx
          obtain ⟨q, hq, hqj⟩ := List.mem_iff_getElem.1 hj
          have hqg : h.getD q 0 = j := by rw [List.getD_eq_getElem?_getD, List.getElem?_eq_getElem hq]; exact hqj
          have m1 := List.all_eq_true.1 m.1 q (List.mem_range.2 hq)
          rw [hqg, hjs] at m1
          simp only [bne_self_eq_false, Bool.false_or] at m1
          exact iv.hv j hj (listedOf _ m1) s hjs
        · rw [lex_keeps (selOps ops h) a (fun o ho e => by
            unfold selOps at ho
            obtain ⟨j, hj, rfl⟩ := List.mem_map.1 ho
            exact hx ⟨j, hj, e⟩) hlex]
          refine iv.old s fun j hj hjs => ?_
          rcases List.mem_append.1 hj with hj | hj
          · exact absurd ⟨j, hj, hjs⟩ hx
          · have := List.all_eq_true.1 m.2 j hj
            rw [hjs] at this
            simp at this
      obtain ⟨e1, e2⟩ := looks_same (fun cs b => Region.noSelect_spec hsel i _ cs b hoi) hag
      obtain ⟨d, hd, _⟩ := (distB_get hdist).1 i him
      rw [if_pos (by rw [e2]; exact hw)]
      refine .inl (wp_of_mk (V := V i) (by rw [e1]; exact hm W iv.below) fun v W' hW' hv hf => ?_)
      rw [hd]
      exact next hd hW' (fun hh => absurd hh hih) (fun _ => hv) (fun _ => hf)

/-- the tail, whatever the makers made -/
def TailX (P : Program) (ops : Array Oper) (Q : Exit → Act → World → Prop) (w : World) (t : List Oper) (V : Nat → Value → World → Prop) (N : Value → Value → Prop) : List Nat → List Value → (World → Prop) → Act → Prop
  | [], _, C, A => ∀ W, Below w.heap.size w W → C W → wpList P ops Q t A W
  | i :: ks, l, C, A => ∀ v, (∀ u ∈ l, N u v) → TailX P ops Q w t V N ks (v :: l) (fun W => C W ∧ V i v W) (A.put (ops.getD i default).dst v)

theorem nodup_le : ∀ (l m : List Nat), l.Nodup → (∀ x ∈ l, x ∈ m) → l.length ≤ m.length
  | [], m, _, _ => Nat.zero_le _
  | x :: l, m, hn, hs => by
    rw [List.nodup_cons] at hn
    have hx := hs x (by simp)
    have := nodup_le l (m.erase x) hn.2 fun y hy => (List.mem_erase_of_ne (fun e => hn.1 (by rw [← e]; exact hy))).2 (hs y (by simp [hy]))
    have h2 := List.length_erase_of_mem hx
    have h3 : 0 < m.length := List.length_pos_of_mem hx
    rw [List.length_cons]
    omega
theorem act_ext {a b : Act} (h1 : a.tmps.size = b.tmps.size) (h2 : a.defers = b.defers) (h : ∀ s : Nat, a.tmps[s]? = b.tmps[s]?) : a = b := by
  obtain ⟨at', ad⟩ := a
  obtain ⟨bt', bd⟩ := b
  obtain rfl : at' = bt' := Array.ext_getElem? h
  obtain rfl : ad = bd := h2
  rfl

theorem tail_of {Q : Exit → Act → World → Prop} {w : World} {t : List Oper} {V : Nat → Value → World → Prop} {N : Value → Value → Prop} {a' : Act} {W : World} (hW : Below w.heap.size w W) :
    ∀ (ks : List Nat) (l : List Value) (C : World → Prop) (B : Act), B.tmps.size = a'.tmps.size → B.defers = a'.defers → (∀ i ∈ ks, ∃ d v, (ops.getD i default).dst = some d ∧ a'.tmps[d]? = some v ∧ V i v W ∧ (∀ u ∈ l, N u v)) →
      (∀ s, (∀ i ∈ ks, (ops.getD i default).dst ≠ some s) → a'.tmps[s]? = B.tmps[s]?) → ks.Nodup → (∀ i ∈ ks, ∀ j ∈ ks, i ≠ j → ∀ s t u v, (ops.getD i default).dst = some s → (ops.getD j default).dst = some t → a'.tmps[s]? = some u → a'.tmps[t]? = some v → N u v) → C W → TailX P ops Q w t V N ks l C B → wpList P ops Q t a' W
  | [], l, C, B, h1, h2, _, h4, _, _, hC, h => by
    have : a' = B := act_ext h1.symm h2.symm fun s => h4 s (fun i hi => by cases hi)
    rw [this]
    exact h W hW hC
  | i :: ks, l, C, B, h1, h2, h3, h4, hnd, hap, hC, h => by
    obtain ⟨d, v, hd, hv, hV, hN⟩ := h3 i (by simp)
    rw [List.nodup_cons] at hnd
    refine tail_of hW ks (v :: l) _ _ (by rw [put_size]; exact h1) (by rw [put_defers']; exact h2) (fun j hj => ?_) (fun s hs => ?_) hnd.2 (fun x hx y hy => hap x (by simp [hx]) y (by simp [hy])) ⟨hC, hV⟩ (h v hN)
    · obtain ⟨d', v', hd', hv', hV', hN'⟩ := h3 j (by simp [hj])
      refine ⟨d', v', hd', hv', hV', fun u hu => ?_⟩
      rcases List.mem_cons.1 hu with rfl | hu
      · exact hap i (by simp) j (by simp [hj]) (fun e => hnd.1 (e ▸ hj)) d d' _ _ hd hd' hv hv'
      · exact hN' u hu
    · by_cases e : (ops.getD i default).dst = some s
      · have : d = s := by rw [hd] at e; injection e
        subst this
        have hl : d < B.tmps.size := by rw [h1]; exact (Array.getElem?_eq_some_iff.1 hv).1
        rw [hd, put_get B v hl, hv]
      · rw [put_get_ne B v e]
        exact h4 s fun j hj => by
          rcases List.mem_cons.1 hj with rfl | hj
          · exact e
          · exact hs j hj

def MkAll (P : Program) (ops : Array Oper) (A : Act) (w : World) (V : Nat → Value → World → Prop) (N : Value → Value → Prop) : List Nat → Prop
  | [] => True
  | i :: ks => MkAt P ops (ops.getD i default) A w (V i) V N ∧ MkAll P ops A w V N ks
theorem MkAll.get {A : Act} {w : World} {V : Nat → Value → World → Prop} {N : Value → Value → Prop} : ∀ {k : List Nat}, MkAll P ops A w V N k → ∀ i ∈ k, MkAt P ops (ops.getD i default) A w (V i) V N
  | x :: ks, h, i, hi => by
    rcases List.mem_cons.1 hi with rfl | hi
    · exact h.1
    · exact MkAll.get h.2 i hi

/-- the closed fact of such a region -/
def Region.planM (md : Region.Mode) (ops : Array Oper) (n : Nat) (h k t : List Nat) : Bool :=
  Region.noSelect ops && decide ((h ++ k) ++ t).Nodup && decide (0 < t.length) && Region.sinkI md ops ((h ++ k) ++ t) (h ++ k).length && Region.chainI md ops ((h ++ k) ++ t) (h ++ k).length &&
  Region.topB md ops (h ++ k) && (((h ++ k) ++ t).all fun i => decide (i < ops.size)) && Region.mkB md ops h k && distB n (selOps ops (h ++ k)) &&
  ((List.range ops.size).all fun i => ((h ++ k) ++ t).contains i) && Region.seqI md ops t ((Array.range ops.size).map fun i => (h ++ k).contains i)

/-- **THE REGION**: 'h' in the order of the text, each of one value in whatever world comes, making new blocks alone; 'k' makers; 't' the tail in its one order. A: the act behind h. -/
theorem wp_region_mk {id : Nat} {Q : Exit → Act → World → Prop} {a : Act} {w : World} {l : List Oper} (h k t : List Nat) (n : Nat) (V : Nat → Value → World → Prop) (N : Value → Value → Prop) (hm : P.follows .mixedOrders = true) (hB : Region.planM .any l.toArray n h k t = true) (hsz : a.tmps.size = n) (A : Act)
    (H : ∀ W, Below w.heap.size w W → wpQuiet P l.toArray (fun w' => ∃ x, w' = W.ext x) (· = A) (h.map (l.getD · default)) a)
    (hV : ∀ i v W W', V i v W → Below W.heap.size W W' → V i v W')
    (hk : MkAll P l.toArray A w V N k)
    (hT : TailX P l.toArray Q w (t.map (l.getD · default)) V N k [] (fun _ => True) A) :
    (Code.region id l.toArray true).wp P Q a w := by
  have esel : ∀ is, selOps l.toArray is = is.map (l.getD · default) := fun is => by
    unfold selOps
    apply List.map_congr_left
    intro i _
    simp [Array.getD, List.getD_eq_getElem?_getD]
    split <;> rename_i h
    · rw [List.getElem?_eq_getElem h]; rfl
    · rw [List.getElem?_eq_none (by omega)]; rfl
  simp only [Region.planM, Bool.and_eq_true, decide_eq_true_eq] at hB
  obtain ⟨⟨⟨⟨⟨⟨⟨⟨⟨⟨hsel, hnd⟩, ht0⟩, hs⟩, hc⟩, htop⟩, hin⟩, hmk⟩, hdist⟩, hall⟩, hseq⟩ := hB
  subst hsz
  have hin' : ∀ x, x < ((h ++ k) ++ t).length → ((h ++ k) ++ t).getD x 0 < l.toArray.size := fun x hx => by
    have := List.all_eq_true.1 hin (((h ++ k) ++ t).getD x 0) (by rw [List.getD_eq_getElem?_getD, List.getElem?_eq_getElem hx]; exact List.getElem_mem _)
    simpa using this
  have hdh : distB a.tmps.size (selOps l.toArray h) = true := by
    have hdist' := hdist
    simp only [distB, Bool.and_eq_true, decide_eq_true_eq] at hdist' ⊢
    unfold selOps at hdist' ⊢
    rw [List.map_append, List.map_append, List.all_append, Bool.and_eq_true] at hdist'
    exact ⟨hdist'.1.1, (List.nodup_append.1 hdist'.2).1⟩
  have hlex : LexX P l.toArray w A (selOps l.toArray h) a := lex_of _ _ hdh fun W hW => by rw [esel]; exact H W hW
  obtain ⟨sz1, df1⟩ := lex_size _ _ hlex
  refine wp_region_any hm ?_
  have hsz0 : ∀ i, (Array.replicate l.toArray.size false).getD i false = false := fun i => getD_replicate_false _ _
  have hlen : unl (h ++ k) (Array.replicate l.toArray.size false) + t.length = l.toArray.size := by
    have h1 : unl (h ++ k) (Array.replicate l.toArray.size false) = (h ++ k).length := by
      unfold unl
      rw [List.filter_eq_self.2]
      intro i hi
      obtain ⟨x, hx, he⟩ := List.mem_iff_getElem.1 hi
      have := hin' x (by rw [@List.length_append Nat (h ++ k) t]; omega)
      rw [List.getD_eq_getElem?_getD, List.getElem?_append_left hx, List.getElem?_eq_getElem hx] at this
      simp only [Option.getD_some, he] at this
      have h2 : i < l.length := by simpa using this
      simp [h2]
    rw [h1, ← List.length_append]
    have h3 : ((h ++ k) ++ t).length ≤ (List.range l.toArray.size).length := nodup_le _ _ hnd fun i hi => by
      obtain ⟨x, hx, he⟩ := List.mem_iff_getElem.1 hi
      have := hin' x hx
      rw [List.getD_eq_getElem?_getD, List.getElem?_eq_getElem hx] at this
      simp only [Option.getD_some, he] at this
      exact List.mem_range.2 this
    have h4 : (List.range l.toArray.size).length ≤ ((h ++ k) ++ t).length := nodup_le _ _ List.nodup_range fun i hi => by
      have := List.all_eq_true.1 hall i hi
      simpa using this
    rw [List.length_range] at h3 h4
    omega
  have hFIN : ∀ (listed : Array Bool) (a' : Act) (W : World), HeadI .any l.toArray ((h ++ k) ++ t) (h ++ k).length listed → (∀ i ∈ h ++ k, listed.getD i true = true) → InvM l.toArray a A w h k V N listed a' W → wpAny P .any l.toArray Q t.length listed a' W := by
    intro listed a' W inv hl iv
    have hlist : listed = (Array.range l.toArray.size).map fun i => (h ++ k).contains i := by
      apply Array.ext
      · rw [inv.size]; simp
      · intro i h1 h2
        have hi : i < l.toArray.size := by rw [← inv.size]; exact h1
        simp only [Array.getElem_map, Array.getElem_range]
        by_cases hm : i ∈ h ++ k
        · have := hl i hm
          simp [h1] at this
          rw [this]
          symm
          simpa using hm
        · have hm' := List.all_eq_true.1 hall i (List.mem_range.2 hi)
          simp only [List.contains_eq_mem, decide_eq_true_eq] at hm'
          have ht' : i ∈ t := (List.mem_append.1 hm').resolve_left hm
          obtain ⟨y, hy, he⟩ := List.mem_iff_getElem.1 ht'
          have := inv.tail ((h ++ k).length + y) (by omega) (by rw [@List.length_append Nat (h ++ k) t]; omega)
          rw [List.getD_eq_getElem?_getD, List.getElem?_append_right (by omega), show (h ++ k).length + y - (h ++ k).length = y by omega, List.getElem?_eq_getElem hy] at this
          simp only [Option.getD_some, he] at this
          simp [h1] at this
          rw [this]
          symm
          simp only [List.contains_eq_mem, decide_eq_false_iff_not]
          exact hm
    have lst : ∀ i ∈ h ++ k, listed.getD i false = true := fun i hi => by
      have := hl i hi
      have hii := List.all_eq_true.1 hin i (by simp only [List.mem_append] at hi ⊢; exact Or.inl hi)
      have hii' : i < listed.size := by rw [inv.size]; simpa using hii
      simp [hii'] at this ⊢; exact this
    refine wpAny_of_seqI t listed a' W (fun i hi => ?_) (by rw [hlist]; exact hseq) ?_
    · have := List.all_eq_true.1 hin i (by simp [hi])
      simpa using this
    · rw [esel]
      refine tail_of iv.below k [] (fun _ => True) A (by rw [sz1, iv.size]) (by rw [df1, iv.defers]) (fun i hi => ?_) (fun s hs' => ?_) (List.nodup_append.1 (List.nodup_append.1 hnd).1).2.1 (fun x hx y hy hxy => iv.ap x hx y hy hxy (lst x (by simp [hx])) (lst y (by simp [hy]))) trivial hT
      · obtain ⟨d, hd, _⟩ := (distB_get hdist).1 i (by simp [hi])
        obtain ⟨v, e, hv⟩ := iv.kv i hi (by
          have := hl i (by simp [hi])
          have hii := List.all_eq_true.1 hin i (by simp [hi])
          have hii' : i < listed.size := by rw [inv.size]; simpa using hii
          simp [hii'] at this ⊢; exact this) d hd
        exact ⟨d, v, hd, e, hv, fun u hu => by cases hu⟩
      · by_cases hx : ∃ j ∈ h, (l.toArray.getD j default).dst = some s
        · obtain ⟨j, hj, hjs⟩ := hx
          refine iv.hv j hj ?_ s hjs
          have := hl j (by simp [hj])
          have hii := List.all_eq_true.1 hin j (by simp [hj])
          have hii' : j < listed.size := by rw [inv.size]; simpa using hii
          simp [hii'] at this ⊢; exact this
        · rw [lex_keeps (selOps l.toArray h) a (fun o ho e => by
            unfold selOps at ho
            obtain ⟨j, hj, rfl⟩ := List.mem_map.1 ho
            exact hx ⟨j, hj, e⟩) hlex]
          refine iv.old s fun j hj hjs => ?_
          rcases List.mem_append.1 hj with hj | hj
          · exact absurd ⟨j, hj, hjs⟩ hx
          · exact absurd hjs (hs' j hj)
  have hHD : HeadI .any l.toArray ((h ++ k) ++ t) (h ++ k).length (Array.replicate l.toArray.size false) := by
    refine ⟨by simp, fun j oj hj hl => ?_, fun i hi hl => ?_, fun y hy hyl => ?_, hin'⟩
    · rw [hsz0 j] at hl; cases hl
    · have := List.all_eq_true.1 hall i (List.mem_range.2 hi)
      simp only [List.contains_eq_mem, decide_eq_true_eq] at this
      obtain ⟨x, hx, he⟩ := List.mem_iff_getElem.1 this
      exact ⟨x, hx, by rw [List.getD_eq_getElem?_getD, List.getElem?_eq_getElem hx]; exact he⟩
    · have := hin' y hyl
      have h2 : ((h ++ k) ++ t).getD y 0 < l.length := by simpa using this
      exact getD_in (by simpa using h2) (hsz0 _)
  have hIV : InvM l.toArray a A w h k V N (Array.replicate l.toArray.size false) a w.drew := by
    exact ⟨(Below.refl w.heap.size w).drew, rfl, rfl, fun i hi hl => (by rw [hsz0 i] at hl; cases hl), fun i hi hl => (by rw [hsz0 i] at hl; cases hl), fun s _ => rfl, fun i hi j hj hij hl => (by rw [hsz0 i] at hl; cases hl)⟩
  have key := wpAny_mk (Q := Q) (A := A) (w := w) (h := h) (k := k) (V := V) hsel hnd hs hc ht0 htop hin' hmk hdist hlex hk.get hV hFIN _ (Array.replicate l.toArray.size false) a w.drew rfl hHD hIV
  rw [hlen] at key
  exact key
/-- .. in the form in which a walk finds A out: 'refine wp_region_mkE ..; apply Exists.intro; refine ⟨fun X hX => ?_, ?_, ?_⟩' -/
theorem wp_region_mkE {id : Nat} {Q : Exit → Act → World → Prop} {a : Act} {w : World} {l : List Oper} (h k t : List Nat) (n : Nat) (V : Nat → Value → World → Prop) (N : Value → Value → Prop) (hm : P.follows .mixedOrders = true) (hB : Region.planM .any l.toArray n h k t = true) (hsz : a.tmps.size = n)
    (hV : ∀ i v W W', V i v W → Below W.heap.size W W' → V i v W')
    (H : ∃ A, (∀ W, Below w.heap.size w W → wpQuiet P l.toArray (fun w' => ∃ x, w' = W.ext x) (· = A) (h.map (l.getD · default)) a) ∧ MkAll P l.toArray A w V N k ∧ TailX P l.toArray Q w (t.map (l.getD · default)) V N k [] (fun _ => True) A) :
    (Code.region id l.toArray true).wp P Q a w := by
  obtain ⟨A, h1, h2, h3⟩ := H
  exact wp_region_mk h k t n V N hm hB hsz A h1 hV h2 h3
/-- a new block, as a maker's value -/
def VA (B : Nat) (T : TypeId) (cs : Array Value) (v : Value) (W : World) : Prop := ∃ b, v = .pointer (some ⟨b, 0, none⟩) ∧ B ≤ b ∧ Blk W b T cs
theorem VA.mono {B : Nat} {T : TypeId} {cs : Array Value} {v : Value} {W W' : World} (h : VA B T cs v W) (hb : Below W.heap.size W W') : VA B T cs v W' := by
  obtain ⟨b, e, hB, hk⟩ := h
  exact ⟨b, e, hB, hk.bel hb⟩
/-- pointers to blocks that were there -/
theorem VA.ne {B : Nat} {T : TypeId} {cs : Array Value} {v : Value} {W : World} (h : VA B T cs v W) : Value.pointer (some ⟨W.heap.size, 0, none⟩) ≠ v ∧ v ≠ .pointer (some ⟨W.heap.size, 0, none⟩) := by
  obtain ⟨b, rfl, _, hk⟩ := h
  have := hk.lt
  constructor
  · intro e; injection e with e; injection e with e; injection e with e; omega
  · intro e; injection e with e; injection e with e; injection e with e; omega
theorem mk_alloc {w : World} {A : Act} {o : Oper} {T : TypeId} {cs : Array Value} {Vs : Nat → Value → World → Prop} (hg : o.guard = none) (hr : ∀ W : World, (execOp A.eval o).run P W = .ok (.value (.pointer (some ⟨W.heap.size, 0, none⟩))) (W.alloc (.cells cs T)))
    (hn : ∀ j u W, Vs j u W → Value.pointer (some ⟨W.heap.size, 0, none⟩) ≠ u ∧ u ≠ .pointer (some ⟨W.heap.size, 0, none⟩)) : MkAt P ops o A w (VA w.heap.size T cs) Vs (· ≠ ·) := by
  refine ⟨by simp [Region.wanted, hg], fun W hW => ?_⟩
  rw [hr W]
  exact ⟨ba (Below.refl _ _) _, ⟨W.heap.size, rfl, hW.size, Blk.new W T cs⟩, fun j u hu => hn j u W hu⟩
end
end Go.Proofs.Ytoifkfhbinfplaa
