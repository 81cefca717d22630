/- Texts laid together: Reg, Wid1, Wid2, Wid3. -/
import Derived.Test.YtkknnnkbegigeaaProg
import Derived.WalkMore
import Derived.Test.YtkknnnkbegigeaaVc1
/- A region that draws its order, whose operations leave the world as it was but for new blocks, some of which make what is new: one walk serves every order. -/
namespace Go.Proofs.Ytkknnnkbegigeaa
open Go Go.RowKit
set_option linter.unusedVariables false
set_option linter.unusedSimpArgs false

section
variable {P : Program} {ops : Array Oper} {md : Region.Mode}

theorem looks_same {o : Oper} (hs : ∀ cs b, o.op ≠ .select cs b) {a b : Act} (h : ∀ s ∈ o.looksAt ops, a.tmps[s]? = b.tmps[s]?) :
    execOp a.eval o = execOp b.eval o ∧ Region.wanted o (yielded ops a.tmps) = Region.wanted o (yielded ops b.tmps) := by
  constructor
  · refine execOp_congr o hs fun x hx => ?_
    cases x with
    | tmp t =>
      have := h t (List.mem_append_left _ (List.mem_filterMap.2 ⟨.tmp t, by simpa using hx, rfl⟩))
      simp only [Act.eval, Array.getD_eq_getD_getElem?, this]
    | _ => rfl
  · unfold Region.wanted
    cases hg : o.guard with
    | none => rfl
    | some gw =>
      obtain ⟨g, want⟩ := gw
      have hy : yielded ops a.tmps g = yielded ops b.tmps g := by
        unfold yielded
        cases ht : (ops[g]?).bind (·.dst) with
        | none => rfl
        | some t =>
          have := h t (by simp [Oper.looksAt, hg, ht])
          simp only [Option.bind_some, this]
      simp only [hy]

/-- one value, in every world behind w; new blocks alone -/
def YX (P : Program) (o : Oper) (a : Act) (w : World) (v : Value) : Prop := ∀ W, Below w.heap.size w W → o.quietAt P a (fun w' => Below W.heap.size W w') W v

def LexX (P : Program) (ops : Array Oper) (w : World) (A : Act) : List Oper → Act → Prop
  | [], a => a = A
  | o :: rest, a => (Region.wanted o (yielded ops a.tmps) = true ∧ ∃ v, YX P o a w v ∧ LexX P ops w A rest (a.put o.dst v)) ∨ (Region.wanted o (yielded ops a.tmps) = false ∧ LexX P ops w A rest (a.put o.dst undef))

/-- the slots are there, and each is another one -/
def distB (n : Nat) (l : List Oper) : Bool := (l.all fun o => match o.dst with | some d => decide (d < n) | none => false) && decide (l.map (·.dst)).Nodup

theorem distB_cons {n : Nat} {o : Oper} {l : List Oper} (h : distB n (o :: l) = true) : (∃ d, o.dst = some d ∧ d < n ∧ ∀ x ∈ l, x.dst ≠ some d) ∧ distB n l = true := by
  simp only [distB, List.all_cons, List.map_cons, List.nodup_cons, Bool.and_eq_true, decide_eq_true_eq] at h
  obtain ⟨⟨h1, h2⟩, h3, h4⟩ := h
  cases hd : o.dst with
  | none => rw [hd] at h1; cases h1
  | some d =>
    rw [hd] at h1 h3
    refine ⟨⟨d, rfl, by simpa using h1, fun x hx he => h3 (List.mem_map.2 ⟨x, hx, he⟩)⟩, ?_⟩
    simp only [distB, Bool.and_eq_true, decide_eq_true_eq]
    exact ⟨h2, h4⟩

theorem put_size (a : Act) (d : Option Tmp) (v : Value) : (a.put d v).tmps.size = a.tmps.size := by cases d <;> simp [Act.put]
theorem put_defers' (a : Act) (d : Option Tmp) (v : Value) : (a.put d v).defers = a.defers := by cases d <;> rfl
theorem put_get_ne (a : Act) {d : Option Tmp} (v : Value) {s : Tmp} (h : d ≠ some s) : (a.put d v).tmps[s]? = a.tmps[s]? := by
  cases d with
  | none => rfl
  | some d => simp only [Act.put]; rw [Array.getElem?_setIfInBounds_ne (by intro e; subst e; exact h rfl)]
theorem put_get (a : Act) {d : Tmp} (v : Value) (h : d < a.tmps.size) : (a.put (some d) v).tmps[d]? = some v := by simp [Act.put, h]

theorem quiet_keeps {C : World → Prop} {A : Act} {s : Tmp} : ∀ (l : List Oper) (b : Act), (∀ x ∈ l, x.dst ≠ some s) → wpQuiet P ops C (· = A) l b → A.tmps[s]? = b.tmps[s]?
  | [], b, _, h => by rw [show b = A from h]
  | o :: rest, b, hd, h => by
    simp only [wpQuiet] at h
    have h1 := hd o (by simp)
    have h2 : ∀ x ∈ rest, x.dst ≠ some s := fun x hx => hd x (by simp [hx])
    split at h
    · obtain ⟨v, _, hn⟩ := h
      rw [quiet_keeps rest _ h2 hn, put_get_ne b v h1]
    · rw [quiet_keeps rest _ h2 h, put_get_ne b undef h1]
theorem lex_keeps {w : World} {A : Act} {s : Tmp} : ∀ (l : List Oper) (b : Act), (∀ x ∈ l, x.dst ≠ some s) → LexX P ops w A l b → A.tmps[s]? = b.tmps[s]?
  | [], b, _, h => by rw [show b = A from h]
  | o :: rest, b, hd, h => by
    have h1 := hd o (by simp)
    have h2 : ∀ x ∈ rest, x.dst ≠ some s := fun x hx => hd x (by simp [hx])
    rcases h with ⟨_, v, _, hn⟩ | ⟨_, hn⟩
    · rw [lex_keeps rest _ h2 hn, put_get_ne b v h1]
    · rw [lex_keeps rest _ h2 hn, put_get_ne b undef h1]
theorem lex_size {w : World} {A : Act} : ∀ (l : List Oper) (b : Act), LexX P ops w A l b → A.tmps.size = b.tmps.size ∧ A.defers = b.defers
  | [], b, h => by rw [show b = A from h]; exact ⟨rfl, rfl⟩
  | o :: rest, b, h => by
    rcases h with ⟨_, v, _, hn⟩ | ⟨_, hn⟩
    · have := lex_size rest _ hn
      rw [put_size, put_defers'] at this; exact this
    · have := lex_size rest _ hn
      rw [put_size, put_defers'] at this; exact this

theorem quietAt_below {o : Oper} {a : Act} {W : World} {v : Value} (h : o.quietAt P a (fun w' => ∃ x, w' = W.ext x) W v) : o.quietAt P a (fun w' => Below W.heap.size W w') W v := by
  unfold Oper.quietAt at *
  generalize (execOp a.eval o).run P W = r at *
  cases r with
  | ok n w' =>
    cases n <;> simp only [Oper.quietUpon] at h ⊢
    case value u => exact h
    case skip => exact h
    case enter f args => exact ⟨h.1, h.2.mono fun e w'' ⟨he, x, hx⟩ => ⟨he, by rw [hx]; exact ext_below W x⟩⟩
  | halt x w' => simp only [Oper.quietUpon] at h

theorem lex_of {w : World} {A : Act} : ∀ (l : List Oper) (a : Act), distB a.tmps.size l = true → (∀ W, Below w.heap.size w W → wpQuiet P ops (fun w' => ∃ x, w' = W.ext x) (· = A) l a) → LexX P ops w A l a
  | [], a, _, h => h w (Below.refl _ _)
  | o :: rest, a, hB, h => by
    obtain ⟨⟨d, hd, hlt, hne⟩, hB'⟩ := distB_cons hB
    by_cases hw : Region.wanted o (yielded ops a.tmps) = true
    · have h' : ∀ W, Below w.heap.size w W → o.quiet P a (fun w' => ∃ x, w' = W.ext x) (wpQuiet P ops (fun w' => ∃ x, w' = W.ext x) (· = A) rest) := fun W hW => by
        have := h W hW
        simp only [wpQuiet, if_pos hw] at this
        exact this
      have key : ∀ W, Below w.heap.size w W → ∃ v, o.quietAt P a (fun w' => Below W.heap.size W w') W v ∧ wpQuiet P ops (fun w' => ∃ x, w' = W.ext x) (· = A) rest (a.put o.dst v) ∧ A.tmps[d]? = some v := fun W hW => by
        obtain ⟨v, hq, hn⟩ := h' W hW
        refine ⟨v, quietAt_below (hq W ⟨W, (ext_of (Below.refl _ _)).symm⟩), hn, ?_⟩
        rw [quiet_keeps rest _ hne hn, hd, put_get a v hlt]
      obtain ⟨v0, _, _, e0⟩ := key w (Below.refl _ _)
      refine Or.inl ⟨hw, v0, fun W hW => ?_, lex_of rest _ (by rw [put_size]; exact hB') fun W hW => ?_⟩
      · obtain ⟨v, hq, _, e⟩ := key W hW
        rw [e0] at e
        injection e with e
        rw [e]; exact hq
      · obtain ⟨v, _, hn, e⟩ := key W hW
        rw [e0] at e
        injection e with e
        rw [e]; exact hn
    · refine Or.inr ⟨by simpa using hw, lex_of rest _ (by rw [put_size]; exact hB') fun W hW => ?_⟩
      have := h W hW
      simp only [wpQuiet, if_neg hw] at this
      exact this

/-- what the walk in the order of the text tells of its p-th operation, at any act that agrees with it in what the operation looks at -/
theorem LexX.get {w : World} {A : Act} : ∀ (l : List Oper) (a : Act), distB a.tmps.size l = true → LexX P ops w A l a → ∀ (p : Nat) (o : Oper), l[p]? = some o → (∀ cs b, o.op ≠ .select cs b) → ∀ a' : Act,
    (∀ s ∈ o.looksAt ops, a'.tmps[s]? = if ∃ x ∈ l.take p, x.dst = some s then A.tmps[s]? else a.tmps[s]?) →
    ∃ d v, o.dst = some d ∧ A.tmps[d]? = some v ∧ ((Region.wanted o (yielded ops a'.tmps) = true ∧ YX P o a' w v) ∨ (Region.wanted o (yielded ops a'.tmps) = false ∧ v = undef))
  | [], a, _, _, p, o, hp, _, _, _ => by simp at hp
  | o' :: rest, a, hB, h, 0, o, hp, hs, a', hag => by
    obtain ⟨⟨d, hd, hlt, hne⟩, hB'⟩ := distB_cons hB
    have : o' = o := by simpa using hp
    subst this
    have hag' : ∀ s ∈ o'.looksAt ops, a'.tmps[s]? = a.tmps[s]? := fun s hs' => by simpa using hag s hs'
    obtain ⟨e1, e2⟩ := looks_same hs hag'
    rcases h with ⟨hw, v, hy, hn⟩ | ⟨hw, hn⟩
    · refine ⟨d, v, hd, by rw [lex_keeps rest _ hne hn, hd, put_get a v hlt], Or.inl ⟨by rw [e2]; exact hw, fun W hW => ?_⟩⟩
      have := hy W hW
      unfold Oper.quietAt at *
      rw [e1]; exact this
    · exact ⟨d, undef, hd, by rw [lex_keeps rest _ hne hn, hd, put_get a undef hlt], Or.inr ⟨by rw [e2]; exact hw, rfl⟩⟩
  | o' :: rest, a, hB, h, p + 1, o, hp, hs, a', hag => by
    obtain ⟨⟨d, hd, hlt, hne⟩, hB'⟩ := distB_cons hB
    have step : ∀ v, LexX P ops w A rest (a.put o'.dst v) → ∃ d v, o.dst = some d ∧ A.tmps[d]? = some v ∧ ((Region.wanted o (yielded ops a'.tmps) = true ∧ YX P o a' w v) ∨ (Region.wanted o (yielded ops a'.tmps) = false ∧ v = undef)) := fun v hn => by
      refine LexX.get rest _ (by rw [put_size]; exact hB') hn p o (by simpa using hp) hs a' fun s hs' => ?_
      rw [hag s hs']
      by_cases h1 : ∃ x ∈ rest.take p, x.dst = some s
      · rw [if_pos h1, if_pos (by obtain ⟨x, hx, he⟩ := h1; exact ⟨x, by simp [hx], he⟩)]
      · rw [if_neg h1]
        by_cases h2 : o'.dst = some s
        · rw [if_pos ⟨o', by simp, h2⟩]
          have hsd : d = s := by rw [hd] at h2; injection h2
          subst hsd
          exact lex_keeps rest _ hne hn
        · rw [if_neg (by
            rintro ⟨x, hx, he⟩
            rw [List.take_succ_cons, List.mem_cons] at hx
            rcases hx with rfl | hx
            · exact h2 he
            · exact h1 ⟨x, hx, he⟩), put_get_ne a v h2]
    rcases h with ⟨_, v, _, hn⟩ | ⟨_, hn⟩
    · exact step v hn
    · exact step undef hn

/-- an operation that makes what is new -/
def mkUpon (P : Program) (W : World) (V : Value → World → Prop) (F : Value → Prop) : Result Next → Prop
  | .ok (.value v) W' => Below W.heap.size W W' ∧ V v W' ∧ F v
  | .ok (.enter f args) W' => W' = W ∧ Calls P f args W (fun e w'' => ∃ v, e = .returned v ∧ Below W.heap.size W w'' ∧ V v w'' ∧ F v)
  | _ => False
/-- .. whose value is apart (N) from what the others made -/
def MkAt (P : Program) (ops : Array Oper) (o : Oper) (A : Act) (w : World) (V : Value → World → Prop) (Vs : Nat → Value → World → Prop) (N : Value → Value → Prop) : Prop :=
  Region.wanted o (yielded ops A.tmps) = true ∧ ∀ W, Below w.heap.size w W → mkUpon P W V (fun v => ∀ j u, Vs j u W → N v u ∧ N u v) ((execOp A.eval o).run P W)

/-- the closed fact: 'h' in the order of the text, 'k' makers -/
def Region.mkB (md : Region.Mode) (ops : Array Oper) (h k : List Nat) : Bool :=
  ((List.range h.length).all fun p => ((ops.getD (h.getD p 0) default).looksAt ops).all fun s =>
      ((List.range h.length).all fun q => (ops.getD (h.getD q 0) default).dst != some s || (if q < p then Region.waitsFor md ops (h.getD p 0) (h.getD q 0) else q == p || Region.waitsFor md ops (h.getD q 0) (h.getD p 0))) &&
      (k.all fun j => (ops.getD j default).dst != some s || Region.waitsFor md ops j (h.getD p 0))) &&
  (k.all fun i => ((ops.getD i default).looksAt ops).all fun s =>
      ((List.range h.length).all fun q => (ops.getD (h.getD q 0) default).dst != some s || Region.waitsFor md ops i (h.getD q 0)) && (k.all fun j => (ops.getD j default).dst != some s))

theorem wp_of_YX {o : Oper} {a : Act} {w W : World} {v : Value} {K : Act → World → Prop} {Q : Exit → Act → World → Prop} (hy : YX P o a w v) (hW : Below w.heap.size w W) (hK : ∀ W', Below W.heap.size W W' → K (a.put o.dst v) W') : o.wp P a W K Q := by
  have h3 := hy W hW
  unfold Oper.quietAt at h3
  unfold Oper.wp
  generalize (execOp a.eval o).run P W = r at *
  cases r with
  | ok n w' =>
    cases n <;> simp only [Oper.quietUpon] at h3 <;> simp only [Oper.upon]
    case value u =>
      obtain ⟨e1, e2⟩ := h3
      rw [e1, e2]
      exact hK _ (Below.refl _ _)
    case skip =>
      obtain ⟨e1, e2⟩ := h3
      rw [e1, ← e2]
      exact hK _ (Below.refl _ _)
    case enter f args =>
      obtain ⟨e1, hc⟩ := h3
      rw [e1]
      exact hc.mono fun e w'' ⟨he, hw''⟩ => by subst he; exact hK _ hw''
  | halt x w' => simp only [Oper.quietUpon] at h3

theorem wp_of_mk {o : Oper} {a : Act} {W : World} {V : Value → World → Prop} {F : Value → Prop} {K : Act → World → Prop} {Q : Exit → Act → World → Prop} (h3 : mkUpon P W V F ((execOp a.eval o).run P W)) (hK : ∀ v W', Below W.heap.size W W' → V v W' → F v → K (a.put o.dst v) W') : o.wp P a W K Q := by
  unfold Oper.wp
  generalize (execOp a.eval o).run P W = r at *
  cases r with
  | ok n w' =>
    cases n <;> simp only [mkUpon] at h3 <;> simp only [Oper.upon]
    case value u => exact hK _ _ h3.1 h3.2.1 h3.2.2
    case enter f args =>
      obtain ⟨e1, hc⟩ := h3
      rw [e1]
      exact hc.mono fun e w'' ⟨v, he, hw'', hv, hf⟩ => by subst he; exact hK _ _ hw'' hv hf
  | halt x w' => simp only [mkUpon] at h3

structure InvM (ops : Array Oper) (a A : Act) (w : World) (h k : List Nat) (V : Nat → Value → World → Prop) (N : Value → Value → Prop) (listed : Array Bool) (a' : Act) (W : World) : Prop where
  below : Below w.heap.size w W
  size : a'.tmps.size = a.tmps.size
  defers : a'.defers = a.defers
  hv : ∀ i ∈ h, listed.getD i false = true → ∀ s, (ops.getD i default).dst = some s → a'.tmps[s]? = A.tmps[s]?
  kv : ∀ i ∈ k, listed.getD i false = true → ∀ s, (ops.getD i default).dst = some s → ∃ v, a'.tmps[s]? = some v ∧ V i v W
  old : ∀ s, (∀ i ∈ h ++ k, (ops.getD i default).dst = some s → listed.getD i false = false) → a'.tmps[s]? = a.tmps[s]?
  ap : ∀ i ∈ k, ∀ j ∈ k, i ≠ j → listed.getD i false = true → listed.getD j false = true → ∀ s t u v, (ops.getD i default).dst = some s → (ops.getD j default).dst = some t → a'.tmps[s]? = some u → a'.tmps[t]? = some v → N u v

/-- how many of a list are not listed -/
def unl (l : List Nat) (listed : Array Bool) : Nat := (l.filter fun i => !listed.getD i true).length
theorem unl_set {l : List Nat} {listed : Array Bool} {i : Nat} (hnd : l.Nodup) (hi : i ∈ l) (hu : listed.getD i true = false) : unl l listed = unl l (listed.setIfInBounds i true) + 1 := by
  have hil : i < listed.size := by
    rcases Nat.lt_or_ge i listed.size with h | h
    · exact h
    · simp [Array.getElem?_eq_none h] at hu
  induction l with
  | nil => cases hi
  | cons x l ih =>
    rw [List.nodup_cons] at hnd
    by_cases hx : x = i
    · subst hx
      have h1 : (listed.setIfInBounds x true).getD x true = true := by simp [hil]
      have h2 : unl l (listed.setIfInBounds x true) = unl l listed := by
        unfold unl
        congr 1
        apply List.filter_congr
        intro y hy
        have hne : x ≠ y := fun e => hnd.1 (e ▸ hy)
        rw [getD_set_ne true hne]
      unfold unl at *
      rw [List.filter_cons, List.filter_cons, hu, h1]
      simp only [Bool.not_false, if_true, Bool.not_true, Bool.false_eq_true, if_false, List.length_cons]
      omega
    · have hi' : i ∈ l := by
        rcases List.mem_cons.1 hi with h | h
        · exact absurd h.symm hx
        · exact h
      have := ih hnd.2 hi'
      have e : (listed.setIfInBounds i true).getD x true = listed.getD x true := getD_set_ne true (fun e => hx e.symm)
      unfold unl at *
      rw [List.filter_cons, List.filter_cons, e]
      split <;> simp_all
theorem unl_zero {l : List Nat} {listed : Array Bool} (h : unl l listed = 0) : ∀ i ∈ l, listed.getD i true = true := by
  intro i hi
  unfold unl at h
  have := List.filter_eq_nil_iff.1 (List.eq_nil_of_length_eq_zero h) i hi
  simpa using this

/-- each one of the order waits for ones ahead of it alone -/
def Region.topB (md : Region.Mode) (ops : Array Oper) (ord : List Nat) : Bool :=
  (List.range ord.length).all fun x => (ops.getD (ord.getD x 0) default).after.all fun e => !Region.binds md e || (ord.take x).contains e.on

theorem ready_ne {ord : List Nat} {listed : Array Bool} (ht : Region.topB md ops ord = true) (hin : ∀ x, x < ord.length → ord.getD x 0 < ops.size) (hsz : listed.size = ops.size) {x : Nat} (hx : x < ord.length) (hu : listed.getD (ord.getD x 0) true = false) : Region.ready md ops listed ≠ [] := by
  induction x using Nat.strongRecOn with
  | _ x ih =>
    by_cases hall : ∀ y, y < x → listed.getD (ord.getD y 0) true = true
    · intro he
      have hm : ord.getD x 0 ∈ Region.ready md ops listed := by
        refine mem_ready.2 ⟨hu, _, getD_some (hin x hx), fun e he hb => ?_⟩
        have h1 := List.all_eq_true.1 ht x (List.mem_range.2 hx)
        have h2 := Array.all_eq_true'.1 h1 e he
        rw [hb] at h2
        simp only [Bool.not_true, Bool.false_or, List.contains_eq_mem, decide_eq_true_eq] at h2
        obtain ⟨y, hy, hye⟩ := List.mem_iff_getElem.1 h2
        have hyx : y < x := by rw [List.length_take] at hy; omega
        have hl := hall y hyx
        have e1 : ord.getD y 0 = e.on := by
          rw [List.getElem_take] at hye
          rw [List.getD_eq_getElem?_getD, List.getElem?_eq_getElem (by omega)]
          exact hye
        rw [e1] at hl
        have hes : e.on < listed.size := by rw [hsz, ← e1]; exact hin y (by omega)
        simp [hes] at hl ⊢
        exact hl
      rw [he] at hm
      cases hm
    · simp only [Classical.not_forall] at hall
      obtain ⟨y, hy, hn⟩ := hall
      exact ih y hy (by omega) (by simpa using hn)

theorem inj_of_nodup_map {α β : Type} {f : α → β} : ∀ {l : List α}, (l.map f).Nodup → ∀ x ∈ l, ∀ y ∈ l, f x = f y → x = y
  | [], _, x, hx, _, _, _ => by cases hx
  | z :: l, h, x, hx, y, hy, e => by
    rw [List.map_cons, List.nodup_cons] at h
    rcases List.mem_cons.1 hx with rfl | hx'
    · rcases List.mem_cons.1 hy with rfl | hy'
      · rfl
      · exact absurd (List.mem_map.2 ⟨y, hy', e.symm⟩) h.1
    · rcases List.mem_cons.1 hy with rfl | hy'
      · exact absurd (List.mem_map.2 ⟨x, hx', e⟩) h.1
      · exact inj_of_nodup_map h.2 x hx' y hy' e
theorem distB_get {n : Nat} {l : List Nat} (h : distB n (selOps ops l) = true) : (∀ i ∈ l, ∃ d, (ops.getD i default).dst = some d ∧ d < n) ∧ (∀ i ∈ l, ∀ j ∈ l, (ops.getD i default).dst = (ops.getD j default).dst → i = j) := by
  simp only [distB, Bool.and_eq_true, decide_eq_true_eq] at h
  constructor
  · intro i hi
    have := List.all_eq_true.1 h.1 (ops.getD i default) (List.mem_map.2 ⟨i, hi, rfl⟩)
    cases hd : (ops.getD i default).dst with
    | none => rw [hd] at this; cases this
    | some d => rw [hd] at this; exact ⟨d, rfl, by simpa using this⟩
  · intro i hi j hj e
    have h2 := h.2
    unfold selOps at h2
    rw [List.map_map] at h2
    exact inj_of_nodup_map h2 i hi j hj e

theorem InvM.step {a A : Act} {w W W' : World} {h k : List Nat} {V : Nat → Value → World → Prop} {N : Value → Value → Prop} {listed : Array Bool} {a' : Act} (inv : InvM ops a A w h k V N listed a' W) (hdist : distB a.tmps.size (selOps ops (h ++ k)) = true)
    (hV : ∀ i v W W', V i v W → Below W.heap.size W W' → V i v W') {i : Nat} (hi : i ∈ h ++ k) (hu : listed.getD i true = false) {d : Tmp} {v : Value} (hd : (ops.getD i default).dst = some d) (hW : Below W.heap.size W W')
    (hh : i ∈ h → A.tmps[d]? = some v) (hk : i ∈ k → V i v W') (hN : i ∈ k → ∀ j u, V j u W → N v u ∧ N u v) : InvM ops a A w h k V N (listed.setIfInBounds i true) (a'.put (some d) v) W' := by
  obtain ⟨h1, h2⟩ := distB_get hdist
  have hdl : d < a'.tmps.size := by
    obtain ⟨d', e, hl⟩ := h1 i hi
    rw [hd] at e; injection e with e; subst e
    rw [inv.size]; exact hl
  have ne : ∀ j ∈ h ++ k, j ≠ i → ∀ s, (ops.getD j default).dst = some s → (some d : Option Tmp) ≠ some s := fun j hj hji s hs e => hji (h2 j hj i hi (by rw [hs, hd]; exact e.symm))
  refine ⟨bt' inv.below hW inv.below.size, by rw [put_size]; exact inv.size, by rw [put_defers']; exact inv.defers, fun j hj hl s hs => ?_, fun j hj hl s hs => ?_, fun s hs => ?_, fun x hx y hy hxy hlx hly s t u z hs ht hu' hz => ?_⟩
  · by_cases hji : j = i
    · subst hji
      rw [hd] at hs; injection hs with hs; subst hs
      rw [put_get a' v hdl, hh hj]
    · rw [getD_set_ne false (fun e => hji e.symm)] at hl
      rw [put_get_ne a' v (ne j (by simp [hj]) hji s hs)]
      exact inv.hv j hj hl s hs
  · by_cases hji : j = i
    · subst hji
      rw [hd] at hs; injection hs with hs; subst hs
      exact ⟨v, put_get a' v hdl, hk hj⟩
    · rw [getD_set_ne false (fun e => hji e.symm)] at hl
      rw [put_get_ne a' v (ne j (by simp [hj]) hji s hs)]
      obtain ⟨u, e, hu⟩ := inv.kv j hj hl s hs
      exact ⟨u, e, hV _ _ _ _ hu hW⟩
  · have hil : i < listed.size := by
      rcases Nat.lt_or_ge i listed.size with hh | hh
      · exact hh
      · simp [Array.getElem?_eq_none hh] at hu
    have hds : (some d : Option Tmp) ≠ some s := fun e => by
      have := hs i hi (by rw [hd]; exact e)
      simp [hil] at this
    rw [put_get_ne a' v hds]
    refine inv.old s fun j hj hjs => ?_
    have := hs j hj hjs
    by_cases hji : j = i
    · subst hji; exact getD_both hu
    · rw [getD_set_ne false (fun e => hji e.symm)] at this; exact this
  · by_cases hxi : x = i
    · subst hxi
      have hyx : y ≠ x := fun e => hxy e.symm
      rw [hd] at hs; injection hs with hs; subst hs
      rw [put_get a' v hdl] at hu'; injection hu' with hu'; subst hu'
      rw [getD_set_ne false (fun e => hyx e.symm)] at hly
      rw [put_get_ne a' v (ne y (by simp [hy]) hyx t ht)] at hz
      obtain ⟨q, e, hq⟩ := inv.kv y hy hly t ht
      rw [hz] at e; injection e with e; subst e
      exact (hN hx y z hq).1
    · rw [getD_set_ne false (fun e => hxi e.symm)] at hlx
      rw [put_get_ne a' v (ne x (by simp [hx]) hxi s hs)] at hu'
      by_cases hyi : y = i
      · subst hyi
        rw [hd] at ht; injection ht with ht; subst ht
        rw [put_get a' v hdl] at hz; injection hz with hz; subst hz
        obtain ⟨q, e, hq⟩ := inv.kv x hx hlx s hs
        rw [hu'] at e; injection e with e; subst e
        exact (hN hy x u hq).2
      · rw [getD_set_ne false (fun e => hyi e.symm)] at hly
        rw [put_get_ne a' v (ne y (by simp [hy]) hyi t ht)] at hz
        exact inv.ap x hx y hy hxy hlx hly s t u z hs ht hu' hz

theorem wpAny_mk {Q : Exit → Act → World → Prop} {a A : Act} {w : World} {h k t : List Nat} {V : Nat → Value → World → Prop} {N : Value → Value → Prop} (hsel : Region.noSelect ops = true) (hnd : ((h ++ k) ++ t).Nodup)
    (hs : Region.sinkI md ops ((h ++ k) ++ t) (h ++ k).length = true) (hc : Region.chainI md ops ((h ++ k) ++ t) (h ++ k).length = true) (ht0 : 0 < t.length) (htop : Region.topB md ops (h ++ k) = true) (hin : ∀ x, x < ((h ++ k) ++ t).length → ((h ++ k) ++ t).getD x 0 < ops.size)
    (hmk : Region.mkB md ops h k = true) (hdist : distB a.tmps.size (selOps ops (h ++ k)) = true) (hlex : LexX P ops w A (selOps ops h) a) (hk : ∀ i ∈ k, MkAt P ops (ops.getD i default) A w (V i) V N)
    (hV : ∀ i v W W', V i v W → Below W.heap.size W W' → V i v W')
    (hL : ∀ listed a' W, HeadI md ops ((h ++ k) ++ t) (h ++ k).length listed → (∀ i ∈ h ++ k, listed.getD i true = true) → InvM ops a A w h k V N listed a' W → wpAny P md ops Q t.length listed a' W) :
    ∀ (f : Nat) (listed : Array Bool) (a' : Act) (W : World), unl (h ++ k) listed = f → HeadI md ops ((h ++ k) ++ t) (h ++ k).length listed → InvM ops a A w h k V N listed a' W → wpAny P md ops Q (f + t.length) listed a' W := by
  have hn : (h ++ k).length < ((h ++ k) ++ t).length := by rw [@List.length_append Nat (h ++ k) t]; omega
  have hord : ∀ x, x < (h ++ k).length → ((h ++ k) ++ t).getD x 0 = (h ++ k).getD x 0 := fun x hx => by
    rw [List.getD_eq_getElem?_getD, List.getElem?_append_left hx, ← List.getD_eq_getElem?_getD]
  have hin' : ∀ x, x < (h ++ k).length → (h ++ k).getD x 0 < ops.size := fun x hx => by rw [← hord x hx]; exact hin x (by omega)
  simp only [Region.mkB, Bool.and_eq_true] at hmk
  obtain ⟨mk1, mk2⟩ := hmk
  have hdh : distB a.tmps.size (selOps ops h) = true := by
    simp only [distB, Bool.and_eq_true, decide_eq_true_eq] at hdist ⊢
    unfold selOps at hdist ⊢
    rw [List.map_append, List.map_append, List.all_append, Bool.and_eq_true] at hdist
    exact ⟨hdist.1.1, (List.nodup_append.1 hdist.2).1⟩
  intro f
  induction f with
  | zero =>
    intro listed a' W hu inv iv
    rw [Nat.zero_add]
    exact hL listed a' W inv (unl_zero hu) iv
  | succ f ih =>
    intro listed a' W hu inv iv
    rw [show f + 1 + t.length = (f + t.length) + 1 by omega]
    obtain ⟨x, hx, hxu⟩ : ∃ x, x < (h ++ k).length ∧ listed.getD ((h ++ k).getD x 0) true = false := by
      have hne : ((h ++ k).filter fun i => !listed.getD i true) ≠ [] := fun e => by unfold unl at hu; rw [e] at hu; cases hu
      obtain ⟨y, hy⟩ := List.exists_mem_of_ne_nil _ hne
      rw [List.mem_filter] at hy
      obtain ⟨x, hx, he⟩ := List.mem_iff_getElem.1 hy.1
      exact ⟨x, hx, by rw [List.getD_eq_getElem?_getD, List.getElem?_eq_getElem hx]; simp only [Option.getD_some]; rw [he]; simpa using hy.2⟩
    refine ⟨fun h0 => absurd h0 (ready_ne htop hin' inv.size hx hxu), fun i hi => ?_⟩
    obtain ⟨hiu, oi, hoi, hdep⟩ := mem_ready.1 hi
    have hlt : i < ops.size := (Array.getElem?_eq_some_iff.1 hoi).1
    have ho : oi = ops.getD i default := by
      have := getD_some hlt
      rw [hoi] at this; exact Option.some.inj this
    subst ho
    obtain ⟨z, hz, hzi⟩ := inv.all i hlt hiu
    have hzn : z < (h ++ k).length := by
      rcases Nat.lt_or_ge z (h ++ k).length with h1 | h1
      · exact h1
      · exact absurd (hzi ▸ hi) (tail_waitsI hs hc hn inv _ x rfl hx (by rw [hord x hx]; exact hxu) z h1 hz)
    have him : i ∈ h ++ k := by
      rw [← hzi, hord z hzn, List.getD_eq_getElem?_getD, List.getElem?_eq_getElem hzn]
      exact List.getElem_mem _
    have listedOf : ∀ j, Region.waitsFor md ops i j = true → listed.getD j false = true := fun j hj => by
      obtain ⟨oj, hoj, e, he, hb, hon⟩ := Region.waitsFor_spec hj
      have : oj = ops.getD i default := Option.some.inj (hoj.symm.trans hoi)
      subst this
      rw [← hon]; exact hdep e he hb
    have unlistedOf : ∀ j, Region.waitsFor md ops j i = true → listed.getD j false = false := fun j hj => by
      obtain ⟨oj, hoj, e, he, hb, hon⟩ := Region.waitsFor_spec hj
      cases hl : listed.getD j false with
      | false => rfl
      | true =>
        have := inv.closed j oj hoj hl e he hb
        rw [hon, getD_both hiu] at this
        cases this
    have next : ∀ {d v W'}, (ops.getD i default).dst = some d → Below W.heap.size W W' → (i ∈ h → A.tmps[d]? = some v) → (i ∈ k → V i v W') → (i ∈ k → ∀ j u, V j u W → N v u ∧ N u v) → wpAny P md ops Q (f + t.length) (listed.setIfInBounds i true) (a'.put (some d) v) W' := fun {d v W'} hd hW h1 h2 h3 => by
      refine ih _ _ _ ?_ ?_ (iv.step hdist hV him hiu hd hW h1 h2 h3)
      · have := unl_set (List.nodup_append.1 hnd).1 him hiu
        omega
      · have := inv.set hnd hz (hzi.symm ▸ hi) hzn
        rw [hzi] at this
        exact this
    unfold wpOp
    rw [hoi]
    simp only
    by_cases hih : i ∈ h
    · obtain ⟨p, hp, hpi⟩ := List.mem_iff_getElem.1 hih
      have hpg : h.getD p 0 = i := by rw [List.getD_eq_getElem?_getD, List.getElem?_eq_getElem hp]; exact hpi
      have hag : ∀ s ∈ (ops.getD i default).looksAt ops, a'.tmps[s]? = if ∃ x ∈ (selOps ops h).take p, x.dst = some s then A.tmps[s]? else a.tmps[s]? := fun s hs' => by
        have m := List.all_eq_true.1 (List.all_eq_true.1 mk1 p (List.mem_range.2 hp)) s (by rw [hpg]; exact hs')
        rw [Bool.and_eq_true] at m
        split
        · rename_i hx
          obtain ⟨o, ho, hos⟩ := hx
          obtain ⟨q, hq, hqo⟩ := List.mem_iff_getElem.1 ho
          have hq1 : q < p := by rw [List.length_take] at hq; omega
          have hq2 : q < h.length := by omega
          have hoq : o = ops.getD (h.getD q 0) default := by
            rw [← hqo, List.getElem_take]
            unfold selOps
            rw [List.getElem_map, List.getD_eq_getElem?_getD, List.getElem?_eq_getElem hq2]; rfl
          have m1 := List.all_eq_true.1 m.1 q (List.mem_range.2 hq2)
          rw [← hoq, hos] at m1
          simp only [bne_self_eq_false, Bool.false_or, hq1, if_true, hpg] at m1
          exact iv.hv (h.getD q 0) (by rw [List.getD_eq_getElem?_getD, List.getElem?_eq_getElem hq2]; exact List.getElem_mem _) (listedOf _ m1) s (by rw [← hoq]; exact hos)
        · rename_i hx
          refine iv.old s fun j hj hjs => ?_
          rcases List.mem_append.1 hj with hj | hj
          · obtain ⟨q, hq, hqj⟩ := List.mem_iff_getElem.1 hj
            have hqg : h.getD q 0 = j := by rw [List.getD_eq_getElem?_getD, List.getElem?_eq_getElem hq]; exact hqj
            have m1 := List.all_eq_true.1 m.1 q (List.mem_range.2 hq)
            rw [hqg, hjs] at m1
            by_cases hqp : q < p
            · exfalso
              refine hx ⟨ops.getD j default, ?_, hjs⟩
              refine List.mem_iff_getElem.2 ⟨q, by unfold selOps; simp; omega, ?_⟩
              rw [List.getElem_take]
              unfold selOps
              rw [List.getElem_map, hqj]
            · simp only [bne_self_eq_false, Bool.false_or, hqp, if_false, Bool.or_eq_true, beq_iff_eq, hpg] at m1
              rcases m1 with e | m1
              · subst e
                have : j = i := by rw [← hqj, hpi]
                subst this; exact getD_both hiu
              · exact unlistedOf j m1
          · have m2 := List.all_eq_true.1 m.2 j hj
            rw [hjs, hpg] at m2
            simp only [bne_self_eq_false, Bool.false_or] at m2
            exact unlistedOf j m2
      obtain ⟨d, v, hd, hv, hcase⟩ := LexX.get (selOps ops h) a hdh hlex p (ops.getD i default) (by unfold selOps; rw [List.getElem?_map, List.getElem?_eq_getElem hp, hpi]; rfl) (fun cs b => Region.noSelect_spec hsel i _ cs b hoi) a' hag
      have hno : i ∈ k → False := fun hk' => by
        have := (List.nodup_append.1 (List.nodup_append.1 hnd).1).2.2 i hih i hk'
        exact this rfl
      rcases hcase with ⟨hw, hy⟩ | ⟨hw, rfl⟩
      · rw [if_pos hw]
        refine .inl (wp_of_YX hy iv.below fun W' hW' => ?_)
        rw [hd]
        exact next hd hW' (fun _ => hv) (fun hk' => (hno hk').elim) (fun hk' => (hno hk').elim)
      · rw [if_neg (by rw [hw]; simp), hd]
        exact next hd (Below.refl _ _) (fun _ => hv) (fun hk' => (hno hk').elim) (fun hk' => (hno hk').elim)
    · have hik : i ∈ k := (List.mem_append.1 him).resolve_left hih
      obtain ⟨hw, hm⟩ := hk i hik
      have hag : ∀ s ∈ (ops.getD i default).looksAt ops, a'.tmps[s]? = A.tmps[s]? := fun s hs' => by
        have m := List.all_eq_true.1 (List.all_eq_true.1 mk2 i hik) s hs'
        rw [Bool.and_eq_true] at m
        by_cases hx : ∃ j ∈ h, (ops.getD j default).dst = some s
        · obtain ⟨j, hj, hjs⟩ := hx
          obtain ⟨q, hq, hqj⟩ := List.mem_iff_getElem.1 hj
          have hqg : h.getD q 0 = j := by rw [List.getD_eq_getElem?_getD, List.getElem?_eq_getElem hq]; exact hqj
          have m1 := List.all_eq_true.1 m.1 q (List.mem_range.2 hq)
          rw [hqg, hjs] at m1
          simp only [bne_self_eq_false, Bool.false_or] at m1
          exact iv.hv j hj (listedOf _ m1) s hjs
        · rw [lex_keeps (selOps ops h) a (fun o ho e => by
            unfold selOps at ho
            obtain ⟨j, hj, rfl⟩ := List.mem_map.1 ho
            exact hx ⟨j, hj, e⟩) hlex]
          refine iv.old s fun j hj hjs => ?_
          rcases List.mem_append.1 hj with hj | hj
          · exact absurd ⟨j, hj, hjs⟩ hx
          · have := List.all_eq_true.1 m.2 j hj
            rw [hjs] at this
            simp at this
      obtain ⟨e1, e2⟩ := looks_same (fun cs b => Region.noSelect_spec hsel i _ cs b hoi) hag
      obtain ⟨d, hd, _⟩ := (distB_get hdist).1 i him
      rw [if_pos (by rw [e2]; exact hw)]
      refine .inl (wp_of_mk (V := V i) (by rw [e1]; exact hm W iv.below) fun v W' hW' hv hf => ?_)
      rw [hd]
      exact next hd hW' (fun hh => absurd hh hih) (fun _ => hv) (fun _ => hf)

/-- the tail, whatever the makers made -/
def TailX (P : Program) (ops : Array Oper) (Q : Exit → Act → World → Prop) (w : World) (t : List Oper) (V : Nat → Value → World → Prop) (N : Value → Value → Prop) : List Nat → List Value → (World → Prop) → Act → Prop
  | [], _, C, A => ∀ W, Below w.heap.size w W → C W → wpList P ops Q t A W
  | i :: ks, l, C, A => ∀ v, (∀ u ∈ l, N u v) → TailX P ops Q w t V N ks (v :: l) (fun W => C W ∧ V i v W) (A.put (ops.getD i default).dst v)

theorem nodup_le : ∀ (l m : List Nat), l.Nodup → (∀ x ∈ l, x ∈ m) → l.length ≤ m.length
  | [], m, _, _ => Nat.zero_le _
  | x :: l, m, hn, hs => by
    rw [List.nodup_cons] at hn
    have hx := hs x (by simp)
    have := nodup_le l (m.erase x) hn.2 fun y hy => (List.mem_erase_of_ne (fun e => hn.1 (by rw [← e]; exact hy))).2 (hs y (by simp [hy]))
    have h2 := List.length_erase_of_mem hx
    have h3 : 0 < m.length := List.length_pos_of_mem hx
    rw [List.length_cons]
    omega
theorem act_ext {a b : Act} (h1 : a.tmps.size = b.tmps.size) (h2 : a.defers = b.defers) (h : ∀ s : Nat, a.tmps[s]? = b.tmps[s]?) : a = b := by
  obtain ⟨at', ad⟩ := a
  obtain ⟨bt', bd⟩ := b
  obtain rfl : at' = bt' := Array.ext_getElem? h
  obtain rfl : ad = bd := h2
  rfl

theorem tail_of {Q : Exit → Act → World → Prop} {w : World} {t : List Oper} {V : Nat → Value → World → Prop} {N : Value → Value → Prop} {a' : Act} {W : World} (hW : Below w.heap.size w W) :
    ∀ (ks : List Nat) (l : List Value) (C : World → Prop) (B : Act), B.tmps.size = a'.tmps.size → B.defers = a'.defers → (∀ i ∈ ks, ∃ d v, (ops.getD i default).dst = some d ∧ a'.tmps[d]? = some v ∧ V i v W ∧ (∀ u ∈ l, N u v)) →
      (∀ s, (∀ i ∈ ks, (ops.getD i default).dst ≠ some s) → a'.tmps[s]? = B.tmps[s]?) → ks.Nodup → (∀ i ∈ ks, ∀ j ∈ ks, i ≠ j → ∀ s t u v, (ops.getD i default).dst = some s → (ops.getD j default).dst = some t → a'.tmps[s]? = some u → a'.tmps[t]? = some v → N u v) → C W → TailX P ops Q w t V N ks l C B → wpList P ops Q t a' W
  | [], l, C, B, h1, h2, _, h4, _, _, hC, h => by
    have : a' = B := act_ext h1.symm h2.symm fun s => h4 s (fun i hi => by cases hi)
    rw [this]
    exact h W hW hC
  | i :: ks, l, C, B, h1, h2, h3, h4, hnd, hap, hC, h => by
    obtain ⟨d, v, hd, hv, hV, hN⟩ := h3 i (by simp)
    rw [List.nodup_cons] at hnd
    refine tail_of hW ks (v :: l) _ _ (by rw [put_size]; exact h1) (by rw [put_defers']; exact h2) (fun j hj => ?_) (fun s hs => ?_) hnd.2 (fun x hx y hy => hap x (by simp [hx]) y (by simp [hy])) ⟨hC, hV⟩ (h v hN)
    · obtain ⟨d', v', hd', hv', hV', hN'⟩ := h3 j (by simp [hj])
      refine ⟨d', v', hd', hv', hV', fun u hu => ?_⟩
      rcases List.mem_cons.1 hu with rfl | hu
      · exact hap i (by simp) j (by simp [hj]) (fun e => hnd.1 (e ▸ hj)) d d' _ _ hd hd' hv hv'
      · exact hN' u hu
    · by_cases e : (ops.getD i default).dst = some s
      · have : d = s := by rw [hd] at e; injection e
        subst this
        have hl : d < B.tmps.size := by rw [h1]; exact (Array.getElem?_eq_some_iff.1 hv).1
        rw [hd, put_get B v hl, hv]
      · rw [put_get_ne B v e]
        exact h4 s fun j hj => by
          rcases List.mem_cons.1 hj with rfl | hj
          · exact e
          · exact hs j hj

def MkAll (P : Program) (ops : Array Oper) (A : Act) (w : World) (V : Nat → Value → World → Prop) (N : Value → Value → Prop) : List Nat → Prop
  | [] => True
  | i :: ks => MkAt P ops (ops.getD i default) A w (V i) V N ∧ MkAll P ops A w V N ks
theorem MkAll.get {A : Act} {w : World} {V : Nat → Value → World → Prop} {N : Value → Value → Prop} : ∀ {k : List Nat}, MkAll P ops A w V N k → ∀ i ∈ k, MkAt P ops (ops.getD i default) A w (V i) V N
  | x :: ks, h, i, hi => by
    rcases List.mem_cons.1 hi with rfl | hi
    · exact h.1
    · exact MkAll.get h.2 i hi

/-- the closed fact of such a region -/
def Region.planM (md : Region.Mode) (ops : Array Oper) (n : Nat) (h k t : List Nat) : Bool :=
  Region.noSelect ops && decide ((h ++ k) ++ t).Nodup && decide (0 < t.length) && Region.sinkI md ops ((h ++ k) ++ t) (h ++ k).length && Region.chainI md ops ((h ++ k) ++ t) (h ++ k).length &&
  Region.topB md ops (h ++ k) && (((h ++ k) ++ t).all fun i => decide (i < ops.size)) && Region.mkB md ops h k && distB n (selOps ops (h ++ k)) &&
  ((List.range ops.size).all fun i => ((h ++ k) ++ t).contains i) && Region.seqI md ops t ((Array.range ops.size).map fun i => (h ++ k).contains i)

/-- **THE REGION**: 'h' in the order of the text, each of one value in whatever world comes, making new blocks alone; 'k' makers; 't' the tail in its one order. A: the act behind h. -/
theorem wp_region_mk {id : Nat} {Q : Exit → Act → World → Prop} {a : Act} {w : World} {l : List Oper} (h k t : List Nat) (n : Nat) (V : Nat → Value → World → Prop) (N : Value → Value → Prop) (hm : P.follows .mixedOrders = true) (hB : Region.planM .any l.toArray n h k t = true) (hsz : a.tmps.size = n) (A : Act)
    (H : ∀ W, Below w.heap.size w W → wpQuiet P l.toArray (fun w' => ∃ x, w' = W.ext x) (· = A) (h.map (l.getD · default)) a)
    (hV : ∀ i v W W', V i v W → Below W.heap.size W W' → V i v W')
    (hk : MkAll P l.toArray A w V N k)
    (hT : TailX P l.toArray Q w (t.map (l.getD · default)) V N k [] (fun _ => True) A) :
    (Code.region id l.toArray true).wp P Q a w := by
  have esel : ∀ is, selOps l.toArray is = is.map (l.getD · default) := fun is => by
    unfold selOps
    apply List.map_congr_left
    intro i _
    simp [Array.getD, List.getD_eq_getElem?_getD]
    split <;> rename_i h
    · rw [List.getElem?_eq_getElem h]; rfl
    · rw [List.getElem?_eq_none (by omega)]; rfl
  simp only [Region.planM, Bool.and_eq_true, decide_eq_true_eq] at hB
  obtain ⟨⟨⟨⟨⟨⟨⟨⟨⟨⟨hsel, hnd⟩, ht0⟩, hs⟩, hc⟩, htop⟩, hin⟩, hmk⟩, hdist⟩, hall⟩, hseq⟩ := hB
  subst hsz
  have hin' : ∀ x, x < ((h ++ k) ++ t).length → ((h ++ k) ++ t).getD x 0 < l.toArray.size := fun x hx => by
    have := List.all_eq_true.1 hin (((h ++ k) ++ t).getD x 0) (by rw [List.getD_eq_getElem?_getD, List.getElem?_eq_getElem hx]; exact List.getElem_mem _)
    simpa using this
  have hdh : distB a.tmps.size (selOps l.toArray h) = true := by
    have hdist' := hdist
    simp only [distB, Bool.and_eq_true, decide_eq_true_eq] at hdist' ⊢
    unfold selOps at hdist' ⊢
    rw [List.map_append, List.map_append, List.all_append, Bool.and_eq_true] at hdist'
    exact ⟨hdist'.1.1, (List.nodup_append.1 hdist'.2).1⟩
  have hlex : LexX P l.toArray w A (selOps l.toArray h) a := lex_of _ _ hdh fun W hW => by rw [esel]; exact H W hW
  obtain ⟨sz1, df1⟩ := lex_size _ _ hlex
  refine wp_region_any hm ?_
  have hsz0 : ∀ i, (Array.replicate l.toArray.size false).getD i false = false := fun i => getD_replicate_false _ _
  have hlen : unl (h ++ k) (Array.replicate l.toArray.size false) + t.length = l.toArray.size := by
    have h1 : unl (h ++ k) (Array.replicate l.toArray.size false) = (h ++ k).length := by
      unfold unl
      rw [List.filter_eq_self.2]
      intro i hi
      obtain ⟨x, hx, he⟩ := List.mem_iff_getElem.1 hi
      have := hin' x (by rw [@List.length_append Nat (h ++ k) t]; omega)
      rw [List.getD_eq_getElem?_getD, List.getElem?_append_left hx, List.getElem?_eq_getElem hx] at this
      simp only [Option.getD_some, he] at this
      have h2 : i < l.length := by simpa using this
      simp [h2]
    rw [h1, ← List.length_append]
    have h3 : ((h ++ k) ++ t).length ≤ (List.range l.toArray.size).length := nodup_le _ _ hnd fun i hi => by
      obtain ⟨x, hx, he⟩ := List.mem_iff_getElem.1 hi
      have := hin' x hx
      rw [List.getD_eq_getElem?_getD, List.getElem?_eq_getElem hx] at this
      simp only [Option.getD_some, he] at this
      exact List.mem_range.2 this
    have h4 : (List.range l.toArray.size).length ≤ ((h ++ k) ++ t).length := nodup_le _ _ List.nodup_range fun i hi => by
      have := List.all_eq_true.1 hall i hi
      simpa using this
    rw [List.length_range] at h3 h4
    omega
  have hFIN : ∀ (listed : Array Bool) (a' : Act) (W : World), HeadI .any l.toArray ((h ++ k) ++ t) (h ++ k).length listed → (∀ i ∈ h ++ k, listed.getD i true = true) → InvM l.toArray a A w h k V N listed a' W → wpAny P .any l.toArray Q t.length listed a' W := by
    intro listed a' W inv hl iv
    have hlist : listed = (Array.range l.toArray.size).map fun i => (h ++ k).contains i := by
      apply Array.ext
      · rw [inv.size]; simp
      · intro i h1 h2
        have hi : i < l.toArray.size := by rw [← inv.size]; exact h1
        simp only [Array.getElem_map, Array.getElem_range]
        by_cases hm : i ∈ h ++ k
        · have := hl i hm
          simp [h1] at this
          rw [this]
          symm
          simpa using hm
        · have hm' := List.all_eq_true.1 hall i (List.mem_range.2 hi)
          simp only [List.contains_eq_mem, decide_eq_true_eq] at hm'
          have ht' : i ∈ t := (List.mem_append.1 hm').resolve_left hm
          obtain ⟨y, hy, he⟩ := List.mem_iff_getElem.1 ht'
          have := inv.tail ((h ++ k).length + y) (by omega) (by rw [@List.length_append Nat (h ++ k) t]; omega)
          rw [List.getD_eq_getElem?_getD, List.getElem?_append_right (by omega), show (h ++ k).length + y - (h ++ k).length = y by omega, List.getElem?_eq_getElem hy] at this
          simp only [Option.getD_some, he] at this
          simp [h1] at this
          rw [this]
          symm
          simp only [List.contains_eq_mem, decide_eq_false_iff_not]
          exact hm
    have lst : ∀ i ∈ h ++ k, listed.getD i false = true := fun i hi => by
      have := hl i hi
      have hii := List.all_eq_true.1 hin i (by simp only [List.mem_append] at hi ⊢; exact Or.inl hi)
      have hii' : i < listed.size := by rw [inv.size]; simpa using hii
      simp [hii'] at this ⊢; exact this
    refine wpAny_of_seqI t listed a' W (fun i hi => ?_) (by rw [hlist]; exact hseq) ?_
    · have := List.all_eq_true.1 hin i (by simp [hi])
      simpa using this
    · rw [esel]
      refine tail_of iv.below k [] (fun _ => True) A (by rw [sz1, iv.size]) (by rw [df1, iv.defers]) (fun i hi => ?_) (fun s hs' => ?_) (List.nodup_append.1 (List.nodup_append.1 hnd).1).2.1 (fun x hx y hy hxy => iv.ap x hx y hy hxy (lst x (by simp [hx])) (lst y (by simp [hy]))) trivial hT
      · obtain ⟨d, hd, _⟩ := (distB_get hdist).1 i (by simp [hi])
        obtain ⟨v, e, hv⟩ := iv.kv i hi (by
          have := hl i (by simp [hi])
          have hii := List.all_eq_true.1 hin i (by simp [hi])
          have hii' : i < listed.size := by rw [inv.size]; simpa using hii
          simp [hii'] at this ⊢; exact this) d hd
        exact ⟨d, v, hd, e, hv, fun u hu => by cases hu⟩
      · by_cases hx : ∃ j ∈ h, (l.toArray.getD j default).dst = some s
        · obtain ⟨j, hj, hjs⟩ := hx
          refine iv.hv j hj ?_ s hjs
          have := hl j (by simp [hj])
          have hii := List.all_eq_true.1 hin j (by simp [hj])
          have hii' : j < listed.size := by rw [inv.size]; simpa using hii
          simp [hii'] at this ⊢; exact this
        · rw [lex_keeps (selOps l.toArray h) a (fun o ho e => by
            unfold selOps at ho
            obtain ⟨j, hj, rfl⟩ := List.mem_map.1 ho
            exact hx ⟨j, hj, e⟩) hlex]
          refine iv.old s fun j hj hjs => ?_
          rcases List.mem_append.1 hj with hj | hj
          · exact absurd ⟨j, hj, hjs⟩ hx
          · exact absurd hjs (hs' j hj)
  have hHD : HeadI .any l.toArray ((h ++ k) ++ t) (h ++ k).length (Array.replicate l.toArray.size false) := by
    refine ⟨by simp, fun j oj hj hl => ?_, fun i hi hl => ?_, fun y hy hyl => ?_, hin'⟩
    · rw [hsz0 j] at hl; cases hl
    · have := List.all_eq_true.1 hall i (List.mem_range.2 hi)
      simp only [List.contains_eq_mem, decide_eq_true_eq] at this
      obtain ⟨x, hx, he⟩ := List.mem_iff_getElem.1 this
      exact ⟨x, hx, by rw [List.getD_eq_getElem?_getD, List.getElem?_eq_getElem hx]; exact he⟩
    · have := hin' y hyl
      have h2 : ((h ++ k) ++ t).getD y 0 < l.length := by simpa using this
      exact getD_in (by simpa using h2) (hsz0 _)
  have hIV : InvM l.toArray a A w h k V N (Array.replicate l.toArray.size false) a w.drew := by
    exact ⟨(Below.refl w.heap.size w).drew, rfl, rfl, fun i hi hl => (by rw [hsz0 i] at hl; cases hl), fun i hi hl => (by rw [hsz0 i] at hl; cases hl), fun s _ => rfl, fun i hi j hj hij hl => (by rw [hsz0 i] at hl; cases hl)⟩
  have key := wpAny_mk (Q := Q) (A := A) (w := w) (h := h) (k := k) (V := V) hsel hnd hs hc ht0 htop hin' hmk hdist hlex hk.get hV hFIN _ (Array.replicate l.toArray.size false) a w.drew rfl hHD hIV
  rw [hlen] at key
  exact key
/-- .. in the form in which a walk finds A out: 'refine wp_region_mkE ..; apply Exists.intro; refine ⟨fun X hX => ?_, ?_, ?_⟩' -/
theorem wp_region_mkE {id : Nat} {Q : Exit → Act → World → Prop} {a : Act} {w : World} {l : List Oper} (h k t : List Nat) (n : Nat) (V : Nat → Value → World → Prop) (N : Value → Value → Prop) (hm : P.follows .mixedOrders = true) (hB : Region.planM .any l.toArray n h k t = true) (hsz : a.tmps.size = n)
    (hV : ∀ i v W W', V i v W → Below W.heap.size W W' → V i v W')
    (H : ∃ A, (∀ W, Below w.heap.size w W → wpQuiet P l.toArray (fun w' => ∃ x, w' = W.ext x) (· = A) (h.map (l.getD · default)) a) ∧ MkAll P l.toArray A w V N k ∧ TailX P l.toArray Q w (t.map (l.getD · default)) V N k [] (fun _ => True) A) :
    (Code.region id l.toArray true).wp P Q a w := by
  obtain ⟨A, h1, h2, h3⟩ := H
  exact wp_region_mk h k t n V N hm hB hsz A h1 hV h2 h3
/-- a new block, as a maker's value -/
def VA (B : Nat) (T : TypeId) (cs : Array Value) (v : Value) (W : World) : Prop := ∃ b, v = .pointer (some ⟨b, 0, none⟩) ∧ B ≤ b ∧ Blk W b T cs
theorem VA.mono {B : Nat} {T : TypeId} {cs : Array Value} {v : Value} {W W' : World} (h : VA B T cs v W) (hb : Below W.heap.size W W') : VA B T cs v W' := by
  obtain ⟨b, e, hB, hk⟩ := h
  exact ⟨b, e, hB, hk.bel hb⟩
/-- pointers to blocks that were there -/
theorem VA.ne {B : Nat} {T : TypeId} {cs : Array Value} {v : Value} {W : World} (h : VA B T cs v W) : Value.pointer (some ⟨W.heap.size, 0, none⟩) ≠ v ∧ v ≠ .pointer (some ⟨W.heap.size, 0, none⟩) := by
  obtain ⟨b, rfl, _, hk⟩ := h
  have := hk.lt
  constructor
  · intro e; injection e with e; injection e with e; injection e with e; omega
  · intro e; injection e with e; injection e with e; injection e with e; omega
theorem mk_alloc {w : World} {A : Act} {o : Oper} {T : TypeId} {cs : Array Value} {Vs : Nat → Value → World → Prop} (hg : o.guard = none) (hr : ∀ W : World, (execOp A.eval o).run P W = .ok (.value (.pointer (some ⟨W.heap.size, 0, none⟩))) (W.alloc (.cells cs T)))
    (hn : ∀ j u W, Vs j u W → Value.pointer (some ⟨W.heap.size, 0, none⟩) ≠ u ∧ u ≠ .pointer (some ⟨W.heap.size, 0, none⟩)) : MkAt P ops o A w (VA w.heap.size T cs) Vs (· ≠ ·) := by
  refine ⟨by simp [Region.wanted, hg], fun W hW => ?_⟩
  rw [hr W]
  exact ⟨ba (Below.refl _ _) _, ⟨W.heap.size, rfl, hW.size, Blk.new W T cs⟩, fun j u hu => hn j u W hu⟩
end
end Go.Proofs.Ytkknnnkbegigeaa
/- wide: numbers of 128 bits. -/
namespace Go.Proofs.Ytkknnnkbegigeaa
open Go Go.RowKit
set_option linter.unusedVariables false
set_option linter.unusedSimpArgs false
attribute [local go_sem] bmax2 bmin2 bmax bmin cell_ext frozen_ext

theorem info_num : (Try.prog.info? 71).map (·.size) = some 2 := by kernel_rfl
theorem wrapU (n : Int) : IntKind.u64.wrap n = n % 18446744073709551616 := rfl
/-- a number's halves, modulo 2^128 -/
def numH (z : Int) : Int := wrap64 (z / 18446744073709551616)
def numL (z : Int) : Int := z % 18446744073709551616
def numC (z : Int) : List Value := [.int .i64 (numH z), .int .u64 (numL z)]
theorem numC_length (z : Int) : (numC z).length = 2 := rfl
theorem numC_one (z : Int) : ∀ v ∈ numC z, v.oneCell' = true := by
  intro v hv; simp only [numC, List.mem_cons, List.not_mem_nil, or_false] at hv; rcases hv with rfl | rfl <;> rfl
theorem numL0 (z : Int) : 0 ≤ numL z := by unfold numL; omega
theorem numL1 (z : Int) : numL z < 18446744073709551616 := by unfold numL; omega
theorem not_bv (x : BitVec 64) : (BitVec.ofInt 64 (-1) ^^^ x).toNat = 18446744073709551615 - x.toNat := by
  have h : BitVec.ofInt 64 (-1) = BitVec.allOnes 64 := by decide
  rw [h, BitVec.allOnes_xor, BitVec.toNat_not]
theorem not_i64 (a : Int) (h0 : -9223372036854775808 ≤ a) (h1 : a < 9223372036854775808) : bits .xor .i64 (-1) a = -1 - a := by
  show IntKind.i64.wrap ((BitVec.ofInt 64 (-1) ^^^ BitVec.ofInt 64 a).toNat : Int) = _
  rw [not_bv, IntKind.wrap_i64, BitVec.toNat_ofInt]
  omega
theorem not_u64 (a : Int) (h0 : 0 ≤ a) (h1 : a < 18446744073709551616) : bits .xor .u64 IntKind.u64.max a = 18446744073709551615 - a := by
  have h : BitVec.ofInt 64 IntKind.u64.max = BitVec.ofInt 64 (-1) := by decide
  show IntKind.u64.wrap ((BitVec.ofInt 64 IntKind.u64.max ^^^ BitVec.ofInt 64 a).toNat : Int) = _
  rw [h, not_bv, IntKind.wrap_u64, BitVec.toNat_ofInt]
  omega
theorem wrap_wrap (n : Int) : wrap64 (wrap64 n) = wrap64 n := by unfold wrap64; omega
theorem numH0 (z : Int) : -9223372036854775808 ≤ numH z := by unfold numH wrap64; omega
theorem numH1 (z : Int) : numH z < 9223372036854775808 := by unfold numH wrap64; omega
theorem Blk.top {w : World} {n : Nat} (h : w.heap.size = n) (t : TypeId) (cs : Array Value) : Blk (w.alloc (.cells cs t)) n t cs := h ▸ Blk.new w t cs
theorem W_Of (n : Int) (h0 : -9223372036854775808 ≤ n) (h1 : n < 9223372036854775808) (w : World) : Calls Try.prog 33 #[.int .i64 n] w fun e w' => e = .returned (.agg (numC n).toArray) ∧ Below w.heap.size w w' := by
  have e1 : numH n = n / 9223372036854775808 := by unfold numH wrap64; omega
  have e2 : numL n = IntKind.u64.wrap n := rfl
  have e3 : numC n = [.int .i64 (n / 9223372036854775808), .int .u64 (IntKind.u64.wrap n)] := by unfold numC; rw [e1, e2]
  rw [e3]
  clear e1 e2 e3
  go_enter Try.func33, Try.ntmps33
  go_wp2
  refine bodyPost_ret (v := .agg #[.int .i64 (n / 9223372036854775808), .int .u64 (IntKind.u64.wrap n)]) ?_ rfl ⟨rfl, ba (Below.refl _ _) _⟩
  exact res_all Try.results33 w.heap.size 2 _ [.int .i64 (n / 9223372036854775808), .int .u64 (IntKind.u64.wrap n)] _ Try.underlying71 rfl info_num rfl (Blk.new _ _ _) _ rfl
theorem W_sum (x y : Int) (w : World) : Calls Try.prog 59 #[.agg (numC x).toArray, .agg (numC y).toArray] w fun e w' => e = .returned (.agg (numC (x + y)).toArray) ∧ Below w.heap.size w w' := by
  have hH : numH (x + y) = if numL x + numL y < 18446744073709551616 then wrap64 (numH x + numH y) else wrap64 (wrap64 (numH x + numH y) + 1) := by unfold numH numL wrap64; split <;> omega
  have hL : numL (x + y) = IntKind.u64.wrap (numL x + numL y) := by rw [wrapU]; unfold numL; omega
  have a0 := numL0 x
  have a1 := numL1 x
  have b0 := numL0 y
  have b1 := numL1 y
  unfold numC
  rw [hL]
  generalize numH (x + y) = c at hH ⊢
  generalize numH x = a at *
  generalize numH y = b at *
  generalize numL x = l at *
  generalize numL y = m at *
  clear hL
  by_cases h : l + m < 18446744073709551616
  · rw [if_pos h] at hH
    subst hH
    have g : decide (IntKind.u64.wrap (l + m) < l) = false := decide_eq_false (by rw [wrapU]; omega)
    have g2 : ¬ IntKind.u64.wrap (l + m) < l := by rw [wrapU]; omega
    go_enter Try.func59, Try.ntmps59
    go_wp2
    refine bodyPost_ret (v := .agg #[.int .i64 (wrap64 (a + b)), .int .u64 (IntKind.u64.wrap (l + m))]) ?_ rfl ⟨rfl, ba (ba (ba (Below.refl _ _) _) _) _⟩
    exact res_all Try.results59 (w.heap.size + 1 + 1) 2 _ [.int .i64 (wrap64 (a + b)), .int .u64 (IntKind.u64.wrap (l + m))] _ Try.underlying71 rfl info_num rfl (by rw [IntWalk.u64_in (l + m) (by omega), wrap_wrap]; exact Blk.top (by simp only [size_all]) _ _) _ rfl
  · rw [if_neg h] at hH
    subst hH
    have g : decide (IntKind.u64.wrap (l + m) < l) = true := decide_eq_true (by rw [wrapU]; omega)
    have g2 : IntKind.u64.wrap (l + m) < l := by rw [wrapU]; omega
    go_enter Try.func59, Try.ntmps59
    go_wp2
    refine bodyPost_ret (v := .agg #[.int .i64 (wrap64 (wrap64 (a + b) + 1)), .int .u64 (IntKind.u64.wrap (l + m))]) ?_ rfl ⟨rfl, ba (ba (ba (Below.refl _ _) _) _) _⟩
    exact res_all Try.results59 (w.heap.size + 1 + 1) 2 _ [.int .i64 (wrap64 (wrap64 (a + b) + 1)), .int .u64 (IntKind.u64.wrap (l + m))] _ Try.underlying71 rfl info_num rfl (Blk.top (by simp only [size_all]) _ _) _ rfl
theorem W_less (x : Int) (w : World) : Calls Try.prog 60 #[.agg (numC x).toArray] w fun e w' => e = .returned (.agg (numC (-x)).toArray) ∧ Below w.heap.size w w' := by
  have a0 := numL0 x
  have a1 := numL1 x
  have c0 := numH0 x
  have c1 := numH1 x
  have hH : numH (-x - 1) = -1 - numH x := by unfold numH wrap64; omega
  have hL : numL (-x - 1) = 18446744073709551615 - numL x := by unfold numL; omega
  have cS := fun w' => W_sum (-x - 1) 1 w'
  rw [show -x - 1 + 1 = -x by omega, show numC 1 = [.int .i64 0, .int .u64 1] by kernel_rfl] at cS
  have hC := numC_length (-x)
  have hO := numC_one (-x)
  generalize numC (-x) = C at *
  unfold numC at *
  rw [hH, hL, ← not_i64 _ c0 c1, ← not_u64 _ a0 a1] at cS
  generalize numH x = a at *
  generalize numL x = l at *
  clear hH hL
  have HN := kp (Blk.new (w.alloc (.cells #[.int .i64 a, .int .u64 l] 71)) 71 #[.int .i64 0, .int .u64 0])
  have HB := kp (ba (ba (Below.refl w.heap.size w) (.cells #[.int .i64 a, .int .u64 l] 71)) (.cells #[.int .i64 0, .int .u64 0] 71))
  rw [size_all] at HN
  have HC := kp hC
  have HO := kp hO
  clear hO
  go_enter Try.func60, Try.ntmps60
  go_wp2_with fail
  refine (cS _).mono ?_
  rintro e w1 ⟨rfl, hb⟩
  have h5 := HN.out.bel hb
  have SC := sc_all (P := Try.prog) (w := w1) (w.heap.size + 1) 71 C [.int .i64 0, .int .u64 0] h5 (by rw [HC.out]; rfl) HO.out
  have HX := kp (h5.row C.toArray)
  have HBX := kp (bsr (bt' HB.out hb HB.out.size) (Nat.le_succ w.heap.size) (Nat.le_trans HB.out.size hb.size) C.toArray)
  clear h5 hb HN HB
  generalize hY : w1.setRow (w.heap.size + 1) C.toArray = Y at SC HX HBX
  clear hY
  go_wp2
  refine bodyPost_ret (v := .agg C.toArray) ?_ rfl ⟨rfl, HBX.out⟩
  exact res_all Try.results60 (w.heap.size + 1) 2 _ _ _ Try.underlying71 rfl info_num HC.out HX.out _ rfl
theorem eqT_num : EqT Try.prog 71 [.int .i64, .int .u64] := ⟨by kernel_rfl, by kernel_rfl, by kernel_rfl, by kernel_rfl⟩
theorem W_Int (x : Int) (h0 : -170141183460469231731687303715884105728 ≤ x) (h1 : x < 170141183460469231731687303715884105728) (w : World) : Calls Try.prog 30 #[.agg (numC x).toArray] w fun e w' => e = .returned (.tuple (if -9223372036854775808 ≤ x ∧ x < 9223372036854775808 then #[.int .i64 x, .int .i64 0] else #[.int .i64 0, .int .i64 6])) ∧ Below w.heap.size w w' := by
  obtain ⟨n, hn⟩ : ∃ n, wrap64 (numL x) = n := ⟨_, rfl⟩
  have cO := kp (fun w' => W_Of n (by rw [← hn]; unfold wrap64; omega) (by rw [← hn]; unfold wrap64; omega) w')
  have hb : Kp (∀ b : Bool, (b = true ↔ (-9223372036854775808 ≤ x ∧ x < 9223372036854775808)) → ((numH n == numH x) && ((numL n == numL x) && true)) = b) := kp (by
    intro b hb
    rw [Bool.eq_iff_iff, hb]
    simp only [Bool.and_true, Bool.and_eq_true, beq_iff_eq, ← hn]
    unfold numH numL wrap64
    omega)
  have hnx : (-9223372036854775808 ≤ x ∧ x < 9223372036854775808) → n = x := by rw [← hn]; unfold numL wrap64; omega
  have HB := kp (ba (Below.refl w.heap.size w) (.cells (numC x).toArray 71))
  have hq : ∃ b : Bool, (b = true ↔ (-9223372036854775808 ≤ x ∧ x < 9223372036854775808)) := ⟨decide _, decide_eq_true_iff⟩
  obtain ⟨b, hq⟩ := hq
  have E := kp (hb.out b hq)
  unfold numC at cO HB ⊢
  generalize numH x = a at *
  generalize numL x = l at *
  generalize numH n = a2 at *
  generalize numL n = m at *
  cases b with
  | true =>
    rw [if_pos (hq.1 rfl)]
    have hx := hnx (hq.1 rfl)
    clear hnx hq hb
    subst hx
    go_enter Try.func30, Try.ntmps30
    go_wp2
    refine wp_region_ext [0, 1, 2] [3] (by kernel_rfl) (by kernel_rfl) ?_
    simp only [List.map_cons, List.map_nil, List.getD_cons_succ, List.getD_cons_zero]
    repeat (go_big_quiet_step (exact Calls.ext_of (cO.out _)))
    refine wpQuiet_nil ?_
    rintro z
    have HBX := kp (bt' HB.out (ext_below _ z) HB.out.size)
    generalize World.ext _ z = V at HBX ⊢
    refine wpL_val 11 rfl rfl (.bool false) (exec_nes eqT_num rfl (vs := [.int .i64 a2, .int .u64 m]) (us := [.int .i64 a, .int .u64 l]) rfl rfl ⟨rfl, rfl, trivial⟩ ⟨rfl, rfl, trivial⟩ rfl rfl (by show (!((a2 == a) && ((m == l) && true))) = _; rw [E.out]; rfl) _) ?_
    go_wp2
    go_ret2
    exact ⟨rfl, HBX.out⟩
  | false =>
    rw [if_neg (fun h => by have := hq.2 h; cases this)]
    clear hnx hq hb
    go_enter Try.func30, Try.ntmps30
    go_wp2
    refine wp_region_ext [0, 1, 2] [3] (by kernel_rfl) (by kernel_rfl) ?_
    simp only [List.map_cons, List.map_nil, List.getD_cons_succ, List.getD_cons_zero]
    repeat (go_big_quiet_step (exact Calls.ext_of (cO.out _)))
    refine wpQuiet_nil ?_
    rintro z
    have HBX := kp (bt' HB.out (ext_below _ z) HB.out.size)
    generalize World.ext _ z = V at HBX ⊢
    refine wpL_val 11 rfl rfl (.bool true) (exec_nes eqT_num rfl (vs := [.int .i64 a2, .int .u64 m]) (us := [.int .i64 a, .int .u64 l]) rfl rfl ⟨rfl, rfl, trivial⟩ ⟨rfl, rfl, trivial⟩ rfl rfl (by show (!((a2 == a) && ((m == l) && true))) = _; rw [E.out]; rfl) _) ?_
    go_wp2
    go_ret2
    exact ⟨rfl, HBX.out⟩
/-- numbers of 128 bits -/
def In128 (x : Int) : Prop := -170141183460469231731687303715884105728 ≤ x ∧ x < 170141183460469231731687303715884105728
instance (x : Int) : Decidable (In128 x) := inferInstanceAs (Decidable (_ ∧ _))
def overV (z : Int) : Value := if In128 z then .tuple #[.agg (numC z).toArray, .int .i64 0] else .tuple #[.agg (numC 0).toArray, .int .i64 6]
theorem numH_neg {x : Int} (h : In128 x) : decide (numH x < 0) = decide (x < 0) := by
  unfold In128 at h
  rw [Bool.eq_iff_iff, decide_eq_true_iff, decide_eq_true_iff]
  unfold numH wrap64
  omega
theorem numH_sub {x y : Int} (hx : In128 x) (hy : In128 y) : ((decide (numH x < 0) != decide (numH y < 0)) && (decide (numH (x - y) < 0) != decide (numH x < 0))) = !decide (In128 (x - y)) := by
  rw [numH_neg hx, numH_neg hy]
  unfold In128 at hx hy
  have h : numH (x - y) < 0 ↔ (170141183460469231731687303715884105728 ≤ x - y ∨ (-170141183460469231731687303715884105728 ≤ x - y ∧ x - y < 0)) := by unfold numH wrap64; omega
  generalize numH (x - y) = c at *
  by_cases g1 : x < 0 <;> by_cases g2 : y < 0 <;> by_cases g3 : c < 0
  all_goals
    simp only [g1, g2, g3, decide_true, decide_false, bne_self_eq_false, Bool.false_and, Bool.and_false]
    first
    | (rw [decide_eq_true (show In128 (x - y) by unfold In128; omega)]; rfl)
    | (rw [decide_eq_false (show ¬ In128 (x - y) by unfold In128; omega)]; rfl)
set_option maxHeartbeats 1000000 in
set_option maxRecDepth 100000 in
theorem W_Sub (x y : Int) (hx : In128 x) (hy : In128 y) (w : World) : Calls Try.prog 32 #[.agg (numC x).toArray, .agg (numC y).toArray] w fun e w' => e = .returned (overV (x - y)) ∧ Below w.heap.size w w' := by
  have cS := kp (fun w' => W_sum x (-y) w')
  have cL := kp (fun w' => W_less y w')
  rw [← Int.sub_eq_add_neg] at cS
  have hov := numH_sub hx hy
  have HR1 : Kp (In128 (x - y) → overV (x - y) = .tuple #[.agg (numC (x - y)).toArray, .int .i64 0]) := kp (fun h => if_pos h)
  have HR0 : Kp (¬ In128 (x - y) → overV (x - y) = .tuple #[.agg (numC 0).toArray, .int .i64 6]) := kp (fun h => if_neg h)
  generalize overV (x - y) = R at *
  have hCl := numC_length (x - y)
  have HC1 := kp (numC_one (x - y))
  have HC0 : Kp ((numC (x - y))[0]? = some (.int .i64 (numH (x - y)))) := kp rfl
  have HX0 : Kp ((numC x)[0]? = some (.int .i64 (numH x))) := kp rfl
  have HY0 : Kp ((numC y)[0]? = some (.int .i64 (numH y))) := kp rfl
  have H1 := kp (((Blk.new w 71 (numC x).toArray).alloc (.cells (numC y).toArray 71)).alloc (.cells #[.int .i64 0, .int .u64 0] 71))
  have H2 := kp ((Blk.new (w.alloc (.cells (numC x).toArray 71)) 71 (numC y).toArray).alloc (.cells #[.int .i64 0, .int .u64 0] 71))
  have H3 := kp (Blk.new ((w.alloc (.cells (numC x).toArray 71)).alloc (.cells (numC y).toArray 71)) 71 #[.int .i64 0, .int .u64 0])
  have HB := kp (ba (ba (ba (Below.refl w.heap.size w) (.cells (numC x).toArray 71)) (.cells (numC y).toArray 71)) (.cells #[.int .i64 0, .int .u64 0] 71))
  rw [size_all, size_all] at H3
  rw [size_all] at H2
  have hXl := numC_length x
  have hYl := numC_length y
  generalize numC (x - y) = C at *
  generalize numH (x - y) = c at *
  generalize numC x = X at *
  generalize numH x = a at *
  generalize numC y = Y at *
  generalize numH y = b at *
  go_enter Try.func32, Try.ntmps32
  go_upto_region 1 with (fail)
  change Code.wp _ _ _ _ (((w.alloc (.cells X.toArray 71)).alloc (.cells Y.toArray 71)).alloc (.cells #[.int .i64 0, .int .u64 0] 71))
  generalize ((w.alloc (.cells X.toArray 71)).alloc (.cells Y.toArray 71)).alloc (.cells #[.int .i64 0, .int .u64 0] 71) = W at H1 H2 H3 HB ⊢
  refine wp_region_mkE [0, 1, 2, 3] [4] [5] 29 (fun _ => VA W.heap.size 71 #[.int .i64 0, .int .u64 0]) (· ≠ ·) (by kernel_rfl) (by kernel_rfl) rfl (fun i v W W' h hb => h.mono hb) ?_
  apply Exists.intro
  refine ⟨fun V hV => ?_, ?_, ?_⟩
  · have L1 := kp (fun x => ld_all (P := Try.prog) w.heap.size 2 71 71 X _ Try.underlying71 rfl info_num hXl ((H1.out.bel hV).bel (ext_below V x)))
    have L2 := kp (fun x => ld_all (P := Try.prog) (w.heap.size + 1) 2 71 71 Y _ Try.underlying71 rfl info_num hYl ((H2.out.bel hV).bel (ext_below V x)))
    simp only [List.map_cons, List.map_nil, List.getD_cons_succ, List.getD_cons_zero]
    repeat (first
      | (go_big_quiet_want; refine quiet_load _ rfl 71 _ rfl rfl (fun w hw => by obtain ⟨x, rfl⟩ := hw; exact L1.out x) ?_; go_simp; go_big_quiet_on)
      | (go_big_quiet_want; refine quiet_load _ rfl 71 _ rfl rfl (fun w hw => by obtain ⟨x, rfl⟩ := hw; exact L2.out x) ?_; go_simp; go_big_quiet_on)
      | go_big_quiet_step (first | (go_at_call 60; with_reducible exact Calls.ext_of (cL.out _)) | (go_at_call 59; with_reducible exact Calls.ext_of (cS.out _))))
    exact wpQuiet_nil rfl
  · exact ⟨mk_alloc rfl (fun W => by kernel_rfl) (fun j u W h => h.ne), trivial⟩
  · intro ev _
    simp only [List.map_cons, List.map_nil, List.getD_cons_succ, List.getD_cons_zero, TailX]
    rintro V hV ⟨_, b4, rfl, hb4, hk4⟩
    have SC := sc_all (P := Try.prog) (w := V) b4 71 C [.int .i64 0, .int .u64 0] hk4 (by rw [hCl]; rfl) HC1.out
    have J4 := kp (hk4.row C.toArray)
    have J1 := kp ((H1.out.bel hV).rowfar (b := b4) (by have := H1.out.lt; omega) C.toArray)
    have J2 := kp ((H2.out.bel hV).rowfar (b := b4) (by have := H2.out.lt; omega) C.toArray)
    have J3 := kp ((H3.out.bel hV).rowfar (b := b4) (by have := H3.out.lt; omega) C.toArray)
    have hbx := bt' HB.out hV HB.out.size
    have JB := kp (bsr hbx (show w.heap.size ≤ b4 by have := HB.out.size; omega) hbx.size C.toArray)
    clear hV hk4 hbx hb4 H1 H2 H3 HB
    generalize V.setRow b4 C.toArray = U at SC J1 J2 J3 J4 JB
    go_upto_region 2 with (fail)
    clear SC
    have x0 := J1.out.atL HX0.out
    have y0 := J2.out.atL HY0.out
    have c0 := J4.out.atL HC0.out
    have k1 := J1.out.lt
    have k2 := J2.out.lt
    have k4 := J4.out.lt
    have LC := ld_all (P := Try.prog) b4 2 71 71 C _ Try.underlying71 rfl info_num hCl J4.out
    have hcase : In128 (x - y) ∨ ¬ In128 (x - y) := Decidable.em _
    rcases hcase with hin | hin
    · rw [decide_eq_true hin] at hov
      have HR := kp (HR1.out hin)
      have SC := sc_all (P := Try.prog) (w := U) (w.heap.size + 1 + 1) 71 C [.int .i64 0, .int .u64 0] J3.out (by rw [hCl]; rfl) HC1.out
      have HX := kp (J3.out.row C.toArray)
      have HBX := kp (bsr JB.out (show w.heap.size ≤ w.heap.size + 1 + 1 by omega) JB.out.size C.toArray)
      generalize U.setRow (w.heap.size + 1 + 1) C.toArray = U2 at SC HX HBX
      clear hin hx hy
      by_cases ga : a < 0 <;> by_cases gb : b < 0 <;> by_cases gc : c < 0
      all_goals
        first
        | (exfalso; revert hov; simp only [ga, gb, gc, decide_true, decide_false]; decide)
        | (clear hov
           first | (have g1 := decide_eq_true ga) | (have g1 := decide_eq_false ga)
           first | (have g2 := decide_eq_true gb) | (have g2 := decide_eq_false gb)
           first | (have g3 := decide_eq_true gc) | (have g3 := decide_eq_false gc)
           go_wp2_with (refine wpL_load rfl 71 _ rfl rfl LC ?_)
           refine bodyPost_ret (v := .tuple #[.agg C.toArray, .int .i64 0]) ?_ rfl ⟨by rw [HR.out], HBX.out⟩
           exact res2 Try.results32 (w.heap.size + 1 + 1) 2 _ _ _ Try.underlying71 rfl info_num hCl HX.out _ rfl _ rfl)
    · rw [decide_eq_false hin] at hov
      have HR := kp (HR0.out hin)
      have hZl := numC_length 0
      have hZ1 := numC_one 0
      have HZ : Kp (numC 0 = [.int .i64 0, .int .u64 0]) := kp (by kernel_rfl)
      obtain ⟨Z, hZ⟩ : ∃ Z, numC 0 = Z := ⟨_, rfl⟩
      rw [hZ] at HZ hZl hZ1 HR
      have SC := sc_all (P := Try.prog) (w := U) (w.heap.size + 1 + 1) 71 Z [.int .i64 0, .int .u64 0] J3.out (by rw [hZl]; rfl) hZ1
      have HX := kp (J3.out.row Z.toArray)
      have HBX := kp (bsr JB.out (show w.heap.size ≤ w.heap.size + 1 + 1 by omega) JB.out.size Z.toArray)
      generalize U.setRow (w.heap.size + 1 + 1) Z.toArray = U2 at SC HX HBX
      clear hin hx hy hZ hZ1
      by_cases ga : a < 0 <;> by_cases gb : b < 0 <;> by_cases gc : c < 0
      all_goals
        first
        | (exfalso; revert hov; simp only [ga, gb, gc, decide_true, decide_false]; decide)
        | (clear hov
           first | (have g1 := decide_eq_true ga) | (have g1 := decide_eq_false ga)
           first | (have g2 := decide_eq_true gb) | (have g2 := decide_eq_false gb)
           first | (have g3 := decide_eq_true gc) | (have g3 := decide_eq_false gc)
           go_wp2_with (refine wpL_val 27 rfl rfl (.agg Z.toArray) (by rw [HZ.out]; kernel_rfl) ?_)
           refine bodyPost_ret (v := .tuple #[.agg Z.toArray, .int .i64 6]) ?_ rfl ⟨by rw [HR.out], HBX.out⟩
           exact res2 Try.results32 (w.heap.size + 1 + 1) 2 _ _ _ Try.underlying71 rfl info_num hZl HX.out _ rfl _ rfl)
end Go.Proofs.Ytkknnnkbegigeaa
/- wide: parted. -/
namespace Go.Proofs.Ytkknnnkbegigeaa
open Go Go.RowKit
set_option linter.unusedVariables false
set_option linter.unusedSimpArgs false
attribute [local go_sem] bmax2 bmin2 bmax bmin cell_ext frozen_ext

/-- a function with three results: a struct or an array in a block, and two slots -/
theorem res3 {P : Program} {w : World} {fn : Func} {p q r : Tmp} {ty : TypeId} (h : fn.results = #[.cell p ty, .tmp q, .tmp r]) (g n : Nat) (t : TypeId) (cs : List Value) (d : TypeDesc) (hu : P.underlying ty = some d) (hd : aggB d = true) (hi : (P.info? ty).map (·.size) = some n) (hn : cs.length = n) (hb : Blk w g t cs.toArray)
    (tmps : Array Value) (hp : tmps.getD p undef = .pointer (some ⟨g, 0, none⟩)) (v : Value) (hq : tmps.getD q undef = v) (u : Value) (hr : tmps.getD r undef = u) : (results fn tmps).run P w = .ok (.tuple #[.agg cs.toArray, v, u]) w := by
  have hp' : tmps[p]?.getD undef = .pointer (some ⟨g, 0, none⟩) := by simpa using hp
  have hq' : tmps[q]?.getD undef = v := by simpa using hq
  have hr' : tmps[r]?.getD undef = u := by simpa using hr
  have hl := run_loadVar_row (P := P) w g t ty cs.toArray (0, 0) d hb hu (by cases d <;> simp_all [aggB]) (by rw [hi]; simp [hn])
  simp [results, h, hp', hq', hr', asAddr, hl]
theorem or_bit (r c : Nat) (hc : c < 2) (hr : r < 9223372036854775808) : bits .or .u64 ((r : Int) * 2) (c : Int) = ((r * 2 + c : Nat) : Int) := by
  have e3 := u64_or_nat (r * 2) c (by omega) (by omega)
  have e4 := nat_join 1 (r * 2) c (by omega) (by omega)
  rw [e4] at e3
  rw [← e3]
  rfl
theorem or_one (q : Nat) : bits .or .u64 (numL ((2 * q : Nat) : Int)) 1 = numL ((2 * q + 1 : Nat) : Int) := by
  have h1 : numL ((2 * q : Nat) : Int) = ((2 * q % 18446744073709551616 : Nat) : Int) := by unfold numL; omega
  have h2 : numL ((2 * q + 1 : Nat) : Int) = ((2 * q % 18446744073709551616 + 1 : Nat) : Int) := by unfold numL; omega
  have e3 := u64_or_nat (2 * q % 18446744073709551616) 1 (by omega) (by omega)
  have e4 := nat_join 1 (2 * q % 18446744073709551616) 1 (by omega) (by omega)
  rw [e4] at e3
  rw [h1, h2, ← e3]
  rfl
theorem and_one (n : Nat) (h : n < 18446744073709551616) : bits .and .u64 (n : Int) 1 = ((n % 2 : Nat) : Int) := by
  have e3 := u64_and_nat n 1 h (by omega)
  rw [Nat.and_one_is_mod] at e3
  exact e3
theorem bit_hi (x h j : Nat) (h1 : h < 18446744073709551616) (hh : x / 18446744073709551616 = h) (hj : 64 ≤ j) (hj2 : j < 128) : bits .and .u64 ((h : Int) / 2 ^ (j % 64)) 1 = ((x / 2 ^ j % 2 : Nat) : Int) := by
  have e : (h : Int) / 2 ^ (j % 64) = ((h / 2 ^ (j % 64) : Nat) : Int) := by rw [Int.natCast_ediv, Int.natCast_pow]; rfl
  rw [e, and_one _ (Nat.lt_of_le_of_lt (Nat.div_le_self _ _) h1), ← hh, show (18446744073709551616 : Nat) = 2 ^ 64 from rfl, Nat.div_div_eq_div_mul, ← Nat.pow_add, show 64 + j % 64 = j by omega]
theorem bit_lo (x l j : Nat) (hl : x % 18446744073709551616 = l) (hj : j < 64) : bits .and .u64 ((l : Int) / 2 ^ (j % 64)) 1 = ((x / 2 ^ j % 2 : Nat) : Int) := by
  have e : (l : Int) / 2 ^ (j % 64) = ((l / 2 ^ (j % 64) : Nat) : Int) := by rw [Int.natCast_ediv, Int.natCast_pow]; rfl
  rw [e, and_one _ (Nat.lt_of_le_of_lt (Nat.div_le_self _ _) (by omega)), Nat.mod_eq_of_lt hj]
  have h2 : (18446744073709551616 : Nat) = 2 ^ j * (2 * 2 ^ (63 - j)) := by rw [← Nat.pow_succ', ← Nat.pow_add, show j + (63 - j).succ = 64 by omega]
  have h3 := Nat.div_add_mod x 18446744073709551616
  rw [hl] at h3
  have h4 : x / 2 ^ j = 2 * (2 ^ (63 - j) * (x / 18446744073709551616)) + l / 2 ^ j := by
    conv => lhs; rw [← h3, h2, Nat.mul_assoc, Nat.mul_add_div (Nat.pow_pos (by omega))]
    rw [Nat.mul_assoc, ← h2]
  rw [h4]
  omega
theorem part_step (n b q r c R : Nat) (hb0 : 0 < b) (hr : r < b) (hc : c < 2) (hn : n = 2 * (b * q + r) + c) (hR : r * 2 + c = R) : (n / b = if R < b then 2 * q else 2 * q + 1) ∧ (n % b = if R < b then R else R - b) := by
  have h1 : n = b * (2 * q) + R := by rw [hn, Nat.mul_left_comm]; omega
  split
  · rename_i h
    rw [h1]
    constructor
    · rw [Nat.mul_add_div hb0, Nat.div_eq_of_lt h, Nat.add_zero]
    · rw [Nat.mul_add_mod, Nat.mod_eq_of_lt h]
  · rename_i h
    have h2 : n = b * (2 * q + 1) + (R - b) := by rw [h1, Nat.mul_add, Nat.mul_one]; omega
    have h3 : R - b < b := by omega
    rw [h2]
    constructor
    · rw [Nat.mul_add_div hb0, Nat.div_eq_of_lt h3, Nat.add_zero]
    · rw [Nat.mul_add_mod, Nat.mod_eq_of_lt h3]
set_option maxHeartbeats 1000000 in
set_option maxRecDepth 100000 in
theorem W_parted (x b : Nat) (hx : x < 170141183460469231731687303715884105728) (hb0 : 0 < b) (hb : b < 9223372036854775808) (w : World) : Calls Try.prog 61 #[.agg (numC x).toArray, .int .u64 (b : Int)] w fun e w' => e = .returned (.tuple #[.agg (numC ((x / b : Nat) : Int)).toArray, .int .u64 ((x % b : Nat) : Int)]) ∧ Below w.heap.size w w' := by
  obtain ⟨QF, hQF⟩ : ∃ QF : Nat, x / b = QF := ⟨_, rfl⟩
  obtain ⟨RF, hRF⟩ : ∃ RF : Nat, x % b = RF := ⟨_, rfl⟩
  have HQF := kp hQF
  have HRF := kp hRF
  rw [hQF, hRF]
  clear hQF hRF
  have H1 := kp ((Blk.new w 71 (numC x).toArray).alloc (.cells (numC 0).toArray 71))
  have H3 := kp (Blk.new (w.alloc (.cells (numC x).toArray 71)) 71 (numC 0).toArray)
  have HB := kp (ba (ba (Below.refl w.heap.size w) (.cells (numC x).toArray 71)) (.cells (numC 0).toArray 71))
  rw [size_all] at H3
  have HX0 : Kp ((numC x)[0]? = some (.int .i64 (numH x))) := kp rfl
  have HX1 : Kp ((numC x)[1]? = some (.int .u64 (numL x))) := kp rfl
  have HZ : Kp (numC 0 = [.int .i64 0, .int .u64 0]) := kp (by kernel_rfl)
  have hXl := numC_length x
  have hH : numH x = ((x / 18446744073709551616 : Nat) : Int) := by unfold numH wrap64; omega
  have hL : numL x = ((x % 18446744073709551616 : Nat) : Int) := by unfold numL; omega
  rw [hH] at HX0
  rw [hL] at HX1
  generalize hXX : numC x = X at *
  obtain ⟨h, hh⟩ : ∃ h, x / 18446744073709551616 = h := ⟨_, rfl⟩
  obtain ⟨l, hl⟩ : ∃ l, x % 18446744073709551616 = l := ⟨_, rfl⟩
  rw [hh] at HX0
  rw [hl] at HX1
  have h1 : h < 9223372036854775808 := by omega
  have l1 : l < 18446744073709551616 := by omega
  have hwr : IntKind.u64.wrap (h : Int) = (h : Int) := IntWalk.u64_in _ (by omega)
  have HH := kp hh
  have HLL := kp hl
  clear hh hl hH hL hXX
  go_enter Try.func61, Try.ntmps61
  go_wp2
  go_step3
  go_upto_region 1 with (fail)
  change Code.wp _ _ _ _ ((w.alloc (.cells X.toArray 71)).alloc (.cells #[.int .i64 0, .int .u64 0] 71))
  have hz : #[Value.int .i64 0, .int .u64 0] = (numC 0).toArray := by rw [HZ.out]
  rw [hz]
  clear hz
  generalize (w.alloc (.cells X.toArray 71)).alloc (.cells (numC 0).toArray 71) = W at H1 H3 HB ⊢
  have a0 := H1.out.atL HX0.out
  have kl := H1.out.lt
  go_wp2
  go_step3
  go_wp2
  clear a0
  go_loopw [5, 7, 8] (fun r i _ wr => ∃ j : Nat, j ≤ 128 ∧ r = .int .u64 (((x / 2 ^ j) % b : Nat) : Int) ∧ i = .int .i64 ((j : Int) - 1) ∧ Kp (Blk wr (w.heap.size + 1) 71 (numC (((x / 2 ^ j) / b : Nat) : Int)).toArray) ∧ Kp (Blk wr w.heap.size 71 X.toArray) ∧ Kp (Below w.heap.size w wr)) (fun _ i _ _ => (intOf i + 1).toNat)
  case atStart => 
    have hx0 : x / 2 ^ 128 = 0 := Nat.div_eq_of_lt (by omega)
    exact ⟨128, by omega, by rw [hx0, Nat.zero_mod]; rfl, rfl, by rw [hx0, Nat.zero_div]; exact H3, H1, HB⟩
  case round =>
    obtain ⟨j, hj, rfl, rfl, J3, J1, JB⟩ := hrel
    have x0 := J1.out.atL HX0.out
    have x1 := J1.out.atL HX1.out
    have k1 := J1.out.lt
    have k3 := J3.out.lt
    cases j with
    | zero =>
      obtain ⟨q, hq⟩ : ∃ q : Nat, x / 2 ^ 0 / b = q := ⟨_, rfl⟩
      obtain ⟨r, hr⟩ : ∃ r : Nat, x / 2 ^ 0 % b = r := ⟨_, rfl⟩
      rw [hq] at J3
      rw [hr]
      rw [Nat.pow_zero, Nat.div_one] at hq hr
      obtain rfl : q = QF := by rw [← HQF.out, hq]
      obtain rfl : r = RF := by rw [← HRF.out, hr]
      clear hq hr x0 x1 HX0 HX1 HH HLL
      have hCl := numC_length (q : Int)
      have hC1 := numC_one (q : Int)
      obtain ⟨C, hC⟩ : ∃ C, numC (q : Int) = C := ⟨_, rfl⟩
      rw [hC] at hCl hC1 J3
      have HC := kp hC
      clear hC
      have LQ := ld_all (P := Try.prog) (w.heap.size + 1) 2 71 71 C _ Try.underlying71 rfl info_num hCl J3.out
      have SC := sc_same (P := Try.prog) (w := wr) (w.heap.size + 1) 71 C J3.out hC1
      go_wp2_with (refine wpL_load rfl 71 _ rfl rfl LQ ?_)
      try rw [Exit.noGoto_ret]
      refine bodyPost_ret (v := .tuple #[.agg C.toArray, .int .u64 (r : Int)]) ?_ rfl ⟨by rw [HC.out], JB.out⟩
      exact res2 Try.results61 (w.heap.size + 1) 2 _ _ _ Try.underlying71 rfl info_num hCl J3.out _ rfl _ rfl
    | succ j =>
      rw [show ((j + 1 : Nat) : Int) - 1 = (j : Int) by omega]
      obtain ⟨q, hq⟩ : ∃ q : Nat, x / 2 ^ (j + 1) / b = q := ⟨_, rfl⟩
      obtain ⟨r, hr⟩ : ∃ r : Nat, x / 2 ^ (j + 1) % b = r := ⟨_, rfl⟩
      obtain ⟨c, hc⟩ : ∃ c : Nat, x / 2 ^ j % 2 = c := ⟨_, rfl⟩
      rw [hq] at J3
      rw [hr]
      have hrb : r < b := hr ▸ Nat.mod_lt _ hb0
      have hc2 : c < 2 := by omega
      have hxj : x / 2 ^ j = 2 * (b * q + r) + c := by
        have h1 : b * (x / 2 ^ (j + 1) / b) + x / 2 ^ (j + 1) % b = x / 2 ^ (j + 1) := Nat.div_add_mod _ b
        rw [hq, hr] at h1
        have h2 : x / 2 ^ (j + 1) = x / 2 ^ j / 2 := by rw [Nat.div_div_eq_div_mul, Nat.pow_succ]
        omega
      have hR := or_bit r c hc2 (by omega)
      obtain ⟨R, hRR⟩ : ∃ R, r * 2 + c = R := ⟨_, rfl⟩
      rw [hRR] at hR
      have hn : ((x / 2 ^ j) / b = if R < b then 2 * q else 2 * q + 1) ∧ ((x / 2 ^ j) % b = if R < b then R else R - b) := part_step _ b q r c R hb0 hrb hc2 hxj hRR
      have hql : (q : Int) + (q : Int) = ((2 * q : Nat) : Int) := by omega
      have cS := kp (fun w' => W_sum (q : Int) (q : Int) w')
      rw [hql] at cS
      have hlow : bits .or .u64 (numL ((2 * q : Nat) : Int)) 1 = numL ((2 * q + 1 : Nat) : Int) := or_one q
      have hhi : numH ((2 * q + 1 : Nat) : Int) = numH ((2 * q : Nat) : Int) := by unfold numH wrap64; omega
      have hCl := numC_length (q : Int)
      have LQ := ld_all (P := Try.prog) (w.heap.size + 1) 2 71 71 (numC (q : Int)) _ Try.underlying71 rfl info_num hCl J3.out
      have HN := kp hn
      have hRlt : R < 18446744073709551616 := by omega
      have hD0 : Kp ((numC ((2 * q : Nat) : Int))[1]? = some (.int .u64 (numL ((2 * q : Nat) : Int)))) := kp rfl
      have hD : Kp ((numC ((2 * q : Nat) : Int)).set 1 (.int .u64 (numL ((2 * q + 1 : Nat) : Int))) = numC ((2 * q + 1 : Nat) : Int)) := kp (by unfold numC; rw [hhi]; rfl)
      have hDl := numC_length ((2 * q : Nat) : Int)
      have hD1 := numC_one ((2 * q : Nat) : Int)
      generalize numC (q : Int) = C at *
      obtain ⟨D, hdd⟩ : ∃ D, numC ((2 * q : Nat) : Int) = D := ⟨_, rfl⟩
      have HDD := kp hdd
      rw [hdd] at hD0 hD hDl hD1 cS
      clear hdd
      obtain ⟨E, hE⟩ : ∃ E, numC ((2 * q + 1 : Nat) : Int) = E := ⟨_, rfl⟩
      have HE := kp hE
      rw [hE] at hD
      have hg := hE ▸ numC_length ((2 * q + 1 : Nat) : Int)
      generalize numL ((2 * q : Nat) : Int) = lo at *
      generalize numL ((2 * q + 1 : Nat) : Int) = lo2 at *
      clear hE hxj hRR hql hhi
      generalize hQ2 : 2 * q = Q2 at *
      generalize hQ3 : Q2 + 1 = Q3 at *
      clear hQ2 hq hr
      have hb64 : (64 ≤ j ∧ bits .and .u64 ((h : Int) / 2 ^ (j % 64)) 1 = (c : Int)) ∨ (¬ 64 ≤ j ∧ bits .and .u64 ((l : Int) / 2 ^ (j % 64)) 1 = (c : Int)) := by
        rw [← hc]
        by_cases h64 : 64 ≤ j
        · exact .inl ⟨h64, bit_hi x h j (by omega) HH.out h64 (by omega)⟩
        · exact .inr ⟨h64, bit_lo x l j HLL.out (by omega)⟩
      have FIN : Kp (∀ (w3 : World) (q3 r3 : Nat), x / 2 ^ j / b = q3 → x / 2 ^ j % b = r3 → Blk w3 (w.heap.size + 1) 71 (numC (q3 : Int)).toArray → Blk w3 w.heap.size 71 X.toArray → Below w.heap.size w w3 →
          ∃ j2 : Nat, j2 ≤ 128 ∧ Value.int .u64 (r3 : Int) = .int .u64 (((x / 2 ^ j2) % b : Nat) : Int) ∧ Value.int .i64 ((j : Int) - 1) = .int .i64 ((j2 : Int) - 1) ∧ Kp (Blk w3 (w.heap.size + 1) 71 (numC (((x / 2 ^ j2) / b : Nat) : Int)).toArray) ∧ Kp (Blk w3 w.heap.size 71 X.toArray) ∧ Kp (Below w.heap.size w w3)) := kp (by
        intro w3 q3 r3 e1 e2 k1 k2 k3
        exact ⟨j, by omega, by rw [e2], rfl, kp (by rw [e1]; exact k1), kp k2, kp k3⟩)
      clear hn
      rcases hb64 with ⟨h64, hbit⟩ | ⟨h64, hbit⟩
      all_goals
        have hc' := kp hc
        clear hc
        go_wp2_with (refine wpL_load rfl 71 _ rfl rfl LQ ?_)
        refine (cS.out _).mono ?_
        rintro e w1 ⟨rfl, hb1⟩
        have M3 := J3.out.bel hb1
        have M1 := kp (J1.out.bel hb1)
        have MB := kp (bt' JB.out hb1 JB.out.size)
        have SC := sc_all (P := Try.prog) (w := w1) (w.heap.size + 1) 71 D C M3 (by rw [hDl, hCl]) hD1
        have N3 := kp (M3.row D.toArray)
        have N1 := kp (M1.out.rowfar (b := w.heap.size + 1) (by omega) D.toArray)
        have NB := kp (bsr MB.out (show w.heap.size ≤ w.heap.size + 1 by omega) MB.out.size D.toArray)
        clear M3 M1 MB hb1
        generalize w1.setRow (w.heap.size + 1) D.toArray = w2 at SC N3 N1 NB
        have d1 := N3.out.atL hD0.out
        have kk := N3.out.lt
        have fz := N3.out.frozen 1
        by_cases hlt : R < b
        · have hlt2 : (R : Int) < (b : Int) := by omega
          have e1 := HN.out.1
          have e2 := HN.out.2
          rw [if_pos hlt] at e1 e2
          have E1 := kp e1
          have E2 := kp e2
          clear e1 e2
          go_wp2
          go_roundw
          case measure => simp [intOf]
          case rel => exact FIN.out _ _ _ E1.out E2.out (by rw [HDD.out]; exact N3.out) N1.out NB.out
        · have hlt2 : ¬ (R : Int) < (b : Int) := by omega
          have e1 := HN.out.1
          have e2 := HN.out.2
          rw [if_neg hlt] at e1 e2
          have E1 := kp e1
          have E2 := kp e2
          clear e1 e2
          have hsub : (R : Int) - (b : Int) = ((R - b : Nat) : Int) := by omega
          have hRl : R - b < 18446744073709551616 := by omega
          have hwr2 : IntKind.u64.wrap ((R - b : Nat) : Int) = ((R - b : Nat) : Int) := IntWalk.u64_in _ (by omega)
          generalize hRb : R - b = Rb at *
          clear hRb
          have P3 := kp (N3.out.setL 1 (.int .u64 lo2))
          have P1 := kp (N1.out.far (p := ⟨w.heap.size + 1, 1, none⟩) (by show _ ≠ _; simp) (.int .u64 lo2))
          have PB := kp (bsc NB.out (p := ⟨w.heap.size + 1, 1, none⟩) (by show _ ≤ _; simp) (.int .u64 lo2))
          rw [hD.out] at P3
          go_wp2
          go_roundw
          case measure => simp [intOf]
          case rel => exact FIN.out _ _ _ E1.out E2.out (by rw [HE.out]; exact P3.out) P1.out PB.out
theorem build_num (a b : Int) (W : World) : (Instr.build 71 #[(0, .int .i64 a), (1, .int .u64 b)]).run Try.prog W = .ok (.agg ([.int .i64 a, .int .u64 b] : List Value).toArray) W := run_build W 71 _ _ (by kernel_rfl)
set_option maxHeartbeats 1000000 in
set_option maxRecDepth 100000 in
theorem W_Div (x : Int) (b : Nat) (hx : In128 x) (hb0 : 0 < b) (hb : b < 9223372036854775808) (w : World) : Calls Try.prog 35 #[.agg (numC x).toArray, .int .i64 (b : Int)] w fun e w' => e = .returned (.tuple #[.agg (numC (x / b)).toArray, .int .i64 (x % b), .int .i64 0]) ∧ Below w.heap.size w w' := by
  have HX0 : Kp ((numC x)[0]? = some (.int .i64 (numH x))) := kp rfl
  have HX1 : Kp ((numC x)[1]? = some (.int .u64 (numL x))) := kp rfl
  have hXl := numC_length x
  have l0 := numL0 x
  have l1 := numL1 x
  have h0 := numH0 x
  have h1 := numH1 x
  unfold In128 at hx
  have hu : IntKind.u64.wrap (b : Int) = (b : Int) := IntWalk.u64_in _ (by omega)
  have hbi : ¬ (b : Int) < 1 := by omega
  have H1 := kp ((Blk.new w 71 (numC x).toArray).alloc (.cells (numC 0).toArray 71))
  have H3 := kp (Blk.new (w.alloc (.cells (numC x).toArray 71)) 71 (numC 0).toArray)
  have HB := kp (ba (ba (Below.refl w.heap.size w) (.cells (numC x).toArray 71)) (.cells (numC 0).toArray 71))
  rw [size_all] at H3
  have HZ : Kp (numC 0 = [.int .i64 0, .int .u64 0]) := kp (by kernel_rfl)
  by_cases hneg : x < 0
  · have hp : 0 ≤ -x - 1 := by omega
    obtain ⟨n, hn⟩ : ∃ n : Nat, -x - 1 = (n : Int) := ⟨(-x - 1).toNat, by omega⟩
    have cP := kp (fun w' => W_parted n b (by omega) hb0 hb w')
    have hH : numH x < 0 := by unfold numH wrap64; omega
    have hH2 : decide (0 ≤ numH x) = false := decide_eq_false (by omega)
    clear hH
    have hmb : n % b < b := Nat.mod_lt _ hb0
    have hqx : x / (b : Int) = -((n / b : Nat) : Int) - 1 := by
      have h2 : (n : Int) = (b : Int) * ((n / b : Nat) : Int) + ((n % b : Nat) : Int) := by rw [← Int.natCast_mul, ← Int.natCast_add, Nat.div_add_mod]
      have h3 : x = (b : Int) * (-((n / b : Nat) : Int) - 1) + ((b : Int) - 1 - ((n % b : Nat) : Int)) := by rw [Int.mul_sub, Int.mul_neg]; omega
      rw [h3, Int.mul_add_ediv_left _ _ (by omega), Int.ediv_eq_zero_of_lt (by omega) (by omega), Int.add_zero]
    have hmx : x % (b : Int) = (b : Int) - 1 - ((n % b : Nat) : Int) := by
      have h2 : (n : Int) = (b : Int) * ((n / b : Nat) : Int) + ((n % b : Nat) : Int) := by rw [← Int.natCast_mul, ← Int.natCast_add, Nat.div_add_mod]
      have h3 : x = (b : Int) * (-((n / b : Nat) : Int) - 1) + ((b : Int) - 1 - ((n % b : Nat) : Int)) := by rw [Int.mul_sub, Int.mul_neg]; omega
      rw [h3, Int.mul_add_emod_self_left, Int.emod_eq_of_lt (by omega) (by omega)]
    rw [hqx, hmx]
    have eA : numC (n : Int) = [.int .i64 (bits .xor .i64 (-1) (numH x)), .int .u64 (bits .xor .u64 IntKind.u64.max (numL x))] := by
      rw [not_i64 _ h0 h1, not_u64 _ l0 l1, ← hn]
      unfold numC
      rw [show numH (-x - 1) = -1 - numH x by unfold numH wrap64; omega, show numL (-x - 1) = 18446744073709551615 - numL x by unfold numL; omega]
    obtain ⟨q, hq⟩ : ∃ q, n / b = q := ⟨_, rfl⟩
    rw [hq] at cP ⊢
    have q0 := numL0 (q : Int)
    have q1 := numL1 (q : Int)
    have q2 := numH0 (q : Int)
    have q3 := numH1 (q : Int)
    have eB : numC (-(q : Int) - 1) = [.int .i64 (bits .xor .i64 (-1) (numH (q : Int))), .int .u64 (bits .xor .u64 IntKind.u64.max (numL (q : Int)))] := by
      rw [not_i64 _ q2 q3, not_u64 _ q0 q1]
      unfold numC
      rw [show numH (-(q : Int) - 1) = -1 - numH (q : Int) by unfold numH wrap64; omega, show numL (-(q : Int) - 1) = 18446744073709551615 - numL (q : Int) by unfold numL; omega]
    rw [eA] at cP
    have D0 : Kp ((numC (q : Int))[0]? = some (.int .i64 (numH (q : Int)))) := kp rfl
    have D1 : Kp ((numC (q : Int))[1]? = some (.int .u64 (numL (q : Int)))) := kp rfl
    have hDl := numC_length (q : Int)
    have hD1 := kp (numC_one (q : Int))
    have hZl := numC_length 0
    have EB := kp eB
    clear eA eB hqx hmx hn hneg hp hx hq q0 q1 q2 q3
    generalize n % b = m at *
    have HMB := kp hmb
    clear hmb
    generalize numC (q : Int) = D at *
    generalize numH (q : Int) = qh at *
    generalize numL (q : Int) = ql at *
    generalize numH x = hh at *
    generalize numL x = ll at *
    generalize numC x = X at *
    clear h0 h1 l0 l1
    go_enter Try.func35, Try.ntmps35
    go_upto_region 1 with (fail)
    change Code.wp _ _ _ _ ((w.alloc (.cells X.toArray 71)).alloc (.cells #[.int .i64 0, .int .u64 0] 71))
    have hz : #[Value.int .i64 0, .int .u64 0] = (numC 0).toArray := by rw [HZ.out]
    rw [hz]
    clear hz
    generalize numC 0 = Z at *
    generalize (w.alloc (.cells X.toArray 71)).alloc (.cells Z.toArray 71) = W at H1 H3 HB ⊢
    have x0 := H1.out.atL HX0.out
    have x1 := H1.out.atL HX1.out
    have k1 := H1.out.lt
    go_wp2_with fail
    refine (cP.out _).mono ?_
    rintro e w1 ⟨rfl, hb1⟩
    have J3 := kp (H3.out.bel hb1)
    have JB := kp (bt' HB.out hb1 HB.out.size)
    clear hb1
    have SC := sc_new (P := Try.prog) w1 71 D hD1.out #[.int .i64 0, .int .u64 0] (by rw [hDl]; rfl)
    have J3 := kp (J3.out.alloc (.cells D.toArray 71))
    have JB := kp (ba JB.out (.cells D.toArray 71))
    have J9 := kp (Blk.new w1 71 D.toArray)
    have k9 := J9.out.lt
    go_upto_region 7 with (fail)
    change Code.wp _ _ _ _ (w1.alloc (.cells D.toArray 71))
    clear SC x0 x1
    generalize w1.alloc (.cells D.toArray 71) = W5 at J3 JB J9 k9 ⊢
    have d0 := J9.out.atL D0.out
    have d1 := J9.out.atL D1.out
    have hEl := numC_length (-(q : Int) - 1)
    have hE1 := kp (numC_one (-(q : Int) - 1))
    have SC := sc_all (P := Try.prog) (w := W5) (w.heap.size + 1) 71 (numC (-(q : Int) - 1)) Z J3.out (by rw [hEl, hZl]) hE1.out
    have HX := kp (J3.out.row (numC (-(q : Int) - 1)).toArray)
    have HBX := kp (bsr JB.out (show w.heap.size ≤ w.heap.size + 1 by omega) JB.out.size (numC (-(q : Int) - 1)).toArray)
    obtain ⟨E, hE⟩ : ∃ E, numC (-(q : Int) - 1) = E := ⟨_, rfl⟩
    rw [hE] at SC HX HBX EB hEl hE1
    have HE := kp hE
    clear hE
    generalize W5.setRow (w.heap.size + 1) E.toArray = W6 at SC HX HBX
    have hmb := HMB.out
    have hm : IntKind.i64.wrap (m : Int) = (m : Int) := IntWalk.i64_in _ (by omega)
    have hm2 : (m : Int) < 9223372036854775808 := by omega
    have hw1 : wrap64 ((b : Int) - 1) = (b : Int) - 1 := IntWalk.wrap64_in _ (by omega)
    have hw2 : wrap64 ((b : Int) - 1 - (m : Int)) = (b : Int) - 1 - (m : Int) := IntWalk.wrap64_in _ (by omega)
    go_wp2_with (refine wpL_val 46 rfl rfl (.agg E.toArray) ((exec_build (parts := #[(0, .int .i64 (bits .xor .i64 (-1) qh)), (1, .int .u64 (bits .xor .u64 IntKind.u64.max ql))]) rfl (by simp [Act.eval, Act.put]) (build_num _ _ _)).trans (by rw [EB.out])) ?_)
    refine bodyPost_ret (v := .tuple #[.agg E.toArray, .int .i64 ((b : Int) - 1 - (m : Int)), .int .i64 0]) ?_ rfl ⟨by rw [HE.out], HBX.out⟩
    exact res3 Try.results35 (w.heap.size + 1) 2 _ _ _ Try.underlying71 rfl info_num hEl HX.out _ rfl _ rfl _ rfl
  · obtain ⟨n, rfl⟩ : ∃ n : Nat, x = (n : Int) := ⟨x.toNat, by omega⟩
    have cP := kp (fun w' => W_parted n b (by omega) hb0 hb w')
    have hH : ¬ numH (n : Int) < 0 := by unfold numH wrap64; omega
    have hH2 : 0 ≤ numH (n : Int) := by omega
    have hmb : n % b < b := Nat.mod_lt _ hb0
    rw [show ((n : Int) / (b : Int)) = ((n / b : Nat) : Int) by simp, show ((n : Int) % (b : Int)) = ((n % b : Nat) : Int) by simp]
    have hDl := numC_length ((n / b : Nat) : Int)
    have hD1 := kp (numC_one ((n / b : Nat) : Int))
    have hZl := numC_length 0
    obtain ⟨D, hDD⟩ : ∃ D, numC ((n / b : Nat) : Int) = D := ⟨_, rfl⟩
    have HDD := kp hDD
    rw [hDD] at hDl hD1 cP
    clear hDD
    generalize n % b = m at *
    have hm : IntKind.i64.wrap (m : Int) = (m : Int) := IntWalk.i64_in _ (by omega)
    have hm2 : (m : Int) < 9223372036854775808 := by omega
    generalize numH (n : Int) = hh at *
    generalize numL (n : Int) = ll at *
    generalize numC (n : Int) = X at *
    go_enter Try.func35, Try.ntmps35
    go_upto_region 1 with (fail)
    change Code.wp _ _ _ _ ((w.alloc (.cells X.toArray 71)).alloc (.cells #[.int .i64 0, .int .u64 0] 71))
    have hz : #[Value.int .i64 0, .int .u64 0] = (numC 0).toArray := by rw [HZ.out]
    rw [hz]
    clear hz
    generalize numC 0 = Z at *
    generalize (w.alloc (.cells X.toArray 71)).alloc (.cells Z.toArray 71) = W at H1 H3 HB ⊢
    have x0 := H1.out.atL HX0.out
    have k1 := H1.out.lt
    have LX := ld_all (P := Try.prog) w.heap.size 2 71 71 X _ Try.underlying71 rfl info_num hXl H1.out
    go_wp2_with (refine wpL_load rfl 71 _ rfl rfl LX ?_)
    refine (cP.out _).mono ?_
    rintro e w1 ⟨rfl, hb1⟩
    have J3 := kp (H3.out.bel hb1)
    have JB := kp (bt' HB.out hb1 HB.out.size)
    clear hb1
    have SC := sc_new (P := Try.prog) w1 71 D hD1.out #[.int .i64 0, .int .u64 0] (by rw [hDl]; rfl)
    have J3 := kp (J3.out.alloc (.cells D.toArray 71))
    have JB := kp (ba JB.out (.cells D.toArray 71))
    have J9 := kp (Blk.new w1 71 D.toArray)
    have k9 := J9.out.lt
    go_upto_region 5 with (fail)
    change Code.wp _ _ _ _ (w1.alloc (.cells D.toArray 71))
    clear SC LX x0
    generalize w1.alloc (.cells D.toArray 71) = W5 at J3 JB J9 k9 ⊢
    have SC := sc_all (P := Try.prog) (w := W5) (w.heap.size + 1) 71 D Z J3.out (by rw [hDl, hZl]) hD1.out
    have LD := ld_all (P := Try.prog) w1.heap.size 2 71 71 D _ Try.underlying71 rfl info_num hDl J9.out
    have HX := kp (J3.out.row D.toArray)
    have HBX := kp (bsr JB.out (show w.heap.size ≤ w.heap.size + 1 by omega) JB.out.size D.toArray)
    generalize W5.setRow (w.heap.size + 1) D.toArray = W6 at SC HX HBX
    go_wp2_with (refine wpL_load rfl 71 _ rfl rfl LD ?_)
    refine bodyPost_ret (v := .tuple #[.agg D.toArray, .int .i64 (m : Int), .int .i64 0]) ?_ rfl ⟨by rw [HDD.out], HBX.out⟩
    exact res3 Try.results35 (w.heap.size + 1) 2 _ _ _ Try.underlying71 rfl info_num hDl HX.out _ rfl _ rfl _ rfl
end Go.Proofs.Ytkknnnkbegigeaa
/- wide: sums, sizes, products. -/
namespace Go.Proofs.Ytkknnnkbegigeaa
open Go Go.RowKit
set_option linter.unusedVariables false
set_option linter.unusedSimpArgs false
attribute [local go_sem] bmax2 bmin2 bmax bmin cell_ext frozen_ext

theorem numH_add {x y : Int} (hx : In128 x) (hy : In128 y) : ((decide (numH x < 0) == decide (numH y < 0)) && (decide (numH (x + y) < 0) != decide (numH x < 0))) = !decide (In128 (x + y)) := by
  rw [numH_neg hx, numH_neg hy]
  unfold In128 at hx hy
  have h : numH (x + y) < 0 ↔ (170141183460469231731687303715884105728 ≤ x + y ∨ (-170141183460469231731687303715884105728 ≤ x + y ∧ x + y < 0)) := by unfold numH wrap64; omega
  generalize numH (x + y) = c at *
  by_cases g1 : x < 0 <;> by_cases g2 : y < 0 <;> by_cases g3 : c < 0
  all_goals
    simp only [g1, g2, g3, decide_true, decide_false]
    first
    | (rw [decide_eq_true (show In128 (x + y) by unfold In128; omega)]; rfl)
    | (rw [decide_eq_false (show ¬ In128 (x + y) by unfold In128; omega)]; rfl)
set_option maxHeartbeats 1000000 in
set_option maxRecDepth 100000 in
theorem W_Add (x y : Int) (hx : In128 x) (hy : In128 y) (w : World) : Calls Try.prog 34 #[.agg (numC x).toArray, .agg (numC y).toArray] w fun e w' => e = .returned (overV (x + y)) ∧ Below w.heap.size w w' := by
  have cS := kp (fun w' => W_sum x y w')
  have hov := numH_add hx hy
  have HR1 : Kp (In128 (x + y) → overV (x + y) = .tuple #[.agg (numC (x + y)).toArray, .int .i64 0]) := kp (fun h => if_pos h)
  have HR0 : Kp (¬ In128 (x + y) → overV (x + y) = .tuple #[.agg (numC 0).toArray, .int .i64 6]) := kp (fun h => if_neg h)
  generalize overV (x + y) = R at *
  have hCl := numC_length (x + y)
  have HC1 := kp (numC_one (x + y))
  have HC0 : Kp ((numC (x + y))[0]? = some (.int .i64 (numH (x + y)))) := kp rfl
  have HX0 : Kp ((numC x)[0]? = some (.int .i64 (numH x))) := kp rfl
  have HY0 : Kp ((numC y)[0]? = some (.int .i64 (numH y))) := kp rfl
  have H1 := kp (((Blk.new w 71 (numC x).toArray).alloc (.cells (numC y).toArray 71)).alloc (.cells #[.int .i64 0, .int .u64 0] 71))
  have H2 := kp ((Blk.new (w.alloc (.cells (numC x).toArray 71)) 71 (numC y).toArray).alloc (.cells #[.int .i64 0, .int .u64 0] 71))
  have H3 := kp (Blk.new ((w.alloc (.cells (numC x).toArray 71)).alloc (.cells (numC y).toArray 71)) 71 #[.int .i64 0, .int .u64 0])
  have HB := kp (ba (ba (ba (Below.refl w.heap.size w) (.cells (numC x).toArray 71)) (.cells (numC y).toArray 71)) (.cells #[.int .i64 0, .int .u64 0] 71))
  rw [size_all, size_all] at H3
  rw [size_all] at H2
  have hXl := numC_length x
  have hYl := numC_length y
  generalize numC (x + y) = C at *
  generalize numH (x + y) = c at *
  generalize numC x = X at *
  generalize numH x = a at *
  generalize numC y = Y at *
  generalize numH y = b at *
  go_enter Try.func34, Try.ntmps34
  go_upto_region 1 with (fail)
  change Code.wp _ _ _ _ (((w.alloc (.cells X.toArray 71)).alloc (.cells Y.toArray 71)).alloc (.cells #[.int .i64 0, .int .u64 0] 71))
  generalize ((w.alloc (.cells X.toArray 71)).alloc (.cells Y.toArray 71)).alloc (.cells #[.int .i64 0, .int .u64 0] 71) = W at H1 H2 H3 HB ⊢
  have L1 := ld_all (P := Try.prog) w.heap.size 2 71 71 X _ Try.underlying71 rfl info_num hXl H1.out
  have L2 := ld_all (P := Try.prog) (w.heap.size + 1) 2 71 71 Y _ Try.underlying71 rfl info_num hYl H2.out
  go_wp2_with (first | (refine wpL_load rfl 71 _ rfl rfl L1 ?_) | (refine wpL_load rfl 71 _ rfl rfl L2 ?_))
  refine (cS.out _).mono ?_
  rintro e w1 ⟨rfl, hb1⟩
  clear L1 L2
  have SC := sc_new (P := Try.prog) w1 71 C HC1.out #[.int .i64 0, .int .u64 0] (by rw [hCl]; rfl)
  have J1 := kp ((H1.out.bel hb1).alloc (.cells C.toArray 71))
  have J2 := kp ((H2.out.bel hb1).alloc (.cells C.toArray 71))
  have J3 := kp ((H3.out.bel hb1).alloc (.cells C.toArray 71))
  have J4 := kp (Blk.new w1 71 C.toArray)
  have JB := kp (ba (bt' HB.out hb1 HB.out.size) (.cells C.toArray 71))
  clear hb1 H1 H2 H3 HB
  go_upto_region 2 with (fail)
  change Code.wp _ _ _ _ (w1.alloc (.cells C.toArray 71))
  generalize w1.alloc (.cells C.toArray 71) = U at J1 J2 J3 J4 JB ⊢
  clear SC
  generalize hb4 : w1.heap.size = b4 at *
  clear hb4
  have x0 := J1.out.atL HX0.out
  have y0 := J2.out.atL HY0.out
  have c0 := J4.out.atL HC0.out
  have k1 := J1.out.lt
  have k2 := J2.out.lt
  have k4 := J4.out.lt
  have LC := ld_all (P := Try.prog) b4 2 71 71 C _ Try.underlying71 rfl info_num hCl J4.out
  have hcase : In128 (x + y) ∨ ¬ In128 (x + y) := Decidable.em _
  rcases hcase with hin | hin
  · rw [decide_eq_true hin] at hov
    have HR := kp (HR1.out hin)
    have SC := sc_all (P := Try.prog) (w := U) (w.heap.size + 1 + 1) 71 C [.int .i64 0, .int .u64 0] J3.out (by rw [hCl]; rfl) HC1.out
    have HX := kp (J3.out.row C.toArray)
    have HBX := kp (bsr JB.out (show w.heap.size ≤ w.heap.size + 1 + 1 by omega) JB.out.size C.toArray)
    generalize U.setRow (w.heap.size + 1 + 1) C.toArray = U2 at SC HX HBX
    clear hin hx hy
    by_cases ga : a < 0 <;> by_cases gb : b < 0 <;> by_cases gc : c < 0
    all_goals
      first
      | (exfalso; revert hov; simp only [ga, gb, gc, decide_true, decide_false]; decide)
      | (clear hov
         first | (have g1 := decide_eq_true ga) | (have g1 := decide_eq_false ga)
         first | (have g2 := decide_eq_true gb) | (have g2 := decide_eq_false gb)
         first | (have g3 := decide_eq_true gc) | (have g3 := decide_eq_false gc)
         go_wp2_with (refine wpL_load rfl 71 _ rfl rfl LC ?_)
         refine bodyPost_ret (v := .tuple #[.agg C.toArray, .int .i64 0]) ?_ rfl ⟨by rw [HR.out], HBX.out⟩
         exact res2 Try.results34 (w.heap.size + 1 + 1) 2 _ _ _ Try.underlying71 rfl info_num hCl HX.out _ rfl _ rfl)
  · rw [decide_eq_false hin] at hov
    have HR := kp (HR0.out hin)
    have hZl := numC_length 0
    have hZ1 := numC_one 0
    have HZ : Kp (numC 0 = [.int .i64 0, .int .u64 0]) := kp (by kernel_rfl)
    obtain ⟨Z, hZ⟩ : ∃ Z, numC 0 = Z := ⟨_, rfl⟩
    rw [hZ] at HZ hZl hZ1 HR
    have SC := sc_all (P := Try.prog) (w := U) (w.heap.size + 1 + 1) 71 Z [.int .i64 0, .int .u64 0] J3.out (by rw [hZl]; rfl) hZ1
    have HX := kp (J3.out.row Z.toArray)
    have HBX := kp (bsr JB.out (show w.heap.size ≤ w.heap.size + 1 + 1 by omega) JB.out.size Z.toArray)
    generalize U.setRow (w.heap.size + 1 + 1) Z.toArray = U2 at SC HX HBX
    clear hin hx hy hZ hZ1
    by_cases ga : a < 0 <;> by_cases gb : b < 0 <;> by_cases gc : c < 0
    all_goals
      first
      | (exfalso; revert hov; simp only [ga, gb, gc, decide_true, decide_false]; decide)
      | (clear hov
         first | (have g1 := decide_eq_true ga) | (have g1 := decide_eq_false ga)
         first | (have g2 := decide_eq_true gb) | (have g2 := decide_eq_false gb)
         first | (have g3 := decide_eq_true gc) | (have g3 := decide_eq_false gc)
         go_wp2_with (refine wpL_val 26 rfl rfl (.agg Z.toArray) (by rw [HZ.out]; kernel_rfl) ?_)
         refine bodyPost_ret (v := .tuple #[.agg Z.toArray, .int .i64 6]) ?_ rfl ⟨by rw [HR.out], HBX.out⟩
         exact res2 Try.results34 (w.heap.size + 1 + 1) 2 _ _ _ Try.underlying71 rfl info_num hZl HX.out _ rfl _ rfl)
theorem W_size (n : Int) (h0 : -9223372036854775808 ≤ n) (h1 : n < 9223372036854775808) (w : World) : Calls Try.prog 77 #[.int .i64 n] w fun e w' => e = .returned (.int .u64 (n.natAbs : Int)) ∧ w' = w := by
  have e : (n.natAbs : Int) = if n < 0 then IntKind.u64.wrap (-IntKind.u64.wrap n) else n := by simp only [wrapU]; split <;> omega
  rw [e]
  clear e
  by_cases h : n < 0
  · rw [if_pos h]
    go_enter Try.func77, Try.ntmps77
    go_wp2
    go_ret
    exact ⟨rfl, rfl⟩
  · rw [if_neg h]
    go_enter Try.func77, Try.ntmps77
    go_wp2
    go_ret
    exact ⟨rfl, rfl⟩
end Go.Proofs.Ytkknnnkbegigeaa
