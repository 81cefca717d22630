/- Texts laid together: Rcv6, Rcv8, Rcv7, Rcv9, Rcv10, Pln5. -/
import Derived.Test.YtmblknknbbdmeaaGreatRcb8
/- receiver: fits whole; what believe does, plainly. -/
namespace Go.Proofs.YtmblknknbbdmeaaGreat
open Go Go.RowKit Go.Maps
set_option linter.unusedVariables false
set_option linter.unusedSimpArgs false

/-- a packet's form -/
def fitsP (R : Rc) (iv : Int) (t g : ByteArray) (tl : Int) (K : List UInt8) : Bool := decide (1 ≤ iv ∧ iv ≤ R.c ∧ g.size = 16 ∧ t.size ≤ 1000 ∧ tl = tellsP R.d R.c iv ∧ (0 < tl ∨ K = zeroK))
theorem R_fits (w : World) (M : Rm) (R : Rc) (iv : Int) (t g : ByteArray) (tl : Int) (K : List UInt8) (hK : K.length = 32) (H : RV w M R) (hm : mayP R.s R.l R.d R.c = true) :
    Calls Tryz.prog 65 #[.pointer (some ⟨M.rb, 0, none⟩), .agg (pkL iv t g tl K).toArray] w fun e w' => e = .returned (.bool (fitsP R iv t g tl K)) ∧ Below w.heap.size w w' := by
  by_cases h1 : 1 ≤ iv
  · by_cases h2 : iv ≤ R.c
    · by_cases h3 : g.size = 16
      · by_cases h4 : t.size ≤ 1000
        · by_cases h5 : tl = tellsP R.d R.c iv
          · by_cases h6 : 0 < tl
            · rw [show fitsP R iv t g tl K = true from decide_eq_true ⟨h1, h2, h3, h4, h5, Or.inl h6⟩]
              exact F_6 w M R iv t g tl K hK H hm h1 h2 h3 h4 h5 h6
            · rw [show fitsP R iv t g tl K = decide (K = zeroK) from decide_eq_decide.2 ⟨fun h => h.2.2.2.2.2.resolve_left h6, fun h => ⟨h1, h2, h3, h4, h5, Or.inr h⟩⟩]
              exact F_7 w M R iv t g tl K hK H hm h1 h2 h3 h4 h5 h6
          · rw [show fitsP R iv t g tl K = false from decide_eq_false fun h => h5 h.2.2.2.2.1]
            exact F_5 w M R iv t g tl K hK H hm h1 h2 h3 h4 h5
        · rw [show fitsP R iv t g tl K = false from decide_eq_false fun h => h4 h.2.2.2.1]
          exact F_4 w M R iv t g tl K hK H hm h1 h2 h3 h4
      · rw [show fitsP R iv t g tl K = false from decide_eq_false fun h => h3 h.2.2.1]
        exact F_3 w M R iv t g tl K hK H hm h1 h2 h3
    · rw [show fitsP R iv t g tl K = false from decide_eq_false fun h => h2 h.2.1]
      exact F_2 w M R iv t g tl K hK H hm h1 h2
  · rw [show fitsP R iv t g tl K = false from decide_eq_false fun h => h1 h.1]
    exact F_1 w M R iv t g tl K hK H hm h1
/-! ### what believe does -/
abbrev Th := Int × List UInt8
/-- a receiver, and what it believed just now -/
abbrev RS := Rc × List Th
/-- a thing that waited is judged -/
def thg (k : List UInt8) (i : Int) (S : RS) (t : List UInt8) : RS :=
  if str (t.take 16) = str (tagD k i (str (t.drop 16))) then
    (if t.drop 16 ∈ S.1.bl i then S else ({ S.1 with bl := addL S.1.bl i (t.drop 16) }, S.2 ++ [(i, t.drop 16)]))
  else ({ S.1 with wr := S.1.wr + 1 }, S.2)
/-- an interval's things are taken -/
def takB (B : Bf) (i : Int) : Bf := { B with sl := del B.sl i, sz := B.sz - (((fnd B.sl i).getD []).length : Int) }
def keyAt (R : Rc) (i : Int) : List UInt8 := walkD R.K (min (R.a - i) 4096).toNat
def blvI (S : RS) (i : Int) : RS := ((fnd S.1.B.sl i).getD []).foldl (thg (keyAt S.1 i) i) ({ S.1 with B := takB S.1.B i }, S.2)
def blvL (R : Rc) (l : List Int) : RS := l.foldl blvI (R, [])
def blv (R : Rc) : RS := blvL R ((ivs R.B).takeWhile fun i => decide (i ≤ R.a))
/-- all but what is waiting, believed and counted stays -/
def SameR (R R' : Rc) : Prop := R'.s = R.s ∧ R'.l = R.l ∧ R'.d = R.d ∧ R'.c = R.c ∧ R'.K = R.K ∧ R'.a = R.a ∧ R'.most = R.most
theorem SameR.refl (R : Rc) : SameR R R := ⟨rfl, rfl, rfl, rfl, rfl, rfl, rfl⟩
theorem SameR.trans {R R' R2 : Rc} (h : SameR R R') (g : SameR R' R2) : SameR R R2 := by
  obtain ⟨a, b, c, d, e, f, i⟩ := h
  obtain ⟨a', b', c', d', e', f', i'⟩ := g
  exact ⟨a'.trans a, b'.trans b, c'.trans c, d'.trans d, e'.trans e, f'.trans f, i'.trans i⟩
theorem thg_same (k : List UInt8) (i : Int) (S : RS) (t : List UInt8) : SameR S.1 (thg k i S t).1 ∧ (thg k i S t).1.B = S.1.B := by
  unfold thg
  split
  · split
    · exact ⟨SameR.refl _, rfl⟩
    · exact ⟨⟨rfl, rfl, rfl, rfl, rfl, rfl, rfl⟩, rfl⟩
  · exact ⟨⟨rfl, rfl, rfl, rfl, rfl, rfl, rfl⟩, rfl⟩
theorem thgs_same (k : List UInt8) (i : Int) (ts : List (List UInt8)) (S : RS) : SameR S.1 (ts.foldl (thg k i) S).1 ∧ (ts.foldl (thg k i) S).1.B = S.1.B := by
  induction ts generalizing S with
  | nil => exact ⟨SameR.refl _, rfl⟩
  | cons t ts ih =>
    have h1 := thg_same k i S t
    have h2 := ih (thg k i S t)
    exact ⟨h1.1.trans h2.1, h2.2.trans h1.2⟩
theorem blvI_same (S : RS) (i : Int) : SameR S.1 (blvI S i).1 ∧ (blvI S i).1.B = takB S.1.B i := by
  have h := thgs_same (keyAt S.1 i) i ((fnd S.1.B.sl i).getD []) ({ S.1 with B := takB S.1.B i }, S.2)
  exact ⟨SameR.trans ⟨rfl, rfl, rfl, rfl, rfl, rfl, rfl⟩ h.1, h.2⟩
theorem blvs_same (l : List Int) (S : RS) : SameR S.1 (l.foldl blvI S).1 ∧ (l.foldl blvI S).1.B = l.foldl takB S.1.B := by
  induction l generalizing S with
  | nil => exact ⟨SameR.refl _, rfl⟩
  | cons i l ih =>
    have h1 := blvI_same S i
    have h2 := ih (blvI S i)
    exact ⟨h1.1.trans h2.1, by rw [List.foldl_cons, h2.2, h1.2]; rfl⟩
theorem takBs_fnd (l : List Int) (B : Bf) (j : Int) (h : j ∉ l) : fnd (l.foldl takB B).sl j = fnd B.sl j := by
  induction l generalizing B with
  | nil => rfl
  | cons i l ih =>
    rw [List.foldl_cons, ih (takB B i) (fun hj => h (List.mem_cons_of_mem _ hj))]
    exact fnd_del_other (fun e => h (e ▸ List.mem_cons_self))
theorem takBs_each (l : List Int) (B : Bf) : (l.foldl takB B).each = B.each ∧ (l.foldl takB B).room = B.room ∧ (l.foldl takB B).dr = B.dr := by
  induction l generalizing B with
  | nil => exact ⟨rfl, rfl, rfl⟩
  | cons i l ih =>
    rw [List.foldl_cons]
    obtain ⟨a, b, c⟩ := ih (takB B i)
    exact ⟨a, b, c⟩
theorem blvL_snoc (R : Rc) (l : List Int) (i : Int) : blvL R (l ++ [i]) = blvI (blvL R l) i := by unfold blvL; rw [List.foldl_append]; rfl
theorem takeWhile_all {l : List Int} {p : Int → Bool} (h : ∀ i ∈ l, p i = true) : l.takeWhile p = l := by
  induction l with
  | nil => rfl
  | cons a l ih => rw [List.takeWhile_cons, if_pos (h a (by simp)), ih (fun i hi => h i (by simp [hi]))]
theorem takeWhile_at {l : List Int} {p : Int → Bool} {j : Nat} (hj : j < l.length) (h : ∀ i ∈ l.take j, p i = true) (hn : p l[j] = false) : l.takeWhile p = l.take j := by
  induction l generalizing j with
  | nil => simp at hj
  | cons a l ih =>
    cases j with
    | zero =>
      rw [List.takeWhile_cons]
      have : p a = false := hn
      rw [this]; rfl
    | succ j =>
      rw [List.takeWhile_cons, if_pos (h a (by simp)), List.take_succ_cons, ih (by simpa using hj) (fun i hi => h i (by simp [hi])) (by simpa using hn)]
/-! ### caps -/
/-- how many things wait in the slots -/
def slN (sl : List (Int × List (List UInt8))) : Nat := (sl.map fun p => p.2.length).sum
/-- a receiver that holds its caps; N: what its counts don't pass -/
structure Rok (N : Nat) (R : Rc) : Prop where
  may : mayP R.s R.l R.d R.c = true
  most : 1 ≤ R.most ∧ R.most ≤ 64
  at_ : 0 ≤ R.a ∧ R.a ≤ R.c
  each : 1 ≤ R.B.each ∧ R.B.each ≤ 64
  room : 1 ≤ R.B.room ∧ R.B.room ≤ 64
  nodup : (R.B.sl.map (·.1)).Nodup
  len : R.B.sl.length ≤ R.B.room
  wf : ∀ p ∈ R.B.sl, 1 ≤ p.1 ∧ p.1 ≤ R.c ∧ p.2.length ≤ R.B.each ∧ ∀ t ∈ p.2, 16 ≤ t.length ∧ t.length ≤ 1016
  sz : R.B.sz = (slN R.B.sl : Int)
  dr : 0 ≤ R.B.dr ∧ R.B.dr ≤ N
  wr : 0 ≤ R.wr ∧ R.wr ≤ N
  bl : ∀ i, (R.bl i).length ≤ N
theorem fnd_mem {α : Type} {F : List (Int × α)} {i : Int} {x : α} (h : fnd F i = some x) : (i, x) ∈ F := by
  unfold fnd at h
  cases hf : F.find? (fun p => p.1 == i) with
  | none => rw [hf] at h; cases h
  | some p =>
    rw [hf] at h
    simp only [Option.map_some, Option.some.injEq] at h
    have h1 := List.find?_some hf
    have h2 := List.mem_of_find?_eq_some hf
    simp only [beq_iff_eq] at h1
    rw [← h, ← h1]
    exact h2
theorem fnd_of_mem {α : Type} {F : List (Int × α)} {i : Int} {x : α} (hn : (F.map (·.1)).Nodup) (h : (i, x) ∈ F) : fnd F i = some x := by
  induction F with
  | nil => simp at h
  | cons p F ih =>
    rw [List.map_cons, List.nodup_cons] at hn
    rcases List.mem_cons.1 h with rfl | h2
    · exact fnd_cons_same _ _
    · obtain ⟨a, b⟩ := p
      have e : i ≠ a := fun e => hn.1 (List.mem_map.2 ⟨(i, x), h2, e⟩)
      rw [fnd_cons_other e]
      exact ih hn.2 h2
theorem slN_del {sl : List (Int × List (List UInt8))} {i : Int} {ts : List (List UInt8)} (hn : (sl.map (·.1)).Nodup) (h : fnd sl i = some ts) : slN (del sl i) + ts.length = slN sl := by
  induction sl with
  | nil => simp [fnd] at h
  | cons p sl ih =>
    obtain ⟨a, b⟩ := p
    rw [List.map_cons, List.nodup_cons] at hn
    by_cases e : i = a
    · subst e
      rw [fnd_cons_same] at h
      injection h with h; subst h
      have hd : del ((i, b) :: sl) i = sl := by
        unfold del
        rw [List.filter_cons_of_neg (by simp), List.filter_eq_self]
        intro q hq
        have : q.1 ≠ i := fun e => hn.1 (List.mem_map.2 ⟨q, hq, e⟩)
        simpa using this
      rw [hd]
      simp only [slN, List.map_cons, List.sum_cons]
      omega
    · rw [fnd_cons_other e] at h
      have := ih hn.2 h
      have hd : del ((a, b) :: sl) i = (a, b) :: del sl i := by
        unfold del
        rw [List.filter_cons_of_pos (by simpa using fun e2 => e e2.symm)]
      rw [hd]
      simp only [slN, List.map_cons, List.sum_cons] at this ⊢
      omega
theorem ivs_mem (B : Bf) (i : Int) : i ∈ ivs B ↔ i ∈ B.sl.map (·.1) := by unfold ivs; exact List.mem_mergeSort
theorem ivs_nodup {B : Bf} (h : (B.sl.map (·.1)).Nodup) : (ivs B).Nodup := by unfold ivs; exact (List.mergeSort_perm _ _).nodup_iff.2 h
theorem ivs_length (B : Bf) : (ivs B).length = B.sl.length := by unfold ivs; rw [List.length_mergeSort, List.length_map]
theorem del_keys_nodup {sl : List (Int × List (List UInt8))} (h : (sl.map (·.1)).Nodup) (i : Int) : ((del sl i).map (·.1)).Nodup := nodup_del h i
theorem slN_none {sl : List (Int × List (List UInt8))} {i : Int} (h : fnd sl i = none) : slN (del sl i) = slN sl := by rw [del_none h]
/-- a buffer's count of what waits -/
structure Bok (B : Bf) : Prop where
  nodup : (B.sl.map (·.1)).Nodup
  sz : B.sz = (slN B.sl : Int)
  le : slN B.sl ≤ 4096
theorem Bok.tak {B : Bf} (h : Bok B) (i : Int) : Bok (takB B i) := by
  refine ⟨nodup_del h.nodup i, ?_, ?_⟩
  · show B.sz - (((fnd B.sl i).getD []).length : Int) = (slN (del B.sl i) : Int)
    cases hf : fnd B.sl i with
    | none => rw [slN_none hf, h.sz]; simp
    | some ts =>
      have := slN_del h.nodup hf
      rw [h.sz]
      simp only [Option.getD_some]
      omega
  · show slN (del B.sl i) ≤ 4096
    have h0 := h.le
    cases hf : fnd B.sl i with
    | none => rw [slN_none hf]; exact h0
    | some ts =>
      have := slN_del h.nodup hf
      omega
theorem Bok.taks {B : Bf} (h : Bok B) (l : List Int) : Bok (l.foldl takB B) := by
  induction l generalizing B with
  | nil => exact h
  | cons i l ih => exact ih (h.tak i)
theorem slN_le {sl : List (Int × List (List UInt8))} {k : Nat} (h : ∀ p ∈ sl, p.2.length ≤ k) : slN sl ≤ sl.length * k := by
  induction sl with
  | nil => simp [slN]
  | cons p sl ih =>
    have h1 := h p (by simp)
    have h2 := ih (fun q hq => h q (by simp [hq]))
    simp only [slN, List.map_cons, List.sum_cons, List.length_cons] at h2 ⊢
    rw [Nat.add_mul]
    omega
theorem Rok.bok {N : Nat} {R : Rc} (h : Rok N R) : Bok R.B := ⟨h.nodup, h.sz, by
  have h1 := slN_le (k := 64) (fun p hp => Nat.le_trans (h.wf p hp).2.2.1 h.each.2)
  have h2 := Nat.mul_le_mul (Nat.le_trans h.len h.room.2) (Nat.le_refl 64)
  omega⟩
/-- the j-th interval of those that wait, when the ones ahead of it are taken -/
theorem Rok.at_j {N : Nat} {R : Rc} (h : Rok N R) {j : Nat} {i : Int} (hj : (ivs R.B)[j]? = some i) : 1 ≤ i ∧ i ≤ R.c ∧ ∃ ts, fnd R.B.sl i = some ts ∧ fnd (((ivs R.B).take j).foldl takB R.B).sl i = some ts ∧ ts.length ≤ 64 ∧ ∀ t ∈ ts, 16 ≤ t.length ∧ t.length ≤ 1016 := by
  have hm := (ivs_mem R.B i).1 (List.mem_of_getElem? hj)
  obtain ⟨⟨i', ts⟩, hp, rfl⟩ := List.mem_map.1 hm
  have hf := fnd_of_mem h.nodup hp
  have hw := h.wf _ hp
  have hn := ivs_nodup h.nodup
  refine ⟨hw.1, hw.2.1, ts, hf, ?_, Nat.le_trans hw.2.2.1 h.each.2, hw.2.2.2⟩
  rw [takBs_fnd _ _ _ ?_]
  · exact hf
  · intro hin
    obtain ⟨k, hk1, hk2⟩ := List.mem_take_iff_getElem.1 hin
    have e1 : (ivs R.B)[k]? = some i' := by rw [List.getElem?_eq_getElem (by omega), hk2]
    have := (List.getElem?_inj (by omega) hn).1 (e1.trans hj.symm)
    omega
theorem kI_wf {i : Int} (h1 : -9223372036854775808 ≤ i) (h2 : i ≤ 9223372036854775807) : (kI i).wf = true := by
  unfold kI Lit.wf
  simp only [Bool.and_eq_true, decide_eq_true_eq]
  exact ⟨h1, h2⟩
theorem take_snocR {α : Type} {l : List α} {j : Nat} {x : α} (h : l[j]? = some x) : l.take (j + 1) = l.take j ++ [x] := by
  obtain ⟨hj, he⟩ := List.getElem?_eq_some_iff.1 h
  rw [List.take_succ_eq_append_getElem hj, he]
theorem RV.rwKept {w w' : World} {M M' : Rm} {R : Rc} (h : RV w M R) (hs : Rs w w' M M') {B T sz m c : Nat} {ad : Option Addr} {l : List Value} (hr : Rw B w T sz ad m c l) (h1 : T ≠ 138) (h2 : T ≠ 178) : Rw B w' T sz ad m c l :=
  hr.frP hs.fr (fun k hk => by
    obtain ⟨_, cur, hb⟩ := hr.blk hk
    exact h.notX hb h1 h2)
theorem RV.blkKept {w w' : World} {M M' : Rm} {R : Rc} (h : RV w M R) (hs : Rs w w' M M') {k T : Nat} {cs : Array Value} (hb : Blk w k T cs) (h1 : T ≠ 138) (h2 : T ≠ 178) : Blk w' k T cs := hb.frP hs.fr (h.notX hb h1 h2)
/-- counts that stay small -/
structure Cap (n : Nat) (S : RS) : Prop where
  wr : 0 ≤ S.1.wr ∧ S.1.wr ≤ n
  bl : ∀ i, (S.1.bl i).length ≤ n
  out : S.2.length ≤ n
theorem Cap.mono {n n' : Nat} {S : RS} (h : Cap n S) (hn : n ≤ n') : Cap n' S := ⟨⟨h.wr.1, by have := h.wr.2; omega⟩, fun i => Nat.le_trans (h.bl i) hn, Nat.le_trans h.out hn⟩
theorem Cap.thg {n : Nat} {S : RS} (h : Cap n S) (k : List UInt8) (i : Int) (t : List UInt8) : Cap (n + 1) (thg k i S t) := by
  have h0 := h.mono (Nat.le_succ n)
  unfold Proofs.YtmblknknbbdmeaaGreat.thg
  split
  · split
    · exact h0
    · refine ⟨h0.wr, fun j => ?_, ?_⟩
      · show (addL S.1.bl i _ j).length ≤ n + 1
        have := h.bl j
        unfold addL
        split
        · rw [List.length_append]; simpa using this
        · omega
      · have := h.out
        simpa using this
  · refine ⟨⟨?_, ?_⟩, h0.bl, h0.out⟩
    · have := h.wr.1; show 0 ≤ S.1.wr + 1; omega
    · have := h.wr.2; show S.1.wr + 1 ≤ ((n + 1 : Nat) : Int); omega
theorem Cap.thgs {n : Nat} {S : RS} (h : Cap n S) (k : List UInt8) (i : Int) (ts : List (List UInt8)) : Cap (n + ts.length) (ts.foldl (Proofs.YtmblknknbbdmeaaGreat.thg k i) S) := by
  induction ts generalizing n S with
  | nil => exact h
  | cons t ts ih =>
    have := ih (h.thg k i t)
    exact this.mono (by rw [List.length_cons]; omega)
theorem Cap.blvI {n : Nat} {S : RS} (h : Cap n S) (hs : ∀ p ∈ S.1.B.sl, p.2.length ≤ 64) (i : Int) : Cap (n + 64) (blvI S i) ∧ ∀ p ∈ (blvI S i).1.B.sl, p.2.length ≤ 64 := by
  refine ⟨?_, ?_⟩
  · have h1 : Cap n ({ S.1 with B := takB S.1.B i }, S.2) := ⟨h.wr, h.bl, h.out⟩
    refine (h1.thgs (keyAt S.1 i) i ((fnd S.1.B.sl i).getD [])).mono ?_
    cases hf : fnd S.1.B.sl i with
    | none => simp
    | some ts => have := hs _ (fnd_mem hf); simpa using this
  · rw [(blvI_same S i).2]
    intro p hp
    exact hs p (List.mem_filter.1 hp).1
theorem Cap.blvs {n : Nat} {S : RS} (h : Cap n S) (hs : ∀ p ∈ S.1.B.sl, p.2.length ≤ 64) (l : List Int) : Cap (n + 64 * l.length) (l.foldl Proofs.YtmblknknbbdmeaaGreat.blvI S) := by
  induction l generalizing n S with
  | nil => exact h
  | cons i l ih =>
    obtain ⟨h1, h2⟩ := h.blvI hs i
    exact (ih h1 h2).mono (by rw [List.length_cons]; omega)
theorem Rok.cap {N : Nat} {R : Rc} (h : Rok N R) (j : Nat) : Cap (N + 4096) (blvL R ((ivs R.B).take j)) := by
  have h0 : Cap N (R, []) := ⟨h.wr, h.bl, Nat.zero_le _⟩
  refine (h0.blvs (fun p hp => Nat.le_trans (h.wf p hp).2.2.1 h.each.2) ((ivs R.B).take j)).mono ?_
  have h1 := ivs_length R.B
  have h2 := h.len
  have h3 := h.room
  rw [List.length_take]
  have : min j (ivs R.B).length ≤ 64 := by omega
  omega
/-- a slice that was answered, as a row -/
theorem rw_of_row {w : World} {B T sz n : Nat} {v : Value} {xs : List Value} (h : w.ownsRow B T sz v n xs) : ∃ ad c, v = .slice ad n c ∧ Rw B w T sz ad n c xs ∧ (ad = none ∨ ∃ g, ad = some ⟨g, 0, none⟩) := by
  obtain ⟨h0, ⟨rfl, rfl⟩ | ⟨g, cap, cur, rfl, hg, hk, hc, hc2, hs, ht⟩⟩ := h
  · exact ⟨none, 0, rfl, by
      have hx : xs = [] := List.eq_nil_of_length_eq_zero (by simpa using h0)
      rw [hx]; exact Rw.nil _ _ _ _, Or.inl rfl⟩
  · exact ⟨_, cap, rfl, ⟨h0, hc, hc2, Or.inr ⟨g, 0, cur, rfl, hg, hk, by omega, by rw [List.drop_zero]; exact ht⟩⟩, Or.inr ⟨g, rfl⟩⟩
end Go.Proofs.YtmblknknbbdmeaaGreat
/- receiver: things in a growing slice. -/
namespace Go.Proofs.YtmblknknbbdmeaaGreat
open Go Go.RowKit Go.Maps
set_option linter.unusedVariables false
set_option linter.unusedSimpArgs false

def thC (x : Th) : List Value := [.int .i64 x.1, .string (str x.2)]
def thL (l : List Th) : List Value := (l.map thC).flatten
theorem thL_snoc (l : List Th) (x : Th) : thL (l ++ [x]) = thL l ++ thC x := by simp [thL]
theorem thL_length (l : List Th) : (thL l).length = l.length * 2 := by
  induction l with
  | nil => rfl
  | cons a l ih =>
    unfold thL at ih ⊢
    rw [List.map_cons, List.flatten_cons, List.length_append, ih, List.length_cons]
    show 2 + _ = _
    omega
theorem thC_one (x : Th) : ∀ v ∈ thC x, v.oneCell' = true := by
  intro v hv
  simp only [thC, List.mem_cons, List.not_mem_nil, or_false] at hv
  rcases hv with rfl | rfl <;> rfl
theorem info_th3 : (Tryz.prog.info? 71).map (fun i => (i.zero.map (fun z => z.cells.size), i.size, i.bytes)) = some (some 2, 2, 24) := by kernel_rfl
theorem th_parts : ∃ (i : TypeInfo) (z : Value), Tryz.prog.info? 71 = some i ∧ i.zero = some z ∧ z.cells.size = 2 ∧ i.size = 2 ∧ i.bytes = 24 := by
  have h := info_th3
  cases hq : Tryz.prog.info? 71 with
  | none => simp [hq] at h
  | some i =>
    rw [hq] at h
    simp only [Option.map_some, Option.some.injEq, Prod.mk.injEq] at h
    obtain ⟨h1, h2, h3⟩ := h
    cases hz : i.zero with
    | none => simp [hz] at h1
    | some z =>
      rw [hz] at h1
      exact ⟨i, z, rfl, hz, by simpa using h1, h2, h3⟩
/-- a thing appended -/
theorem th_append {B : Nat} {w : World} {ad : Option Addr} {c : Nat} {l : List Th} (h : Rw B w 71 2 ad l.length c (thL l)) (hm : l.length ≤ 100000) (hB : B ≤ w.heap.size) (x : Th) {bn : Nat} (hb : Blk w bn 71 (thC x).toArray) :
    ∃ g' o' c' w', (Builtin.append_ #[50, 50] 50 #[.slice ad l.length c, .slice (some ⟨bn, 0, none⟩) 1 1]).run Tryz.prog w = .ok (.slice (some ⟨g', o', none⟩) (l.length + 1) c') w' ∧ Rw B w' 71 2 (some ⟨g', o', none⟩) (l ++ [x]).length c' (thL (l ++ [x])) ∧ w.grownBy w' (ad.map (·.block)) := by
  obtain ⟨i, z, hi, hz, hzs, hs, hby⟩ := th_parts
  have hsrc : Src Tryz.prog 2 50 (.slice (some ⟨bn, 0, none⟩) 1 1) 1 (thC x) w := Src.ofSlice w Tryz.underlying50 ⟨bn, 0, none⟩ 1 1 _ rfl (fun j u hu => by rw [addr_add, Nat.zero_add]; exact hb.atL hu) (thC_one x)
  obtain ⟨g', o', c', w', hr, ho, hg, hat⟩ := h.append (P := Tryz.prog) 50 50 i z Tryz.underlying50 hi hz hzs hs (by omega) hm hB hsrc (by omega) (by omega)
  rw [← thL_snoc] at ho
  refine ⟨g', o', c', w', hr, ?_, hg⟩
  rw [List.length_append]
  exact ho
theorem rcL_wr (R : Rc) (bb gb : Nat) (hK : R.K.length = 32) (y : Int) : (rcL R bb gb).set 40 (.int .i64 y) = rcL { R with wr := y } bb gb := by
  unfold rcL
  rw [List.set_append_right _ _ (by rw [planL_length]; omega), planL_length, List.set_append_right _ _ (by rw [mindL_length _ _ hK]; omega), mindL_length _ _ hK]
  rfl
theorem meas_lt {q Q : Nat} (h : q + 1 ≤ Q) : Q - (intOf (.int .i64 ((q + 1 : Nat) : Int))).toNat < Q - (intOf (.int .i64 (q : Int))).toNat := by simp only [intOf]; omega
theorem wrap_succ {q Q k : Nat} (h : q + 1 ≤ Q) (hk : Q ≤ k) (h2 : k ≤ 1000000000) : wrap64 ((q : Int) + 1) = ((q + 1 : Nat) : Int) := by rw [IntWalk.wrap64_in _ (by omega)]; rfl
theorem wrap_wr {y : Int} {n : Nat} (h : 0 ≤ y ∧ y ≤ (n : Int)) (hn : n ≤ 2000000000) : wrap64 (y + 1) = y + 1 := IntWalk.wrap64_in _ (by omega)
theorem eq_nilmap (W : World) : (Go.binOp .eql 79 (.map none) (.map none)).run Tryz.prog W = .ok (.bool true) W := by kernel_rfl
theorem eq_somemap (g : Nat) (W : World) : (Go.binOp .eql 79 (.map (some g)) (.map none)).run Tryz.prog W = .ok (.bool false) W := by kernel_rfl
theorem lt_maxLen {k N : Nat} (h : k ≤ N + 4160) (hN : N ≤ 50000) : k < maxLen := by unfold maxLen; omega
section
variable {w w1 w' : World} {M M' : Rm} {R : Rc} {X : Nat → Prop}
theorem Drw.frP {g n : Nat} {L : List (List UInt8)} (h : Drw w g n L) (hf : FrP X w w') (hX : ¬ X g) : Drw w' g n L := by
  have hl := h.lt
  obtain ⟨D, h1, h2⟩ := h
  obtain ⟨es, cl, hb, h3⟩ := h1
  exact ⟨D, ⟨es, cl, (hf.block g hl hX).trans hb, h3⟩, h2⟩
theorem BF.frP {bb gm n : Nat} {F : List (Int × (Nat × Nat))} {B : Bf} (h : BF w bb gm n F B) (hf : FrP X w w') (h1 : ¬ X bb) (h2 : ¬ X gm) (h3 : ∀ i c g, fnd F i = some (c, g) → ¬ X c ∧ ¬ X g) : BF w' bb gm n F B :=
  ⟨h.blk.frP hf h1, h.im.frP hf h2, h.keys, fun i c g hi => by
    obtain ⟨ts, s, r, m, k1, k2, k3, k4⟩ := h.slot i c g hi
    exact ⟨ts, s, r, m, k1, (hf.block c (Array.getElem?_eq_some_iff.1 k2).1 (h3 i c g hi).1).trans k2, k3, k4.frP hf (h3 i c g hi).2⟩, h.inj, h.sets⟩
/-- what turns none of a receiver's blocks leaves it -/
theorem RV.frP (h : RV w M R) (hf : FrP X w w') (hX : ∀ k, M.X k → ¬ X k) : RV w' M R :=
  ⟨h.blk.frP hf (hX _ (Or.inl rfl)), h.key, h.bf.frP hf (hX _ (Or.inr (Or.inl rfl))) (hX _ (Or.inr (Or.inr (Or.inl rfl)))) (fun i c g hi => ⟨hX _ (Or.inr (Or.inr (Or.inr (Or.inr (Or.inl ⟨i, c, g, hi, Or.inl rfl⟩))))), hX _ (Or.inr (Or.inr (Or.inr (Or.inr (Or.inl ⟨i, c, g, hi, Or.inr rfl⟩)))))⟩),
    h.im.frP hf (hX _ (Or.inr (Or.inr (Or.inr (Or.inl rfl))))), fun i => by
      rcases h.sets i with h1 | ⟨g, k, h1, h3, h4⟩
      · exact Or.inl h1
      · exact Or.inr ⟨g, k, h1, h3, h4.frP hf (hX _ (Or.inr (Or.inr (Or.inr (Or.inr (Or.inr ⟨i, g, h1, rfl⟩))))))⟩, h.inj, h.gbm, h.gF, h.gG⟩
theorem Rs.frP (h : Rs w w1 M M') (hf : FrP X w1 w') (hX : ∀ k, X k → w.heap.size ≤ k) : Rs w w' M M' := ⟨h.fr.trans hf (fun k hk => Or.inr (hX k hk)), h.rb, h.own⟩
end
theorem le_tho {k N : Nat} (h : k ≤ N + 4160) (hN : N ≤ 50000) : k ≤ 100000 := by omega
end Go.Proofs.YtmblknknbbdmeaaGreat
/- receiver: believe. -/
namespace Go.Proofs.YtmblknknbbdmeaaGreat
open Go Go.RowKit Go.Maps
set_option linter.unusedVariables false
set_option linter.unusedSimpArgs false
attribute [local go_sem] bmax2 bmin2 bmax bmin cell_ext frozen_ext

/-- while it believes: S so far, its things in a slice -/
structure BvI (w : World) (M : Rm) (S : RS) (ad : Option Addr) (cp : Nat) (W : World) : Prop where
  rv : ∃ M', RV W M' S.1 ∧ Rs w W M M' ∧ M'.m ≤ M.m + S.2.length
  rw : Rw w.heap.size W 71 2 ad S.2.length cp (thL S.2)
theorem slice_toR {P : Program} (t : TypeId) (hu : P.underlying t = some .string) (s : ByteArray) (b : Nat) (y : Int) (hy : y = b) (h2 : b ≤ s.size) (W : World) :
    (Instr.slice t (.string s) none (some (.int .i64 y)) none).run P W = .ok (.string (s.extract 0 b)) W := by
  subst hy
  have e2 : (b : Int) ≤ (s.size : Int) := by omega
  simp [Instr.slice, run_underlying hu, Instr.sliceBounds, run_sliceBound, h2]
theorem slice_from {P : Program} (t : TypeId) (hu : P.underlying t = some .string) (s : ByteArray) (b : Nat) (y : Int) (hy : y = b) (h2 : b ≤ s.size) (W : World) :
    (Instr.slice t (.string s) (some (.int .i64 y)) none none).run P W = .ok (.string (s.extract b s.size)) W := by
  subst hy
  have e2 : (b : Int) ≤ (s.size : Int) := by omega
  simp [Instr.slice, run_underlying hu, Instr.sliceBounds, run_sliceBound, h2]
theorem build_pk3 (iv : Int) (t g : ByteArray) (W : World) : (Instr.build 40 #[(0, .int .i64 iv), (2, .string g), (1, .string t)]).run Tryz.prog W = .ok (.agg (pkL iv t g 0 zeroK).toArray) W := by
  have hz : cellsU8 zeroK = List.replicate 32 (.int .u8 0) := by kernel_rfl
  unfold pkL
  rw [hz]
  exact run_build W 40 _ _ (by kernel_rfl)
theorem ext_take (t : List UInt8) (n : Nat) : (str t).extract 0 n = str (t.take n) := by
  apply ByteArray.ext
  rw [ByteArray.data_extract]
  apply Array.ext'
  simp [str]
theorem ext_drop (t : List UInt8) (n : Nat) : (str t).extract n (str t).size = str (t.drop n) := by
  apply ByteArray.ext
  rw [ByteArray.data_extract, str_size]
  apply Array.ext'
  simp [str]
  rw [List.take_of_length_le (by simp)]
theorem BvI.bel {w W W' : World} {M : Rm} {S : RS} {ad : Option Addr} {cp : Nat} (h : BvI w M S ad cp W) (hb : Below W.heap.size W W') : BvI w M S ad cp W' := by
  obtain ⟨M', h1, h2, h3⟩ := h.rv
  exact ⟨⟨M', h1.bel hb, h2.trans (Rs.of_bel hb), h3⟩, h.rw.bel hb⟩
def BlvEnd (w : World) (M : Rm) (S : RS) (e : Ending) (w' : World) : Prop := ∃ ad cp, e = .returned (.slice ad S.2.length cp) ∧ BvI w M S ad cp w'
set_option maxHeartbeats 4000000 in
set_option maxRecDepth 100000 in
theorem R_believe (N : Nat) (hN : N ≤ 50000) (w : World) (M : Rm) (hMN : M.m ≤ N) (R : Rc) (H : RV w M R) (ok : Rok N R) : Calls Tryz.prog 70 #[.pointer (some ⟨M.rb, 0, none⟩)] w (BlvEnd w M (blv R)) := by
  have cI := kp (U_Intervals M.bb M.gm M.n M.F R.B (by have := ok.len; have := ok.room; omega) w H.bf)
  obtain ⟨x1, x2, x3, x4, x5, x6, kl⟩ := H.cells
  have HH := kp H
  have OK := kp ok
  clear H ok
  obtain ⟨rb, hrb⟩ : ∃ rb, M.rb = rb := ⟨_, rfl⟩
  have HRB := kp hrb
  rw [hrb] at x1 x2 x3 x4 x5 x6 kl ⊢
  clear hrb
  obtain ⟨bb, hbb⟩ : ∃ bb, M.bb = bb := ⟨_, rfl⟩
  rw [hbb] at cI x3
  clear hbb
  go_enter Tryz.func70, Tryz.ntmps70
  go_wp2_with (first | (go_at_call 96; refine cI.out.mono ?_; rintro e w1 ⟨v, rfl, hrow, hb1⟩; obtain ⟨ad0, c0, rfl, hrw, hd0⟩ := rw_of_row hrow; have HI := kp hrw; have HD0 := kp hd0; have HV1 := kp (HH.out.bel hb1); have HB1 := kp hb1; clear hrow hrw hd0 hb1 x1 x2 x3 x4 x5 x6 kl cI))
  obtain ⟨L, hL⟩ : ∃ L, (ivs R.B).length = L := ⟨_, rfl⟩
  have HL := kp hL
  rw [hL] at HI ⊢
  clear hL
  have H0 : Kp (BvI w M (blvL R ((ivs R.B).take 0)) none 0 w1) := kp ⟨⟨M, HV1.out, Rs.of_bel HB1.out, Nat.le_add_right _ _⟩, Rw.nil _ _ _ _⟩
  go_loopw [3, 17] (fun lv iv wr => ∃ (j m : Nat) (ad : Option Addr) (cp : Nat), j ≤ L ∧ iv = .int .i64 (j : Int) ∧ lv = .slice ad m cp ∧ Kp (m = (blvL R ((ivs R.B).take j)).2.length) ∧ Kp (BvI w M (blvL R ((ivs R.B).take j)) ad cp wr) ∧ Kp (∀ i ∈ (ivs R.B).take j, decide (i ≤ R.a) = true) ∧ Kp (Rw w.heap.size wr 3 1 ad0 L c0 ((ivs R.B).map encZ))) (fun _ iv _ => L - (intOf iv).toNat)
  case atStart => exact ⟨0, 0, none, 0, Nat.zero_le _, rfl, rfl, kp rfl, H0, kp (fun i hi => by simp at hi), HI⟩
  case round =>
    clear HI HV1 HB1 H0
    obtain ⟨j, m, ad, cp, hj, rfl, rfl, HM, HS, HA, HI⟩ := hrel
    by_cases hlt : j < L
    · have i1 : (j : Int) < (L : Int) := by omega
      have hd0 := HD0.out
      rcases hd0 with rfl | ⟨g0, rfl⟩
      · exfalso
        obtain ⟨h1, h2, h3, h4⟩ := HI.out
        rcases h4 with ⟨_, h5⟩ | ⟨g, o, cur, h5, _⟩
        · omega
        · cases h5
      obtain ⟨ij, hij⟩ : ∃ ij, (ivs R.B)[j]? = some ij := ⟨_, List.getElem?_eq_getElem (by rw [HL.out]; exact hlt)⟩
      have HIJ := kp hij
      have xj : wr.cell? ⟨g0, j, none⟩ = some (.int .i64 ij) := by
        have := HI.out.cells (j := j) (v := .int .i64 ij) (by rw [List.getElem?_map, hij]; rfl)
        simpa using this
      have hg0 : g0 < wr.heap.size := by
        obtain ⟨_, cur, hk⟩ := HI.out.blk (g := g0) rfl
        exact hk.lt
      clear hij
      obtain ⟨M', hv, hs, hml⟩ := HS.out.rv
      have HO := kp HS.out.rw
      have hsm := blvs_same ((ivs R.B).take j) (R, [])
      obtain ⟨⟨h_s, h_l, h_d, h_c, hKK, haa, h_m⟩, hBB⟩ := hsm
      have HSN : Kp (blvL R ((ivs R.B).take (j + 1)) = blvI (blvL R ((ivs R.B).take j)) ij) := kp (by rw [take_snocR HIJ.out, blvL_snoc])
      have HBL : Kp (R.a < ij → blv R = blvL R ((ivs R.B).take j)) := kp (fun h => by
        unfold blv
        rw [takeWhile_at (j := j) (by rw [HL.out]; exact hlt) HA.out]
        rw [(List.getElem?_eq_some_iff.1 HIJ.out).2]
        exact decide_eq_false (by omega))
      change (blvL R ((ivs R.B).take j)).1.K = R.K at hKK
      change (blvL R ((ivs R.B).take j)).1.a = R.a at haa
      change (blvL R ((ivs R.B).take j)).1.B = _ at hBB
      obtain ⟨S, hSS⟩ : ∃ S, blvL R ((ivs R.B).take j) = S := ⟨_, rfl⟩
      have HSS := kp hSS
      rw [hSS] at hv HO HSN HBL hKK haa hBB HM HS hml
      have HML := kp hml
      clear hml
      clear hSS h_s h_l h_d h_c h_m
      have HBB := kp hBB
      have HCP : Kp (Cap (N + 4096) S) := kp (by rw [← HSS.out]; exact OK.out.cap j)
      have HV := kp hv
      have HR := kp hs
      have hrb' : M'.rb = rb := hs.rb.trans HRB.out
      have HRB' := kp hrb'
      obtain ⟨x1, x2, x3, x4, x5, x6, kl⟩ := hv.cells
      have LM := hv.ldMind
      rw [hrb'] at x1 x2 x3 x4 x5 x6 kl LM
      rw [haa] at x1
      rw [haa, hKK] at LM
      have HKK := kp hKK
      have HAA := kp haa
      clear hv hs hKK haa hrb' x2 x4 x5 x6 hBB HD0
      by_cases hgt : R.a < ij
      · go_wp2
        go_ret
        have hm := HM.out
        subst hm
        rw [HBL.out hgt]
        exact ⟨_, _, rfl, HS.out⟩
      · have hle : ij ≤ R.a := by omega
        obtain ⟨hi1, hi2, ts, hf0, hfj, htl, htw⟩ := OK.out.at_j HIJ.out
        have hac := OK.out.at_
        have hmy := mayP_iff.1 OK.out.may
        have hiw := kI_wf (i := ij) (by omega) (by omega)
        obtain ⟨D, hD⟩ : ∃ D : Nat, (min (R.a - ij) 4096).toNat = D := ⟨_, rfl⟩
        have cT := kp (fun w' => Tell_good R.K R.a ij HH.out.key (by omega) hle (by omega) D (by omega) w')
        have HKA : Kp (keyAt S.1 ij = walkD R.K D) := kp (by unfold keyAt; rw [HAA.out, HKK.out, hD])
        have hAL := walkD_length R.K HH.out.key D
        obtain ⟨A, hA⟩ : ∃ A, walkD R.K D = A := ⟨_, rfl⟩
        rw [hA] at cT HKA hAL
        have HAL := kp hAL
        have HTW := kp htw
        have HTL := kp htl
        have HF0 := kp hf0
        have HFJ : Kp (fnd S.1.B.sl ij = some ts) := kp (by rw [HBB.out]; exact hfj)
        have HBO : Kp (Bok S.1.B) := kp (by rw [HBB.out]; exact OK.out.bok.taks _)
        have HIW := kp hiw
        have HLE := kp hle
        have hn : ¬ R.a < ij := hgt
        clear hA hD hac hmy hiw hf0 hfj htl htw hi1 hi2 hAL hle
        go_wp2_with (refine wpL_load rfl 135 _ rfl rfl LM ?_)
        refine (cT.out _).mono ?_
        rintro e w2 ⟨rfl, hb2⟩
        have HV2 := kp (HV.out.bel hb2)
        have HR2 := kp (HR.out.trans (Rs.of_bel hb2))
        have HO2 := kp (HO.out.bel hb2)
        have HI2 := kp (HI.out.bel hb2)
        have hkl := key_cells A HAL.out
        have SC := fun (cur : Array Value) (h : cur.size = 32) => sc_new (P := Tryz.prog) w2 27 (cellsU8 A) (cellsU8_one _) cur (by rw [hkl]; exact h)
        have hbx := ba (Below.refl w2.heap.size w2) (.cells (cellsU8 A).toArray 27)
        have HV2 := kp (HV2.out.bel hbx)
        have HR2 := kp (HR2.out.trans (Rs.of_bel hbx))
        have HO2 := kp (HO2.out.bel hbx)
        have HI2 := kp (HI2.out.bel hbx)
        have HKB := kp (Blk.new w2 27 (cellsU8 A).toArray)
        clear hbx hb2 x1 x3 xj LM kl hg0
        go_upto_region 7 with (fail)
        clear SC hkl
        generalize w2.alloc (.cells (cellsU8 A).toArray 27) = V at HV2 HR2 HO2 HI2 HKB ⊢
        generalize w2.heap.size = b6 at HKB ⊢
        obtain ⟨x1, x2, x3, x4, x5, x6, kl⟩ := HV2.out.cells
        rw [HRB'.out] at x1 x2 x3 x4 x5 x6 kl
        obtain ⟨⟨c, g⟩, hcg⟩ : ∃ cg, fnd M'.F ij = some cg := by
          cases hf : fnd M'.F ij with
          | none => have := (fnd_keys HV2.out.bf.keys ij).1 hf; rw [HFJ.out] at this; cases this
          | some x => exact ⟨x, rfl⟩
        have cK := kp (U_Take_some M'.bb M'.gm M'.n M'.F S.1.B ij HIW.out c g hcg ts HFJ.out (by have := HTL.out; omega) (by have h1 := HBO.out.sz; have h2 := HBO.out.le; omega) V HV2.out.bf)
        clear x1 x2 x4 x5 x6 hcg
        have HTK : Kp ({ S.1.B with sl := del S.1.B.sl ij, sz := S.1.B.sz - (ts.length : Int) } = takB S.1.B ij) := kp (by unfold takB; rw [HFJ.out]; rfl)
        rw [HTK.out] at cK
        clear HTK
        go_wp2_with (first | (go_at_call 97; refine cK.out.mono ?_; rintro e w4 ⟨v4, rfl, hrow4, hbf4, hfr4⟩; obtain ⟨ad4, c4, rfl, hrw4, hd4⟩ := rw_of_row hrow4))
        obtain ⟨hv4, hs4⟩ := HV2.out.buf hbf4 hfr4 (fun i c g h => Or.inl (fnd_del h).2)
        have HO4 := kp (HV2.out.rwKept hs4 HO2.out (by decide) (by decide))
        have HI4 := kp (HV2.out.rwKept hs4 HI2.out (by decide) (by decide))
        have HKB4 := kp (HV2.out.blkKept hs4 HKB.out (by decide) (by decide))
        have HR4 := kp (HR2.out.trans hs4)
        have HV4 := kp hv4
        have HT4 := kp hrw4
        have HD4 := kp hd4
        clear hrow4 hbf4 hfr4 hrw4 hd4 hv4 hs4 cK x3 kl HV2 HR2 HO2 HI2 HKB
        obtain ⟨S0, hS0⟩ : ∃ S0 : RS, ({ S.1 with B := takB S.1.B ij }, S.2) = S0 := ⟨_, rfl⟩
        have HSN2 : Kp (blvI S ij = (ts.take ts.length).foldl (thg A ij) S0) := kp (by unfold blvI; rw [HFJ.out, HKA.out, hS0, List.take_length]; rfl)
        have HB4 : Kp (BvI w M ((ts.take 0).foldl (thg A ij) S0) ad cp w4) := kp (by rw [← hS0]; exact ⟨⟨_, HV4.out, HR4.out, HML.out⟩, HO4.out⟩)
        have HM4 : Kp (m = ((ts.take 0).foldl (thg A ij) S0).2.length) := kp (by rw [← hS0]; exact HM.out)
        have HSA : Kp (SameR R S0.1) := kp (by
          rw [← hS0]
          have h := (blvs_same ((ivs R.B).take j) (R, [])).1
          change SameR R (blvL R ((ivs R.B).take j)).1 at h
          rw [HSS.out] at h
          exact h.trans ⟨rfl, rfl, rfl, rfl, rfl, rfl, rfl⟩)
        have HCP0 : Kp (Cap (N + 4096) S0) := kp (by rw [← hS0]; exact ⟨HCP.out.wr, HCP.out.bl, HCP.out.out⟩)
        clear hS0 HV4 HR4 HO4 HS HM HO HV HR HBL HBB HFJ HBO HKA HKK HAA HF0 HRB' cT
        obtain ⟨Q, hQ⟩ : ∃ Q, ts.length = Q := ⟨_, rfl⟩
        have HQ := kp hQ
        rw [hQ] at HT4 HSN2 ⊢
        clear hQ
        go_loopw [3, 44] (fun lv iv wq => ∃ (q m : Nat) (ad : Option Addr) (cp : Nat), q ≤ Q ∧ iv = .int .i64 (q : Int) ∧ lv = .slice ad m cp ∧ Kp (m = ((ts.take q).foldl (thg A ij) S0).2.length) ∧ Kp (BvI w M ((ts.take q).foldl (thg A ij) S0) ad cp wq) ∧ Kp (Rw w.heap.size wq 3 1 (some ⟨g0, 0, none⟩) L c0 ((ivs R.B).map encZ)) ∧ Kp (Blk wq b6 27 (cellsU8 A).toArray) ∧ Kp (Rw (V.heap.size + 1) wq 9 1 ad4 Q c4 (strVals ts))) (fun _ iv _ => Q - (intOf iv).toNat)
        case atStart => exact ⟨0, m, ad, cp, Nat.zero_le _, rfl, rfl, HM4, HB4, HI4, HKB4, HT4⟩
        case round =>
          clear HI4 HKB4 HB4 HM4 HI
          obtain ⟨q, m', ad', cp', hq, rfl, rfl, HM, HS, HI, HKB, HT⟩ := hrel
          by_cases hql : q < Q
          · have i2 : (q : Int) < (Q : Int) := by omega
            have hqt : q < ts.length := by rw [HQ.out]; exact hql
            obtain ⟨t, ht⟩ : ∃ t, ts[q]? = some t := ⟨_, List.getElem?_eq_getElem hqt⟩
            have htm := List.mem_of_getElem? ht
            obtain ⟨ht1, ht2⟩ := HTW.out t htm
            have HNX : Kp ((ts.take (q + 1)).foldl (thg A ij) S0 = thg A ij ((ts.take q).foldl (thg A ij) S0) t) := kp (by rw [take_snocR ht, List.foldl_append]; rfl)
            have hsq := (thgs_same A ij (ts.take q) S0).1
            have HSQ := kp (HSA.out.trans hsq)
            have hc1 : Cap (N + 4160) ((ts.take q).foldl (thg A ij) S0) := (HCP0.out.thgs A ij (ts.take q)).mono (by rw [List.length_take]; have := HTL.out; omega)
            obtain ⟨S1, hS1⟩ : ∃ S1, (ts.take q).foldl (thg A ij) S0 = S1 := ⟨_, rfl⟩
            rw [hS1] at HNX HM HS HSQ hc1
            have HC1 := kp hc1
            clear hc1
            clear hS1 hsq htm
            have hd4 := HD4.out
            rcases hd4 with rfl | ⟨g4, rfl⟩
            · exfalso
              obtain ⟨h1, h2, h3, h4⟩ := HT.out
              rcases h4 with ⟨_, h5⟩ | ⟨g, o, cur, h5, _⟩
              · omega
              · cases h5
            obtain ⟨s0, hs0⟩ : ∃ s0, str t = s0 := ⟨_, rfl⟩
            have xq : wr.cell? ⟨g4, q, none⟩ = some (.string s0) := by
              have := HT.out.cells (j := q) (v := .string s0) (by unfold strVals; rw [List.getElem?_map, ht, ← hs0]; rfl)
              simpa using this
            have hg4 : g4 < wr.heap.size := by
              obtain ⟨_, cur, hk⟩ := HT.out.blk (g := g4) rfl
              exact hk.lt
            have hs0l : s0.size = t.length := by rw [← hs0, str_size]
            have hs0d : bs s0 = t := by rw [← hs0]; rfl
            go_upto_region 10 with (fail)
            have hG : s0.extract 0 16 = str (t.take 16) := by rw [← hs0]; exact ext_take t 16
            have hX : s0.extract 16 s0.size = str (t.drop 16) := by rw [← hs0]; exact ext_drop t 16
            have hsl1 := fun W => slice_toR (P := Tryz.prog) 9 Tryz.underlying9 s0 16 16 rfl (by omega) W
            have hsl2 := fun W => slice_from (P := Tryz.prog) 9 Tryz.underlying9 s0 16 16 rfl (by omega) W
            rw [hG] at hsl1
            rw [hX] at hsl2
            have hGz : (str (t.take 16)).size = 16 := by rw [str_size, List.length_take]; omega
            have hXz : (str (t.drop 16)).size ≤ 1000 := by rw [str_size, List.length_drop]; omega
            obtain ⟨G, hGG⟩ : ∃ G, str (t.take 16) = G := ⟨_, rfl⟩
            obtain ⟨X, hXX⟩ : ∃ X, str (t.drop 16) = X := ⟨_, rfl⟩
            have hXB : bs X = t.drop 16 := by rw [← hXX]; rfl
            rw [hGG] at hsl1 hGz
            rw [hXX] at hsl2 hXz
            have HTH : Kp (thg A ij S1 t = if G = str (tagD A ij X) then (if bs X ∈ S1.1.bl ij then S1 else ({ S1.1 with bl := addL S1.1.bl ij (bs X) }, S1.2 ++ [(ij, bs X)])) else ({ S1.1 with wr := S1.1.wr + 1 }, S1.2)) := kp (by unfold thg; rw [hGG, hXX, hXB])
            have HGZ := kp hGz
            have HXZ := kp hXz
            have HT1 := kp ht1
            clear hG hX hGG hXX hXB xq hg4 hs0l hs0d hs0 ht ht1 ht2 hqt hGz hXz
            obtain ⟨PK, hPK⟩ : ∃ PK, pkL ij X G 0 zeroK = PK := ⟨_, rfl⟩
            have HBD := kp (fun W => build_pk3 ij X G W)
            have HPL : Kp (PK.length = 36) := kp (by rw [← hPK]; exact pkL_length zeroK_length)
            have HPO : Kp (∀ v ∈ PK, v.oneCell' = true) := kp (by rw [← hPK]; exact pkL_one _ _ _ _ _)
            rw [hPK] at HBD
            have HPK := kp hPK
            obtain ⟨ZP, hZP⟩ : ∃ ZP, zeroPk = ZP := ⟨_, rfl⟩
            have HZP := kp hZP
            have HZL : Kp (ZP.length = 36) := kp (by rw [← hZP]; exact pkL_length zeroK_length)
            clear hZP hPK
            refine wp_region_mkE [0, 1, 2, 3, 4, 5] [6] [7] 108 (fun _ => VA wr.heap.size 40 ZP.toArray) (· ≠ ·) (by kernel_rfl) (by kernel_rfl) rfl (fun i v W W' h hb => h.mono hb) ?_
            apply Exists.intro
            refine ⟨fun Y hY => ?_, ?_, ?_⟩
            · simp only [List.map_cons, List.map_nil, List.getD_cons_succ, List.getD_cons_zero]
              repeat (first
                | (go_big_quiet_want; refine quiet_val 53 rfl (.agg PK.toArray) (fun w _ => exec_build (parts := #[(0, .int .i64 ij), (2, .string G), (1, .string X)]) rfl (by simp [Act.eval, Act.put]) (HBD.out w)) ?_; go_simp; go_big_quiet_on)
                | go_big_quiet_step (fail))
              exact wpQuiet_nil rfl
            · exact ⟨mk_alloc rfl (fun W => by rw [← HZP.out]; kernel_rfl) (fun j u W h => h.ne), trivial⟩
            · intro ev _
              simp only [List.map_cons, List.map_nil, List.getD_cons_succ, List.getD_cons_zero, TailX]
              rintro Y hY ⟨_, b10, rfl, hb10, hk10⟩
              have SC := sc_all (P := Tryz.prog) (w := Y) b10 40 PK _ hk10 (by rw [HPL.out, HZL.out]) HPO.out
              have hbZ := bsr hY hb10 hY.size PK.toArray
              have HS := kp (HS.out.bel hbZ)
              have HI := kp (HI.out.bel hbZ)
              have HKB := kp (HKB.out.bel hbZ)
              have HT := kp (HT.out.bel hbZ)
              have HPB := kp (hk10.row PK.toArray)
              clear hk10 hb10 hbZ hY hsl1 hsl2
              have hpl := HPL.out
              have hzl := HZL.out
              go_upto_region 11 with (fail)
              clear SC hpl hzl
              generalize Y.setRow b10 PK.toArray = Z at HS HI HKB HT HPB ⊢
              have L1 := ldK A HAL.out HKB.out
              have L2 := ld_all (P := Tryz.prog) b10 36 40 40 PK _ Tryz.underlying40 rfl info_pk HPL.out HPB.out
              have cR := kp (fun w' => S_Right A ij X G 0 zeroK HAL.out zeroK_length (by have := HXZ.out; omega) (by have := HGZ.out; omega) w')
              rw [HPK.out] at cR
              by_cases hr : G = str (tagD A ij X)
              · rw [decide_eq_true hr] at cR
                have HTH2 : Kp (thg A ij S1 t = (if bs X ∈ S1.1.bl ij then S1 else ({ S1.1 with bl := addL S1.1.bl ij (bs X) }, S1.2 ++ [(ij, bs X)]))) := kp (by rw [HTH.out, if_pos hr])
                clear HTH hr
                go_wp2_with (first | (refine wpL_load rfl 27 _ rfl rfl L1 ?_) | (refine wpL_load rfl 40 _ rfl rfl L2 ?_))
                refine (cR.out _).mono ?_
                rintro e w5 ⟨rfl, hb5⟩
                have HS := kp (HS.out.bel hb5)
                have HI := kp (HI.out.bel hb5)
                have HKB := kp (HKB.out.bel hb5)
                have HT := kp (HT.out.bel hb5)
                have HPB := kp (HPB.out.bel hb5)
                clear hb5 L1 L2
                obtain ⟨M2, hv, hs, hml⟩ := HS.out.rv
                have HML2 := kp hml
                clear hml
                have hrb' : M2.rb = rb := hs.rb.trans HRB.out
                have HRB2 := kp hrb'
                have HV2 := kp hv
                have HRS2 := kp hs
                obtain ⟨x1, x2, x3, x4, x5, x6, kl⟩ := hv.cells
                rw [hrb'] at x4 kl
                have p1 := HPB.out.atL (show PK[1]? = some (.string X) by rw [← HPK.out]; rfl)
                have kpb := HPB.out.lt
                clear x1 x2 x3 x5 x6 hv hs hrb'
                go_upto_region 13 with (fail)
                refine wp_region_ext [0, 1, 2, 3, 4, 5, 6, 7, 8, 9] [10] (by kernel_rfl) (by kernel_rfl) ?_
                simp only [List.map_cons, List.map_nil, List.getD_cons_succ, List.getD_cons_zero]
                have HXM : Kp (X.size ≤ maxLen) := kp (by have := HXZ.out; unfold maxLen; omega)
                obtain ⟨v0, hlk, hv0⟩ := HV2.out.lookB ij HIW.out
                rcases hv0 with ⟨rfl, hbl, hfG⟩ | ⟨gs, kn, rfl, hfG, hkn, hdr⟩
                · have hl1 : ∀ x, (Instr.lookup 136 (.map (some M2.gb)) (.int .i64 ij) false).run Tryz.prog (w5.ext x) = .ok (.map none) (w5.ext x) := fun x => by
                    have h := (HV2.out.bel (ext_below w5 x)).im.look1 ij HIW.out
                    rw [hfG] at h
                    exact h
                  have hl2 := fun x => look_none X HXM.out (w5.ext x)
                  repeat (go_big_quiet_step (fail))
                  refine wpQuiet_nil ?_
                  rintro z
                  have hbz := ext_below w5 z
                  have HI := kp (HI.out.bel hbz)
                  have HKB := kp (HKB.out.bel hbz)
                  have HT := kp (HT.out.bel hbz)
                  have HPB := kp (HPB.out.bel hbz)
                  have HO := kp (HS.out.rw.bel hbz)
                  have HV3 := kp (HV2.out.bel hbz)
                  have HRS3 := kp (HRS2.out.trans (Rs.of_bel hbz))
                  clear hbz hl1 hl2 x4 kl p1 kpb HV2 HRS2 HS
                  generalize w5.ext z = Z6 at HI HKB HT HPB HO HV3 HRS3 ⊢
                  have hl1 : (Instr.lookup 136 (.map (some M2.gb)) (.int .i64 ij) false).run Tryz.prog Z6 = .ok (.map none) Z6 := by
                    have h := HV3.out.im.look1 ij HIW.out
                    rw [hfG] at h
                    exact h
                  obtain ⟨x1, x2, x3, x4, x5, x6, kl⟩ := HV3.out.cells
                  rw [HRB2.out] at x4 kl
                  have hmm := @run_makeMap Tryz.prog
                  have hqn := eq_nilmap Z6
                  have hbx := ba (Below.refl Z6.heap.size Z6) (.map #[] 0)
                  have h7 := HV3.out.bel hbx
                  have hml9 : M2.m < maxLen := by
                    have h1 := HML2.out
                    have h2 := HC1.out.out
                    unfold maxLen
                    omega
                  obtain ⟨Z8, hup, him, hmt⟩ := h7.im.put ij HIW.out hml9 Z6.heap.size
                  have hup : (Instr.mapUpdate 136 (.map (some M2.gb)) (.int .i64 ij) (.map (some Z6.heap.size))).run Tryz.prog (Z6.alloc (.map #[] 0)) = .ok () Z8 := hup
                  obtain ⟨hv8, hs8⟩ := HV3.out.fresh hfG hbx (Drs.made Z6) (Nat.le_refl _) him hmt.grown
                  have y4 : (Z6.alloc (.map #[] 0)).cell? ⟨rb, 39, none⟩ = some (.map (some M2.gb)) := by
                    have := h7.cells.2.2.2.1
                    rw [HRB2.out] at this
                    exact this
                  clear h7 x1 x2 x3 x5 x6 him hmt hbx hml9
                  go_wp2_with (refine wpL_mapUpdate rfl 136 _ _ _ rfl rfl rfl rfl hup ?_)
                  have HI := kp ((HV3.out.rwKept hs8 HI.out (by decide) (by decide)))
                  have HKB := kp (HV3.out.blkKept hs8 HKB.out (by decide) (by decide))
                  have HT := kp (HV3.out.rwKept hs8 HT.out (by decide) (by decide))
                  have HPB := kp (HV3.out.blkKept hs8 HPB.out (by decide) (by decide))
                  have HO := kp (HV3.out.rwKept hs8 HO.out (by decide) (by decide))
                  obtain ⟨gs, hgs⟩ : ∃ gs, Z6.heap.size = gs := ⟨_, rfl⟩
                  rw [hgs] at hv8 hs8
                  obtain ⟨M3, hM3⟩ : ∃ M3 : Rm, { M2 with m := M2.m + 1, G := (ij, gs) :: del M2.G ij } = M3 := ⟨_, rfl⟩
                  have hg8 : fnd M3.G ij = some gs := by rw [← hM3]; exact fnd_cons_same _ _
                  have HRB8 : Kp (M3.rb = rb) := kp (by rw [← hM3]; exact HRB2.out)
                  have HM8 : Kp (M3.m ≤ M.m + S1.2.length + 1) := kp (by rw [← hM3]; exact Nat.succ_le_succ HML2.out)
                  have hnb : bs X ∉ S1.1.bl ij := by rw [hbl]; exact List.not_mem_nil
                  rw [hM3] at hv8 hs8
                  have HV8 := kp hv8
                  have HS8 := kp (HRS3.out.trans hs8)
                  clear hM3 hgs hv8 hs8 y4 hup hl1 HV3 HRS3 hmm hqn x4 kl hfG hbl
                  --BEGIN BELIEVED
                  have HB8 := kp hnb
                  obtain ⟨x1, x2, x3, x4, x5, x6, kl⟩ := HV8.out.cells
                  rw [HRB8.out] at x4 kl
                  have p1 := HPB.out.atL (show PK[1]? = some (.string X) by rw [← HPK.out]; rfl)
                  have kpb := HPB.out.lt
                  have hl1 : ∀ x, (Instr.lookup 136 (.map (some M3.gb)) (.int .i64 ij) false).run Tryz.prog (Z8.ext x) = .ok (.map (some gs)) (Z8.ext x) := fun x => by
                    have h := (HV8.out.bel (ext_below Z8 x)).im.look1 ij HIW.out
                    rw [hg8] at h
                    exact h
                  clear x1 x2 x3 x5 x6 hnb
                  go_upto_region 16 with (fail)
                  try dsimp only [Act.put]
                  refine wp_region_ext [0, 1, 2, 3, 4, 5, 6, 7] [8] (by kernel_rfl) (by kernel_rfl) ?_
                  simp only [List.map_cons, List.map_nil, List.getD_cons_succ, List.getD_cons_zero]
                  repeat (go_big_quiet_step (fail))
                  refine wpQuiet_nil ?_
                  rintro z9
                  have hbz := ext_below Z8 z9
                  have HI := kp (HI.out.bel hbz)
                  have HKB := kp (HKB.out.bel hbz)
                  have HT := kp (HT.out.bel hbz)
                  have HPB := kp (HPB.out.bel hbz)
                  have HO := kp (HO.out.bel hbz)
                  have HV9 := kp (HV8.out.bel hbz)
                  have HS9 := kp (HS8.out.trans (Rs.of_bel hbz))
                  clear hbz hl1 x4 kl p1 kpb HV8 HS8
                  generalize Z8.ext z9 = Z9 at HI HKB HT HPB HO HV9 HS9 ⊢
                  have hst := HV9.out.sets ij
                  rcases hst with ⟨h0, _⟩ | ⟨g9, kn, h0, hkn, hdr⟩
                  · exfalso; rw [hg8] at h0; cases h0
                  obtain rfl : gs = g9 := Option.some.inj (hg8.symm.trans h0)
                  have hkm : kn < maxLen := lt_maxLen (Nat.le_trans hkn (HC1.out.bl ij)) hN
                  obtain ⟨Z10, hup2, hd10, hg10⟩ := hdr.put X HXM.out hkm HB8.out
                  obtain ⟨hv10, hs10⟩ := HV9.out.add hg8 (Nat.succ_le_succ hkn) hd10 hg10
                  clear hdr hd10 hg10 hkn hkm h0
                  have HI := kp (HV9.out.rwKept hs10 HI.out (by decide) (by decide))
                  have HKB := kp (HV9.out.blkKept hs10 HKB.out (by decide) (by decide))
                  have HT := kp (HV9.out.rwKept hs10 HT.out (by decide) (by decide))
                  have HPB := kp (HV9.out.blkKept hs10 HPB.out (by decide) (by decide))
                  have HO := kp (HV9.out.rwKept hs10 HO.out (by decide) (by decide))
                  have HVX := kp hv10
                  have HSX := kp (HS9.out.trans hs10)
                  clear hv10 hs10 HV9 HS9
                  have p1 := HPB.out.atL (show PK[1]? = some (.string X) by rw [← HPK.out]; rfl)
                  have kpb := HPB.out.lt
                  have hth : thC (ij, bs X) = [.int .i64 ij, .string X] := rfl
                  have hbx := ba (Below.refl Z10.heap.size Z10) (.cells #[.int .i64 ij, .string X] 71)
                  have hn0 := Blk.new Z10 71 #[.int .i64 ij, .string X]
                  obtain ⟨gn, on, cn, Z12, hra, hrw, hgr⟩ := th_append (HO.out.bel hbx) (le_tho HC1.out.out hN) (Nat.le_trans HSX.out.fr.size hbx.size) (ij, bs X) hn0
                  have hfr := FrP.of_grown (X := fun k => ad'.map (·.block) = some k) hgr (fun k hk => hk)
                  have hadb : ∀ k, ad'.map (·.block) = some k → w.heap.size ≤ k ∧ ∃ cur, Blk (Z10.alloc (.cells #[.int .i64 ij, .string X] 71)) k 71 cur := fun k hk => (HO.out.bel hbx).blk hk
                  have HVY := kp ((HVX.out.bel hbx).frP hfr (fun k hk e => by
                    obtain ⟨_, cur, hc⟩ := hadb k e
                    exact (HVX.out.bel hbx).notX hc (by decide) (by decide) hk))
                  have HSY := kp ((HSX.out.trans (Rs.of_bel hbx)).frP hfr (fun k hk => (hadb k hk).1))
                  have HI := kp ((HI.out.bel hbx).frP hfr (fun k hk e => by
                    obtain ⟨_, cur, hc⟩ := hadb k e
                    obtain ⟨_, cur2, hc2⟩ := (HI.out.bel hbx).blk hk
                    exact hc.ne_ hc2 (by decide) rfl))
                  have HT := kp ((HT.out.bel hbx).frP hfr (fun k hk e => by
                    obtain ⟨_, cur, hc⟩ := hadb k e
                    obtain ⟨_, cur2, hc2⟩ := (HT.out.bel hbx).blk hk
                    exact hc.ne_ hc2 (by decide) rfl))
                  have HKB := kp ((HKB.out.bel hbx).frP hfr (fun e => by
                    obtain ⟨_, cur, hc⟩ := hadb b6 e
                    exact hc.ne_ (HKB.out.bel hbx) (by decide) rfl))
                  have HTH3 : Kp ((ts.take (q + 1)).foldl (thg A ij) S0 = ({ S1.1 with bl := addL S1.1.bl ij (bs X) }, S1.2 ++ [(ij, bs X)])) := kp (by rw [HNX.out, HTH2.out, if_neg HB8.out])
                  have HSE : Kp (BvI w M ((ts.take (q + 1)).foldl (thg A ij) S0) (some ⟨gn, on, none⟩) cn Z12) := kp (by
                    rw [HTH3.out]
                    exact ⟨⟨M3, HVY.out, HSY.out, by have := HM8.out; rw [List.length_append]; exact this⟩, hrw⟩)
                  have HME : Kp (S1.2.length + 1 = ((ts.take (q + 1)).foldl (thg A ij) S0).2.length) := kp (by rw [HTH3.out, List.length_append]; rfl)
                  have hm := HM.out
                  subst hm
                  have e2 := wrap_succ hql (by rw [← HQ.out]; exact HTL.out) (by decide)
                  have HQ1 : Kp (q + 1 ≤ Q) := kp hql
                  clear hfr hadb hrw hgr hn0 hbx hth HVX HSX HVY HSY HO
                  go_wp2_with (first | (refine wpL_mapUpdate rfl 79 _ _ _ rfl rfl rfl rfl hup2 ?_) | (refine wpL_append 104 rfl rfl _ _ 50 rfl rfl rfl hra ?_))
                  rw [e2]
                  exact ⟨⟨q + 1, _, _, _, HQ1.out, rfl, rfl, HME, HSE, HI, HKB, HT⟩, meas_lt HQ1.out⟩
                  --END BELIEVED
                · have hl1 : ∀ x, (Instr.lookup 136 (.map (some M2.gb)) (.int .i64 ij) false).run Tryz.prog (w5.ext x) = .ok (.map (some gs)) (w5.ext x) := fun x => by
                    have h := (HV2.out.bel (ext_below w5 x)).im.look1 ij HIW.out
                    rw [hfG] at h
                    exact h
                  by_cases hin : bs X ∈ S1.1.bl ij
                  · have hl2 := fun x => (hdr.bel (ext_below w5 x)).drw.look X HXM.out
                    rw [decide_eq_true hin] at hl2
                    have HTH3 : Kp ((ts.take (q + 1)).foldl (thg A ij) S0 = S1) := kp (by rw [HNX.out, HTH2.out, if_pos hin])
                    clear hkn hdr
                    repeat (go_big_quiet_step (fail))
                    refine wpQuiet_nil ?_
                    rintro z
                    have hbz := ext_below w5 z
                    have HI := kp (HI.out.bel hbz)
                    have HKB := kp (HKB.out.bel hbz)
                    have HT := kp (HT.out.bel hbz)
                    have HSE : Kp (BvI w M ((ts.take (q + 1)).foldl (thg A ij) S0) ad' cp' (w5.ext z)) := kp (by rw [HTH3.out]; exact HS.out.bel hbz)
                    have HME : Kp (m' = ((ts.take (q + 1)).foldl (thg A ij) S0).2.length) := kp (by rw [HTH3.out]; exact HM.out)
                    have e2 := wrap_succ hql (by rw [← HQ.out]; exact HTL.out) (by decide)
                    have HQ1 : Kp (q + 1 ≤ Q) := kp hql
                    clear hbz hl1 hl2 x4 kl p1 kpb
                    generalize w5.ext z = Z6 at HI HKB HT HSE ⊢
                    go_wp2
                    rw [e2]
                    exact ⟨⟨q + 1, m', ad', cp', HQ1.out, rfl, rfl, HME, HSE, HI, HKB, HT⟩, meas_lt HQ1.out⟩
                  · have hl2 := fun x => (hdr.bel (ext_below w5 x)).drw.look X HXM.out
                    rw [decide_eq_false hin] at hl2
                    have hnb : bs X ∉ S1.1.bl ij := hin
                    clear hkn hdr hin
                    repeat (go_big_quiet_step (fail))
                    refine wpQuiet_nil ?_
                    rintro z
                    have hbz := ext_below w5 z
                    have HI := kp (HI.out.bel hbz)
                    have HKB := kp (HKB.out.bel hbz)
                    have HT := kp (HT.out.bel hbz)
                    have HPB := kp (HPB.out.bel hbz)
                    have HO := kp (HS.out.rw.bel hbz)
                    have HV3 := kp (HV2.out.bel hbz)
                    have HRS3 := kp (HRS2.out.trans (Rs.of_bel hbz))
                    clear hbz hl1 hl2 x4 kl p1 kpb HV2 HRS2 HS
                    generalize w5.ext z = Z8 at HI HKB HT HPB HO HV3 HRS3 ⊢
                    have hl1 : (Instr.lookup 136 (.map (some M2.gb)) (.int .i64 ij) false).run Tryz.prog Z8 = .ok (.map (some gs)) Z8 := by
                      have h := HV3.out.im.look1 ij HIW.out
                      rw [hfG] at h
                      exact h
                    obtain ⟨x1, x2, x3, x4, x5, x6, kl⟩ := HV3.out.cells
                    rw [HRB2.out] at x4 kl
                    have hqn := eq_somemap gs Z8
                    clear x1 x2 x3 x5 x6
                    go_upto_region 16 with (fail)
                    clear hl1 x4 kl hqn
                    obtain ⟨M3, hM3⟩ : ∃ M3 : Rm, M2 = M3 := ⟨_, rfl⟩
                    have hg8 : fnd M3.G ij = some gs := by rw [← hM3]; exact hfG
                    have HRB8 : Kp (M3.rb = rb) := kp (by rw [← hM3]; exact HRB2.out)
                    have HM8 : Kp (M3.m ≤ M.m + S1.2.length + 1) := kp (by rw [← hM3]; exact Nat.le_succ_of_le HML2.out)
                    have HV8 : Kp (RV Z8 M3 S1.1) := kp (by rw [← hM3]; exact HV3.out)
                    have HS8 : Kp (Rs w Z8 M M3) := kp (by rw [← hM3]; exact HRS3.out)
                    clear hM3 HV3 HRS3 hfG
                    --BEGIN BELIEVED
                    have HB8 := kp hnb
                    obtain ⟨x1, x2, x3, x4, x5, x6, kl⟩ := HV8.out.cells
                    rw [HRB8.out] at x4 kl
                    have p1 := HPB.out.atL (show PK[1]? = some (.string X) by rw [← HPK.out]; rfl)
                    have kpb := HPB.out.lt
                    have hl1 : ∀ x, (Instr.lookup 136 (.map (some M3.gb)) (.int .i64 ij) false).run Tryz.prog (Z8.ext x) = .ok (.map (some gs)) (Z8.ext x) := fun x => by
                      have h := (HV8.out.bel (ext_below Z8 x)).im.look1 ij HIW.out
                      rw [hg8] at h
                      exact h
                    clear x1 x2 x3 x5 x6 hnb
                    go_upto_region 16 with (fail)
                    try dsimp only [Act.put]
                    refine wp_region_ext [0, 1, 2, 3, 4, 5, 6, 7] [8] (by kernel_rfl) (by kernel_rfl) ?_
                    simp only [List.map_cons, List.map_nil, List.getD_cons_succ, List.getD_cons_zero]
                    repeat (go_big_quiet_step (fail))
                    refine wpQuiet_nil ?_
                    rintro z9
                    have hbz := ext_below Z8 z9
                    have HI := kp (HI.out.bel hbz)
                    have HKB := kp (HKB.out.bel hbz)
                    have HT := kp (HT.out.bel hbz)
                    have HPB := kp (HPB.out.bel hbz)
                    have HO := kp (HO.out.bel hbz)
                    have HV9 := kp (HV8.out.bel hbz)
                    have HS9 := kp (HS8.out.trans (Rs.of_bel hbz))
                    clear hbz hl1 x4 kl p1 kpb HV8 HS8
                    generalize Z8.ext z9 = Z9 at HI HKB HT HPB HO HV9 HS9 ⊢
                    have hst := HV9.out.sets ij
                    rcases hst with ⟨h0, _⟩ | ⟨g9, kn, h0, hkn, hdr⟩
                    · exfalso; rw [hg8] at h0; cases h0
                    obtain rfl : gs = g9 := Option.some.inj (hg8.symm.trans h0)
                    have hkm : kn < maxLen := lt_maxLen (Nat.le_trans hkn (HC1.out.bl ij)) hN
                    obtain ⟨Z10, hup2, hd10, hg10⟩ := hdr.put X HXM.out hkm HB8.out
                    obtain ⟨hv10, hs10⟩ := HV9.out.add hg8 (Nat.succ_le_succ hkn) hd10 hg10
                    clear hdr hd10 hg10 hkn hkm h0
                    have HI := kp (HV9.out.rwKept hs10 HI.out (by decide) (by decide))
                    have HKB := kp (HV9.out.blkKept hs10 HKB.out (by decide) (by decide))
                    have HT := kp (HV9.out.rwKept hs10 HT.out (by decide) (by decide))
                    have HPB := kp (HV9.out.blkKept hs10 HPB.out (by decide) (by decide))
                    have HO := kp (HV9.out.rwKept hs10 HO.out (by decide) (by decide))
                    have HVX := kp hv10
                    have HSX := kp (HS9.out.trans hs10)
                    clear hv10 hs10 HV9 HS9
                    have p1 := HPB.out.atL (show PK[1]? = some (.string X) by rw [← HPK.out]; rfl)
                    have kpb := HPB.out.lt
                    have hth : thC (ij, bs X) = [.int .i64 ij, .string X] := rfl
                    have hbx := ba (Below.refl Z10.heap.size Z10) (.cells #[.int .i64 ij, .string X] 71)
                    have hn0 := Blk.new Z10 71 #[.int .i64 ij, .string X]
                    obtain ⟨gn, on, cn, Z12, hra, hrw, hgr⟩ := th_append (HO.out.bel hbx) (le_tho HC1.out.out hN) (Nat.le_trans HSX.out.fr.size hbx.size) (ij, bs X) hn0
                    have hfr := FrP.of_grown (X := fun k => ad'.map (·.block) = some k) hgr (fun k hk => hk)
                    have hadb : ∀ k, ad'.map (·.block) = some k → w.heap.size ≤ k ∧ ∃ cur, Blk (Z10.alloc (.cells #[.int .i64 ij, .string X] 71)) k 71 cur := fun k hk => (HO.out.bel hbx).blk hk
                    have HVY := kp ((HVX.out.bel hbx).frP hfr (fun k hk e => by
                      obtain ⟨_, cur, hc⟩ := hadb k e
                      exact (HVX.out.bel hbx).notX hc (by decide) (by decide) hk))
                    have HSY := kp ((HSX.out.trans (Rs.of_bel hbx)).frP hfr (fun k hk => (hadb k hk).1))
                    have HI := kp ((HI.out.bel hbx).frP hfr (fun k hk e => by
                      obtain ⟨_, cur, hc⟩ := hadb k e
                      obtain ⟨_, cur2, hc2⟩ := (HI.out.bel hbx).blk hk
                      exact hc.ne_ hc2 (by decide) rfl))
                    have HT := kp ((HT.out.bel hbx).frP hfr (fun k hk e => by
                      obtain ⟨_, cur, hc⟩ := hadb k e
                      obtain ⟨_, cur2, hc2⟩ := (HT.out.bel hbx).blk hk
                      exact hc.ne_ hc2 (by decide) rfl))
                    have HKB := kp ((HKB.out.bel hbx).frP hfr (fun e => by
                      obtain ⟨_, cur, hc⟩ := hadb b6 e
                      exact hc.ne_ (HKB.out.bel hbx) (by decide) rfl))
                    have HTH3 : Kp ((ts.take (q + 1)).foldl (thg A ij) S0 = ({ S1.1 with bl := addL S1.1.bl ij (bs X) }, S1.2 ++ [(ij, bs X)])) := kp (by rw [HNX.out, HTH2.out, if_neg HB8.out])
                    have HSE : Kp (BvI w M ((ts.take (q + 1)).foldl (thg A ij) S0) (some ⟨gn, on, none⟩) cn Z12) := kp (by
                      rw [HTH3.out]
                      exact ⟨⟨M3, HVY.out, HSY.out, by have := HM8.out; rw [List.length_append]; exact this⟩, hrw⟩)
                    have HME : Kp (S1.2.length + 1 = ((ts.take (q + 1)).foldl (thg A ij) S0).2.length) := kp (by rw [HTH3.out, List.length_append]; rfl)
                    have hm := HM.out
                    subst hm
                    have e2 := wrap_succ hql (by rw [← HQ.out]; exact HTL.out) (by decide)
                    have HQ1 : Kp (q + 1 ≤ Q) := kp hql
                    clear hfr hadb hrw hgr hn0 hbx hth HVX HSX HVY HSY HO
                    go_wp2_with (first | (refine wpL_mapUpdate rfl 79 _ _ _ rfl rfl rfl rfl hup2 ?_) | (refine wpL_append 104 rfl rfl _ _ 50 rfl rfl rfl hra ?_))
                    rw [e2]
                    exact ⟨⟨q + 1, _, _, _, HQ1.out, rfl, rfl, HME, HSE, HI, HKB, HT⟩, meas_lt HQ1.out⟩
                    --END BELIEVED
              · rw [decide_eq_false hr] at cR
                have HTH2 : Kp (thg A ij S1 t = ({ S1.1 with wr := S1.1.wr + 1 }, S1.2)) := kp (by rw [HTH.out, if_neg hr])
                clear HTH hr
                go_wp2_with (first | (refine wpL_load rfl 27 _ rfl rfl L1 ?_) | (refine wpL_load rfl 40 _ rfl rfl L2 ?_))
                refine (cR.out _).mono ?_
                rintro e w5 ⟨rfl, hb5⟩
                have HS := kp (HS.out.bel hb5)
                have HI := kp (HI.out.bel hb5)
                have HKB := kp (HKB.out.bel hb5)
                have HT := kp (HT.out.bel hb5)
                clear hb5 L1 L2 HPB
                obtain ⟨M2, hv, hs, hml⟩ := HS.out.rv
                have HML2 := kp hml
                clear hml
                have hrb' : M2.rb = rb := hs.rb.trans HRB.out
                obtain ⟨x1, x2, x3, x4, x5, x6, kl⟩ := hv.cells
                have hbk := hv.blk
                have fz := hbk.frozen 40
                rw [hrb'] at x5 kl fz hbk
                have e1 := wrap_wr HC1.out.wr (by omega)
                have hset := hbk.setL 40 (.int .i64 (S1.1.wr + 1))
                have hse : (rcL S1.1 M2.bb M2.gb).set 40 (.int .i64 (S1.1.wr + 1)) = rcL { S1.1 with wr := S1.1.wr + 1 } M2.bb M2.gb := rcL_wr S1.1 _ _ hv.key _
                rw [hse] at hset
                have hgr := gbset w5 rb 40 (.int .i64 (S1.1.wr + 1))
                obtain ⟨hv2, hs2⟩ := hv.own (R' := { S1.1 with wr := S1.1.wr + 1 }) hv.key rfl rfl (w' := w5.setCell ⟨rb, 40, none⟩ (.int .i64 (S1.1.wr + 1))) (by rw [hrb']; exact hset) (by rw [hrb']; exact hgr)
                have HI := kp (hv.rwKept hs2 HI.out (by decide) (by decide))
                have HKB := kp (hv.blkKept hs2 HKB.out (by decide) (by decide))
                have HT := kp (hv.rwKept hs2 HT.out (by decide) (by decide))
                have HS : Kp (BvI w M ((ts.take (q + 1)).foldl (thg A ij) S0) ad' cp' (w5.setCell ⟨rb, 40, none⟩ (.int .i64 (S1.1.wr + 1)))) := kp (by rw [HNX.out, HTH2.out]; exact ⟨⟨M2, hv2, hs.trans hs2, HML2.out⟩, hv.rwKept hs2 HS.out.rw (by decide) (by decide)⟩)
                have HM : Kp (m' = ((ts.take (q + 1)).foldl (thg A ij) S0).2.length) := kp (by rw [HNX.out, HTH2.out]; exact HM.out)
                clear hv hs hs2 hv2 hgr hse hset hbk x1 x2 x3 x4 x6
                have e2 := wrap_succ hql (by rw [← HQ.out]; exact HTL.out) (by decide)
                have HQ1 : Kp (q + 1 ≤ Q) := kp hql
                go_wp2
                rw [e2]
                exact ⟨⟨q + 1, m', ad', cp', HQ1.out, rfl, rfl, HM, HS, HI, HKB, HT⟩, meas_lt HQ1.out⟩
          · have hqe : q = Q := by omega
            subst hqe
            have i3 : ¬ ((q : Int) < (q : Int)) := by omega
            have e2 := wrap_succ hlt (by rw [← HL.out]; exact Nat.le_trans (Nat.le_of_eq (ivs_length R.B)) (Nat.le_trans OK.out.len OK.out.room.2)) (by decide)
            have HJ1 : Kp (j + 1 ≤ L) := kp hlt
            have HSE : Kp (BvI w M (blvL R ((ivs R.B).take (j + 1))) ad' cp' wr) := kp (by rw [HSN.out, HSN2.out]; exact HS.out)
            have HME : Kp (m' = (blvL R ((ivs R.B).take (j + 1))).2.length) := kp (by rw [HSN.out, HSN2.out]; exact HM.out)
            have HAE : Kp (∀ i ∈ (ivs R.B).take (j + 1), decide (i ≤ R.a) = true) := kp (by
              rw [take_snocR HIJ.out]
              intro i hi
              rcases List.mem_append.1 hi with h | h
              · exact HA.out i h
              · rw [List.mem_singleton] at h
                rw [h]
                exact decide_eq_true HLE.out)
            go_wp2
            rw [e2]
            exact ⟨⟨j + 1, m', ad', cp', HJ1.out, rfl, rfl, HME, HSE, HAE, HI⟩, meas_lt HJ1.out⟩
    · have hje : j = L := by omega
      subst hje
      have hbe : blv R = blvL R ((ivs R.B).take j) := by
        unfold blv
        have h := HA.out
        rw [List.take_of_length_le (Nat.le_of_eq HL.out)] at h ⊢
        rw [takeWhile_all h]
      have i3 : ¬ ((j : Int) < (j : Int)) := by omega
      have HM0 := HM.out
      subst HM0
      rw [hbe]
      have HEND : Kp (BlvEnd w M (blvL R ((ivs R.B).take j)) (.returned (.slice ad (blvL R ((ivs R.B).take j)).2.length cp)) wr) := kp ⟨ad, cp, rfl, HS.out⟩
      go_wp2
      go_ret
      exact HEND.out
end Go.Proofs.YtmblknknbbdmeaaGreat
/- receiver: Put whole; caps that hold over acts. -/
namespace Go.Proofs.YtmblknknbbdmeaaGreat
open Go Go.RowKit Go.Maps
set_option linter.unusedVariables false
set_option linter.unusedSimpArgs false

/-- a thing laid into a buffer: the answer, and the buffer behind it -/
def putP (B : Bf) (i : Int) (t : List UInt8) : Int × Bf :=
  match fnd B.sl i with
  | some ts => if t ∈ ts then (11, B) else if ts.length < B.each then (0, { B with sl := upd B.sl i (ts ++ [t]), sz := B.sz + 1 }) else (4, { B with dr := B.dr + 1 })
  | none => if B.sl.length < B.room then (0, { B with sl := (i, [t]) :: B.sl, sz := B.sz + 1 }) else (4, { B with dr := B.dr + 1 })
theorem slN_upd {sl : List (Int × List (List UInt8))} {i : Int} {ts : List (List UInt8)} (hn : (sl.map (·.1)).Nodup) (h : fnd sl i = some ts) (t : List UInt8) : slN (upd sl i (ts ++ [t])) = slN sl + 1 := by
  induction sl with
  | nil => simp [fnd] at h
  | cons p sl ih =>
    obtain ⟨a, b⟩ := p
    rw [List.map_cons, List.nodup_cons] at hn
    by_cases e : i = a
    · subst e
      rw [fnd_cons_same] at h
      injection h with h; subst h
      have hd : upd ((i, b) :: sl) i (b ++ [t]) = (i, b ++ [t]) :: sl := by
        have : upd sl i (b ++ [t]) = sl := upd_none (fnd_eq_none.2 hn.1) _
        unfold upd at this ⊢
        rw [List.map_cons, this]
        simp
      rw [hd]
      simp only [slN, List.map_cons, List.sum_cons, List.length_append, List.length_cons, List.length_nil]
      omega
    · rw [fnd_cons_other e] at h
      have := ih hn.2 h
      have hd : upd ((a, b) :: sl) i (ts ++ [t]) = (a, b) :: upd sl i (ts ++ [t]) := by
        unfold upd
        rw [List.map_cons, if_neg (fun e2 => e e2.symm)]
      rw [hd]
      simp only [slN, List.map_cons, List.sum_cons] at this ⊢
      omega
/-- caps; N: how many things came at most -/
structure Rin (N : Nat) (R : Rc) : Prop where
  ok : Rok N R
  pot : ∀ i, R.wr + ((R.bl i).length : Int) + R.B.sz ≤ N
theorem putP_cases (B : Bf) (i : Int) (t : List UInt8) : ((putP B i t).1 = 11 ∧ (putP B i t).2 = B) ∨ ((putP B i t).1 = 4 ∧ (putP B i t).2 = { B with dr := B.dr + 1 }) ∨ ((putP B i t).1 = 0 ∧ ((∃ ts, fnd B.sl i = some ts ∧ ts.length < B.each ∧ t ∉ ts ∧ (putP B i t).2 = { B with sl := upd B.sl i (ts ++ [t]), sz := B.sz + 1 }) ∨ (fnd B.sl i = none ∧ B.sl.length < B.room ∧ (putP B i t).2 = { B with sl := (i, [t]) :: B.sl, sz := B.sz + 1 }))) := by
  unfold putP
  cases hf : fnd B.sl i with
  | some ts =>
    dsimp only
    by_cases h1 : t ∈ ts
    · rw [if_pos h1]; exact Or.inl ⟨rfl, rfl⟩
    · rw [if_neg h1]
      by_cases h2 : ts.length < B.each
      · rw [if_pos h2]; exact Or.inr (Or.inr ⟨rfl, Or.inl ⟨ts, rfl, h2, h1, rfl⟩⟩)
      · rw [if_neg h2]; exact Or.inr (Or.inl ⟨rfl, rfl⟩)
  | none =>
    dsimp only
    by_cases h2 : B.sl.length < B.room
    · rw [if_pos h2]; exact Or.inr (Or.inr ⟨rfl, Or.inr ⟨rfl, h2, rfl⟩⟩)
    · rw [if_neg h2]; exact Or.inr (Or.inl ⟨rfl, rfl⟩)
theorem Rin.mono {N N' : Nat} {R : Rc} (h : Rin N R) (hn : N ≤ N') : Rin N' R :=
  ⟨⟨h.ok.may, h.ok.most, h.ok.at_, h.ok.each, h.ok.room, h.ok.nodup, h.ok.len, h.ok.wf, h.ok.sz, ⟨h.ok.dr.1, by have := h.ok.dr.2; omega⟩, ⟨h.ok.wr.1, by have := h.ok.wr.2; omega⟩, fun i => Nat.le_trans (h.ok.bl i) hn⟩, fun i => by have := h.pot i; omega⟩
theorem Rin.put {N : Nat} {R : Rc} (h : Rin N R) {i : Int} (h1 : 1 ≤ i) (h2 : i ≤ R.c) {t : List UInt8} (ht : 16 ≤ t.length ∧ t.length ≤ 1016) : Rin (N + 1) { R with B := (putP R.B i t).2 } := by
  have h0 := h.mono (Nat.le_succ N)
  rcases putP_cases R.B i t with ⟨_, e⟩ | ⟨_, e⟩ | ⟨_, ⟨ts, hf, hl, hn, e⟩ | ⟨hf, hl, e⟩⟩
  · rw [e]; exact h0
  · rw [e]
    exact ⟨⟨h0.ok.may, h0.ok.most, h0.ok.at_, h0.ok.each, h0.ok.room, h0.ok.nodup, h0.ok.len, h0.ok.wf, h0.ok.sz, ⟨by have := h.ok.dr.1; show 0 ≤ R.B.dr + 1; omega, by have := h.ok.dr.2; show R.B.dr + 1 ≤ ((N + 1 : Nat) : Int); omega⟩, h0.ok.wr, h0.ok.bl⟩, h0.pot⟩
  · rw [e]
    refine ⟨⟨h0.ok.may, h0.ok.most, h0.ok.at_, h0.ok.each, h0.ok.room, ?_, ?_, ?_, ?_, h0.ok.dr, h0.ok.wr, h0.ok.bl⟩, fun j => ?_⟩
    · show ((upd R.B.sl i (ts ++ [t])).map (·.1)).Nodup
      rw [upd_keys]; exact h.ok.nodup
    · show (upd R.B.sl i (ts ++ [t])).length ≤ R.B.room
      unfold upd; rw [List.length_map]; exact h.ok.len
    · intro p hp
      change p ∈ upd R.B.sl i (ts ++ [t]) at hp
      unfold upd at hp
      obtain ⟨q, hq, he⟩ := List.mem_map.1 hp
      by_cases e : q.1 = i
      · rw [if_pos e] at he
        subst he
        refine ⟨h1, h2, ?_, fun u hu => ?_⟩
        · show (ts ++ [t]).length ≤ R.B.each
          rw [List.length_append, List.length_singleton]; omega
        · rcases List.mem_append.1 hu with hu | hu
          · have hm := fnd_mem hf
            exact (h.ok.wf _ hm).2.2.2 u hu
          · rw [List.mem_singleton] at hu; rw [hu]; exact ht
      · rw [if_neg e] at he
        subst he
        exact h.ok.wf _ hq
    · show R.B.sz + 1 = (slN (upd R.B.sl i (ts ++ [t])) : Int)
      rw [slN_upd h.ok.nodup hf, h.ok.sz]; omega
    · have := h.pot j
      show R.wr + ((R.bl j).length : Int) + (R.B.sz + 1) ≤ ((N + 1 : Nat) : Int)
      omega
  · rw [e]
    refine ⟨⟨h0.ok.may, h0.ok.most, h0.ok.at_, h0.ok.each, h0.ok.room, ?_, ?_, ?_, ?_, h0.ok.dr, h0.ok.wr, h0.ok.bl⟩, fun j => ?_⟩
    · show (((i, [t]) :: R.B.sl).map (·.1)).Nodup
      rw [List.map_cons, List.nodup_cons]; exact ⟨fnd_eq_none.1 hf, h.ok.nodup⟩
    · show ((i, [t]) :: R.B.sl).length ≤ R.B.room
      exact hl
    · intro p hp
      rcases List.mem_cons.1 hp with rfl | hp
      · refine ⟨h1, h2, ?_, fun u hu => ?_⟩
        · show 1 ≤ R.B.each
          exact h.ok.each.1
        · rw [List.mem_singleton] at hu; rw [hu]; exact ht
      · exact h.ok.wf _ hp
    · show R.B.sz + 1 = (slN ((i, [t]) :: R.B.sl) : Int)
      rw [h.ok.sz]; simp only [slN, List.map_cons, List.sum_cons, List.length_cons, List.length_nil]; omega
    · have := h.pot j
      show R.wr + ((R.bl j).length : Int) + (R.B.sz + 1) ≤ ((N + 1 : Nat) : Int)
      omega
theorem R_Put0 (N : Nat) (hN : N ≤ 50000) (w : World) (M : Rm) (R : Rc) (H : RV w M R) (ok : Rok N R) (hn : M.n ≤ N) (i : Int) (h1 : 1 ≤ i) (h2 : i ≤ R.c) (tx : ByteArray) (ht : tx.size ≤ 1016) :
    Calls Tryz.prog 67 #[.pointer (some ⟨M.bb, 0, none⟩), .int .i64 i, .string tx] w fun e w' => e = .returned (.int .i64 (putP R.B i (bs tx)).1) ∧ ∃ M', RV w' M' { R with B := (putP R.B i (bs tx)).2 } ∧ Rs w w' M M' ∧ M'.m = M.m := by
  have hm := mayP_iff.1 ok.may
  have hi : (kI i).wf = true := kI_wf (by omega) (by omega)
  have htx : tx.size ≤ maxLen := by unfold maxLen; omega
  have hsz : 0 ≤ R.B.sz ∧ R.B.sz < 4611686018427387904 := by
    have h3 := ok.bok.sz
    have h4 := ok.bok.le
    omega
  have hdr : 0 ≤ R.B.dr ∧ R.B.dr < 4611686018427387904 := by have := ok.dr; omega
  have hmax : M.n < maxLen := by unfold maxLen; omega
  have hgb : ∀ {w' : World}, w.grownBy w' (some M.bb) → BFr M.bb M.gm M.F w w' := fun hg => BFr.of_grown hg (Or.inl rfl)
  unfold putP
  cases hf : fnd R.B.sl i with
  | some ts =>
    dsimp only
    obtain ⟨⟨c, g⟩, hcg⟩ : ∃ cg, fnd M.F i = some cg := by
      cases hq : fnd M.F i with
      | none => have := (fnd_keys H.bf.keys i).1 hq; rw [hf] at this; cases this
      | some x => exact ⟨x, rfl⟩
    by_cases h3 : bs tx ∈ ts
    · rw [if_pos h3]
      refine (U_Put_twice M.bb M.gm M.n M.F R.B i tx hi h1 htx c g hcg (fun ts' h => by rw [hf] at h; injection h with h; exact h ▸ h3) w H.bf).mono ?_
      rintro e w' ⟨he, hb⟩
      exact ⟨he, M, H.bel hb, Rs.of_bel hb, rfl⟩
    · rw [if_neg h3]
      by_cases h4 : ts.length < R.B.each
      · rw [if_pos h4]
        refine (U_Put_some M.bb M.gm M.n M.F R.B i tx hi h1 htx c g hcg ts hf h3 h4 ok.each.2 hsz w H.bf).mono ?_
        rintro e w' ⟨he, hb, hr⟩
        obtain ⟨k1, k2⟩ := H.buf hb hr (fun i c g h => Or.inl h)
        exact ⟨he, _, k1, k2, rfl⟩
      · rw [if_neg h4]
        refine (U_Put_full M.bb M.gm M.n M.F R.B i tx hi h1 htx c g hcg ts hf h3 (by omega) hdr w H.bf).mono ?_
        rintro e w' ⟨he, hb, hr⟩
        obtain ⟨k1, k2⟩ := H.buf hb hr (fun i c g h => Or.inl h)
        exact ⟨he, _, k1, k2, rfl⟩
  | none =>
    dsimp only
    have hcg : fnd M.F i = none := (fnd_keys H.bf.keys i).2 hf
    by_cases h3 : R.B.sl.length < R.B.room
    · rw [if_pos h3]
      refine (U_Put_new M.bb M.gm M.n M.F R.B i tx hi h1 htx hcg h3 ok.room.2 ok.each hmax hsz w H.bf).mono ?_
      rintro e w' ⟨he, c, g, hb, hr, hc, hg⟩
      obtain ⟨k1, k2⟩ := H.buf hb hr (fun j c' g' h => by
        by_cases e : j = i
        · subst e
          rw [fnd_cons_same] at h
          injection h with h
          injection h with e1 e2
          subst e1 e2
          exact Or.inr ⟨hc, hg⟩
        · rw [fnd_cons_other e] at h
          exact Or.inl h)
      exact ⟨he, _, k1, k2, rfl⟩
    · rw [if_neg h3]
      refine (U_Put_room M.bb M.gm M.n M.F R.B i tx hi h1 htx hcg (by have := ok.len; omega) hdr w H.bf).mono ?_
      rintro e w' ⟨he, hb, hr⟩
      obtain ⟨k1, k2⟩ := H.buf hb (hgb hr) (fun i c g h => Or.inl h)
      exact ⟨he, _, k1, k2, rfl⟩
theorem RV.tight {w : World} {M : Rm} {R : Rc} (h : RV w M R) : RV w { M with n := M.F.length } R :=
  ⟨h.blk, h.key, ⟨h.bf.blk, h.bf.im.tight, h.bf.keys, h.bf.slot, h.bf.inj, h.bf.sets⟩, h.im, h.sets, h.inj, h.gbm, h.gF, h.gG⟩
theorem R_Put (N : Nat) (hN : N ≤ 50000) (w : World) (M : Rm) (R : Rc) (H : RV w M R) (ok : Rok N R) (i : Int) (h1 : 1 ≤ i) (h2 : i ≤ R.c) (tx : ByteArray) (ht : tx.size ≤ 1016) :
    Calls Tryz.prog 67 #[.pointer (some ⟨M.bb, 0, none⟩), .int .i64 i, .string tx] w fun e w' => e = .returned (.int .i64 (putP R.B i (bs tx)).1) ∧ ∃ M', RV w' M' { R with B := (putP R.B i (bs tx)).2 } ∧ Rs w w' M M' ∧ M'.m = M.m := by
  have hl : M.F.length = R.B.sl.length := by have := congrArg List.length H.bf.keys; simpa using this
  have h64 : M.F.length ≤ 64 := by have := ok.len; have := ok.room; omega
  have hz : ∀ N', N ≤ N' → Rok N' R := fun N' hn => ⟨ok.may, ok.most, ok.at_, ok.each, ok.room, ok.nodup, ok.len, ok.wf, ok.sz, ⟨ok.dr.1, by have := ok.dr.2; omega⟩, ⟨ok.wr.1, by have := ok.wr.2; omega⟩, fun i => Nat.le_trans (ok.bl i) hn⟩
  refine (R_Put0 (max N 64) (by omega) w { M with n := M.F.length } R H.tight (hz _ (by omega)) (by show M.F.length ≤ _; omega) i h1 h2 tx ht).mono ?_
  rintro e w' ⟨he, M', hv, hs, hm⟩
  exact ⟨he, M', hv, ⟨hs.fr, hs.rb, hs.own⟩, hm⟩
/-! ### believing keeps the caps -/
theorem thg_pot (k : List UInt8) (i : Int) (S : RS) (t : List UInt8) : (∀ j, (thg k i S t).1.wr + (((thg k i S t).1.bl j).length : Int) ≤ S.1.wr + ((S.1.bl j).length : Int) + 1) ∧ (thg k i S t).2.length ≤ S.2.length + 1 ∧ S.1.wr ≤ (thg k i S t).1.wr := by
  unfold thg
  split
  · split
    · exact ⟨fun j => by omega, by omega, by omega⟩
    · refine ⟨fun j => ?_, by simp, by show S.1.wr ≤ S.1.wr; omega⟩
      show S.1.wr + ((addL S.1.bl i _ j).length : Int) ≤ _
      unfold addL
      split
      · rw [List.length_append, List.length_singleton]; omega
      · omega
  · refine ⟨fun j => ?_, Nat.le_succ _, ?_⟩
    · show S.1.wr + 1 + ((S.1.bl j).length : Int) ≤ _; omega
    · show S.1.wr ≤ S.1.wr + 1; omega
theorem thgs_pot (k : List UInt8) (i : Int) (ts : List (List UInt8)) (S : RS) : (∀ j, (ts.foldl (thg k i) S).1.wr + (((ts.foldl (thg k i) S).1.bl j).length : Int) ≤ S.1.wr + ((S.1.bl j).length : Int) + ts.length) ∧ (ts.foldl (thg k i) S).2.length ≤ S.2.length + ts.length ∧ S.1.wr ≤ (ts.foldl (thg k i) S).1.wr := by
  induction ts generalizing S with
  | nil => exact ⟨fun j => by simp, by simp, Int.le_refl _⟩
  | cons t ts ih =>
    obtain ⟨a1, a2, a3⟩ := thg_pot k i S t
    obtain ⟨b1, b2, b3⟩ := ih (thg k i S t)
    rw [List.foldl_cons, List.length_cons]
    refine ⟨fun j => ?_, by omega, by omega⟩
    have := a1 j
    have := b1 j
    omega
theorem blvI_pot (S : RS) (i : Int) : (∀ j, (blvI S i).1.wr + (((blvI S i).1.bl j).length : Int) + (blvI S i).1.B.sz ≤ S.1.wr + ((S.1.bl j).length : Int) + S.1.B.sz) ∧ ((blvI S i).2.length : Int) + (blvI S i).1.B.sz ≤ (S.2.length : Int) + S.1.B.sz ∧ S.1.wr ≤ (blvI S i).1.wr := by
  have hB := (blvI_same S i).2
  obtain ⟨a1, a2, a3⟩ := thgs_pot (keyAt S.1 i) i ((fnd S.1.B.sl i).getD []) ({ S.1 with B := takB S.1.B i }, S.2)
  rw [hB]
  have hz : (takB S.1.B i).sz = S.1.B.sz - (((fnd S.1.B.sl i).getD []).length : Int) := rfl
  rw [hz]
  refine ⟨fun j => ?_, ?_, a3⟩
  · have := a1 j
    change (blvI S i).1.wr + _ ≤ S.1.wr + ((S.1.bl j).length : Int) + _ at this
    change _ + (((blvI S i).1.bl j).length : Int) ≤ _ at this
    omega
  · change (blvI S i).2.length ≤ S.2.length + _ at a2
    omega
theorem blvs_pot (l : List Int) (S : RS) : (∀ j, (l.foldl blvI S).1.wr + (((l.foldl blvI S).1.bl j).length : Int) + (l.foldl blvI S).1.B.sz ≤ S.1.wr + ((S.1.bl j).length : Int) + S.1.B.sz) ∧ ((l.foldl blvI S).2.length : Int) + (l.foldl blvI S).1.B.sz ≤ (S.2.length : Int) + S.1.B.sz ∧ S.1.wr ≤ (l.foldl blvI S).1.wr := by
  induction l generalizing S with
  | nil => exact ⟨fun j => Int.le_refl _, Int.le_refl _, Int.le_refl _⟩
  | cons i l ih =>
    obtain ⟨a1, a2, a3⟩ := blvI_pot S i
    obtain ⟨b1, b2, b3⟩ := ih (blvI S i)
    rw [List.foldl_cons]
    refine ⟨fun j => ?_, by omega, by omega⟩
    have := a1 j
    have := b1 j
    omega
theorem takBs_mem (l : List Int) (B : Bf) : (∀ p ∈ (l.foldl takB B).sl, p ∈ B.sl) ∧ (l.foldl takB B).sl.length ≤ B.sl.length := by
  induction l generalizing B with
  | nil => exact ⟨fun p h => h, Nat.le_refl _⟩
  | cons i l ih =>
    rw [List.foldl_cons]
    obtain ⟨a, b⟩ := ih (takB B i)
    refine ⟨fun p hp => ?_, Nat.le_trans b (List.length_filter_le _ _)⟩
    exact (List.mem_filter.1 (a p hp)).1
theorem Rin.blv {N : Nat} {R : Rc} (h : Rin N R) : Rin N (blv R).1 := by
  unfold Proofs.YtmblknknbbdmeaaGreat.blv blvL
  generalize (ivs R.B).takeWhile (fun i => decide (i ≤ R.a)) = l
  obtain ⟨⟨e1, e2, e3, e4, e5, e6, e7⟩, hB⟩ := blvs_same l (R, [])
  obtain ⟨p1, p2, p3⟩ := blvs_pot l (R, [])
  have hbo := h.ok.bok.taks l
  obtain ⟨t1, t2⟩ := takBs_mem l R.B
  obtain ⟨b1, b2, b3⟩ := takBs_each l R.B
  change (l.foldl blvI (R, [])).1.B = l.foldl takB R.B at hB
  change ∀ j, _ ≤ R.wr + ((R.bl j).length : Int) + R.B.sz at p1
  change R.wr ≤ _ at p3
  have hz : (l.foldl blvI (R, [])).1.B.sz = (slN (l.foldl takB R.B).sl : Int) := by rw [hB]; exact hbo.sz
  generalize l.foldl blvI (R, []) = S at *
  have hw := h.ok.wr
  refine ⟨⟨by rw [e1, e2, e3, e4]; exact h.ok.may, by rw [e7]; exact h.ok.most, by rw [e6, e4]; exact h.ok.at_, by rw [hB, b1]; exact h.ok.each, by rw [hB, b2]; exact h.ok.room, by rw [hB]; exact hbo.nodup, ?_, ?_, by rw [hB]; exact hbo.sz, by rw [hB, b3]; exact h.ok.dr, ?_, fun i => ?_⟩, fun i => ?_⟩
  · rw [hB, b2]; exact Nat.le_trans t2 h.ok.len
  · intro p hp
    rw [hB] at hp
    rw [hB, b1]
    have h4 : S.1.c = R.c := e4
    rw [h4]
    exact h.ok.wf p (t1 p hp)
  · have := p1 0
    have := h.pot 0
    omega
  · have := p1 i
    have := h.pot i
    omega
  · have := p1 i
    have := h.pot i
    omega
theorem blv_out (R : Rc) : ((blv R).2.length : Int) + (blv R).1.B.sz ≤ R.B.sz := by
  have := (blvs_pot ((ivs R.B).takeWhile fun i => decide (i ≤ R.a)) (R, [])).2.1
  unfold blv blvL
  simpa using this
theorem blv_same (R : Rc) : SameR R (blv R).1 := (blvs_same _ (R, [])).1
theorem thL_nil : thL [] = [] := rfl
end Go.Proofs.YtmblknknbbdmeaaGreat
/- receiver: Learn. -/
namespace Go.Proofs.YtmblknknbbdmeaaGreat
open Go Go.RowKit Go.Maps
set_option linter.unusedVariables false
set_option linter.unusedSimpArgs false
attribute [local go_sem] bmax2 bmin2 bmax bmin cell_ext frozen_ext

/-- a receiver in memory, within its caps -/
structure RR (N : Nat) (w : World) (M : Rm) (R : Rc) : Prop where
  rv : RV w M R
  ok : Rin N R
  m : (M.m : Int) + R.B.sz ≤ N
theorem RR.bel {N : Nat} {w w' : World} {M : Rm} {R : Rc} (h : RR N w M R) (hb : Below w.heap.size w w') : RR N w' M R := ⟨h.rv.bel hb, h.ok, h.m⟩
theorem RR.mono {N N' : Nat} {w : World} {M : Rm} {R : Rc} (h : RR N w M R) (hn : N ≤ N') : RR N' w M R := ⟨h.rv, h.ok.mono hn, by have := h.m; omega⟩
/-- what learning a new key tells -/
def lrnE (R : Rc) (k : List UInt8) (i : Int) : Int := if min R.most 1024 < i - R.a then 16 else if walkD k (i - R.a).toNat = R.K then 0 else 13
/-- Learn, plainly -/
def lrnP (R : Rc) (k : List UInt8) (i : Int) : RS × Int :=
  if i < 1 ∨ R.c < i then ((R, []), 1)
  else if i ≤ R.a then ((R, []), if keyAt R i = k then 0 else 13)
  else if lrnE R k i = 0 then (blv { R with K := k, a := i }, 0) else ((R, []), lrnE R k i)
def LrnEnd (N : Nat) (w : World) (M : Rm) (S : RS × Int) (e : Ending) (w' : World) : Prop :=
  ∃ ad cp M', e = .returned (.tuple #[.slice ad S.1.2.length cp, .int .i64 S.2]) ∧ RR N w' M' S.1.1 ∧ Rs w w' M M' ∧ Rw w.heap.size w' 71 2 ad S.1.2.length cp (thL S.1.2)
theorem lrn_nil {N : Nat} {w w' : World} {M : Rm} {R : Rc} (H : RR N w' M R) (hb : Below w.heap.size w w') (x : Int) : LrnEnd N w M ((R, []), x) (.returned (.tuple #[.slice none 0 0, .int .i64 x])) w' :=
  ⟨none, 0, M, rfl, H, Rs.of_bel hb, Rw.nil _ _ _ _⟩
theorem Learn_all (K k : List UInt8) (R : Rc) (i : Int) (hK : R.K.length = 32) (hk : k.length = 32) (h0 : 0 ≤ R.a) (h1 : R.a < i) (hi : i ≤ 9223372036854775807) : ∃ Mv : List Value, Mv.length = 33 ∧ (∀ v ∈ Mv, v.oneCell' = true) ∧ (lrnE R k i = 0 → Mv = mindL k i) ∧ ∀ w, Calls Tryz.prog 69 #[.agg (mindL R.K R.a).toArray, .agg (cellsU8 k).toArray, .int .i64 i, .int .i64 R.most] w fun e w' => e = .returned (.tuple #[.agg Mv.toArray, .int .i64 (lrnE R k i)]) ∧ Below w.heap.size w w' := by
  unfold lrnE
  by_cases h : min R.most 1024 < i - R.a
  · refine ⟨zeroM, zeroM_length, mindL_one _ _, ?_, fun w => ?_⟩
    · rw [if_pos h]; intro h; omega
    · rw [if_pos h]; exact Learn_far R.K k R.a i R.most hK hk h0 h1 hi h w
  · refine ⟨learnM R.K k (walkD k (i - R.a).toNat) i, learnM_length _ _ _ _ hk, learnM_one _ _ _ _, ?_, fun w => ?_⟩
    · rw [if_neg h]
      intro h3
      unfold learnM
      by_cases h4 : walkD k (i - R.a).toNat = R.K
      · rw [if_pos h4]
      · rw [if_neg h4] at h3; omega
    · rw [if_neg h]
      have := Learn_near R.K k R.a i R.most (i - R.a).toNat hK hk h0 h1 hi (by omega) (by omega) w
      rw [learnV_eq] at this
      exact this
theorem rcL_newmind (R : Rc) (bb gb : Nat) (hK : R.K.length = 32) (k : List UInt8) (hk : k.length = 32) (i : Int) : (rcL R bb gb).take 4 ++ mindL k i ++ (rcL R bb gb).drop (4 + (mindL k i).length) = rcL { R with K := k, a := i } bb gb := by
  rw [mindL_length k i hk]
  unfold rcL
  have h4 := planL_length R.s R.l R.d R.c
  rw [List.take_append_of_le_length (by omega), List.take_of_length_le (by omega)]
  rw [show 4 + 33 = (planL R.s R.l R.d R.c).length + 33 by omega, List.drop_append]
  rw [show 33 = (mindL R.K R.a).length + 0 by rw [mindL_length _ _ hK], List.drop_append]
  simp
/-- a receiver with a newer key -/
theorem Rin.learnt {N : Nat} {R : Rc} (h : Rin N R) (k : List UInt8) {i : Int} (h1 : 0 ≤ i) (h2 : i ≤ R.c) : Rin N { R with K := k, a := i } :=
  ⟨⟨h.ok.may, h.ok.most, ⟨h1, h2⟩, h.ok.each, h.ok.room, h.ok.nodup, h.ok.len, h.ok.wf, h.ok.sz, h.ok.dr, h.ok.wr, h.ok.bl⟩, h.pot⟩
set_option maxHeartbeats 4000000 in
set_option maxRecDepth 100000 in
theorem R_Learn (N : Nat) (hN : N ≤ 50000) (w : World) (M : Rm) (R : Rc) (H : RR N w M R) (k : List UInt8) (hk : k.length = 32) (i : Int) (hi : i ≤ 9223372036854775807) : Calls Tryz.prog 32 #[.pointer (some ⟨M.rb, 0, none⟩), .agg (cellsU8 k).toArray, .int .i64 i] w (LrnEnd N w M (lrnP R k i)) := by
  have HB := kp (ba (Below.refl w.heap.size w) (.cells (cellsU8 k).toArray 27))
  have HH := kp (H.bel HB.out)
  have HKB := kp (Blk.new w 27 (cellsU8 k).toArray)
  have HKL := kp hk
  clear H hk
  obtain ⟨S, hS⟩ : ∃ S, lrnP R k i = S := ⟨_, rfl⟩
  rw [hS]
  have HS := kp hS
  clear hS
  have hrb : M.rb < w.heap.size ∨ w.heap.size ≤ M.rb := Nat.lt_or_ge _ _
  clear hrb
  obtain ⟨rb, hrb⟩ : ∃ rb, M.rb = rb := ⟨_, rfl⟩
  have HRB := kp hrb
  rw [hrb]
  clear hrb
  go_enter Tryz.func32, Tryz.ntmps32
  go_upto_region 1 with (fail)
  change Code.wp _ _ _ _ (w.alloc (.cells (cellsU8 k).toArray 27))
  generalize w.alloc (.cells (cellsU8 k).toArray 27) = W at HB HH HKB ⊢
  obtain ⟨x1, x2, x3, x4, x5, x6, kl⟩ := HH.out.rv.cells
  have LM := HH.out.rv.ldMind
  rw [HRB.out] at x1 x2 x3 x4 x5 x6 kl LM
  clear x2 x3 x4 x5
  have hat := HH.out.ok.ok.at_
  have hmy := mayP_iff.1 HH.out.ok.ok.may
  by_cases h1 : i < 1
  · have e := HS.out
    unfold lrnP at e
    rw [if_pos (Or.inl h1)] at e
    subst e
    clear hat hmy
    go_wp2
    go_ret2
    exact lrn_nil HH.out HB.out _
  by_cases h2 : R.c < i
  · have e := HS.out
    unfold lrnP at e
    rw [if_pos (Or.inr h2)] at e
    subst e
    clear hat hmy
    go_wp2
    go_ret2
    exact lrn_nil HH.out HB.out _
  by_cases h3 : i ≤ R.a
  · have e : Kp (((R, []), if keyAt R i = k then 0 else 13) = S) := kp (by
      have e := HS.out
      unfold lrnP at e
      rw [if_neg (by omega), if_pos h3] at e
      exact e)
    obtain ⟨D, hD⟩ : ∃ D : Nat, (min (R.a - i) 4096).toNat = D := ⟨_, rfl⟩
    have cT := kp (fun w' => Tell_good R.K R.a i HH.out.rv.key (by omega) h3 (by omega) D (by omega) w')
    have HKA : Kp (keyAt R i = walkD R.K D) := kp (by unfold keyAt; rw [hD])
    have hAL := walkD_length R.K HH.out.rv.key D
    obtain ⟨A, hA⟩ : ∃ A, walkD R.K D = A := ⟨_, rfl⟩
    rw [hA] at cT HKA hAL
    have HAL := kp hAL
    clear hA hD hmy hat hAL h3
    go_wp2_with (refine wpL_load rfl 135 _ rfl rfl LM ?_)
    refine (cT.out _).mono ?_
    rintro e w2 ⟨rfl, hb2⟩
    have HB2 := kp (bt' HB.out hb2 HB.out.size)
    have HH2 := kp (HH.out.bel hb2)
    have HK2 := kp (HKB.out.bel hb2)
    have hkl := key_cells A HAL.out
    have SC := fun (cur : Array Value) (h : cur.size = 32) => sc_new (P := Tryz.prog) w2 27 (cellsU8 A) (cellsU8_one _) cur (by rw [hkl]; exact h)
    have hbx := ba (Below.refl w2.heap.size w2) (.cells (cellsU8 A).toArray 27)
    have HB3 := kp (bt' HB2.out hbx HB2.out.size)
    have HH3 := kp (HH2.out.bel hbx)
    have HK3 := kp (HK2.out.bel hbx)
    have HA3 := kp (Blk.new w2 27 (cellsU8 A).toArray)
    clear hbx hb2 x1 x6 LM kl HB HH HKB HB2 HH2 HK2
    go_upto_region 4 with (fail)
    clear SC hkl
    generalize w2.alloc (.cells (cellsU8 A).toArray 27) = V at HB3 HH3 HK3 HA3 ⊢
    generalize w2.heap.size = b8 at HA3 ⊢
    have L8 := ldK A HAL.out HA3.out
    have L4 := ldK k HKL.out HK3.out
    have e1 := e.out
    rw [HKA.out] at e1
    clear e HKA
    by_cases hAk : A = k
    · rw [if_pos hAk] at e1
      subst e1
      subst hAk
      go_wp2_with (first | (refine wpL_load rfl 27 _ rfl rfl L8 ?_) | (refine wpL_load rfl 27 _ rfl rfl L4 ?_) | (refine wpL_val 36 rfl rfl (.bool false) ((exec_nek rfl rfl rfl HAL.out HAL.out _).trans (by simp)) ?_))
      go_ret2
      exact lrn_nil HH3.out HB3.out _
    · rw [if_neg hAk] at e1
      subst e1
      go_wp2_with (first | (refine wpL_load rfl 27 _ rfl rfl L8 ?_) | (refine wpL_load rfl 27 _ rfl rfl L4 ?_) | (refine wpL_val 36 rfl rfl (.bool true) ((exec_nek rfl rfl rfl HAL.out HKL.out _).trans (by simp [hAk])) ?_))
      go_ret2
      exact lrn_nil HH3.out HB3.out _
  · have e : Kp ((if lrnE R k i = 0 then (blv { R with K := k, a := i }, 0) else ((R, []), lrnE R k i)) = S) := kp (by
      have e := HS.out
      unfold lrnP at e
      rw [if_neg (by omega), if_neg h3] at e
      exact e)
    have cT := kp (fun w' => Tell_bad R.K R.a i HH.out.rv.key (by omega) w')
    obtain ⟨Mv, hMv, hM1, hMe, hcL⟩ := Learn_all R.K k R i HH.out.rv.key HKL.out (by omega) (by omega) hi
    have HMV := kp hMv
    have HM1 := kp hM1
    have HME := kp hMe
    have cL := kp hcL
    have H0I : Kp (0 ≤ i ∧ i ≤ R.c) := kp (by omega)
    obtain ⟨x, hx⟩ : ∃ x, lrnE R k i = x := ⟨_, rfl⟩
    rw [hx] at e HME cL
    clear hx hMv hM1 hMe hcL hmy hat h3
    have hzl : (cellsU8 zeroK).length = 32 := zeroK_c
    obtain ⟨Z, hZ⟩ : ∃ Z, cellsU8 zeroK = Z := ⟨_, rfl⟩
    rw [hZ] at cT hzl
    have HZ1 : Kp (∀ v ∈ Z, v.oneCell' = true) := kp (by rw [← hZ]; exact cellsU8_one _)
    clear hZ
    go_wp2_with (refine wpL_load rfl 135 _ rfl rfl LM ?_)
    refine (cT.out _).mono ?_
    rintro e' w2 ⟨rfl, hb2⟩
    have HB2 := kp (bt' HB.out hb2 HB.out.size)
    have HH2 := kp (HH.out.bel hb2)
    have HK2 := kp (HKB.out.bel hb2)
    have SC := fun (cur : Array Value) (h : cur.size = 32) => sc_new (P := Tryz.prog) w2 27 Z HZ1.out cur (by rw [hzl]; exact h)
    have hbx := ba (Below.refl w2.heap.size w2) (.cells Z.toArray 27)
    have HB3 := kp (bt' HB2.out hbx HB2.out.size)
    have HH3 := kp (HH2.out.bel hbx)
    have HK3 := kp (HK2.out.bel hbx)
    clear hbx hb2 x1 x6 LM kl HB HH HKB HB2 HH2 HK2
    go_upto_region 8 with (fail)
    clear SC hzl
    generalize w2.alloc (.cells Z.toArray 27) = V at HB3 HH3 HK3 ⊢
    clear HZ1
    refine wp_region_earlyE [13] [0, 1, 2, 3, 4, 5, 6, 7, 8, 9, 10, 11, 12, 13] [14] [15, 16] 60 (fun _ => VA V.heap.size 135 zeroM.toArray) (· ≠ ·) (by kernel_rfl) (by kernel_rfl) rfl (fun i v W W' h hb => h.mono hb) ?_
    apply Exists.intro
    refine ⟨fun X hX => ?_, ?_, ?_⟩
    · have hv := HH3.out.rv.bel hX
      obtain ⟨x1, x2, x3, x4, x5, x6, kl⟩ := hv.cells
      have LM := kp (fun x => (hv.bel (ext_below X x)).ldMind)
      have LK := kp (fun x => ldK k HKL.out ((HK3.out.bel hX).bel (ext_below X x)))
      rw [HRB.out] at x2 kl LM
      clear x1 x3 x4 x5 x6 hv
      simp only [List.map_cons, List.map_nil, List.getD_cons_succ, List.getD_cons_zero]
      repeat (first
        | (go_big_quiet_want; refine quiet_load _ rfl 27 _ rfl rfl (fun w hw => by obtain ⟨x, rfl⟩ := hw; exact LK.out x) ?_; go_simp; go_big_quiet_on)
        | (go_big_quiet_want; refine quiet_load _ rfl 135 _ rfl rfl (fun w hw => by obtain ⟨x, rfl⟩ := hw; exact LM.out x) ?_; go_simp; go_big_quiet_on)
        | go_big_quiet_step (first | (go_at_call 69; with_reducible exact Calls.ext_of (cL.out _))))
      exact wpQuiet_nil rfl
    · exact ⟨mk_alloc rfl (fun W => by kernel_rfl) (fun j u W h => h.ne), trivial⟩
    · intro ev _
      simp only [List.map_cons, List.map_nil, List.getD_cons_succ, List.getD_cons_zero, TailX]
      rintro X hX ⟨_, b10, rfl, hb10, hk10⟩
      have hmvl := HMV.out
      have SC1 := sc_all (P := Tryz.prog) (w := X) b10 135 Mv _ hk10 (by rw [HMV.out]; rfl) HM1.out
      have H10 := kp (hk10.row Mv.toArray)
      have hbr := bsr hX hb10 hX.size Mv.toArray
      have HB4 := kp (bt' HB3.out hbr HB3.out.size)
      have HH4 := kp (HH3.out.bel hbr)
      clear hX hk10 hb10 hbr HB3 HH3 HK3
      go_upto_region 9 with (fail)
      clear SC1 hmvl
      generalize X.setRow b10 Mv.toArray = Y at HB4 HH4 H10 ⊢
      have e1 := e.out
      clear e
      by_cases hx0 : x = 0
      · subst hx0
        rw [if_pos rfl] at e1
        have hme := HME.out rfl
        subst hme
        obtain ⟨R', hR'⟩ : ∃ R', ({ R with K := k, a := i } : Rc) = R' := ⟨_, rfl⟩
        rw [hR'] at e1
        subst e1
        have L10 := ldM k i HKL.out H10.out
        have HRV := kp HH4.out.rv
        have hrl := rcL_length R M.bb M.gb HRV.out.key
        have hml := mindL_length k i HKL.out
        have hblk := HRV.out.blk
        rw [HRB.out] at hblk
        have SC2 := sc_row (P := Tryz.prog) (w := Y) rb 4 138 (mindL k i) (rcL R M.bb M.gb) hblk (by rw [hml, hrl]; omega) (mindL_one _ _)
        have hrow := rcL_newmind R M.bb M.gb HRV.out.key k HKL.out i
        have HN := kp (hblk.row (rcL { R with K := k, a := i } M.bb M.gb).toArray)
        have HG := kp (gbrow Y rb (rcL { R with K := k, a := i } M.bb M.gb).toArray)
        have kl := hblk.lt
        clear hblk
        have HOK : Kp (Rin N { R with K := k, a := i }) := kp (HH4.out.ok.learnt k H0I.out.1 H0I.out.2)
        have HMM := kp HH4.out.m
        have HRE : Kp (R'.K.length = 32 ∧ R'.B = R.B ∧ R'.bl = R.bl) := kp (by subst hR'; exact ⟨HKL.out, rfl, rfl⟩)
        rw [hR'] at hrow HN HG HOK
        clear hR'
        rw [hrow] at SC2
        obtain ⟨hv, hs⟩ := HRV.out.own (R' := R') HRE.out.1 HRE.out.2.1 HRE.out.2.2 (by rw [HRB.out]; exact HN.out) (by rw [HRB.out]; exact HG.out)
        have HV5 := kp hv
        have HS5 := kp ((Rs.of_bel (M := M) HB4.out).trans hs)
        have hsz5 := kp ((Rs.of_bel (M := M) HB4.out).trans hs).fr.size
        clear hrow HRV hrl hv hs HN HG HH4
        go_upto_region 12 with (refine wpL_load rfl 135 _ rfl rfl L10 ?_)
        clear SC2 L10 hml kl
        obtain ⟨V6, hV6⟩ : ∃ V6, Y.setRow rb (rcL R' M.bb M.gb).toArray = V6 := ⟨_, rfl⟩
        rw [hV6] at HV5 HS5 hsz5 ⊢
        clear hV6
        have hm0 : M.m ≤ N := by
          have h1 := HMM.out
          have h2 := HOK.out.ok.sz
          rw [HRE.out.2.1] at h2
          omega
        have cB := kp (R_believe N hN V6 M hm0 R' HV5.out HOK.out.ok)
        rw [HRB.out] at cB
        clear hm0
        go_wp2_with (go_at_call 70; refine cB.out.mono ?_; rintro e7 w7 ⟨ad, cp, rfl, hbv⟩; have HBV := kp hbv; clear hbv)
        go_ret2
        obtain ⟨M2, hv2, hs2, hm2⟩ := HBV.out.rv
        refine ⟨ad, cp, M2, rfl, ⟨hv2, HOK.out.blv, ?_⟩, HS5.out.trans hs2, HBV.out.rw.mono hsz5.out⟩
        have h1 := blv_out R'
        have h2 := HMM.out
        rw [HRE.out.2.1] at h1
        show (M2.m : Int) + (blv R').1.B.sz ≤ N
        omega
      · rw [if_neg hx0] at e1
        subst e1
        go_wp2
        go_ret2
        exact lrn_nil HH4.out HB4.out _
end Go.Proofs.YtmblknknbbdmeaaGreat
/- plan: Told, Safe. -/
namespace Go.Proofs.YtmblknknbbdmeaaGreat
open Go Go.RowKit
set_option linter.unusedVariables false
set_option linter.unusedSimpArgs false
attribute [local go_sem] bmax2 bmin2 bmax bmin cell_ext frozen_ext

theorem told_in {s l d c i : Int} (h : mayP s l d c = true) (h1 : 1 ≤ i) (h2 : i ≤ c) : 0 ≤ (i + d - 1) * l ∧ (i + d - 1) * l ≤ 1143492092887040 := by
  rw [mayP_iff] at h
  obtain ⟨_, ⟨l1, l2⟩, ⟨d1, d2⟩, c1, c2⟩ := h
  refine ⟨Int.mul_nonneg (by omega) (by omega), ?_⟩
  have := Int.mul_le_mul (show i + d - 1 ≤ 1040 by omega) l2 (by omega) (by omega)
  omega
def toldV (s l d c i : Int) : Int × Int := if 1 ≤ i ∧ i ≤ c then (s + (i + d - 1) * l, 0) else (0, 1)
set_option maxHeartbeats 1000000 in
set_option maxRecDepth 100000 in
theorem P_Told (s l d c i : Int) (hm : mayP s l d c = true) (w : World) : Calls Tryz.prog 42 #[.agg (planL s l d c).toArray, .int .i64 i] w fun e w' => e = .returned (.tuple #[.int .i64 (toldV s l d c i).1, .int .i64 (toldV s l d c i).2]) ∧ Below w.heap.size w w' := by
  have cM := kp (fun w' => P_May s l d c w')
  have HB := kp (ba (Below.refl w.heap.size w) (.cells (planL s l d c).toArray 29))
  have HN := kp (Blk.new w 29 (planL s l d c).toArray)
  have hPl := planL_length s l d c
  have C2 : Kp ((planL s l d c)[2]? = some (.int .i64 d)) := kp rfl
  have C3 : Kp ((planL s l d c)[3]? = some (.int .i64 c)) := kp rfl
  have hmm := mayP_iff.1 hm
  rw [hm] at cM
  by_cases h1 : i < 1
  · have e : toldV s l d c i = (0, 1) := if_neg (by omega)
    rw [e]
    clear e hm hmm
    generalize planL s l d c = X at *
    go_enter Tryz.func42, Tryz.ntmps42
    have LX := ld_all (P := Tryz.prog) w.heap.size 4 29 29 X _ Tryz.underlying29 rfl info_plan hPl HN.out
    go_wp2_with (refine wpL_load rfl 29 _ rfl rfl LX ?_)
    refine (cM.out _).mono ?_
    rintro e w1 ⟨rfl, hb1⟩
    have HB1 := kp (bt' HB.out hb1 HB.out.size)
    clear hb1
    go_wp2
    go_ret2
    exact ⟨rfl, HB1.out⟩
  by_cases h2 : c < i
  · have e : toldV s l d c i = (0, 1) := if_neg (by omega)
    rw [e]
    clear e hm hmm
    generalize planL s l d c = X at *
    go_enter Tryz.func42, Tryz.ntmps42
    have LX := ld_all (P := Tryz.prog) w.heap.size 4 29 29 X _ Tryz.underlying29 rfl info_plan hPl HN.out
    go_wp2_with (refine wpL_load rfl 29 _ rfl rfl LX ?_)
    refine (cM.out _).mono ?_
    rintro e w1 ⟨rfl, hb1⟩
    have HB1 := kp (bt' HB.out hb1 HB.out.size)
    have x3 := (HN.out.bel hb1).atL C3.out
    have kl := (HN.out.bel hb1).lt
    clear hb1
    go_wp2
    go_ret2
    exact ⟨rfl, HB1.out⟩
  · have e : toldV s l d c i = (s + (i + d - 1) * l, 0) := if_pos (by omega)
    rw [e]
    have ht := told_in hm (show 1 ≤ i by omega) (show i ≤ c by omega)
    have cB := kp (fun w' => P_begins s l d c (i + d) (by omega) (by omega) (by omega) (by omega) (by omega) (by omega) w')
    have e1' : wrap64 (i + d) = i + d := IntWalk.wrap64_in _ (by omega)
    clear e hm hmm ht
    have g1 : 1 ≤ i := by omega
    have g2 : i ≤ c := by omega
    generalize s + (i + d - 1) * l = y at *
    obtain ⟨z, hz⟩ : ∃ z, i + d = z := ⟨_, rfl⟩
    have e1 : wrap64 (i + d) = z := e1'.trans hz
    rw [hz] at cB
    clear e1' hz
    generalize planL s l d c = X at *
    go_enter Tryz.func42, Tryz.ntmps42
    have LX := ld_all (P := Tryz.prog) w.heap.size 4 29 29 X _ Tryz.underlying29 rfl info_plan hPl HN.out
    go_wp2_with (refine wpL_load rfl 29 _ rfl rfl LX ?_)
    refine (cM.out _).mono ?_
    rintro e w1 ⟨rfl, hb1⟩
    have HB1 := kp (bt' HB.out hb1 HB.out.size)
    have HN1 := kp (HN.out.bel hb1)
    have x3 := (HN.out.bel hb1).atL C3.out
    have x2 := (HN.out.bel hb1).atL C2.out
    have kl := (HN.out.bel hb1).lt
    have LY := ld_all (P := Tryz.prog) w.heap.size 4 29 29 X _ Tryz.underlying29 rfl info_plan hPl HN1.out
    clear hb1 LX
    go_wp2_with (first | (refine wpL_load rfl 29 _ rfl rfl LY ?_) | (go_at_call 80; refine (cB.out _).mono ?_; rintro e w2 ⟨rfl, hb2⟩; have HB2 := kp (bt' HB1.out hb2 HB1.out.size); clear hb2 x3 x2 kl LY))
    go_ret2
    exact ⟨rfl, HB2.out⟩
set_option maxHeartbeats 1000000 in
set_option maxRecDepth 100000 in
theorem P_Safe (s l d c i t : Int) (hm : mayP s l d c = true) (h1 : 1 ≤ i) (h2 : i ≤ c) (w : World) : Calls Tryz.prog 66 #[.agg (planL s l d c).toArray, .int .i64 i, .int .i64 t] w fun e w' => e = .returned (.bool (decide (t < s + (i + d - 1) * l))) ∧ Below w.heap.size w w' := by
  have cT := kp (fun w' => P_Told s l d c i hm w')
  have e : toldV s l d c i = (s + (i + d - 1) * l, 0) := if_pos ⟨h1, h2⟩
  rw [e] at cT
  have HB := kp (ba (Below.refl w.heap.size w) (.cells (planL s l d c).toArray 29))
  have HN := kp (Blk.new w 29 (planL s l d c).toArray)
  have hPl := planL_length s l d c
  clear e hm h1 h2
  generalize s + (i + d - 1) * l = y at *
  generalize planL s l d c = X at *
  go_enter Tryz.func66, Tryz.ntmps66
  have LX := ld_all (P := Tryz.prog) w.heap.size 4 29 29 X _ Tryz.underlying29 rfl info_plan hPl HN.out
  go_wp2_with (refine wpL_load rfl 29 _ rfl rfl LX ?_)
  refine (cT.out _).mono ?_
  rintro e w1 ⟨rfl, hb1⟩
  have HB1 := kp (bt' HB.out hb1 HB.out.size)
  clear hb1 LX
  go_wp2
  go_ret
  exact ⟨rfl, HB1.out⟩
end Go.Proofs.YtmblknknbbdmeaaGreat
