/- a drawing region with makers, whose plain operations may be taken first -/
import Derived.Test.YtfmfdhcmbnabpaaReg
namespace Go.Proofs.Ytfmfdhcmbnabpaa
open Go Go.RowKit
set_option linter.unusedVariables false
set_option linter.unusedSimpArgs false
section
variable {P : Program} {ops : Array Oper} {md : Region.Mode}

/-- the closed fact of such a region, with plain operations 'p' taken first -/
def Region.planMP (md : Region.Mode) (ops : Array Oper) (n : Nat) (p h k t : List Nat) : Bool :=
  Region.noSelect ops && decide (p ++ ((h ++ k) ++ t)).Nodup && decide (0 < t.length) && Region.sinkI md ops ((h ++ k) ++ t) (h ++ k).length && Region.chainI md ops ((h ++ k) ++ t) (h ++ k).length &&
  Region.topB md ops (h ++ k) && (((h ++ k) ++ t).all fun i => decide (i < ops.size)) && Region.mkB md ops h k && distB n (selOps ops (h ++ k)) &&
  ((List.range ops.size).all fun i => (p ++ ((h ++ k) ++ t)).contains i) && Region.seqI md ops t ((Array.range ops.size).map fun i => (p ++ (h ++ k)).contains i) &&
  (p.all fun i => decide (i < ops.size)) &&
  Region.pureB md ops (fun listed => decide (listed = (Array.range ops.size).map fun i => p.contains i) && Region.closedI md ops listed) p (Array.replicate ops.size false)

theorem getD_map_range {n i : Nat} (f : Nat → Bool) (d : Bool) (h : i < n) : ((Array.range n).map f).getD i d = f i := by
  simp [h]

theorem wp_region_mkP1 {l : List Oper} {Q : Exit → Act → World → Prop} {a : Act} {w : World} (p h k t : List Nat) (n : Nat) (V : Nat → Value → World → Prop) (N : Value → Value → Prop) (hB : Region.planMP .any l.toArray n p h k t = true) (hsz : a.tmps.size = n) (A : Act)
    (H : ∀ W, Below w.heap.size w W → wpQuiet P l.toArray (fun w' => ∃ x, w' = W.ext x) (· = A) (h.map (l.getD · default)) a)
    (hV : ∀ i v W W', V i v W → Below W.heap.size W W' → V i v W')
    (hk : MkAll P l.toArray A w V N k)
    (hT : TailX P l.toArray Q w (t.map (l.getD · default)) V N k [] (fun _ => True) A)
    (listed0 : Array Bool) (hl0 : listed0 = (Array.range l.toArray.size).map fun i => p.contains i) (hcl : Region.closedI .any l.toArray listed0 = true) :
    wpAny P .any l.toArray Q ((h ++ k).length + t.length) listed0 a w.drew := by
  have esel : ∀ is, selOps l.toArray is = is.map (l.getD · default) := fun is => by
    unfold selOps
    apply List.map_congr_left
    intro i _
    simp [Array.getD, List.getD_eq_getElem?_getD]
    split <;> rename_i h
    · rw [List.getElem?_eq_getElem h]; rfl
    · rw [List.getElem?_eq_none (by omega)]; rfl
  simp only [Region.planMP, Bool.and_eq_true, decide_eq_true_eq] at hB
  obtain ⟨⟨⟨⟨⟨⟨⟨⟨⟨⟨⟨⟨hsel, hndp⟩, ht0⟩, hs⟩, hc⟩, htop⟩, hin⟩, hmk⟩, hdist⟩, hall⟩, hseq⟩, hpin⟩, hpure⟩ := hB
  clear hpure
  have hnd := (List.nodup_append.1 hndp).2.1
  have hdisj : ∀ i ∈ (h ++ k) ++ t, i ∈ p → False := fun i hi hp => (List.nodup_append.1 hndp).2.2 i hp i hi rfl
  subst hsz
  have hin' : ∀ x, x < ((h ++ k) ++ t).length → ((h ++ k) ++ t).getD x 0 < l.toArray.size := fun x hx => by
    have := List.all_eq_true.1 hin (((h ++ k) ++ t).getD x 0) (by rw [List.getD_eq_getElem?_getD, List.getElem?_eq_getElem hx]; exact List.getElem_mem _)
    simpa using this
  have hdh : distB a.tmps.size (selOps l.toArray h) = true := by
    have hdist' := hdist
    simp only [distB, Bool.and_eq_true, decide_eq_true_eq] at hdist' ⊢
    unfold selOps at hdist' ⊢
    rw [List.map_append, List.map_append, List.all_append, Bool.and_eq_true] at hdist'
    exact ⟨hdist'.1.1, (List.nodup_append.1 hdist'.2).1⟩
  have hlex : LexX P l.toArray w A (selOps l.toArray h) a := lex_of _ _ hdh fun W hW => by rw [esel]; exact H W hW
  obtain ⟨sz1, df1⟩ := lex_size _ _ hlex
  have hsz0 : ∀ i, i ∈ (h ++ k) ++ t → listed0.getD i false = false := fun i hi => by
    have hii : i < l.toArray.size := by have := List.all_eq_true.1 hin i hi; simpa using this
    rw [hl0, getD_map_range _ _ hii]
    simp only [List.contains_eq_mem, decide_eq_false_iff_not]
    exact hdisj i hi
  have hszT : ∀ i, i ∈ (h ++ k) ++ t → listed0.getD i true = false := fun i hi => by
    have hii : i < l.toArray.size := by have := List.all_eq_true.1 hin i hi; simpa using this
    rw [hl0, getD_map_range _ _ hii]
    simp only [List.contains_eq_mem, decide_eq_false_iff_not]
    exact hdisj i hi
  have hlen : unl (h ++ k) listed0 = (h ++ k).length := by
    unfold unl
    rw [List.filter_eq_self.2]
    intro i hi
    rw [hszT i (List.mem_append.2 (Or.inl hi))]
    rfl
  have hFIN : ∀ (listed : Array Bool) (a' : Act) (W : World), HeadI .any l.toArray ((h ++ k) ++ t) (h ++ k).length listed → (∀ i ∈ h ++ k, listed.getD i true = true) → InvM l.toArray a A w h k V N listed a' W → wpAny P .any l.toArray Q t.length listed a' W := by
    intro listed a' W inv hl iv
    have hlist : listed = (Array.range l.toArray.size).map fun i => (p ++ (h ++ k)).contains i := by
      apply Array.ext
      · rw [inv.size]; simp
      · intro i h1 h2
        have hi : i < l.toArray.size := by rw [← inv.size]; exact h1
        simp only [Array.getElem_map, Array.getElem_range]
        by_cases hm : i ∈ h ++ k
        · have := hl i hm
          simp [h1] at this
          rw [this]
          symm
          simp only [List.contains_eq_mem, decide_eq_true_eq]
          exact List.mem_append.2 (Or.inr hm)
        · have hm' := List.all_eq_true.1 hall i (List.mem_range.2 hi)
          simp only [List.contains_eq_mem, decide_eq_true_eq] at hm'
          by_cases ht' : i ∈ t
          case neg =>
            have hp' : i ∈ p := (List.mem_append.1 hm').resolve_right fun hx => (List.mem_append.1 hx).elim hm ht'
            have hu : listed.getD i true = true := by
              cases hc : listed.getD i true with
              | true => rfl
              | false =>
                obtain ⟨x, hx, he⟩ := inv.all i hi hc
                exact absurd hp' (hdisj i (by rw [← he, List.getD_eq_getElem?_getD, List.getElem?_eq_getElem hx]; exact List.getElem_mem _))
            simp [h1] at hu
            rw [hu]
            symm
            simp only [List.contains_eq_mem, decide_eq_true_eq]
            exact List.mem_append.2 (Or.inl hp')
          obtain ⟨y, hy, he⟩ := List.mem_iff_getElem.1 ht'
          have := inv.tail ((h ++ k).length + y) (by omega) (by rw [@List.length_append Nat (h ++ k) t]; omega)
          rw [List.getD_eq_getElem?_getD, List.getElem?_append_right (by omega), show (h ++ k).length + y - (h ++ k).length = y by omega, List.getElem?_eq_getElem hy] at this
          simp only [Option.getD_some, he] at this
          simp [h1] at this
          rw [this]
          symm
          simp only [List.contains_eq_mem, decide_eq_false_iff_not]
          exact fun hx => (List.mem_append.1 hx).elim (hdisj i (List.mem_append.2 (Or.inr ht'))) hm
    have lst : ∀ i ∈ h ++ k, listed.getD i false = true := fun i hi => by
      have := hl i hi
      have hii := List.all_eq_true.1 hin i (by simp only [List.mem_append] at hi ⊢; exact Or.inl hi)
      have hii' : i < listed.size := by rw [inv.size]; simpa using hii
      simp [hii'] at this ⊢; exact this
    refine wpAny_of_seqI t listed a' W (fun i hi => ?_) (by rw [hlist]; exact hseq) ?_
    · have := List.all_eq_true.1 hin i (by simp [hi])
      simpa using this
    · rw [esel]
      refine tail_of iv.below k [] (fun _ => True) A (by rw [sz1, iv.size]) (by rw [df1, iv.defers]) (fun i hi => ?_) (fun s hs' => ?_) (List.nodup_append.1 (List.nodup_append.1 hnd).1).2.1 (fun x hx y hy hxy => iv.ap x hx y hy hxy (lst x (by simp [hx])) (lst y (by simp [hy]))) trivial hT
      · obtain ⟨d, hd, _⟩ := (distB_get hdist).1 i (by simp [hi])
        obtain ⟨v, e, hv⟩ := iv.kv i hi (by
          have := hl i (by simp [hi])
          have hii := List.all_eq_true.1 hin i (by simp [hi])
          have hii' : i < listed.size := by rw [inv.size]; simpa using hii
          simp [hii'] at this ⊢; exact this) d hd
        exact ⟨d, v, hd, e, hv, fun u hu => by cases hu⟩
      · by_cases hx : ∃ j ∈ h, (l.toArray.getD j default).dst = some s
        · obtain ⟨j, hj, hjs⟩ := hx
          refine iv.hv j hj ?_ s hjs
          have := hl j (by simp [hj])
          have hii := List.all_eq_true.1 hin j (by simp [hj])
          have hii' : j < listed.size := by rw [inv.size]; simpa using hii
          simp [hii'] at this ⊢; exact this
        · rw [lex_keeps (selOps l.toArray h) a (fun o ho e => by
            unfold selOps at ho
            obtain ⟨j, hj, rfl⟩ := List.mem_map.1 ho
            exact hx ⟨j, hj, e⟩) hlex]
          refine iv.old s fun j hj hjs => ?_
          rcases List.mem_append.1 hj with hj | hj
          · exact absurd ⟨j, hj, hjs⟩ hx
          · exact absurd hjs (hs' j hj)
  have hHD : HeadI .any l.toArray ((h ++ k) ++ t) (h ++ k).length listed0 := by
    refine ⟨by rw [hl0]; simp, fun j oj hj hl e he hb => ?_, fun i hi hl => ?_, fun y hy hyl => ?_, hin'⟩
    · have hjs := (Array.getElem?_eq_some_iff.1 hj).1
      have := List.all_eq_true.1 hcl j (List.mem_range.2 hjs)
      have e1 : l.toArray.getD j default = oj := by
        have := getD_some hjs
        rw [hj] at this
        exact (Option.some.inj this).symm
      rw [e1, hl] at this
      simp only [Bool.not_true, Bool.false_or] at this
      have := Array.all_eq_true'.1 this e he
      rw [hb] at this
      simpa using this
    · have := List.all_eq_true.1 hall i (List.mem_range.2 hi)
      simp only [List.contains_eq_mem, decide_eq_true_eq] at this
      rw [hl0, getD_map_range _ _ hi] at hl
      simp only [List.contains_eq_mem, decide_eq_false_iff_not] at hl
      obtain ⟨x, hx, he⟩ := List.mem_iff_getElem.1 ((List.mem_append.1 this).resolve_left hl)
      exact ⟨x, hx, by rw [List.getD_eq_getElem?_getD, List.getElem?_eq_getElem hx]; exact he⟩
    · exact hszT _ (by rw [List.getD_eq_getElem?_getD, List.getElem?_eq_getElem hyl]; exact List.getElem_mem _)
  have hIV : InvM l.toArray a A w h k V N listed0 a w.drew := by
    have hh : ∀ i ∈ h, i ∈ (h ++ k) ++ t := fun i hi => by simp [hi]
    have hkk : ∀ i ∈ k, i ∈ (h ++ k) ++ t := fun i hi => by simp [hi]
    exact ⟨(Below.refl w.heap.size w).drew, rfl, rfl, fun i hi hl => (by rw [hsz0 i (hh i hi)] at hl; cases hl), fun i hi hl => (by rw [hsz0 i (hkk i hi)] at hl; cases hl), fun s _ => rfl, fun i hi j hj hij hl => (by rw [hsz0 i (hkk i hi)] at hl; cases hl)⟩
  have key := wpAny_mk (Q := Q) (A := A) (w := w) (h := h) (k := k) (V := V) hsel hnd hs hc ht0 htop hin' hmk hdist hlex hk.get hV hFIN _ listed0 a w.drew rfl hHD hIV
  rw [hlen] at key
  exact key
/-- **THE REGION**: 'p' plain operations, taken first; then as in wp_region_mkE. -/
theorem wp_region_mkP {id : Nat} {Q : Exit → Act → World → Prop} {a : Act} {w : World} {l : List Oper} (p h k t : List Nat) (n : Nat) (V : Nat → Value → World → Prop) (N : Value → Value → Prop) (hm : P.follows .mixedOrders = true) (hB : Region.planMP .any l.toArray n p h k t = true)
    (hV : ∀ i v W W', V i v W → Below W.heap.size W W' → V i v W')
    (H : wpQuiet P l.toArray (fun _ => True) (fun a1 => a1.tmps.size = n ∧ ∃ A, (∀ W, Below w.heap.size w W → wpQuiet P l.toArray (fun w' => ∃ x, w' = W.ext x) (· = A) (h.map (l.getD · default)) a1) ∧ MkAll P l.toArray A w V N k ∧ TailX P l.toArray Q w (t.map (l.getD · default)) V N k [] (fun _ => True) A) (p.map (l.getD · default)) a)
    (hQ : ∀ c (a : Act) d v w, Q (.panic c) (a.put d v) w → Q (.panic c) a w := by intro c a d v w h; cases d <;> exact h) :
    (Code.region id l.toArray true).wp P Q a w := by
  have esel : ∀ is, selOps l.toArray is = is.map (l.getD · default) := fun is => by
    unfold selOps
    apply List.map_congr_left
    intro i _
    simp [Array.getD, List.getD_eq_getElem?_getD]
    split <;> rename_i h
    · rw [List.getElem?_eq_getElem h]; rfl
    · rw [List.getElem?_eq_none (by omega)]; rfl
  have hB' := hB
  simp only [Region.planMP, Bool.and_eq_true, decide_eq_true_eq] at hB'
  obtain ⟨⟨⟨⟨⟨⟨⟨⟨⟨⟨⟨⟨hsel, hndp⟩, ht0⟩, hs⟩, hc⟩, htop⟩, hin⟩, hmk⟩, hdist⟩, hall⟩, hseq⟩, hpin⟩, hpure⟩ := hB'
  refine wp_region_any hm ?_
  have hlen : p.length + ((h ++ k).length + t.length) = l.toArray.size := by
    have h3 : (p ++ ((h ++ k) ++ t)).length ≤ (List.range l.toArray.size).length := nodup_le _ _ hndp fun i hi => by
      rcases List.mem_append.1 hi with hi | hi
      · have := List.all_eq_true.1 hpin i hi
        simpa using this
      · have := List.all_eq_true.1 hin i hi
        simpa using this
    have h4 : (List.range l.toArray.size).length ≤ (p ++ ((h ++ k) ++ t)).length := nodup_le _ _ List.nodup_range fun i hi => by
      have := List.all_eq_true.1 hall i hi
      simpa using this
    rw [List.length_range] at h3 h4
    rw [@List.length_append Nat p ((h ++ k) ++ t), @List.length_append Nat (h ++ k) t] at h3 h4
    omega
  have key := wpAny_pure (P := P) (md := .any) (Q := Q) (g := (h ++ k).length + t.length) (w := w.drew) hsel hQ
    (Lq := fun a1 => a1.tmps.size = n ∧ ∃ A, (∀ W, Below w.heap.size w W → wpQuiet P l.toArray (fun w' => ∃ x, w' = W.ext x) (· = A) (h.map (l.getD · default)) a1) ∧ MkAll P l.toArray A w V N k ∧ TailX P l.toArray Q w (t.map (l.getD · default)) V N k [] (fun _ => True) A)
    (k := fun listed => decide (listed = (Array.range l.toArray.size).map fun i => p.contains i) && Region.closedI .any l.toArray listed)
    (fun listed a1 hk hq => by
      simp only [Bool.and_eq_true, decide_eq_true_eq] at hk
      obtain ⟨hs1, A, h1, h2, h3⟩ := hq
      exact wp_region_mkP1 p h k t n V N hB hs1 A h1 hV h2 h3 listed hk.1 hk.2)
    p (Array.replicate l.toArray.size false) a hpure (by rw [esel]; exact H)
  rw [hlen] at key
  exact key
end
end Go.Proofs.Ytfmfdhcmbnabpaa
