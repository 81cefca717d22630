/- head: packets and their bytes, plain. -/
import Derived.Test.YtoifkfhbinfplaaHd18
import Derived.Test.YtoifkfhbinfplaaHd17
namespace Go.Proofs.Ytoifkfhbinfplaa
open Go Go.RowKit
set_option linter.unusedVariables false
set_option linter.unusedSimpArgs false

/-- an extension's bytes read back -/
theorem one_bytes (f : Fd) (r : List UInt8) (hf : f.right = true) :
    oneIs (str (f.bytes ++ r)) = true ∧ oneF (str (f.bytes ++ r)) = f ∧ oneRest (str (f.bytes ++ r)) = str r := by
  obtain ⟨h1, h2, h3⟩ := (right_iff f).1 hf
  have hfb : f.bytes = putL (uN f.k) 2 ++ (putL (4 + f.d.size) 2 ++ (bs f.d ++ List.replicate (padN f.d.size 4) 0)) := by
    unfold Fd.bytes; simp only [List.append_assoc]
  obtain ⟨s, hs⟩ : ∃ s, str (f.bytes ++ r) = s := ⟨_, rfl⟩
  have hbs : bs s = putL (uN f.k) 2 ++ (putL (4 + f.d.size) 2 ++ ((bs f.d ++ List.replicate (padN f.d.size 4) 0) ++ r)) := by
    rw [← hs, bs_str, hfb]; simp only [List.append_assoc]
  have hsz : s.size = 4 + (f.d.size + padN f.d.size 4) + r.length := by
    rw [← size_bs, hbs]
    simp only [List.length_append, length_putL, List.length_replicate, size_bs]
    omega
  have l2 : ∀ n : Nat, (putL n 2).length = 2 := fun n => length_putL n 2
  have d2 : ∀ n : Nat, (putL n 2).drop 2 = [] := fun n => List.drop_of_length_le (by rw [l2]; exact Nat.le_refl _)
  have t2 : ∀ n : Nat, (putL n 2).take 2 = putL n 2 := fun n => List.take_of_length_le (by rw [l2]; exact Nat.le_refl _)
  have hd : (bs s).drop 2 = putL (4 + f.d.size) 2 ++ ((bs f.d ++ List.replicate (padN f.d.size 4) 0) ++ r) := by
    rw [hbs, List.drop_append, d2, l2]; rfl
  have hd4 : (bs s).drop 4 = (bs f.d ++ List.replicate (padN f.d.size 4) 0) ++ r := by
    have : (bs s).drop 4 = ((bs s).drop 2).drop 2 := by rw [List.drop_drop]
    rw [this, hd, List.drop_append, d2, l2]; rfl
  have p2 : 256 ^ 2 = 65536 := by decide
  have hk : (oneK s : Int) = f.k := by
    unfold oneK
    rw [bs_extract, List.drop_zero, hbs, Nat.sub_zero, List.take_append, t2, l2, Nat.sub_self, List.take_zero, List.append_nil, takeN_putL, p2]
    have : uN f.k = f.k.toNat := by unfold uN; omega
    rw [this]
    omega
  have hn : oneN s = 4 + f.d.size := by
    unfold oneN
    rw [bs_extract, hd, show 4 - 2 = 2 from rfl, List.take_append, t2, l2, Nat.sub_self, List.take_zero, List.append_nil, takeN_putL, p2]
    omega
  have hD : oneD s = f.d := by
    unfold oneD
    apply bs_inj
    rw [bs_extract, hd4, hn, show 4 + f.d.size - 4 = (bs f.d).length by rw [size_bs]; omega, List.append_assoc, List.take_left]
  have hR : bs (oneR s) = (bs f.d ++ List.replicate (padN f.d.size 4) 0) ++ r := by
    unfold oneR
    rw [bs_extract, List.take_of_length_le (by rw [List.length_drop, size_bs]; omega), hd4]
  have hF : oneFull s = bs f.d ++ List.replicate (padN f.d.size 4) 0 := by
    unfold oneFull
    rw [hD]
  have hbad : ¬ oneBad s := by
    unfold oneBad
    omega
  have hP : Lib.hasPrefix (bs (oneR s)) (oneFull s) = true := by
    rw [hR, hF]
    unfold Lib.hasPrefix
    rw [List.isPrefixOf_iff_prefix]
    exact List.prefix_append _ _
  have hof : oneF s = f := by
    unfold oneF
    rw [if_neg hbad, hk, hD]
  rw [hs]
  refine ⟨?_, hof, ?_⟩
  · unfold oneIs
    rw [if_neg hbad, hP, hof, hf]
    rfl
  · unfold oneRest
    rw [if_neg hbad]
    unfold Lib.trimPrefix
    rw [if_pos hP, hR, hF, List.drop_left]
    rfl
theorem bodyL_cons (f : Fd) (l : List Fd) : bodyL (f :: l) = f.bytes ++ bodyL l := by simp [bodyL]
theorem rdF_body : ∀ (l a : List Fd), l.all Fd.right = true → a.length + l.length ≤ 16 → rdF (17 - a.length) a (str (bodyL l)) = (a ++ l, 0)
  | [], a, _, h => by
    obtain ⟨q, hq⟩ : ∃ q, 17 - a.length = q + 1 := ⟨16 - a.length, by simp at h; omega⟩
    rw [hq]
    unfold rdF
    rw [if_pos (show (str (bodyL [])).size = 0 from rfl), List.append_nil]
  | f :: l, a, hr, h => by
    obtain ⟨q, hq⟩ : ∃ q, 17 - a.length = q + 1 := ⟨16 - a.length, by simp at h; omega⟩
    simp only [List.all_cons, Bool.and_eq_true] at hr
    rw [List.length_cons] at h
    obtain ⟨o1, o2, o3⟩ := one_bytes f (bodyL l) hr.1
    have ih := rdF_body l (a ++ [f]) hr.2 (by rw [List.length_append]; simp; omega)
    rw [List.length_append, show 17 - (a.length + [f].length) = q by simp; omega, List.append_assoc] at ih
    rw [hq, bodyL_cons]
    unfold rdF
    rw [if_neg (by rw [str_size, List.length_append, Fd.len]; omega), if_neg (by omega), if_pos o1, o2, o3, ih]
    rfl
/-- a packet comes back from its bytes -/
theorem read_write (h : Hd) (l : List Fd) (hm : h.may = true) (hok : h.ok) (hr : l.all Fd.right = true) (hl : l.length ≤ 16) : readL (str (h.bytes ++ bodyL l)) = (h, l, 0) := by
  have hx : (str (h.bytes ++ bodyL l)).extract 0 48 = str h.bytes := by
    apply bs_inj
    rw [bs_extract, bs_str, bs_str, List.drop_zero, Nat.sub_zero, ← h.bytes_len, List.take_left]
  have hy : (str (h.bytes ++ bodyL l)).extract 48 (str (h.bytes ++ bodyL l)).size = str (bodyL l) := by
    apply bs_inj
    rw [bs_extract, bs_str, bs_str, str_size, List.take_of_length_le (by rw [List.length_drop]; exact Nat.le_refl _), ← h.bytes_len, List.drop_left]
  have hb := rdF_body l [] hr (by simpa using hl)
  unfold readL
  rw [if_neg (by rw [str_size, List.length_append, h.bytes_len]; omega), hx, hdOf_bytes h hm hok, if_pos hm, hy]
  rw [show 17 - ([] : List Fd).length = 17 from rfl, List.nil_append] at hb
  rw [hb]
  rfl
theorem one_parts (r : ByteArray) (h : oneIs r = true) : (oneF r).right = true ∧ bs r = (oneF r).bytes ++ bs (oneRest r) := by
  by_cases hb : oneBad r
  · rw [one_bad r hb] at h; cases h
  · have h4 : 4 ≤ r.size ∧ 4 ≤ oneN r ∧ oneN r ≤ r.size := by unfold oneBad at hb; omega
    have hf : oneF r = ⟨oneK r, oneD r⟩ := by unfold oneF; rw [if_neg hb]
    unfold oneIs at h
    rw [if_neg hb, Bool.and_eq_true] at h
    refine ⟨h.2, ?_⟩
    rw [hf, fd_bytes r h4.1 h4.2.1 h4.2.2]
    unfold oneRest
    rw [if_neg hb]
    unfold Lib.trimPrefix
    rw [if_pos h.1]
    have hp := (prefix_take.1 h.1).2
    have e := one_split r
    rw [← List.take_append_drop (oneFull r).length (bs (oneR r)), hp] at e
    generalize List.drop (oneFull r).length (bs (oneR r)) = X at e ⊢
    generalize oneFull r = Y at e ⊢
    generalize bs (r.extract 0 4) = V at e ⊢
    have hx : bs (⟨X.toArray⟩ : ByteArray) = X := rfl
    rw [hx, e, List.append_assoc]
theorem rdF_ok : ∀ (n : Nat) (a : List Fd) (r : ByteArray) (l : List Fd), rdF n a r = (l, 0) → a.all Fd.right = true → a.length ≤ 16 → l.all Fd.right = true ∧ l.length ≤ 16 ∧ bodyL l = bodyL a ++ bs r
  | 0, a, r, l, h, _, _ => by
    unfold rdF at h
    injection h with _ h
    cases h
  | n + 1, a, r, l, h, ha, hl => by
    unfold rdF at h
    by_cases h0 : r.size = 0
    · rw [if_pos h0] at h
      injection h with h _
      subst h
      have : bs r = [] := List.length_eq_zero_iff.1 h0
      rw [this, List.append_nil]
      exact ⟨ha, hl, rfl⟩
    · rw [if_neg h0] at h
      by_cases h16 : a.length = 16
      · rw [if_pos h16] at h
        injection h with _ h
        cases h
      · rw [if_neg h16] at h
        cases hi : oneIs r with
        | false =>
          rw [hi, if_neg (by simp)] at h
          injection h with _ h
          cases h
        | true =>
          rw [hi, if_pos rfl] at h
          obtain ⟨p1, p2⟩ := one_parts r hi
          have ih := rdF_ok n (a ++ [oneF r]) (oneRest r) l h (by rw [List.all_append, ha]; simp [p1]) (by rw [List.length_append]; show a.length + 1 ≤ 16; omega)
          refine ⟨ih.1, ih.2.1, ?_⟩
          rw [ih.2.2, bodyL_append, bodyL_one, p2, List.append_assoc]
theorem rdF_err : ∀ (n : Nat) (a : List Fd) (r : ByteArray), (rdF n a r).2 = 0 ∨ (rdF n a r).2 = 2 ∨ (rdF n a r).2 = 4
  | 0, a, r => Or.inr (Or.inr rfl)
  | n + 1, a, r => by
    unfold rdF
    split
    · exact Or.inl rfl
    · split
      · exact Or.inr (Or.inr rfl)
      · split
        · exact rdF_err n _ _
        · exact Or.inr (Or.inl rfl)
/-- bytes that are a packet are that packet's; what is no packet tells nothing -/
theorem readL_cases (s : ByteArray) : (∃ h l, readL s = (h, l, 0) ∧ h.may = true ∧ h.ok ∧ l.all Fd.right = true ∧ l.length ≤ 16 ∧ bs s = h.bytes ++ bodyL l ∧ h = hdOf (s.extract 0 48) ∧ 48 ≤ s.size) ∨ (∃ er, readL s = (zeroH, [], er) ∧ er ≠ 0 ∧ (er = 5 ↔ s.size < 48)) := by
  unfold readL
  by_cases h48 : s.size < 48
  · rw [if_pos h48]
    exact Or.inr ⟨5, rfl, by decide, ⟨fun _ => h48, fun _ => rfl⟩⟩
  · rw [if_neg h48]
    cases hm : (hdOf (s.extract 0 48)).may with
    | false =>
      rw [if_neg (by simp)]
      exact Or.inr ⟨2, rfl, by decide, ⟨fun h => absurd h (by decide), fun h => absurd h h48⟩⟩
    | true =>
      rw [if_pos rfl]
      obtain ⟨L, e, hL⟩ : ∃ L e, rdF 17 [] (s.extract 48 s.size) = (L, e) := ⟨_, _, rfl⟩
      rw [hL]
      simp only
      have herr := rdF_err 17 [] (s.extract 48 s.size)
      rw [hL] at herr
      simp only at herr
      by_cases h0 : e = 0
      · subst h0
        rw [if_pos rfl]
        obtain ⟨o1, o2, o3⟩ := rdF_ok 17 [] _ L hL rfl (by simp)
        refine Or.inl ⟨hdOf (s.extract 0 48), L, rfl, hm, hdOf_ok _, o1, o2, ?_, rfl, by omega⟩
        rw [o3, bytes_hdOf _ (by rw [ByteArray.size_extract]; omega), bs_split s 48]
        simp [bodyL]
      · rw [if_neg h0]
        refine Or.inr ⟨e, rfl, h0, ⟨fun h => by omega, fun h => absurd h h48⟩⟩
theorem writeL_ok (h : Hd) (l : List Fd) (h0 : (writeL h l).2 = 0) : h.may = true ∧ l.all Fd.right = true ∧ l.length ≤ 16 ∧ writeL h l = (h.bytes ++ bodyL l, 0) := by
  unfold writeL at h0 ⊢
  split at h0
  · rename_i h1
    rw [if_pos h1]
    rw [Bool.and_eq_true] at h1
    split at h0
    · rename_i h2
      rw [if_pos h2]
      exact ⟨h1.1, h1.2, h2, rfl⟩
    · cases h0
  · cases h0
theorem writeL_bad (h : Hd) (l : List Fd) (h0 : (writeL h l).2 ≠ 0) : (writeL h l).1 = [] := by
  unfold writeL at h0 ⊢
  split
  · rename_i h1
    rw [if_pos h1] at h0
    split
    · rename_i h2
      rw [if_pos h2] at h0
      exact absurd rfl h0
    · rfl
  · rfl
theorem writeL_of (h : Hd) (l : List Fd) (hm : h.may = true) (hr : l.all Fd.right = true) (hl : l.length ≤ 16) : writeL h l = (h.bytes ++ bodyL l, 0) := by
  unfold writeL
  rw [hm, hr, if_pos (by decide), if_pos hl]
/-- extensions whose bytes begin alike -/
theorem body_prefix : ∀ (m l : List Fd), m.all Fd.right = true → l.all Fd.right = true → bodyL m <+: bodyL l → m = l.take m.length
  | [], l, _, _, _ => by simp
  | f :: m, [], hm, hl, h => by
    have := h.length_le
    rw [bodyL_cons, List.length_append, Fd.len] at this
    simp [bodyL] at this
  | f :: m, g :: l, hm, hl, h => by
    simp only [List.all_cons, Bool.and_eq_true] at hm hl
    obtain ⟨z, hz⟩ := h
    rw [bodyL_cons, bodyL_cons, List.append_assoc] at hz
    have h1 := (one_bytes f (bodyL m ++ z) hm.1).2.1
    have h2 := (one_bytes g (bodyL l) hl.1).2.1
    rw [hz] at h1
    have e : f = g := h1.symm.trans h2
    subst e
    have h3 : bodyL m ++ z = bodyL l := List.append_cancel_left hz
    rw [List.length_cons, List.take_succ_cons, ← body_prefix m l hm.2 hl.2 ⟨z, h3⟩]
end Go.Proofs.Ytoifkfhbinfplaa
