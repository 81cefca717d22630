/- head: bytes and heads, plain. -/
import Derived.Test.YtoifkfhbinfplaaHd15
import Derived.Test.YtoifkfhbinfplaaHd10
namespace Go.Proofs.Ytoifkfhbinfplaa
open Go Go.RowKit
set_option linter.unusedVariables false
set_option linter.unusedSimpArgs false

theorem bs_extract (s : ByteArray) (a b : Nat) : bs (s.extract a b) = ((bs s).drop a).take (b - a) := by
  have h := extract_str (bs s) a b
  rw [str_bs] at h
  rw [h, bs_str]
theorem u8_byte (z : Int) (c : Nat) (hc : c < 256) (h : z % 256 = c) : u8 z = UInt8.ofNat c := by
  apply UInt8.toNat_inj.1
  have h1 := u8_int z
  rw [UInt8.toNat_ofNat']
  omega
theorem ofNat_byt (s : ByteArray) (i : Nat) (h : i < s.size) : UInt8.ofNat (byt s i) = s[i] := by
  rw [byt_eq s i h]
  simp
theorem getD_bs (s : ByteArray) (i : Nat) (h : i < s.size) : (bs s)[i]'h = s[i] := rfl
theorem sgn_mod (c : Nat) (h : c < 256) : sgn c % 256 = c := by
  unfold sgn
  split <;> omega
theorem four (l : List UInt8) (h : 4 ≤ l.length) : l.take 4 = [l[0]'(by omega), l[1]'(by omega), l[2]'(by omega), l[3]'(by omega)] := by
  match l, h with
  | a :: b :: c :: d :: t, _ => simp
theorem part_drop (l : List UInt8) (a n : Nat) : (l.drop a).take n ++ l.drop (a + n) = l.drop a := by
  rw [← List.drop_drop, List.take_append_drop]
/-- bytes that are a head are that head's -/
theorem bytes_hdOf (s : ByteArray) (hs : s.size = 48) : (hdOf s).bytes = bs s := by
  have h0 := byt_lt s 0
  have h1 := byt_lt s 1
  have h2 := byt_lt s 2
  have h3 := byt_lt s 3
  have hl : (bs s).length = 48 := hs
  have key4 : ∀ a b : Nat, b = a + 4 → b ≤ 48 → putL (takeN (bs (s.extract a b))) 4 = bs (s.extract a b) := fun a b h hb => by
    have := putL_takeN (bs (s.extract a b))
    rwa [show (bs (s.extract a b)).length = 4 by rw [size_bs, ByteArray.size_extract]; omega] at this
  have key8 : ∀ a b : Nat, b = a + 8 → b ≤ 48 → putL (takeN (bs (s.extract a b))) 8 = bs (s.extract a b) := fun a b h hb => by
    have := putL_takeN (bs (s.extract a b))
    rwa [show (bs (s.extract a b)).length = 8 by rw [size_bs, ByteArray.size_extract]; omega] at this
  have hfirst : (hdOf s).first = (bs s).take 4 := by
    rw [four _ (by omega)]
    unfold Hd.first hdOf
    simp only
    rw [u8_byte _ (byt s 0) h0 (by omega), u8_byte _ (byt s 1) h1 (by omega), u8_byte _ (byt s 2) h2 (sgn_mod _ h2), u8_byte _ (byt s 3) h3 (sgn_mod _ h3), ofNat_byt s 0 (by omega), ofNat_byt s 1 (by omega), ofNat_byt s 2 (by omega), ofNat_byt s 3 (by omega)]
    rfl
  unfold Hd.bytes
  rw [hfirst]
  unfold Hd.words Hd.stamps hdOf
  simp only
  rw [key4 4 8 rfl (by omega), key4 8 12 rfl (by omega), key4 12 16 rfl (by omega), key8 16 24 rfl (by omega), key8 24 32 rfl (by omega), key8 32 40 rfl (by omega), key8 40 48 rfl (by omega)]
  simp only [bs_extract]
  have e := part_drop (bs s)
  have e0 : (bs s).take 4 ++ (bs s).drop 4 = bs s := List.take_append_drop 4 _
  have e48 : (bs s).drop 48 = [] := List.drop_of_length_le (by omega)
  have e4 := e 4 4
  have e8 := e 8 4
  have e12 := e 12 4
  have e16 := e 16 8
  have e24 := e 24 8
  have e32 := e 32 8
  have e40 := e 40 8
  simp only [Nat.reduceAdd] at e4 e8 e12 e16 e24 e32 e40
  rw [e48, List.append_nil] at e40
  simp only [List.append_assoc, Nat.reduceSub]
  rw [e40, e32, e24, e16, e12, e8, e4, e0]
theorem byt_str (l : List UInt8) (i : Nat) (v : UInt8) (h : l[i]? = some v) : byt (str l) i = v.toNat := by
  unfold byt
  rw [bs_str, List.getD, h]
  rfl
/-- a head comes back from its bytes -/
theorem hdOf_bytes (h : Hd) (hm : h.may = true) (hok : h.ok) : hdOf (str h.bytes) = h := by
  obtain ⟨a0, a1, hb, c0, c1, d0, d1, e0, e1, f0, f1⟩ := may_bounds hm
  obtain ⟨g, h', i, j, k, l, m⟩ := hok
  have hB : h.bytes = u8 (64 * h.a + 8 * h.b + h.c) :: u8 h.d :: u8 h.e :: u8 h.f :: (putL h.g 4 ++ (putL h.h 4 ++ (putL h.i 4 ++ (putL h.j 8 ++ (putL h.k 8 ++ (putL h.l 8 ++ putL h.m 8)))))) := by
    unfold Hd.bytes Hd.first Hd.words Hd.stamps
    simp only [List.append_assoc, List.cons_append, List.nil_append]
  have t : ∀ z : Int, ((u8 z).toNat : Int) = z % 256 := u8_int
  have b0 := byt_str h.bytes 0 _ (by rw [hB]; rfl)
  have b1 := byt_str h.bytes 1 _ (by rw [hB]; rfl)
  have b2 := byt_str h.bytes 2 _ (by rw [hB]; rfl)
  have b3 := byt_str h.bytes 3 _ (by rw [hB]; rfl)
  have t0 := t (64 * h.a + 8 * h.b + h.c)
  have t1 := t h.d
  have t2 := t h.e
  have t3 := t h.f
  have dp4 : ∀ n m : Nat, 4 ≤ m → (putL n 4).drop m = [] := fun n m h => List.drop_of_length_le (by rw [length_putL]; exact h)
  have dp8 : ∀ n m : Nat, 8 ≤ m → (putL n 8).drop m = [] := fun n m h => List.drop_of_length_le (by rw [length_putL]; exact h)
  have tk8 : ∀ n : Nat, (putL n 8).take 8 = putL n 8 := fun n => List.take_of_length_le (by rw [length_putL]; exact Nat.le_refl _)
  have x0 : bs ((str h.bytes).extract 4 8) = putL h.g 4 := by rw [bs_extract, bs_str, hB]; simp [List.drop_append, List.take_append, length_putL, dp4, dp8, tk8]
  have x1 : bs ((str h.bytes).extract 8 12) = putL h.h 4 := by rw [bs_extract, bs_str, hB]; simp [List.drop_append, List.take_append, length_putL, dp4, dp8, tk8]
  have x2 : bs ((str h.bytes).extract 12 16) = putL h.i 4 := by rw [bs_extract, bs_str, hB]; simp [List.drop_append, List.take_append, length_putL, dp4, dp8, tk8]
  have x3 : bs ((str h.bytes).extract 16 24) = putL h.j 8 := by rw [bs_extract, bs_str, hB]; simp [List.drop_append, List.take_append, length_putL, dp4, dp8, tk8]
  have x4 : bs ((str h.bytes).extract 24 32) = putL h.k 8 := by rw [bs_extract, bs_str, hB]; simp [List.drop_append, List.take_append, length_putL, dp4, dp8, tk8]
  have x5 : bs ((str h.bytes).extract 32 40) = putL h.l 8 := by rw [bs_extract, bs_str, hB]; simp [List.drop_append, List.take_append, length_putL, dp4, dp8, tk8]
  have x6 : bs ((str h.bytes).extract 40 48) = putL h.m 8 := by rw [bs_extract, bs_str, hB]; simp [List.drop_append, List.take_append, length_putL, dp4, dp8, tk8]
  unfold hdOf
  rw [x0, x1, x2, x3, x4, x5, x6, b0, b1, b2, b3]
  simp only [takeN_putL]
  have s2 : sgn (u8 h.e).toNat = h.e := by unfold sgn; split <;> omega
  have s3 : sgn (u8 h.f).toNat = h.f := by unfold sgn; split <;> omega
  rw [s2, s3, t0, t1]
  have p4 : 256 ^ 4 = 4294967296 := by decide
  have p8 : 256 ^ 8 = 18446744073709551616 := by decide
  rw [p4, p8, Nat.mod_eq_of_lt g, Nat.mod_eq_of_lt h', Nat.mod_eq_of_lt i, Nat.mod_eq_of_lt j, Nat.mod_eq_of_lt k, Nat.mod_eq_of_lt l, Nat.mod_eq_of_lt m]
  have q0 : (64 * h.a + 8 * h.b + h.c) % 256 / 64 = h.a := by omega
  have q1 : (64 * h.a + 8 * h.b + h.c) % 256 / 8 % 8 = h.b := by omega
  have q2 : (64 * h.a + 8 * h.b + h.c) % 256 % 8 = h.c := by omega
  have q3 : h.d % 256 = h.d := by omega
  rw [q0, q1, q2, q3]
theorem bs_split (s : ByteArray) (a : Nat) : bs s = bs (s.extract 0 a) ++ bs (s.extract a s.size) := by
  rw [bs_extract, bs_extract, List.drop_zero, Nat.sub_zero, List.take_of_length_le (l := (bs s).drop a) (by rw [List.length_drop, size_bs]; omega), List.take_append_drop]
theorem prefix_take {p s : List UInt8} : Lib.hasPrefix s p = true ↔ p.length ≤ s.length ∧ s.take p.length = p := by
  unfold Lib.hasPrefix
  rw [List.isPrefixOf_iff_prefix, List.prefix_iff_eq_take]
  constructor
  · intro h
    have := congrArg List.length h
    rw [List.length_take] at this
    exact ⟨by omega, h.symm⟩
  · intro h
    exact h.2.symm
/-- where a text begins as another one -/
theorem cut_iff (s : ByteArray) (at_ : Nat) (p q : List UInt8) (hp : bs (s.extract 0 at_) = p) :
    ((str (p ++ q)).size ≤ s.size ∧ s.extract 0 (str (p ++ q)).size = str (p ++ q)) ↔ Lib.hasPrefix (bs (s.extract at_ s.size)) q = true := by
  have h1 : (str (p ++ q)).size ≤ s.size ∧ s.extract 0 (str (p ++ q)).size = str (p ++ q) ↔ Lib.hasPrefix (bs s) (p ++ q) = true := by
    rw [prefix_take, size_bs, str_size]
    constructor
    · intro ⟨h1, h2⟩
      have h3 := congrArg bs h2
      rw [bs_extract, bs_str, List.drop_zero, Nat.sub_zero] at h3
      exact ⟨h1, h3⟩
    · intro ⟨h1, h2⟩
      refine ⟨h1, bs_inj ?_⟩
      rw [bs_extract, bs_str, List.drop_zero, Nat.sub_zero]
      exact h2
  rw [h1]
  unfold Lib.hasPrefix
  rw [List.isPrefixOf_iff_prefix, List.isPrefixOf_iff_prefix, bs_split s at_, hp, List.prefix_append_right_inj]
theorem uN_small (n : Nat) (h : n < 65536) : uN (n : Int) = n := by unfold uN; omega
theorem two_bytes (r : ByteArray) (a : Nat) (h : a + 2 ≤ r.size) : takeN (bs (r.extract a (a + 2))) < 65536 ∧ putL (takeN (bs (r.extract a (a + 2)))) 2 = bs (r.extract a (a + 2)) := by
  have hl : (bs (r.extract a (a + 2))).length = 2 := by rw [size_bs, ByteArray.size_extract]; omega
  refine ⟨?_, ?_⟩
  · have := takeN_lt (bs (r.extract a (a + 2)))
    rw [hl] at this
    exact this
  · have := putL_takeN (bs (r.extract a (a + 2)))
    rwa [hl] at this
/-- an extension's bytes are these, up to what stands behind its data -/
theorem fd_bytes (r : ByteArray) (h4 : 4 ≤ r.size) (hn4 : 4 ≤ oneN r) (hn : oneN r ≤ r.size) : (⟨oneK r, oneD r⟩ : Fd).bytes = bs (r.extract 0 4) ++ oneFull r := by
  have k1 := two_bytes r 0 (by omega)
  have k2 := two_bytes r 2 (by omega)
  have hd : (oneD r).size = oneN r - 4 := by unfold oneD; rw [ByteArray.size_extract]; omega
  have e1 : putL (uN (oneK r : Int)) 2 = bs (r.extract 0 2) := by rw [uN_small (oneK r) k1.1]; exact k1.2
  have e2 : putL (4 + (oneD r).size) 2 = bs (r.extract 2 4) := by rw [hd, show 4 + (oneN r - 4) = oneN r by omega]; exact k2.2
  have e3 : bs (r.extract 0 4) = bs (r.extract 0 2) ++ bs (r.extract 2 4) := by
    simp only [bs_extract, List.drop_zero, Nat.sub_zero, Nat.reduceSub]
    have := List.take_append_drop 2 ((bs r).take 4)
    rw [List.take_take, List.drop_take] at this
    exact this.symm
  unfold Fd.bytes oneFull
  simp only
  rw [e1, e2, e3]
theorem one_split (r : ByteArray) : bs r = bs (r.extract 0 4) ++ bs (oneR r) := bs_split r 4
theorem fd_prefix (r : ByteArray) (h4 : 4 ≤ r.size) (hn4 : 4 ≤ oneN r) (hn : oneN r ≤ r.size) : Lib.hasPrefix (bs r) (⟨oneK r, oneD r⟩ : Fd).bytes = Lib.hasPrefix (bs (oneR r)) (oneFull r) := by
  rw [fd_bytes r h4 hn4 hn, one_split r]
  unfold Lib.hasPrefix
  rw [Bool.eq_iff_iff, List.isPrefixOf_iff_prefix, List.isPrefixOf_iff_prefix]
  have : r.extract 0 4 = r.extract 0 4 := rfl
  rw [← one_split r]
  conv => lhs; rhs; rw [one_split r]
  exact List.prefix_append_right_inj _
end Go.Proofs.Ytoifkfhbinfplaa
