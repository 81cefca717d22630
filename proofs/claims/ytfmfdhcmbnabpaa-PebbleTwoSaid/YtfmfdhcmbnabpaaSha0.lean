/- sha in plain words: numbers and lists, no program in sight. -/
import Derived.Test.YtfmfdhcmbnabpaaPl
namespace Go.Proofs.Ytfmfdhcmbnabpaa
set_option linter.unusedVariables false
set_option linter.unusedSimpArgs false
open Go Go.RowKit

abbrev M32 : Nat := 4294967296
def rr (n k : Nat) : Nat := leftN n (32 - k)
def sg0 (x : Nat) : Nat := rr x 7 ^^^ rr x 18 ^^^ x / 8
def sg1 (x : Nat) : Nat := rr x 17 ^^^ rr x 19 ^^^ x / 1024
def bg0 (x : Nat) : Nat := rr x 2 ^^^ rr x 13 ^^^ rr x 22
def bg1 (x : Nat) : Nat := rr x 6 ^^^ rr x 11 ^^^ rr x 25
def chN (e f g : Nat) : Nat := (e &&& f) ^^^ ((4294967295 - e) &&& g)
def maN (a b c : Nat) : Nat := (a &&& b) ||| (a &&& c) ||| (b &&& c)

structure V8 where
  (a b c d e f g h : Nat)
def V8.list (v : V8) : List Nat := [v.a, v.b, v.c, v.d, v.e, v.f, v.g, v.h]
def V8.ok (v : V8) : Prop := ∀ x ∈ v.list, x < M32
def t1N (v : V8) (k w : Nat) : Nat := (v.h + bg1 v.e + chN v.e v.f v.g + k + w) % M32
def t2N (v : V8) : Nat := (bg0 v.a + maN v.a v.b v.c) % M32
def rnd (v : V8) (k w : Nat) : V8 := ⟨(t1N v k w + t2N v) % M32, v.a, v.b, v.c, (v.d + t1N v k w) % M32, v.e, v.f, v.g⟩

def kL : List Nat := [
  0x428a2f98, 0x71374491, 0xb5c0fbcf, 0xe9b5dba5, 0x3956c25b, 0x59f111f1, 0x923f82a4, 0xab1c5ed5,
  0xd807aa98, 0x12835b01, 0x243185be, 0x550c7dc3, 0x72be5d74, 0x80deb1fe, 0x9bdc06a7, 0xc19bf174,
  0xe49b69c1, 0xefbe4786, 0x0fc19dc6, 0x240ca1cc, 0x2de92c6f, 0x4a7484aa, 0x5cb0a9dc, 0x76f988da,
  0x983e5152, 0xa831c66d, 0xb00327c8, 0xbf597fc7, 0xc6e00bf3, 0xd5a79147, 0x06ca6351, 0x14292967,
  0x27b70a85, 0x2e1b2138, 0x4d2c6dfc, 0x53380d13, 0x650a7354, 0x766a0abb, 0x81c2c92e, 0x92722c85,
  0xa2bfe8a1, 0xa81a664b, 0xc24b8b70, 0xc76c51a3, 0xd192e819, 0xd6990624, 0xf40e3585, 0x106aa070,
  0x19a4c116, 0x1e376c08, 0x2748774c, 0x34b0bcb5, 0x391c0cb3, 0x4ed8aa4a, 0x5b9cca4f, 0x682e6ff3,
  0x748f82ee, 0x78a5636f, 0x84c87814, 0x8cc70208, 0x90befffa, 0xa4506ceb, 0xbef9a3f7, 0xc67178f2]
def h0V : V8 := ⟨0x6a09e667, 0xbb67ae85, 0x3c6ef372, 0xa54ff53a, 0x510e527f, 0x9b05688c, 0x1f83d9ab, 0x5be0cd19⟩

/-- the first 16 numbers of a block -/
def w16 (p : List UInt8) : Nat → List Nat
  | 0 => []
  | n + 1 => w16 p n ++ [takeN ((p.drop (4 * n)).take 4)]
/-- one number more -/
def nxt (l : List Nat) : Nat := (l.getD (l.length - 16) 0 + l.getD (l.length - 7) 0 + sg0 (l.getD (l.length - 15) 0) + sg1 (l.getD (l.length - 2) 0)) % M32
def more (l : List Nat) : Nat → List Nat
  | 0 => l
  | n + 1 => more l n ++ [nxt (more l n)]
/-- a block's 64 numbers -/
def sched (p : List UInt8) : List Nat := more (w16 p 16) 48
def rounds (w : List Nat) (v : V8) : Nat → V8
  | 0 => v
  | n + 1 => let u := rounds w v n; rnd u (kL.getD n 0) (w.getD n 0)
def addV (x y : V8) : V8 := ⟨(x.a + y.a) % M32, (x.b + y.b) % M32, (x.c + y.c) % M32, (x.d + y.d) % M32, (x.e + y.e) % M32, (x.f + y.f) % M32, (x.g + y.g) % M32, (x.h + y.h) % M32⟩
def press (h : V8) (p : List UInt8) : V8 := addV h (rounds (sched p) h 64)
/-- n blocks -/
def hRun (h : V8) : Nat → List UInt8 → V8
  | 0, _ => h
  | n + 1, l => hRun (press h (l.take 64)) n (l.drop 64)
def hOf (m : List UInt8) : V8 := hRun h0V (m.length / 64) m
def restOf (m : List UInt8) : List UInt8 := m.drop (64 * (m.length / 64))
def gapN (n : Nat) : Nat := 64 - (n + 8) % 64
def padB (m : List UInt8) : List UInt8 := [0x80] ++ List.replicate (gapN m.length - 1) 0 ++ putL (m.length * 8) 8
def outB (v : V8) : List UInt8 := (v.list.map (putL · 4)).flatten
/-- a text's digest: 32 bytes -/
def digest (m : List UInt8) : List UInt8 := outB (hOf (m ++ padB m))
def walkD (k : List UInt8) : Nat → List UInt8
  | 0 => k
  | n + 1 => digest (walkD k n)

theorem leftN_lt (n k : Nat) (h : n < M32) (hk : k < 32) : leftN n k < M32 := leftUp_lt n h k hk
theorem rr_lt (n k : Nat) (h : n < M32) (hk : 1 ≤ k) : rr n k < M32 := leftN_lt n _ h (by omega)
theorem xor_lt32 {a b : Nat} (ha : a < M32) (hb : b < M32) : a ^^^ b < M32 := Nat.xor_lt_two_pow (n := 32) ha hb
theorem or_lt32 {a b : Nat} (ha : a < M32) (hb : b < M32) : a ||| b < M32 := Nat.or_lt_two_pow (n := 32) ha hb
theorem and_lt32 {a b : Nat} (ha : a < M32) : a &&& b < M32 := Nat.lt_of_le_of_lt Nat.and_le_left ha
theorem V8.ok_mk {a b c d e f g h : Nat} (h1 : a < M32) (h2 : b < M32) (h3 : c < M32) (h4 : d < M32) (h5 : e < M32) (h6 : f < M32) (h7 : g < M32) (h8 : h < M32) : (V8.mk a b c d e f g h).ok := by
  intro x hx
  simp only [V8.list, List.mem_cons, List.not_mem_nil, or_false] at hx
  rcases hx with rfl | rfl | rfl | rfl | rfl | rfl | rfl | rfl <;> assumption
theorem V8.ok_iff (v : V8) : v.ok ↔ v.a < M32 ∧ v.b < M32 ∧ v.c < M32 ∧ v.d < M32 ∧ v.e < M32 ∧ v.f < M32 ∧ v.g < M32 ∧ v.h < M32 := by
  constructor
  · intro h
    exact ⟨h _ (by simp [V8.list]), h _ (by simp [V8.list]), h _ (by simp [V8.list]), h _ (by simp [V8.list]), h _ (by simp [V8.list]), h _ (by simp [V8.list]), h _ (by simp [V8.list]), h _ (by simp [V8.list])⟩
  · rintro ⟨h1, h2, h3, h4, h5, h6, h7, h8⟩
    exact V8.ok_mk h1 h2 h3 h4 h5 h6 h7 h8
theorem mod32 (n : Nat) : n % M32 < M32 := Nat.mod_lt _ (by decide)
theorem rnd_ok {v : V8} (h : v.ok) (k w : Nat) : (rnd v k w).ok := by
  obtain ⟨h1, h2, h3, h4, h5, h6, h7, h8⟩ := (V8.ok_iff v).1 h
  exact V8.ok_mk (mod32 _) h1 h2 h3 (mod32 _) h5 h6 h7
theorem rounds_ok {v : V8} (h : v.ok) (w : List Nat) : ∀ n, (rounds w v n).ok
  | 0 => h
  | n + 1 => rnd_ok (rounds_ok h w n) _ _
theorem addV_ok (x y : V8) : (addV x y).ok := V8.ok_mk (mod32 _) (mod32 _) (mod32 _) (mod32 _) (mod32 _) (mod32 _) (mod32 _) (mod32 _)
theorem h0V_ok : h0V.ok := V8.ok_mk (by decide) (by decide) (by decide) (by decide) (by decide) (by decide) (by decide) (by decide)
theorem hRun_ok : ∀ (n : Nat) (h : V8) (l : List UInt8), h.ok → (hRun h n l).ok
  | 0, h, l, hh => hh
  | n + 1, h, l, hh => hRun_ok n _ _ (addV_ok _ _)
theorem hOf_ok (m : List UInt8) : (hOf m).ok := hRun_ok _ _ _ h0V_ok

theorem hRun_add : ∀ (a b : Nat) (h : V8) (l : List UInt8), hRun h (a + b) l = hRun (hRun h a l) b (l.drop (64 * a))
  | 0, b, h, l => by simp [hRun]
  | a + 1, b, h, l => by
    rw [show a + 1 + b = (a + b) + 1 by omega]
    simp only [hRun]
    rw [hRun_add a b, List.drop_drop, show 64 + 64 * a = 64 * (a + 1) by omega]
theorem hRun_app : ∀ (n : Nat) (h : V8) (l t : List UInt8), 64 * n ≤ l.length → hRun h n (l ++ t) = hRun h n l
  | 0, h, l, t, _ => rfl
  | n + 1, h, l, t, hl => by
    simp only [hRun]
    rw [List.take_append_of_le_length (by omega), List.drop_append_of_le_length (by omega)]
    exact hRun_app n _ _ _ (by rw [List.length_drop]; omega)
theorem restOf_length (m : List UInt8) : (restOf m).length = m.length % 64 := by unfold restOf; rw [List.length_drop]; omega
theorem blocks_add (m t : List UInt8) : (m ++ t).length / 64 = m.length / 64 + (restOf m ++ t).length / 64 := by
  rw [List.length_append, List.length_append, restOf_length]; omega
theorem drop_rest (m t : List UInt8) : (m ++ t).drop (64 * (m.length / 64)) = restOf m ++ t := by
  unfold restOf
  rw [List.drop_append_of_le_length (by omega)]
theorem hOf_more (m t : List UInt8) : hRun (hOf m) ((restOf m ++ t).length / 64) (restOf m ++ t) = hOf (m ++ t) := by
  show _ = hRun h0V ((m ++ t).length / 64) (m ++ t)
  rw [blocks_add m t, hRun_add, drop_rest, hRun_app (m.length / 64) h0V m t (by omega)]
  rfl
theorem restOf_more (m t : List UInt8) : (restOf m ++ t).drop (64 * ((restOf m ++ t).length / 64)) = restOf (m ++ t) := by
  rw [← drop_rest, List.drop_drop]
  unfold restOf
  rw [blocks_add, drop_rest]
  congr 1; omega
theorem padB_length (m : List UInt8) : (padB m).length = gapN m.length + 8 := by
  unfold padB gapN
  simp only [List.length_append, List.length_cons, List.length_nil, List.length_replicate, length_putL]
  omega
theorem outB_length (v : V8) : (outB v).length = 32 := by simp [outB, V8.list, length_putL]
theorem digest_length (m : List UInt8) : (digest m).length = 32 := outB_length _

theorem w16_length (p : List UInt8) : ∀ n, (w16 p n).length = n
  | 0 => rfl
  | n + 1 => by simp [w16, w16_length p n]
theorem more_length (l : List Nat) : ∀ n, (more l n).length = l.length + n
  | 0 => rfl
  | n + 1 => by simp [more, more_length l n]; omega
theorem sched_length (p : List UInt8) : (sched p).length = 64 := by unfold sched; rw [more_length, w16_length]
theorem w16_lt (p : List UInt8) : ∀ n, ∀ x ∈ w16 p n, x < M32
  | 0, x, h => by simp [w16] at h
  | n + 1, x, h => by
    simp only [w16, List.mem_append, List.mem_singleton] at h
    rcases h with h | rfl
    · exact w16_lt p n x h
    · refine Nat.lt_of_lt_of_le (takeN_lt _) (Nat.pow_le_pow_right (n := 256) (i := _) (j := 4) (by omega) ?_)
      simp; omega
theorem more_lt (l : List Nat) (hl : ∀ x ∈ l, x < M32) : ∀ n, ∀ x ∈ more l n, x < M32
  | 0, x, h => hl x h
  | n + 1, x, h => by
    simp only [more, List.mem_append, List.mem_singleton] at h
    rcases h with h | rfl
    · exact more_lt l hl n x h
    · exact mod32 _
theorem sched_lt (p : List UInt8) : ∀ x ∈ sched p, x < M32 := more_lt _ (w16_lt p 16) 48
theorem getD_lt (l : List Nat) (hl : ∀ x ∈ l, x < M32) (i : Nat) : l.getD i 0 < M32 := by
  rw [List.getD_eq_getElem?_getD]
  by_cases h : i < l.length
  · rw [List.getElem?_eq_getElem h]; exact hl _ (List.getElem_mem h)
  · rw [List.getElem?_eq_none (by omega)]; decide
theorem kL_lt : ∀ x ∈ kL, x < M32 := by decide
theorem sg0_lt {x : Nat} (h : x < M32) : sg0 x < M32 := xor_lt32 (xor_lt32 (rr_lt _ _ h (by omega)) (rr_lt _ _ h (by omega))) (Nat.lt_of_le_of_lt (Nat.div_le_self _ _) h)
theorem sg1_lt {x : Nat} (h : x < M32) : sg1 x < M32 := xor_lt32 (xor_lt32 (rr_lt _ _ h (by omega)) (rr_lt _ _ h (by omega))) (Nat.lt_of_le_of_lt (Nat.div_le_self _ _) h)
theorem bg0_lt {x : Nat} (h : x < M32) : bg0 x < M32 := xor_lt32 (xor_lt32 (rr_lt _ _ h (by omega)) (rr_lt _ _ h (by omega))) (rr_lt _ _ h (by omega))
theorem bg1_lt {x : Nat} (h : x < M32) : bg1 x < M32 := xor_lt32 (xor_lt32 (rr_lt _ _ h (by omega)) (rr_lt _ _ h (by omega))) (rr_lt _ _ h (by omega))
theorem chN_lt {e f g : Nat} (h : e < M32) : chN e f g < M32 := xor_lt32 (and_lt32 h) (and_lt32 (show 4294967295 - e < 4294967296 by omega))
theorem maN_lt {a b c : Nat} (ha : a < M32) (hb : b < M32) : maN a b c < M32 := or_lt32 (or_lt32 (and_lt32 ha) (and_lt32 ha)) (and_lt32 hb)
/-- xor of the three is their or: the reference's word -/
theorem ma_xor (a b c : Nat) : (a &&& b) ^^^ (a &&& c) ^^^ (b &&& c) = maN a b c := by
  unfold maN
  apply Nat.eq_of_testBit_eq
  intro i
  simp only [Nat.testBit_xor, Nat.testBit_or, Nat.testBit_and]
  cases a.testBit i <;> cases b.testBit i <;> cases c.testBit i <;> rfl
theorem chunks_len (n : Nat) (hn : 1 ≤ n) : ∀ (k : Nat) (l : List UInt8), l.length = n * k → (chunks n l).length = k
  | 0, l, h => by
    have : l = [] := List.eq_nil_of_length_eq_zero (by simpa using h)
    subst this; rfl
  | k + 1, l, h => by
    have hm : n * (k + 1) = n * k + n := Nat.mul_succ n k
    have h0 : l ≠ [] := by intro e; subst e; simp at h; omega
    rw [chunks_cons n hn l h0, List.length_cons, chunks_len n hn k (l.drop n) (by rw [List.length_drop]; omega)]
theorem chunks_nth (n : Nat) (hn : 1 ≤ n) : ∀ (i : Nat) (l : List UInt8) (h : i < (chunks n l).length), (chunks n l)[i] = (l.drop (n * i)).take n
  | i, [], h => by simp [chunks_nil] at h
  | 0, c :: l, h => by simp [chunks_cons n hn (c :: l) (by simp)]
  | i + 1, c :: l, h => by
    have e := chunks_cons n hn (c :: l) (by simp)
    have h' : i < (chunks n ((c :: l).drop n)).length := by rw [e] at h; simpa using h
    have e2 : (chunks n (c :: l))[i + 1]'h = (chunks n ((c :: l).drop n))[i] := by simp [e]
    rw [e2, chunks_nth n hn i _ h', List.drop_drop]
    congr 2
    rw [Nat.mul_succ]; omega
theorem w16_set (p : List UInt8) (k : Nat) (h : k < 64) : (w16 p k ++ List.replicate (64 - k) 0).set k (takeN ((p.drop (4 * k)).take 4)) = w16 p (k + 1) ++ List.replicate (64 - (k + 1)) 0 := by
  rw [List.set_append_right _ _ (by rw [w16_length]; omega), w16_length, Nat.sub_self, show 64 - k = (64 - (k + 1)) + 1 by omega, List.replicate_succ, List.set_cons_zero]
  simp [w16]
theorem more_set (l : List Nat) (k : Nat) (hl : l.length = 16) (h : k < 48) : (more l k ++ List.replicate (48 - k) 0).set (k + 16) (nxt (more l k)) = more l (k + 1) ++ List.replicate (48 - (k + 1)) 0 := by
  rw [List.set_append_right _ _ (by rw [more_length]; omega), more_length, show k + 16 - (l.length + k) = 0 by omega, show 48 - k = (48 - (k + 1)) + 1 by omega, List.replicate_succ, List.set_cons_zero]
  simp [more]
theorem getD_app {l m : List Nat} {i : Nat} (h : i < l.length) : (l ++ m).getD i 0 = l.getD i 0 := by
  rw [List.getD_eq_getElem?_getD, List.getD_eq_getElem?_getD, List.getElem?_append_left h]
theorem not32 (e : Nat) (h : e < M32) : 4294967295 ^^^ e = 4294967295 - e := by
  have h1 : 4294967295 - e = 2 ^ 32 - (e + 1) := by have : e < 4294967296 := h; omega
  rw [h1]
  apply Nat.eq_of_testBit_eq
  intro i
  rw [Nat.testBit_xor, Nat.testBit_two_pow_sub_succ h, show (4294967295 : Nat) = 2 ^ 32 - 1 from rfl, Nat.testBit_two_pow_sub_one]
  by_cases hi : i < 32
  · simp [hi]
  · simp [hi, testBit_far e i h (by omega)]
theorem ch_eq (e f g : Nat) (he : e < M32) (hf : f < M32) (hg : g < M32) :
    bits .xor .u32 (bits .and .u32 (e : Int) (f : Int)) (bits .and .u32 (bits .xor .u32 IntKind.u32.max (e : Int)) (g : Int)) = ((chN e f g : Nat) : Int) := by
  have hm : IntKind.u32.max = ((4294967295 : Nat) : Int) := by decide
  have hn : 4294967295 - e < M32 := show 4294967295 - e < 4294967296 by omega
  rw [hm, u32_xor_nat _ _ (by decide) he, not32 e he, u32_and_nat _ _ he hf, u32_and_nat _ _ hn hg, u32_xor_nat _ _ (and_lt32 he) (and_lt32 hn)]
  rfl
theorem ma_eq (a b c : Nat) (ha : a < M32) (hb : b < M32) (hc : c < M32) :
    bits .or .u32 (bits .or .u32 (bits .and .u32 (a : Int) (b : Int)) (bits .and .u32 (a : Int) (c : Int))) (bits .and .u32 (b : Int) (c : Int)) = ((maN a b c : Nat) : Int) := by
  rw [u32_and_nat _ _ ha hb, u32_and_nat _ _ ha hc, u32_and_nat _ _ hb hc, u32_or_nat _ _ (and_lt32 ha) (and_lt32 ha), u32_or_nat _ _ (or_lt32 (and_lt32 ha) (and_lt32 ha)) (and_lt32 hb)]
  rfl
/-- the first i of s, the rest of l -/
def mixL (s l : List Nat) (i : Nat) : List Nat := s.take i ++ l.drop i
theorem mixL_length (s l : List Nat) (i : Nat) (h : s.length = l.length) (hi : i ≤ l.length) : (mixL s l i).length = l.length := by simp [mixL]; omega
theorem mixL_get (s l : List Nat) (i : Nat) (h : s.length = l.length) (hi : i < l.length) : (mixL s l i).getD i 0 = l.getD i 0 := by
  unfold mixL
  rw [List.getD_eq_getElem?_getD, List.getElem?_append_right (by simp; omega), List.getD_eq_getElem?_getD, List.getElem?_drop]
  congr 2; simp; omega
theorem mixL_set (s l : List Nat) (i : Nat) (h : s.length = l.length) (hi : i < l.length) : (mixL s l i).set i (s.getD i 0) = mixL s l (i + 1) := by
  unfold mixL
  rw [List.set_append_right _ _ (by simp; omega), List.drop_eq_getElem_cons hi, show i - (List.take i s).length = 0 by simp; omega, List.set_cons_zero, List.take_succ_eq_append_getElem (by omega), List.append_assoc]
  simp [List.getD_eq_getElem?_getD, show i < s.length by omega]
theorem mixL_all (s l : List Nat) (h : s.length = l.length) : mixL s l l.length = s := by
  unfold mixL
  rw [List.drop_of_length_le (Nat.le_refl _), List.append_nil, List.take_of_length_le (by omega)]
theorem addV_get (x y : V8) (i : Nat) (hi : i < 8) : (addV x y).list.getD i 0 = (x.list.getD i 0 + y.list.getD i 0) % M32 := by
  match i, hi with
  | 0, _ | 1, _ | 2, _ | 3, _ | 4, _ | 5, _ | 6, _ | 7, _ => rfl
  | i + 8, h => omega
theorem hRun_succ (h : V8) (j : Nat) (l : List UInt8) : hRun h (j + 1) l = press (hRun h j l) ((l.drop (64 * j)).take 64) := by
  rw [hRun_add j 1]; rfl
theorem str_append (a b : List UInt8) : str a ++ str b = str (a ++ b) := by
  apply bs_inj
  rw [bs_str, bs, ByteArray.data_append, Array.toList_append]
  simp [str]
/-- the first k numbers' bytes -/
def outP (l : List Nat) (k : Nat) : List UInt8 := ((l.take k).map (putL · 4)).flatten
theorem outP_length (l : List Nat) : ∀ k, k ≤ l.length → (outP l k).length = 4 * k
  | 0, _ => rfl
  | k + 1, h => by
    have := outP_length l k (by omega)
    unfold outP at *
    rw [List.take_succ_eq_append_getElem (by omega), List.map_append, List.flatten_append, List.length_append, this]
    simp [length_putL]; omega
theorem outP_succ (l : List Nat) (k : Nat) (h : k < l.length) : outP l (k + 1) = outP l k ++ putL (l.getD k 0) 4 := by
  unfold outP
  rw [List.take_succ_eq_append_getElem h, List.map_append, List.flatten_append]
  simp [List.getD_eq_getElem?_getD, h]
theorem outP_all (v : V8) : outP v.list 8 = outB v := rfl
theorem walkD_length (K : List UInt8) (h : K.length = 32) : ∀ n, (walkD K n).length = 32
  | 0 => h
  | n + 1 => digest_length _
theorem walkD_add (K : List UInt8) (a : Nat) : ∀ b, walkD (walkD K a) b = walkD K (a + b)
  | 0 => rfl
  | b + 1 => by simp only [walkD, walkD_add K a b]; rfl
/-- a digit of sixteen -/
def dig16 (n : Nat) : UInt8 := ([48, 49, 50, 51, 52, 53, 54, 55, 56, 57, 97, 98, 99, 100, 101, 102] : List UInt8).getD n 0
def hexL (D : List UInt8) : List UInt8 := D.flatMap fun c => [dig16 (c.toNat / 16), dig16 (c.toNat % 16)]
theorem hexL_snoc (l : List UInt8) (c : UInt8) : hexL (l ++ [c]) = hexL l ++ [dig16 (c.toNat / 16), dig16 (c.toNat % 16)] := by simp [hexL]
theorem hexL_length (l : List UInt8) : (hexL l).length = 2 * l.length := by
  induction l with
  | nil => rfl
  | cons c l ih => simp [hexL] at ih ⊢; omega
theorem u8_and15 (c : Nat) (h : c < 256) : bits .and .u8 (c : Int) 15 = ((c % 16 : Nat) : Int) := by
  have := u8_and_nat c 15 h (by omega)
  rw [show (15 : Nat) = 2 ^ 4 - 1 from rfl, Nat.and_two_pow_sub_one_eq_mod] at this
  exact this
end Go.Proofs.Ytfmfdhcmbnabpaa
