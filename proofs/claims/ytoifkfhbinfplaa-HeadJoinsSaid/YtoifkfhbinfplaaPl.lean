/- Plain words on bytes and numbers: no program in sight. -/
import Derived.WalkKit
import Derived.Shelf.Strings.Repeat
namespace Go.Proofs.Ytoifkfhbinfplaa
set_option linter.unusedVariables false
set_option linter.unusedSimpArgs false
open Go Go.RowKit

/-- a number's k lowest bytes, from the high end -/
def putL (n : Nat) : Nat → List UInt8
  | 0 => []
  | k + 1 => UInt8.ofNat (n / 256 ^ k % 256) :: putL n k
/-- the number of bytes -/
def takeN (l : List UInt8) : Nat := l.foldl (fun a c => a * 256 + c.toNat) 0
def str (l : List UInt8) : ByteArray := ⟨l.toArray⟩
abbrev bs (s : ByteArray) : List UInt8 := s.data.toList

theorem bs_str (l : List UInt8) : bs (str l) = l := rfl
theorem str_bs (s : ByteArray) : str (bs s) = s := rfl
theorem size_bs (s : ByteArray) : (bs s).length = s.size := rfl
theorem str_size (l : List UInt8) : (str l).size = l.length := rfl
theorem bs_inj {s t : ByteArray} (h : bs s = bs t) : s = t := by rw [← str_bs s, ← str_bs t, h]

theorem takeN_snoc (l : List UInt8) (c : UInt8) : takeN (l ++ [c]) = takeN l * 256 + c.toNat := by simp [takeN]
theorem foldN_lt : ∀ (l : List UInt8) (a : Nat), l.foldl (fun a c => a * 256 + c.toNat) a < (a + 1) * 256 ^ l.length
  | [], a => by simp
  | c :: l, a => by
    have h := foldN_lt l (a * 256 + c.toNat)
    have hc := c.toNat_lt
    have h2 : (a * 256 + c.toNat + 1) * 256 ^ l.length ≤ ((a + 1) * 256) * 256 ^ l.length := Nat.mul_le_mul_right _ (by omega)
    simp only [List.foldl_cons, List.length_cons, Nat.pow_succ]
    rw [Nat.mul_comm (256 ^ l.length) 256, ← Nat.mul_assoc]
    omega
theorem takeN_lt (l : List UInt8) : takeN l < 256 ^ l.length := by have := foldN_lt l 0; simpa [takeN] using this
theorem takeN_lt64 (l : List UInt8) (h : l.length ≤ 8) : takeN l < 18446744073709551616 :=
  Nat.lt_of_lt_of_le (takeN_lt l) (Nat.le_trans (Nat.pow_le_pow_right (by omega) h) (by decide))
theorem take_snoc (l : List UInt8) (k : Nat) (h : k < l.length) : l.take (k + 1) = l.take k ++ [l[k]] := by
  rw [List.take_succ_eq_append_getElem h]
theorem length_putL (n k : Nat) : (putL n k).length = k := by
  induction k with
  | zero => rfl
  | succ k ih => simp [putL, ih]


theorem i64_and31 (x : Int) : bits .and .i64 x 31 = x % 32 := by
  have h : (BitVec.ofInt 64 x &&& BitVec.ofInt 64 31) = BitVec.ofNat 64 ((x % 32).toNat) := by
    apply BitVec.eq_of_toNat_eq
    rw [BitVec.toNat_and, show (BitVec.ofInt 64 31).toNat = 31 from by decide, show (31:Nat) = 2^5 - 1 by decide, Nat.and_two_pow_sub_one_eq_mod, BitVec.toNat_ofInt, BitVec.toNat_ofNat]
    omega
  show IntKind.i64.wrap ((BitVec.ofInt 64 x &&& BitVec.ofInt 64 31).toNat : Int) = x % 32
  rw [h, BitVec.toNat_ofNat, IntWalk.i64_in _ (by omega)]
  omega
theorem shl8_or (a c : Nat) (hc : c < 256) (h : a * 256 + c < 18446744073709551616) :
    bits .or .u64 (IntKind.u64.wrap ((a : Int) * 256)) (IntKind.u64.wrap (c : Int)) = ((a * 256 + c : Nat) : Int) := by
  have e1 := IntWalk.u64_in ((a : Int) * 256) (by omega)
  have e2 := IntWalk.u64_in (c : Int) (by omega)
  have ha : a * 256 < 18446744073709551616 := Nat.lt_of_le_of_lt (Nat.le_add_right _ c) h
  have hc2 : c < 18446744073709551616 := Nat.lt_of_le_of_lt (Nat.le_add_left _ (a*256)) h
  have e3 := u64_or_nat (a * 256) c ha hc2
  have e4 := nat_join 8 (a * 256) c (by omega) (by omega)
  rw [e4] at e3
  rw [e1, e2, ← e3]
  rfl
/-- A number turned to the left by k bits. -/
def leftN (n k : Nat) : Nat := (n * 2 ^ k) % 4294967296 ||| n / 2 ^ (32 - k)

theorem left_eq (n k : Nat) (hn : n < 4294967296) (hk : k < 32) : bits .or .u32 ((n : Int) * 2 ^ k % 4294967296) ((n : Int) / 2 ^ (32 - k)) = ((leftN n (k : Int).toNat : Nat) : Int) := by
  have e1 : (n : Int) * 2 ^ k % 4294967296 = ((n * 2 ^ k % 4294967296 : Nat) : Int) := by simp
  have e2 : (n : Int) / 2 ^ (32 - k) = ((n / 2 ^ (32 - k) : Nat) : Int) := by simp
  have h2 : n / 2 ^ (32 - k) ≤ n := Nat.div_le_self _ _
  rw [e1, e2, u32_or_nat _ _ (by omega) (by omega)]
  rfl
/-- 2^64, not opened by arithmetic. -/
def U64 : Nat := 18446744073709551616

theorem getElem_putL (n : Nat) : ∀ (k j : Nat) (h : j < (putL n k).length), (putL n k)[j] = UInt8.ofNat (n / 256 ^ (k - 1 - j) % 256)
  | k + 1, 0, _ => by simp [putL]
  | k + 1, j + 1, h => by
    have := getElem_putL n k j (by simpa [putL] using h)
    simp only [putL, List.getElem_cons_succ, this]
    congr 4; omega
/-- the bytes that are written, and bytes 0 for those that are not yet -/
def putUp (n k j : Nat) : List UInt8 := (putL n k).take j ++ List.replicate (k - j) 0
theorem putUp_zero (n k : Nat) : putUp n k 0 = List.replicate k 0 := by simp [putUp]
theorem putUp_all (n k : Nat) : putUp n k k = putL n k := by simp [putUp, List.take_of_length_le, length_putL]
theorem length_putUp (n k j : Nat) (h : j ≤ k) : (putUp n k j).length = k := by simp [putUp, length_putL]; omega
theorem putUp_set (n k j : Nat) (h : j < k) : (putUp n k j).set j (UInt8.ofNat (n / 256 ^ (k - 1 - j) % 256)) = putUp n k (j + 1) := by
  have hl := length_putL n k
  unfold putUp
  rw [List.set_append_right _ _ (by simp [hl]; omega), List.take_succ_eq_append_getElem (by omega), getElem_putL, List.append_assoc]
  congr 1
  have e : j - (List.take j (putL n k)).length = 0 := by simp [hl]; omega
  rw [e, show k - j = (k - (j + 1)) + 1 by omega, List.replicate_succ]
  rfl
theorem shr_byte (n m : Nat) : ((n : Int) / 2 ^ (8 * m) % 256) = (((UInt8.ofNat (n / 256 ^ m % 256)).toNat : Nat) : Int) := by
  have h : (2 : Nat) ^ (8 * m) = 256 ^ m := by rw [Nat.pow_mul]
  have e : (n : Int) / 2 ^ (8 * m) % 256 = ((n / 2 ^ (8 * m) % 256 : Nat) : Int) := by simp
  rw [e, h]
  simp

theorem mul8_add (a c : Nat) (hc : c < 256) (h : a * 256 + c < 18446744073709551616) :
    IntKind.u64.wrap (IntKind.u64.wrap ((a : Int) * 256) + IntKind.u64.wrap (c : Int)) = ((a * 256 + c : Nat) : Int) := by
  have e1 := IntWalk.u64_in ((a : Int) * 256) (by omega)
  have e2 := IntWalk.u64_in (c : Int) (by omega)
  rw [e1, e2]
  have e3 := IntWalk.u64_in ((a : Int) * 256 + c) (by omega)
  rw [e3]
  omega
theorem leftN_zero (n : Nat) (h : n < 4294967296) : leftN n 0 = n := by
  unfold leftN
  rw [Nat.pow_zero, Nat.mul_one, Nat.mod_eq_of_lt h, Nat.div_eq_of_lt (by omega), Nat.or_zero]
theorem leftUp_lt (n : Nat) (h : n < 4294967296) : ∀ k, k < 32 → leftN n k < 4294967296 := by
  intro k hk
  unfold leftN
  have h1 : n * 2 ^ k % 4294967296 < 2 ^ 32 := Nat.mod_lt _ (by decide)
  have h2 : n / 2 ^ (32 - k) < 2 ^ 32 := Nat.lt_of_le_of_lt (Nat.div_le_self _ _) h
  exact Nat.or_lt_two_pow h1 h2
theorem leftN_bit (n k i : Nat) (hn : n < 4294967296) (hk : k < 32) : (leftN n k).testBit i = (decide (i < 32) && ((decide (k ≤ i) && n.testBit (i - k)) || n.testBit (i + (32 - k)))) := by
  unfold leftN
  rw [Nat.testBit_or, show (4294967296 : Nat) = 2 ^ 32 from rfl, Nat.testBit_mod_two_pow, Nat.mul_comm, Nat.testBit_two_pow_mul, Nat.testBit_div_two_pow]
  by_cases h : i < 32
  · simp [h, Nat.add_comm]
  · have : n.testBit (i + (32 - k)) = false := Nat.testBit_lt_two_pow (Nat.lt_of_lt_of_le hn (Nat.pow_le_pow_right (n := 2) (i := 32) (by omega) (by omega)))
    simp [h, this]
theorem testBit_far (n i : Nat) (hn : n < 4294967296) (h : 32 ≤ i) : n.testBit i = false :=
  Nat.testBit_lt_two_pow (Nat.lt_of_lt_of_le hn (Nat.pow_le_pow_right (n := 2) (i := 32) (by omega) h))
theorem leftN_bit' (n k i : Nat) (hn : n < 4294967296) (hk : k < 32) : (leftN n k).testBit i = (decide (i < 32) && n.testBit ((i + (32 - k)) % 32)) := by
  rw [leftN_bit n k i hn hk]
  by_cases h : i < 32
  · by_cases h2 : k ≤ i
    · rw [testBit_far n (i + (32 - k)) hn (by omega), show (i + (32 - k)) % 32 = i - k by omega]
      simp [h, h2]
    · rw [show (i + (32 - k)) % 32 = i + (32 - k) by omega]
      simp [h2]
  · simp [h]
theorem leftN_comp (n a b : Nat) (hn : n < 4294967296) (ha : a < 32) (hb : b < 32) : leftN (leftN n a) b = leftN n ((a + b) % 32) := by
  have hl := leftUp_lt n hn a ha
  apply Nat.eq_of_testBit_eq
  intro i
  rw [leftN_bit' _ _ _ hl hb, leftN_bit' _ _ _ hn ha, leftN_bit' _ _ _ hn (Nat.mod_lt _ (by omega))]
  by_cases h : i < 32
  · have h1 : (i + (32 - b)) % 32 < 32 := Nat.mod_lt _ (by omega)
    rw [show ((i + (32 - b)) % 32 + (32 - a)) % 32 = (i + (32 - (a + b) % 32)) % 32 by omega]
    simp [h, h1]
  · simp [h]
theorem leftN_xor (n m k : Nat) (hn : n < 4294967296) (hm : m < 4294967296) (hk : k < 32) : leftN n k ^^^ leftN m k = leftN (n ^^^ m) k := by
  have hx : n ^^^ m < 4294967296 := Nat.xor_lt_two_pow (n := 32) hn hm
  apply Nat.eq_of_testBit_eq
  intro i
  rw [Nat.testBit_xor, leftN_bit' _ _ _ hn hk, leftN_bit' _ _ _ hm hk, leftN_bit' _ _ _ hx hk, Nat.testBit_xor]
  cases decide (i < 32) <;> simp
theorem leftN_succ (n k : Nat) (h : n < 4294967296) (hk : k + 1 < 32) : leftN n (k + 1) = leftN n k * 2 % 4294967296 + leftN n k / 2147483648 := by
  have hl := leftUp_lt n h k (by omega)
  have e : leftN n k * 2 % 4294967296 + leftN n k / 2147483648 = leftN (leftN n k) 1 := by
    have := nat_join 1 (leftN n k * 2 % 4294967296) (leftN n k / 2147483648) (by omega) (by omega)
    rw [← this]
    rfl
  rw [e, leftN_comp n k 1 h (by omega) (by omega), Nat.mod_eq_of_lt hk]
theorem put_step (n j : Nat) : strOfNums [(((n / 256 ^ j : Nat) : Int) % 256)] ++ str (putL n j) = str (putL n (j + 1)) := by
  apply bs_inj
  rw [bs_str, bs, ByteArray.data_append, Array.toList_append, strOfNums_data]
  show [UInt8.ofNat (((n / 256 ^ j : Nat) : Int) % 256).toNat] ++ putL n j = putL n (j + 1)
  rw [show ((((n / 256 ^ j : Nat) : Int) % 256).toNat) = n / 256 ^ j % 256 by omega]
  rfl
theorem u64_div256 (q : Nat) (h : q < U64) : IntKind.u64.wrap ((q : Int) / 256) = ((q / 256 : Nat) : Int) := by
  unfold U64 at h
  rw [IntWalk.u64_in _ (by omega)]
  omega
theorem repeat_zero (q : Nat) : Lib.repeatL [(0 : UInt8)] q = List.replicate q 0 := by
  induction q with
  | zero => rfl
  | succ q ih => simp [Lib.repeatL, ih, List.replicate_succ]

theorem or_eq_zero (a b : Nat) : a ||| b = 0 ↔ a = 0 ∧ b = 0 := Nat.or_eq_zero_iff
theorem xor_eq_zero (a b : Nat) : a ^^^ b = 0 ↔ a = b := by
  constructor
  · intro h
    have : (a ^^^ b) ^^^ b = 0 ^^^ b := by rw [h]
    simpa [Nat.xor_assoc] using this
  · rintro rfl; simp

/-- A text's parts, of n bytes each but the last one. -/
def chunksF (n : Nat) : Nat → List UInt8 → List (List UInt8)
  | 0, _ => []
  | f + 1, l => if l = [] then [] else l.take n :: chunksF n f (l.drop n)
def chunks (n : Nat) (l : List UInt8) : List (List UInt8) := chunksF n l.length l
theorem chunks_nil (n : Nat) : chunks n [] = [] := rfl
theorem chunksF_more (n : Nat) (hn : 1 ≤ n) : ∀ (f g : Nat) (l : List UInt8), l.length ≤ f → l.length ≤ g → chunksF n f l = chunksF n g l
  | 0, 0, _, _, _ => rfl
  | 0, g + 1, l, h, _ => by
    obtain rfl : l = [] := List.eq_nil_of_length_eq_zero (by omega)
    simp [chunksF]
  | f + 1, 0, l, _, h => by
    obtain rfl : l = [] := List.eq_nil_of_length_eq_zero (by omega)
    simp [chunksF]
  | f + 1, g + 1, l, h1, h2 => by
    simp only [chunksF]
    split
    · rfl
    · rename_i hl
      have : 0 < l.length := List.length_pos_iff.2 hl
      rw [chunksF_more n hn f g (l.drop n) (by simp; omega) (by simp; omega)]
theorem chunks_cons (n : Nat) (hn : 1 ≤ n) (l : List UInt8) (h : l ≠ []) : chunks n l = l.take n :: chunks n (l.drop n) := by
  have : 0 < l.length := List.length_pos_iff.2 h
  unfold chunks
  obtain ⟨f, hf⟩ : ∃ f, l.length = f + 1 := ⟨l.length - 1, by omega⟩
  rw [hf]
  simp only [chunksF, if_neg h]
  rw [chunksF_more n hn f (l.drop n).length _ (by simp; omega) (by simp)]

theorem toList_bs (s : ByteArray) : s.toList = bs s := ByteArray.toList_eq s
theorem empty_str (l : List UInt8) : (str l).toList.isEmpty = l.isEmpty := by rw [toList_bs]; rfl
theorem extract_str (l : List UInt8) (a b : Nat) : (str l).extract a b = str ((l.drop a).take (b - a)) := by
  apply bs_inj
  have := Lib.extract_toList (str l) a b
  rw [toList_bs] at this
  exact this

theorem take_min {α : Type} (r : List α) (n : Nat) : r.take (min n r.length) = r.take n := by
  by_cases h : n ≤ r.length
  · rw [Nat.min_eq_left h]
  · rw [Nat.min_eq_right (by omega), List.take_of_length_le (Nat.le_refl _), List.take_of_length_le (by omega)]
theorem drop_min {α : Type} (r : List α) (n : Nat) : r.drop (min n r.length) = r.drop n := by
  by_cases h : n ≤ r.length
  · rw [Nat.min_eq_left h]
  · rw [Nat.min_eq_right (by omega), List.drop_of_length_le (Nat.le_refl _), List.drop_of_length_le (by omega)]

theorem chunks_length (n : Nat) (hn : 1 ≤ n) : ∀ (f : Nat) (l : List UInt8), l.length ≤ f → (chunks n l).length ≤ l.length
  | 0, l, h => by
    obtain rfl : l = [] := List.eq_nil_of_length_eq_zero (by omega)
    simp [chunks_nil]
  | f + 1, l, h => by
    by_cases h0 : l = []
    · subst h0; simp [chunks_nil]
    · have hp : 0 < l.length := List.length_pos_iff.2 h0
      rw [chunks_cons n hn l h0]
      have := chunks_length n hn f (l.drop n) (by simp; omega)
      simp at this ⊢
      omega
theorem chunks_append (n : Nat) (hn : 1 ≤ n) (r : List UInt8) : ∀ (f : Nat) (l : List UInt8), l.length ≤ f → n ∣ l.length → chunks n (l ++ r) = chunks n l ++ chunks n r
  | 0, l, h, _ => by
    obtain rfl : l = [] := List.eq_nil_of_length_eq_zero (by omega)
    simp [chunks_nil]
  | f + 1, l, h, hd => by
    by_cases h0 : l = []
    · subst h0; simp [chunks_nil]
    · have hp : 0 < l.length := List.length_pos_iff.2 h0
      have hle : n ≤ l.length := Nat.le_of_dvd hp hd
      rw [chunks_cons n hn l h0, chunks_cons n hn (l ++ r) (by simp [h0]), List.take_append_of_le_length hle, List.drop_append_of_le_length hle, chunks_append n hn r f (l.drop n) (by simp; omega) (by simp; exact Nat.dvd_sub hd (Nat.dvd_refl n))]
      rfl
theorem chunks_short (n : Nat) (hn : 1 ≤ n) (l : List UInt8) (h0 : l ≠ []) (h : l.length ≤ n) : chunks n l = [l] := by
  rw [chunks_cons n hn l h0, List.take_of_length_le h, List.drop_of_length_le h, chunks_nil]

/-- how many bytes 0 come behind -/
def padN (n t : Nat) : Nat := (t - n % t) % t
theorem padN_lt (n t : Nat) (h : 0 < t) : padN n t < t := Nat.mod_lt _ h
theorem pad_done (n t : Nat) (h : 0 < t) : (n + padN n t) % t = 0 := by
  unfold padN
  have h1 := Nat.mod_lt n h
  by_cases h0 : n % t = 0
  · rw [h0, Nat.sub_zero, Nat.mod_self, Nat.add_zero]; exact h0
  · rw [Nat.mod_eq_of_lt (show t - n % t < t by omega), Nat.add_mod, Nat.mod_eq_of_lt (show t - n % t < t by omega), show n % t + (t - n % t) = t by omega, Nat.mod_self]
theorem pad_notyet (n t j : Nat) (h : 0 < t) (hj : j < padN n t) : (n + j) % t ≠ 0 := by
  unfold padN at hj
  have h1 := Nat.mod_lt n h
  by_cases h0 : n % t = 0
  · rw [h0, Nat.sub_zero, Nat.mod_self] at hj; omega
  · rw [Nat.mod_eq_of_lt (show t - n % t < t by omega)] at hj
    rw [Nat.add_mod, Nat.mod_eq_of_lt (show j < t by omega), Nat.mod_eq_of_lt (show n % t + j < t by omega)]
    omega

theorem parts_step (n : Nat) (hn : 1 ≤ n) (S l r : List UInt8) (h : l ++ r = S) (hd : n ∣ l.length ∨ r = []) (h0 : r ≠ []) :
    (l ++ r.take n) ++ r.drop n = S ∧ (n ∣ (l ++ r.take n).length ∨ r.drop n = []) ∧ chunks n (l ++ r.take n) = chunks n l ++ [r.take n] := by
  have hpos : 0 < r.length := List.length_pos_iff.2 h0
  have hr0 : r.take n ≠ [] := by
    intro h
    have := congrArg List.length h
    rw [List.length_take, List.length_nil] at this
    omega
  refine ⟨by rw [List.append_assoc, List.take_append_drop]; exact h, ?_, ?_⟩
  · by_cases hge : n ≤ r.length
    · refine Or.inl ?_
      rcases hd with h | h
      · rw [List.length_append, List.length_take, Nat.min_eq_left hge]
        exact Nat.dvd_add h (Nat.dvd_refl n)
      · exact absurd h h0
    · exact Or.inr (List.drop_of_length_le (by omega))
  · rcases hd with h | h
    · rw [chunks_append n hn _ _ l (Nat.le_refl _) h, chunks_short n hn _ hr0 (by simp; omega)]
    · exact absurd h h0

theorem toList_beq (a b : ByteArray) : (a.toList == b.toList) = decide (a = b) := by
  rw [toList_bs, toList_bs]
  by_cases h : a = b
  · subst h; simp
  · have h2 : ¬ bs a = bs b := fun e => h (bs_inj e)
    rw [decide_eq_false h]
    simpa using h2

theorem ne_more (a : ByteArray) (c : UInt8) : (a.toList == (a ++ (⟨#[c]⟩ : ByteArray)).toList) = false := by
  rw [toList_beq]
  refine decide_eq_false fun h => ?_
  have := congrArg ByteArray.size h
  rw [ByteArray.size_append] at this
  have h1 : (⟨#[c]⟩ : ByteArray).size = 1 := rfl
  omega

theorem wf_u16 {c : Int} (h : (Lit.int .u16 c).wf = true) : 0 ≤ c ∧ c ≤ 65535 := by simpa [Lit.wf, IntKind.min, IntKind.max, IntKind.signed, IntKind.bits] using h
theorem wf_u8 {c : Int} (h : (Lit.int .u8 c).wf = true) : 0 ≤ c ∧ c ≤ 255 := by simpa [Lit.wf, IntKind.min, IntKind.max, IntKind.signed, IntKind.bits] using h
theorem wf_u32 {c : Int} (h : (Lit.int .u32 c).wf = true) : 0 ≤ c ∧ c ≤ 4294967295 := by simpa [Lit.wf, IntKind.min, IntKind.max, IntKind.signed, IntKind.bits] using h
theorem wf_u64 {c : Int} (h : (Lit.int .u64 c).wf = true) : 0 ≤ c ∧ c ≤ 18446744073709551615 := by simpa [Lit.wf, IntKind.min, IntKind.max, IntKind.signed, IntKind.bits] using h
theorem wf_i16 {c : Int} (h : (Lit.int .i16 c).wf = true) : -32768 ≤ c ∧ c ≤ 32767 := by simpa [Lit.wf, IntKind.min, IntKind.max, IntKind.signed, IntKind.bits] using h
theorem wf_i64 {c : Int} (h : (Lit.int .i64 c).wf = true) : -9223372036854775808 ≤ c ∧ c ≤ 9223372036854775807 := by simpa [Lit.wf, IntKind.min, IntKind.max, IntKind.signed, IntKind.bits] using h

theorem ne_set (a : ByteArray) (k : Nat) (hk : k < (bs a).length) : (a.toList == (⟨((bs a).set k ((bs a)[k] ^^^ 1)).toArray⟩ : ByteArray).toList) = false := by
  rw [toList_beq]
  refine decide_eq_false fun h => ?_
  have h2 : bs a = (bs a).set k ((bs a)[k] ^^^ 1) := congrArg bs h
  have h3 : (bs a)[k] = ((bs a).set k ((bs a)[k] ^^^ 1))[k]'(by simpa using hk) := getElem_congr_coll h2
  rw [List.getElem_set_self] at h3
  have h4 := congrArg (fun c => (bs a)[k] ^^^ c) h3
  simp only [UInt8.xor_self, ← UInt8.xor_assoc, UInt8.zero_xor] at h4
  exact absurd h4 (by decide)

theorem nat_u64 {c : Int} (h : (Lit.int .u64 c).wf = true) : ∃ n : Nat, c = n ∧ n < U64 := by
  have := wf_u64 h
  exact ⟨c.toNat, by omega, by unfold U64; omega⟩
theorem put_k (b : Int) : ∃ k : Nat, min (max b 0) 8 = (k : Int) ∧ k ≤ 8 := ⟨(min (max b 0) 8).toNat, by omega, by omega⟩

theorem foldN_add (l : List UInt8) : ∀ a : Nat, l.foldl (fun a c => a * 256 + c.toNat) a = a * 256 ^ l.length + takeN l := by
  induction l with
  | nil => intro a; simp [takeN]
  | cons c l ih =>
    intro a
    simp only [List.foldl_cons, List.length_cons, Nat.pow_succ, takeN, Nat.zero_mul, Nat.zero_add]
    rw [ih, ih c.toNat, Nat.add_mul, Nat.mul_assoc, Nat.mul_comm 256, Nat.add_assoc]
theorem takeN_cons (c : UInt8) (l : List UInt8) : takeN (c :: l) = c.toNat * 256 ^ l.length + takeN l := by
  have := foldN_add l c.toNat
  simpa [takeN] using this
theorem takeN_putL (n k : Nat) : takeN (putL n k) = n % 256 ^ k := by
  induction k with
  | zero => simp [putL, takeN, Nat.mod_one]
  | succ k ih =>
    rw [putL, takeN_cons, length_putL, ih]
    have h1 : (UInt8.ofNat (n / 256 ^ k % 256)).toNat = n / 256 ^ k % 256 := by simp
    rw [h1, Nat.pow_succ, Nat.mod_mul]
    rw [Nat.mul_comm, Nat.add_comm]
theorem putL_mod (a b k : Nat) (h : a % 256 ^ k = b % 256 ^ k) : putL a k = putL b k := by
  induction k with
  | zero => rfl
  | succ k ih =>
    have h1 : a % 256 ^ k = b % 256 ^ k := by
      have := congrArg (· % 256 ^ k) h
      simpa [Nat.pow_succ, Nat.mod_mul_right_mod] using this
    have h2 : a / 256 ^ k % 256 = b / 256 ^ k % 256 := by
      have := congrArg (· / 256 ^ k) h
      simpa [Nat.pow_succ, Nat.mod_mul_right_div_self] using this
    rw [putL, putL, ih h1, h2]
theorem putL_takeN (l : List UInt8) : putL (takeN l) l.length = l := by
  induction l with
  | nil => rfl
  | cons c l ih =>
    have hlt := takeN_lt l
    have hp : 0 < 256 ^ l.length := Nat.pos_of_ne_zero (by simp)
    have hp2 : putL (takeN (c :: l)) l.length = putL (takeN l) l.length := by
      apply putL_mod
      rw [takeN_cons, Nat.mul_comm]
      simp
    rw [List.length_cons, putL, hp2, ih, takeN_cons, Nat.mul_comm, Nat.mul_add_div hp, Nat.div_eq_of_lt hlt, Nat.add_zero]
    congr 1
    have := c.toNat_lt
    rw [Nat.mod_eq_of_lt (by omega)]
    exact UInt8.ofNat_toNat

theorem mask_u64 (N k : Nat) (hN : N < U64) (hk : k < 8) :
    bits .and .u64 (N : Int) (IntKind.u64.wrap (IntKind.u64.wrap (2 ^ (8 * k)) - 1)) = ((N % 256 ^ k : Nat) : Int) := by
  have h1 : (2 : Nat) ^ (8 * k) = 256 ^ k := by rw [Nat.pow_mul]
  have h2 : (256 : Nat) ^ k ≤ 256 ^ 7 := Nat.pow_le_pow_right (by omega) (by omega)
  have h3 : 0 < (256 : Nat) ^ k := Nat.pow_pos (by omega)
  have h4 : (256 : Nat) ^ 7 = 72057594037927936 := by decide
  rw [h4] at h2
  have e1 : ((2 : Int) ^ (8 * k)) = ((256 ^ k : Nat) : Int) := by rw [← h1]; simp
  have e2 := IntWalk.u64_in (((256 ^ k : Nat) : Int)) (by omega)
  have e3 := IntWalk.u64_in (((256 ^ k : Nat) : Int) - 1) (by omega)
  have e4 : (((256 ^ k : Nat) : Int) - 1) = ((256 ^ k - 1 : Nat) : Int) := by omega
  have hb : 256 ^ k - 1 < 18446744073709551616 := by omega
  have e5 := u64_and_nat N (256 ^ k - 1) hN hb
  rw [e1, e2, e3, e4, e5, ← h1, Nat.and_two_pow_sub_one_eq_mod]

theorem bytesLess_putL (n m : Nat) : ∀ k, Op.bytesLess (putL n k) (putL m k) = decide (n % 256 ^ k < m % 256 ^ k)
  | 0 => by simp [putL, Op.bytesLess, Nat.mod_one]
  | k + 1 => by
    have ih := bytesLess_putL n m k
    have hp : 0 < 256 ^ k := Nat.pow_pos (by omega)
    have h1 := Nat.mod_lt n hp
    have h2 := Nat.mod_lt m hp
    have ha : n / 256 ^ k % 256 < 256 := Nat.mod_lt _ (by omega)
    have hb : m / 256 ^ k % 256 < 256 := Nat.mod_lt _ (by omega)
    have en : n % 256 ^ (k + 1) = n % 256 ^ k + 256 ^ k * (n / 256 ^ k % 256) := by rw [Nat.pow_succ, Nat.mod_mul]
    have em : m % 256 ^ (k + 1) = m % 256 ^ k + 256 ^ k * (m / 256 ^ k % 256) := by rw [Nat.pow_succ, Nat.mod_mul]
    rw [putL, putL, Op.bytesLess, ih, en, em]
    generalize n % 256 ^ k = r at *
    generalize m % 256 ^ k = t at *
    generalize n / 256 ^ k % 256 = a at *
    generalize m / 256 ^ k % 256 = b at *
    generalize 256 ^ k = p at *
    have e1 : (UInt8.ofNat a < UInt8.ofNat b) ↔ a < b := by
      rw [UInt8.lt_iff_toNat_lt]; simp; rw [Nat.mod_eq_of_lt ha, Nat.mod_eq_of_lt hb]
    have e2 : (UInt8.ofNat a == UInt8.ofNat b) = decide (a = b) := by
      by_cases h : a = b
      · subst h; simp
      · rw [decide_eq_false h]
        simp only [beq_eq_false_iff_ne]
        intro h3
        have := congrArg UInt8.toNat h3
        simp at this
        rw [Nat.mod_eq_of_lt ha, Nat.mod_eq_of_lt hb] at this
        exact h this
    rw [e2]
    simp only [e1]
    rcases Nat.lt_trichotomy a b with h | h | h
    · have : p * a + p ≤ p * b := by rw [← Nat.mul_succ]; exact Nat.mul_le_mul_left _ h
      simp [h]; omega
    · subst h; simp
    · have : p * b + p ≤ p * a := by rw [← Nat.mul_succ]; exact Nat.mul_le_mul_left _ h
      have h4 : ¬ a < b := by omega
      have h5 : ¬ a = b := by omega
      simp [h4, h5]; omega
theorem putL_inj8 (n m : Nat) (hn : n < U64) (hm : m < U64) (h : putL n 8 = putL m 8) : n = m := by
  have := congrArg takeN h
  rw [takeN_putL, takeN_putL] at this
  have h1 : n % 256 ^ 8 = n := Nat.mod_eq_of_lt hn
  have h2 : m % 256 ^ 8 = m := Nat.mod_eq_of_lt hm
  rw [h1, h2] at this
  exact this

theorem chunks_flatten (n : Nat) (hn : 1 ≤ n) : ∀ (f : Nat) (l : List UInt8), l.length ≤ f → (chunks n l).flatten = l
  | 0, l, h => by
    obtain rfl : l = [] := List.eq_nil_of_length_eq_zero (by omega)
    rfl
  | f + 1, l, h => by
    by_cases h0 : l = []
    · subst h0; rfl
    · have hp : 0 < l.length := List.length_pos_iff.2 h0
      rw [chunks_cons n hn l h0, List.flatten_cons, chunks_flatten n hn f (l.drop n) (by simp; omega), List.take_append_drop]
theorem chunks_get (n : Nat) (hn : 1 ≤ n) : ∀ (f : Nat) (l : List UInt8), l.length ≤ f → ∀ k (h : k < (chunks n l).length), (chunks n l)[k] ≠ [] ∧ (chunks n l)[k].length ≤ n ∧ (k + 1 < (chunks n l).length → (chunks n l)[k].length = n)
  | 0, l, h, k, hk => by
    obtain rfl : l = [] := List.eq_nil_of_length_eq_zero (by omega)
    simp [chunks_nil] at hk
  | f + 1, l, h, k, hk => by
    by_cases h0 : l = []
    · subst h0; simp [chunks_nil] at hk
    · have hp : 0 < l.length := List.length_pos_iff.2 h0
      have e := chunks_cons n hn l h0
      cases k with
      | zero =>
        simp only [e, List.getElem_cons_zero, List.length_cons, List.length_take]
        refine ⟨fun h => ?_, by omega, fun h => ?_⟩
        · have := congrArg List.length h
          rw [List.length_take, List.length_nil] at this
          omega
        · have h2 := chunks_length n hn _ (l.drop n) (Nat.le_refl _)
          rw [List.length_drop] at h2
          omega
      | succ k =>
        have := chunks_get n hn f (l.drop n) (by simp; omega) k (by rw [e] at hk; simpa using hk)
        simp only [e, List.getElem_cons_succ, List.length_cons]
        exact ⟨this.1, this.2.1, fun h => this.2.2 (by omega)⟩

end Go.Proofs.Ytoifkfhbinfplaa
