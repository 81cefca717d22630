/- Texts laid together: Oct2, Oct3, Vol7, Vol8, Vol9, RegC, RegH, RegS, RegS2. -/
import Derived.OrdersHeld
import Derived.Test.YtkknnnkbegigeaaVc3
/- octet's Same and Pad, the reference's Take, Put, Left, Pad. -/
namespace Go.Proofs.Ytkknnnkbegigeaa
open Go Go.RowKit
set_option linter.unusedVariables false
set_option linter.unusedSimpArgs false
attribute [local go_sem] bmax2 bmin2 bmax bmin

theorem ref01_Take_any (s : ByteArray) (w : World) (hs : s.size ≤ 8) :
    Calls Try.prog 55 #[.string s] w fun e w' => e = .returned (.tuple #[.int .u64 (takeN (bs s)), .int .i64 0]) ∧ w = w' := by
  go_enter Try.func55, Try.ntmps55
  go_wp2
  go_loop [4, 5] (fun n i => ∃ k : Nat, k ≤ s.size ∧ i = .int .i64 k ∧ n = .int .u64 (takeN ((bs s).take k))) (fun _ i => s.size - (intOf i).toNat)
  case atStart => exact ⟨0, Nat.zero_le _, rfl, rfl⟩
  case round =>
    obtain ⟨k, hk, rfl, rfl⟩ := hrel
    by_cases hlt : k < s.size
    · go_wp2
      go_round
      case measure => simp [intOf]; omega
      case rel =>
        refine ⟨k + 1, by omega, by go_num, congrArg _ ?_⟩
        have hsn := take_snoc (bs s) k hlt
        have hl : (List.take (k + 1) (bs s)).length ≤ 8 := by rw [List.length_take]; omega
        have hlt64 := takeN_lt64 _ hl
        rw [hsn, takeN_snoc] at hlt64 ⊢
        exact mul8_add _ _ (UInt8.toNat_lt _) hlt64
    · go_wp2
      go_ret2
      exact ⟨by rw [List.take_of_length_le (by rw [size_bs]; omega)]; rfl, rfl⟩

theorem ref01_Take_long (s : ByteArray) (w : World) (hs : 8 < s.size) :
    Calls Try.prog 55 #[.string s] w fun e w' => e = .returned (.tuple #[.int .u64 0, .int .i64 5]) ∧ w = w' := by
  go_enter Try.func55, Try.ntmps55
  go_wp2
  go_ret2
  exact ⟨rfl, rfl⟩
set_option maxRecDepth 100000 in
theorem ref01_Put_mid (n : Nat) (k : Nat) (w : World) (hn : n < U64) (h8 : k ≤ 8) (b : Int) (hb : min (max b 0) 8 = (k : Int)) :
    Calls Try.prog 25 #[.int .u64 n, .int .i64 b] w fun e w' => e = .returned (.string (str (putL n k))) ∧ Below w.heap.size w w' := by
  go_enter Try.func25, Try.ntmps25
  go_wp2
  go_loopw [0, 5, 6] (fun m o i wr => ∃ j q : Nat, j ≤ k ∧ i = .int .i64 j ∧ m = .int .u64 (q : Int) ∧ Hid (q = n / 256 ^ j) ∧ o = .string (str (putL n j)) ∧ Below w.heap.size w wr) (fun _ _ i _ => k - (intOf i).toNat)
  case atStart => exact ⟨0, n, Nat.zero_le _, rfl, rfl, by simp [Hid], rfl, Below.refl _ _⟩
  case round =>
    obtain ⟨j, q, hj, rfl, rfl, hq, rfl, hbl⟩ := hrel
    by_cases hlt : j < k
    · have h1 : (j : Int) < b := by omega
      have h2 : (j : Int) < 8 := by omega
      obtain ⟨S, hS⟩ : ∃ S, S = str (putL n j) := ⟨_, rfl⟩
      rw [← hS]
      have HS := hid hS
      clear hS
      have hcv := conv_one (P := Try.prog) wr (e' := 5) 45 Try.underlying45 Try.underlying5 Try.underlying9 ((q : Int) % 256)
      have Hbl := hid hbl
      clear hbl
      have hz1 : (strOfNums [(q : Int) % 256]).size ≤ 1 := by rw [strOfNums_size]; simp
      have hz2 : S.size ≤ 8 := by rw [HS.out, str_size, length_putL]; omega
      go_wp2
      go_roundw
      case measure => simp [intOf]; omega
      case rel =>
        refine ⟨j + 1, q / 256, by omega, by go_num, congrArg _ (u64_div256 q (by rw [hq.out]; exact Nat.lt_of_le_of_lt (Nat.div_le_self _ _) hn)), ?_, ?_, Hbl.out.alloc (Hbl.out.size) _⟩
        · have := hq.out
          show q / 256 = n / 256 ^ (j + 1)
          rw [this, Nat.div_div_eq_div_mul, Nat.pow_succ]
        · rw [HS.out, hq.out]
          exact congrArg _ (put_step n j)
    · obtain rfl : j = k := by omega
      go_wp2
      all_goals (go_ret; exact ⟨rfl, hbl⟩)
theorem repeat_zeros (q : Nat) (w : World) (hc : q ≤ 9223372036854775807) (hq : q ≤ 140737488355328) :
    Calls Try.prog 94 #[.string ⟨#[0]⟩, .int .i64 q] w fun e w' => e = .returned (.string (str (List.replicate q 0))) ∧ Below w.heap.size w w' := by
  have := Try.strings_Repeat ⟨#[0]⟩ q w hc (by show 1 * q ≤ _; omega)
  rw [show (⟨#[0]⟩ : ByteArray).data.toList = [0] from rfl, repeat_zero] at this
  exact this
theorem octet_Pad_any (s : ByteArray) (tt : Nat) (w : World) (h1 : 0 < tt) (h2 : tt ≤ 4096) (hs : s.size ≤ 1099511627776) :
    Calls Try.prog 84 #[.string s, .int .i64 tt] w fun e w' => e = .returned (.string (str (bs s ++ List.replicate (padN s.size tt) 0))) ∧ Below w.heap.size w w' := by
  have hr0 := Nat.mod_lt s.size h1
  obtain ⟨r, hr⟩ : ∃ r, s.size % tt = r := ⟨_, rfl⟩
  have hp : padN s.size tt = (tt - r) % tt := by unfold padN; rw [hr]
  rw [hp]
  have hr2 : (s.size : Int) % (tt : Int) = (r : Int) := by rw [← hr]; simp
  rw [hr] at hr0
  obtain ⟨q, hq⟩ : ∃ q, (tt - r) % tt = q := ⟨_, rfl⟩
  have hq2 : ((tt : Int) - (r : Int)) % (tt : Int) = (q : Int) := by rw [← hq, Int.natCast_emod]; congr 1; omega
  have hq3 : q < tt := by rw [← hq]; exact Nat.mod_lt _ h1
  rw [hq]
  have hc : q ≤ 9223372036854775807 := by omega
  have Hq := hid hq
  have Hr := hid hr
  have Hp := hid hp
  clear hq hr hp
  go_enter Try.func84, Try.ntmps84
  have Hm := hid (repeat_zeros q w hc (by omega))
  have hz : (str (List.replicate q 0)).size ≤ 4096 := by rw [str_size]; simp; omega
  go_wp2_with (go_at_call 94; refine Hm.out.mono ?_; rintro e w' ⟨rfl, hbl⟩)
  go_ret
  exact ⟨rfl, hbl⟩
end Go.Proofs.Ytkknnnkbegigeaa
/- octet's Same; Parts, and the reference's. -/
namespace Go.Proofs.Ytkknnnkbegigeaa
open Go Go.RowKit
set_option linter.unusedVariables false
set_option linter.unusedSimpArgs false
attribute [local go_sem] bmax2 bmin2 bmax bmin

theorem octet_Same_any (a b : ByteArray) (w : World) (ha : a.size ≤ 1099511627776) (hb : b.size ≤ 1099511627776) :
    Calls Try.prog 76 #[.string a, .string b] w fun e w' => e = .returned (.bool (a.toList == b.toList)) ∧ ∃ m, w' = w.drewN m := by
  rw [toList_beq]
  obtain ⟨L, hL⟩ : ∃ L, min a.size b.size = L := ⟨_, rfl⟩
  have hL2 : min (a.size : Int) (b.size : Int) = (L : Int) := by omega
  have hLa : L ≤ a.size := by omega
  have hLb : L ≤ b.size := by omega
  have HL := hid hL
  clear hL
  go_enter Try.func76, Try.ntmps76
  go_wp2
  go_loopw [5, 12] (fun u i wr => ∃ k x : Nat, k ≤ L ∧ i = .int .i64 k ∧ u = .int .u8 x ∧ x < 256 ∧ Hid (x = 0 ↔ (bs a).take k = (bs b).take k) ∧ ∃ m, wr = w.drewN m) (fun _ i _ => L - (intOf i).toNat)
  case atStart => exact ⟨0, 0, Nat.zero_le _, rfl, rfl, by omega, by simp [Hid], 0, rfl⟩
  case round =>
    obtain ⟨k, x, hk, rfl, rfl, hx, hq, m, rfl⟩ := hrel
    by_cases hlt : k < L
    · have i1 : (k : Int) < (a.size : Int) := by omega
      have i2 : (k : Int) < (b.size : Int) := by omega
      have i3 : (0 : Int) ≤ (k : Int) := by omega
      go_wp2
      go_quiet (fail)
      go_wp2
      go_roundw
      case measure => simp [intOf]; omega
      case rel =>
        have e1 := u8_xor_nat a[k].toNat b[k].toNat (UInt8.toNat_lt _) (UInt8.toNat_lt _)
        have hxx : a[k].toNat ^^^ b[k].toNat < 256 := Nat.xor_lt_two_pow (n := 8) (UInt8.toNat_lt _) (UInt8.toNat_lt _)
        have e2 := u8_or_nat x _ hx hxx
        refine ⟨k + 1, x ||| (a[k].toNat ^^^ b[k].toNat), by omega, by go_num, congrArg _ (by rw [e1, e2]), Nat.or_lt_two_pow (n := 8) hx hxx, ?_, m + nq, rfl⟩
        have ht := hq.out
        show _ ↔ _
        rw [take_snoc (bs a) k (by rw [size_bs]; omega), take_snoc (bs b) k (by rw [size_bs]; omega), or_eq_zero, xor_eq_zero, ht]
        constructor
        · rintro ⟨h1, h2⟩
          rw [h1]
          exact congrArg (fun c => List.take k (bs b) ++ [c]) (UInt8.toNat_inj.1 h2)
        · intro h
          have := List.append_inj' h rfl
          exact ⟨this.1, by have h2 := this.2; simp only [List.cons.injEq, and_true] at h2; exact congrArg UInt8.toNat h2⟩
    · obtain rfl : k = L := by omega
      by_cases h0 : x = 0
      · have h1 : ((x : Int) == 0) = true := by simp [h0]
        by_cases h2 : a.size = b.size
        · have h3 : ((a.size : Int) == (b.size : Int)) = true := by simp [h2]
          have h4 : a = b := by
            have := hq.out.1 h0
            rw [List.take_of_length_le (by rw [size_bs]; omega), List.take_of_length_le (by rw [size_bs]; omega)] at this
            exact bs_inj this
          have H4 := hid h4
          have H2 := hid h2
          clear h4 h2
          go_wp2
          go_ret
          exact ⟨by rw [decide_eq_true H4.out]; rfl, m, rfl⟩
        · have h3 : ((a.size : Int) == (b.size : Int)) = false := by simp; omega
          have H4 : Hid (¬ a = b) := fun h => h2 (by rw [h])
          clear h2
          go_wp2
          go_ret
          exact ⟨by rw [decide_eq_false H4.out]; rfl, m, rfl⟩
      · have h1 : ((x : Int) == 0) = false := by simp [h0]
        have H4 : Hid (¬ a = b) := fun h => h0 (hq.out.2 (by rw [h]))
        go_wp2
        go_ret
        exact ⟨by rw [decide_eq_false H4.out]; rfl, m, rfl⟩

theorem info_str : (Try.prog.info? 9).map (fun i => (i.zero, i.size, i.bytes)) = some (some (.string ⟨#[]⟩), 1, 16) := by kernel_rfl

theorem octet_Parts_none (s : ByteArray) (n : Int) (w : World) (hn : n < 1) :
    Calls Try.prog 111 #[.string s, .int .i64 n] w fun e w' => e = .returned (.slice none 0 0) ∧ w = w' := by
  go_enter Try.func111, Try.ntmps111
  go_wp2
  go_ret
  exact ⟨rfl, rfl⟩

def strVals (l : List (List UInt8)) : List Value := l.map fun x => .string (str x)
set_option maxRecDepth 100000 in
theorem octet_Parts_some (s : ByteArray) (n : Nat) (w : World) (hn : 1 ≤ n) (hn2 : n ≤ 9223372036854775807) (hs : s.size ≤ 1099511627776) :
    Calls Try.prog 111 #[.string s, .int .i64 n] w fun e w' => ∃ v, e = .returned v ∧ w'.ownsRow w.heap.size 9 1 v (chunks n (bs s)).length (strVals (chunks n (bs s))) ∧ Below w.heap.size w w' := by
  obtain ⟨i0, hi, hz0, hz1, hz2⟩ := info_parts info_str
  have Hz2 := hid hz2
  have Hz1 := hid hz1
  clear hz2 hz1
  have hn' : (1 : Int) ≤ n := by omega
  go_enter Try.func111, Try.ntmps111
  go_wp2
  go_loopw [0, 5] (fun t v wr => ∃ (l r : List UInt8), t = .string (str r) ∧ r.length ≤ s.size ∧ Hid (l ++ r = bs s) ∧ Hid (n ∣ l.length ∨ r = []) ∧ wr.ownsRow w.heap.size 9 1 v (chunks n l).length (strVals (chunks n l)) ∧ Below w.heap.size w wr) (fun t _ _ => lenOf t)
  case atStart => exact ⟨[], bs s, rfl, Nat.le_of_eq (size_bs s), rfl, Or.inl (by simp), by rw [chunks_nil]; exact World.ownsRow_nil _ _ _ _, Below.refl _ _⟩
  case round =>
    obtain ⟨l, r, rfl, hr, hc, hd, ho, hbl⟩ := hrel
    by_cases h0 : r = []
    · subst h0
      have HO := hid ho
      have HB := hid hbl
      have he : (str []).toList.isEmpty = true := by rw [empty_str]; rfl
      clear ho hbl
      go_wp2
      go_ret
      have h := hc.out
      rw [List.append_nil] at h
      exact ⟨_, rfl, by rw [← h]; exact HO.out, HB.out⟩
    · have hpos : 0 < r.length := List.length_pos_iff.2 h0
      obtain ⟨S, hS⟩ : ∃ S, S = str r := ⟨_, rfl⟩
      rw [← hS]
      have hz : S.size = r.length := by rw [hS, str_size]
      obtain ⟨k, hk⟩ : ∃ k : Nat, min n r.length = k := ⟨_, rfl⟩
      have hk2 : min (n : Int) (S.size : Int) = (k : Int) := by rw [hz]; omega
      have hk3 : k ≤ S.size := by rw [hz]; omega
      have he : S.toList.isEmpty = false := by
        rw [hS, empty_str]
        cases r with
        | nil => exact absurd rfl h0
        | cons => rfl
      have HO := hid ho
      have HB := hid hbl
      have HS := hid hS
      have HK := hid hk
      have HZ := hid hz
      clear ho hbl hS hk hz
      have hSs : S.size ≤ 1099511627776 := by rw [HZ.out]; omega
      go_wp2
      refine wp_region_plan_lit (C := fun w' => w' = wr.drew) [0, 1, 2, 3, 6, 7, 8] [] [4, 5, 9, 10] (by kernel_rfl) (by kernel_rfl) (by intro c a d v w h; cases d <;> exact h) rfl ?_
      simp only [List.map_cons, List.map_nil, List.getD_cons_succ, List.getD_cons_zero]
      repeat (go_big_quiet_step (fail))
      refine wpQuiet_nil ?_
      refine wpQuiet_nil ?_
      rintro _ rfl
      have hx1 : (S.extract 0 k) = str (r.take n) := by
        rw [HS.out, extract_str, List.drop_zero, Nat.sub_zero, ← HK.out]
        exact congrArg _ (take_min r n)
      have hx2 : (S.extract k S.size) = str (r.drop n) := by
        rw [HS.out, extract_str, str_size, ← HK.out, drop_min, List.take_of_length_le (by simp; omega)]
      have HX1 := hid hx1
      have HX2 := hid hx2
      clear hx1 hx2
      have hcl := Nat.le_trans (chunks_length n hn _ l (Nat.le_refl _)) (show l.length ≤ s.size by have := congrArg List.length hc.out; rw [List.length_append, size_bs] at this; omega)
      go_wp2_with (at_builtin; refine wpList_append_own _ rfl _ _ 49 rfl w.heap.size 9 i0 (.string ⟨#[]⟩) 1 16 Try.underlying49 hi hz0 Hz1.out Hz2.out rfl (by decide) _ _ _ rfl ((HO.out.alloc _).drew) ⟨wr.heap.size, 0, none⟩ 1 1 [.string (S.extract 0 k)] rfl rfl ?c1 ?c2 ?c3 ?c4 ?c5 ?_)
      case c1 => exact cell_one_new _ _ _
      case c2 => simp [Value.oneCell']
      case c3 => unfold maxLen; omega
      case c4 => omega
      case c5 => have := HB.out.size; simp; omega
      intro v' w1 hown' hgrow' _
      have HB1 := hid (((HB.out.alloc HB.out.size _).drew).grown hgrow' (by have := HB.out.size; simp; omega) (fun q hq => (HO.out.lt q hq).1))
      have HO1 := hid hown'
      clear hown' hgrow'
      go_wp2
      go_roundw
      case measure =>
        have : (S.extract k S.size).size = S.size - k := by rw [HX2.out, str_size, HZ.out, List.length_drop, ← HK.out]; omega
        have h2 : 0 < k := by rw [← HK.out]; omega
        have h3 := HZ.out
        show (S.extract k S.size).size < S.size
        omega
      case rel =>
        have hr0 : r.take n ≠ [] := by
          intro h
          have := congrArg List.length h
          rw [List.length_take, List.length_nil] at this
          omega
        have hch : chunks n (l ++ r.take n) = chunks n l ++ [r.take n] := by
          rcases hd.out with h | h
          · rw [chunks_append n hn _ _ l (Nat.le_refl _) h, chunks_short n hn _ hr0 (by simp; omega)]
          · exact absurd h h0
        refine ⟨l ++ r.take n, r.drop n, congrArg _ HX2.out, by simp; omega, ?_, ?_, ?_, HB1.out⟩
        · show _ = _
          rw [List.append_assoc, List.take_append_drop]; exact hc.out
        · by_cases hge : n ≤ r.length
          · refine Or.inl ?_
            rcases hd.out with h | h
            · rw [List.length_append, List.length_take, Nat.min_eq_left hge]
              exact Nat.dvd_add h (Nat.dvd_refl n)
            · exact absurd h h0
          · exact Or.inr (List.drop_of_length_le (by omega))
        · rw [hch]
          have := HO1.out
          rw [HX1.out] at this
          simpa [strVals] using this

/-- n texts lie at a slice -/
def Texts (w : World) (v : Value) (l : List (List UInt8)) : Prop :=
  ∃ a cap, v = .slice a l.length cap ∧ ∀ i (h : i < l.length), ∃ g, a = some ⟨g, 0, none⟩ ∧ g < w.heap.size ∧ w.cell? ⟨g, i, none⟩ = some (.string (str l[i]))
theorem Texts.of_own {w : World} {base : Nat} {e : TypeId} {v : Value} {l : List (List UInt8)} (h : w.ownsRow base e 1 v l.length (strVals l)) : Texts w v l := by
  rcases h.2 with ⟨rfl, h0⟩ | ⟨g, cap, cur, rfl, _⟩
  · exact ⟨none, 0, by rw [h0], fun i hi => by omega⟩
  · refine ⟨_, cap, rfl, fun i hi => ⟨g, rfl, (h.lt g rfl).2, ?_⟩⟩
    rw [h.cellAt i (by omega)]
    simp [strVals, hi]
theorem Texts.below {w w' : World} {v : Value} {l : List (List UInt8)} (h : Texts w v l) (hb : Below w.heap.size w w') : Texts w' v l := by
  obtain ⟨a, cap, rfl, hc⟩ := h
  refine ⟨a, cap, rfl, fun i hi => ?_⟩
  obtain ⟨g, h1, h2, h3⟩ := hc i hi
  exact ⟨g, h1, Nat.lt_of_lt_of_le h2 hb.size, cell_later hb h3⟩

end Go.Proofs.Ytkknnnkbegigeaa
/- volley: a moment's bytes. -/
namespace Go.Proofs.Ytkknnnkbegigeaa
open Go Go.RowKit
set_option linter.unusedVariables false
set_option linter.unusedSimpArgs false
attribute [local go_sem] bmax2 bmin2 bmax bmin cell_ext frozen_ext

/-- a moment as it is laid -/
def uT (t : Int) : Nat := (t % 18446744073709551616).toNat
theorem uT_lt (t : Int) : uT t < 18446744073709551616 := by unfold uT; omega
theorem uT_wrap (t : Int) : IntKind.u64.wrap t = (uT t : Int) := by rw [wrapU]; unfold uT; omega
theorem V_laid (t : Int) (w : World) : Calls Try.prog 49 #[.int .i64 t] w fun e w' => e = .returned (.string (str (putL (uT t) 8))) ∧ Below w.heap.size w w' := by
  have cP := kp (fun w' => octet_Put_mid (uT t) 8 w' (uT_lt t) (by omega) 8 (by decide))
  have hw := uT_wrap t
  generalize str (putL (uT t) 8) = S at *
  generalize uT t = n at *
  go_enter Try.func49, Try.ntmps49
  go_wp2_with (go_at_call 72; refine (cP.out _).mono ?_; rintro e w1 ⟨rfl, hb1⟩)
  go_ret
  exact ⟨rfl, hb1⟩
end Go.Proofs.Ytkknnnkbegigeaa
/- drift: a clock read. -/
namespace Go.Proofs.Ytkknnnkbegigeaa
open Go Go.RowKit
set_option linter.unusedVariables false
set_option linter.unusedSimpArgs false
attribute [local go_sem] bmax2 bmin2 bmax bmin cell_ext frozen_ext

set_option maxHeartbeats 1000000 in
set_option maxRecDepth 100000 in
theorem D_Read (a s r t : Int) (ha : In64 a) (hs : In64 s) (hr : In64 r) (ht : In64 t) (hat : a ≤ t) (hta : In64 (t - a)) (w : World) : Calls Try.prog 27 #[.agg (clkC a s r).toArray, .int .i64 t] w fun e w' => e = .returned (.tuple #[.int .i64 (intV ((t - a) * r / 1000000000 + (t - a) + s)), .int .i64 (intE ((t - a) * r / 1000000000 + (t - a) + s))]) ∧ Below w.heap.size w w' := by
  have c1 := kp (fun w' => W_Of t ht.1 ht.2 w')
  have c2 := kp (fun w' => W_Of a ha.1 ha.2 w')
  have c3 := kp (fun w' => W_Of s hs.1 hs.2 w')
  have c4 := kp (fun w' => W_Of (t - a) hta.1 hta.2 w')
  have hv1 : intV (t - a) = t - a := if_pos hta
  have hv2 : intE (t - a) = 0 := if_pos hta
  have hlt : decide (t < a) = false := decide_eq_false (by omega)
  have hnl : ¬ t < a := by omega
  have cT := kp (fun w' => W_Times (t - a) r hta.1 hta.2 hr.1 hr.2 w')
  unfold In64 at ha hs hr ht hta
  have cS := kp (fun w' => S_Since t a (by unfold In128; omega) (by unfold In128; omega) (by unfold In128; omega) w')
  rw [hv1, hv2] at cS
  clear hv1 hv2
  generalize hv : t - a = v at *
  have hz : v * r ≤ 9223372036854775808 * 9223372036854775808 ∧ -(9223372036854775808 * 9223372036854775808) ≤ v * r := by
    have h1 : (v * r).natAbs ≤ 9223372036854775808 * 9223372036854775808 := by rw [Int.natAbs_mul]; exact Nat.mul_le_mul (by omega) (by omega)
    omega
  generalize hzz : v * r = z at *
  have cD := kp (fun w' => W_Div z 1000000000 (by unfold In128; omega) (by omega) (by omega) w')
  rw [show ((1000000000 : Nat) : Int) = 1000000000 from rfl] at cD
  have hq0 : -100000000000000000000000000000 ≤ z / 1000000000 := by omega
  have hq1 : z / 1000000000 ≤ 100000000000000000000000000000 := by omega
  generalize z / 1000000000 = q at *
  have cA := kp (fun w' => W_Add_in q v (by unfold In128; omega) (by unfold In128; omega) (by unfold In128; omega) w')
  have cB := kp (fun w' => W_Add_in (q + v) s (by unfold In128; omega) (by unfold In128; omega) (by unfold In128; omega) w')
  have cI := kp (fun w' => W_Int_of (q + v + s) (by unfold In128; omega) w')
  have HB := kp (ba (Below.refl w.heap.size w) (.cells (clkC a s r).toArray 63))
  have H2 := kp (Blk.new w 63 (clkC a s r).toArray)
  have X0 : Kp ((clkC a s r)[0]? = some (.int .i64 a)) := kp rfl
  have X1 : Kp ((clkC a s r)[1]? = some (.int .i64 s)) := kp rfl
  have X2 : Kp ((clkC a s r)[2]? = some (.int .i64 r)) := kp rfl
  have hCl := numC_length q
  have HC1 := kp (numC_one q)
  have hDl := numC_length (q + v)
  have HD1 := kp (numC_one (q + v))
  have hEl := numC_length (q + v + s)
  have HE1 := kp (numC_one (q + v + s))
  generalize intV (q + v + s) = rv at *
  generalize intE (q + v + s) = re at *
  generalize numC (q + v + s) = E at *
  generalize numC (q + v) = D at *
  generalize numC q = C at *
  generalize numC z = Z at *
  generalize numC t = Nt at *
  generalize numC a = Na at *
  generalize numC s = Ns at *
  generalize numC v = Nv at *
  generalize clkC a s r = L at *
  clear hz hq0 hq1 ha hs hr ht hta hv hzz
  go_enter Try.func27, Try.ntmps27
  go_upto_region 1 with (fail)
  change Code.wp _ _ _ _ (w.alloc (.cells L.toArray 63))
  generalize w.alloc (.cells L.toArray 63) = W at H2 HB ⊢
  have x0 := H2.out.atL X0.out
  have kl := H2.out.lt
  go_upto_region 3 with (fail)
  refine wp_region_earlyE [8] [0, 1, 2, 3, 4, 5, 6, 7, 8] [] [9, 10] 57 (fun _ _ _ => True) (fun _ _ => True) (by kernel_rfl) (by kernel_rfl) rfl (fun i v W W' h hb => h) ?_
  apply Exists.intro
  refine ⟨fun V hV => ?_, trivial, ?_⟩
  · have x0 := (H2.out.bel hV).atL X0.out
    have kl := (H2.out.bel hV).lt
    simp only [List.append_eq, List.cons_append, List.nil_append, List.map_cons, List.map_nil, List.getD_cons_succ, List.getD_cons_zero]
    repeat (go_big_quiet_step (first | (go_at_call 33; with_reducible exact Calls.ext_of (c1.out _)) | (go_at_call 33; with_reducible exact Calls.ext_of (c2.out _)) | (go_at_call 57; with_reducible exact Calls.ext_of (cS.out _))))
    exact wpQuiet_nil rfl
  simp only [List.append_eq, List.cons_append, List.nil_append, List.map_cons, List.map_nil, List.getD_cons_succ, List.getD_cons_zero, TailX]
  rintro V hV hT
  have J2 := kp (H2.out.bel hV)
  have JB := kp (bt' HB.out hV HB.out.size)
  clear hV hT x0 kl H2 HB
  have x2 := J2.out.atL X2.out
  have kl := J2.out.lt
  go_upto_region 7 with (first | (go_at_call 58; refine (cT.out _).mono ?_; rintro e w1 ⟨rfl, hb1⟩) | (go_at_call 35; refine (cD.out _).mono ?_; rintro e w2 ⟨rfl, hb2⟩; have SC := sc_new (P := Try.prog) w2 71 C HC1.out #[.int .i64 0, .int .u64 0] (by rw [hCl]; rfl)))
  change Code.wp _ _ _ _ (w2.alloc (.cells C.toArray 71))
  clear SC
  have J8 := kp (Blk.new w2 71 C.toArray)
  have J2 := kp (((J2.out.bel hb1).bel hb2).alloc (.cells C.toArray 71))
  have e1 := bt' JB.out hb1 JB.out.size
  have e2 := bt' e1 hb2 e1.size
  have JB := kp (ba e2 (.cells C.toArray 71))
  clear e1 e2 hb1 hb2 x2 kl
  generalize w2.alloc (.cells C.toArray 71) = U at J2 J8 JB ⊢
  generalize w2.heap.size = b8 at *
  refine wp_region_earlyE [6] [0, 1, 2, 3, 4, 5, 6] [7] [8, 9] 57 (fun _ => VA U.heap.size 71 #[.int .i64 0, .int .u64 0]) (· ≠ ·) (by kernel_rfl) (by kernel_rfl) rfl (fun i v W W' h hb => h.mono hb) ?_
  apply Exists.intro
  refine ⟨fun V hV => ?_, ?_, ?_⟩
  · have L1 := kp (fun x => ld_all (P := Try.prog) b8 2 71 71 C _ Try.underlying71 rfl info_num hCl ((J8.out.bel hV).bel (ext_below V x)))
    simp only [List.append_eq, List.cons_append, List.nil_append, List.map_cons, List.map_nil, List.getD_cons_succ, List.getD_cons_zero]
    repeat (first
      | (go_big_quiet_want; refine quiet_load _ rfl 71 _ rfl rfl (fun w hw => by obtain ⟨x, rfl⟩ := hw; exact L1.out x) ?_; go_simp; go_big_quiet_on)
      | go_big_quiet_step (first | (go_at_call 33; with_reducible exact Calls.ext_of (c4.out _)) | (go_at_call 34; with_reducible exact Calls.ext_of (cA.out _))))
    exact wpQuiet_nil rfl
  · exact ⟨mk_alloc rfl (fun W => by kernel_rfl) (fun j u W h => h.ne), trivial⟩
  · simp only [List.append_eq, List.cons_append, List.nil_append, List.map_cons, List.map_nil, List.getD_cons_succ, List.getD_cons_zero, TailX]
    rintro ev hev V hV ⟨_, b11, rfl, hb11, hk11⟩
    have SC := sc_all (P := Try.prog) (w := V) b11 71 D [.int .i64 0, .int .u64 0] hk11 (by rw [hDl]; rfl) HD1.out
    have J11 := kp (hk11.row D.toArray)
    have J2 := kp ((J2.out.bel hV).rowfar (b := b11) (by have := J2.out.lt; omega) D.toArray)
    have hbx := bt' JB.out hV JB.out.size
    have hle : w.heap.size ≤ b11 := by have := JB.out.size; omega
    have JB := kp (bsr hbx hle hbx.size D.toArray)
    clear hV hk11 hbx
    generalize V.setRow b11 D.toArray = U3 at SC J2 J11 JB
    go_upto_region 8 with (fail)
    clear SC
    refine wp_region_earlyE [7] [0, 1, 2, 3, 4, 5, 6, 7] [] [8] 57 (fun _ _ _ => True) (fun _ _ => True) (by kernel_rfl) (by kernel_rfl) rfl (fun i v W W' h hb => h) ?_
    apply Exists.intro
    refine ⟨fun V hV => ?_, trivial, ?_⟩
    · have x1 := (J2.out.bel hV).atL X1.out
      have kl := (J2.out.bel hV).lt
      have L1 := kp (fun x => ld_all (P := Try.prog) b11 2 71 71 D _ Try.underlying71 rfl info_num hDl ((J11.out.bel hV).bel (ext_below V x)))
      simp only [List.append_eq, List.cons_append, List.nil_append, List.map_cons, List.map_nil, List.getD_cons_succ, List.getD_cons_zero]
      repeat (first
        | (go_big_quiet_want; refine quiet_load _ rfl 71 _ rfl rfl (fun w hw => by obtain ⟨x, rfl⟩ := hw; exact L1.out x) ?_; go_simp; go_big_quiet_on)
        | go_big_quiet_step (first | (go_at_call 33; with_reducible exact Calls.ext_of (c3.out _)) | (go_at_call 34; with_reducible exact Calls.ext_of (cB.out _))))
      exact wpQuiet_nil rfl
    simp only [List.append_eq, List.cons_append, List.nil_append, List.map_cons, List.map_nil, List.getD_cons_succ, List.getD_cons_zero, TailX]
    rintro V hV hT
    have K11 := kp (J11.out.bel hV)
    have KB := kp (bt' JB.out hV JB.out.size)
    clear hV hT
    have SC := sc_all (P := Try.prog) (w := V) b11 71 E D K11.out (by rw [hEl, hDl]) HE1.out
    have HX := kp (K11.out.row E.toArray)
    have HBX := kp (bsr KB.out hle KB.out.size E.toArray)
    generalize V.setRow b11 E.toArray = U2 at SC HX HBX
    have LC := ld_all (P := Try.prog) b11 2 71 71 E _ Try.underlying71 rfl info_num hEl HX.out
    go_wp2_with (first | (refine wpL_load rfl 71 _ rfl rfl LC ?_) | (go_at_call 30; refine (cI.out _).mono ?_; rintro e w5 ⟨rfl, hb5⟩))
    go_ret2
    exact ⟨rfl, bt' HBX.out hb5 HBX.out.size⟩
end Go.Proofs.Ytkknnnkbegigeaa
/- volley.Within. -/
namespace Go.Proofs.Ytkknnnkbegigeaa
open Go Go.RowKit
set_option linter.unusedVariables false
set_option linter.unusedSimpArgs false
attribute [local go_sem] bmax2 bmin2 bmax bmin cell_ext frozen_ext

/-- a sample's cells -/
def smC (o d b : Int) : List Value := [.int .i64 o, .int .i64 d, .int .i64 b]
theorem smC_len (o d b : Int) : (smC o d b).length = 3 := rfl
theorem info_sm : (Try.prog.info? 23).map (·.size) = some 3 := by kernel_rfl
/-- what Within answers -/
def withinB (o1 b1 o2 b2 : Int) : Bool := decide (max (o1 - b1) (o2 - b2) ≤ min (o1 + b1) (o2 + b2))
theorem cmpI_pos (a b : Int) : 0 < cmpI a b ↔ b < a := by unfold cmpI; split; omega; split <;> omega
theorem cmpI_neg (a b : Int) : cmpI a b < 0 ↔ a < b := by unfold cmpI; split; omega; split <;> omega
theorem cmpI_le (a b : Int) : cmpI a b ≤ 0 ↔ a ≤ b := by unfold cmpI; split; omega; split <;> omega
theorem in128_64 {a b : Int} (ha : In64 a) (hb : In64 b) : In128 (a + b) ∧ In128 (a - b) := by unfold In64 at ha hb; unfold In128; omega
set_option maxHeartbeats 2000000 in
set_option maxRecDepth 100000 in
theorem V_Within (o1 d1 b1 o2 d2 b2 : Int) (h1 : In64 o1) (h2 : In64 b1) (h3 : In64 o2) (h4 : In64 b2) (w : World) : Calls Try.prog 14 #[.agg (smC o1 d1 b1).toArray, .agg (smC o2 d2 b2).toArray] w fun e w' => e = .returned (.bool (withinB o1 b1 o2 b2)) ∧ Below w.heap.size w w' := by
  have c1 := kp (fun w' => V_far_down o1 b1 h1 h2 w')
  have c2 := kp (fun w' => V_far_up o1 b1 h1 h2 w')
  have c3 := kp (fun w' => V_far_down o2 b2 h3 h4 w')
  have c4 := kp (fun w' => V_far_up o2 b2 h3 h4 w')
  have i1 := (in128_64 h1 h2).2
  have i2 := (in128_64 h1 h2).1
  have i3 := (in128_64 h3 h4).2
  have i4 := (in128_64 h3 h4).1
  clear h1 h2 h3 h4
  have hR : withinB o1 b1 o2 b2 = decide (cmpI (max (o1 - b1) (o2 - b2)) (min (o1 + b1) (o2 + b2)) ≤ 0) := by unfold withinB; exact decide_eq_decide.2 (cmpI_le _ _).symm
  rw [hR]
  clear hR
  have H2 := kp ((Blk.new w 23 (smC o1 d1 b1).toArray).alloc (.cells (smC o2 d2 b2).toArray 23))
  have H3 := kp (Blk.new (w.alloc (.cells (smC o1 d1 b1).toArray 23)) 23 (smC o2 d2 b2).toArray)
  have HB := kp (ba (ba (Below.refl w.heap.size w) (.cells (smC o1 d1 b1).toArray 23)) (.cells (smC o2 d2 b2).toArray 23))
  rw [size_all] at H3
  have X0 : Kp ((smC o1 d1 b1)[0]? = some (.int .i64 o1)) := kp rfl
  have X2 : Kp ((smC o1 d1 b1)[2]? = some (.int .i64 b1)) := kp rfl
  have Y0 : Kp ((smC o2 d2 b2)[0]? = some (.int .i64 o2)) := kp rfl
  have Y2 : Kp ((smC o2 d2 b2)[2]? = some (.int .i64 b2)) := kp rfl
  generalize smC o1 d1 b1 = S at *
  generalize smC o2 d2 b2 = T at *
  generalize o1 - b1 = lo at *
  generalize o1 + b1 = hi at *
  generalize o2 - b2 = fr at *
  generalize o2 + b2 = tt at *
  have k1 := kp (fun w' => W_Cmp fr lo i3 i1 w')
  have k2 := kp (fun w' => W_Cmp tt hi i4 i2 w')
  have j1 : In128 (max lo fr) := by unfold In128 at *; omega
  have j2 : In128 (min hi tt) := by unfold In128 at *; omega
  have k3 := kp (fun w' => W_Cmp (max lo fr) (min hi tt) j1 j2 w')
  have hCl := numC_length lo
  have HC1 := kp (numC_one lo)
  have hDl := numC_length hi
  have HD1 := kp (numC_one hi)
  have hEl := numC_length fr
  have HE1 := kp (numC_one fr)
  have hFl := numC_length tt
  have HF1 := kp (numC_one tt)
  have hp1 := cmpI_pos fr lo
  have hp2 := cmpI_neg tt hi
  generalize cmpI fr lo = p1 at *
  generalize cmpI tt hi = p2 at *
  generalize cmpI (max lo fr) (min hi tt) = p3 at *
  clear j1 j2 i1 i2 i3 i4
  have q1 : Kp (if 0 < p1 then numC (max lo fr) = numC fr else numC (max lo fr) = numC lo) := by
    refine kp ?_
    split
    · rw [show max lo fr = fr by omega]
    · rw [show max lo fr = lo by omega]
  have q2 : Kp (if p2 < 0 then numC (min hi tt) = numC tt else numC (min hi tt) = numC hi) := by
    refine kp ?_
    split
    · rw [show min hi tt = tt by omega]
    · rw [show min hi tt = hi by omega]
  clear hp1 hp2
  generalize numC (max lo fr) = M at *
  generalize numC (min hi tt) = N at *
  generalize numC lo = C at *
  generalize numC hi = D at *
  generalize numC fr = E at *
  generalize numC tt = F at *
  go_enter Try.func14, Try.ntmps14
  go_upto_region 1 with (fail)
  change Code.wp _ _ _ _ ((w.alloc (.cells S.toArray 23)).alloc (.cells T.toArray 23))
  generalize (w.alloc (.cells S.toArray 23)).alloc (.cells T.toArray 23) = W at H2 H3 HB ⊢
  go_upto_region 2 with (fail)
  refine wp_region_mkE [0, 1, 2, 3, 4, 5, 6, 7, 8, 9, 10, 11] [12, 13] [14, 15] 48 (fun _ => VA W.heap.size 71 #[.int .i64 0, .int .u64 0]) (· ≠ ·) (by kernel_rfl) (by kernel_rfl) rfl (fun i v W W' h hb => h.mono hb) ?_
  apply Exists.intro
  refine ⟨fun V hV => ?_, ?_, ?_⟩
  · have x0 := (H2.out.bel hV).atL X0.out
    have x2 := (H2.out.bel hV).atL X2.out
    have kl := (H2.out.bel hV).lt
    simp only [List.append_eq, List.cons_append, List.nil_append, List.map_cons, List.map_nil, List.getD_cons_succ, List.getD_cons_zero]
    repeat (go_big_quiet_step (first | (go_at_call 46; with_reducible exact Calls.ext_of (c1.out _)) | (go_at_call 46; with_reducible exact Calls.ext_of (c2.out _))))
    exact wpQuiet_nil rfl
  · exact ⟨mk_alloc rfl (fun W => by kernel_rfl) (fun j u W h => h.ne), mk_alloc rfl (fun W => by kernel_rfl) (fun j u W h => h.ne), trivial⟩
  simp only [List.append_eq, List.cons_append, List.nil_append, List.map_cons, List.map_nil, List.getD_cons_succ, List.getD_cons_zero, TailX]
  rintro ev hev fv hfv V hV ⟨⟨_, b6, rfl, hb6, kb6⟩, b7, rfl, hb7, kb7⟩
  have hne : b6 ≠ b7 := by intro e; exact hfv (.pointer (some ⟨b6, 0, none⟩)) (by simp) (by rw [e])
  have SC := sc_all (P := Try.prog) (w := V) b6 71 C [.int .i64 0, .int .u64 0] kb6 (by rw [hCl]; rfl) HC1.out
  have Jb6 := kp ((kb6.row C.toArray).rowfar hne D.toArray)
  have SD := sc_all (P := Try.prog) (w := V.setRow b6 C.toArray) b7 71 D [.int .i64 0, .int .u64 0] (kb7.rowfar (Ne.symm hne) C.toArray) (by rw [hDl]; rfl) HD1.out
  have Jb7 := kp ((kb7.rowfar (Ne.symm hne) C.toArray).row D.toArray)
  have H3 := kp (((H3.out.bel hV).rowfar (b := b6) (by have := H3.out.lt; omega) C.toArray).rowfar (b := b7) (by have := H3.out.lt; omega) D.toArray)
  have hbx := bt' HB.out hV HB.out.size
  have hl6 : w.heap.size ≤ b6 := Nat.le_trans HB.out.size hb6
  have hl7 : w.heap.size ≤ b7 := Nat.le_trans HB.out.size hb7
  have hbz := bsr hbx hl6 hbx.size C.toArray
  have HB := kp (bsr hbz hl7 hbz.size D.toArray)
  clear hbx hbz kb6 kb7 hb6 hb7 hV
  generalize hU : (V.setRow b6 C.toArray).setRow b7 D.toArray = U at SD Jb6 Jb7 HB H3
  go_upto_region 3 with (fail)
  clear SC SD hU hev hfv H2
  refine wp_region_mkE [0, 1, 2, 3, 4, 5, 6, 7, 8, 9, 10, 11] [12, 13] [14, 15] 48 (fun _ => VA U.heap.size 71 #[.int .i64 0, .int .u64 0]) (· ≠ ·) (by kernel_rfl) (by kernel_rfl) rfl (fun i v W W' h hb => h.mono hb) ?_
  apply Exists.intro
  refine ⟨fun V hV => ?_, ?_, ?_⟩
  · have x0 := (H3.out.bel hV).atL Y0.out
    have x2 := (H3.out.bel hV).atL Y2.out
    have kl := (H3.out.bel hV).lt
    simp only [List.append_eq, List.cons_append, List.nil_append, List.map_cons, List.map_nil, List.getD_cons_succ, List.getD_cons_zero]
    repeat (go_big_quiet_step (first | (go_at_call 46; with_reducible exact Calls.ext_of (c3.out _)) | (go_at_call 46; with_reducible exact Calls.ext_of (c4.out _))))
    exact wpQuiet_nil rfl
  · exact ⟨mk_alloc rfl (fun W => by kernel_rfl) (fun j u W h => h.ne), mk_alloc rfl (fun W => by kernel_rfl) (fun j u W h => h.ne), trivial⟩
  simp only [List.append_eq, List.cons_append, List.nil_append, List.map_cons, List.map_nil, List.getD_cons_succ, List.getD_cons_zero, TailX]
  rintro ev hev fv hfv V hV ⟨⟨_, b8, rfl, hb8, kb8⟩, b9, rfl, hb9, kb9⟩
  have hne2 : b8 ≠ b9 := by intro e; exact hfv (.pointer (some ⟨b8, 0, none⟩)) (by simp) (by rw [e])
  have f6 := Nat.ne_of_lt (Nat.lt_of_lt_of_le Jb6.out.lt hb8)
  have f6b := Nat.ne_of_lt (Nat.lt_of_lt_of_le Jb6.out.lt hb9)
  have f7 := Nat.ne_of_lt (Nat.lt_of_lt_of_le Jb7.out.lt hb8)
  have f7b := Nat.ne_of_lt (Nat.lt_of_lt_of_le Jb7.out.lt hb9)
  have SC := sc_all (P := Try.prog) (w := V) b8 71 E [.int .i64 0, .int .u64 0] kb8 (by rw [hEl]; rfl) HE1.out
  have Jb8 := kp ((kb8.row E.toArray).rowfar hne2 F.toArray)
  have SD := sc_all (P := Try.prog) (w := V.setRow b8 E.toArray) b9 71 F [.int .i64 0, .int .u64 0] (kb9.rowfar (Ne.symm hne2) E.toArray) (by rw [hFl]; rfl) HF1.out
  have Jb9 := kp ((kb9.rowfar (Ne.symm hne2) E.toArray).row F.toArray)
  have Jb6 := kp (((Jb6.out.bel hV).rowfar (b := b8) (by have := Jb6.out.lt; omega) E.toArray).rowfar (b := b9) (by have := Jb6.out.lt; omega) F.toArray)
  have Jb7 := kp (((Jb7.out.bel hV).rowfar (b := b8) (by have := Jb7.out.lt; omega) E.toArray).rowfar (b := b9) (by have := Jb7.out.lt; omega) F.toArray)
  have hbx := bt' HB.out hV HB.out.size
  have hlx : w.heap.size ≤ b8 := Nat.le_trans HB.out.size hb8
  have hly : w.heap.size ≤ b9 := Nat.le_trans HB.out.size hb9
  have hbz := bsr hbx hlx hbx.size E.toArray
  have HB := kp (bsr hbz hly hbz.size F.toArray)
  clear hbx hbz kb8 kb9 hb8 hb9 hV
  generalize hU : (V.setRow b8 E.toArray).setRow b9 F.toArray = Z at SD Jb8 Jb9 HB Jb6 Jb7
  go_upto_region 4 with (fail)
  clear SC SD hU hev hfv H3 c1 c2 c3 c4
  by_cases hp : 0 < p1
  · by_cases hq : p2 < 0
    · have q1 := q1.out
      rw [if_pos hp] at q1
      have q2 := q2.out
      rw [if_pos hq] at q2
      have gp := decide_eq_true hp
      have gq := decide_eq_true hq
      rw [q1, q2] at k3
      have L6 := ld_all (P := Try.prog) b6 2 71 71 C _ Try.underlying71 rfl info_num hCl Jb6.out
      have L8 := ld_all (P := Try.prog) b8 2 71 71 E _ Try.underlying71 rfl info_num hEl Jb8.out
      go_upto_region 6 with (first | (refine wpL_load rfl 71 _ rfl rfl M8 ?_) | (refine wpL_load rfl 71 _ rfl rfl L8 ?_) | (refine wpL_load rfl 71 _ rfl rfl L6 ?_) | (go_at_call 47; refine (k1.out _).mono ?_; rintro e w1 ⟨rfl, hb1⟩; have M8 := ld_all (P := Try.prog) b8 2 71 71 E _ Try.underlying71 rfl info_num hEl (Jb8.out.bel hb1); have SC := sc_all (P := Try.prog) (w := w1) b6 71 E C (Jb6.out.bel hb1) (by rw [hEl, hCl]) HE1.out))
      have J6 := kp ((Jb6.out.bel hb1).row E.toArray)
      have J7 := kp ((Jb7.out.bel hb1).rowfar (Ne.symm hne) E.toArray)
      have J9 := kp ((Jb9.out.bel hb1).rowfar (Ne.symm f6b) E.toArray)
      have hbq := bt' HB.out hb1 HB.out.size
      have HC := kp (bsr hbq hl6 hbq.size E.toArray)
      clear hbq hb1 L6 L8 M8 SC
      generalize w1.setRow b6 E.toArray = Y at J6 J7 J9 HC ⊢
      have L7 := ld_all (P := Try.prog) b7 2 71 71 D _ Try.underlying71 rfl info_num hDl J7.out
      have L9 := ld_all (P := Try.prog) b9 2 71 71 F _ Try.underlying71 rfl info_num hFl J9.out
      go_upto_region 8 with (first | (refine wpL_load rfl 71 _ rfl rfl M9 ?_) | (refine wpL_load rfl 71 _ rfl rfl L9 ?_) | (refine wpL_load rfl 71 _ rfl rfl L7 ?_) | (go_at_call 47; refine (k2.out _).mono ?_; rintro e w2 ⟨rfl, hb2⟩; have M9 := ld_all (P := Try.prog) b9 2 71 71 F _ Try.underlying71 rfl info_num hFl (J9.out.bel hb2); have SC := sc_all (P := Try.prog) (w := w2) b7 71 F D (J7.out.bel hb2) (by rw [hFl, hDl]) HF1.out))
      have G7 := kp ((J7.out.bel hb2).row F.toArray)
      have G6 := kp ((J6.out.bel hb2).rowfar hne F.toArray)
      have hbq := bt' HC.out hb2 HC.out.size
      have HD := kp (bsr hbq hl7 hbq.size F.toArray)
      clear hbq hb2 L7 L9 M9 SC
      generalize w2.setRow b7 F.toArray = X at G6 G7 HD ⊢
      have L6 := ld_all (P := Try.prog) b6 2 71 71 E _ Try.underlying71 rfl info_num hEl G6.out
      have L7 := ld_all (P := Try.prog) b7 2 71 71 F _ Try.underlying71 rfl info_num hFl G7.out
      go_wp2_with (first | (refine wpL_load rfl 71 _ rfl rfl L6 ?_) | (refine wpL_load rfl 71 _ rfl rfl L7 ?_) | (go_at_call 47; refine (k3.out _).mono ?_; rintro e w3 ⟨rfl, hb3⟩))
      go_ret
      exact ⟨rfl, bt' HD.out hb3 HD.out.size⟩
    · have q1 := q1.out
      rw [if_pos hp] at q1
      have q2 := q2.out
      rw [if_neg hq] at q2
      have gp := decide_eq_true hp
      have gq := decide_eq_false hq
      rw [q1, q2] at k3
      have L6 := ld_all (P := Try.prog) b6 2 71 71 C _ Try.underlying71 rfl info_num hCl Jb6.out
      have L8 := ld_all (P := Try.prog) b8 2 71 71 E _ Try.underlying71 rfl info_num hEl Jb8.out
      go_upto_region 6 with (first | (refine wpL_load rfl 71 _ rfl rfl M8 ?_) | (refine wpL_load rfl 71 _ rfl rfl L8 ?_) | (refine wpL_load rfl 71 _ rfl rfl L6 ?_) | (go_at_call 47; refine (k1.out _).mono ?_; rintro e w1 ⟨rfl, hb1⟩; have M8 := ld_all (P := Try.prog) b8 2 71 71 E _ Try.underlying71 rfl info_num hEl (Jb8.out.bel hb1); have SC := sc_all (P := Try.prog) (w := w1) b6 71 E C (Jb6.out.bel hb1) (by rw [hEl, hCl]) HE1.out))
      have J6 := kp ((Jb6.out.bel hb1).row E.toArray)
      have J7 := kp ((Jb7.out.bel hb1).rowfar (Ne.symm hne) E.toArray)
      have J9 := kp ((Jb9.out.bel hb1).rowfar (Ne.symm f6b) E.toArray)
      have hbq := bt' HB.out hb1 HB.out.size
      have HC := kp (bsr hbq hl6 hbq.size E.toArray)
      clear hbq hb1 L6 L8 M8 SC
      generalize w1.setRow b6 E.toArray = Y at J6 J7 J9 HC ⊢
      have L7 := ld_all (P := Try.prog) b7 2 71 71 D _ Try.underlying71 rfl info_num hDl J7.out
      have L9 := ld_all (P := Try.prog) b9 2 71 71 F _ Try.underlying71 rfl info_num hFl J9.out
      go_upto_region 8 with (first | (refine wpL_load rfl 71 _ rfl rfl L9 ?_) | (refine wpL_load rfl 71 _ rfl rfl L7 ?_) | (go_at_call 47; refine (k2.out _).mono ?_; rintro e w2 ⟨rfl, hb2⟩))
      have G7 := kp (J7.out.bel hb2)
      have G6 := kp (J6.out.bel hb2)
      have HD := kp (bt' HC.out hb2 HC.out.size)
      clear hb2 L7 L9
      generalize w2 = X at G6 G7 HD ⊢
      have L6 := ld_all (P := Try.prog) b6 2 71 71 E _ Try.underlying71 rfl info_num hEl G6.out
      have L7 := ld_all (P := Try.prog) b7 2 71 71 D _ Try.underlying71 rfl info_num hDl G7.out
      go_wp2_with (first | (refine wpL_load rfl 71 _ rfl rfl L6 ?_) | (refine wpL_load rfl 71 _ rfl rfl L7 ?_) | (go_at_call 47; refine (k3.out _).mono ?_; rintro e w3 ⟨rfl, hb3⟩))
      go_ret
      exact ⟨rfl, bt' HD.out hb3 HD.out.size⟩
  · by_cases hq : p2 < 0
    · have q1 := q1.out
      rw [if_neg hp] at q1
      have q2 := q2.out
      rw [if_pos hq] at q2
      have gp := decide_eq_false hp
      have gq := decide_eq_true hq
      rw [q1, q2] at k3
      have L6 := ld_all (P := Try.prog) b6 2 71 71 C _ Try.underlying71 rfl info_num hCl Jb6.out
      have L8 := ld_all (P := Try.prog) b8 2 71 71 E _ Try.underlying71 rfl info_num hEl Jb8.out
      go_upto_region 6 with (first | (refine wpL_load rfl 71 _ rfl rfl L8 ?_) | (refine wpL_load rfl 71 _ rfl rfl L6 ?_) | (go_at_call 47; refine (k1.out _).mono ?_; rintro e w1 ⟨rfl, hb1⟩))
      have J6 := kp (Jb6.out.bel hb1)
      have J7 := kp (Jb7.out.bel hb1)
      have J9 := kp (Jb9.out.bel hb1)
      have HC := kp (bt' HB.out hb1 HB.out.size)
      clear hb1 L6 L8
      generalize w1 = Y at J6 J7 J9 HC ⊢
      have L7 := ld_all (P := Try.prog) b7 2 71 71 D _ Try.underlying71 rfl info_num hDl J7.out
      have L9 := ld_all (P := Try.prog) b9 2 71 71 F _ Try.underlying71 rfl info_num hFl J9.out
      go_upto_region 8 with (first | (refine wpL_load rfl 71 _ rfl rfl M9 ?_) | (refine wpL_load rfl 71 _ rfl rfl L9 ?_) | (refine wpL_load rfl 71 _ rfl rfl L7 ?_) | (go_at_call 47; refine (k2.out _).mono ?_; rintro e w2 ⟨rfl, hb2⟩; have M9 := ld_all (P := Try.prog) b9 2 71 71 F _ Try.underlying71 rfl info_num hFl (J9.out.bel hb2); have SC := sc_all (P := Try.prog) (w := w2) b7 71 F D (J7.out.bel hb2) (by rw [hFl, hDl]) HF1.out))
      have G7 := kp ((J7.out.bel hb2).row F.toArray)
      have G6 := kp ((J6.out.bel hb2).rowfar hne F.toArray)
      have hbq := bt' HC.out hb2 HC.out.size
      have HD := kp (bsr hbq hl7 hbq.size F.toArray)
      clear hbq hb2 L7 L9 M9 SC
      generalize w2.setRow b7 F.toArray = X at G6 G7 HD ⊢
      have L6 := ld_all (P := Try.prog) b6 2 71 71 C _ Try.underlying71 rfl info_num hCl G6.out
      have L7 := ld_all (P := Try.prog) b7 2 71 71 F _ Try.underlying71 rfl info_num hFl G7.out
      go_wp2_with (first | (refine wpL_load rfl 71 _ rfl rfl L6 ?_) | (refine wpL_load rfl 71 _ rfl rfl L7 ?_) | (go_at_call 47; refine (k3.out _).mono ?_; rintro e w3 ⟨rfl, hb3⟩))
      go_ret
      exact ⟨rfl, bt' HD.out hb3 HD.out.size⟩
    · have q1 := q1.out
      rw [if_neg hp] at q1
      have q2 := q2.out
      rw [if_neg hq] at q2
      have gp := decide_eq_false hp
      have gq := decide_eq_false hq
      rw [q1, q2] at k3
      have L6 := ld_all (P := Try.prog) b6 2 71 71 C _ Try.underlying71 rfl info_num hCl Jb6.out
      have L8 := ld_all (P := Try.prog) b8 2 71 71 E _ Try.underlying71 rfl info_num hEl Jb8.out
      go_upto_region 6 with (first | (refine wpL_load rfl 71 _ rfl rfl L8 ?_) | (refine wpL_load rfl 71 _ rfl rfl L6 ?_) | (go_at_call 47; refine (k1.out _).mono ?_; rintro e w1 ⟨rfl, hb1⟩))
      have J6 := kp (Jb6.out.bel hb1)
      have J7 := kp (Jb7.out.bel hb1)
      have J9 := kp (Jb9.out.bel hb1)
      have HC := kp (bt' HB.out hb1 HB.out.size)
      clear hb1 L6 L8
      generalize w1 = Y at J6 J7 J9 HC ⊢
      have L7 := ld_all (P := Try.prog) b7 2 71 71 D _ Try.underlying71 rfl info_num hDl J7.out
      have L9 := ld_all (P := Try.prog) b9 2 71 71 F _ Try.underlying71 rfl info_num hFl J9.out
      go_upto_region 8 with (first | (refine wpL_load rfl 71 _ rfl rfl L9 ?_) | (refine wpL_load rfl 71 _ rfl rfl L7 ?_) | (go_at_call 47; refine (k2.out _).mono ?_; rintro e w2 ⟨rfl, hb2⟩))
      have G7 := kp (J7.out.bel hb2)
      have G6 := kp (J6.out.bel hb2)
      have HD := kp (bt' HC.out hb2 HC.out.size)
      clear hb2 L7 L9
      generalize w2 = X at G6 G7 HD ⊢
      have L6 := ld_all (P := Try.prog) b6 2 71 71 C _ Try.underlying71 rfl info_num hCl G6.out
      have L7 := ld_all (P := Try.prog) b7 2 71 71 D _ Try.underlying71 rfl info_num hDl G7.out
      go_wp2_with (first | (refine wpL_load rfl 71 _ rfl rfl L6 ?_) | (refine wpL_load rfl 71 _ rfl rfl L7 ?_) | (go_at_call 47; refine (k3.out _).mono ?_; rintro e w3 ⟨rfl, hb3⟩))
      go_ret
      exact ⟨rfl, bt' HD.out hb3 HD.out.size⟩
end Go.Proofs.Ytkknnnkbegigeaa
/- a drawing region with makers, one of which may want another one's value. -/
namespace Go.Proofs.Ytkknnnkbegigeaa
open Go Go.RowKit
set_option linter.unusedVariables false
set_option linter.unusedSimpArgs false
section
variable {P : Program} {ops : Array Oper} {md : Region.Mode}

/-- the closed fact: 'h' in the order of the text, 'k' makers; D: (i, j): maker i wants maker j's value -/
def Region.mkC (md : Region.Mode) (ops : Array Oper) (D : List (Nat × Nat)) (h k : List Nat) : Bool :=
  (((List.range h.length).all fun p => ((ops.getD (h.getD p 0) default).looksAt ops).all fun s =>
      ((List.range h.length).all fun q => (ops.getD (h.getD q 0) default).dst != some s || (if q < p then Region.waitsFor md ops (h.getD p 0) (h.getD q 0) else q == p || Region.waitsFor md ops (h.getD q 0) (h.getD p 0))) &&
      (k.all fun j => (ops.getD j default).dst != some s || Region.waitsFor md ops j (h.getD p 0))) &&
  (k.all fun i => ((ops.getD i default).looksAt ops).all fun s =>
      ((List.range h.length).all fun q => (ops.getD (h.getD q 0) default).dst != some s || Region.waitsFor md ops i (h.getD q 0)) && (k.all fun j => (ops.getD j default).dst != some s || D.contains (i, j)))) &&
  D.all fun x => Region.waitsFor md ops x.1 x.2
def MkAtC (P : Program) (ops : Array Oper) (D : List (Nat × Nat)) (k : List Nat) (i : Nat) (A : Act) (w : World) (V : Nat → Value → World → Prop) (N : Value → Value → Prop) : Prop :=
  ∀ (a' : Act) (W : World), Below w.heap.size w W →
    (∀ s ∈ (ops.getD i default).looksAt ops, (∀ j ∈ k, (i, j) ∈ D → (ops.getD j default).dst ≠ some s) → a'.tmps[s]? = A.tmps[s]?) →
    (∀ j ∈ k, (i, j) ∈ D → ∀ s, (ops.getD j default).dst = some s → ∃ u, a'.tmps[s]? = some u ∧ V j u W) →
    Region.wanted (ops.getD i default) (yielded ops a'.tmps) = true ∧ mkUpon P W (V i) (fun v => ∀ j u, V j u W → N v u ∧ N u v) ((execOp a'.eval (ops.getD i default)).run P W)
theorem MkAtC.plain {D : List (Nat × Nat)} {k : List Nat} {i : Nat} {A : Act} {w : World} {V : Nat → Value → World → Prop} {N : Value → Value → Prop} (hs : ∀ cs b, (ops.getD i default).op ≠ .select cs b) (hD : ∀ j, (i, j) ∉ D)
    (h : MkAt P ops (ops.getD i default) A w (V i) V N) : MkAtC P ops D k i A w V N := fun a' W hW hag _ => by
  obtain ⟨e1, e2⟩ := looks_same hs (fun s hs' => hag s hs' fun j _ hj => absurd hj (hD j))
  rw [e1, e2]
  exact ⟨h.1, h.2 W hW⟩
theorem MkAtC.one {D : List (Nat × Nat)} {k : List Nat} {i : Nat} {A : Act} {w : World} {V : Nat → Value → World → Prop} {N : Value → Value → Prop} (hs : ∀ cs b, (ops.getD i default).op ≠ .select cs b) (j d : Nat) (hj : j ∈ k) (hD : (i, j) ∈ D) (hd : (ops.getD j default).dst = some d) (hdl : d < A.tmps.size) (ho : ∀ j', (i, j') ∈ D → j' = j)
    (h : ∀ u W, Below w.heap.size w W → V j u W → Region.wanted (ops.getD i default) (yielded ops (A.put (some d) u).tmps) = true ∧ mkUpon P W (V i) (fun v => ∀ j u, V j u W → N v u ∧ N u v) ((execOp (A.put (some d) u).eval (ops.getD i default)).run P W)) : MkAtC P ops D k i A w V N := fun a' W hW hag hdp => by
  obtain ⟨u, hu, hV⟩ := hdp j hj hD d hd
  obtain ⟨e1, e2⟩ := looks_same (b := A.put (some d) u) hs (fun s hs' => by
    by_cases e : s = d
    · subst e
      rw [hu]
      simp [Act.put, hdl]
    · rw [hag s hs' fun j' _ hj' => by
        rw [ho j' hj', hd]
        intro h2
        injection h2 with h2
        exact e h2.symm]
      simp [Act.put, Array.getElem?_setIfInBounds, Ne.symm e])
  rw [e1, e2]
  exact h u W hW hV
/-- an extract, plain -/
def tailB (o : Oper) : Bool := match o.op with | .extract .. => o.guard == none | _ => false
theorem early_step {Q : Exit → Act → World → Prop} {o : Oper} {a : Act} {w : World} {rest : List Oper} (he : tailB o = true) (h : wpList P ops Q (o :: rest) a w) : ∃ v, Yields P ops o v a ∧ wpList P ops Q rest (a.put o.dst v) w := by
  unfold tailB at he
  cases ho : o.op <;> rw [ho] at he <;> first
    | (simp at he; done)
    | skip
  rename_i t ix
  have hg : o.guard = none := by simpa using he
  have hw : Region.wanted o (yielded ops a.tmps) = true := by simp [Region.wanted, hg]
  unfold wpList at h
  rw [if_pos hw] at h
  rcases h with h | ⟨h, _⟩
  · unfold Oper.wp execOp at h
    simp only [ho, Sem.run_pure, Sem.run_bind, Instr.extract] at h
    cases ht : a.eval t <;> rw [ht] at h <;> simp only [] at h <;> first
      | (simp [Result.andThen, Oper.upon] at h; done)
      | skip
    rename_i vs
    cases hx : vs[ix]? with
    | none => simp [hx, Result.andThen, Oper.upon] at h
    | some v =>
      refine ⟨v, Or.inl ⟨hw, fun w' => ?_⟩, ?_⟩
      · unfold execOp
        simp [ho, ht, Instr.extract, hx]
      · simpa [hx, Result.andThen, Oper.upon] using h
  · exfalso
    unfold Oper.asks execOp at h
    simp only [ho] at h
    have h1 := h.1
    unfold Instr.extract at h1
    have hn : ∀ e : Event, e ∉ (#[] : Array Event) := by simp
    cases ht : a.eval t <;> rw [ht] at h1
    case tuple vs =>
      simp only at h1
      cases hx : vs[ix]? <;> rw [hx] at h1 <;> exact hn _ h1
    all_goals exact hn _ h1
/-- The tail: one alone may come up each time, or an extract that may be taken first. -/
def Region.seqE (md : Region.Mode) (ops : Array Oper) : List Nat → Array Bool → Bool
  | [], listed => (Region.ready md ops listed).isEmpty
  | k :: t, listed => (decide (Region.ready md ops listed = [k]) || ((Region.ready md ops listed).contains k && tailB (ops.getD k default) && Region.freeE md ops k)) && Region.seqE md ops t (listed.setIfInBounds k true)
theorem wpAny_of_seqE {Q' : Exit → Act → World → Prop} (hsel : Region.noSelect ops = true) (hQ : ∀ c (a : Act) d v w, Q' (.panic c) (a.put d v) w → Q' (.panic c) a w) : ∀ (t : List Nat) (listed : Array Bool) (a : Act) (w : World), (∀ i ∈ t, i < ops.size) →
    Region.seqE md ops t listed = true → wpList P ops Q' (selOps ops t) a w → wpAny P md ops Q' t.length listed a w
  | [], _, _, _, _, hB, h => ⟨by simpa [Region.seqE] using hB, h⟩
  | k :: t, listed, a, w, hl, hB, h => by
    have h0 := getD_some (hl k (by simp))
    simp only [Region.seqE, Bool.and_eq_true, Bool.or_eq_true, decide_eq_true_eq] at hB
    rcases hB.1 with hr | ⟨⟨hr, ht⟩, hf⟩
    · refine ⟨fun h1 => (by rw [hr] at h1; cases h1), fun i hi => ?_⟩
      rw [hr] at hi
      have hik : i = k := by simpa using hi
      subst hik
      have hw : wpOp P ops Q' i (wpList P ops Q' (selOps ops t)) a w := by unfold wpOp; simp only [h0]; exact h
      exact wpOp_mono (fun a' w' h' => wpAny_of_seqE hsel hQ t _ a' w' (fun j hj => hl j (by simp [hj])) hB.2 h') hw
    · obtain ⟨v, hy, h2⟩ := early_step ht (show wpList P ops Q' (ops.getD k default :: selOps ops t) a w from h)
      exact wpAny_take h0 hsel (free_any (by simpa using hr) hf) hr (fun c a w => hQ c a _ v w) hy (wpAny_of_seqE hsel hQ t _ _ _ (fun j hj => hl j (by simp [hj])) hB.2 h2)
theorem wpAny_mkC {Q : Exit → Act → World → Prop} {a A : Act} {w : World} {E h k t : List Nat} {D : List (Nat × Nat)} {V : Nat → Value → World → Prop} {N : Value → Value → Prop} (hsel : Region.noSelect ops = true) (hnd : ((h ++ k) ++ t).Nodup)
    (hEh : ∀ e ∈ E, e ∈ h) (hEp : ∀ e ∈ E, earlyB (ops.getD e default).op = true) (hEf : ∀ e ∈ E, Region.freeE md ops e = true) (hQ : ∀ c (a : Act) d v w, Q (.panic c) (a.put d v) w → Q (.panic c) a w) (hs : Region.sinkE md ops E ((h ++ k) ++ t) (h ++ k).length = true) (hc : Region.chainI md ops ((h ++ k) ++ t) (h ++ k).length = true) (ht0 : 0 < t.length) (htop : Region.topB md ops (h ++ k) = true) (hin : ∀ x, x < ((h ++ k) ++ t).length → ((h ++ k) ++ t).getD x 0 < ops.size)
    (hmk : Region.mkC md ops D h k = true) (hdist : distB a.tmps.size (selOps ops (h ++ k)) = true) (hlex : LexX P ops w A (selOps ops h) a) (hk : ∀ i ∈ k, MkAtC P ops D k i A w V N)
    (hV : ∀ i v W W', V i v W → Below W.heap.size W W' → V i v W')
    (hL : ∀ listed a' W, HeadI md ops ((h ++ k) ++ t) (h ++ k).length listed → (∀ i ∈ h ++ k, listed.getD i true = true) → InvM ops a A w h k V N listed a' W → wpAny P md ops Q t.length listed a' W) :
    ∀ (f : Nat) (listed : Array Bool) (a' : Act) (W : World), unl (h ++ k) listed = f → HeadI md ops ((h ++ k) ++ t) (h ++ k).length listed → InvM ops a A w h k V N listed a' W → wpAny P md ops Q (f + t.length) listed a' W := by
  have hn : (h ++ k).length < ((h ++ k) ++ t).length := by rw [@List.length_append Nat (h ++ k) t]; omega
  have hord : ∀ x, x < (h ++ k).length → ((h ++ k) ++ t).getD x 0 = (h ++ k).getD x 0 := fun x hx => by
    rw [List.getD_eq_getElem?_getD, List.getElem?_append_left hx, ← List.getD_eq_getElem?_getD]
  have hin' : ∀ x, x < (h ++ k).length → (h ++ k).getD x 0 < ops.size := fun x hx => by rw [← hord x hx]; exact hin x (by omega)
  simp only [Region.mkC, Bool.and_eq_true] at hmk
  obtain ⟨⟨mk1, mk2⟩, mk3⟩ := hmk
  have hdh : distB a.tmps.size (selOps ops h) = true := by
    simp only [distB, Bool.and_eq_true, decide_eq_true_eq] at hdist ⊢
    unfold selOps at hdist ⊢
    rw [List.map_append, List.map_append, List.all_append, Bool.and_eq_true] at hdist
    exact ⟨hdist.1.1, (List.nodup_append.1 hdist.2).1⟩
  intro f
  induction f with
  | zero =>
    intro listed a' W hu inv iv
    rw [Nat.zero_add]
    exact hL listed a' W inv (unl_zero hu) iv
  | succ f ih =>
    intro listed a' W hu inv iv
    rw [show f + 1 + t.length = (f + t.length) + 1 by omega]
    obtain ⟨x, hx, hxu⟩ : ∃ x, x < (h ++ k).length ∧ listed.getD ((h ++ k).getD x 0) true = false := by
      have hne : ((h ++ k).filter fun i => !listed.getD i true) ≠ [] := fun e => by unfold unl at hu; rw [e] at hu; cases hu
      obtain ⟨y, hy⟩ := List.exists_mem_of_ne_nil _ hne
      rw [List.mem_filter] at hy
      obtain ⟨x, hx, he⟩ := List.mem_iff_getElem.1 hy.1
      exact ⟨x, hx, by rw [List.getD_eq_getElem?_getD, List.getElem?_eq_getElem hx]; simp only [Option.getD_some]; rw [he]; simpa using hy.2⟩
    obtain ⟨x0, hx0, hx0u, hx0r⟩ := ready_some htop hin' inv.size hx hxu
    have NEXT : ∀ i, i ∈ Region.ready md ops listed → i ∈ h ++ k → ∀ {d v W'}, (ops.getD i default).dst = some d → Below W.heap.size W W' → (i ∈ h → A.tmps[d]? = some v) → (i ∈ k → V i v W') → (i ∈ k → ∀ j u, V j u W → N v u ∧ N u v) → wpAny P md ops Q (f + t.length) (listed.setIfInBounds i true) (a'.put (some d) v) W' := by
      intro i hi him d v W' hd hW h1 h2 h3
      obtain ⟨hiu, oi, hoi, hdep⟩ := mem_ready.1 hi
      have hlt : i < ops.size := (Array.getElem?_eq_some_iff.1 hoi).1
      have ho : oi = ops.getD i default := by
        have := getD_some hlt
        rw [hoi] at this; exact Option.some.inj this
      subst ho
      obtain ⟨z, hz, hzi⟩ := inv.all i hlt hiu
      have hzn : z < (h ++ k).length := by
        rcases Nat.lt_or_ge z (h ++ k).length with h1 | h1
        · exact h1
        · exfalso
          obtain ⟨q, hq, hqi⟩ := List.mem_iff_getElem.1 him
          have e1 : ((h ++ k) ++ t).getD q 0 = i := by rw [hord q hq, List.getD_eq_getElem?_getD, List.getElem?_eq_getElem hq]; exact hqi
          have hq' : q < ((h ++ k) ++ t).length := by omega
          rw [List.getD_eq_getElem?_getD, List.getElem?_eq_getElem hz, Option.getD_some] at hzi
          rw [List.getD_eq_getElem?_getD, List.getElem?_eq_getElem hq', Option.getD_some] at e1
          have := (List.getElem_inj hnd).1 (hzi.trans e1.symm)
          omega

      refine ih _ _ _ ?_ ?_ (iv.step hdist hV him hiu hd hW h1 h2 h3)
      · have := unl_set (List.nodup_append.1 hnd).1 him hiu
        omega
      · have := inv.set hnd hz (hzi.symm ▸ hi) hzn
        rw [hzi] at this
        exact this
    have GET : ∀ i, i ∈ Region.ready md ops listed → i ∈ h → ∃ d v, (ops.getD i default).dst = some d ∧ A.tmps[d]? = some v ∧ ((Region.wanted (ops.getD i default) (yielded ops a'.tmps) = true ∧ YX P (ops.getD i default) a' w v) ∨ (Region.wanted (ops.getD i default) (yielded ops a'.tmps) = false ∧ v = undef)) := by
      intro i hi hih
      obtain ⟨hiu, oi, hoi, hdep⟩ := mem_ready.1 hi
      have hlt : i < ops.size := (Array.getElem?_eq_some_iff.1 hoi).1
      have ho : oi = ops.getD i default := by
        have := getD_some hlt
        rw [hoi] at this; exact Option.some.inj this
      subst ho
      obtain ⟨z, hz, hzi⟩ := inv.all i hlt hiu
      have listedOf : ∀ j, Region.waitsFor md ops i j = true → listed.getD j false = true := fun j hj => by
        obtain ⟨oj, hoj, e, he, hb, hon⟩ := Region.waitsFor_spec hj
        have : oj = ops.getD i default := Option.some.inj (hoj.symm.trans hoi)
        subst this
        rw [← hon]; exact hdep e he hb
      have unlistedOf : ∀ j, Region.waitsFor md ops j i = true → listed.getD j false = false := fun j hj => by
        obtain ⟨oj, hoj, e, he, hb, hon⟩ := Region.waitsFor_spec hj
        cases hl : listed.getD j false with
        | false => rfl
        | true =>
          have := inv.closed j oj hoj hl e he hb
          rw [hon, getD_both hiu] at this
          cases this
      obtain ⟨p, hp, hpi⟩ := List.mem_iff_getElem.1 hih
      have hpg : h.getD p 0 = i := by rw [List.getD_eq_getElem?_getD, List.getElem?_eq_getElem hp]; exact hpi
      have hag : ∀ s ∈ (ops.getD i default).looksAt ops, a'.tmps[s]? = if ∃ x ∈ (selOps ops h).take p, x.dst = some s then A.tmps[s]? else a.tmps[s]? := fun s hs' => by
        have m := List.all_eq_true.1 (List.all_eq_true.1 mk1 p (List.mem_range.2 hp)) s (by rw [hpg]; exact hs')
        rw [Bool.and_eq_true] at m
        split
        · rename_i hx
          obtain ⟨o, ho, hos⟩ := hx
          obtain ⟨q, hq, hqo⟩ := List.mem_iff_getElem.1 ho
          have hq1 : q < p := by rw [List.length_take] at hq; omega
          have hq2 : q < h.length := by omega
          have hoq : o = ops.getD (h.getD q 0) default := by
            rw [← hqo, List.getElem_take]
            unfold selOps
            rw [List.getElem_map, List.getD_eq_getElem?_getD, List.getElem?_eq_getElem hq2]; rfl
          have m1 := List.all_eq_true.1 m.1 q (List.mem_range.2 hq2)
          rw [← hoq, hos] at m1
          simp only [bne_self_eq_false, Bool.false_or, hq1, if_true, hpg] at m1
          exact iv.hv (h.getD q 0) (by rw [List.getD_eq_getElem?_getD, List.getElem?_eq_getElem hq2]; exact List.getElem_mem _) (listedOf _ m1) s (by rw [← hoq]; exact hos)
        · rename_i hx
          refine iv.old s fun j hj hjs => ?_
          rcases List.mem_append.1 hj with hj | hj
          · obtain ⟨q, hq, hqj⟩ := List.mem_iff_getElem.1 hj
            have hqg : h.getD q 0 = j := by rw [List.getD_eq_getElem?_getD, List.getElem?_eq_getElem hq]; exact hqj
            have m1 := List.all_eq_true.1 m.1 q (List.mem_range.2 hq)
            rw [hqg, hjs] at m1
            by_cases hqp : q < p
            · exfalso
              refine hx ⟨ops.getD j default, ?_, hjs⟩
              refine List.mem_iff_getElem.2 ⟨q, by unfold selOps; simp; omega, ?_⟩
              rw [List.getElem_take]
              unfold selOps
              rw [List.getElem_map, hqj]
            · simp only [bne_self_eq_false, Bool.false_or, hqp, if_false, Bool.or_eq_true, beq_iff_eq, hpg] at m1
              rcases m1 with e | m1
              · subst e
                have : j = i := by rw [← hqj, hpi]
                subst this; exact getD_both hiu
              · exact unlistedOf j m1
          · have m2 := List.all_eq_true.1 m.2 j hj
            rw [hjs, hpg] at m2
            simp only [bne_self_eq_false, Bool.false_or] at m2
            exact unlistedOf j m2
      exact LexX.get (selOps ops h) a hdh hlex p (ops.getD i default) (by unfold selOps; rw [List.getElem?_map, List.getElem?_eq_getElem hp, hpi]; rfl) (fun cs b => Region.noSelect_spec hsel i _ cs b hoi) a' hag
    by_cases hE : ∃ e ∈ E, e ∈ Region.ready md ops listed
    · obtain ⟨i, hiE, hi⟩ := hE
      have hih := hEh i hiE
      have him : i ∈ h ++ k := List.mem_append.2 (Or.inl hih)
      have hno : i ∈ k → False := fun hk' => by
        have := (List.nodup_append.1 (List.nodup_append.1 hnd).1).2.2 i hih i hk'
        exact this rfl
      obtain ⟨hiu, oi, hoi, hdep⟩ := mem_ready.1 hi
      have hlt : i < ops.size := (Array.getElem?_eq_some_iff.1 hoi).1
      obtain ⟨d, v, hd, hv, hcase⟩ := GET i hi hih
      have hy : Yields P ops (ops.getD i default) v a' := by
        rcases hcase with ⟨hw, hy⟩ | ⟨hw, rfl⟩
        · exact Or.inl ⟨hw, early_all (hEp i hiE) (hy w (Below.refl _ _))⟩
        · exact Or.inr ⟨hw, rfl⟩
      refine wpAny_take (getD_some hlt) hsel (free_any hi (hEf i hiE)) (by simpa using hi) (fun c a w => hQ c a _ v w) hy ?_
      rw [hd]
      exact NEXT i hi him hd (Below.refl _ _) (fun _ => hv) (fun hk' => (hno hk').elim) (fun hk' => (hno hk').elim)
    have hx0E : (h ++ k).getD x0 0 ∉ E := fun hh => hE ⟨_, hh, hx0r⟩
    refine ⟨fun h0 => (by rw [h0] at hx0r; cases hx0r), fun i hi => ?_⟩
    obtain ⟨hiu, oi, hoi, hdep⟩ := mem_ready.1 hi
    have hlt : i < ops.size := (Array.getElem?_eq_some_iff.1 hoi).1
    have ho : oi = ops.getD i default := by
      have := getD_some hlt
      rw [hoi] at this; exact Option.some.inj this
    subst ho
    obtain ⟨z, hz, hzi⟩ := inv.all i hlt hiu
    have hzn : z < (h ++ k).length := by
      rcases Nat.lt_or_ge z (h ++ k).length with h1 | h1
      · exact h1
      · exact absurd (hzi ▸ hi) (tail_waitsE hs hc hn inv _ x0 rfl hx0 (by rw [hord x0 hx0]; exact hx0E) (by rw [hord x0 hx0]; exact hx0u) z h1 hz)
    have him : i ∈ h ++ k := by
      rw [← hzi, hord z hzn, List.getD_eq_getElem?_getD, List.getElem?_eq_getElem hzn]
      exact List.getElem_mem _
    have listedOf : ∀ j, Region.waitsFor md ops i j = true → listed.getD j false = true := fun j hj => by
      obtain ⟨oj, hoj, e, he, hb, hon⟩ := Region.waitsFor_spec hj
      have : oj = ops.getD i default := Option.some.inj (hoj.symm.trans hoi)
      subst this
      rw [← hon]; exact hdep e he hb
    have unlistedOf : ∀ j, Region.waitsFor md ops j i = true → listed.getD j false = false := fun j hj => by
      obtain ⟨oj, hoj, e, he, hb, hon⟩ := Region.waitsFor_spec hj
      cases hl : listed.getD j false with
      | false => rfl
      | true =>
        have := inv.closed j oj hoj hl e he hb
        rw [hon, getD_both hiu] at this
        cases this
    have next := @NEXT i hi him
    unfold wpOp
    rw [hoi]
    simp only
    by_cases hih : i ∈ h
    · obtain ⟨d, v, hd, hv, hcase⟩ := GET i hi hih
      have hno : i ∈ k → False := fun hk' => by
        have := (List.nodup_append.1 (List.nodup_append.1 hnd).1).2.2 i hih i hk'
        exact this rfl
      rcases hcase with ⟨hw, hy⟩ | ⟨hw, rfl⟩
      · rw [if_pos hw]
        refine .inl (wp_of_YX hy iv.below fun W' hW' => ?_)
        rw [hd]
        exact next hd hW' (fun _ => hv) (fun hk' => (hno hk').elim) (fun hk' => (hno hk').elim)
      · rw [if_neg (by rw [hw]; simp), hd]
        exact next hd (Below.refl _ _) (fun _ => hv) (fun hk' => (hno hk').elim) (fun hk' => (hno hk').elim)
    · have hik : i ∈ k := (List.mem_append.1 him).resolve_left hih
      have hag : ∀ s ∈ (ops.getD i default).looksAt ops, (∀ j ∈ k, (i, j) ∈ D → (ops.getD j default).dst ≠ some s) → a'.tmps[s]? = A.tmps[s]? := fun s hs' hno => by
        have m := List.all_eq_true.1 (List.all_eq_true.1 mk2 i hik) s hs'
        rw [Bool.and_eq_true] at m
        by_cases hx : ∃ j ∈ h, (ops.getD j default).dst = some s
        · obtain ⟨j, hj, hjs⟩ := hx
          obtain ⟨q, hq, hqj⟩ := List.mem_iff_getElem.1 hj
          have hqg : h.getD q 0 = j := by rw [List.getD_eq_getElem?_getD, List.getElem?_eq_getElem hq]; exact hqj
          have m1 := List.all_eq_true.1 m.1 q (List.mem_range.2 hq)
          rw [hqg, hjs] at m1
          simp only [bne_self_eq_false, Bool.false_or] at m1
          exact iv.hv j hj (listedOf _ m1) s hjs
        · rw [lex_keeps (selOps ops h) a (fun o ho e => by
            unfold selOps at ho
            obtain ⟨j, hj, rfl⟩ := List.mem_map.1 ho
            exact hx ⟨j, hj, e⟩) hlex]
          refine iv.old s fun j hj hjs => ?_
          rcases List.mem_append.1 hj with hj | hj
          · exact absurd ⟨j, hj, hjs⟩ hx
          · have := List.all_eq_true.1 m.2 j hj
            rw [hjs] at this
            simp only [bne_self_eq_false, Bool.false_or, List.contains_eq_mem, decide_eq_true_eq] at this
            exact absurd hjs (hno j hj this)
      have hdp : ∀ j ∈ k, (i, j) ∈ D → ∀ s, (ops.getD j default).dst = some s → ∃ u, a'.tmps[s]? = some u ∧ V j u W := fun j hj hij s hs' => by
        have := List.all_eq_true.1 mk3 (i, j) hij
        exact iv.kv j hj (listedOf j this) s hs'
      obtain ⟨hw, hm⟩ := hk i hik a' W iv.below hag hdp
      obtain ⟨d, hd, _⟩ := (distB_get hdist).1 i him
      rw [if_pos hw]
      refine .inl (wp_of_mk (V := V i) hm fun v W' hW' hv hf => ?_)
      rw [hd]
      exact next hd hW' (fun hh => absurd hh hih) (fun _ => hv) (fun _ => hf)


/-- the closed fact of such a region -/
def Region.planC (md : Region.Mode) (ops : Array Oper) (n : Nat) (D : List (Nat × Nat)) (E h k t : List Nat) : Bool :=
  Region.noSelect ops && decide ((h ++ k) ++ t).Nodup && decide (0 < t.length) && Region.sinkE md ops E ((h ++ k) ++ t) (h ++ k).length && (E.all fun e => h.contains e && earlyB (ops.getD e default).op && Region.freeE md ops e) && Region.chainI md ops ((h ++ k) ++ t) (h ++ k).length &&
  Region.topB md ops (h ++ k) && (((h ++ k) ++ t).all fun i => decide (i < ops.size)) && Region.mkC md ops D h k && distB n (selOps ops (h ++ k)) &&
  ((List.range ops.size).all fun i => ((h ++ k) ++ t).contains i) && Region.seqE md ops t ((Array.range ops.size).map fun i => (h ++ k).contains i)

/-- **THE REGION**: 'h' in the order of the text, each of one value in whatever world comes, making new blocks alone; 'k' makers; 't' the tail in its one order. A: the act behind h. -/
theorem wp_region_chain {id : Nat} {Q : Exit → Act → World → Prop} {a : Act} {w : World} {l : List Oper} (D : List (Nat × Nat)) (E h k t : List Nat) (n : Nat) (V : Nat → Value → World → Prop) (N : Value → Value → Prop) (hm : P.follows .mixedOrders = true) (hB : Region.planC .any l.toArray n D E h k t = true) (hsz : a.tmps.size = n) (A : Act) (hQ : ∀ c (a : Act) d v w, Q (.panic c) (a.put d v) w → Q (.panic c) a w)
    (H : ∀ W, Below w.heap.size w W → wpQuiet P l.toArray (fun w' => ∃ x, w' = W.ext x) (· = A) (h.map (l.getD · default)) a)
    (hV : ∀ i v W W', V i v W → Below W.heap.size W W' → V i v W')
    (hk : ∀ i ∈ k, MkAtC P l.toArray D k i A w V N)
    (hT : TailX P l.toArray Q w (t.map (l.getD · default)) V N k [] (fun _ => True) A) :
    (Code.region id l.toArray true).wp P Q a w := by
  have esel : ∀ is, selOps l.toArray is = is.map (l.getD · default) := fun is => by
    unfold selOps
    apply List.map_congr_left
    intro i _
    simp [Array.getD, List.getD_eq_getElem?_getD]
    split <;> rename_i h
    · rw [List.getElem?_eq_getElem h]; rfl
    · rw [List.getElem?_eq_none (by omega)]; rfl
  simp only [Region.planC, Bool.and_eq_true, decide_eq_true_eq] at hB
  obtain ⟨⟨⟨⟨⟨⟨⟨⟨⟨⟨⟨hsel, hnd⟩, ht0⟩, hs⟩, hE⟩, hc⟩, htop⟩, hin⟩, hmk⟩, hdist⟩, hall⟩, hseq⟩ := hB
  subst hsz
  have hin' : ∀ x, x < ((h ++ k) ++ t).length → ((h ++ k) ++ t).getD x 0 < l.toArray.size := fun x hx => by
    have := List.all_eq_true.1 hin (((h ++ k) ++ t).getD x 0) (by rw [List.getD_eq_getElem?_getD, List.getElem?_eq_getElem hx]; exact List.getElem_mem _)
    simpa using this
  have hdh : distB a.tmps.size (selOps l.toArray h) = true := by
    have hdist' := hdist
    simp only [distB, Bool.and_eq_true, decide_eq_true_eq] at hdist' ⊢
    unfold selOps at hdist' ⊢
    rw [List.map_append, List.map_append, List.all_append, Bool.and_eq_true] at hdist'
    exact ⟨hdist'.1.1, (List.nodup_append.1 hdist'.2).1⟩
  have hlex : LexX P l.toArray w A (selOps l.toArray h) a := lex_of _ _ hdh fun W hW => by rw [esel]; exact H W hW
  obtain ⟨sz1, df1⟩ := lex_size _ _ hlex
  refine wp_region_any hm ?_
  have hsz0 : ∀ i, (Array.replicate l.toArray.size false).getD i false = false := fun i => getD_replicate_false _ _
  have hlen : unl (h ++ k) (Array.replicate l.toArray.size false) + t.length = l.toArray.size := by
    have h1 : unl (h ++ k) (Array.replicate l.toArray.size false) = (h ++ k).length := by
      unfold unl
      rw [List.filter_eq_self.2]
      intro i hi
      obtain ⟨x, hx, he⟩ := List.mem_iff_getElem.1 hi
      have := hin' x (by rw [@List.length_append Nat (h ++ k) t]; omega)
      rw [List.getD_eq_getElem?_getD, List.getElem?_append_left hx, List.getElem?_eq_getElem hx] at this
      simp only [Option.getD_some, he] at this
      have h2 : i < l.length := by simpa using this
      simp [h2]
    rw [h1, ← List.length_append]
    have h3 : ((h ++ k) ++ t).length ≤ (List.range l.toArray.size).length := nodup_le _ _ hnd fun i hi => by
      obtain ⟨x, hx, he⟩ := List.mem_iff_getElem.1 hi
      have := hin' x hx
      rw [List.getD_eq_getElem?_getD, List.getElem?_eq_getElem hx] at this
      simp only [Option.getD_some, he] at this
      exact List.mem_range.2 this
    have h4 : (List.range l.toArray.size).length ≤ ((h ++ k) ++ t).length := nodup_le _ _ List.nodup_range fun i hi => by
      have := List.all_eq_true.1 hall i hi
      simpa using this
    rw [List.length_range] at h3 h4
    omega
  have hFIN : ∀ (listed : Array Bool) (a' : Act) (W : World), HeadI .any l.toArray ((h ++ k) ++ t) (h ++ k).length listed → (∀ i ∈ h ++ k, listed.getD i true = true) → InvM l.toArray a A w h k V N listed a' W → wpAny P .any l.toArray Q t.length listed a' W := by
    intro listed a' W inv hl iv
    have hlist : listed = (Array.range l.toArray.size).map fun i => (h ++ k).contains i := by
      apply Array.ext
      · rw [inv.size]; simp
      · intro i h1 h2
        have hi : i < l.toArray.size := by rw [← inv.size]; exact h1
        simp only [Array.getElem_map, Array.getElem_range]
        by_cases hm : i ∈ h ++ k
        · have := hl i hm
          simp [h1] at this
          rw [this]
          symm
          simpa using hm
        · have hm' := List.all_eq_true.1 hall i (List.mem_range.2 hi)
          simp only [List.contains_eq_mem, decide_eq_true_eq] at hm'
          have ht' : i ∈ t := (List.mem_append.1 hm').resolve_left hm
          obtain ⟨y, hy, he⟩ := List.mem_iff_getElem.1 ht'
          have := inv.tail ((h ++ k).length + y) (by omega) (by rw [@List.length_append Nat (h ++ k) t]; omega)
          rw [List.getD_eq_getElem?_getD, List.getElem?_append_right (by omega), show (h ++ k).length + y - (h ++ k).length = y by omega, List.getElem?_eq_getElem hy] at this
          simp only [Option.getD_some, he] at this
          simp [h1] at this
          rw [this]
          symm
          simp only [List.contains_eq_mem, decide_eq_false_iff_not]
          exact hm
    have lst : ∀ i ∈ h ++ k, listed.getD i false = true := fun i hi => by
      have := hl i hi
      have hii := List.all_eq_true.1 hin i (by simp only [List.mem_append] at hi ⊢; exact Or.inl hi)
      have hii' : i < listed.size := by rw [inv.size]; simpa using hii
      simp [hii'] at this ⊢; exact this
    refine wpAny_of_seqE hsel hQ t listed a' W (fun i hi => ?_) (by rw [hlist]; exact hseq) ?_
    · have := List.all_eq_true.1 hin i (by simp [hi])
      simpa using this
    · rw [esel]
      refine tail_of iv.below k [] (fun _ => True) A (by rw [sz1, iv.size]) (by rw [df1, iv.defers]) (fun i hi => ?_) (fun s hs' => ?_) (List.nodup_append.1 (List.nodup_append.1 hnd).1).2.1 (fun x hx y hy hxy => iv.ap x hx y hy hxy (lst x (by simp [hx])) (lst y (by simp [hy]))) trivial hT
      · obtain ⟨d, hd, _⟩ := (distB_get hdist).1 i (by simp [hi])
        obtain ⟨v, e, hv⟩ := iv.kv i hi (by
          have := hl i (by simp [hi])
          have hii := List.all_eq_true.1 hin i (by simp [hi])
          have hii' : i < listed.size := by rw [inv.size]; simpa using hii
          simp [hii'] at this ⊢; exact this) d hd
        exact ⟨d, v, hd, e, hv, fun u hu => by cases hu⟩
      · by_cases hx : ∃ j ∈ h, (l.toArray.getD j default).dst = some s
        · obtain ⟨j, hj, hjs⟩ := hx
          refine iv.hv j hj ?_ s hjs
          have := hl j (by simp [hj])
          have hii := List.all_eq_true.1 hin j (by simp [hj])
          have hii' : j < listed.size := by rw [inv.size]; simpa using hii
          simp [hii'] at this ⊢; exact this
        · rw [lex_keeps (selOps l.toArray h) a (fun o ho e => by
            unfold selOps at ho
            obtain ⟨j, hj, rfl⟩ := List.mem_map.1 ho
            exact hx ⟨j, hj, e⟩) hlex]
          refine iv.old s fun j hj hjs => ?_
          rcases List.mem_append.1 hj with hj | hj
          · exact absurd ⟨j, hj, hjs⟩ hx
          · exact absurd hjs (hs' j hj)
  have hHD : HeadI .any l.toArray ((h ++ k) ++ t) (h ++ k).length (Array.replicate l.toArray.size false) := by
    refine ⟨by simp, fun j oj hj hl => ?_, fun i hi hl => ?_, fun y hy hyl => ?_, hin'⟩
    · rw [hsz0 j] at hl; cases hl
    · have := List.all_eq_true.1 hall i (List.mem_range.2 hi)
      simp only [List.contains_eq_mem, decide_eq_true_eq] at this
      obtain ⟨x, hx, he⟩ := List.mem_iff_getElem.1 this
      exact ⟨x, hx, by rw [List.getD_eq_getElem?_getD, List.getElem?_eq_getElem hx]; exact he⟩
    · have := hin' y hyl
      have h2 : ((h ++ k) ++ t).getD y 0 < l.length := by simpa using this
      exact getD_in (by simpa using h2) (hsz0 _)
  have hIV : InvM l.toArray a A w h k V N (Array.replicate l.toArray.size false) a w.drew := by
    exact ⟨(Below.refl w.heap.size w).drew, rfl, rfl, fun i hi hl => (by rw [hsz0 i] at hl; cases hl), fun i hi hl => (by rw [hsz0 i] at hl; cases hl), fun s _ => rfl, fun i hi j hj hij hl => (by rw [hsz0 i] at hl; cases hl)⟩
  have hE' : ∀ e ∈ E, e ∈ h ∧ earlyB (l.toArray.getD e default).op = true ∧ Region.freeE .any l.toArray e = true := fun e he => by
    have := List.all_eq_true.1 hE e he
    simp only [Bool.and_eq_true, List.contains_eq_mem, decide_eq_true_eq] at this
    exact ⟨this.1.1, this.1.2, this.2⟩
  have key := wpAny_mkC (Q := Q) (E := E) (A := A) (w := w) (h := h) (k := k) (V := V) hsel hnd (fun e he => (hE' e he).1) (fun e he => (hE' e he).2.1) (fun e he => (hE' e he).2.2) hQ hs hc ht0 htop hin' hmk hdist hlex hk hV hFIN _ (Array.replicate l.toArray.size false) a w.drew rfl hHD hIV
  rw [hlen] at key
  exact key
/-- .. in the form in which a walk finds A out: 'refine wp_region_chainE ..; apply Exists.intro; refine ⟨fun X hX => ?_, ?_, ?_⟩' -/
theorem wp_region_chainE {id : Nat} {Q : Exit → Act → World → Prop} {a : Act} {w : World} {l : List Oper} (D : List (Nat × Nat)) (E h k t : List Nat) (n : Nat) (V : Nat → Value → World → Prop) (N : Value → Value → Prop) (hm : P.follows .mixedOrders = true) (hB : Region.planC .any l.toArray n D E h k t = true) (hsz : a.tmps.size = n)
    (hV : ∀ i v W W', V i v W → Below W.heap.size W W' → V i v W')
    (H : ∃ A, (∀ W, Below w.heap.size w W → wpQuiet P l.toArray (fun w' => ∃ x, w' = W.ext x) (· = A) (h.map (l.getD · default)) a) ∧ (∀ i ∈ k, MkAtC P l.toArray D k i A w V N) ∧ TailX P l.toArray Q w (t.map (l.getD · default)) V N k [] (fun _ => True) A)
    (hQ : ∀ c (a : Act) d v w, Q (.panic c) (a.put d v) w → Q (.panic c) a w := by intro c a d v w h; cases d <;> exact h) :
    (Code.region id l.toArray true).wp P Q a w := by
  obtain ⟨A, h1, h2, h3⟩ := H
  exact wp_region_chain D E h k t n V N hm hB hsz A hQ h1 hV h2 h3
end
end Go.Proofs.Ytkknnnkbegigeaa
/- a drawing region, its loads first (under S); then two makers beside a third (a diamond); then a tail. -/
namespace Go.Proofs.Ytkknnnkbegigeaa
open Go Go.RowKit
set_option linter.unusedVariables false
set_option linter.unusedSimpArgs false
section
variable {P : Program} {ops : Array Oper} {md : Region.Mode} {Q : Exit → Act → World → Prop} {S : World → Prop}

theorem wpOp_val {i : Nat} {a : Act} {w W' : World} {v : Value} {K : Act → World → Prop} (hi : i < ops.size) (hg : (ops.getD i default).guard = none) (hr : (execOp a.eval (ops.getD i default)).run P w = .ok (.value v) W') (h : K (a.put (ops.getD i default).dst v) W') : wpOp P ops Q i K a w := by
  unfold wpOp
  simp only [getD_some hi]
  rw [if_pos (by unfold Region.wanted; rw [hg])]
  refine .inl ?_
  unfold Oper.wp
  rw [hr]
  exact h
theorem put_comm (a : Act) {d e : Nat} (u v : Value) (h : d ≠ e) : (a.put (some d) u).put (some e) v = (a.put (some e) v).put (some d) u := by
  simp only [Act.put]
  rw [Array.setIfInBounds_comm _ _ h]
theorem exec_put {o : Oper} (hs : ∀ cs b, o.op ≠ .select cs b) (a : Act) (d : Nat) (u : Value) (h : (o.looksAt ops).contains d = false) : execOp (a.put (some d) u).eval o = execOp a.eval o :=
  (looks_same hs fun s hs' => by
    have hne : s ≠ d := by
      intro e
      subst e
      rw [List.contains_eq_mem, decide_eq_false_iff_not] at h
      exact h hs'
    simp [Act.put, Array.getElem?_setIfInBounds, Ne.symm hne]).1
theorem takeFirst {i : Nat} {v : Value} {fuel : Nat} {listed : Array Bool} {a : Act} {w : World} (d : Nat) (z : i < ops.size) (hd : (ops.getD i default).dst = some d)
    (hs : Region.noSelect ops = true) (hf : Region.free md ops listed i = true) (hr : (Region.ready md ops listed).contains i = true)
    (hQ : ∀ c (a : Act) w, Q (.panic c) (a.put (some d) v) w → Q (.panic c) a w) (hy : YieldsIf P ops S (ops.getD i default) v a) (hS : S w)
    (h : wpAnyH P md ops Q S fuel (listed.setIfInBounds i true) (a.put (some d) v) w) : wpAnyH P md ops Q S (fuel + 1) listed a w :=
  wpAnyH_take (getD_some z) hs hf hr (fun c a w => by rw [hd]; exact hQ c a w) hy hS (by rw [hd]; exact h)
/-- the closed fact of the diamond: i1 ahead of i3; i5 beside them -/
def diaB (md : Region.Mode) (ops : Array Oper) (listed : Array Bool) (i1 i3 i5 d1 d3 d5 : Nat) : Bool :=
  decide (Region.ready md ops listed = [i1, i5]) && decide (Region.ready md ops (listed.setIfInBounds i1 true) = [i3, i5]) && decide (Region.ready md ops ((listed.setIfInBounds i1 true).setIfInBounds i3 true) = [i5]) &&
  decide (Region.ready md ops ((listed.setIfInBounds i1 true).setIfInBounds i5 true) = [i3]) && decide (Region.ready md ops (listed.setIfInBounds i5 true) = [i1]) &&
  decide (i1 < ops.size) && decide (i3 < ops.size) && decide (i5 < ops.size) && ((ops.getD i1 default).guard == none) && ((ops.getD i3 default).guard == none) && ((ops.getD i5 default).guard == none) &&
  ((ops.getD i1 default).dst == some d1) && ((ops.getD i3 default).dst == some d3) && ((ops.getD i5 default).dst == some d5) &&
  decide (i1 ≠ i3) && decide (i1 ≠ i5) && decide (i3 ≠ i5) && decide (d1 ≠ d3) && decide (d1 ≠ d5) && decide (d3 ≠ d5) &&
  (((ops.getD i1 default).looksAt ops).contains d5 == false) && (((ops.getD i3 default).looksAt ops).contains d5 == false) && (((ops.getD i5 default).looksAt ops).contains d1 == false) && (((ops.getD i5 default).looksAt ops).contains d3 == false)
theorem diamond {fuel : Nat} {listed : Array Bool} {a : Act} {w : World} (i1 i3 i5 d1 d3 d5 : Nat) (hsel : Region.noSelect ops = true) (hB : diaB md ops listed i1 i3 i5 d1 d3 d5 = true) (V1 V3 V5 : Value → World → Prop)
    (h1 : ∀ W, S W → ∃ v W', (execOp a.eval (ops.getD i1 default)).run P W = .ok (.value v) W' ∧ S W' ∧ V1 v W' ∧ ∀ u, V5 u W → V5 u W')
    (h3 : ∀ u W, S W → V1 u W → ∃ v W', (execOp (a.put (some d1) u).eval (ops.getD i3 default)).run P W = .ok (.value v) W' ∧ S W' ∧ V3 v W' ∧ ∀ u, V5 u W → V5 u W')
    (h5 : ∀ W, S W → ∃ v W', (execOp a.eval (ops.getD i5 default)).run P W = .ok (.value v) W' ∧ S W' ∧ V5 v W' ∧ (∀ u, V1 u W → V1 u W') ∧ ∀ u, V3 u W → V3 u W')
    (hS : S w)
    (REST : ∀ u1 u3 u5 W, S W → V3 u3 W → V5 u5 W → wpAnyH P md ops Q S fuel (((listed.setIfInBounds i1 true).setIfInBounds i3 true).setIfInBounds i5 true) (((a.put (some d1) u1).put (some d3) u3).put (some d5) u5) W) :
    wpAnyH P md ops Q S (fuel + 3) listed a w := by
  simp only [diaB, Bool.and_eq_true, decide_eq_true_eq, beq_iff_eq] at hB
  obtain ⟨⟨⟨⟨⟨⟨⟨⟨⟨⟨⟨⟨⟨⟨⟨⟨⟨⟨⟨⟨⟨⟨⟨r0, r1⟩, r13⟩, r15⟩, r5⟩, z1⟩, z3⟩, z5⟩, g1⟩, g3⟩, g5⟩, e1⟩, e3⟩, e5⟩, n13⟩, n15⟩, n35⟩, m13⟩, m15⟩, m35⟩, l15⟩, l35⟩, l51⟩, l53⟩ := hB
  have s1 : ∀ cs b, (ops.getD i1 default).op ≠ .select cs b := fun cs b => Region.noSelect_spec hsel i1 _ cs b (getD_some z1)
  have s3 : ∀ cs b, (ops.getD i3 default).op ≠ .select cs b := fun cs b => Region.noSelect_spec hsel i3 _ cs b (getD_some z3)
  have s5 : ∀ cs b, (ops.getD i5 default).op ≠ .select cs b := fun cs b => Region.noSelect_spec hsel i5 _ cs b (getD_some z5)
  refine wpAnyH_all r0 (by simp) fun i hi => ?_
  simp only [List.mem_cons, List.not_mem_nil, or_false] at hi
  rcases hi with rfl | rfl
  · obtain ⟨v1, W1, q1, S1, p1, _⟩ := h1 w hS
    refine wpOp_val z1 g1 q1 ⟨S1, ?_⟩
    rw [e1]
    refine wpAnyH_all r1 (by simp) fun j hj => ?_
    simp only [List.mem_cons, List.not_mem_nil, or_false] at hj
    rcases hj with rfl | rfl
    · obtain ⟨v3, W3, q3, S3, p3, _⟩ := h3 v1 W1 S1 p1
      refine wpOp_val z3 g3 q3 ⟨S3, ?_⟩
      rw [e3]
      refine wpAnyH_all r13 (by simp) fun k hk => ?_
      simp only [List.mem_cons, List.not_mem_nil, or_false] at hk
      subst hk
      obtain ⟨v5, W5, q5, S5, p5, _, k3⟩ := h5 W3 S3
      refine wpOp_val z5 g5 (by rw [exec_put s5 _ _ _ l53, exec_put s5 _ _ _ l51]; exact q5) ⟨S5, ?_⟩
      rw [e5]
      exact REST v1 v3 v5 W5 S5 (k3 _ p3) p5
    · obtain ⟨v5, W5, q5, S5, p5, k1, _⟩ := h5 W1 S1
      refine wpOp_val z5 g5 (by rw [exec_put s5 _ _ _ l51]; exact q5) ⟨S5, ?_⟩
      rw [e5]
      refine wpAnyH_all r15 (by simp) fun k hk => ?_
      simp only [List.mem_cons, List.not_mem_nil, or_false] at hk
      subst hk
      obtain ⟨v3, W3, q3, S3, p3, k5⟩ := h3 v1 W5 S5 (k1 _ p1)
      refine wpOp_val z3 g3 (by rw [exec_put s3 _ _ _ l35]; exact q3) ⟨S3, ?_⟩
      rw [e3, put_comm _ _ _ m35.symm, Array.setIfInBounds_comm _ _ n35.symm]
      exact REST v1 v3 v5 W3 S3 p3 (k5 _ p5)
  · obtain ⟨v5, W5, q5, S5, p5, _, _⟩ := h5 w hS
    refine wpOp_val z5 g5 q5 ⟨S5, ?_⟩
    rw [e5]
    refine wpAnyH_all r5 (by simp) fun j hj => ?_
    simp only [List.mem_cons, List.not_mem_nil, or_false] at hj
    subst hj
    obtain ⟨v1, W1, q1, S1, p1, k5⟩ := h1 W5 S5
    refine wpOp_val z1 g1 (by rw [exec_put s1 _ _ _ l15]; exact q1) ⟨S1, ?_⟩
    rw [e1, put_comm _ _ _ m15.symm, Array.setIfInBounds_comm _ _ n15.symm]
    refine wpAnyH_all r15 (by simp) fun k hk => ?_
    simp only [List.mem_cons, List.not_mem_nil, or_false] at hk
    subst hk
    obtain ⟨v3, W3, q3, S3, p3, k5'⟩ := h3 v1 W1 S1 p1
    refine wpOp_val z3 g3 (by rw [exec_put s3 _ _ _ l35]; exact q3) ⟨S3, ?_⟩
    rw [e3, put_comm _ _ _ m35.symm, Array.setIfInBounds_comm _ _ n35.symm]
    exact REST v1 v3 v5 W3 S3 p3 (k5' _ (k5 _ p5))

/-- a tail, S kept -/
def wpListS (P : Program) (ops : Array Oper) (Q : Exit → Act → World → Prop) (S : World → Prop) : List Nat → Act → World → Prop
  | [], a, w => Q .normal a w
  | i :: t, a, w => wpOp P ops Q i (fun a' w' => S w' ∧ wpListS P ops Q S t a' w') a w
theorem stepS {i : Nat} {t : List Nat} {a : Act} {w W' : World} {v : Value} (d : Nat) (hd : (ops.getD i default).dst = some d) (hi : i < ops.size) (hg : (ops.getD i default).guard = none) (hr : (execOp a.eval (ops.getD i default)).run P w = .ok (.value v) W') (hS : S W') (h : wpListS P ops Q S t (a.put (some d) v) W') : wpListS P ops Q S (i :: t) a w :=
  wpOp_val hi hg hr ⟨hS, by rw [hd]; exact h⟩
theorem stepS_call {i : Nat} {t : List Nat} {a : Act} {w : World} {f : FuncId} {args : Array Value} {v : Value} {C : World → Prop} (d : Nat) (hd : (ops.getD i default).dst = some d) (hi : i < ops.size) (hg : (ops.getD i default).guard = none) (hr : (execOp a.eval (ops.getD i default)).run P w = .ok (.enter f args) w)
    (hc : Calls P f args w fun e w' => e = .returned v ∧ C w') (hS : ∀ W', C W' → S W') (h : ∀ W', C W' → wpListS P ops Q S t (a.put (some d) v) W') : wpListS P ops Q S (i :: t) a w := by
  unfold wpListS wpOp
  simp only [getD_some hi]
  rw [if_pos (by unfold Region.wanted; rw [hg])]
  refine .inl ?_
  unfold Oper.wp
  rw [hr]
  refine hc.mono fun e w' he => ?_
  obtain ⟨rfl, hC⟩ := he
  rw [hd]
  exact ⟨hS w' hC, h w' hC⟩
theorem early_stepS {k : Nat} {o : Oper} {a : Act} {w : World} {tl : List Nat} (he : tailB o = true) (hi : ops[k]? = some o) (h : wpOp P ops Q k (fun a' w' => S w' ∧ wpListS P ops Q S tl a' w') a w) : ∃ v, Yields P ops o v a ∧ wpListS P ops Q S tl (a.put o.dst v) w := by
  unfold tailB at he
  cases ho : o.op <;> rw [ho] at he <;> first
    | (simp at he; done)
    | skip
  rename_i t ix
  have hg : o.guard = none := by simpa using he
  have hw : Region.wanted o (yielded ops a.tmps) = true := by simp [Region.wanted, hg]
  unfold wpOp at h
  simp only [hi] at h
  rw [if_pos hw] at h
  rcases h with h | ⟨h, _⟩
  · unfold Oper.wp execOp at h
    simp only [ho, Sem.run_pure, Sem.run_bind, Instr.extract] at h
    cases ht : a.eval t <;> rw [ht] at h <;> simp only [] at h <;> first
      | (simp [Result.andThen, Oper.upon] at h; done)
      | skip
    rename_i vs
    cases hx : vs[ix]? with
    | none => simp [hx, Result.andThen, Oper.upon] at h
    | some v =>
      refine ⟨v, Or.inl ⟨hw, fun w' => ?_⟩, ?_⟩
      · unfold execOp
        simp [ho, ht, Instr.extract, hx]
      · have h' : S w ∧ wpListS P ops Q S tl (a.put o.dst v) w := by simpa [hx, Result.andThen, Oper.upon] using h
        exact h'.2
  · exfalso
    unfold Oper.asks execOp at h
    simp only [ho] at h
    have h1 := h.1
    unfold Instr.extract at h1
    have hn : ∀ e : Event, e ∉ (#[] : Array Event) := by simp
    cases ht : a.eval t <;> rw [ht] at h1
    case tuple vs =>
      simp only at h1
      cases hx : vs[ix]? <;> rw [hx] at h1 <;> exact hn _ h1
    all_goals exact hn _ h1
theorem wpAnyH_of_seqE (hsel : Region.noSelect ops = true) (hQ : ∀ c (a : Act) d v w, Q (.panic c) (a.put d v) w → Q (.panic c) a w) : ∀ (t : List Nat) (listed : Array Bool) (a : Act) (w : World), S w → (∀ i ∈ t, i < ops.size) →
    Region.seqE md ops t listed = true → wpListS P ops Q S t a w → wpAnyH P md ops Q S t.length listed a w
  | [], _, _, _, _, _, hB, h => ⟨by simpa [Region.seqE] using hB, h⟩
  | k :: t, listed, a, w, hS, hl, hB, h => by
    have h0 := getD_some (hl k (by simp))
    simp only [Region.seqE, Bool.and_eq_true, Bool.or_eq_true, decide_eq_true_eq] at hB
    rcases hB.1 with hr | ⟨⟨hr, ht⟩, hf⟩
    · refine ⟨fun h1 => (by rw [hr] at h1; cases h1), fun i hi => ?_⟩
      rw [hr] at hi
      have hik : i = k := by simpa using hi
      subst hik
      exact wpOp_mono (fun a' w' h' => ⟨h'.1, wpAnyH_of_seqE hsel hQ t _ a' w' h'.1 (fun j hj => hl j (by simp [hj])) hB.2 h'.2⟩) h
    · have h3 : wpOp P ops Q k (fun a' w' => S w' ∧ wpListS P ops Q S t a' w') a w := h
      obtain ⟨v, hy, h4⟩ := early_stepS ht h0 h3
      exact wpAnyH_take h0 hsel (free_any (by simpa using hr) hf) hr (fun c a w => hQ c a _ v w) hy.yieldsIf hS (wpAnyH_of_seqE hsel hQ t _ _ _ hS (fun j hj => hl j (by simp [hj])) hB.2 h4)
end
end Go.Proofs.Ytkknnnkbegigeaa
/- a drawing region whose operations turn the memory: what has a fixed value under S is taken first; then a chain of steps, in its one order, beside one operation that may come at any time; then a tail. -/
namespace Go.Proofs.Ytkknnnkbegigeaa
open Go Go.RowKit
set_option linter.unusedVariables false
set_option linter.unusedSimpArgs false
section
variable {P : Program} {ops : Array Oper} {md : Region.Mode} {Q : Exit → Act → World → Prop} {S : World → Prop}

def setAll (listed : Array Bool) : List (Nat × Nat) → Array Bool
  | [] => listed
  | e :: es => setAll (listed.setIfInBounds e.1 true) es
def putAll (a : Act) : List (Nat × Nat) → List Value → Act
  | e :: es, v :: vs => putAll (a.put (some e.2) v) es vs
  | _, _ => a
def takeB (md : Region.Mode) (ops : Array Oper) : List (Nat × Nat) → Array Bool → Bool
  | [], _ => true
  | e :: es, listed => decide (e.1 < ops.size) && ((ops.getD e.1 default).dst == some e.2) && Region.free md ops listed e.1 && (Region.ready md ops listed).contains e.1 && takeB md ops es (listed.setIfInBounds e.1 true)
/-- each has its value in every world that meets S -/
def TakeOK (P : Program) (ops : Array Oper) (S : World → Prop) : List (Nat × Nat) → List Value → Act → Prop
  | [], [], _ => True
  | e :: es, v :: vs, a => YieldsIf P ops S (ops.getD e.1 default) v a ∧ TakeOK P ops S es vs (a.put (some e.2) v)
  | _, _, _ => False
theorem takeAll (hs : Region.noSelect ops = true) (hQ : ∀ c (a : Act) d v w, Q (.panic c) (a.put d v) w → Q (.panic c) a w) : ∀ (es : List (Nat × Nat)) (vs : List Value) (listed : Array Bool) (a : Act) (w : World) (fuel : Nat), takeB md ops es listed = true → TakeOK P ops S es vs a → S w → wpAnyH P md ops Q S fuel (setAll listed es) (putAll a es vs) w → wpAnyH P md ops Q S (fuel + es.length) listed a w
  | [], vs, listed, a, w, fuel, _, hT, _, h => by
    cases vs with
    | nil => exact h
    | cons v vs => exact hT.elim
  | e :: es, vs, listed, a, w, fuel, hB, hT, hS, h => by
    cases vs with
    | nil => exact hT.elim
    | cons v vs =>
      unfold takeB at hB
      simp only [Bool.and_eq_true, decide_eq_true_eq, beq_iff_eq] at hB
      obtain ⟨⟨⟨⟨b1, b2⟩, b3⟩, b4⟩, b5⟩ := hB
      have h2 := takeAll hs hQ es vs _ _ w fuel b5 hT.2 hS h
      exact takeFirst e.2 b1 b2 hs b3 b4 (fun c a w hh => hQ c a _ v w hh) hT.1 hS h2
/-- a step that answers v, in a world that meets C -/
def StepTo (P : Program) (sem : Sem Next) (W : World) (v : Value) (C : World → Prop) : Prop :=
  (∃ W', sem.run P W = .ok (.value v) W' ∧ C W') ∨ ∃ f args, sem.run P W = .ok (.enter f args) W ∧ Calls P f args W fun e W' => e = .returned v ∧ C W'
theorem StepTo.mono {sem : Sem Next} {W : World} {v : Value} {C C' : World → Prop} (h : StepTo P sem W v C) (hC : ∀ W', C W' → C' W') : StepTo P sem W v C' := by
  rcases h with ⟨W', h1, h2⟩ | ⟨f, args, h1, h2⟩
  · exact Or.inl ⟨W', h1, hC _ h2⟩
  · exact Or.inr ⟨f, args, h1, h2.mono fun e W' ⟨he, hc⟩ => ⟨he, hC _ hc⟩⟩
theorem StepTo.wpOp {i : Nat} {a : Act} {w : World} {v : Value} {C : World → Prop} {K : Act → World → Prop} {d : Nat} (hi : i < ops.size) (hg : (ops.getD i default).guard = none) (hd : (ops.getD i default).dst = some d) (h : StepTo P (execOp a.eval (ops.getD i default)) w v C) (hK : ∀ W', C W' → K (a.put (some d) v) W') : Go.wpOp P ops Q i K a w := by
  unfold Go.wpOp
  simp only [getD_some hi]
  rw [if_pos (by unfold Region.wanted; rw [hg])]
  refine .inl ?_
  unfold Oper.wp
  rcases h with ⟨W', h1, h2⟩ | ⟨f, args, h1, h2⟩
  · rw [h1]
    show K (a.put _ v) W'
    rw [hd]
    exact hK _ h2
  · rw [h1]
    refine h2.mono fun e W' he => ?_
    obtain ⟨rfl, hC⟩ := he
    show K (a.put _ v) W'
    rw [hd]
    exact hK _ hC
/-- each step of a chain, from a world that meets the one predicate to one that meets the next; what V says of the other operation's value stays -/
def ChainOK (P : Program) (ops : Array Oper) (S : World → Prop) (V : Value → World → Prop) (pf : World → Prop) : List (Nat × Nat) → List Value → List (World → Prop) → Act → Prop
  | [], [], [p], _ => ∀ W, p W → pf W
  | e :: es, v :: vs, p :: q :: ps, a => (∀ W, S W → p W → StepTo P (execOp a.eval (ops.getD e.1 default)) W v fun W' => S W' ∧ q W' ∧ ∀ u, V u W → V u W') ∧ ChainOK P ops S V pf es vs (q :: ps) (a.put (some e.2) v)
  | _, _, _, _ => False
def seqSB (md : Region.Mode) (ops : Array Oper) : List (Nat × Nat) → Array Bool → Bool
  | [], _ => true
  | e :: es, listed => (Region.ready md ops listed != []) && (Region.ready md ops listed).all (· == e.1) && decide (e.1 < ops.size) && ((ops.getD e.1 default).guard == none) && ((ops.getD e.1 default).dst == some e.2) && seqSB md ops es (listed.setIfInBounds e.1 true)
def combB (md : Region.Mode) (ops : Array Oper) (x dx : Nat) : List (Nat × Nat) → Array Bool → Bool
  | [], listed => (Region.ready md ops listed != []) && (Region.ready md ops listed).all (· == x)
  | e :: es, listed => (Region.ready md ops listed != []) && (Region.ready md ops listed).all (fun k => k == e.1 || k == x) && decide (e.1 < ops.size) && ((ops.getD e.1 default).guard == none) && ((ops.getD e.1 default).dst == some e.2) && decide (e.1 ≠ x) && decide (e.2 ≠ dx) && (((ops.getD e.1 default).looksAt ops).contains dx == false) && (((ops.getD x default).looksAt ops).contains e.2 == false) &&
    combB md ops x dx es (listed.setIfInBounds e.1 true) && seqSB md ops (e :: es) (listed.setIfInBounds x true)
variable {V : Value → World → Prop} {pf : World → Prop}
theorem ChainOK.put (hs : Region.noSelect ops = true) (dx : Nat) (u : Value) : ∀ (es : List (Nat × Nat)) (vs : List Value) (ps : List (World → Prop)) (a : Act), (∀ e ∈ es, e.1 < ops.size ∧ e.2 ≠ dx ∧ ((ops.getD e.1 default).looksAt ops).contains dx = false) → ChainOK P ops S V pf es vs ps a → ChainOK P ops S V pf es vs ps (a.put (some dx) u)
  | [], vs, ps, a, _, h => by
    match vs, ps, h with
    | [], [p], h => exact h
  | e :: es, vs, ps, a, hl, h => by
    match vs, ps, h with
    | v :: vs, p :: q :: ps, h =>
      obtain ⟨z, hd, hlk⟩ := hl e (by simp)
      have s1 : ∀ cs b, (ops.getD e.1 default).op ≠ .select cs b := fun cs b => Region.noSelect_spec hs e.1 _ cs b (getD_some z)
      refine ⟨fun W hS hp => ?_, ?_⟩
      · rw [exec_put s1 _ _ _ hlk]
        exact h.1 W hS hp
      · rw [put_comm _ _ _ hd.symm]
        exact ChainOK.put hs dx u es vs (q :: ps) _ (fun e' he' => hl e' (by simp [he'])) h.2
theorem seqS_run (u : Value) : ∀ (es : List (Nat × Nat)) (vs : List Value) (p : World → Prop) (ps : List (World → Prop)) (listed : Array Bool) (a : Act) (w : World) (fuel : Nat), seqSB md ops es listed = true → ChainOK P ops S V pf es vs (p :: ps) a → S w → p w → V u w →
    (∀ W, S W → pf W → V u W → wpAnyH P md ops Q S fuel (setAll listed es) (putAll a es vs) W) → wpAnyH P md ops Q S (fuel + es.length) listed a w
  | [], vs, p, ps, listed, a, w, fuel, _, hT, hS, hp, hV, h => by
    match vs, ps, hT with
    | [], [], hT => exact h w hS (hT w hp) hV
  | e :: es, vs, p, ps, listed, a, w, fuel, hB, hT, hS, hp, hV, h => by
    match vs, ps, hT with
    | v :: vs, q :: ps, hT =>
      unfold seqSB at hB
      simp only [Bool.and_eq_true, decide_eq_true_eq, beq_iff_eq, bne_iff_ne, ne_eq, List.all_eq_true] at hB
      obtain ⟨⟨⟨⟨⟨b0, b1⟩, b2⟩, b3⟩, b4⟩, b5⟩ := hB
      refine ⟨fun h0 => absurd h0 b0, fun i hi => ?_⟩
      obtain rfl := b1 i hi
      exact StepTo.wpOp b2 b3 b4 (hT.1 w hS hp) fun W' ⟨c1, c2, c3⟩ => ⟨c1, seqS_run u es vs q ps _ _ W' fuel b5 hT.2 c1 c2 (c3 u hV) h⟩
theorem combB_all {x dx : Nat} : ∀ (es : List (Nat × Nat)) (listed : Array Bool), combB md ops x dx es listed = true → ∀ e ∈ es, e.1 < ops.size ∧ e.2 ≠ dx ∧ ((ops.getD e.1 default).looksAt ops).contains dx = false
  | [], _, _, e, he => by cases he
  | e0 :: es, listed, hB, e, he => by
    unfold combB at hB
    simp only [Bool.and_eq_true, decide_eq_true_eq, beq_iff_eq] at hB
    obtain ⟨⟨⟨⟨⟨⟨⟨⟨⟨⟨_, _⟩, b2⟩, b3⟩, b4⟩, b5⟩, b6⟩, b7⟩, b8⟩, b9⟩, b10⟩ := hB
    rcases List.mem_cons.1 he with rfl | he
    · exact ⟨b2, b6, b7⟩
    · exact combB_all es _ b9 e he
theorem setAll_comm (x : Nat) : ∀ (es : List (Nat × Nat)) (listed : Array Bool), (∀ e ∈ es, e.1 ≠ x) → setAll (listed.setIfInBounds x true) es = (setAll listed es).setIfInBounds x true
  | [], _, _ => rfl
  | e :: es, listed, h => by
    show setAll ((listed.setIfInBounds x true).setIfInBounds e.1 true) es = _
    rw [Array.setIfInBounds_comm _ _ (h e (by simp)).symm, setAll_comm x es _ (fun e' he' => h e' (by simp [he']))]
    rfl
/-- a chain beside an operation that may come at any time -/
theorem comb (hs : Region.noSelect ops = true) (x dx : Nat) (hx0 : x < ops.size) (hxg : (ops.getD x default).guard = none) (hxd : (ops.getD x default).dst = some dx) : ∀ (es : List (Nat × Nat)) (vs : List Value) (p : World → Prop) (ps : List (World → Prop)) (listed : Array Bool) (a : Act) (w : World) (fuel : Nat),
    combB md ops x dx es listed = true → ChainOK P ops S V pf es vs (p :: ps) a →
    (∀ q ∈ p :: ps, ∀ W, S W → q W → ∃ u W', (execOp a.eval (ops.getD x default)).run P W = .ok (.value u) W' ∧ S W' ∧ q W' ∧ V u W') → S w → p w →
    (∀ u W, S W → pf W → V u W → wpAnyH P md ops Q S fuel (setAll (listed.setIfInBounds x true) es) (putAll (a.put (some dx) u) es vs) W) → wpAnyH P md ops Q S (fuel + es.length + 1) listed a w
  | [], vs, p, ps, listed, a, w, fuel, hB, hT, hX, hS, hp, h => by
    match vs, ps, hT with
    | [], [], hT =>
      unfold combB at hB
      simp only [Bool.and_eq_true, beq_iff_eq, bne_iff_ne, ne_eq, List.all_eq_true] at hB
      refine ⟨fun h0 => absurd h0 hB.1, fun i hi => ?_⟩
      obtain rfl := hB.2 i hi
      obtain ⟨u, W', h1, h2, h3, h4⟩ := hX p (by simp) w hS hp
      exact StepTo.wpOp hx0 hxg hxd (C := fun W'' => W'' = W') (Or.inl ⟨W', h1, rfl⟩) fun W'' e => by subst e; exact ⟨h2, h u _ h2 (hT _ h3) h4⟩
  | e :: es, vs, p, ps, listed, a, w, fuel, hB, hT, hX, hS, hp, h => by
    match vs, ps, hT with
    | v :: vs, q :: ps, hT =>
      have hB0 := hB
      unfold combB at hB
      simp only [Bool.and_eq_true, decide_eq_true_eq, beq_iff_eq, bne_iff_ne, ne_eq, List.all_eq_true, Bool.or_eq_true] at hB
      obtain ⟨⟨⟨⟨⟨⟨⟨⟨⟨⟨b0, b1⟩, b2⟩, b3⟩, b4⟩, b5⟩, b6⟩, b7⟩, b8⟩, b9⟩, b10⟩ := hB
      have sx : ∀ cs b, (ops.getD x default).op ≠ .select cs b := fun cs b => Region.noSelect_spec hs x _ cs b (getD_some hx0)
      refine ⟨fun h0 => absurd h0 b0, fun i hi => ?_⟩
      rcases b1 i hi with rfl | rfl
      · refine StepTo.wpOp b2 b3 b4 (hT.1 w hS hp) fun W' ⟨c1, c2, c3⟩ => ⟨c1, ?_⟩
        refine comb hs x dx hx0 hxg hxd es vs q ps _ _ W' fuel b9 hT.2 (fun r hr W hW hr2 => ?_) c1 c2 (fun u W hW hf hV => ?_)
        · rw [exec_put sx _ _ _ b8]
          exact hX r (by simp [List.mem_cons.1 hr]) W hW hr2
        · have := h u W hW hf hV
          rw [put_comm _ _ _ b6, Array.setIfInBounds_comm _ _ b5]
          exact this
      · obtain ⟨u, W', h1, h2, h3, h4⟩ := hX p (by simp) w hS hp
        refine StepTo.wpOp hx0 hxg hxd (C := fun W'' => W'' = W') (Or.inl ⟨W', h1, rfl⟩) fun W'' e' => ?_
        subst e'
        exact ⟨h2, seqS_run u (e :: es) (v :: vs) p (q :: ps) _ _ _ fuel b10 (ChainOK.put hs dx u _ _ _ _ (combB_all _ _ hB0) hT) h2 h3 h4 (fun W c1 c2 c3 => h u W c1 c2 c3)⟩
end
theorem exec_load {P : Program} {o : Oper} {a : Act} {ty : TypeId} {x : Operand} (ho : o.op = .load ty x) {pv v : Value} (hx : a.eval x = pv) {w : World} (hr : (Instr.loadAt ty pv).run P w = .ok v w) : (execOp a.eval o).run P w = .ok (.value v) w := by
  subst hx
  unfold execOp
  simp only [ho, Sem.run_bind, hr, Result.andThen_ok, Sem.run_pure]
end Go.Proofs.Ytkknnnkbegigeaa
/- a drawing region: a chain beside an operation that may come at any time; then operations of fixed values. -/
namespace Go.Proofs.Ytkknnnkbegigeaa
open Go Go.RowKit
set_option linter.unusedVariables false
set_option linter.unusedSimpArgs false
section
variable {P : Program} {ops : Array Oper} {md : Region.Mode} {Q : Exit → Act → World → Prop} {S : World → Prop} {V : Value → World → Prop} {pf : World → Prop}
/-- .. taken in a state whose slot dx was written -/
theorem TakeOK.put (hs : Region.noSelect ops = true) (dx : Nat) (u : Value) : ∀ (es : List (Nat × Nat)) (vs : List Value) (a : Act), (∀ e ∈ es, e.1 < ops.size ∧ e.2 ≠ dx ∧ ((ops.getD e.1 default).looksAt ops).contains dx = false ∧ (ops.getD e.1 default).guard = none) → TakeOK P ops S es vs a → TakeOK P ops S es vs (a.put (some dx) u)
  | [], vs, a, _, h => by
    match vs, h with
    | [], h => exact h
  | e :: es, vs, a, hl, h => by
    match vs, h with
    | v :: vs, h =>
      obtain ⟨z, hd, hlk, hg⟩ := hl e (by simp)
      have s1 : ∀ cs b, (ops.getD e.1 default).op ≠ .select cs b := fun cs b => Region.noSelect_spec hs e.1 _ cs b (getD_some z)
      refine ⟨?_, ?_⟩
      · rcases h.1 with ⟨hw, hv⟩ | ⟨hw, _⟩
        · exact Or.inl ⟨by unfold Region.wanted; rw [hg], fun w hS => by rw [exec_put s1 _ _ _ hlk]; exact hv w hS⟩
        · unfold Region.wanted at hw; rw [hg] at hw; cases hw
      · rw [put_comm _ _ _ hd.symm]
        exact TakeOK.put hs dx u es vs _ (fun e' he' => hl e' (by simp [he'])) h.2
theorem putAll_comm (dx : Nat) (u : Value) : ∀ (es : List (Nat × Nat)) (vs : List Value) (a : Act), (∀ e ∈ es, e.2 ≠ dx) → putAll (a.put (some dx) u) es vs = (putAll a es vs).put (some dx) u
  | [], vs, a, _ => by cases vs <;> rfl
  | e :: es, vs, a, hl => by
    cases vs with
    | nil => rfl
    | cons v vs =>
      show putAll ((a.put (some dx) u).put (some e.2) v) es vs = _
      rw [put_comm _ _ _ (hl e (by simp)).symm, putAll_comm dx u es vs _ (fun e' he' => hl e' (by simp [he']))]
      rfl
/-- the closed facts of what is taken behind a chain -/
def lateB (md : Region.Mode) (ops : Array Oper) (x dx : Nat) (es : List (Nat × Nat)) (listed : Array Bool) : Bool :=
  takeB md ops es listed && takeB md ops es (listed.setIfInBounds x true) && (Region.ready md ops (setAll listed es) != []) && (Region.ready md ops (setAll listed es)).all (· == x) &&
  es.all fun e => decide (e.1 < ops.size) && decide (e.1 ≠ x) && decide (e.2 ≠ dx) && (((ops.getD e.1 default).looksAt ops).contains dx == false) && (((ops.getD x default).looksAt ops).contains e.2 == false) && ((ops.getD e.1 default).guard == none)
def combEB (md : Region.Mode) (ops : Array Oper) (x dx : Nat) (es2 : List (Nat × Nat)) : List (Nat × Nat) → Array Bool → Bool
  | [], listed => lateB md ops x dx es2 listed
  | e :: es, listed => (Region.ready md ops listed != []) && (Region.ready md ops listed).all (fun k => k == e.1 || k == x) && decide (e.1 < ops.size) && ((ops.getD e.1 default).guard == none) && ((ops.getD e.1 default).dst == some e.2) && decide (e.1 ≠ x) && decide (e.2 ≠ dx) && (((ops.getD e.1 default).looksAt ops).contains dx == false) && (((ops.getD x default).looksAt ops).contains e.2 == false) &&
    combEB md ops x dx es2 es (listed.setIfInBounds e.1 true) && seqSB md ops (e :: es) (listed.setIfInBounds x true)
theorem combEB_all {x dx : Nat} {es2 : List (Nat × Nat)} : ∀ (es : List (Nat × Nat)) (listed : Array Bool), combEB md ops x dx es2 es listed = true → (∀ e ∈ es, e.1 < ops.size ∧ e.1 ≠ x ∧ e.2 ≠ dx ∧ ((ops.getD e.1 default).looksAt ops).contains dx = false) ∧ lateB md ops x dx es2 (setAll listed es) = true
  | [], _, hB => ⟨fun e he => (by cases he), hB⟩
  | e0 :: es, listed, hB => by
    unfold combEB at hB
    simp only [Bool.and_eq_true, decide_eq_true_eq, beq_iff_eq] at hB
    obtain ⟨⟨⟨⟨⟨⟨⟨⟨⟨⟨_, _⟩, b2⟩, b3⟩, b4⟩, b5⟩, b6⟩, b7⟩, b8⟩, b9⟩, b10⟩ := hB
    obtain ⟨h1, h2⟩ := combEB_all es _ b9
    refine ⟨fun e he => ?_, h2⟩
    rcases List.mem_cons.1 he with rfl | he
    · exact ⟨b2, b5, b6, b7⟩
    · exact h1 e he
theorem exec_putAll {o : Oper} (hs : ∀ cs b, o.op ≠ .select cs b) : ∀ (es : List (Nat × Nat)) (vs : List Value) (a : Act), (∀ e ∈ es, (o.looksAt ops).contains e.2 = false) → execOp (putAll a es vs).eval o = execOp a.eval o
  | [], vs, a, _ => by cases vs <;> rfl
  | e :: es, vs, a, hl => by
    cases vs with
    | nil => rfl
    | cons v vs =>
      show execOp (putAll (a.put (some e.2) v) es vs).eval o = _
      rw [exec_putAll hs es vs _ (fun e' he' => hl e' (by simp [he'])), exec_put hs _ _ _ (hl e (by simp))]
/-- a chain beside an operation that may come at any time; then operations of fixed values, that may come ahead of it -/
theorem combE (hs : Region.noSelect ops = true) (hQ : ∀ c (a : Act) d v w, Q (.panic c) (a.put d v) w → Q (.panic c) a w) (x dx : Nat) (hx0 : x < ops.size) (hxg : (ops.getD x default).guard = none) (hxd : (ops.getD x default).dst = some dx) (es2 : List (Nat × Nat)) (vs2 : List Value) : ∀ (es : List (Nat × Nat)) (vs : List Value) (p : World → Prop) (ps : List (World → Prop)) (listed : Array Bool) (a : Act) (w : World) (fuel : Nat),
    combEB md ops x dx es2 es listed = true → ChainOK P ops S V pf es vs (p :: ps) a → TakeOK P ops S es2 vs2 (putAll a es vs) →
    (∀ q ∈ p :: ps, ∀ W, S W → q W → ∃ u W', (execOp a.eval (ops.getD x default)).run P W = .ok (.value u) W' ∧ S W' ∧ q W' ∧ V u W') → S w → p w →
    (∀ u W, S W → pf W → V u W → wpAnyH P md ops Q S fuel (setAll (setAll (listed.setIfInBounds x true) es) es2) (putAll (putAll (a.put (some dx) u) es vs) es2 vs2) W) → wpAnyH P md ops Q S (fuel + es2.length + 1 + es.length) listed a w
  | [], vs, p, ps, listed, a, w, fuel, hB, hT, hTk, hX, hS, hp, h => by
    match vs, ps, hT with
    | [], [], hT =>
      unfold combEB lateB at hB
      simp only [Bool.and_eq_true, beq_iff_eq, bne_iff_ne, ne_eq, List.all_eq_true, decide_eq_true_eq] at hB
      obtain ⟨⟨⟨⟨t1, t2⟩, r1⟩, r2⟩, al⟩ := hB
      have sx : ∀ cs b, (ops.getD x default).op ≠ .select cs b := fun cs b => Region.noSelect_spec hs x _ cs b (getD_some hx0)
      show wpAnyH P md ops Q S (fuel + es2.length + 1) listed a w
      rw [show fuel + es2.length + 1 = fuel + 1 + es2.length by omega]
      refine takeAll hs hQ es2 vs2 _ _ _ _ t1 hTk hS ?_
      refine ⟨fun h0 => absurd h0 r1, fun i hi => ?_⟩
      obtain rfl := r2 i hi
      obtain ⟨u, W', h1, h2, h3, h4⟩ := hX p (by simp) w hS hp
      refine StepTo.wpOp hx0 hxg hxd (C := fun W'' => W'' = W') (Or.inl ⟨W', by rw [exec_putAll sx es2 vs2 a (fun e he => (al e he).1.2)]; exact h1, rfl⟩) fun W'' e => ?_
      subst e
      have hh := h u _ h2 (hT _ h3) h4
      rw [show setAll (setAll (listed.setIfInBounds i true) []) es2 = (setAll listed es2).setIfInBounds i true from setAll_comm i es2 listed (fun e he => (al e he).1.1.1.1.2)] at hh
      rw [show putAll (putAll (a.put (some dx) u) [] []) es2 vs2 = (putAll a es2 vs2).put (some dx) u from putAll_comm dx u es2 vs2 a (fun e he => (al e he).1.1.1.2)] at hh
      exact ⟨h2, hh⟩
  | e :: es, vs, p, ps, listed, a, w, fuel, hB, hT, hTk, hX, hS, hp, h => by
    match vs, ps, hT with
    | v :: vs, q :: ps, hT =>
      have hB0 := hB
      unfold combEB at hB
      simp only [Bool.and_eq_true, decide_eq_true_eq, beq_iff_eq, bne_iff_ne, ne_eq, List.all_eq_true, Bool.or_eq_true] at hB
      obtain ⟨⟨⟨⟨⟨⟨⟨⟨⟨⟨b0, b1⟩, b2⟩, b3⟩, b4⟩, b5⟩, b6⟩, b7⟩, b8⟩, b9⟩, b10⟩ := hB
      have sx : ∀ cs b, (ops.getD x default).op ≠ .select cs b := fun cs b => Region.noSelect_spec hs x _ cs b (getD_some hx0)
      show wpAnyH P md ops Q S (fuel + es2.length + 1 + es.length + 1) listed a w
      refine ⟨fun h0 => absurd h0 b0, fun i hi => ?_⟩
      rcases b1 i hi with rfl | rfl
      · refine StepTo.wpOp b2 b3 b4 (hT.1 w hS hp) fun W' ⟨c1, c2, c3⟩ => ⟨c1, ?_⟩
        refine combE hs hQ x dx hx0 hxg hxd es2 vs2 es vs q ps _ _ W' fuel b9 hT.2 hTk (fun r hr W hW hr2 => ?_) c1 c2 (fun u W hW hf hV => ?_)
        · rw [exec_put sx _ _ _ b8]
          exact hX r (by simp [List.mem_cons.1 hr]) W hW hr2
        · have := h u W hW hf hV
          rw [put_comm _ _ _ b6, Array.setIfInBounds_comm _ _ b5]
          exact this
      · obtain ⟨u, W', h1, h2, h3, h4⟩ := hX p (by simp) w hS hp
        refine StepTo.wpOp hx0 hxg hxd (C := fun W'' => W'' = W') (Or.inl ⟨W', h1, rfl⟩) fun W'' e' => ?_
        subst e'
        refine ⟨h2, ?_⟩
        obtain ⟨hall, hlate⟩ := combEB_all _ _ hB0
        unfold lateB at hlate
        simp only [Bool.and_eq_true, beq_iff_eq, bne_iff_ne, ne_eq, List.all_eq_true, decide_eq_true_eq] at hlate
        obtain ⟨⟨⟨⟨t1, t2⟩, r1⟩, r2⟩, al⟩ := hlate
        rw [show fuel + es2.length + 1 + es.length = fuel + es2.length + (e :: es).length by rw [List.length_cons]; omega]
        refine seqS_run u (e :: es) (v :: vs) p (q :: ps) _ _ _ (fuel + es2.length) b10 (ChainOK.put hs dx u _ _ _ _ (fun e' he' => ⟨(hall e' he').1, (hall e' he').2.2.1, (hall e' he').2.2.2⟩) hT) h2 h3 h4 (fun W c1 c2 c3 => ?_)
        refine takeAll hs hQ es2 vs2 _ _ _ _ ?_ ?_ c1 (h u W c1 c2 c3)
        · rw [setAll_comm i (e :: es) listed (fun e' he' => (hall e' he').2.1)]
          exact t2
        · rw [putAll_comm dx u (e :: es) (v :: vs) a (fun e' he' => (hall e' he').2.2.1)]
          exact TakeOK.put hs dx u es2 vs2 _ (fun e' he' => ⟨(al e' he').1.1.1.1.1, (al e' he').1.1.1.2, (al e' he').1.1.2, (al e' he').2⟩) hTk
end
end Go.Proofs.Ytkknnnkbegigeaa
