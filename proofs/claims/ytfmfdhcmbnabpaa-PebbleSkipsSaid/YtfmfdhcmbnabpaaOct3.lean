/- octet's Same; Parts, and the reference's. -/
import Derived.Test.YtfmfdhcmbnabpaaOct2
namespace Go.Proofs.Ytfmfdhcmbnabpaa
open Go Go.RowKit
set_option linter.unusedVariables false
set_option linter.unusedSimpArgs false
attribute [local go_sem] bmax2 bmin2 bmax bmin

theorem info_str : (Try.prog.info? 9).map (fun i => (i.zero, i.size, i.bytes)) = some (some (.string ⟨#[]⟩), 1, 16) := by kernel_rfl

theorem octet_Parts_none (s : ByteArray) (n : Int) (w : World) (hn : n < 1) :
    Calls Try.prog 74 #[.string s, .int .i64 n] w fun e w' => e = .returned (.slice none 0 0) ∧ w = w' := by
  go_enter Try.func74, Try.ntmps74
  go_wp2
  go_ret
  exact ⟨rfl, rfl⟩

def strVals (l : List (List UInt8)) : List Value := l.map fun x => .string (str x)
set_option maxRecDepth 100000 in
theorem octet_Parts_some (s : ByteArray) (n : Nat) (w : World) (hn : 1 ≤ n) (hn2 : n ≤ 9223372036854775807) (hs : s.size ≤ 1099511627776) :
    Calls Try.prog 74 #[.string s, .int .i64 n] w fun e w' => ∃ v, e = .returned v ∧ w'.ownsRow w.heap.size 9 1 v (chunks n (bs s)).length (strVals (chunks n (bs s))) ∧ Below w.heap.size w w' := by
  obtain ⟨i0, hi, hz0, hz1, hz2⟩ := info_parts info_str
  have Hz2 := hid hz2
  have Hz1 := hid hz1
  clear hz2 hz1
  have hn' : (1 : Int) ≤ n := by omega
  go_enter Try.func74, Try.ntmps74
  go_wp2
  go_loopw [0, 5] (fun t v wr => ∃ (l r : List UInt8), t = .string (str r) ∧ r.length ≤ s.size ∧ Hid (l ++ r = bs s) ∧ Hid (n ∣ l.length ∨ r = []) ∧ wr.ownsRow w.heap.size 9 1 v (chunks n l).length (strVals (chunks n l)) ∧ Below w.heap.size w wr) (fun t _ _ => lenOf t)
  case atStart => exact ⟨[], bs s, rfl, Nat.le_of_eq (size_bs s), rfl, Or.inl (by simp), by rw [chunks_nil]; exact World.ownsRow_nil _ _ _ _, Below.refl _ _⟩
  case round =>
    obtain ⟨l, r, rfl, hr, hc, hd, ho, hbl⟩ := hrel
    by_cases h0 : r = []
    · subst h0
      have HO := hid ho
      have HB := hid hbl
      have he : (str []).toList.isEmpty = true := by rw [empty_str]; rfl
      clear ho hbl
      go_wp2
      go_ret
      have h := hc.out
      rw [List.append_nil] at h
      exact ⟨_, rfl, by rw [← h]; exact HO.out, HB.out⟩
    · have hpos : 0 < r.length := List.length_pos_iff.2 h0
      obtain ⟨S, hS⟩ : ∃ S, S = str r := ⟨_, rfl⟩
      rw [← hS]
      have hz : S.size = r.length := by rw [hS, str_size]
      obtain ⟨k, hk⟩ : ∃ k : Nat, min n r.length = k := ⟨_, rfl⟩
      have hk2 : min (n : Int) (S.size : Int) = (k : Int) := by rw [hz]; omega
      have hk3 : k ≤ S.size := by rw [hz]; omega
      have he : S.toList.isEmpty = false := by
        rw [hS, empty_str]
        cases r with
        | nil => exact absurd rfl h0
        | cons => rfl
      have HO := hid ho
      have HB := hid hbl
      have HS := hid hS
      have HK := hid hk
      have HZ := hid hz
      clear ho hbl hS hk hz
      have hSs : S.size ≤ 1099511627776 := by rw [HZ.out]; omega
      go_wp2
      refine wp_region_plan_lit (C := fun w' => w' = wr.drew) [0, 1, 2, 3, 6, 7, 8] [] [4, 5, 9, 10] (by kernel_rfl) (by kernel_rfl) (by intro c a d v w h; cases d <;> exact h) rfl ?_
      simp only [List.map_cons, List.map_nil, List.getD_cons_succ, List.getD_cons_zero]
      repeat (go_big_quiet_step (fail))
      refine wpQuiet_nil ?_
      refine wpQuiet_nil ?_
      rintro _ rfl
      have hx1 : (S.extract 0 k) = str (r.take n) := by
        rw [HS.out, extract_str, List.drop_zero, Nat.sub_zero, ← HK.out]
        exact congrArg _ (take_min r n)
      have hx2 : (S.extract k S.size) = str (r.drop n) := by
        rw [HS.out, extract_str, str_size, ← HK.out, drop_min, List.take_of_length_le (by simp; omega)]
      have HX1 := hid hx1
      have HX2 := hid hx2
      clear hx1 hx2
      have hcl := Nat.le_trans (chunks_length n hn _ l (Nat.le_refl _)) (show l.length ≤ s.size by have := congrArg List.length hc.out; rw [List.length_append, size_bs] at this; omega)
      go_wp2_with (at_builtin; refine wpList_append_own _ rfl _ _ 110 rfl w.heap.size 9 i0 (.string ⟨#[]⟩) 1 16 Try.underlying110 hi hz0 Hz1.out Hz2.out rfl (by decide) _ _ _ rfl ((HO.out.alloc _).drew) ⟨wr.heap.size, 0, none⟩ 1 1 [.string (S.extract 0 k)] rfl rfl ?c1 ?c2 ?c3 ?c4 ?c5 ?_)
      case c1 => exact cell_one_new _ _ _
      case c2 => simp [Value.oneCell']
      case c3 => unfold maxLen; omega
      case c4 => omega
      case c5 => have := HB.out.size; simp; omega
      intro v' w1 hown' hgrow' _
      have HB1 := hid (((HB.out.alloc HB.out.size _).drew).grown hgrow' (by have := HB.out.size; simp; omega) (fun q hq => (HO.out.lt q hq).1))
      have HO1 := hid hown'
      clear hown' hgrow'
      go_wp2
      go_roundw
      case measure =>
        have : (S.extract k S.size).size = S.size - k := by rw [HX2.out, str_size, HZ.out, List.length_drop, ← HK.out]; omega
        have h2 : 0 < k := by rw [← HK.out]; omega
        have h3 := HZ.out
        show (S.extract k S.size).size < S.size
        omega
      case rel =>
        have hr0 : r.take n ≠ [] := by
          intro h
          have := congrArg List.length h
          rw [List.length_take, List.length_nil] at this
          omega
        have hch : chunks n (l ++ r.take n) = chunks n l ++ [r.take n] := by
          rcases hd.out with h | h
          · rw [chunks_append n hn _ _ l (Nat.le_refl _) h, chunks_short n hn _ hr0 (by simp; omega)]
          · exact absurd h h0
        refine ⟨l ++ r.take n, r.drop n, congrArg _ HX2.out, by simp; omega, ?_, ?_, ?_, HB1.out⟩
        · show _ = _
          rw [List.append_assoc, List.take_append_drop]; exact hc.out
        · by_cases hge : n ≤ r.length
          · refine Or.inl ?_
            rcases hd.out with h | h
            · rw [List.length_append, List.length_take, Nat.min_eq_left hge]
              exact Nat.dvd_add h (Nat.dvd_refl n)
            · exact absurd h h0
          · exact Or.inr (List.drop_of_length_le (by omega))
        · rw [hch]
          have := HO1.out
          rw [HX1.out] at this
          simpa [strVals] using this

/-- n texts lie at a slice -/
def Texts (w : World) (v : Value) (l : List (List UInt8)) : Prop :=
  ∃ a cap, v = .slice a l.length cap ∧ ∀ i (h : i < l.length), ∃ g, a = some ⟨g, 0, none⟩ ∧ g < w.heap.size ∧ w.cell? ⟨g, i, none⟩ = some (.string (str l[i]))
theorem Texts.of_own {w : World} {base : Nat} {e : TypeId} {v : Value} {l : List (List UInt8)} (h : w.ownsRow base e 1 v l.length (strVals l)) : Texts w v l := by
  rcases h.2 with ⟨rfl, h0⟩ | ⟨g, cap, cur, rfl, _⟩
  · exact ⟨none, 0, by rw [h0], fun i hi => by omega⟩
  · refine ⟨_, cap, rfl, fun i hi => ⟨g, rfl, (h.lt g rfl).2, ?_⟩⟩
    rw [h.cellAt i (by omega)]
    simp [strVals, hi]
theorem Texts.below {w w' : World} {v : Value} {l : List (List UInt8)} (h : Texts w v l) (hb : Below w.heap.size w w') : Texts w' v l := by
  obtain ⟨a, cap, rfl, hc⟩ := h
  refine ⟨a, cap, rfl, fun i hi => ?_⟩
  obtain ⟨g, h1, h2, h3⟩ := hc i hi
  exact ⟨g, h1, Nat.lt_of_lt_of_le h2 hb.size, cell_later hb h3⟩

end Go.Proofs.Ytfmfdhcmbnabpaa
