/- OctetSame: the walk. -/
import Derived.Test.YtlljndojbhopfaaOct5
namespace Go.Proofs.Ytlljndojbhopfaa
open Go Go.RowKit
set_option linter.unusedVariables false
set_option linter.unusedSimpArgs false
attribute [local go_sem] bmax2 bmin2 bmax bmin

set_option maxRecDepth 100000 in
theorem OctetSame_walk (a b : ByteArray) (c : Int) (wa : a.size ≤ maxLen) (wb : b.size ≤ maxLen) (wc : (Lit.int .u16 c).wf = true) (w : World) :
    Calls Try.prog 12 #[.string a, .string b, .int .u16 c] w fun e w' => e = .returned (.bool true) ∧ Below w.heap.size w w' := by
  by_cases hla : (1024 : Int) < (a.size : Int)
  · go_enter Try.func12, Try.ntmps12
    go_wp2_with fail
    refine (octet_awake w).mono ?_
    rintro e w' ⟨rfl, hb⟩
    go_wp2
    go_ret
    exact ⟨rfl, hb⟩
  · by_cases hlb : (1024 : Int) < (b.size : Int)
    · go_enter Try.func12, Try.ntmps12
      go_wp2_with fail
      refine (octet_awake w).mono ?_
      rintro e w' ⟨rfl, hb⟩
      go_wp2
      go_ret
      exact ⟨rfl, hb⟩
    · have ha1 : a.size ≤ 1024 := by omega
      have hb1 : b.size ≤ 1024 := by omega
      go_enter Try.func12, Try.ntmps12
      go_wp2_with fail
      refine (octet_awake w).mono ?_
      rintro e w1 ⟨rfl, hb⟩
      have HB := hid hb
      clear hb
      go_wp2_with fail
      refine (octet_Same_any a b w1 (by omega) (by omega)).mono ?_
      rintro e w2 ⟨rfl, m1, rfl⟩
      go_wp2_with fail
      refine (octet_Same_any a a _ (by omega) (by omega)).mono ?_
      rintro e w2 ⟨he, m2, rfl⟩
      rw [beq_self_eq_true] at he
      subst he
      go_wp2_with fail
      refine (octet_Same_any a _ _ (by omega) (by rw [ByteArray.size_append]; show _ + 1 ≤ _; omega)).mono ?_
      rintro e w2 ⟨he, m3, rfl⟩
      rw [ne_more a 0] at he
      subst he
      by_cases h0 : a.toList.isEmpty = true
      · go_wp2
        go_ret
        exact ⟨rfl, bd HB.out _⟩
      · have h0' : a.toList.isEmpty = false := by simpa using h0
        have hpos : 0 < a.size := by
          rcases Nat.eq_zero_or_pos a.size with h | h
          · exfalso; apply h0; rw [toList_bs]
            have : (bs a).length = 0 := by rw [size_bs]; exact h
            rw [List.eq_nil_of_length_eq_zero this]; rfl
          · exact h
        clear h0
        obtain ⟨cn, rfl⟩ : ∃ cn : Nat, c = cn := ⟨c.toNat, by have := wf_u16 wc; omega⟩
        have hcn : (cn : Int) ≤ 65535 := by have := wf_u16 wc; omega
        have hk0 := Nat.mod_lt cn hpos
        obtain ⟨k, hk⟩ : ∃ k, cn % a.size = k := ⟨_, rfl⟩
        have hk2 : (cn : Int) % (a.size : Int) = (k : Int) := by rw [← hk]; simp
        rw [hk] at hk0
        clear hk
        have HBW0 := bd (bd HB.out (m1 + m2)) m3
        generalize (w1.drewN (m1 + m2)).drewN m3 = W at HBW0 ⊢
        have HBW := hid HBW0
        clear HBW0
        obtain ⟨cap, w2, hcv, hb2, hsz2, hcap, hcell, hfr⟩ := toBytes (P := Try.prog) W 9 55 a Try.underlying9 Try.underlying55 Try.underlying5
        have hkl : k < (bs a).length := by rw [size_bs]; exact hk0
        obtain ⟨x, hx⟩ : ∃ x, (bs a)[k] = x := ⟨_, rfl⟩
        have c1 : w2.cell? ⟨W.heap.size, k, none⟩ = some (.int .u8 (x.toNat : Int)) := by rw [← hx]; exact hcell k hkl
        have f1 := hfr k hk0
        have e1 : bits .xor .u8 (x.toNat : Int) 1 = (((x ^^^ 1).toNat : Nat) : Int) := by
          have := u8_xor_nat x.toNat 1 (UInt8.toNat_lt _) (by omega)
          rw [UInt8.toNat_xor]
          exact this
        obtain ⟨y, hy⟩ : ∃ y, x ^^^ 1 = y := ⟨_, rfl⟩
        rw [hy] at e1
        have hb := run_convert_bytes_back (P := Try.prog) (w2.setCell ⟨W.heap.size, k, none⟩ (.int .u8 (y.toNat : Int))) 55 9 5 ⟨W.heap.size, 0, none⟩ cap ((bs a).set k y) Try.underlying55 Try.underlying5 Try.underlying9 (set_cells hcell hkl _)
        rw [List.length_set, size_bs] at hb
        obtain ⟨T, hT⟩ : ∃ T : ByteArray, ⟨((bs a).set k y).toArray⟩ = T := ⟨_, rfl⟩
        rw [hT] at hb
        have HB2 := hid hb2
        have HS2 := hid hsz2
        have hne : (a.toList == T.toList) = false := by rw [← hT, ← hy, ← hx]; exact ne_set a k hkl
        have hTs : T.size ≤ 1024 := by rw [← hT]; show ((bs a).set k y).length ≤ 1024; rw [List.length_set, size_bs]; exact ha1
        have HX := hid hx
        have HY := hid hy
        have HT := hid hT
        have HN := hid hne
        clear hx hy hT hne
        clear hb2 hsz2 hcell hfr
        have hcap' : (a.size : Int) ≤ (cap : Int) := by omega
        have hpos' : (1 : Int) ≤ (a.size : Int) := by omega
        have hk0' : (k : Int) < (a.size : Int) := by omega
        go_wp2_with fail
        refine (octet_Same_any a _ _ (by omega) (by omega)).mono ?_
        rintro e w3 ⟨he, m4, rfl⟩
        rw [HN.out] at he
        subst he
        go_wp2
        go_ret
        exact ⟨rfl, bd ((bt HBW.out HB2.out).setCell HBW.out.size _) _⟩

end Go.Proofs.Ytlljndojbhopfaa
