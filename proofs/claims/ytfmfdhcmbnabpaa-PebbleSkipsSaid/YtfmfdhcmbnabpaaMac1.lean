/- mac: xored. -/
import Derived.Test.YtfmfdhcmbnabpaaSha6
import Derived.Test.YtfmfdhcmbnabpaaMac0
namespace Go.Proofs.Ytfmfdhcmbnabpaa
open Go Go.RowKit
set_option linter.unusedVariables false
set_option linter.unusedSimpArgs false
attribute [local go_sem] bmax2 bmin2 bmax bmin cell_ext frozen_ext

set_option maxRecDepth 100000 in
theorem xored_any (l : List UInt8) (c : UInt8) (hl : l.length ≤ 4096) (w : World) :
    Calls Try.prog 62 #[.string (str l), .int .u8 (c.toNat : Int)] w fun e w' => e = .returned (.string (str (xorU l c))) ∧ Below w.heap.size w w' := by
  obtain ⟨cap, w2, hcv, hb2, hsz2, hcap, hcell, hfr⟩ := toBytes (P := Try.prog) w 9 44 (str l) Try.underlying9 Try.underlying44 Try.underlying5
  rw [str_size] at hcv hcap
  have hcell' : ∀ i (h : i < (mixU (xorU l c) l 0).length), w2.cell? ⟨w.heap.size, i, none⟩ = some (.int .u8 ((mixU (xorU l c) l 0)[i].toNat : Int)) := by
    intro i h
    have e := mixU_zero (xorU l c) l
    have : ∀ (m : List UInt8) (h : i < m.length), m = l → w2.cell? ⟨w.heap.size, i, none⟩ = some (.int .u8 (m[i].toNat : Int)) := by
      rintro m h rfl; exact hcell i h
    exact this _ h e
  have H1 := kp hcell'
  have H2 : Kp (∀ i, i < l.length → w2.frozen? ⟨w.heap.size, i, none⟩ = false) := kp hfr
  have H3 := kp (Nat.le_refl w.heap.size)
  have HB := kp hb2
  have HX := kp (xorU_length l c)
  have HXD : Kp (∀ i (h : i < l.length), (xorU l c)[i]? = some (l[i] ^^^ c)) := kp (fun i h => by simp [xorU, h])
  have HA := kp (mixU_all (xorU l c) l HX.out)
  generalize xorU l c = X at H1 HX HXD HA ⊢
  obtain ⟨n, hn⟩ : ∃ n, l.length = n := ⟨_, rfl⟩
  have hss := str_size l
  rw [hn] at hcv hcap H2 hl hss HA
  have HN := kp hn
  have HS := kp hss
  have hcap' : (n : Int) ≤ (cap : Int) := by omega
  clear hcell hcell' hfr hb2 hsz2 hn hss
  go_enter Try.func62, Try.ntmps62
  go_wp2
  go_loopw [11] (fun i wr => ∃ k : Nat, k ≤ n ∧ i = .int .i64 (k : Int) ∧ Kp (∀ i (h : i < (mixU X l k).length), wr.cell? ⟨w.heap.size, i, none⟩ = some (.int .u8 ((mixU X l k)[i].toNat : Int))) ∧ Kp (∀ i, i < n → wr.frozen? ⟨w.heap.size, i, none⟩ = false) ∧ Kp (Below w.heap.size w wr)) (fun i _ => n - (intOf i).toNat)
  case atStart => exact ⟨0, Nat.zero_le _, rfl, H1, H2, HB⟩
  case round =>
    clear H1 H2 HB
    obtain ⟨k, hk, rfl, H1, H2, HB⟩ := hrel
    by_cases hlt : k < n
    · have i1 : (k : Int) < (n : Int) := by omega
      have i2 : (0 : Int) ≤ (k : Int) := by omega
      have hkl : k < l.length := by rw [HN.out]; exact hlt
      have hml : k < (mixU X l k).length := by rw [mixU_length X l k HX.out (by omega)]; exact hkl
      have hg : (mixU X l k)[k] = l[k] := by
        have := mixU_get X l k HX.out hkl
        rw [List.getElem?_eq_getElem hml] at this
        injection this
      have hc1 := H1.out k hml
      rw [hg] at hc1
      have hset := kp (mixU_set X l k _ HX.out hkl (HXD.out k hkl))
      have hml2 := kp hml
      have he : bits .xor .u8 (l[k].toNat : Int) (c.toNat : Int) = (((l[k] ^^^ c).toNat : Nat) : Int) := by
        have := u8_xor_nat l[k].toNat c.toNat (UInt8.toNat_lt _) (UInt8.toNat_lt _)
        rw [UInt8.toNat_xor]
        exact this
      have hf1 := H2.out k hlt
      clear hg hml
      generalize l[k] ^^^ c = y at he hset
      generalize l[k] = x at he hc1
      go_wp2
      go_roundw
      case measure => simp [intOf]; omega
      case rel =>
        refine ⟨k + 1, by omega, by go_num, kp ?_, kp ?_, kp (bsc HB.out (Nat.le_refl _) _)⟩
        · rw [← hset.out]
          intro i h
          have := set_cells H1.out hml2.out y i h
          have ha : (⟨w.heap.size, 0, none⟩ : Addr).add i = ⟨w.heap.size, i, none⟩ := by rw [addr_add, Nat.zero_add]
          rw [ha] at this
          exact this
        · intro i hi
          have := H2.out i hi
          simpa [go_sem] using this
    · obtain rfl : k = n := by omega
      have hb := run_convert_bytes_back (P := Try.prog) wr 44 9 5 ⟨w.heap.size, 0, none⟩ cap (mixU X l k) Try.underlying44 Try.underlying5 Try.underlying9 (fun i h => by rw [addr_add, Nat.zero_add]; exact H1.out i h)
      rw [mixU_length X l k HX.out (by rw [HN.out]; exact Nat.le_refl _), HN.out, HA.out] at hb
      go_wp2
      go_ret
      exact ⟨rfl, HB.out⟩
end Go.Proofs.Ytfmfdhcmbnabpaa
