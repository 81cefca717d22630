/- head: extensions; Find. -/
import Derived.Test.YtoifkfhbinfplaaHd10
import Derived.Test.YtoifkfhbinfplaaArg
namespace Go.Proofs.Ytoifkfhbinfplaa
open Go Go.RowKit
set_option linter.unusedVariables false
set_option linter.unusedSimpArgs false
attribute [local go_sem] bmax2 bmin2 bmax bmin cell_ext frozen_ext

/-- an extension -/
structure Fd where
  k : Int
  d : ByteArray
def Fd.row (f : Fd) : List Value := fieldL f.k f.d
/-- from cell o of block b on lie the extensions l -/
def HoldsF (w : World) (b o : Nat) (l : List Fd) : Prop := ∀ (i : Nat) (f : Fd), l[i]? = some f → w.cell? ⟨b, o + i * 2, none⟩ = some (.int .i64 f.k) ∧ w.cell? ⟨b, o + i * 2 + 1, none⟩ = some (.string f.d)
/-- a slice's address, and what lies there -/
def FS (w : World) (ad : Option Addr) (l : List Fd) : Prop := l ≠ [] → ∃ b o, ad = some ⟨b, o, none⟩ ∧ b < w.heap.size ∧ HoldsF w b o l
variable {w w' : World} {ad : Option Addr} {l : List Fd} {b o : Nat}
theorem HoldsF.bel (h : HoldsF w b o l) (hlt : b < w.heap.size) (hb : Below w.heap.size w w') : HoldsF w' b o l := fun i f hf => by
  obtain ⟨h1, h2⟩ := h i f hf
  exact ⟨(hb.cell (p := ⟨b, o + i * 2, none⟩) hlt).trans h1, (hb.cell (p := ⟨b, o + i * 2 + 1, none⟩) hlt).trans h2⟩
theorem HoldsF.below {B : Nat} (h : HoldsF w b o l) (hlt : b < B) (hb : Below B w w') : HoldsF w' b o l := fun i f hf => by
  obtain ⟨h1, h2⟩ := h i f hf
  exact ⟨(hb.cell (p := ⟨b, o + i * 2, none⟩) hlt).trans h1, (hb.cell (p := ⟨b, o + i * 2 + 1, none⟩) hlt).trans h2⟩
theorem FS.bel (h : FS w ad l) (hb : Below w.heap.size w w') : FS w' ad l := fun hl => by
  obtain ⟨b, o, rfl, h1, h2⟩ := h hl
  exact ⟨b, o, rfl, Nat.lt_of_lt_of_le h1 hb.size, h2.bel h1 hb⟩
theorem FS.take (h : FS w ad l) (n : Nat) : FS w ad (l.take n) := fun hl => by
  obtain ⟨b, o, rfl, h1, h2⟩ := h (fun e => hl (by rw [e, List.take_nil]))
  exact ⟨b, o, rfl, h1, fun i f hf => h2 i f (by rw [List.getElem?_take] at hf; split at hf; exact hf; cases hf)⟩
theorem FS.nil : FS w ad [] := fun h => absurd rfl h
theorem FS.rows (h : RowsAt w ad 2 (l.map Fd.row)) : FS w ad l := fun hl => by
  obtain ⟨b, o, he, hb, hc⟩ := h (by simpa using hl)
  refine ⟨b, o, he, hb, fun i f hf => ?_⟩
  have := hc i f.row (by rw [List.getElem?_map, hf]; rfl)
  exact ⟨this 0 _ rfl, this 1 _ rfl⟩
/-- what is found -/
def findF (k : Int) : List Fd → ByteArray × Bool
  | [] => (str [], false)
  | f :: l => if f.k = k then (f.d, true) else findF k l
theorem findF_drop {k : Int} {l : List Fd} {j : Nat} {f : Fd} (h : l[j]? = some f) : findF k (l.drop j) = if f.k = k then (f.d, true) else findF k (l.drop (j + 1)) := by
  obtain ⟨hj, he⟩ := List.getElem?_eq_some_iff.1 h
  rw [List.drop_eq_getElem_cons hj, he]
  rfl
theorem two {w W : World} {a b : Value} {T : TypeId} (hW : w.alloc (.cells #[a, b] T) = W) :
    W.cell? ⟨w.heap.size, 0, none⟩ = some a ∧ W.cell? ⟨w.heap.size, 1, none⟩ = some b ∧ W.frozen? ⟨w.heap.size, 0, none⟩ = false ∧ W.frozen? ⟨w.heap.size, 1, none⟩ = false := by
  subst hW
  have h := Blk.new w T #[a, b]
  exact ⟨h.at rfl, h.at rfl, h.frozen 0, h.frozen 1⟩
set_option maxHeartbeats 1000000 in
theorem M_Find (ad : Option Addr) (c : Nat) (l : List Fd) (k : Int) (w : World) (hl : l.length ≤ 1099511627776) (hs : FS w ad l) :
    Calls Try.prog 24 #[.slice ad l.length c, .int .i64 k] w fun e w' => e = .returned (.tuple #[.string (findF k l).1, .bool (findF k l).2]) ∧ Below w.heap.size w w' := by
  have HS := kp hs
  obtain ⟨R, hR⟩ : ∃ R, findF k l = R := ⟨_, rfl⟩
  have HR : Kp (findF k (l.drop 0) = R) := kp hR
  rw [hR]
  clear hs hR
  go_enter Try.func24, Try.ntmps24
  go_wp2
  go_loopw [10] (fun i wr => ∃ j : Nat, j ≤ l.length ∧ i = .int .i64 (j : Int) ∧ Kp (FS wr ad l) ∧ Kp (Below w.heap.size w wr) ∧ Kp (findF k (l.drop j) = R)) (fun i _ => l.length - (intOf i).toNat)
  case atStart => exact ⟨0, by omega, rfl, HS, kp (Below.refl _ _), HR⟩
  case round =>
    clear HS HR
    obtain ⟨j, hj, rfl, HS, HB, HR⟩ := hrel
    by_cases h : j < l.length
    · have g : decide ((j : Int) < (l.length : Int)) = true := by simp; omega
      obtain ⟨f, hf⟩ : ∃ f, l[j]? = some f := ⟨l[j], by simp [h]⟩
      obtain ⟨b, o, rfl, hb, hh⟩ := HS.out (fun e => by subst e; simp at h)
      obtain ⟨q0, q1⟩ := hh j f hf
      rw [findF_drop hf] at HR
      have HFF := kp hf
      clear hh hf
      have HA := kp (ba (Below.refl wr.heap.size wr) (.cells #[.int .i64 f.k, .string f.d] 48))
      have HSX := kp (HS.out.bel HA.out)
      have HBX := kp (bt' HB.out HA.out HB.out.size)
      clear HS HA
      by_cases hk : f.k = k
      · have g2 : (f.k == k) = true := by simp [hk]
        rw [if_pos hk] at HR
        have hR := HR.out
        subst hR
        go_wp2
        go_ret2
        exact ⟨rfl, by rw [← hk]; exact HBX.out⟩
      · have g2 : (f.k == k) = false := by simp [hk]
        rw [if_neg hk] at HR
        go_wp2
        go_roundw
        case measure => simp [intOf]; omega
        case rel => exact ⟨j + 1, by omega, rfl, HSX, HBX, HR⟩
    · have g : decide ((j : Int) < (l.length : Int)) = false := by simp; omega
      obtain rfl : j = l.length := by omega
      rw [List.drop_length] at HR
      have hR := HR.out
      subst hR
      go_wp2
      go_ret2
      exact ⟨rfl, HB.out⟩
end Go.Proofs.Ytoifkfhbinfplaa
