/- arguments that are heads, extensions, slices of them. -/
import Derived.Test.YtoifkfhbinfplaaArg
import Derived.Test.YtoifkfhbinfplaaHd21
namespace Go.Proofs.Ytoifkfhbinfplaa
open Go Go.RowKit Go.ChangeShapes Go.WideShapes Go.ChangeAt
set_option linter.unusedVariables false
set_option linter.unusedSimpArgs false

theorem nat_u32 {c : Int} (h : (Lit.int .u32 c).wf = true) : ∃ n : Nat, c = n ∧ n < 4294967296 := by
  have := wf_u32 h
  exact ⟨c.toNat, by omega, by omega⟩
def wfF (f : Fd) : Prop := (Lit.int .i64 f.k).wf = true ∧ f.d.size ≤ maxLen
section
variable {H : Type} {enc : TypeId × Value → H} {w : World} {base : Nat} {spare : Nat → Bool} {held : Bool}
set_option maxRecDepth 100000 in
theorem open_head {r : Reach} {b0 : Nat} {v : Value} {d : DataW H} {ps : List MemPlace} (hv : Value.okWide Try.prog w r b0 26 v) (h : DataW.Trod enc Try.prog w base spare held 26 v d ps) :
    ∃ x : Hd, v = .agg x.cells.toArray ∧ x.ok := by
  obtain ⟨cs, rfl, hf⟩ := open_agg 4 [.int .i64, .int .i64, .int .i64, .int .i64, .int .i64, .int .i64, .int .u32, .int .u32, .int .u32, .int .u64, .int .u64, .int .u64, .int .u64] (by kernel_rfl) (by kernel_rfl) hv h
  obtain ⟨a, cs, rfl, _, hf⟩ := hf.int
  obtain ⟨b, cs, rfl, _, hf⟩ := hf.int
  obtain ⟨c, cs, rfl, _, hf⟩ := hf.int
  obtain ⟨d, cs, rfl, _, hf⟩ := hf.int
  obtain ⟨e, cs, rfl, _, hf⟩ := hf.int
  obtain ⟨f, cs, rfl, _, hf⟩ := hf.int
  obtain ⟨g, cs, rfl, hg, hf⟩ := hf.int
  obtain ⟨h', cs, rfl, hh, hf⟩ := hf.int
  obtain ⟨i, cs, rfl, hi, hf⟩ := hf.int
  obtain ⟨j, cs, rfl, hj, hf⟩ := hf.int
  obtain ⟨k, cs, rfl, hk, hf⟩ := hf.int
  obtain ⟨l, cs, rfl, hl, hf⟩ := hf.int
  obtain ⟨m, cs, rfl, hm, hf⟩ := hf.int
  obtain rfl := hf.nil
  obtain ⟨g2, e_hg, hg2⟩ := nat_u32 hg
  subst e_hg
  obtain ⟨h'2, e_hh, hh2⟩ := nat_u32 hh
  subst e_hh
  obtain ⟨i2, e_hi, hi2⟩ := nat_u32 hi
  subst e_hi
  obtain ⟨j2, e_hj, hj2⟩ := nat_u64 hj
  subst e_hj
  obtain ⟨k2, e_hk, hk2⟩ := nat_u64 hk
  subst e_hk
  obtain ⟨l2, e_hl, hl2⟩ := nat_u64 hl
  subst e_hl
  obtain ⟨m2, e_hm, hm2⟩ := nat_u64 hm
  subst e_hm
  exact ⟨⟨a, b, c, d, e, f, g2, h'2, i2, j2, k2, l2, m2⟩, rfl, ⟨hg2, hh2, hi2, hj2, hk2, hl2, hm2⟩⟩
theorem fits_field {r : List Value} (hr : Fits [.int .i64, .str] r) : ∃ f : Fd, r = f.row ∧ wfF f := by
  obtain ⟨k, r, rfl, hk, hr⟩ := hr.int
  obtain ⟨d, r, rfl, hd, hr⟩ := hr.str
  obtain rfl := hr.nil
  exact ⟨⟨k, d⟩, rfl, hk, hd⟩
set_option maxRecDepth 100000 in
theorem open_field {r : Reach} {b0 : Nat} {v : Value} {d : DataW H} {ps : List MemPlace} (hv : Value.okWide Try.prog w r b0 48 v) (h : DataW.Trod enc Try.prog w base spare held 48 v d ps) :
    ∃ f : Fd, v = .agg f.row.toArray ∧ wfF f := by
  obtain ⟨cs, rfl, hf⟩ := open_agg 4 [.int .i64, .str] (by kernel_rfl) (by kernel_rfl) hv h
  obtain ⟨f, rfl, hw⟩ := fits_field hf
  exact ⟨f, rfl, hw⟩
set_option maxRecDepth 100000 in
theorem open_fields {r : Reach} {b0 : Nat} {v : Value} {d : DataW H} {ps : List MemPlace} (hv : Value.okWide Try.prog w r b0 35 v) (h : DataW.Trod enc Try.prog w base spare held 35 v d ps) :
    ∃ (ad : Option Addr) (c : Nat) (l : List Fd), v = .slice ad l.length c ∧ l.length ≤ maxLen ∧ l.length ≤ c ∧ c ≤ maxLen ∧ (∀ f ∈ l, wfF f) ∧ FS w ad l := by
  obtain ⟨ad, c, rows, rfl, h1, h2, h3, h4⟩ := open_rows 4 [.int .i64, .str] Try.underlying35 (by kernel_rfl) (by kernel_rfl) (by decide) hv h
  obtain ⟨l, rfl, hl⟩ := rows_map Fd.row wfF (fun r hr => fits_field hr) rows h3
  exact ⟨ad, c, l, by simp, by simpa using Nat.le_trans h1 h2, by simpa using h1, h2, hl, FS.rows h4⟩
theorem open_stamp {r : Reach} {b0 : Nat} {v : Value} {d : DataW H} {ps : List MemPlace} (hv : Value.okWide Try.prog w r b0 24 v) (h : DataW.Trod enc Try.prog w base spare held 24 v d ps) :
    ∃ n : Nat, v = .int .u64 (n : Int) ∧ n < 18446744073709551616 := by
  obtain ⟨a, rfl, rfl, rfl, b⟩ := open_int Try.underlying24 hv h
  obtain ⟨n, rfl, hn⟩ := nat_u64 b
  exact ⟨n, rfl, hn⟩
end
end Go.Proofs.Ytoifkfhbinfplaa
