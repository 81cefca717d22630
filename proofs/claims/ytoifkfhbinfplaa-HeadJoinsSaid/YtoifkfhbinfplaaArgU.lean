/- slices of extensions whose bulk is bounded. -/
import Derived.Test.YtoifkfhbinfplaaArgH
import Derived.Test.YtoifkfhbinfplaaRows
namespace Go.Proofs.Ytoifkfhbinfplaa
open Go Go.RowKit Go.ChangeShapes Go.WideShapes Go.ChangeAt Go.Deep
set_option linter.unusedVariables false
set_option linter.unusedSimpArgs false

theorem bulk_part {H : Type} {d : DataW H} {l : List (DataW H)} (h : d ∈ l) : Rows.uptoBulk d ≤ Rows.uptoBulkAll l := by
  induction l with
  | nil => cases h
  | cons x r ih =>
    simp only [Rows.uptoBulkAll]
    cases List.mem_cons.1 h with
    | inl e => subst e; omega
    | inr e => have := ih e; omega
theorem bulk_one {H : Type} (d : DataW H) : 1 ≤ Rows.uptoBulk d := by
  cases d with
  | lit l => cases l <;> simp [Rows.uptoBulk]
  | nil => simp [Rows.uptoBulk]
  | ptr d => simp [Rows.uptoBulk]
  | slice elems spare => simp [Rows.uptoBulk]
  | agg parts => simp [Rows.uptoBulk]
  | iface t d => simp [Rows.uptoBulk]
  | map entries => simp [Rows.uptoBulk]
  | held h => simp [Rows.uptoBulk]
theorem bulk_len {H : Type} (l : List (DataW H)) : l.length ≤ Rows.uptoBulkAll l := by
  induction l with
  | nil => simp [Rows.uptoBulkAll]
  | cons x r ih => have := bulk_one x; simp only [Rows.uptoBulkAll, List.length_cons]; omega
theorem bulk_bound {H : Type} {l : List (DataW H)} (hk : Rows.uptoSmall H l = true) : Rows.uptoBulkAll l ≤ 1048576 := of_decide_eq_true hk
section
variable {H : Type} {enc : TypeId × Value → H} {w : World} {base : Nat} {spare : Nat → Bool} {held : Bool}
theorem field_bulk {fuel : Nat} {cs : List Value} {x : DataW H × List MemPlace} (h : DataW.trod enc Try.prog w base spare held fuel 48 cs = some x) : ∃ (v : Value) (s : ByteArray), cs = [v, .string s] ∧ s.size ≤ Rows.uptoBulk x.1 := by
  obtain ⟨y0, y1, n, rfl, hl, h0, h1⟩ := trod_struct2 Try.underlying48 h
  obtain ⟨s, hs, hy, _⟩ := DataW.trod_string Try.underlying9 h1
  have h2 : cs.length = 2 := by rw [hl]; kernel_rfl
  match cs, h2 with
  | [v, u], _ =>
    have hc1 : Try.prog.cellsOf 9 = 1 := by kernel_rfl
    have e : ([v, u].drop 1).take (Try.prog.cellsOf 9) = [.string s] := hs
    rw [hc1] at e
    simp only [List.drop_succ_cons, List.drop_zero, List.take_succ_cons, List.take_zero, List.cons.injEq, and_true] at e
    subst e
    refine ⟨v, s, rfl, ?_⟩
    have e2 : s.data.toList.length = s.size := by rw [Array.length_toList]; rfl
    simp only [Rows.uptoBulk, Rows.uptoBulkAll, hy]
    omega
theorem fields_bulk {d : DataW H} {ps : List MemPlace} {ad : Option Addr} {c : Nat} {l : List Fd} (h : DataW.Trod enc Try.prog w base spare held 35 (.slice ad l.length c) d ps) (hs : FS w ad l) :
    l.length ≤ Rows.uptoBulk d ∧ ∀ f ∈ l, f.d.size ≤ Rows.uptoBulk d := by
  obtain ⟨fuel, hf⟩ := h
  rcases open_slice Try.underlying35 hf with ⟨hcs, hx⟩ | ⟨a, len, cap, m, q, D, Pl, hcs, hb, hlc, hm, hmm, hx, hi⟩
  · have e : Value.slice ad l.length c = .slice none 0 0 := by simpa [Value.cells] using hcs
    injection e with _ e2 _
    have hl : l = [] := List.length_eq_zero_iff.1 e2
    subst hl
    exact ⟨Nat.zero_le _, by simp⟩
  · have e : Value.slice ad l.length c = .slice (some a) len cap := by simpa [Value.cells] using hcs
    injection e with e1 e2 _
    have hlm : len ≤ m := by rw [hmm]; split <;> omega
    injection hx with hx1 _
    subst hx1
    have hD : ∀ i, i < len → Rows.uptoBulk (D i) ≤ Rows.uptoBulkAll ((List.range len).map D) := fun i hil => bulk_part (List.mem_map.2 ⟨i, by simpa using hil, rfl⟩)
    have hL := bulk_len ((List.range len).map D)
    rw [List.length_map, List.length_range] at hL
    refine ⟨by simp only [Rows.uptoBulk]; omega, fun f hfl => ?_⟩
    obtain ⟨i, hi1, hi2⟩ := List.getElem_of_mem hfl
    have hil : i < len := by omega
    obtain ⟨b, o, hab, hbl, hh⟩ := hs (fun e => by subst e; simp at hi1)
    obtain ⟨_, q1⟩ := hh i f (by rw [List.getElem?_eq_getElem hi1, hi2])
    obtain ⟨cs', h1, h2⟩ := hi i (by omega)
    have hc : Try.prog.cellsOf 48 = 2 := by kernel_rfl
    rw [hc] at h1
    obtain ⟨_, _, h3⟩ := World.cells?_some h1
    obtain ⟨v, s, rfl, hsz⟩ := field_bulk h2
    have h4 := h3 1 (by decide)
    rw [e1] at hab
    injection hab with hab
    rw [hab, add_plain, add_plain, q1] at h4
    have h5 : f.d = s := by
      have h6 : some (Value.string f.d) = some (.string s) := h4
      injection h6 with h6
      injection h6
    have := hD i hil
    have hsz2 : s.size ≤ Rows.uptoBulk (D i) := hsz
    rw [h5]
    simp only [Rows.uptoBulk]
    omega
theorem sum_le (N : Nat) : ∀ (l : List Fd), (∀ f ∈ l, f.d.size ≤ N) → sumF l ≤ l.length * (4 + N)
  | [], _ => Nat.zero_le _
  | f :: l, h => by
    have h1 := sum_le N l (fun g hg => h g (by simp [hg]))
    have h2 := h f (by simp)
    have e : sumF (f :: l) = 4 + f.d.size + sumF l := by simp [sumF]
    rw [e, List.length_cons, Nat.succ_mul]
    omega
end
theorem body_sum : ∀ l : List Fd, (bodyL l).length ≤ 2 * sumF l
  | [] => Nat.zero_le _
  | f :: l => by
    have h1 := body_sum l
    have e1 : sumF (f :: l) = 4 + f.d.size + sumF l := by simp [sumF]
    have e2 : bodyL (f :: l) = f.bytes ++ bodyL l := by simp [bodyL]
    have h2 := padN_lt f.d.size 4 (by decide)
    rw [e1, e2, List.length_append, Fd.len]
    omega
theorem large_false (l : List Fd) (h1 : l.length ≤ 1048576) (h2 : ∀ f ∈ l, f.d.size ≤ 1048576) (h : ¬ 2048 < wsumF l) : (bodyL l).length ≤ 4096 := by
  have h3 := sum_le 1048576 l h2
  have h4 : l.length * (4 + 1048576) ≤ 1048576 * (4 + 1048576) := Nat.mul_le_mul_right _ h1
  have h5 := wsumF_eq _ l rfl (by omega)
  have h6 := body_sum l
  omega
end Go.Proofs.Ytoifkfhbinfplaa
