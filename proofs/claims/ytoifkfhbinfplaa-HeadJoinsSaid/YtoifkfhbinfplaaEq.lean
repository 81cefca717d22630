/- Arrays compared. -/
import Derived.Test.YtoifkfhbinfplaaStp
import Derived.Laws.StructEq
import Derived.Test.YtoifkfhbinfplaaProg
namespace Go.Proofs.Ytoifkfhbinfplaa
open Go Go.RowKit
set_option linter.unusedVariables false
set_option linter.unusedSimpArgs false

theorem run_part {P : Program} (e : TypeId) (cs : Array Value) (k : Nat) (v : Value) (w : World) (hf : flatB P e = true) (hv : cs[k]? = some v) : (part e cs k).run P w = .ok v w := by
  unfold flatB at hf
  cases hd : P.underlying e with
  | none => rw [hd] at hf; cases hf
  | some d =>
    rw [hd] at hf
    have hagg : (isAgg e).run P w = .ok false w := by
      unfold isAgg
      rw [Sem.run_bind, run_underlying hd w]
      cases d <;> simp_all
    simp [part, Sem.run_bind, hagg, hv]

theorem eq_loop {P : Program} (d e : Nat) (D E : List UInt8) (w : World) (he : P.underlying e = some (.int .u8)) (hl : D.length = E.length) : ∀ (L : List Nat), (∀ k ∈ L, k < D.length) →
    (forIn L (none, ()) fun i (__s : Option Bool × Unit) => do
        let a ← part e (cellsU8 D).toArray (i * 1)
        let b ← part e (cellsU8 E).toArray (i * 1)
        let r ← Op.equalIn (d + 1) e a b
        if (!r) = true then pure (ForInStep.done (some false, ())) else pure (ForInStep.yield (none, ()))).run P w = .ok (if ∀ k ∈ L, D[k]? = E[k]? then (none, ()) else (some false, ())) w
  | [], _ => by simp
  | k :: L, hk => by
    have h1 : k < D.length := hk k (by simp)
    have h2 : k < E.length := by omega
    have hf : flatB P e = true := by unfold flatB; rw [he]
    have p1 := run_part (P := P) e (cellsU8 D).toArray (k * 1) _ w hf (by rw [Nat.mul_one]; simpa using cellsU8_get D k h1)
    have p2 := run_part (P := P) e (cellsU8 E).toArray (k * 1) _ w hf (by rw [Nat.mul_one]; simpa using cellsU8_get E k h2)
    have p3 := run_equalIn_int (P := P) w d e .u8 .u8 (D[k].toNat : Int) (E[k].toNat : Int) he
    rw [List.forIn_cons]
    simp only [Sem.run_bind, p1, p2, p3, Result.andThen_ok]
    by_cases hx : D[k] = E[k]
    · have hb : ((D[k].toNat : Int) == (E[k].toNat : Int)) = true := by rw [hx]; simp
      have ih := eq_loop d e D E w he hl L (fun j hj => hk j (by simp [hj]))
      simp only [hb, Bool.not_true, Bool.false_eq_true, if_false, Sem.run_pure, Result.andThen_ok]
      rw [ih]
      congr 1
      have hx2 : D[k]? = E[k]? := by rw [List.getElem?_eq_getElem h1, List.getElem?_eq_getElem h2, hx]
      simp [hx2]
    · have hb : ((D[k].toNat : Int) == (E[k].toNat : Int)) = false := by
        simp only [beq_eq_false_iff_ne, ne_eq]
        intro h
        exact hx (UInt8.toNat_inj.1 (by omega))
      have hx2 : ¬ D[k]? = E[k]? := by
        rw [List.getElem?_eq_getElem h1, List.getElem?_eq_getElem h2]
        intro h; injection h with h; exact hx h
      simp only [hb, Bool.not_false, if_true, Sem.run_pure, Result.andThen_ok]
      simp [hx2]

theorem run_equalIn_u8arr {P : Program} (d n t e : Nat) (D E : List UInt8) (w : World) (hu : P.underlying t = some (.array n e)) (he : P.underlying e = some (.int .u8)) (hi : (P.info? e).map (·.size) = some 1) (hD : D.length = n) (hE : E.length = n) :
    (Op.equalIn (d + 2) t (.agg (cellsU8 D).toArray) (.agg (cellsU8 E).toArray)).run P w = .ok (decide (D = E)) w := by
  cases hq : P.info? e with
  | none => simp [hq] at hi
  | some i =>
    have hs : i.size = 1 := by simpa [hq] using hi
    have key := eq_loop (P := P) d e D E w he (by omega) (List.range' 0 n) (fun k hk => by have := List.mem_range'.1 hk; omega)
    unfold Op.equalIn
    simp only [Sem.run_bind, run_underlying hu, Result.andThen_ok, sizeOf, typeInfo, run_program, hq, Sem.run_pure]
    simp only [hs, Std.Legacy.Range.forIn_eq_forIn_range', Std.Legacy.Range.size]
    rw [show (n - 0 + 1 - 1) / 1 = n by omega, key]
    simp only [Result.andThen_ok]
    by_cases h : D = E
    · subst h
      simp
    · have : ¬ ∀ k ∈ List.range' 0 n, D[k]? = E[k]? := fun hall => h (List.ext_getElem? fun k => by
        by_cases hk : k < n
        · exact hall k (List.mem_range'.2 ⟨k, hk, by omega⟩)
        · rw [List.getElem?_eq_none (by omega), List.getElem?_eq_none (by omega)])
      rw [if_neg this]
      simp [h]
end Go.Proofs.Ytoifkfhbinfplaa
