/- The law HeadJoins: for every input the call answers true, and each argument reads as it read before. No condition. -/
import Derived.Test.YtoifkfhbinfplaaLaw
import Derived.Test.YtoifkfhbinfplaaKHeadJoins
import Derived.Test.YtoifkfhbinfplaaArgH
import Derived.Test.YtoifkfhbinfplaaArgW
import Derived.SizedLaws
namespace Go.Proofs.Ytoifkfhbinfplaa
open Go Go.RowKit Go.ChangeShapes Go.WideShapes Go.ChangeAt
open Go.ChangeMaps (open_string)
set_option linter.unusedVariables false
set_option linter.unusedSimpArgs false

set_option maxRecDepth 100000 in
theorem headJoins_lifted (os : Os) (started : os.Started) (H : Type) (enc : TypeId × Value → H) :
    ReturnsInHanded {} Try.checked os 9 .any (Rows.headJoinsSpec.pre6 enc Try.prog Try.f9 Rows.headJoinsRow.domain false) (Rows.headJoinsSpec.post enc Try.prog Try.f9 false true false false) := by
  refine returnsInHanded_of_change_sized (C := Try.checked) Try.own started (by kernel_rfl) Try.func9
    (ChangeSpec.witness6 (enc := enc) (C := Try.checked) false ⟨#[], #[.agg zeroH.cells.toArray, .slice none 0 0, .agg #[.int .i64 0, .string ByteArray.empty]], []⟩ 8 (by kernel_rfl) (by kernel_rfl) (by kernel_rfl) (by kernel_rfl)) ?_
  intro W base args ds gs before hval0 hW hcnd hsz0 _
  have hval : ∀ (j : Nat) t v, Try.f9.params[j]? = some t → args[j]? = some v → Value.okWide Try.prog W .any base t v := hval0
  have hW' := hW
  obtain ⟨p, q, hA0, hV, rfl, hfz, hnd⟩ := hW
  have hA : DataW.TrodAll enc Try.prog W 0 (fun _ => true) true Try.f9.params.toList args.toList ds p := hA0
  rw [Try.params9] at hA hval
  obtain ⟨v0, vs0, d0, ds0, p0, q0, hargs, rfl, rfl, h0, r0⟩ := trodAll_cons hA
  obtain ⟨v1, vs1, d1, ds1, p1, q1, rfl, rfl, rfl, h1, r1⟩ := trodAll_cons r0
  obtain ⟨v2, vs2, d2, ds2, p2, q2, rfl, rfl, rfl, h2, r2⟩ := trodAll_cons r1
  obtain ⟨rfl, rfl, rfl⟩ := trodAll_nil r2
  obtain rfl : args = #[v0, v1, v2] := by cases args; simp_all
  obtain ⟨rfl, rfl⟩ := trodVars_none hV
  obtain ⟨x0, rfl, b0⟩ := open_head (hval 0 26 v0 rfl rfl) h0
  have hz1 : (d1.weights Try.prog 35).all (· ≤ reachBytes) = true := List.all_eq_true.2 fun n hn => List.all_eq_true.1 hsz0 _ (DataW.weights_mem_each (j := 1) (t := 35) (d := d1) (by rw [Try.params9]; rfl) rfl n hn)
  obtain ⟨ad1, c1, l1, rfl, b1⟩ := open_fieldsW (hval 1 35 v1 rfl rfl) h1 hz1
  obtain ⟨f2, rfl, b2⟩ := open_field (hval 2 48 v2 rfl rfl) h2
  clear hA0 hval0
  simp only [List.append_nil] at hW'
  refine (HeadJoins_walk W x0 ad1 c1 l1 f2 b0 b1 b2).mono fun e W' ⟨he, hg⟩ => ?_
  subst he
  exact ⟨_, rfl, law_post (tb := 4) Try.laidOut rfl (by rw [Try.params9]; kernel_rfl) rfl Try.underlying4 hW' rfl hg⟩

theorem headJoins_holds : Rows.HeadJoinsSaid :=
  OpenClaim.holds_of_wide 9 Try.f9 rfl rfl rfl rfl rfl rfl rfl ⟨rfl, rfl, rfl, rfl, rfl⟩ rfl rfl rfl rfl rfl (by kernel_rfl) Try.func9 (by kernel_rfl)
    (of_decide_eq_true (by kernel_rfl)) (by unfold Func.isWrapper; first | (rw [if_pos (by decide +kernel)]; kernel_rfl) | (rw [if_neg (by decide +kernel)]; exact ⟨rfl, rfl⟩))
    (fun os started H enc _ => headJoins_lifted os started H enc)

end Go.Proofs.Ytoifkfhbinfplaa
