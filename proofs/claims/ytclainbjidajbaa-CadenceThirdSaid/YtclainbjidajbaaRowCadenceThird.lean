/- CadenceThird returns true for every input and leaves its arguments as they are; no condition. -/
import Derived.Test.YtclainbjidajbaaLThr
import Derived.Test.YtclainbjidajbaaOpenFs
import Derived.Test.YtclainbjidajbaaOpenRat
namespace Go.Proofs.Ytclainbjidajbaa
open Go.ChangeShapes Go.WideShapes Go.ChangeAt Go.RowKit Go.Joins Go.Deep

set_option maxRecDepth 100000 in
theorem cadenceThird_lifted (os : Os) (started : os.Started) (H : Type) (enc : TypeId × Value → H) :
    ReturnsInHanded {} Try.checked os 6 .any (Rows.cadenceThirdSpec.pre6 enc Try.prog Try.f6 Rows.cadenceThirdRow.domain false) (Rows.cadenceThirdSpec.post enc Try.prog Try.f6 false true false false) := by
  refine returnsInHanded_of_change (C := Try.checked) Try.own started (by kernel_rfl) Try.func6
    (ChangeSpec.witness6 (enc := enc) (C := Try.checked) false ⟨#[], #[.slice none 0 0, .agg #[.int .i64 0, .int .i64 0], .agg #[.int .i64 0, .int .i64 0]], []⟩ 8 (by kernel_rfl) (by kernel_rfl) (by kernel_rfl) (by kernel_rfl)) ?_
  intro W base args ds gs before hval0 hW _ _
  have hval : ∀ (j : Nat) t v, Try.f6.params[j]? = some t → args[j]? = some v → Value.okWide Try.prog W .any base t v := hval0
  have hW' := hW
  obtain ⟨p, q, hA0, hV, rfl, hfz, hnd⟩ := hW
  have hA : DataW.TrodAll enc Try.prog W 0 (fun _ => true) true Try.f6.params.toList args.toList ds p := hA0
  rw [Try.params6] at hA hval
  obtain ⟨rfl, rfl⟩ := trodVars_none hV
  obtain ⟨v0, vs0, d0, ds0, p0, q0, hargs, rfl, rfl, h0, r0⟩ := trodAll_cons hA
  obtain ⟨v1, vs1, d1, ds1, p1, q1, rfl, rfl, rfl, h1, r1⟩ := trodAll_cons r0
  obtain ⟨v2, vs2, d2, ds2, p2, q2, rfl, rfl, rfl, h2, r2⟩ := trodAll_cons r1
  obtain ⟨rfl, rfl, rfl⟩ := trodAll_nil r2
  obtain rfl : args = #[v0, v1, v2] := by cases args; simp_all
  obtain ⟨A0, n0, c0, l0, rfl, hf0, hk0⟩ := open_itk (hval 0 _ v0 rfl rfl) h0
  obtain ⟨a1, b1, rfl, wa1, wb1⟩ := open_rat (hval 1 _ v1 rfl rfl) h1
  obtain ⟨a2, b2, rfl, wa2, wb2⟩ := open_rat (hval 2 _ v2 rfl rfl) h2
  refine (law_CadenceThird A0 n0 c0 l0 a1 b1 a2 b2 W hf0 hk0 wa1 wb1 wa2 wb2).mono fun e W' ⟨he, hb⟩ => ?_
  subst he
  exact ⟨_, rfl, law_post Try.laidOut rfl (by kernel_rfl) (by kernel_rfl) Try.underlying4 hW' rfl hb⟩

theorem cadenceThird_holds : Rows.CadenceThirdSaid :=
  OpenClaim.holds_of_wide 6 Try.f6 rfl rfl rfl rfl rfl rfl rfl ⟨rfl, rfl, rfl, rfl, rfl⟩ rfl rfl rfl rfl rfl (by kernel_rfl) Try.func6 (by kernel_rfl)
    (of_decide_eq_true (by kernel_rfl)) (by unfold Func.isWrapper; first | (rw [if_pos (by decide +kernel)]; kernel_rfl) | (rw [if_neg (by decide +kernel)]; exact ⟨rfl, rfl⟩))
    (fun os started H enc _ => cadenceThird_lifted os started H enc)

end Go.Proofs.Ytclainbjidajbaa
