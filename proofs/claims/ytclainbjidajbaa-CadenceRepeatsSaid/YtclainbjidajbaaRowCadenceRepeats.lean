/- CadenceRepeats returns true for every input and leaves its arguments as they are; no condition. -/
import Derived.Test.YtclainbjidajbaaLRep
import Derived.Test.YtclainbjidajbaaOpenFs
namespace Go.Proofs.Ytclainbjidajbaa
open Go.ChangeShapes Go.WideShapes Go.ChangeAt Go.RowKit Go.Joins Go.Deep

set_option maxRecDepth 100000 in
theorem cadenceRepeats_lifted (os : Os) (started : os.Started) (H : Type) (enc : TypeId × Value → H) :
    ReturnsInHanded {} Try.checked os 3 .any (Rows.cadenceRepeatsSpec.pre6 enc Try.prog Try.f3 Rows.cadenceRepeatsRow.domain false) (Rows.cadenceRepeatsSpec.post enc Try.prog Try.f3 false true false false) := by
  refine returnsInHanded_of_change_sized (C := Try.checked) Try.own started (by kernel_rfl) Try.func3
    (ChangeSpec.witness6 (enc := enc) (C := Try.checked) false ⟨#[], #[.slice none 0 0, .slice none 0 0, .slice none 0 0], []⟩ 8 (by kernel_rfl) (by kernel_rfl) (by kernel_rfl) (by kernel_rfl)) ?_
  intro W base args ds gs before hval0 hW _ hsz _
  have hval : ∀ (j : Nat) t v, Try.f3.params[j]? = some t → args[j]? = some v → Value.okWide Try.prog W .any base t v := hval0
  have hW' := hW
  obtain ⟨p, q, hA0, hV, rfl, hfz, hnd⟩ := hW
  have hA : DataW.TrodAll enc Try.prog W 0 (fun _ => true) true Try.f3.params.toList args.toList ds p := hA0
  rw [Try.params3] at hA hval
  obtain ⟨rfl, rfl⟩ := trodVars_none hV
  obtain ⟨v0, vs0, d0, ds0, p0, q0, hargs, rfl, rfl, h0, r0⟩ := trodAll_cons hA
  obtain ⟨v1, vs1, d1, ds1, p1, q1, rfl, rfl, rfl, h1, r1⟩ := trodAll_cons r0
  obtain ⟨v2, vs2, d2, ds2, p2, q2, rfl, rfl, rfl, h2, r2⟩ := trodAll_cons r1
  obtain ⟨rfl, rfl, rfl⟩ := trodAll_nil r2
  obtain rfl : args = #[v0, v1, v2] := by cases args; simp_all
  obtain ⟨A0, n0, c0, l0, rfl, hf0, hk0⟩ := open_itk (hval 0 _ v0 rfl rfl) h0
  obtain ⟨A1, n1, c1, l1, rfl, hf1, hn1, _, hd1⟩ := open_frs (hval 1 _ v1 rfl rfl) h1
  obtain ⟨A2, n2, c2, l2, rfl, hf2, hk2⟩ := open_itk (hval 2 _ v2 rfl rfl) h2
  have b1 : n1 * 88 ≤ 140737488351232 := by
    rcases hd1 with h | ⟨el, sp, rfl, hl⟩
    · omega
    · have hb := sized_slice (P := Try.prog) hsz (j := 1) (t := 23) rfl rfl Try.underlying23
      rw [show Try.prog.bytesOf 27 = 88 by kernel_rfl, hl] at hb
      simp only [reachBytes] at hb
      omega
  refine (law_CadenceRepeats A0 n0 c0 l0 A1 n1 c1 l1 A2 n2 c2 l2 W hf0 hk0 hf1 hf2 hk2 b1).mono fun e W' ⟨he, hb⟩ => ?_
  subst he
  exact ⟨_, rfl, law_post Try.laidOut rfl (by kernel_rfl) (by kernel_rfl) Try.underlying4 hW' rfl hb⟩

theorem cadenceRepeats_holds : Rows.CadenceRepeatsSaid :=
  OpenClaim.holds_of_wide 3 Try.f3 rfl rfl rfl rfl rfl rfl rfl ⟨rfl, rfl, rfl, rfl, rfl⟩ rfl rfl rfl rfl rfl (by kernel_rfl) Try.func3 (by kernel_rfl)
    (of_decide_eq_true (by kernel_rfl)) (by unfold Func.isWrapper; first | (rw [if_pos (by decide +kernel)]; kernel_rfl) | (rw [if_neg (by decide +kernel)]; exact ⟨rfl, rfl⟩))
    (fun os started H enc _ => cadenceRepeats_lifted os started H enc)

end Go.Proofs.Ytclainbjidajbaa
