
/- FnExactCodeName returns true, whatever the input, and writes nothing that was there. Conditions: none. -/
import Derived.Test.YtfmoekfeajfidaaLift
import Derived.Test.YtfmoekfeajfidaaCName
namespace Go.Proofs.Ytfmoekfeajfidaa.fnExactCodeName
open Go.ChangeShapes Go.WideShapes Go.ChangeAt Go.RowKit
set_option linter.unusedVariables false

set_option maxHeartbeats 4000000 in
set_option maxRecDepth 100000 in
theorem walk (d0 : Int) (w : World) (lo0 : -9223372036854775808 ≤ d0) (hi0 : d0 ≤ 9223372036854775807) :
    Calls Try.prog 4 #[.int .i64 d0] w fun e w' => e = .returned (.bool true) ∧ Ext w w' := by
  have hE : Ext w w := (Ext.refl' w)
  go_enter Try.func4, Try.ntmps4
  go_wp2_with fail
  refine (specCodeName_any d0 _ lo0 hi0).mono ?_
  rintro e w1 ⟨rfl, hC⟩
  have q0 : w.heap.size ≤ w1.heap.size := hC.size
  replace hE := hE.tr hC
  clear hC
  go_wp2_with fail
  refine (implCodeName_any d0 _ lo0 hi0).mono ?_
  rintro e w2 ⟨rfl, hC⟩
  have q1 : w1.heap.size ≤ w2.heap.size := hC.size
  replace hE := hE.tr hC
  clear hC
  go_wp2_with fail
  go_ret
  exact ⟨rfl, hE⟩

set_option maxRecDepth 100000 in
theorem lifted (os : Os) (started : os.Started) (H : Type) (enc : TypeId × Value → H) :
    ReturnsInHanded {} Try.checked os 4 .any (Rows.fnExactCodeNameSpec.pre6 enc Try.prog Try.f4 Rows.fnExactCodeNameRow.domain false) (Rows.fnExactCodeNameSpec.post enc Try.prog Try.f4 false true false false) := by
  refine returnsInHanded_of_change (C := Try.checked) own_knob started (by kernel_rfl) Try.func4
    (ChangeSpec.witness6 (enc := enc) (C := Try.checked) false ⟨#[], #[.int .i64 0], []⟩ 8 (by kernel_rfl) (by kernel_rfl) (by kernel_rfl) (by kernel_rfl)) ?_
  intro W base args ds gs before hval0 hW hcnd _
  have hval : ∀ (j : Nat) t v, Try.f4.params[j]? = some t → args[j]? = some v → Value.okWide Try.prog W .any base t v := hval0
  have hW' := hW
  obtain ⟨p, q, hA0, hV, rfl, hfz, hnd⟩ := hW
  have hA : DataW.TrodAll enc Try.prog W 0 (fun _ => true) true Try.f4.params.toList args.toList ds p := hA0
  rw [Try.params4] at hA hval
  obtain ⟨v0, d0, rfl, rfl, k0⟩ := trodAll_one hA
  obtain ⟨rfl, rfl⟩ := trodVars_none hV
  clear hA0 hval0
  simp only [List.append_nil] at hW'
  obtain ⟨e0, rfl, lo0, hi0⟩ := int_of k0 (hval 0 _ _ rfl rfl)
  refine (walk e0 W  lo0 hi0).mono fun e W' ⟨he, hE⟩ => ?_
  subst he
  exact ⟨_, rfl, law_post rfl rfl (by kernel_rfl) hW' hE rfl rfl rfl⟩

theorem proved : Rows.FnExactCodeNameSaid :=
  OpenClaim.holds_of_wide 4 Try.f4 rfl rfl rfl rfl rfl rfl rfl ⟨rfl, rfl, rfl, rfl, rfl⟩ rfl rfl rfl rfl rfl (by kernel_rfl) Try.func4 (by kernel_rfl)
    (of_decide_eq_true (by kernel_rfl)) (by unfold Func.isWrapper; first | (rw [if_pos (by decide +kernel)]; kernel_rfl) | (rw [if_neg (by decide +kernel)]; exact ⟨rfl, rfl⟩))
    (fun os started H enc _ => lifted os started H enc)
end Go.Proofs.Ytfmoekfeajfidaa.fnExactCodeName
