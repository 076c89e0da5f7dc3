
/- FnExactReadTemplate returns true, whatever the input, and writes nothing that was there. Conditions: none. -/
import Derived.Test.YtajkepdfemdagaaGreatDoorLift
import Derived.Test.YtajkepdfemdagaaGreatDoorLaidW
import Derived.Test.YtajkepdfemdagaaGreatDoorTie
import Derived.Test.YtajkepdfemdagaaGreatDoorCards
import Derived.LaidMore
import Derived.Stop.Joined
import Derived.SevenTiedAt
import Derived.Test.YtajkepdfemdagaaGreatDoorBox
import Derived.Test.YtajkepdfemdagaaGreatDoorReadTm
import Derived.Test.YtajkepdfemdagaaGreatDoorReadTmS
namespace Go.Proofs.YtajkepdfemdagaaGreatDoor.fnExactReadTemplate
open Go.ChangeShapes Go.WideShapes Go.ChangeAt Go.RowKit
set_option linter.unusedVariables false

set_option maxHeartbeats 4000000 in
set_option maxRecDepth 100000 in
theorem walk (d0 : ByteArray) (w : World) (hl0 : d0.size ≤ 9223372036854775807) (hL : LaidW w) :
    Calls Tryz.prog 3 #[.string d0] w fun e w' => e = .returned (.bool true) ∧ Ext w w' := by
  have hE : Ext w w := (Ext.refl' w)
  by_cases z0 : (1048576 : Int) < (d0.size : Int)
  · go_enter Tryz.func3, Tryz.ntmps3
    go_wp2_with fail
    go_ret
    exact ⟨rfl, hE⟩
  go_enter Tryz.func3, Tryz.ntmps3
  go_wp2_with fail
  refine (specReadTemplate_any d0 _ (by omega)).mono ?_
  rintro e w1 ⟨u0, fp0, rfl, hC, o0, lo_o0, bd_o0⟩
  have q0 : w.heap.size ≤ w1.heap.size := hC.size
  replace hE := hE.tr hC
  clear hC
  replace lo_o0 : ∀ g ∈ fp0, w.heap.size + 0 ≤ g := fun g hg => by have := lo_o0 g hg; (try simp only [World.size_alloc] at this); omega
  have hi_o0 := o0.lt
  obtain ⟨ao0, co0, rfl⟩ := o0.form
  go_wp2_with fail
  have hP : Ext w1 (w1.alloc (.cells #[.int .i64 (SReadTemplate d0).1.1, .slice ao0 (SReadTemplate d0).1.2.length co0] 24)) := ((Ext.refl' w1).alloc (Nat.le_refl _) _)
  refine (implReadTemplate_any d0 _ (hL.ext (hE.tr hP)) (by omega)).mono ?_
  rintro e w2 ⟨u1, fp1, rfl, hC, o1, lo_o1, bd_o1⟩
  have y0a := hC.cell (p := ⟨w1.heap.size, 0, none⟩) (v := .int .i64 (SReadTemplate d0).1.1) (by simp [go_sem])
  have y0b := hC.cell (p := ⟨w1.heap.size, 1, none⟩) (v := .slice ao0 (SReadTemplate d0).1.2.length co0) (by simp [go_sem])
  replace hC := hP.tr hC
  clear hP
  have q1 : w1.heap.size ≤ w2.heap.size := hC.size
  replace o0 := o0.ext hC
  replace hE := hE.tr hC
  clear hC
  have q2 : w1.heap.size < w2.heap.size := lt_of_cell y0a
  replace lo_o1 : ∀ g ∈ fp1, w1.heap.size + 1 ≤ g := fun g hg => by have := lo_o1 g hg; (try simp only [World.size_alloc] at this); omega
  have hi_o1 := o1.lt
  obtain ⟨ao1, co1, rfl⟩ := o1.form
  go_wp2_with fail
  have hP : Ext w2 (w2.alloc (.cells #[.int .i64 (SReadTemplate d0).1.1, .slice ao1 (SReadTemplate d0).1.2.length co1] 24)) := ((Ext.refl' w2).alloc (Nat.le_refl _) _)
  refine (eqTemplate_any (SReadTemplate d0).1 (SReadTemplate d0).1 _ _ _ (o1.ext hP).rd (o0.ext hP).rd).mono ?_
  rintro e w3 ⟨rfl, hC⟩
  have y1a := hC.cell (p := ⟨w2.heap.size, 0, none⟩) (v := .int .i64 (SReadTemplate d0).1.1) (by simp [go_sem])
  have y1b := hC.cell (p := ⟨w2.heap.size, 1, none⟩) (v := .slice ao1 (SReadTemplate d0).1.2.length co1) (by simp [go_sem])
  replace hC := hP.tr hC
  clear hP
  have q3 : w2.heap.size ≤ w3.heap.size := hC.size
  replace y0a := hC.cell y0a
  replace y0b := hC.cell y0b
  replace o0 := o0.ext hC
  replace o1 := o1.ext hC
  replace hE := hE.tr hC
  clear hC
  have q4 : w1.heap.size < w3.heap.size := lt_of_cell y0a
  have q5 : w2.heap.size < w3.heap.size := lt_of_cell y1a
  go_wp2_with fail
  refine (markTemplate_any (SReadTemplate d0).1 _ fp1 (1) _ o1 (by omega) (by omega)).mono ?_
  rintro e w4 ⟨rfl, hO, o1'⟩
  replace y0a := hO.cell y0a (by intro hm; have := lo_o1 _ hm; have := hi_o1 _ hm; dsimp only at *; omega)
  replace y0b := hO.cell y0b (by intro hm; have := lo_o1 _ hm; have := hi_o1 _ hm; dsimp only at *; omega)
  replace y1a := hO.cell y1a (by intro hm; have := lo_o1 _ hm; have := hi_o1 _ hm; dsimp only at *; omega)
  replace y1b := hO.cell y1b (by intro hm; have := lo_o1 _ hm; have := hi_o1 _ hm; dsimp only at *; omega)
  replace o0 := o0.off hO (by intro g hg hm; have := lo_o1 _ hm; have := hi_o1 _ hm; have := lo_o0 _ hg; have := hi_o0 _ hg; omega)
  replace hE : Ext w w4 := Below.trans hE (hO.below hE.size (fun g hg => by have := lo_o1 g hg; have := hE.size; omega))
  have q6 : w3.heap.size ≤ w4.heap.size := hO.size
  clear o1 hO
  have o1 := o1'
  clear o1'
  go_wp2_with fail
  have hh : heldTm (marksTm (1) (SReadTemplate d0).1) (1) = 1 + (mkTm (SReadTemplate d0).1 : Int) := heldTm_marks _ _ (by omega)
  have HH := Lib.hid hh
  clear hh
  refine (heldTemplate_any (marksTm (1) (SReadTemplate d0).1) _ (1) _ o1.rd (by omega) (by rw [mkTm_marks]; omega)).mono ?_
  rintro e w5 ⟨rfl, hC⟩
  rw [HH.out]
  clear HH
  have q7 : w4.heap.size ≤ w5.heap.size := hC.size
  replace y0a := hC.cell y0a
  replace y0b := hC.cell y0b
  replace y1a := hC.cell y1a
  replace y1b := hC.cell y1b
  replace o0 := o0.ext hC
  replace o1 := o1.ext hC
  replace hE := hE.tr hC
  clear hC
  have q8 : w1.heap.size < w5.heap.size := lt_of_cell y0a
  have q9 : w2.heap.size < w5.heap.size := lt_of_cell y1a
  go_wp2_with fail
  refine (implReadTemplate_any d0 _ (hL.ext hE) (by omega)).mono ?_
  rintro e w6 ⟨u2, fp2, rfl, hC, o2, lo_o2, bd_o2⟩
  have q10 : w5.heap.size ≤ w6.heap.size := hC.size
  replace y0a := hC.cell y0a
  replace y0b := hC.cell y0b
  replace y1a := hC.cell y1a
  replace y1b := hC.cell y1b
  replace o0 := o0.ext hC
  replace o1 := o1.ext hC
  replace hE := hE.tr hC
  clear hC
  have q11 : w1.heap.size < w6.heap.size := lt_of_cell y0a
  have q12 : w2.heap.size < w6.heap.size := lt_of_cell y1a
  replace lo_o2 : ∀ g ∈ fp2, w5.heap.size + 0 ≤ g := fun g hg => by have := lo_o2 g hg; (try simp only [World.size_alloc] at this); omega
  have hi_o2 := o2.lt
  obtain ⟨ao2, co2, rfl⟩ := o2.form
  go_wp2_with fail
  have hP : Ext w6 (w6.alloc (.cells #[.int .i64 (SReadTemplate d0).1.1, .slice ao2 (SReadTemplate d0).1.2.length co2] 24)) := ((Ext.refl' w6).alloc (Nat.le_refl _) _)
  refine (eqTemplate_any (SReadTemplate d0).1 (SReadTemplate d0).1 _ _ _ (o2.ext hP).rd (o0.ext hP).rd).mono ?_
  rintro e w7 ⟨rfl, hC⟩
  have y2a := hC.cell (p := ⟨w6.heap.size, 0, none⟩) (v := .int .i64 (SReadTemplate d0).1.1) (by simp [go_sem])
  have y2b := hC.cell (p := ⟨w6.heap.size, 1, none⟩) (v := .slice ao2 (SReadTemplate d0).1.2.length co2) (by simp [go_sem])
  replace hC := hP.tr hC
  clear hP
  have q13 : w6.heap.size ≤ w7.heap.size := hC.size
  replace y0a := hC.cell y0a
  replace y0b := hC.cell y0b
  replace y1a := hC.cell y1a
  replace y1b := hC.cell y1b
  replace o0 := o0.ext hC
  replace o1 := o1.ext hC
  replace o2 := o2.ext hC
  replace hE := hE.tr hC
  clear hC
  have q14 : w1.heap.size < w7.heap.size := lt_of_cell y0a
  have q15 : w2.heap.size < w7.heap.size := lt_of_cell y1a
  have q16 : w6.heap.size < w7.heap.size := lt_of_cell y2a
  go_wp2_with fail
  have hh : heldTm (marksTm (1) (SReadTemplate d0).1) (1) = 1 + (mkTm (SReadTemplate d0).1 : Int) := heldTm_marks _ _ (by omega)
  have HH := Lib.hid hh
  clear hh
  refine (heldTemplate_any (marksTm (1) (SReadTemplate d0).1) _ (1) _ o1.rd (by omega) (by rw [mkTm_marks]; omega)).mono ?_
  rintro e w8 ⟨rfl, hC⟩
  rw [HH.out]
  clear HH
  have q17 : w7.heap.size ≤ w8.heap.size := hC.size
  replace y0a := hC.cell y0a
  replace y0b := hC.cell y0b
  replace y1a := hC.cell y1a
  replace y1b := hC.cell y1b
  replace y2a := hC.cell y2a
  replace y2b := hC.cell y2b
  replace o0 := o0.ext hC
  replace o1 := o1.ext hC
  replace o2 := o2.ext hC
  replace hE := hE.tr hC
  clear hC
  have q18 : w1.heap.size < w8.heap.size := lt_of_cell y0a
  have q19 : w2.heap.size < w8.heap.size := lt_of_cell y1a
  have q20 : w6.heap.size < w8.heap.size := lt_of_cell y2a
  go_wp2_with fail
  go_ret
  exact ⟨rfl, hE⟩

set_option maxRecDepth 100000 in
theorem lifted (os : Os) (started : os.Started) (H : Type) (enc : TypeId × Value → H) :
    ReturnsInHanded {} Tryz.checked os 3 .any (fun w args => (Rows.fnExactReadTemplateSpec.pre enc Tryz.prog Tryz.f3 [] false w args ∧ laidMetH Tryz.prog Rows.fnExactReadTemplateRow.laid w) ∧ sizedMet enc Tryz.prog Tryz.f3 (OpenSpec.ofChange Rows.fnExactReadTemplateSpec) false w args) (Rows.fnExactReadTemplateSpec.post enc Tryz.prog Tryz.f3 false true false false) := by
  refine handed_sh (C := Tryz.checked) (X := fun w _ => laidMetH Tryz.prog Rows.fnExactReadTemplateRow.laid w) (fun _ _ _ hh h => h.of_heap hh) own_knob started (by kernel_rfl) Tryz.func3
    (ChangeSpec.witness_shaped (enc := enc) (C := Tryz.checked) (os := os) (X := fun w _ => laidMetH Tryz.prog Rows.fnExactReadTemplateRow.laid w) false (World.laidAll Tryz.prog os Rows.fnExactReadTemplateRow.laid) #[.string ByteArray.empty] 8 (World.laidAll_os _ _ _) (World.shaped_of_ZipB (by kernel_rfl) (by kernel_rfl)) (by kernel_rfl) (by kernel_rfl) (by kernel_rfl) (by rw [MakeChecks.laidMetH_plain _ _ _ (by kernel_rfl)]; exact laidMet_laidAll _ (by kernel_rfl) (by kernel_rfl))) ?_
  intro W base args ds gs before hval0 hW hL hsh
  have hval : ∀ (j : Nat) t v, Tryz.f3.params[j]? = some t → args[j]? = some v → Value.okWide Tryz.prog W .any base t v := hval0
  have hLW : LaidW W := by
    rw [MakeChecks.laidMetH_plain _ _ _ (by kernel_rfl)] at hL
    exact laidW_of hL (by unfold Rows.fnExactReadTemplateRow; simp) (by unfold Rows.fnExactReadTemplateRow; simp) (by unfold Rows.fnExactReadTemplateRow; simp) hsh
  have hW' := hW
  obtain ⟨p, q, hA0, hV, rfl, hfz, hnd⟩ := hW
  have hA : DataW.TrodAll enc Tryz.prog W 0 (fun _ => true) true Tryz.f3.params.toList args.toList ds p := hA0
  rw [Tryz.params3] at hA hval
  obtain ⟨v0, d0, rfl, rfl, k0⟩ := trodAll_one hA
  obtain ⟨rfl, rfl⟩ := trodVars_none hV
  clear hA0 hval0
  simp only [List.append_nil] at hW'
  obtain ⟨e0, rfl, hl0⟩ := string_of k0 (hval 0 _ _ rfl rfl)
  refine (walk e0 W  hl0 hLW).mono fun e W' ⟨he, hE⟩ => ?_
  subst he
  exact ⟨_, rfl, law_post rfl rfl (by kernel_rfl) hW' hE rfl rfl rfl⟩

theorem said : Rows.FnExactReadTemplateSaid :=
  OpenClaim.holds_of_wide 3 Tryz.f3 rfl rfl rfl rfl rfl rfl rfl ⟨rfl, rfl, rfl, rfl, rfl⟩ rfl rfl rfl rfl rfl (by kernel_rfl) Tryz.func3 (by kernel_rfl)
    (of_decide_eq_true (by kernel_rfl)) (by unfold Func.isWrapper; first | (rw [if_pos (by decide +kernel)]; kernel_rfl) | (rw [if_neg (by decide +kernel)]; exact ⟨rfl, rfl⟩))
    (fun os started H enc _ => lifted os started H enc)
theorem proved : Rows.FnExactReadTemplateCardSaid :=
  Claim7.holds_tied_plain_at .later [] Rows.fnExactReadTemplateCard.laidKinds true Rows.fnExactReadTemplateCard.stood.harness true
    said (fun _ h => by cases h) (by kernel_rfl) (fun _ h => by cases h) fnExactReadTemplate_row_tie rfl ⟨rfl, rfl⟩ (by kernel_rfl) rfl
    (fun f fn hf hfn => by
      obtain rfl : f = 3 := Option.some.inj ((show Tryz.prog.funcNamed "loop.example/g01085/laws.FnExactReadTemplate" = some 3 by kernel_rfl).symm.trans hf) |>.symm
      obtain rfl : fn = Tryz.f3 := (Option.some.inj (Tryz.func3.symm.trans hfn)).symm
      exact ⟨by kernel_rfl, fun j t ht => by
        rw [Tryz.params3] at ht
        have hm : t ∈ [9] := by simpa using Array.mem_of_getElem? ht
        have hall : ([9].all fun u => !Tryz.prog.wantsStandIn u) = true := by kernel_rfl
        exact (show Tryz.prog.wantsStandIn t = false by simpa using List.all_eq_true.1 hall t hm)⟩)
    (by kernel_rfl)
end Go.Proofs.YtajkepdfemdagaaGreatDoor.fnExactReadTemplate
