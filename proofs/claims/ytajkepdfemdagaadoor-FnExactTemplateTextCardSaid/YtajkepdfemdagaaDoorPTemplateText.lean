
/- FnExactTemplateText returns true, whatever the input, and writes nothing that was there. Conditions: none. -/
import Derived.Test.YtajkepdfemdagaaDoorLift
import Derived.Test.YtajkepdfemdagaaDoorTie
import Derived.Test.YtajkepdfemdagaaDoorCards
import Derived.LaidMore
import Derived.Stop.Joined
import Derived.SevenTiedAt
import Derived.Test.YtajkepdfemdagaaDoorTmL
import Derived.Test.YtajkepdfemdagaaDoorTmText
namespace Go.Proofs.YtajkepdfemdagaaDoor.fnExactTemplateText
open Go.ChangeShapes Go.WideShapes Go.ChangeAt Go.RowKit
set_option linter.unusedVariables false

set_option maxHeartbeats 4000000 in
set_option maxRecDepth 100000 in
theorem walk (d0 : Int × List (Int × List (List Int))) (v0 : Value) (w : World) (h0 : RdTm w v0 d0) :
    Calls Tryd.prog 5 #[v0] w fun e w' => e = .returned (.bool true) ∧ Ext w w' := by
  obtain ⟨tv0, rfl⟩ := h0.form
  have hE : Ext w (w.alloc (.cells #[.int .i64 d0.1, tv0] 42)) := ((Ext.refl' w).alloc (Nat.le_refl _) _)
  by_cases z0 : szL 1048576 (szTm d0) < 0
  · go_enter Tryd.func5, Tryd.ntmps5
    go_wp2_with fail
    refine (szTemplate_any d0 _ _ _ (h0.ext hE) (by omega) (by omega)).mono ?_
    rintro e s1 ⟨rfl, hS⟩
    have x0a := hS.cell (p := ⟨w.heap.size, 0, none⟩) (v := .int .i64 d0.1) (by simp [go_sem])
    have x0b := hS.cell (p := ⟨w.heap.size, 1, none⟩) (v := tv0) (by simp [go_sem])
    replace hE := hE.tr hS
    clear hS
    go_wp2_with fail
    go_ret
    exact ⟨rfl, hE⟩
  obtain ⟨za0, zb0, zc0⟩ := szL_le z0
  have hmk0 := mkTm_le d0
  go_enter Tryd.func5, Tryd.ntmps5
  go_wp2_with fail
  refine (szTemplate_any d0 _ _ _ (h0.ext hE) (by omega) (by omega)).mono ?_
  rintro e s1 ⟨rfl, hS⟩
  have x0a := hS.cell (p := ⟨w.heap.size, 0, none⟩) (v := .int .i64 d0.1) (by simp [go_sem])
  have x0b := hS.cell (p := ⟨w.heap.size, 1, none⟩) (v := tv0) (by simp [go_sem])
  replace hE := hE.tr hS
  clear hS
  go_wp2_with fail
  refine (toTemplate_any d0 _ _ (h0.ext hE) (by omega)).mono ?_
  rintro e w1 ⟨uo0, fp0, rfl, hC, o0, lo_o0⟩
  have q0 : s1.heap.size ≤ w1.heap.size := hC.size
  replace x0a := hC.cell x0a
  replace x0b := hC.cell x0b
  replace hE := hE.tr hC
  clear hC
  have q1 : w.heap.size < w1.heap.size := lt_of_cell x0a
  replace lo_o0 : ∀ g ∈ fp0, s1.heap.size + 0 ≤ g := fun g hg => by have := lo_o0 g hg; (try simp only [World.size_alloc] at this); omega
  have hi_o0 := o0.lt
  obtain ⟨ao0, co0, rfl⟩ := o0.form
  go_wp2_with fail
  refine (specTemplateText_any d0 _ _ o0.rd (by omega)).mono ?_
  rintro e w2 ⟨rfl, hC⟩
  have q2 : w1.heap.size ≤ w2.heap.size := hC.size
  replace x0a := hC.cell x0a
  replace x0b := hC.cell x0b
  replace o0 := o0.ext hC
  replace hE := hE.tr hC
  clear hC
  have q3 : w.heap.size < w2.heap.size := lt_of_cell x0a
  go_wp2_with fail
  refine (toTemplate_any d0 _ _ (h0.ext hE) (by omega)).mono ?_
  rintro e w3 ⟨uo1, fp1, rfl, hC, o1, lo_o1⟩
  have q4 : w2.heap.size ≤ w3.heap.size := hC.size
  replace x0a := hC.cell x0a
  replace x0b := hC.cell x0b
  replace o0 := o0.ext hC
  replace hE := hE.tr hC
  clear hC
  have q5 : w.heap.size < w3.heap.size := lt_of_cell x0a
  replace lo_o1 : ∀ g ∈ fp1, w2.heap.size + 0 ≤ g := fun g hg => by have := lo_o1 g hg; (try simp only [World.size_alloc] at this); omega
  have hi_o1 := o1.lt
  obtain ⟨ao1, co1, rfl⟩ := o1.form
  go_wp2_with fail
  have hP : Ext w3 (w3.alloc (.cells #[.int .i64 d0.1, .slice ao1 d0.2.length co1] 47)) := ((Ext.refl' w3).alloc (Nat.le_refl _) _)
  refine (implTemplateText_any d0 _ _ (o1.ext hP).rd (by omega)).mono ?_
  rintro e w4 ⟨rfl, hC⟩
  have y0a := hC.cell (p := ⟨w3.heap.size, 0, none⟩) (v := .int .i64 d0.1) (by simp [go_sem])
  have y0b := hC.cell (p := ⟨w3.heap.size, 1, none⟩) (v := .slice ao1 d0.2.length co1) (by simp [go_sem])
  replace hC := hP.tr hC
  clear hP
  have q6 : w3.heap.size ≤ w4.heap.size := hC.size
  replace x0a := hC.cell x0a
  replace x0b := hC.cell x0b
  replace o0 := o0.ext hC
  replace o1 := o1.ext hC
  replace hE := hE.tr hC
  clear hC
  have q7 : w.heap.size < w4.heap.size := lt_of_cell x0a
  have q8 : w3.heap.size < w4.heap.size := lt_of_cell y0a
  go_wp2_with fail
  refine region_sp [] [] [SP.val (.agg #[.int .i64 d0.1, .slice ao1 d0.2.length co1]), SP.val (.agg #[.int .i64 d0.1, tv0]), SP.ownTm d0, SP.val (.bool true), SP.val (.bool false)] (by kernel_rfl) (fun _ d _ _ _ h => by cases d <;> exact h) (by kernel_rfl) (by kernel_rfl)
    (.cons (fun vs y hY => Step.load ⟨w3.heap.size, 0, none⟩ rfl rfl rfl (by simp [go_sem, hY.cell y0a, hY.cell y0b]) rfl) <|
     .cons (fun vs y hY => Step.load ⟨w.heap.size, 0, none⟩ rfl rfl rfl (by simp [go_sem, hY.cell x0a, hY.cell x0b]) rfl) <|
     .cons (fun vs y hY g1_0 => Step.call Tryd.call20 rfl rfl [vs 1] rfl rfl ((toTemplate_any d0 _ _ (by rw [show vs 1 = _ from g1_0]; exact h0.ext (hE.tr hY)) (by omega)).mono fun _ _ ⟨u, fp, he, hE, ho, _⟩ => ⟨u, he, hE, fp, ho⟩)) <|
     .cons (fun vs y hY g0_0 g2_1 g2_2 => Step.call Tryd.call22 rfl rfl [vs 0, vs 2] rfl rfl ((eqTemplate_any d0 d0 _ _ _ (by rw [show vs 0 = _ from g0_0]; exact (o1.ext hY).rd) (rdTm_of_sp g2_1)).mono fun _ _ ⟨he, hE⟩ => ⟨_, he, hE, by simp; rfl⟩)) <|
     .cons (fun vs y hY g3_0 => Step.not rfl rfl g3_0 rfl) <|
     .nil) ?_
  intro vs w5 hC hL
  have r0 : vs 0 = _ := hL 0 (by decide) rfl
  have r1 : vs 1 = _ := hL 1 (by decide) rfl
  have r3 : vs 3 = _ := hL 3 (by decide) rfl
  have r4 : vs 4 = _ := hL 4 (by decide) rfl
  clear hL
  simp only [putAll, Act.put, List.contains_nil, cond_false, List.setIfInBounds_toArray, List.set_cons_succ, List.set_cons_zero, List.filterMap_nil, r0, r1, r3, r4]
  clear r0 r1 r3 r4
  have q9 : w4.heap.size ≤ w5.heap.size := hC.size
  replace x0a := hC.cell x0a
  replace x0b := hC.cell x0b
  replace y0a := hC.cell y0a
  replace y0b := hC.cell y0b
  replace o0 := o0.ext hC
  replace o1 := o1.ext hC
  replace hE := hE.tr hC
  clear hC
  have q10 : w.heap.size < w5.heap.size := lt_of_cell x0a
  have q11 : w3.heap.size < w5.heap.size := lt_of_cell y0a
  go_wp2_with fail
  go_ret
  exact ⟨rfl, hE⟩

set_option maxRecDepth 100000 in
theorem door_met (os : Os) (args : Array Value) : laidMetH Tryd.prog Rows.fnExactTemplateTextRow.laid ((World.doorLaid Tryd.prog 400 os).forCall (fun _ _ => 0) ⟨#[], args, []⟩).memory :=
  laidMetH_of_parts3 (fuel := 8) (laidMet_of_run' 8 (by kernel_rfl) (by kernel_rfl)) (by kernel_rfl) (by kernel_rfl)
set_option maxRecDepth 100000 in
theorem lifted (os : Os) (started : os.Started) (H : Type) (enc : TypeId × Value → H) :
    ReturnsInHanded {} Tryd.checked os 5 .any (fun w args => (Rows.fnExactTemplateTextSpec.pre enc Tryd.prog Tryd.f5 [] false w args ∧ laidMetH Tryd.prog Rows.fnExactTemplateTextRow.laid w) ∧ sizedMet enc Tryd.prog Tryd.f5 (OpenSpec.ofChange Rows.fnExactTemplateTextSpec) false w args) (Rows.fnExactTemplateTextSpec.post enc Tryd.prog Tryd.f5 false true false false) := by
  refine returnsInHanded_of_change_and (C := Tryd.checked) (X := fun w _ => laidMetH Tryd.prog Rows.fnExactTemplateTextRow.laid w) (fun _ _ _ hh h => h.of_heap hh) own_knob started (by kernel_rfl) Tryd.func5
    (ChangeSpec.witness_shaped (enc := enc) (C := Tryd.checked) (os := os) (X := fun w _ => laidMetH Tryd.prog Rows.fnExactTemplateTextRow.laid w) false (World.doorLaid Tryd.prog 400 os) #[.agg #[.int .i64 0, .slice none 0 0]] 8 rfl (World.shaped_of_RefB (by kernel_rfl) (by kernel_rfl)) (by kernel_rfl) (by kernel_rfl) (by kernel_rfl) (door_met os _)) ?_
  intro W base args ds gs before hval0 hW _ _ hL _
  have hval : ∀ (j : Nat) t v, Tryd.f5.params[j]? = some t → args[j]? = some v → Value.okWide Tryd.prog W .any base t v := hval0
  have hW' := hW
  obtain ⟨p, q, hA0, hV, rfl, hfz, hnd⟩ := hW
  have hA : DataW.TrodAll enc Tryd.prog W 0 (fun _ => true) true Tryd.f5.params.toList args.toList ds p := hA0
  rw [Tryd.params5] at hA hval
  obtain ⟨v0, d0, rfl, rfl, k0⟩ := trodAll_one hA
  obtain ⟨rfl, rfl⟩ := trodVars_none hV
  clear hA0 hval0
  simp only [List.append_nil] at hW'
  obtain ⟨e0, h0⟩ := dTm_of k0 (hval 0 _ _ rfl rfl)
  refine (walk e0 _ W h0).mono fun e W' ⟨he, hE⟩ => ?_
  subst he
  exact ⟨_, rfl, law_post rfl rfl (by kernel_rfl) hW' hE rfl rfl rfl⟩

theorem said : Rows.FnExactTemplateTextSaid :=
  OpenClaim.holds_of_wide 5 Tryd.f5 rfl rfl rfl rfl rfl rfl rfl ⟨rfl, rfl, rfl, rfl, rfl⟩ rfl rfl rfl rfl rfl (by kernel_rfl) Tryd.func5 (by kernel_rfl)
    (of_decide_eq_true (by kernel_rfl)) (by unfold Func.isWrapper; first | (rw [if_pos (by decide +kernel)]; kernel_rfl) | (rw [if_neg (by decide +kernel)]; exact ⟨rfl, rfl⟩))
    (fun os started H enc _ => lifted os started H enc)
theorem proved : Rows.FnExactTemplateTextCardSaid :=
  Claim7.holds_tied_plain_at .later [] Rows.fnExactTemplateTextCard.laidKinds true Rows.fnExactTemplateTextCard.stood.harness true
    said (fun _ h => by cases h) (by kernel_rfl) (fun _ h => by cases h) fnExactTemplateText_row_tie rfl ⟨rfl, rfl⟩ (by kernel_rfl) rfl
    (fun f fn hf hfn => by
      obtain rfl : f = 5 := Option.some.inj ((show Tryd.prog.funcNamed "loop.example/g01085/laws.FnExactTemplateText" = some 5 by kernel_rfl).symm.trans hf) |>.symm
      obtain rfl : fn = Tryd.f5 := (Option.some.inj (Tryd.func5.symm.trans hfn)).symm
      exact ⟨by kernel_rfl, fun j t ht => by
        rw [Tryd.params5] at ht
        have hm : t ∈ [42] := by simpa using Array.mem_of_getElem? ht
        have hall : ([42].all fun u => !Tryd.prog.wantsStandIn u) = true := by kernel_rfl
        exact (show Tryd.prog.wantsStandIn t = false by simpa using List.all_eq_true.1 hall t hm)⟩)
    (by kernel_rfl)
end Go.Proofs.YtajkepdfemdagaaDoor.fnExactTemplateText
