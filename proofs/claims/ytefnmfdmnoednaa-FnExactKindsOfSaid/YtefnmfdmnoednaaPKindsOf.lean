
/- FnExactKindsOf returns true, whatever the input, and writes nothing that was there. Conditions: none. -/
import Derived.Test.YtefnmfdmnoednaaLift
import Derived.Test.YtefnmfdmnoednaaOpL
import Derived.Test.YtefnmfdmnoednaaKindW
namespace Go.Proofs.Ytefnmfdmnoednaa.fnExactKindsOf
open Go.ChangeShapes Go.WideShapes Go.ChangeAt Go.RowKit
set_option linter.unusedVariables false

set_option maxHeartbeats 4000000 in
set_option maxRecDepth 100000 in
theorem walk (d0 : Int) (d1 : Int × List Int) (v1 : Value) (w : World) (h1 : RdOp w v1 d1) (lo0 : -9223372036854775808 ≤ d0) (hi0 : d0 ≤ 9223372036854775807) :
    Calls Try.prog 7 #[.int .i64 d0, v1] w fun e w' => e = .returned (.bool true) ∧ Ext w w' := by
  obtain ⟨tv1, rfl⟩ := h1.form
  have hE : Ext w (w.alloc (.cells #[.int .i64 d1.1, tv1] 45)) := ((Ext.refl' w).alloc (Nat.le_refl _) _)
  by_cases z0 : szL 1048576 (szOp d1) < 0
  · go_enter Try.func7, Try.ntmps7
    go_wp2_with fail
    refine (szOp_any d1 _ _ _ (h1.ext hE) (by omega) (by omega)).mono ?_
    rintro e s1 ⟨rfl, hS⟩
    have x0a := hS.cell (p := ⟨w.heap.size, 0, none⟩) (v := .int .i64 d1.1) (by simp [go_sem])
    have x0b := hS.cell (p := ⟨w.heap.size, 1, none⟩) (v := tv1) (by simp [go_sem])
    replace hE := hE.tr hS
    clear hS
    go_wp2_with fail
    go_ret
    exact ⟨rfl, hE⟩
  obtain ⟨za0, zb0, zc0⟩ := szL_le z0
  have hmk1 := mkOp_le d1
  go_enter Try.func7, Try.ntmps7
  go_wp2_with fail
  refine (szOp_any d1 _ _ _ (h1.ext hE) (by omega) (by omega)).mono ?_
  rintro e s1 ⟨rfl, hS⟩
  have x0a := hS.cell (p := ⟨w.heap.size, 0, none⟩) (v := .int .i64 d1.1) (by simp [go_sem])
  have x0b := hS.cell (p := ⟨w.heap.size, 1, none⟩) (v := tv1) (by simp [go_sem])
  replace hE := hE.tr hS
  clear hS
  go_wp2_with fail
  refine (toOp_any d1 _ _ (h1.ext hE) (by omega)).mono ?_
  rintro e w1 ⟨uo0, fp0, rfl, hC, o0, lo_o0⟩
  have q0 : s1.heap.size ≤ w1.heap.size := hC.size
  replace x0a := hC.cell x0a
  replace x0b := hC.cell x0b
  replace hE := hE.tr hC
  clear hC
  have q1 : w.heap.size < w1.heap.size := lt_of_cell x0a
  replace lo_o0 : ∀ g ∈ fp0, s1.heap.size + 0 ≤ g := fun g hg => by have := lo_o0 g hg; (try simp only [World.size_alloc] at this); omega
  have hi_o0 := o0.lt
  obtain ⟨ao0, co0, rfl⟩ := o0.form
  go_wp2_with fail
  refine (specKindsOf_any d0 d1 _ _ o0.rd lo0 hi0 (by omega)).mono ?_
  rintro e w2 ⟨u1, fp1, rfl, hC, o1, lo_o1, bd_o1⟩
  have q2 : w1.heap.size ≤ w2.heap.size := hC.size
  replace x0a := hC.cell x0a
  replace x0b := hC.cell x0b
  replace o0 := o0.ext hC
  replace hE := hE.tr hC
  clear hC
  have q3 : w.heap.size < w2.heap.size := lt_of_cell x0a
  replace lo_o1 : ∀ g ∈ fp1, w1.heap.size + 0 ≤ g := fun g hg => by have := lo_o1 g hg; (try simp only [World.size_alloc] at this); omega
  have hi_o1 := o1.lt
  obtain ⟨ao1, co1, rfl⟩ := o1.form
  go_wp2_with fail
  refine (toOp_any d1 _ _ (h1.ext hE) (by omega)).mono ?_
  rintro e w3 ⟨uo2, fp2, rfl, hC, o2, lo_o2⟩
  have q4 : w2.heap.size ≤ w3.heap.size := hC.size
  replace x0a := hC.cell x0a
  replace x0b := hC.cell x0b
  replace o0 := o0.ext hC
  replace o1 := o1.ext hC
  replace hE := hE.tr hC
  clear hC
  have q5 : w.heap.size < w3.heap.size := lt_of_cell x0a
  replace lo_o2 : ∀ g ∈ fp2, w2.heap.size + 0 ≤ g := fun g hg => by have := lo_o2 g hg; (try simp only [World.size_alloc] at this); omega
  have hi_o2 := o2.lt
  obtain ⟨ao2, co2, rfl⟩ := o2.form
  go_wp2_with fail
  have hP : Ext w3 (w3.alloc (.cells #[.int .i64 d1.1, .slice ao2 d1.2.length co2] 49)) := ((Ext.refl' w3).alloc (Nat.le_refl _) _)
  refine (implKindsOf_any d0 d1 _ _ (o2.ext hP).rd lo0 hi0 (by omega)).mono ?_
  rintro e w4 ⟨u3, fp3, rfl, hC, o3, lo_o3, bd_o3⟩
  have y0a := hC.cell (p := ⟨w3.heap.size, 0, none⟩) (v := .int .i64 d1.1) (by simp [go_sem])
  have y0b := hC.cell (p := ⟨w3.heap.size, 1, none⟩) (v := .slice ao2 d1.2.length co2) (by simp [go_sem])
  replace hC := hP.tr hC
  clear hP
  have q6 : w3.heap.size ≤ w4.heap.size := hC.size
  replace x0a := hC.cell x0a
  replace x0b := hC.cell x0b
  replace o0 := o0.ext hC
  replace o1 := o1.ext hC
  replace o2 := o2.ext hC
  replace hE := hE.tr hC
  clear hC
  have q7 : w.heap.size < w4.heap.size := lt_of_cell x0a
  have q8 : w3.heap.size < w4.heap.size := lt_of_cell y0a
  replace lo_o3 : ∀ g ∈ fp3, w3.heap.size + 1 ≤ g := fun g hg => by have := lo_o3 g hg; (try simp only [World.size_alloc] at this); omega
  have hi_o3 := o3.lt
  obtain ⟨ao3, co3, rfl⟩ := o3.form
  go_wp2_with fail
  refine (eqInt64S_any (SKindsOf d0 d1).1 (SKindsOf d0 d1).1 _ _ _ o3.rd o1.rd).mono ?_
  rintro e w5 ⟨rfl, hC⟩
  have q9 : w4.heap.size ≤ w5.heap.size := hC.size
  replace x0a := hC.cell x0a
  replace x0b := hC.cell x0b
  replace y0a := hC.cell y0a
  replace y0b := hC.cell y0b
  replace o0 := o0.ext hC
  replace o1 := o1.ext hC
  replace o2 := o2.ext hC
  replace o3 := o3.ext hC
  replace hE := hE.tr hC
  clear hC
  have q10 : w.heap.size < w5.heap.size := lt_of_cell x0a
  have q11 : w3.heap.size < w5.heap.size := lt_of_cell y0a
  go_wp2_with fail
  refine region_sp [] [] [SP.val (.agg #[.int .i64 d1.1, .slice ao2 d1.2.length co2]), SP.val (.agg #[.int .i64 d1.1, tv1]), SP.ownOp d1, SP.val (.bool true), SP.val (.bool false)] (by kernel_rfl) (fun _ d _ _ _ h => by cases d <;> exact h) (by kernel_rfl) (by kernel_rfl)
    (.cons (fun vs y hY => Step.load ⟨w3.heap.size, 0, none⟩ rfl rfl rfl (by simp [go_sem, hY.cell y0a, hY.cell y0b]) rfl) <|
     .cons (fun vs y hY => Step.load ⟨w.heap.size, 0, none⟩ rfl rfl rfl (by simp [go_sem, hY.cell x0a, hY.cell x0b]) rfl) <|
     .cons (fun vs y hY g1_0 => Step.call Try.call30 rfl rfl [vs 1] rfl rfl ((toOp_any d1 _ _ (by rw [show vs 1 = _ from g1_0]; exact h1.ext (hE.tr hY)) (by omega)).mono fun _ _ ⟨u, fp, he, hE, ho, _⟩ => ⟨u, he, hE, fp, ho⟩)) <|
     .cons (fun vs y hY g0_0 g2_1 g2_2 => Step.call Try.call32 rfl rfl [vs 0, vs 2] rfl rfl ((eqOp_any d1 d1 _ _ _ (by rw [show vs 0 = _ from g0_0]; exact (o2.ext hY).rd) (rdOp_of_sp g2_1)).mono fun _ _ ⟨he, hE⟩ => ⟨_, he, hE, by simp; rfl⟩)) <|
     .cons (fun vs y hY g3_0 => Step.not rfl rfl g3_0 rfl) <|
     .nil) ?_
  intro vs w6 hC hL
  have r0 : vs 0 = _ := hL 0 (by decide) rfl
  have r1 : vs 1 = _ := hL 1 (by decide) rfl
  have r3 : vs 3 = _ := hL 3 (by decide) rfl
  have r4 : vs 4 = _ := hL 4 (by decide) rfl
  clear hL
  simp only [putAll, Act.put, List.contains_nil, cond_false, List.setIfInBounds_toArray, List.set_cons_succ, List.set_cons_zero, List.filterMap_nil, r0, r1, r3, r4]
  clear r0 r1 r3 r4
  have q12 : w5.heap.size ≤ w6.heap.size := hC.size
  replace x0a := hC.cell x0a
  replace x0b := hC.cell x0b
  replace y0a := hC.cell y0a
  replace y0b := hC.cell y0b
  replace o0 := o0.ext hC
  replace o1 := o1.ext hC
  replace o2 := o2.ext hC
  replace o3 := o3.ext hC
  replace hE := hE.tr hC
  clear hC
  have q13 : w.heap.size < w6.heap.size := lt_of_cell x0a
  have q14 : w3.heap.size < w6.heap.size := lt_of_cell y0a
  go_wp2_with fail
  refine (markOp_any d1 _ fp2 (1) _ o2 (by omega) (by omega)).mono ?_
  rintro e w7 ⟨rfl, hO, o2'⟩
  replace x0a := hO.cell x0a (by intro hm; have := lo_o2 _ hm; have := hi_o2 _ hm; dsimp only at *; omega)
  replace x0b := hO.cell x0b (by intro hm; have := lo_o2 _ hm; have := hi_o2 _ hm; dsimp only at *; omega)
  replace y0a := hO.cell y0a (by intro hm; have := lo_o2 _ hm; have := hi_o2 _ hm; dsimp only at *; omega)
  replace y0b := hO.cell y0b (by intro hm; have := lo_o2 _ hm; have := hi_o2 _ hm; dsimp only at *; omega)
  replace o0 := o0.off hO (by intro g hg hm; have := lo_o2 _ hm; have := hi_o2 _ hm; have := lo_o0 _ hg; have := hi_o0 _ hg; omega)
  replace o1 := o1.off hO (by intro g hg hm; have := lo_o2 _ hm; have := hi_o2 _ hm; have := lo_o1 _ hg; have := hi_o1 _ hg; omega)
  replace o3 := o3.off hO (by intro g hg hm; have := lo_o2 _ hm; have := hi_o2 _ hm; have := lo_o3 _ hg; have := hi_o3 _ hg; omega)
  replace hE : Ext w w7 := Below.trans hE (hO.below hE.size (fun g hg => by have := lo_o2 g hg; have := hE.size; omega))
  have q15 : w6.heap.size ≤ w7.heap.size := hO.size
  clear o2 hO
  have o2 := o2'
  clear o2'
  go_wp2_with fail
  refine (eqInt64S_any (SKindsOf d0 d1).1 (SKindsOf d0 d1).1 _ _ _ o3.rd o1.rd).mono ?_
  rintro e w8 ⟨rfl, hC⟩
  have q16 : w7.heap.size ≤ w8.heap.size := hC.size
  replace x0a := hC.cell x0a
  replace x0b := hC.cell x0b
  replace y0a := hC.cell y0a
  replace y0b := hC.cell y0b
  replace o0 := o0.ext hC
  replace o1 := o1.ext hC
  replace o2 := o2.ext hC
  replace o3 := o3.ext hC
  replace hE := hE.tr hC
  clear hC
  have q17 : w.heap.size < w8.heap.size := lt_of_cell x0a
  have q18 : w3.heap.size < w8.heap.size := lt_of_cell y0a
  go_wp2_with fail
  refine (markInt64S_any (SKindsOf d0 d1).1 _ fp3 (1) _ o3 (by omega) (by omega)).mono ?_
  rintro e w9 ⟨rfl, hO, o3'⟩
  replace x0a := hO.cell x0a (by intro hm; have := lo_o3 _ hm; have := hi_o3 _ hm; dsimp only at *; omega)
  replace x0b := hO.cell x0b (by intro hm; have := lo_o3 _ hm; have := hi_o3 _ hm; dsimp only at *; omega)
  replace y0a := hO.cell y0a (by intro hm; have := lo_o3 _ hm; have := hi_o3 _ hm; dsimp only at *; omega)
  replace y0b := hO.cell y0b (by intro hm; have := lo_o3 _ hm; have := hi_o3 _ hm; dsimp only at *; omega)
  replace o0 := o0.off hO (by intro g hg hm; have := lo_o3 _ hm; have := hi_o3 _ hm; have := lo_o0 _ hg; have := hi_o0 _ hg; omega)
  replace o1 := o1.off hO (by intro g hg hm; have := lo_o3 _ hm; have := hi_o3 _ hm; have := lo_o1 _ hg; have := hi_o1 _ hg; omega)
  replace o2 := o2.off hO (by intro g hg hm; have := lo_o3 _ hm; have := hi_o3 _ hm; have := lo_o2 _ hg; have := hi_o2 _ hg; omega)
  replace hE : Ext w w9 := Below.trans hE (hO.below hE.size (fun g hg => by have := lo_o3 g hg; have := hE.size; omega))
  have q19 : w8.heap.size ≤ w9.heap.size := hO.size
  clear o3 hO
  have o3 := o3'
  clear o3'
  go_wp2_with fail
  have hh : heldI (marksI (1) (SKindsOf d0 d1).1.length) (1) = 1 + (List.length (SKindsOf d0 d1).1 : Int) := heldI_marks _ _
  have HH := Lib.hid hh
  clear hh
  refine (heldInt64S_any (marksI (1) (SKindsOf d0 d1).1.length) _ (1) _ o3.rd (by omega) (by rw [marksI_length]; omega)).mono ?_
  rintro e w10 ⟨rfl, hC⟩
  rw [HH.out]
  clear HH
  have q20 : w9.heap.size ≤ w10.heap.size := hC.size
  replace x0a := hC.cell x0a
  replace x0b := hC.cell x0b
  replace y0a := hC.cell y0a
  replace y0b := hC.cell y0b
  replace o0 := o0.ext hC
  replace o1 := o1.ext hC
  replace o2 := o2.ext hC
  replace o3 := o3.ext hC
  replace hE := hE.tr hC
  clear hC
  have q21 : w.heap.size < w10.heap.size := lt_of_cell x0a
  have q22 : w3.heap.size < w10.heap.size := lt_of_cell y0a
  go_wp2_with fail
  refine (toOp_any d1 _ _ (h1.ext hE) (by omega)).mono ?_
  rintro e w11 ⟨uo4, fp4, rfl, hC, o4, lo_o4⟩
  have q23 : w10.heap.size ≤ w11.heap.size := hC.size
  replace x0a := hC.cell x0a
  replace x0b := hC.cell x0b
  replace y0a := hC.cell y0a
  replace y0b := hC.cell y0b
  replace o0 := o0.ext hC
  replace o1 := o1.ext hC
  replace o2 := o2.ext hC
  replace o3 := o3.ext hC
  replace hE := hE.tr hC
  clear hC
  have q24 : w.heap.size < w11.heap.size := lt_of_cell x0a
  have q25 : w3.heap.size < w11.heap.size := lt_of_cell y0a
  replace lo_o4 : ∀ g ∈ fp4, w10.heap.size + 0 ≤ g := fun g hg => by have := lo_o4 g hg; (try simp only [World.size_alloc] at this); omega
  have hi_o4 := o4.lt
  obtain ⟨ao4, co4, rfl⟩ := o4.form
  go_wp2_with fail
  refine (implKindsOf_any d0 d1 _ _ o4.rd lo0 hi0 (by omega)).mono ?_
  rintro e w12 ⟨u5, fp5, rfl, hC, o5, lo_o5, bd_o5⟩
  have q26 : w11.heap.size ≤ w12.heap.size := hC.size
  replace x0a := hC.cell x0a
  replace x0b := hC.cell x0b
  replace y0a := hC.cell y0a
  replace y0b := hC.cell y0b
  replace o0 := o0.ext hC
  replace o1 := o1.ext hC
  replace o2 := o2.ext hC
  replace o3 := o3.ext hC
  replace o4 := o4.ext hC
  replace hE := hE.tr hC
  clear hC
  have q27 : w.heap.size < w12.heap.size := lt_of_cell x0a
  have q28 : w3.heap.size < w12.heap.size := lt_of_cell y0a
  replace lo_o5 : ∀ g ∈ fp5, w11.heap.size + 0 ≤ g := fun g hg => by have := lo_o5 g hg; (try simp only [World.size_alloc] at this); omega
  have hi_o5 := o5.lt
  obtain ⟨ao5, co5, rfl⟩ := o5.form
  go_wp2_with fail
  refine (eqInt64S_any (SKindsOf d0 d1).1 (SKindsOf d0 d1).1 _ _ _ o5.rd o1.rd).mono ?_
  rintro e w13 ⟨rfl, hC⟩
  have q29 : w12.heap.size ≤ w13.heap.size := hC.size
  replace x0a := hC.cell x0a
  replace x0b := hC.cell x0b
  replace y0a := hC.cell y0a
  replace y0b := hC.cell y0b
  replace o0 := o0.ext hC
  replace o1 := o1.ext hC
  replace o2 := o2.ext hC
  replace o3 := o3.ext hC
  replace o4 := o4.ext hC
  replace o5 := o5.ext hC
  replace hE := hE.tr hC
  clear hC
  have q30 : w.heap.size < w13.heap.size := lt_of_cell x0a
  have q31 : w3.heap.size < w13.heap.size := lt_of_cell y0a
  go_wp2_with fail
  have hh : heldI (marksI (1) (SKindsOf d0 d1).1.length) (1) = 1 + (List.length (SKindsOf d0 d1).1 : Int) := heldI_marks _ _
  have HH := Lib.hid hh
  clear hh
  refine (heldInt64S_any (marksI (1) (SKindsOf d0 d1).1.length) _ (1) _ o3.rd (by omega) (by rw [marksI_length]; omega)).mono ?_
  rintro e w14 ⟨rfl, hC⟩
  rw [HH.out]
  clear HH
  have q32 : w13.heap.size ≤ w14.heap.size := hC.size
  replace x0a := hC.cell x0a
  replace x0b := hC.cell x0b
  replace y0a := hC.cell y0a
  replace y0b := hC.cell y0b
  replace o0 := o0.ext hC
  replace o1 := o1.ext hC
  replace o2 := o2.ext hC
  replace o3 := o3.ext hC
  replace o4 := o4.ext hC
  replace o5 := o5.ext hC
  replace hE := hE.tr hC
  clear hC
  have q33 : w.heap.size < w14.heap.size := lt_of_cell x0a
  have q34 : w3.heap.size < w14.heap.size := lt_of_cell y0a
  go_wp2_with fail
  go_ret
  exact ⟨rfl, hE⟩

set_option maxRecDepth 100000 in
theorem lifted (os : Os) (started : os.Started) (H : Type) (enc : TypeId × Value → H) :
    ReturnsInHanded {} Try.checked os 7 .any (Rows.fnExactKindsOfSpec.pre6 enc Try.prog Try.f7 Rows.fnExactKindsOfRow.domain false) (Rows.fnExactKindsOfSpec.post enc Try.prog Try.f7 false true false false) := by
  refine returnsInHanded_of_change (C := Try.checked) own_knob started (by kernel_rfl) Try.func7
    (ChangeSpec.witness6 (enc := enc) (C := Try.checked) false ⟨#[], #[.int .i64 0, .agg #[.int .i64 0, .slice none 0 0]], []⟩ 8 (by kernel_rfl) (by kernel_rfl) (by kernel_rfl) (by kernel_rfl)) ?_
  intro W base args ds gs before hval0 hW hcnd _
  have hval : ∀ (j : Nat) t v, Try.f7.params[j]? = some t → args[j]? = some v → Value.okWide Try.prog W .any base t v := hval0
  have hW' := hW
  obtain ⟨p, q, hA0, hV, rfl, hfz, hnd⟩ := hW
  have hA : DataW.TrodAll enc Try.prog W 0 (fun _ => true) true Try.f7.params.toList args.toList ds p := hA0
  rw [Try.params7] at hA hval
  obtain ⟨v0, v1, d0, d1, p0, p1, rfl, rfl, rfl, k0, k1⟩ := trodAll_two hA
  obtain ⟨rfl, rfl⟩ := trodVars_none hV
  clear hA0 hval0
  simp only [List.append_nil] at hW'
  obtain ⟨e0, rfl, lo0, hi0⟩ := int_of k0 (hval 0 _ _ rfl rfl)
  obtain ⟨e1, h1⟩ := dOp_of k1 (hval 1 _ _ rfl rfl)
  refine (walk e0 e1 _ W h1 lo0 hi0).mono fun e W' ⟨he, hE⟩ => ?_
  subst he
  exact ⟨_, rfl, law_post rfl rfl (by kernel_rfl) hW' hE rfl rfl rfl⟩

theorem proved : Rows.FnExactKindsOfSaid :=
  OpenClaim.holds_of_wide 7 Try.f7 rfl rfl rfl rfl rfl rfl rfl ⟨rfl, rfl, rfl, rfl, rfl⟩ rfl rfl rfl rfl rfl (by kernel_rfl) Try.func7 (by kernel_rfl)
    (of_decide_eq_true (by kernel_rfl)) (by unfold Func.isWrapper; first | (rw [if_pos (by decide +kernel)]; kernel_rfl) | (rw [if_neg (by decide +kernel)]; exact ⟨rfl, rfl⟩))
    (fun os started H enc _ => lifted os started H enc)
end Go.Proofs.Ytefnmfdmnoednaa.fnExactKindsOf
