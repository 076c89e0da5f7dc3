
/- FnExactFirstMap returns true, whatever the input, and writes nothing that was there. Conditions: none. -/
import Derived.Test.YtemhmpnnccmlmaaLift
import Derived.Test.YtemhmpnnccmlmaaTmL
import Derived.Test.YtemhmpnnccmlmaaBoxI
import Derived.Test.YtemhmpnnccmlmaaFirstM
namespace Go.Proofs.Ytemhmpnnccmlmaa.fnExactFirstMap
open Go.ChangeShapes Go.WideShapes Go.ChangeAt Go.RowKit
set_option linter.unusedVariables false

set_option maxHeartbeats 4000000 in
set_option maxRecDepth 100000 in
theorem walk (d0 : Int × List (Int × List (List Int))) (v0 : Value) (d1 : Int × List (Int × List (List Int))) (v1 : Value) (w : World) (h0 : RdTm w v0 d0) (h1 : RdTm w v1 d1) :
    Calls Try.prog 12 #[v0, v1] w fun e w' => e = .returned (.bool true) ∧ Ext w w' := by
  obtain ⟨tv0, rfl⟩ := h0.form
  obtain ⟨tv1, rfl⟩ := h1.form
  have hE : Ext w ((w.alloc (.cells #[.int .i64 d0.1, tv0] 58)).alloc (.cells #[.int .i64 d1.1, tv1] 58)) := (((Ext.refl' w).alloc (Nat.le_refl _) _).alloc (by simp) _)
  by_cases z0 : szL 1048576 (szTm d0) < 0
  · go_enter Try.func12, Try.ntmps12
    go_wp2_with fail
    refine (szTemplate_any d0 _ _ _ (h0.ext hE) (by omega) (by omega)).mono ?_
    rintro e s1 ⟨rfl, hS⟩
    have x0a := hS.cell (p := ⟨w.heap.size, 0, none⟩) (v := .int .i64 d0.1) (by simp [go_sem])
    have x0b := hS.cell (p := ⟨w.heap.size, 1, none⟩) (v := tv0) (by simp [go_sem])
    have x1a := hS.cell (p := ⟨w.heap.size + 1, 0, none⟩) (v := .int .i64 d1.1) (by simp [go_sem])
    have x1b := hS.cell (p := ⟨w.heap.size + 1, 1, none⟩) (v := tv1) (by simp [go_sem])
    replace hE := hE.tr hS
    clear hS
    go_wp2_with fail
    go_ret
    exact ⟨rfl, hE⟩
  obtain ⟨za0, zb0, zc0⟩ := szL_le z0
  by_cases z1 : szL (szL 1048576 (szTm d0)) (szTm d1) < 0
  · go_enter Try.func12, Try.ntmps12
    go_wp2_with fail
    refine (szTemplate_any d0 _ _ _ (h0.ext hE) (by omega) (by omega)).mono ?_
    rintro e s1 ⟨rfl, hS⟩
    have x0a := hS.cell (p := ⟨w.heap.size, 0, none⟩) (v := .int .i64 d0.1) (by simp [go_sem])
    have x0b := hS.cell (p := ⟨w.heap.size, 1, none⟩) (v := tv0) (by simp [go_sem])
    have x1a := hS.cell (p := ⟨w.heap.size + 1, 0, none⟩) (v := .int .i64 d1.1) (by simp [go_sem])
    have x1b := hS.cell (p := ⟨w.heap.size + 1, 1, none⟩) (v := tv1) (by simp [go_sem])
    replace hE := hE.tr hS
    clear hS
    go_wp2_with fail
    refine (szTemplate_any d1 _ _ _ (h1.ext hE) (by omega) (by omega)).mono ?_
    rintro e s2 ⟨rfl, hS⟩
    replace x0a := hS.cell x0a
    replace x0b := hS.cell x0b
    replace x1a := hS.cell x1a
    replace x1b := hS.cell x1b
    replace hE := hE.tr hS
    clear hS
    go_wp2_with fail
    go_ret
    exact ⟨rfl, hE⟩
  obtain ⟨za1, zb1, zc1⟩ := szL_le z1
  have hmk0 := mkTm_le d0
  have hmk1 := mkTm_le d1
  go_enter Try.func12, Try.ntmps12
  go_wp2_with fail
  refine (szTemplate_any d0 _ _ _ (h0.ext hE) (by omega) (by omega)).mono ?_
  rintro e s1 ⟨rfl, hS⟩
  have x0a := hS.cell (p := ⟨w.heap.size, 0, none⟩) (v := .int .i64 d0.1) (by simp [go_sem])
  have x0b := hS.cell (p := ⟨w.heap.size, 1, none⟩) (v := tv0) (by simp [go_sem])
  have x1a := hS.cell (p := ⟨w.heap.size + 1, 0, none⟩) (v := .int .i64 d1.1) (by simp [go_sem])
  have x1b := hS.cell (p := ⟨w.heap.size + 1, 1, none⟩) (v := tv1) (by simp [go_sem])
  replace hE := hE.tr hS
  clear hS
  go_wp2_with fail
  refine (szTemplate_any d1 _ _ _ (h1.ext hE) (by omega) (by omega)).mono ?_
  rintro e s2 ⟨rfl, hS⟩
  replace x0a := hS.cell x0a
  replace x0b := hS.cell x0b
  replace x1a := hS.cell x1a
  replace x1b := hS.cell x1b
  replace hE := hE.tr hS
  clear hS
  go_wp2_with fail
  refine region_sp [] [] [SP.val (.agg #[.int .i64 d0.1, tv0]), SP.ownTm d0, SP.val (.agg #[.int .i64 d1.1, tv1]), SP.ownTm d1, SP.resI s2.heap.size (SFirstMap d0 d1), SP.resI s2.heap.size (SFirstMap d0 d1), SP.ownIB s2.heap.size (SFirstMap d0 d1).1, SP.val (.int .i64 (SFirstMap d0 d1).2), SP.ownIB s2.heap.size (SFirstMap d0 d1).1, SP.val (.int .i64 (SFirstMap d0 d1).2)] (by kernel_rfl) (fun _ d _ _ _ h => by cases d <;> exact h) (by kernel_rfl) (by kernel_rfl)
    (.cons (fun vs y hY => Step.load ⟨w.heap.size, 0, none⟩ rfl rfl rfl (by simp [go_sem, hY.cell x0a, hY.cell x0b]) rfl) <|
     .cons (fun vs y hY g0_0 => Step.call Try.call42 rfl rfl [vs 0] rfl rfl ((toTemplate_any d0 _ _ (by rw [show vs 0 = _ from g0_0]; exact h0.ext (hE.tr hY)) (by omega)).mono fun _ _ ⟨u, fp, he, hE, ho, _⟩ => ⟨u, he, hE, fp, ho⟩)) <|
     .cons (fun vs y hY => Step.load ⟨w.heap.size + 1, 0, none⟩ rfl rfl rfl (by simp [go_sem, hY.cell x1a, hY.cell x1b]) rfl) <|
     .cons (fun vs y hY g2_0 g1_1 => Step.call Try.call42 rfl rfl [vs 2] rfl rfl ((toTemplate_any d1 _ _ (by rw [show vs 2 = _ from g2_0]; exact h1.ext (hE.tr hY)) (by omega)).mono fun _ _ ⟨u, fp, he, hE, ho, _⟩ => ⟨u, he, hE, fp, ho⟩)) <|
     .cons (fun vs y hY g1_0 g3_1 g3_2 => Step.call Try.call51 rfl rfl [vs 1, vs 3] rfl rfl (IRes.sp (specFirstMap_any d0 _ d1 _ _ (rdTm_of_sp g1_0) (rdTm_of_sp g3_1) (by omega) (by omega)) hY.size)) <|
     .cons (fun vs y hY g4_0 => Step.move rfl rfl rfl g4_0) <|
     .cons (fun vs y hY g5_0 => Step.resI0 rfl rfl g5_0) <|
     .cons (fun vs y hY g5_0 => Step.resI1 rfl rfl g5_0) <|
     .cons (fun vs y hY g6_0 g4_1 g0_2 g1_3 g2_4 g3_5 g4_6 g5_7 g6_8 => Step.assign rfl rfl rfl g6_0) <|
     .cons (fun vs y hY g7_0 g8_1 g0_2 g1_3 g2_4 g3_5 g4_6 g5_7 g6_8 g7_9 g8_10 => Step.assign rfl rfl g7_0 rfl) <|
     .nil) ?_
  intro vs w1 hC hL
  have r0 : vs 0 = _ := hL 0 (by decide) rfl
  have r2 : vs 2 = _ := hL 2 (by decide) rfl
  have r7 : vs 7 = _ := hL 7 (by decide) rfl
  have r9 : vs 9 = _ := hL 9 (by decide) rfl
  obtain ⟨fp0, o0, lo_o0, bd_o0⟩ := hL 8 (by decide) rfl
  have hi_o0 := o0.lt
  obtain ⟨ao0, co0, hvo0⟩ := o0.form
  rw [hvo0] at o0
  clear hL
  simp only [putAll, Act.put, List.contains_nil, cond_false, List.setIfInBounds_toArray, List.set_cons_succ, List.set_cons_zero, List.filterMap_nil, r0, r2, r7, r9, hvo0]
  clear r0 r2 r7 r9 hvo0
  have q0 : s2.heap.size ≤ w1.heap.size := hC.size
  replace x0a := hC.cell x0a
  replace x0b := hC.cell x0b
  replace x1a := hC.cell x1a
  replace x1b := hC.cell x1b
  replace hE := hE.tr hC
  clear hC
  have q1 : w.heap.size < w1.heap.size := lt_of_cell x0a
  have q2 : w.heap.size + 1 < w1.heap.size := lt_of_cell x1a
  go_wp2_with fail
  refine (toTemplate_any d0 _ _ (h0.ext hE) (by omega)).mono ?_
  rintro e w2 ⟨uo1, fp1, rfl, hC, o1, lo_o1⟩
  have q3 : w1.heap.size ≤ w2.heap.size := hC.size
  replace x0a := hC.cell x0a
  replace x0b := hC.cell x0b
  replace x1a := hC.cell x1a
  replace x1b := hC.cell x1b
  replace o0 := o0.ext hC
  replace hE := hE.tr hC
  clear hC
  have q4 : w.heap.size < w2.heap.size := lt_of_cell x0a
  have q5 : w.heap.size + 1 < w2.heap.size := lt_of_cell x1a
  replace lo_o1 : ∀ g ∈ fp1, w1.heap.size + 0 ≤ g := fun g hg => by have := lo_o1 g hg; (try simp only [World.size_alloc] at this); omega
  have hi_o1 := o1.lt
  obtain ⟨ao1, co1, rfl⟩ := o1.form
  go_wp2_with fail
  have hP : Ext w2 (w2.alloc (.cells #[.int .i64 d0.1, .slice ao1 d0.2.length co1] 64)) := ((Ext.refl' w2).alloc (Nat.le_refl _) _)
  refine (toTemplate_any d1 _ _ (h1.ext (hE.tr hP)) (by omega)).mono ?_
  rintro e w3 ⟨uo2, fp2, rfl, hC, o2, lo_o2⟩
  have y0a := hC.cell (p := ⟨w2.heap.size, 0, none⟩) (v := .int .i64 d0.1) (by simp [go_sem])
  have y0b := hC.cell (p := ⟨w2.heap.size, 1, none⟩) (v := .slice ao1 d0.2.length co1) (by simp [go_sem])
  replace hC := hP.tr hC
  clear hP
  have q6 : w2.heap.size ≤ w3.heap.size := hC.size
  replace x0a := hC.cell x0a
  replace x0b := hC.cell x0b
  replace x1a := hC.cell x1a
  replace x1b := hC.cell x1b
  replace o0 := o0.ext hC
  replace o1 := o1.ext hC
  replace hE := hE.tr hC
  clear hC
  have q7 : w.heap.size < w3.heap.size := lt_of_cell x0a
  have q8 : w.heap.size + 1 < w3.heap.size := lt_of_cell x1a
  have q9 : w2.heap.size < w3.heap.size := lt_of_cell y0a
  replace lo_o2 : ∀ g ∈ fp2, w2.heap.size + 1 ≤ g := fun g hg => by have := lo_o2 g hg; (try simp only [World.size_alloc] at this); omega
  have hi_o2 := o2.lt
  obtain ⟨ao2, co2, rfl⟩ := o2.form
  go_wp2_with fail
  have hP : Ext w3 (w3.alloc (.cells #[.int .i64 d1.1, .slice ao2 d1.2.length co2] 64)) := ((Ext.refl' w3).alloc (Nat.le_refl _) _)
  refine (implFirstMap_any d0 _ d1 _ _ (o1.ext hP).rd (o2.ext hP).rd (by omega) (by omega)).mono ?_
  rintro e w4 ⟨u3, fp3, rfl, hC, o3, lo_o3, bd_o3⟩
  have y1a := hC.cell (p := ⟨w3.heap.size, 0, none⟩) (v := .int .i64 d1.1) (by simp [go_sem])
  have y1b := hC.cell (p := ⟨w3.heap.size, 1, none⟩) (v := .slice ao2 d1.2.length co2) (by simp [go_sem])
  replace hC := hP.tr hC
  clear hP
  have q10 : w3.heap.size ≤ w4.heap.size := hC.size
  replace x0a := hC.cell x0a
  replace x0b := hC.cell x0b
  replace x1a := hC.cell x1a
  replace x1b := hC.cell x1b
  replace y0a := hC.cell y0a
  replace y0b := hC.cell y0b
  replace o0 := o0.ext hC
  replace o1 := o1.ext hC
  replace o2 := o2.ext hC
  replace hE := hE.tr hC
  clear hC
  have q11 : w.heap.size < w4.heap.size := lt_of_cell x0a
  have q12 : w.heap.size + 1 < w4.heap.size := lt_of_cell x1a
  have q13 : w2.heap.size < w4.heap.size := lt_of_cell y0a
  have q14 : w3.heap.size < w4.heap.size := lt_of_cell y1a
  replace lo_o3 : ∀ g ∈ fp3, w3.heap.size + 1 ≤ g := fun g hg => by have := lo_o3 g hg; (try simp only [World.size_alloc] at this); omega
  have hi_o3 := o3.lt
  obtain ⟨ao3, co3, rfl⟩ := o3.form
  go_wp2_with fail
  refine (eqInt64S_any (SFirstMap d0 d1).1 (SFirstMap d0 d1).1 _ _ _ o3.rd o0.rd).mono ?_
  rintro e w5 ⟨rfl, hC⟩
  have q15 : w4.heap.size ≤ w5.heap.size := hC.size
  replace x0a := hC.cell x0a
  replace x0b := hC.cell x0b
  replace x1a := hC.cell x1a
  replace x1b := hC.cell x1b
  replace y0a := hC.cell y0a
  replace y0b := hC.cell y0b
  replace y1a := hC.cell y1a
  replace y1b := hC.cell y1b
  replace o0 := o0.ext hC
  replace o1 := o1.ext hC
  replace o2 := o2.ext hC
  replace o3 := o3.ext hC
  replace hE := hE.tr hC
  clear hC
  have q16 : w.heap.size < w5.heap.size := lt_of_cell x0a
  have q17 : w.heap.size + 1 < w5.heap.size := lt_of_cell x1a
  have q18 : w2.heap.size < w5.heap.size := lt_of_cell y0a
  have q19 : w3.heap.size < w5.heap.size := lt_of_cell y1a
  go_wp2_with fail
  refine region_sp [] [] [SP.val (.agg #[.int .i64 d0.1, .slice ao1 d0.2.length co1]), SP.val (.agg #[.int .i64 d0.1, tv0]), SP.ownTm d0, SP.val (.bool true), SP.val (.bool false)] (by kernel_rfl) (fun _ d _ _ _ h => by cases d <;> exact h) (by kernel_rfl) (by kernel_rfl)
    (.cons (fun vs y hY => Step.load ⟨w2.heap.size, 0, none⟩ rfl rfl rfl (by simp [go_sem, hY.cell y0a, hY.cell y0b]) rfl) <|
     .cons (fun vs y hY => Step.load ⟨w.heap.size, 0, none⟩ rfl rfl rfl (by simp [go_sem, hY.cell x0a, hY.cell x0b]) rfl) <|
     .cons (fun vs y hY g1_0 => Step.call Try.call42 rfl rfl [vs 1] rfl rfl ((toTemplate_any d0 _ _ (by rw [show vs 1 = _ from g1_0]; exact h0.ext (hE.tr hY)) (by omega)).mono fun _ _ ⟨u, fp, he, hE, ho, _⟩ => ⟨u, he, hE, fp, ho⟩)) <|
     .cons (fun vs y hY g0_0 g2_1 g2_2 => Step.call Try.call44 rfl rfl [vs 0, vs 2] rfl rfl ((eqTemplate_any d0 d0 _ _ _ (by rw [show vs 0 = _ from g0_0]; exact (o1.ext hY).rd) (rdTm_of_sp g2_1)).mono fun _ _ ⟨he, hE⟩ => ⟨_, he, hE, by simp; rfl⟩)) <|
     .cons (fun vs y hY g3_0 => Step.not rfl rfl g3_0 rfl) <|
     .nil) ?_
  intro vs w6 hC hL
  have r0 : vs 0 = _ := hL 0 (by decide) rfl
  have r1 : vs 1 = _ := hL 1 (by decide) rfl
  have r3 : vs 3 = _ := hL 3 (by decide) rfl
  have r4 : vs 4 = _ := hL 4 (by decide) rfl
  clear hL
  simp only [putAll, Act.put, List.contains_nil, cond_false, List.setIfInBounds_toArray, List.set_cons_succ, List.set_cons_zero, List.filterMap_nil, r0, r1, r3, r4]
  clear r0 r1 r3 r4
  have q20 : w5.heap.size ≤ w6.heap.size := hC.size
  replace x0a := hC.cell x0a
  replace x0b := hC.cell x0b
  replace x1a := hC.cell x1a
  replace x1b := hC.cell x1b
  replace y0a := hC.cell y0a
  replace y0b := hC.cell y0b
  replace y1a := hC.cell y1a
  replace y1b := hC.cell y1b
  replace o0 := o0.ext hC
  replace o1 := o1.ext hC
  replace o2 := o2.ext hC
  replace o3 := o3.ext hC
  replace hE := hE.tr hC
  clear hC
  have q21 : w.heap.size < w6.heap.size := lt_of_cell x0a
  have q22 : w.heap.size + 1 < w6.heap.size := lt_of_cell x1a
  have q23 : w2.heap.size < w6.heap.size := lt_of_cell y0a
  have q24 : w3.heap.size < w6.heap.size := lt_of_cell y1a
  go_wp2_with fail
  refine region_sp [] [] [SP.val (.agg #[.int .i64 d1.1, .slice ao2 d1.2.length co2]), SP.val (.agg #[.int .i64 d1.1, tv1]), SP.ownTm d1, SP.val (.bool true), SP.val (.bool false)] (by kernel_rfl) (fun _ d _ _ _ h => by cases d <;> exact h) (by kernel_rfl) (by kernel_rfl)
    (.cons (fun vs y hY => Step.load ⟨w3.heap.size, 0, none⟩ rfl rfl rfl (by simp [go_sem, hY.cell y1a, hY.cell y1b]) rfl) <|
     .cons (fun vs y hY => Step.load ⟨w.heap.size + 1, 0, none⟩ rfl rfl rfl (by simp [go_sem, hY.cell x1a, hY.cell x1b]) rfl) <|
     .cons (fun vs y hY g1_0 => Step.call Try.call42 rfl rfl [vs 1] rfl rfl ((toTemplate_any d1 _ _ (by rw [show vs 1 = _ from g1_0]; exact h1.ext (hE.tr hY)) (by omega)).mono fun _ _ ⟨u, fp, he, hE, ho, _⟩ => ⟨u, he, hE, fp, ho⟩)) <|
     .cons (fun vs y hY g0_0 g2_1 g2_2 => Step.call Try.call44 rfl rfl [vs 0, vs 2] rfl rfl ((eqTemplate_any d1 d1 _ _ _ (by rw [show vs 0 = _ from g0_0]; exact (o2.ext hY).rd) (rdTm_of_sp g2_1)).mono fun _ _ ⟨he, hE⟩ => ⟨_, he, hE, by simp; rfl⟩)) <|
     .cons (fun vs y hY g3_0 => Step.not rfl rfl g3_0 rfl) <|
     .nil) ?_
  intro vs w7 hC hL
  have r0 : vs 0 = _ := hL 0 (by decide) rfl
  have r1 : vs 1 = _ := hL 1 (by decide) rfl
  have r3 : vs 3 = _ := hL 3 (by decide) rfl
  have r4 : vs 4 = _ := hL 4 (by decide) rfl
  clear hL
  simp only [putAll, Act.put, List.contains_nil, cond_false, List.setIfInBounds_toArray, List.set_cons_succ, List.set_cons_zero, List.filterMap_nil, r0, r1, r3, r4]
  clear r0 r1 r3 r4
  have q25 : w6.heap.size ≤ w7.heap.size := hC.size
  replace x0a := hC.cell x0a
  replace x0b := hC.cell x0b
  replace x1a := hC.cell x1a
  replace x1b := hC.cell x1b
  replace y0a := hC.cell y0a
  replace y0b := hC.cell y0b
  replace y1a := hC.cell y1a
  replace y1b := hC.cell y1b
  replace o0 := o0.ext hC
  replace o1 := o1.ext hC
  replace o2 := o2.ext hC
  replace o3 := o3.ext hC
  replace hE := hE.tr hC
  clear hC
  have q26 : w.heap.size < w7.heap.size := lt_of_cell x0a
  have q27 : w.heap.size + 1 < w7.heap.size := lt_of_cell x1a
  have q28 : w2.heap.size < w7.heap.size := lt_of_cell y0a
  have q29 : w3.heap.size < w7.heap.size := lt_of_cell y1a
  go_wp2_with fail
  refine (markTemplate_any d0 _ fp1 (1) _ o1 (by omega) (by omega)).mono ?_
  rintro e w8 ⟨rfl, hO, o1'⟩
  replace x0a := hO.cell x0a (by intro hm; have := lo_o1 _ hm; have := hi_o1 _ hm; dsimp only at *; omega)
  replace x0b := hO.cell x0b (by intro hm; have := lo_o1 _ hm; have := hi_o1 _ hm; dsimp only at *; omega)
  replace x1a := hO.cell x1a (by intro hm; have := lo_o1 _ hm; have := hi_o1 _ hm; dsimp only at *; omega)
  replace x1b := hO.cell x1b (by intro hm; have := lo_o1 _ hm; have := hi_o1 _ hm; dsimp only at *; omega)
  replace y0a := hO.cell y0a (by intro hm; have := lo_o1 _ hm; have := hi_o1 _ hm; dsimp only at *; omega)
  replace y0b := hO.cell y0b (by intro hm; have := lo_o1 _ hm; have := hi_o1 _ hm; dsimp only at *; omega)
  replace y1a := hO.cell y1a (by intro hm; have := lo_o1 _ hm; have := hi_o1 _ hm; dsimp only at *; omega)
  replace y1b := hO.cell y1b (by intro hm; have := lo_o1 _ hm; have := hi_o1 _ hm; dsimp only at *; omega)
  replace o0 := o0.off hO (by intro g hg hm; have := lo_o1 _ hm; have := hi_o1 _ hm; have := lo_o0 _ hg; have := hi_o0 _ hg; omega)
  replace o2 := o2.off hO (by intro g hg hm; have := lo_o1 _ hm; have := hi_o1 _ hm; have := lo_o2 _ hg; have := hi_o2 _ hg; omega)
  replace o3 := o3.off hO (by intro g hg hm; have := lo_o1 _ hm; have := hi_o1 _ hm; have := lo_o3 _ hg; have := hi_o3 _ hg; omega)
  replace hE : Ext w w8 := Below.trans hE (hO.below hE.size (fun g hg => by have := lo_o1 g hg; have := hE.size; omega))
  have q30 : w7.heap.size ≤ w8.heap.size := hO.size
  clear o1 hO
  have o1 := o1'
  clear o1'
  go_wp2_with fail
  refine (markTemplate_any d1 _ fp2 (1 + (mkTm d0 : Int)) _ o2 (by omega) (by omega)).mono ?_
  rintro e w9 ⟨rfl, hO, o2'⟩
  replace x0a := hO.cell x0a (by intro hm; have := lo_o2 _ hm; have := hi_o2 _ hm; dsimp only at *; omega)
  replace x0b := hO.cell x0b (by intro hm; have := lo_o2 _ hm; have := hi_o2 _ hm; dsimp only at *; omega)
  replace x1a := hO.cell x1a (by intro hm; have := lo_o2 _ hm; have := hi_o2 _ hm; dsimp only at *; omega)
  replace x1b := hO.cell x1b (by intro hm; have := lo_o2 _ hm; have := hi_o2 _ hm; dsimp only at *; omega)
  replace y0a := hO.cell y0a (by intro hm; have := lo_o2 _ hm; have := hi_o2 _ hm; dsimp only at *; omega)
  replace y0b := hO.cell y0b (by intro hm; have := lo_o2 _ hm; have := hi_o2 _ hm; dsimp only at *; omega)
  replace y1a := hO.cell y1a (by intro hm; have := lo_o2 _ hm; have := hi_o2 _ hm; dsimp only at *; omega)
  replace y1b := hO.cell y1b (by intro hm; have := lo_o2 _ hm; have := hi_o2 _ hm; dsimp only at *; omega)
  replace o0 := o0.off hO (by intro g hg hm; have := lo_o2 _ hm; have := hi_o2 _ hm; have := lo_o0 _ hg; have := hi_o0 _ hg; omega)
  replace o1 := o1.off hO (by intro g hg hm; have := lo_o2 _ hm; have := hi_o2 _ hm; have := lo_o1 _ hg; have := hi_o1 _ hg; omega)
  replace o3 := o3.off hO (by intro g hg hm; have := lo_o2 _ hm; have := hi_o2 _ hm; have := lo_o3 _ hg; have := hi_o3 _ hg; omega)
  replace hE : Ext w w9 := Below.trans hE (hO.below hE.size (fun g hg => by have := lo_o2 g hg; have := hE.size; omega))
  have q31 : w8.heap.size ≤ w9.heap.size := hO.size
  clear o2 hO
  have o2 := o2'
  clear o2'
  go_wp2_with fail
  refine (eqInt64S_any (SFirstMap d0 d1).1 (SFirstMap d0 d1).1 _ _ _ o3.rd o0.rd).mono ?_
  rintro e w10 ⟨rfl, hC⟩
  have q32 : w9.heap.size ≤ w10.heap.size := hC.size
  replace x0a := hC.cell x0a
  replace x0b := hC.cell x0b
  replace x1a := hC.cell x1a
  replace x1b := hC.cell x1b
  replace y0a := hC.cell y0a
  replace y0b := hC.cell y0b
  replace y1a := hC.cell y1a
  replace y1b := hC.cell y1b
  replace o0 := o0.ext hC
  replace o1 := o1.ext hC
  replace o2 := o2.ext hC
  replace o3 := o3.ext hC
  replace hE := hE.tr hC
  clear hC
  have q33 : w.heap.size < w10.heap.size := lt_of_cell x0a
  have q34 : w.heap.size + 1 < w10.heap.size := lt_of_cell x1a
  have q35 : w2.heap.size < w10.heap.size := lt_of_cell y0a
  have q36 : w3.heap.size < w10.heap.size := lt_of_cell y1a
  go_wp2_with fail
  refine (markInt64S_any (SFirstMap d0 d1).1 _ fp3 (1) _ o3 (by omega) (by omega)).mono ?_
  rintro e w11 ⟨rfl, hO, o3'⟩
  replace x0a := hO.cell x0a (by intro hm; have := lo_o3 _ hm; have := hi_o3 _ hm; dsimp only at *; omega)
  replace x0b := hO.cell x0b (by intro hm; have := lo_o3 _ hm; have := hi_o3 _ hm; dsimp only at *; omega)
  replace x1a := hO.cell x1a (by intro hm; have := lo_o3 _ hm; have := hi_o3 _ hm; dsimp only at *; omega)
  replace x1b := hO.cell x1b (by intro hm; have := lo_o3 _ hm; have := hi_o3 _ hm; dsimp only at *; omega)
  replace y0a := hO.cell y0a (by intro hm; have := lo_o3 _ hm; have := hi_o3 _ hm; dsimp only at *; omega)
  replace y0b := hO.cell y0b (by intro hm; have := lo_o3 _ hm; have := hi_o3 _ hm; dsimp only at *; omega)
  replace y1a := hO.cell y1a (by intro hm; have := lo_o3 _ hm; have := hi_o3 _ hm; dsimp only at *; omega)
  replace y1b := hO.cell y1b (by intro hm; have := lo_o3 _ hm; have := hi_o3 _ hm; dsimp only at *; omega)
  replace o0 := o0.off hO (by intro g hg hm; have := lo_o3 _ hm; have := hi_o3 _ hm; have := lo_o0 _ hg; have := hi_o0 _ hg; omega)
  replace o1 := o1.off hO (by intro g hg hm; have := lo_o3 _ hm; have := hi_o3 _ hm; have := lo_o1 _ hg; have := hi_o1 _ hg; omega)
  replace o2 := o2.off hO (by intro g hg hm; have := lo_o3 _ hm; have := hi_o3 _ hm; have := lo_o2 _ hg; have := hi_o2 _ hg; omega)
  replace hE : Ext w w11 := Below.trans hE (hO.below hE.size (fun g hg => by have := lo_o3 g hg; have := hE.size; omega))
  have q37 : w10.heap.size ≤ w11.heap.size := hO.size
  clear o3 hO
  have o3 := o3'
  clear o3'
  go_wp2_with fail
  have hh : heldI (marksI (1) (SFirstMap d0 d1).1.length) (1) = 1 + (List.length (SFirstMap d0 d1).1 : Int) := heldI_marks _ _
  have HH := Lib.hid hh
  clear hh
  refine (heldInt64S_any (marksI (1) (SFirstMap d0 d1).1.length) _ (1) _ o3.rd (by omega) (by rw [marksI_length]; omega)).mono ?_
  rintro e w12 ⟨rfl, hC⟩
  rw [HH.out]
  clear HH
  have q38 : w11.heap.size ≤ w12.heap.size := hC.size
  replace x0a := hC.cell x0a
  replace x0b := hC.cell x0b
  replace x1a := hC.cell x1a
  replace x1b := hC.cell x1b
  replace y0a := hC.cell y0a
  replace y0b := hC.cell y0b
  replace y1a := hC.cell y1a
  replace y1b := hC.cell y1b
  replace o0 := o0.ext hC
  replace o1 := o1.ext hC
  replace o2 := o2.ext hC
  replace o3 := o3.ext hC
  replace hE := hE.tr hC
  clear hC
  have q39 : w.heap.size < w12.heap.size := lt_of_cell x0a
  have q40 : w.heap.size + 1 < w12.heap.size := lt_of_cell x1a
  have q41 : w2.heap.size < w12.heap.size := lt_of_cell y0a
  have q42 : w3.heap.size < w12.heap.size := lt_of_cell y1a
  go_wp2_with fail
  refine region_sp [] [] [SP.val (.agg #[.int .i64 d0.1, tv0]), SP.ownTm d0, SP.val (.agg #[.int .i64 d1.1, tv1]), SP.ownTm d1, SP.resI w12.heap.size (SFirstMap d0 d1), SP.resI w12.heap.size (SFirstMap d0 d1), SP.ownIB w12.heap.size (SFirstMap d0 d1).1, SP.val (.int .i64 (SFirstMap d0 d1).2), SP.ownIB w12.heap.size (SFirstMap d0 d1).1, SP.val (.int .i64 (SFirstMap d0 d1).2)] (by kernel_rfl) (fun _ d _ _ _ h => by cases d <;> exact h) (by kernel_rfl) (by kernel_rfl)
    (.cons (fun vs y hY => Step.load ⟨w.heap.size, 0, none⟩ rfl rfl rfl (by simp [go_sem, hY.cell x0a, hY.cell x0b]) rfl) <|
     .cons (fun vs y hY g0_0 => Step.call Try.call42 rfl rfl [vs 0] rfl rfl ((toTemplate_any d0 _ _ (by rw [show vs 0 = _ from g0_0]; exact h0.ext (hE.tr hY)) (by omega)).mono fun _ _ ⟨u, fp, he, hE, ho, _⟩ => ⟨u, he, hE, fp, ho⟩)) <|
     .cons (fun vs y hY => Step.load ⟨w.heap.size + 1, 0, none⟩ rfl rfl rfl (by simp [go_sem, hY.cell x1a, hY.cell x1b]) rfl) <|
     .cons (fun vs y hY g2_0 g1_1 => Step.call Try.call42 rfl rfl [vs 2] rfl rfl ((toTemplate_any d1 _ _ (by rw [show vs 2 = _ from g2_0]; exact h1.ext (hE.tr hY)) (by omega)).mono fun _ _ ⟨u, fp, he, hE, ho, _⟩ => ⟨u, he, hE, fp, ho⟩)) <|
     .cons (fun vs y hY g1_0 g3_1 g3_2 => Step.call Try.call52 rfl rfl [vs 1, vs 3] rfl rfl (IRes.sp (implFirstMap_any d0 _ d1 _ _ (rdTm_of_sp g1_0) (rdTm_of_sp g3_1) (by omega) (by omega)) hY.size)) <|
     .cons (fun vs y hY g4_0 => Step.move rfl rfl rfl g4_0) <|
     .cons (fun vs y hY g5_0 => Step.resI0 rfl rfl g5_0) <|
     .cons (fun vs y hY g5_0 => Step.resI1 rfl rfl g5_0) <|
     .cons (fun vs y hY g6_0 g4_1 g0_2 g1_3 g2_4 g3_5 g4_6 g5_7 g6_8 => Step.assign rfl rfl rfl g6_0) <|
     .cons (fun vs y hY g7_0 g8_1 g0_2 g1_3 g2_4 g3_5 g4_6 g5_7 g6_8 g7_9 g8_10 => Step.assign rfl rfl g7_0 rfl) <|
     .nil) ?_
  intro vs w13 hC hL
  have r0 : vs 0 = _ := hL 0 (by decide) rfl
  have r2 : vs 2 = _ := hL 2 (by decide) rfl
  have r7 : vs 7 = _ := hL 7 (by decide) rfl
  have r9 : vs 9 = _ := hL 9 (by decide) rfl
  obtain ⟨fp4, o4, lo_o4, bd_o4⟩ := hL 8 (by decide) rfl
  have hi_o4 := o4.lt
  obtain ⟨ao4, co4, hvo4⟩ := o4.form
  rw [hvo4] at o4
  clear hL
  simp only [putAll, Act.put, List.contains_nil, cond_false, List.setIfInBounds_toArray, List.set_cons_succ, List.set_cons_zero, List.filterMap_nil, r0, r2, r7, r9, hvo4]
  clear r0 r2 r7 r9 hvo4
  have q43 : w12.heap.size ≤ w13.heap.size := hC.size
  replace x0a := hC.cell x0a
  replace x0b := hC.cell x0b
  replace x1a := hC.cell x1a
  replace x1b := hC.cell x1b
  replace y0a := hC.cell y0a
  replace y0b := hC.cell y0b
  replace y1a := hC.cell y1a
  replace y1b := hC.cell y1b
  replace o0 := o0.ext hC
  replace o1 := o1.ext hC
  replace o2 := o2.ext hC
  replace o3 := o3.ext hC
  replace hE := hE.tr hC
  clear hC
  have q44 : w.heap.size < w13.heap.size := lt_of_cell x0a
  have q45 : w.heap.size + 1 < w13.heap.size := lt_of_cell x1a
  have q46 : w2.heap.size < w13.heap.size := lt_of_cell y0a
  have q47 : w3.heap.size < w13.heap.size := lt_of_cell y1a
  go_wp2_with fail
  refine (eqInt64S_any (SFirstMap d0 d1).1 (SFirstMap d0 d1).1 _ _ _ o4.rd o0.rd).mono ?_
  rintro e w14 ⟨rfl, hC⟩
  have q48 : w13.heap.size ≤ w14.heap.size := hC.size
  replace x0a := hC.cell x0a
  replace x0b := hC.cell x0b
  replace x1a := hC.cell x1a
  replace x1b := hC.cell x1b
  replace y0a := hC.cell y0a
  replace y0b := hC.cell y0b
  replace y1a := hC.cell y1a
  replace y1b := hC.cell y1b
  replace o0 := o0.ext hC
  replace o1 := o1.ext hC
  replace o2 := o2.ext hC
  replace o3 := o3.ext hC
  replace o4 := o4.ext hC
  replace hE := hE.tr hC
  clear hC
  have q49 : w.heap.size < w14.heap.size := lt_of_cell x0a
  have q50 : w.heap.size + 1 < w14.heap.size := lt_of_cell x1a
  have q51 : w2.heap.size < w14.heap.size := lt_of_cell y0a
  have q52 : w3.heap.size < w14.heap.size := lt_of_cell y1a
  go_wp2_with fail
  have hh : heldI (marksI (1) (SFirstMap d0 d1).1.length) (1) = 1 + (List.length (SFirstMap d0 d1).1 : Int) := heldI_marks _ _
  have HH := Lib.hid hh
  clear hh
  refine (heldInt64S_any (marksI (1) (SFirstMap d0 d1).1.length) _ (1) _ o3.rd (by omega) (by rw [marksI_length]; omega)).mono ?_
  rintro e w15 ⟨rfl, hC⟩
  rw [HH.out]
  clear HH
  have q53 : w14.heap.size ≤ w15.heap.size := hC.size
  replace x0a := hC.cell x0a
  replace x0b := hC.cell x0b
  replace x1a := hC.cell x1a
  replace x1b := hC.cell x1b
  replace y0a := hC.cell y0a
  replace y0b := hC.cell y0b
  replace y1a := hC.cell y1a
  replace y1b := hC.cell y1b
  replace o0 := o0.ext hC
  replace o1 := o1.ext hC
  replace o2 := o2.ext hC
  replace o3 := o3.ext hC
  replace o4 := o4.ext hC
  replace hE := hE.tr hC
  clear hC
  have q54 : w.heap.size < w15.heap.size := lt_of_cell x0a
  have q55 : w.heap.size + 1 < w15.heap.size := lt_of_cell x1a
  have q56 : w2.heap.size < w15.heap.size := lt_of_cell y0a
  have q57 : w3.heap.size < w15.heap.size := lt_of_cell y1a
  go_wp2_with fail
  go_ret
  exact ⟨rfl, hE⟩

set_option maxRecDepth 100000 in
theorem lifted (os : Os) (started : os.Started) (H : Type) (enc : TypeId × Value → H) :
    ReturnsInHanded {} Try.checked os 12 .any (Rows.fnExactFirstMapSpec.pre6 enc Try.prog Try.f12 Rows.fnExactFirstMapRow.domain false) (Rows.fnExactFirstMapSpec.post enc Try.prog Try.f12 false true false false) := by
  refine returnsInHanded_of_change (C := Try.checked) own_knob started (by kernel_rfl) Try.func12
    (ChangeSpec.witness6 (enc := enc) (C := Try.checked) false ⟨#[], #[.agg #[.int .i64 0, .slice none 0 0], .agg #[.int .i64 0, .slice none 0 0]], []⟩ 8 (by kernel_rfl) (by kernel_rfl) (by kernel_rfl) (by kernel_rfl)) ?_
  intro W base args ds gs before hval0 hW hcnd _
  have hval : ∀ (j : Nat) t v, Try.f12.params[j]? = some t → args[j]? = some v → Value.okWide Try.prog W .any base t v := hval0
  have hW' := hW
  obtain ⟨p, q, hA0, hV, rfl, hfz, hnd⟩ := hW
  have hA : DataW.TrodAll enc Try.prog W 0 (fun _ => true) true Try.f12.params.toList args.toList ds p := hA0
  rw [Try.params12] at hA hval
  obtain ⟨v0, v1, d0, d1, p0, p1, rfl, rfl, rfl, k0, k1⟩ := trodAll_two hA
  obtain ⟨rfl, rfl⟩ := trodVars_none hV
  clear hA0 hval0
  simp only [List.append_nil] at hW'
  obtain ⟨e0, h0⟩ := dTm_of k0 (hval 0 _ _ rfl rfl)
  obtain ⟨e1, h1⟩ := dTm_of k1 (hval 1 _ _ rfl rfl)
  refine (walk e0 _ e1 _ W h0 h1).mono fun e W' ⟨he, hE⟩ => ?_
  subst he
  exact ⟨_, rfl, law_post rfl rfl (by kernel_rfl) hW' hE rfl rfl rfl⟩

theorem proved : Rows.FnExactFirstMapSaid :=
  OpenClaim.holds_of_wide 12 Try.f12 rfl rfl rfl rfl rfl rfl rfl ⟨rfl, rfl, rfl, rfl, rfl⟩ rfl rfl rfl rfl rfl (by kernel_rfl) Try.func12 (by kernel_rfl)
    (of_decide_eq_true (by kernel_rfl)) (by unfold Func.isWrapper; first | (rw [if_pos (by decide +kernel)]; kernel_rfl) | (rw [if_neg (by decide +kernel)]; exact ⟨rfl, rfl⟩))
    (fun os started H enc _ => lifted os started H enc)
end Go.Proofs.Ytemhmpnnccmlmaa.fnExactFirstMap
