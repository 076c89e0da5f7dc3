
/- FnExactBreakingTuples returns true, whatever the input, and writes nothing that was there. Conditions: none. -/
import Derived.Test.YtemhmpnnccmlmaaLift
import Derived.Test.YtemhmpnnccmlmaaOpL
import Derived.Test.YtemhmpnnccmlmaaRelL
import Derived.Test.YtemhmpnnccmlmaaIIL
import Derived.Test.YtemhmpnnccmlmaaBoxI
import Derived.Test.YtemhmpnnccmlmaaBreakT
namespace Go.Proofs.Ytemhmpnnccmlmaa.fnExactBreakingTuples
open Go.ChangeShapes Go.WideShapes Go.ChangeAt Go.RowKit
set_option linter.unusedVariables false

set_option maxHeartbeats 4000000 in
set_option maxRecDepth 100000 in
theorem walk (d0 : Int) (d1 : Int × List Int) (v1 : Value) (d2 : Int × List (List Int)) (v2 : Value) (w : World) (h1 : RdOp w v1 d1) (h2 : RdRel w v2 d2) (lo0 : -9223372036854775808 ≤ d0) (hi0 : d0 ≤ 9223372036854775807) :
    Calls Try.prog 7 #[.int .i64 d0, v1, v2] w fun e w' => e = .returned (.bool true) ∧ Ext w w' := by
  obtain ⟨tv1, rfl⟩ := h1.form
  obtain ⟨tv2, rfl⟩ := h2.form
  have hE : Ext w ((w.alloc (.cells #[.int .i64 d1.1, tv1] 38)).alloc (.cells #[.int .i64 d2.1, tv2] 24)) := (((Ext.refl' w).alloc (Nat.le_refl _) _).alloc (by simp) _)
  by_cases z0 : szL 1048576 (szOp d1) < 0
  · go_enter Try.func7, Try.ntmps7
    go_wp2_with fail
    refine (szOp_any d1 _ _ _ (h1.ext hE) (by omega) (by omega)).mono ?_
    rintro e s1 ⟨rfl, hS⟩
    have x0a := hS.cell (p := ⟨w.heap.size, 0, none⟩) (v := .int .i64 d1.1) (by simp [go_sem])
    have x0b := hS.cell (p := ⟨w.heap.size, 1, none⟩) (v := tv1) (by simp [go_sem])
    have x1a := hS.cell (p := ⟨w.heap.size + 1, 0, none⟩) (v := .int .i64 d2.1) (by simp [go_sem])
    have x1b := hS.cell (p := ⟨w.heap.size + 1, 1, none⟩) (v := tv2) (by simp [go_sem])
    replace hE := hE.tr hS
    clear hS
    go_wp2_with fail
    go_ret
    exact ⟨rfl, hE⟩
  obtain ⟨za0, zb0, zc0⟩ := szL_le z0
  by_cases z1 : szL (szL 1048576 (szOp d1)) (szRel d2) < 0
  · go_enter Try.func7, Try.ntmps7
    go_wp2_with fail
    refine (szOp_any d1 _ _ _ (h1.ext hE) (by omega) (by omega)).mono ?_
    rintro e s1 ⟨rfl, hS⟩
    have x0a := hS.cell (p := ⟨w.heap.size, 0, none⟩) (v := .int .i64 d1.1) (by simp [go_sem])
    have x0b := hS.cell (p := ⟨w.heap.size, 1, none⟩) (v := tv1) (by simp [go_sem])
    have x1a := hS.cell (p := ⟨w.heap.size + 1, 0, none⟩) (v := .int .i64 d2.1) (by simp [go_sem])
    have x1b := hS.cell (p := ⟨w.heap.size + 1, 1, none⟩) (v := tv2) (by simp [go_sem])
    replace hE := hE.tr hS
    clear hS
    go_wp2_with fail
    refine (szRel_any d2 _ _ _ (h2.ext hE) (by omega) (by omega)).mono ?_
    rintro e s2 ⟨rfl, hS⟩
    replace x0a := hS.cell x0a
    replace x0b := hS.cell x0b
    replace x1a := hS.cell x1a
    replace x1b := hS.cell x1b
    replace hE := hE.tr hS
    clear hS
    go_wp2_with fail
    go_ret
    exact ⟨rfl, hE⟩
  obtain ⟨za1, zb1, zc1⟩ := szL_le z1
  have hmk1 := mkOp_le d1
  have hmk2 := mkRel_le d2
  go_enter Try.func7, Try.ntmps7
  go_wp2_with fail
  refine (szOp_any d1 _ _ _ (h1.ext hE) (by omega) (by omega)).mono ?_
  rintro e s1 ⟨rfl, hS⟩
  have x0a := hS.cell (p := ⟨w.heap.size, 0, none⟩) (v := .int .i64 d1.1) (by simp [go_sem])
  have x0b := hS.cell (p := ⟨w.heap.size, 1, none⟩) (v := tv1) (by simp [go_sem])
  have x1a := hS.cell (p := ⟨w.heap.size + 1, 0, none⟩) (v := .int .i64 d2.1) (by simp [go_sem])
  have x1b := hS.cell (p := ⟨w.heap.size + 1, 1, none⟩) (v := tv2) (by simp [go_sem])
  replace hE := hE.tr hS
  clear hS
  go_wp2_with fail
  refine (szRel_any d2 _ _ _ (h2.ext hE) (by omega) (by omega)).mono ?_
  rintro e s2 ⟨rfl, hS⟩
  replace x0a := hS.cell x0a
  replace x0b := hS.cell x0b
  replace x1a := hS.cell x1a
  replace x1b := hS.cell x1b
  replace hE := hE.tr hS
  clear hS
  go_wp2_with fail
  refine region_sp [] [] [SP.val (.int .i64 d0), SP.val (.agg #[.int .i64 d1.1, tv1]), SP.ownOp d1, SP.val (.agg #[.int .i64 d2.1, tv2]), SP.ownRel d2, SP.resIII s2.heap.size (SBreakingTuples d0 d1 d2), SP.resIII s2.heap.size (SBreakingTuples d0 d1 d2), SP.ownIIB s2.heap.size (SBreakingTuples d0 d1 d2).1, SP.ownIB s2.heap.size (SBreakingTuples d0 d1 d2).2.1, SP.val (.int .i64 (SBreakingTuples d0 d1 d2).2.2), SP.ownIIB s2.heap.size (SBreakingTuples d0 d1 d2).1, SP.ownIB s2.heap.size (SBreakingTuples d0 d1 d2).2.1, SP.val (.int .i64 (SBreakingTuples d0 d1 d2).2.2)] (by kernel_rfl) (fun _ d _ _ _ h => by cases d <;> exact h) (by kernel_rfl) (by kernel_rfl)
    (.cons (fun vs y hY => Step.move rfl rfl rfl rfl) <|
     .cons (fun vs y hY => Step.load ⟨w.heap.size, 0, none⟩ rfl rfl rfl (by simp [go_sem, hY.cell x0a, hY.cell x0b]) rfl) <|
     .cons (fun vs y hY g1_0 => Step.call Try.call25 rfl rfl [vs 1] rfl rfl ((toOp_any d1 _ _ (by rw [show vs 1 = _ from g1_0]; exact h1.ext (hE.tr hY)) (by omega)).mono fun _ _ ⟨u, fp, he, hE, ho, _⟩ => ⟨u, he, hE, fp, ho⟩)) <|
     .cons (fun vs y hY => Step.load ⟨w.heap.size + 1, 0, none⟩ rfl rfl rfl (by simp [go_sem, hY.cell x1a, hY.cell x1b]) rfl) <|
     .cons (fun vs y hY g3_0 g2_1 => Step.call Try.call15 rfl rfl [vs 3] rfl rfl ((toRel_any d2 _ _ (by rw [show vs 3 = _ from g3_0]; exact h2.ext (hE.tr hY)) (by omega)).mono fun _ _ ⟨u, fp, he, hE, ho, _⟩ => ⟨u, he, hE, fp, ho⟩)) <|
     .cons (fun vs y hY g0_0 g2_1 g4_2 g4_3 => Step.call Try.call34 rfl rfl [vs 0, vs 2, vs 4] rfl rfl (by rw [show vs 0 = _ from g0_0]; exact (IIIRes.sp (specBreakingTuples_any d0 d1 _ d2 _ _ (rdOp_of_sp g2_1) (rdRel_of_sp g4_2) lo0 hi0 (by omega) (by omega)) hY.size))) <|
     .cons (fun vs y hY g5_0 => Step.move rfl rfl rfl g5_0) <|
     .cons (fun vs y hY g6_0 => Step.resIII0 rfl rfl g6_0) <|
     .cons (fun vs y hY g6_0 => Step.resIII1 rfl rfl g6_0) <|
     .cons (fun vs y hY g6_0 => Step.resIII2 rfl rfl g6_0) <|
     .cons (fun vs y hY g7_0 g5_1 g0_2 g1_3 g2_4 g3_5 g4_6 g5_7 g6_8 g7_9 => Step.assign rfl rfl rfl g7_0) <|
     .cons (fun vs y hY g8_0 g10_1 g0_2 g1_3 g2_4 g3_5 g4_6 g5_7 g6_8 g7_9 g8_10 g10_11 => Step.assign rfl rfl rfl g8_0) <|
     .cons (fun vs y hY g9_0 g11_1 g0_2 g1_3 g2_4 g3_5 g4_6 g5_7 g6_8 g7_9 g8_10 g9_11 g10_12 g11_13 => Step.assign rfl rfl g9_0 rfl) <|
     .nil) ?_
  intro vs w1 hC hL
  have r0 : vs 0 = _ := hL 0 (by decide) rfl
  have r1 : vs 1 = _ := hL 1 (by decide) rfl
  have r3 : vs 3 = _ := hL 3 (by decide) rfl
  have r9 : vs 9 = _ := hL 9 (by decide) rfl
  have r12 : vs 12 = _ := hL 12 (by decide) rfl
  obtain ⟨fp0, o0, lo_o0, bd_o0⟩ := hL 10 (by decide) rfl
  have hi_o0 := o0.lt
  obtain ⟨ao0, co0, hvo0⟩ := o0.form
  rw [hvo0] at o0
  obtain ⟨fp1, o1, lo_o1, bd_o1⟩ := hL 11 (by decide) rfl
  have hi_o1 := o1.lt
  obtain ⟨ao1, co1, hvo1⟩ := o1.form
  rw [hvo1] at o1
  clear hL
  simp only [putAll, Act.put, List.contains_nil, cond_false, List.setIfInBounds_toArray, List.set_cons_succ, List.set_cons_zero, List.filterMap_nil, r0, r1, r3, r9, r12, hvo0, hvo1]
  clear r0 r1 r3 r9 r12 hvo0 hvo1
  have q0 : s2.heap.size ≤ w1.heap.size := hC.size
  replace x0a := hC.cell x0a
  replace x0b := hC.cell x0b
  replace x1a := hC.cell x1a
  replace x1b := hC.cell x1b
  replace hE := hE.tr hC
  clear hC
  have q1 : w.heap.size < w1.heap.size := lt_of_cell x0a
  have q2 : w.heap.size + 1 < w1.heap.size := lt_of_cell x1a
  go_wp2_with fail
  refine (toOp_any d1 _ _ (h1.ext hE) (by omega)).mono ?_
  rintro e w2 ⟨uo2, fp2, rfl, hC, o2, lo_o2⟩
  have q3 : w1.heap.size ≤ w2.heap.size := hC.size
  replace x0a := hC.cell x0a
  replace x0b := hC.cell x0b
  replace x1a := hC.cell x1a
  replace x1b := hC.cell x1b
  replace o0 := o0.ext hC
  replace o1 := o1.ext hC
  replace hE := hE.tr hC
  clear hC
  have q4 : w.heap.size < w2.heap.size := lt_of_cell x0a
  have q5 : w.heap.size + 1 < w2.heap.size := lt_of_cell x1a
  replace lo_o2 : ∀ g ∈ fp2, w1.heap.size + 0 ≤ g := fun g hg => by have := lo_o2 g hg; (try simp only [World.size_alloc] at this); omega
  have hi_o2 := o2.lt
  obtain ⟨ao2, co2, rfl⟩ := o2.form
  go_wp2_with fail
  have hP : Ext w2 (w2.alloc (.cells #[.int .i64 d1.1, .slice ao2 d1.2.length co2] 41)) := ((Ext.refl' w2).alloc (Nat.le_refl _) _)
  refine (toRel_any d2 _ _ (h2.ext (hE.tr hP)) (by omega)).mono ?_
  rintro e w3 ⟨uo3, fp3, rfl, hC, o3, lo_o3⟩
  have y0a := hC.cell (p := ⟨w2.heap.size, 0, none⟩) (v := .int .i64 d1.1) (by simp [go_sem])
  have y0b := hC.cell (p := ⟨w2.heap.size, 1, none⟩) (v := .slice ao2 d1.2.length co2) (by simp [go_sem])
  replace hC := hP.tr hC
  clear hP
  have q6 : w2.heap.size ≤ w3.heap.size := hC.size
  replace x0a := hC.cell x0a
  replace x0b := hC.cell x0b
  replace x1a := hC.cell x1a
  replace x1b := hC.cell x1b
  replace o0 := o0.ext hC
  replace o1 := o1.ext hC
  replace o2 := o2.ext hC
  replace hE := hE.tr hC
  clear hC
  have q7 : w.heap.size < w3.heap.size := lt_of_cell x0a
  have q8 : w.heap.size + 1 < w3.heap.size := lt_of_cell x1a
  have q9 : w2.heap.size < w3.heap.size := lt_of_cell y0a
  replace lo_o3 : ∀ g ∈ fp3, w2.heap.size + 1 ≤ g := fun g hg => by have := lo_o3 g hg; (try simp only [World.size_alloc] at this); omega
  have hi_o3 := o3.lt
  obtain ⟨ao3, co3, rfl⟩ := o3.form
  go_wp2_with fail
  have hP : Ext w3 (w3.alloc (.cells #[.int .i64 d2.1, .slice ao3 d2.2.length co3] 27)) := ((Ext.refl' w3).alloc (Nat.le_refl _) _)
  refine (implBreakingTuples_any d0 d1 _ d2 _ _ (o2.ext hP).rd (o3.ext hP).rd lo0 hi0 (by omega) (by omega)).mono ?_
  rintro e w4 ⟨u4, fp4, u5, fp5, rfl, hC, o4, lo_o4, o5, lo_o5, dj_o4, bd_o4, bd_o5⟩
  have y1a := hC.cell (p := ⟨w3.heap.size, 0, none⟩) (v := .int .i64 d2.1) (by simp [go_sem])
  have y1b := hC.cell (p := ⟨w3.heap.size, 1, none⟩) (v := .slice ao3 d2.2.length co3) (by simp [go_sem])
  replace hC := hP.tr hC
  clear hP
  have q10 : w3.heap.size ≤ w4.heap.size := hC.size
  replace x0a := hC.cell x0a
  replace x0b := hC.cell x0b
  replace x1a := hC.cell x1a
  replace x1b := hC.cell x1b
  replace y0a := hC.cell y0a
  replace y0b := hC.cell y0b
  replace o0 := o0.ext hC
  replace o1 := o1.ext hC
  replace o2 := o2.ext hC
  replace o3 := o3.ext hC
  replace hE := hE.tr hC
  clear hC
  have q11 : w.heap.size < w4.heap.size := lt_of_cell x0a
  have q12 : w.heap.size + 1 < w4.heap.size := lt_of_cell x1a
  have q13 : w2.heap.size < w4.heap.size := lt_of_cell y0a
  have q14 : w3.heap.size < w4.heap.size := lt_of_cell y1a
  replace lo_o4 : ∀ g ∈ fp4, w3.heap.size + 1 ≤ g := fun g hg => by have := lo_o4 g hg; (try simp only [World.size_alloc] at this); omega
  replace lo_o5 : ∀ g ∈ fp5, w3.heap.size + 1 ≤ g := fun g hg => by have := lo_o5 g hg; (try simp only [World.size_alloc] at this); omega
  have hi_o4 := o4.lt
  obtain ⟨ao4, co4, rfl⟩ := o4.form
  have hi_o5 := o5.lt
  obtain ⟨ao5, co5, rfl⟩ := o5.form
  go_wp2_with fail
  refine (eqInt64SS_any (SBreakingTuples d0 d1 d2).1 (SBreakingTuples d0 d1 d2).1 _ _ _ o4.rd o0.rd).mono ?_
  rintro e w5 ⟨rfl, hC⟩
  have q15 : w4.heap.size ≤ w5.heap.size := hC.size
  replace x0a := hC.cell x0a
  replace x0b := hC.cell x0b
  replace x1a := hC.cell x1a
  replace x1b := hC.cell x1b
  replace y0a := hC.cell y0a
  replace y0b := hC.cell y0b
  replace y1a := hC.cell y1a
  replace y1b := hC.cell y1b
  replace o0 := o0.ext hC
  replace o1 := o1.ext hC
  replace o2 := o2.ext hC
  replace o3 := o3.ext hC
  replace o4 := o4.ext hC
  replace o5 := o5.ext hC
  replace hE := hE.tr hC
  clear hC
  have q16 : w.heap.size < w5.heap.size := lt_of_cell x0a
  have q17 : w.heap.size + 1 < w5.heap.size := lt_of_cell x1a
  have q18 : w2.heap.size < w5.heap.size := lt_of_cell y0a
  have q19 : w3.heap.size < w5.heap.size := lt_of_cell y1a
  go_wp2_with fail
  refine (eqInt64S_any (SBreakingTuples d0 d1 d2).2.1 (SBreakingTuples d0 d1 d2).2.1 _ _ _ o5.rd o1.rd).mono ?_
  rintro e w6 ⟨rfl, hC⟩
  have q20 : w5.heap.size ≤ w6.heap.size := hC.size
  replace x0a := hC.cell x0a
  replace x0b := hC.cell x0b
  replace x1a := hC.cell x1a
  replace x1b := hC.cell x1b
  replace y0a := hC.cell y0a
  replace y0b := hC.cell y0b
  replace y1a := hC.cell y1a
  replace y1b := hC.cell y1b
  replace o0 := o0.ext hC
  replace o1 := o1.ext hC
  replace o2 := o2.ext hC
  replace o3 := o3.ext hC
  replace o4 := o4.ext hC
  replace o5 := o5.ext hC
  replace hE := hE.tr hC
  clear hC
  have q21 : w.heap.size < w6.heap.size := lt_of_cell x0a
  have q22 : w.heap.size + 1 < w6.heap.size := lt_of_cell x1a
  have q23 : w2.heap.size < w6.heap.size := lt_of_cell y0a
  have q24 : w3.heap.size < w6.heap.size := lt_of_cell y1a
  go_wp2_with fail
  refine region_sp [] [] [SP.val (.agg #[.int .i64 d1.1, .slice ao2 d1.2.length co2]), SP.val (.agg #[.int .i64 d1.1, tv1]), SP.ownOp d1, SP.val (.bool true), SP.val (.bool false)] (by kernel_rfl) (fun _ d _ _ _ h => by cases d <;> exact h) (by kernel_rfl) (by kernel_rfl)
    (.cons (fun vs y hY => Step.load ⟨w2.heap.size, 0, none⟩ rfl rfl rfl (by simp [go_sem, hY.cell y0a, hY.cell y0b]) rfl) <|
     .cons (fun vs y hY => Step.load ⟨w.heap.size, 0, none⟩ rfl rfl rfl (by simp [go_sem, hY.cell x0a, hY.cell x0b]) rfl) <|
     .cons (fun vs y hY g1_0 => Step.call Try.call25 rfl rfl [vs 1] rfl rfl ((toOp_any d1 _ _ (by rw [show vs 1 = _ from g1_0]; exact h1.ext (hE.tr hY)) (by omega)).mono fun _ _ ⟨u, fp, he, hE, ho, _⟩ => ⟨u, he, hE, fp, ho⟩)) <|
     .cons (fun vs y hY g0_0 g2_1 g2_2 => Step.call Try.call27 rfl rfl [vs 0, vs 2] rfl rfl ((eqOp_any d1 d1 _ _ _ (by rw [show vs 0 = _ from g0_0]; exact (o2.ext hY).rd) (rdOp_of_sp g2_1)).mono fun _ _ ⟨he, hE⟩ => ⟨_, he, hE, by simp; rfl⟩)) <|
     .cons (fun vs y hY g3_0 => Step.not rfl rfl g3_0 rfl) <|
     .nil) ?_
  intro vs w7 hC hL
  have r0 : vs 0 = _ := hL 0 (by decide) rfl
  have r1 : vs 1 = _ := hL 1 (by decide) rfl
  have r3 : vs 3 = _ := hL 3 (by decide) rfl
  have r4 : vs 4 = _ := hL 4 (by decide) rfl
  clear hL
  simp only [putAll, Act.put, List.contains_nil, cond_false, List.setIfInBounds_toArray, List.set_cons_succ, List.set_cons_zero, List.filterMap_nil, r0, r1, r3, r4]
  clear r0 r1 r3 r4
  have q25 : w6.heap.size ≤ w7.heap.size := hC.size
  replace x0a := hC.cell x0a
  replace x0b := hC.cell x0b
  replace x1a := hC.cell x1a
  replace x1b := hC.cell x1b
  replace y0a := hC.cell y0a
  replace y0b := hC.cell y0b
  replace y1a := hC.cell y1a
  replace y1b := hC.cell y1b
  replace o0 := o0.ext hC
  replace o1 := o1.ext hC
  replace o2 := o2.ext hC
  replace o3 := o3.ext hC
  replace o4 := o4.ext hC
  replace o5 := o5.ext hC
  replace hE := hE.tr hC
  clear hC
  have q26 : w.heap.size < w7.heap.size := lt_of_cell x0a
  have q27 : w.heap.size + 1 < w7.heap.size := lt_of_cell x1a
  have q28 : w2.heap.size < w7.heap.size := lt_of_cell y0a
  have q29 : w3.heap.size < w7.heap.size := lt_of_cell y1a
  go_wp2_with fail
  refine region_sp [] [] [SP.val (.agg #[.int .i64 d2.1, .slice ao3 d2.2.length co3]), SP.val (.agg #[.int .i64 d2.1, tv2]), SP.ownRel d2, SP.val (.bool true), SP.val (.bool false)] (by kernel_rfl) (fun _ d _ _ _ h => by cases d <;> exact h) (by kernel_rfl) (by kernel_rfl)
    (.cons (fun vs y hY => Step.load ⟨w3.heap.size, 0, none⟩ rfl rfl rfl (by simp [go_sem, hY.cell y1a, hY.cell y1b]) rfl) <|
     .cons (fun vs y hY => Step.load ⟨w.heap.size + 1, 0, none⟩ rfl rfl rfl (by simp [go_sem, hY.cell x1a, hY.cell x1b]) rfl) <|
     .cons (fun vs y hY g1_0 => Step.call Try.call15 rfl rfl [vs 1] rfl rfl ((toRel_any d2 _ _ (by rw [show vs 1 = _ from g1_0]; exact h2.ext (hE.tr hY)) (by omega)).mono fun _ _ ⟨u, fp, he, hE, ho, _⟩ => ⟨u, he, hE, fp, ho⟩)) <|
     .cons (fun vs y hY g0_0 g2_1 g2_2 => Step.call Try.call18 rfl rfl [vs 0, vs 2] rfl rfl ((eqRel_any d2 d2 _ _ _ (by rw [show vs 0 = _ from g0_0]; exact (o3.ext hY).rd) (rdRel_of_sp g2_1)).mono fun _ _ ⟨he, hE⟩ => ⟨_, he, hE, by simp; rfl⟩)) <|
     .cons (fun vs y hY g3_0 => Step.not rfl rfl g3_0 rfl) <|
     .nil) ?_
  intro vs w8 hC hL
  have r0 : vs 0 = _ := hL 0 (by decide) rfl
  have r1 : vs 1 = _ := hL 1 (by decide) rfl
  have r3 : vs 3 = _ := hL 3 (by decide) rfl
  have r4 : vs 4 = _ := hL 4 (by decide) rfl
  clear hL
  simp only [putAll, Act.put, List.contains_nil, cond_false, List.setIfInBounds_toArray, List.set_cons_succ, List.set_cons_zero, List.filterMap_nil, r0, r1, r3, r4]
  clear r0 r1 r3 r4
  have q30 : w7.heap.size ≤ w8.heap.size := hC.size
  replace x0a := hC.cell x0a
  replace x0b := hC.cell x0b
  replace x1a := hC.cell x1a
  replace x1b := hC.cell x1b
  replace y0a := hC.cell y0a
  replace y0b := hC.cell y0b
  replace y1a := hC.cell y1a
  replace y1b := hC.cell y1b
  replace o0 := o0.ext hC
  replace o1 := o1.ext hC
  replace o2 := o2.ext hC
  replace o3 := o3.ext hC
  replace o4 := o4.ext hC
  replace o5 := o5.ext hC
  replace hE := hE.tr hC
  clear hC
  have q31 : w.heap.size < w8.heap.size := lt_of_cell x0a
  have q32 : w.heap.size + 1 < w8.heap.size := lt_of_cell x1a
  have q33 : w2.heap.size < w8.heap.size := lt_of_cell y0a
  have q34 : w3.heap.size < w8.heap.size := lt_of_cell y1a
  go_wp2_with fail
  refine (markOp_any d1 _ fp2 (1) _ o2 (by omega) (by omega)).mono ?_
  rintro e w9 ⟨rfl, hO, o2'⟩
  replace x0a := hO.cell x0a (by intro hm; have := lo_o2 _ hm; have := hi_o2 _ hm; dsimp only at *; omega)
  replace x0b := hO.cell x0b (by intro hm; have := lo_o2 _ hm; have := hi_o2 _ hm; dsimp only at *; omega)
  replace x1a := hO.cell x1a (by intro hm; have := lo_o2 _ hm; have := hi_o2 _ hm; dsimp only at *; omega)
  replace x1b := hO.cell x1b (by intro hm; have := lo_o2 _ hm; have := hi_o2 _ hm; dsimp only at *; omega)
  replace y0a := hO.cell y0a (by intro hm; have := lo_o2 _ hm; have := hi_o2 _ hm; dsimp only at *; omega)
  replace y0b := hO.cell y0b (by intro hm; have := lo_o2 _ hm; have := hi_o2 _ hm; dsimp only at *; omega)
  replace y1a := hO.cell y1a (by intro hm; have := lo_o2 _ hm; have := hi_o2 _ hm; dsimp only at *; omega)
  replace y1b := hO.cell y1b (by intro hm; have := lo_o2 _ hm; have := hi_o2 _ hm; dsimp only at *; omega)
  replace o0 := o0.off hO (by intro g hg hm; have := lo_o2 _ hm; have := hi_o2 _ hm; have := lo_o0 _ hg; have := hi_o0 _ hg; omega)
  replace o1 := o1.off hO (by intro g hg hm; have := lo_o2 _ hm; have := hi_o2 _ hm; have := lo_o1 _ hg; have := hi_o1 _ hg; omega)
  replace o3 := o3.off hO (by intro g hg hm; have := lo_o2 _ hm; have := hi_o2 _ hm; have := lo_o3 _ hg; have := hi_o3 _ hg; omega)
  replace o4 := o4.off hO (by intro g hg hm; have := lo_o2 _ hm; have := hi_o2 _ hm; have := lo_o4 _ hg; have := hi_o4 _ hg; omega)
  replace o5 := o5.off hO (by intro g hg hm; have := lo_o2 _ hm; have := hi_o2 _ hm; have := lo_o5 _ hg; have := hi_o5 _ hg; omega)
  replace hE : Ext w w9 := Below.trans hE (hO.below hE.size (fun g hg => by have := lo_o2 g hg; have := hE.size; omega))
  have q35 : w8.heap.size ≤ w9.heap.size := hO.size
  clear o2 hO
  have o2 := o2'
  clear o2'
  go_wp2_with fail
  refine (markRel_any d2 _ fp3 (1 + (mkOp d1 : Int)) _ o3 (by omega) (by omega)).mono ?_
  rintro e w10 ⟨rfl, hO, o3'⟩
  replace x0a := hO.cell x0a (by intro hm; have := lo_o3 _ hm; have := hi_o3 _ hm; dsimp only at *; omega)
  replace x0b := hO.cell x0b (by intro hm; have := lo_o3 _ hm; have := hi_o3 _ hm; dsimp only at *; omega)
  replace x1a := hO.cell x1a (by intro hm; have := lo_o3 _ hm; have := hi_o3 _ hm; dsimp only at *; omega)
  replace x1b := hO.cell x1b (by intro hm; have := lo_o3 _ hm; have := hi_o3 _ hm; dsimp only at *; omega)
  replace y0a := hO.cell y0a (by intro hm; have := lo_o3 _ hm; have := hi_o3 _ hm; dsimp only at *; omega)
  replace y0b := hO.cell y0b (by intro hm; have := lo_o3 _ hm; have := hi_o3 _ hm; dsimp only at *; omega)
  replace y1a := hO.cell y1a (by intro hm; have := lo_o3 _ hm; have := hi_o3 _ hm; dsimp only at *; omega)
  replace y1b := hO.cell y1b (by intro hm; have := lo_o3 _ hm; have := hi_o3 _ hm; dsimp only at *; omega)
  replace o0 := o0.off hO (by intro g hg hm; have := lo_o3 _ hm; have := hi_o3 _ hm; have := lo_o0 _ hg; have := hi_o0 _ hg; omega)
  replace o1 := o1.off hO (by intro g hg hm; have := lo_o3 _ hm; have := hi_o3 _ hm; have := lo_o1 _ hg; have := hi_o1 _ hg; omega)
  replace o2 := o2.off hO (by intro g hg hm; have := lo_o3 _ hm; have := hi_o3 _ hm; have := lo_o2 _ hg; have := hi_o2 _ hg; omega)
  replace o4 := o4.off hO (by intro g hg hm; have := lo_o3 _ hm; have := hi_o3 _ hm; have := lo_o4 _ hg; have := hi_o4 _ hg; omega)
  replace o5 := o5.off hO (by intro g hg hm; have := lo_o3 _ hm; have := hi_o3 _ hm; have := lo_o5 _ hg; have := hi_o5 _ hg; omega)
  replace hE : Ext w w10 := Below.trans hE (hO.below hE.size (fun g hg => by have := lo_o3 g hg; have := hE.size; omega))
  have q36 : w9.heap.size ≤ w10.heap.size := hO.size
  clear o3 hO
  have o3 := o3'
  clear o3'
  go_wp2_with fail
  refine (eqInt64SS_any (SBreakingTuples d0 d1 d2).1 (SBreakingTuples d0 d1 d2).1 _ _ _ o4.rd o0.rd).mono ?_
  rintro e w11 ⟨rfl, hC⟩
  have q37 : w10.heap.size ≤ w11.heap.size := hC.size
  replace x0a := hC.cell x0a
  replace x0b := hC.cell x0b
  replace x1a := hC.cell x1a
  replace x1b := hC.cell x1b
  replace y0a := hC.cell y0a
  replace y0b := hC.cell y0b
  replace y1a := hC.cell y1a
  replace y1b := hC.cell y1b
  replace o0 := o0.ext hC
  replace o1 := o1.ext hC
  replace o2 := o2.ext hC
  replace o3 := o3.ext hC
  replace o4 := o4.ext hC
  replace o5 := o5.ext hC
  replace hE := hE.tr hC
  clear hC
  have q38 : w.heap.size < w11.heap.size := lt_of_cell x0a
  have q39 : w.heap.size + 1 < w11.heap.size := lt_of_cell x1a
  have q40 : w2.heap.size < w11.heap.size := lt_of_cell y0a
  have q41 : w3.heap.size < w11.heap.size := lt_of_cell y1a
  go_wp2_with fail
  refine (eqInt64S_any (SBreakingTuples d0 d1 d2).2.1 (SBreakingTuples d0 d1 d2).2.1 _ _ _ o5.rd o1.rd).mono ?_
  rintro e w12 ⟨rfl, hC⟩
  have q42 : w11.heap.size ≤ w12.heap.size := hC.size
  replace x0a := hC.cell x0a
  replace x0b := hC.cell x0b
  replace x1a := hC.cell x1a
  replace x1b := hC.cell x1b
  replace y0a := hC.cell y0a
  replace y0b := hC.cell y0b
  replace y1a := hC.cell y1a
  replace y1b := hC.cell y1b
  replace o0 := o0.ext hC
  replace o1 := o1.ext hC
  replace o2 := o2.ext hC
  replace o3 := o3.ext hC
  replace o4 := o4.ext hC
  replace o5 := o5.ext hC
  replace hE := hE.tr hC
  clear hC
  have q43 : w.heap.size < w12.heap.size := lt_of_cell x0a
  have q44 : w.heap.size + 1 < w12.heap.size := lt_of_cell x1a
  have q45 : w2.heap.size < w12.heap.size := lt_of_cell y0a
  have q46 : w3.heap.size < w12.heap.size := lt_of_cell y1a
  go_wp2_with fail
  refine (markInt64SS_any (SBreakingTuples d0 d1 d2).1 _ fp4 (1) _ o4 (by omega) (by omega)).mono ?_
  rintro e w13 ⟨rfl, hO, o4'⟩
  replace x0a := hO.cell x0a (by intro hm; have := lo_o4 _ hm; have := hi_o4 _ hm; dsimp only at *; omega)
  replace x0b := hO.cell x0b (by intro hm; have := lo_o4 _ hm; have := hi_o4 _ hm; dsimp only at *; omega)
  replace x1a := hO.cell x1a (by intro hm; have := lo_o4 _ hm; have := hi_o4 _ hm; dsimp only at *; omega)
  replace x1b := hO.cell x1b (by intro hm; have := lo_o4 _ hm; have := hi_o4 _ hm; dsimp only at *; omega)
  replace y0a := hO.cell y0a (by intro hm; have := lo_o4 _ hm; have := hi_o4 _ hm; dsimp only at *; omega)
  replace y0b := hO.cell y0b (by intro hm; have := lo_o4 _ hm; have := hi_o4 _ hm; dsimp only at *; omega)
  replace y1a := hO.cell y1a (by intro hm; have := lo_o4 _ hm; have := hi_o4 _ hm; dsimp only at *; omega)
  replace y1b := hO.cell y1b (by intro hm; have := lo_o4 _ hm; have := hi_o4 _ hm; dsimp only at *; omega)
  replace o0 := o0.off hO (by intro g hg hm; have := lo_o4 _ hm; have := hi_o4 _ hm; have := lo_o0 _ hg; have := hi_o0 _ hg; omega)
  replace o1 := o1.off hO (by intro g hg hm; have := lo_o4 _ hm; have := hi_o4 _ hm; have := lo_o1 _ hg; have := hi_o1 _ hg; omega)
  replace o2 := o2.off hO (by intro g hg hm; have := lo_o4 _ hm; have := hi_o4 _ hm; have := lo_o2 _ hg; have := hi_o2 _ hg; omega)
  replace o3 := o3.off hO (by intro g hg hm; have := lo_o4 _ hm; have := hi_o4 _ hm; have := lo_o3 _ hg; have := hi_o3 _ hg; omega)
  replace o5 := o5.off hO (by intro g hg hm; have := lo_o4 _ hm; have := hi_o4 _ hm; have := lo_o5 _ hg; have := hi_o5 _ hg; first | omega | exact (dj_o4 _ hm hg))
  replace hE : Ext w w13 := Below.trans hE (hO.below hE.size (fun g hg => by have := lo_o4 g hg; have := hE.size; omega))
  have q47 : w12.heap.size ≤ w13.heap.size := hO.size
  clear o4 hO
  have o4 := o4'
  clear o4'
  go_wp2_with fail
  refine (markInt64S_any (SBreakingTuples d0 d1 d2).2.1 _ fp5 (1 + (mkII (SBreakingTuples d0 d1 d2).1 : Int)) _ o5 (by omega) (by omega)).mono ?_
  rintro e w14 ⟨rfl, hO, o5'⟩
  replace x0a := hO.cell x0a (by intro hm; have := lo_o5 _ hm; have := hi_o5 _ hm; dsimp only at *; omega)
  replace x0b := hO.cell x0b (by intro hm; have := lo_o5 _ hm; have := hi_o5 _ hm; dsimp only at *; omega)
  replace x1a := hO.cell x1a (by intro hm; have := lo_o5 _ hm; have := hi_o5 _ hm; dsimp only at *; omega)
  replace x1b := hO.cell x1b (by intro hm; have := lo_o5 _ hm; have := hi_o5 _ hm; dsimp only at *; omega)
  replace y0a := hO.cell y0a (by intro hm; have := lo_o5 _ hm; have := hi_o5 _ hm; dsimp only at *; omega)
  replace y0b := hO.cell y0b (by intro hm; have := lo_o5 _ hm; have := hi_o5 _ hm; dsimp only at *; omega)
  replace y1a := hO.cell y1a (by intro hm; have := lo_o5 _ hm; have := hi_o5 _ hm; dsimp only at *; omega)
  replace y1b := hO.cell y1b (by intro hm; have := lo_o5 _ hm; have := hi_o5 _ hm; dsimp only at *; omega)
  replace o0 := o0.off hO (by intro g hg hm; have := lo_o5 _ hm; have := hi_o5 _ hm; have := lo_o0 _ hg; have := hi_o0 _ hg; omega)
  replace o1 := o1.off hO (by intro g hg hm; have := lo_o5 _ hm; have := hi_o5 _ hm; have := lo_o1 _ hg; have := hi_o1 _ hg; omega)
  replace o2 := o2.off hO (by intro g hg hm; have := lo_o5 _ hm; have := hi_o5 _ hm; have := lo_o2 _ hg; have := hi_o2 _ hg; omega)
  replace o3 := o3.off hO (by intro g hg hm; have := lo_o5 _ hm; have := hi_o5 _ hm; have := lo_o3 _ hg; have := hi_o3 _ hg; omega)
  replace o4 := o4.off hO (by intro g hg hm; have := lo_o5 _ hm; have := hi_o5 _ hm; have := lo_o4 _ hg; have := hi_o4 _ hg; first | omega | exact (dj_o4 _ hg hm))
  replace hE : Ext w w14 := Below.trans hE (hO.below hE.size (fun g hg => by have := lo_o5 g hg; have := hE.size; omega))
  have q48 : w13.heap.size ≤ w14.heap.size := hO.size
  clear o5 hO
  have o5 := o5'
  clear o5'
  go_wp2_with fail
  have hh : heldII (marksII (1) (SBreakingTuples d0 d1 d2).1) (1) = 1 + (mkII (SBreakingTuples d0 d1 d2).1 : Int) := heldII_marks _ _ (by omega)
  have HH := Lib.hid hh
  clear hh
  refine (heldInt64SS_any (marksII (1) (SBreakingTuples d0 d1 d2).1) _ (1) _ o4.rd (by omega) (by rw [mkII_marks]; omega)).mono ?_
  rintro e w15 ⟨rfl, hC⟩
  rw [HH.out]
  clear HH
  have q49 : w14.heap.size ≤ w15.heap.size := hC.size
  replace x0a := hC.cell x0a
  replace x0b := hC.cell x0b
  replace x1a := hC.cell x1a
  replace x1b := hC.cell x1b
  replace y0a := hC.cell y0a
  replace y0b := hC.cell y0b
  replace y1a := hC.cell y1a
  replace y1b := hC.cell y1b
  replace o0 := o0.ext hC
  replace o1 := o1.ext hC
  replace o2 := o2.ext hC
  replace o3 := o3.ext hC
  replace o4 := o4.ext hC
  replace o5 := o5.ext hC
  replace hE := hE.tr hC
  clear hC
  have q50 : w.heap.size < w15.heap.size := lt_of_cell x0a
  have q51 : w.heap.size + 1 < w15.heap.size := lt_of_cell x1a
  have q52 : w2.heap.size < w15.heap.size := lt_of_cell y0a
  have q53 : w3.heap.size < w15.heap.size := lt_of_cell y1a
  go_wp2_with fail
  have hh : heldI (marksI (1 + (mkII (SBreakingTuples d0 d1 d2).1 : Int)) (SBreakingTuples d0 d1 d2).2.1.length) (1 + (mkII (SBreakingTuples d0 d1 d2).1 : Int)) = 1 + (mkII (SBreakingTuples d0 d1 d2).1 : Int) + (List.length (SBreakingTuples d0 d1 d2).2.1 : Int) := heldI_marks _ _
  have HH := Lib.hid hh
  clear hh
  refine (heldInt64S_any (marksI (1 + (mkII (SBreakingTuples d0 d1 d2).1 : Int)) (SBreakingTuples d0 d1 d2).2.1.length) _ (1 + (mkII (SBreakingTuples d0 d1 d2).1 : Int)) _ o5.rd (by omega) (by rw [marksI_length]; omega)).mono ?_
  rintro e w16 ⟨rfl, hC⟩
  rw [HH.out]
  clear HH
  have q54 : w15.heap.size ≤ w16.heap.size := hC.size
  replace x0a := hC.cell x0a
  replace x0b := hC.cell x0b
  replace x1a := hC.cell x1a
  replace x1b := hC.cell x1b
  replace y0a := hC.cell y0a
  replace y0b := hC.cell y0b
  replace y1a := hC.cell y1a
  replace y1b := hC.cell y1b
  replace o0 := o0.ext hC
  replace o1 := o1.ext hC
  replace o2 := o2.ext hC
  replace o3 := o3.ext hC
  replace o4 := o4.ext hC
  replace o5 := o5.ext hC
  replace hE := hE.tr hC
  clear hC
  have q55 : w.heap.size < w16.heap.size := lt_of_cell x0a
  have q56 : w.heap.size + 1 < w16.heap.size := lt_of_cell x1a
  have q57 : w2.heap.size < w16.heap.size := lt_of_cell y0a
  have q58 : w3.heap.size < w16.heap.size := lt_of_cell y1a
  go_wp2_with fail
  refine region_sp [] [] [SP.val (.int .i64 d0), SP.val (.agg #[.int .i64 d1.1, tv1]), SP.ownOp d1, SP.val (.agg #[.int .i64 d2.1, tv2]), SP.ownRel d2, SP.resIII w16.heap.size (SBreakingTuples d0 d1 d2), SP.resIII w16.heap.size (SBreakingTuples d0 d1 d2), SP.ownIIB w16.heap.size (SBreakingTuples d0 d1 d2).1, SP.ownIB w16.heap.size (SBreakingTuples d0 d1 d2).2.1, SP.val (.int .i64 (SBreakingTuples d0 d1 d2).2.2), SP.ownIIB w16.heap.size (SBreakingTuples d0 d1 d2).1, SP.ownIB w16.heap.size (SBreakingTuples d0 d1 d2).2.1, SP.val (.int .i64 (SBreakingTuples d0 d1 d2).2.2)] (by kernel_rfl) (fun _ d _ _ _ h => by cases d <;> exact h) (by kernel_rfl) (by kernel_rfl)
    (.cons (fun vs y hY => Step.move rfl rfl rfl rfl) <|
     .cons (fun vs y hY => Step.load ⟨w.heap.size, 0, none⟩ rfl rfl rfl (by simp [go_sem, hY.cell x0a, hY.cell x0b]) rfl) <|
     .cons (fun vs y hY g1_0 => Step.call Try.call25 rfl rfl [vs 1] rfl rfl ((toOp_any d1 _ _ (by rw [show vs 1 = _ from g1_0]; exact h1.ext (hE.tr hY)) (by omega)).mono fun _ _ ⟨u, fp, he, hE, ho, _⟩ => ⟨u, he, hE, fp, ho⟩)) <|
     .cons (fun vs y hY => Step.load ⟨w.heap.size + 1, 0, none⟩ rfl rfl rfl (by simp [go_sem, hY.cell x1a, hY.cell x1b]) rfl) <|
     .cons (fun vs y hY g3_0 g2_1 => Step.call Try.call15 rfl rfl [vs 3] rfl rfl ((toRel_any d2 _ _ (by rw [show vs 3 = _ from g3_0]; exact h2.ext (hE.tr hY)) (by omega)).mono fun _ _ ⟨u, fp, he, hE, ho, _⟩ => ⟨u, he, hE, fp, ho⟩)) <|
     .cons (fun vs y hY g0_0 g2_1 g4_2 g4_3 => Step.call Try.call35 rfl rfl [vs 0, vs 2, vs 4] rfl rfl (by rw [show vs 0 = _ from g0_0]; exact (IIIRes.sp (implBreakingTuples_any d0 d1 _ d2 _ _ (rdOp_of_sp g2_1) (rdRel_of_sp g4_2) lo0 hi0 (by omega) (by omega)) hY.size))) <|
     .cons (fun vs y hY g5_0 => Step.move rfl rfl rfl g5_0) <|
     .cons (fun vs y hY g6_0 => Step.resIII0 rfl rfl g6_0) <|
     .cons (fun vs y hY g6_0 => Step.resIII1 rfl rfl g6_0) <|
     .cons (fun vs y hY g6_0 => Step.resIII2 rfl rfl g6_0) <|
     .cons (fun vs y hY g7_0 g5_1 g0_2 g1_3 g2_4 g3_5 g4_6 g5_7 g6_8 g7_9 => Step.assign rfl rfl rfl g7_0) <|
     .cons (fun vs y hY g8_0 g10_1 g0_2 g1_3 g2_4 g3_5 g4_6 g5_7 g6_8 g7_9 g8_10 g10_11 => Step.assign rfl rfl rfl g8_0) <|
     .cons (fun vs y hY g9_0 g11_1 g0_2 g1_3 g2_4 g3_5 g4_6 g5_7 g6_8 g7_9 g8_10 g9_11 g10_12 g11_13 => Step.assign rfl rfl g9_0 rfl) <|
     .nil) ?_
  intro vs w17 hC hL
  have r0 : vs 0 = _ := hL 0 (by decide) rfl
  have r1 : vs 1 = _ := hL 1 (by decide) rfl
  have r3 : vs 3 = _ := hL 3 (by decide) rfl
  have r9 : vs 9 = _ := hL 9 (by decide) rfl
  have r12 : vs 12 = _ := hL 12 (by decide) rfl
  obtain ⟨fp6, o6, lo_o6, bd_o6⟩ := hL 10 (by decide) rfl
  have hi_o6 := o6.lt
  obtain ⟨ao6, co6, hvo6⟩ := o6.form
  rw [hvo6] at o6
  obtain ⟨fp7, o7, lo_o7, bd_o7⟩ := hL 11 (by decide) rfl
  have hi_o7 := o7.lt
  obtain ⟨ao7, co7, hvo7⟩ := o7.form
  rw [hvo7] at o7
  clear hL
  simp only [putAll, Act.put, List.contains_nil, cond_false, List.setIfInBounds_toArray, List.set_cons_succ, List.set_cons_zero, List.filterMap_nil, r0, r1, r3, r9, r12, hvo6, hvo7]
  clear r0 r1 r3 r9 r12 hvo6 hvo7
  have q59 : w16.heap.size ≤ w17.heap.size := hC.size
  replace x0a := hC.cell x0a
  replace x0b := hC.cell x0b
  replace x1a := hC.cell x1a
  replace x1b := hC.cell x1b
  replace y0a := hC.cell y0a
  replace y0b := hC.cell y0b
  replace y1a := hC.cell y1a
  replace y1b := hC.cell y1b
  replace o0 := o0.ext hC
  replace o1 := o1.ext hC
  replace o2 := o2.ext hC
  replace o3 := o3.ext hC
  replace o4 := o4.ext hC
  replace o5 := o5.ext hC
  replace hE := hE.tr hC
  clear hC
  have q60 : w.heap.size < w17.heap.size := lt_of_cell x0a
  have q61 : w.heap.size + 1 < w17.heap.size := lt_of_cell x1a
  have q62 : w2.heap.size < w17.heap.size := lt_of_cell y0a
  have q63 : w3.heap.size < w17.heap.size := lt_of_cell y1a
  go_wp2_with fail
  refine (eqInt64SS_any (SBreakingTuples d0 d1 d2).1 (SBreakingTuples d0 d1 d2).1 _ _ _ o6.rd o0.rd).mono ?_
  rintro e w18 ⟨rfl, hC⟩
  have q64 : w17.heap.size ≤ w18.heap.size := hC.size
  replace x0a := hC.cell x0a
  replace x0b := hC.cell x0b
  replace x1a := hC.cell x1a
  replace x1b := hC.cell x1b
  replace y0a := hC.cell y0a
  replace y0b := hC.cell y0b
  replace y1a := hC.cell y1a
  replace y1b := hC.cell y1b
  replace o0 := o0.ext hC
  replace o1 := o1.ext hC
  replace o2 := o2.ext hC
  replace o3 := o3.ext hC
  replace o4 := o4.ext hC
  replace o5 := o5.ext hC
  replace o6 := o6.ext hC
  replace o7 := o7.ext hC
  replace hE := hE.tr hC
  clear hC
  have q65 : w.heap.size < w18.heap.size := lt_of_cell x0a
  have q66 : w.heap.size + 1 < w18.heap.size := lt_of_cell x1a
  have q67 : w2.heap.size < w18.heap.size := lt_of_cell y0a
  have q68 : w3.heap.size < w18.heap.size := lt_of_cell y1a
  go_wp2_with fail
  refine (eqInt64S_any (SBreakingTuples d0 d1 d2).2.1 (SBreakingTuples d0 d1 d2).2.1 _ _ _ o7.rd o1.rd).mono ?_
  rintro e w19 ⟨rfl, hC⟩
  have q69 : w18.heap.size ≤ w19.heap.size := hC.size
  replace x0a := hC.cell x0a
  replace x0b := hC.cell x0b
  replace x1a := hC.cell x1a
  replace x1b := hC.cell x1b
  replace y0a := hC.cell y0a
  replace y0b := hC.cell y0b
  replace y1a := hC.cell y1a
  replace y1b := hC.cell y1b
  replace o0 := o0.ext hC
  replace o1 := o1.ext hC
  replace o2 := o2.ext hC
  replace o3 := o3.ext hC
  replace o4 := o4.ext hC
  replace o5 := o5.ext hC
  replace o6 := o6.ext hC
  replace o7 := o7.ext hC
  replace hE := hE.tr hC
  clear hC
  have q70 : w.heap.size < w19.heap.size := lt_of_cell x0a
  have q71 : w.heap.size + 1 < w19.heap.size := lt_of_cell x1a
  have q72 : w2.heap.size < w19.heap.size := lt_of_cell y0a
  have q73 : w3.heap.size < w19.heap.size := lt_of_cell y1a
  go_wp2_with fail
  have hh : heldII (marksII (1) (SBreakingTuples d0 d1 d2).1) (1) = 1 + (mkII (SBreakingTuples d0 d1 d2).1 : Int) := heldII_marks _ _ (by omega)
  have HH := Lib.hid hh
  clear hh
  refine (heldInt64SS_any (marksII (1) (SBreakingTuples d0 d1 d2).1) _ (1) _ o4.rd (by omega) (by rw [mkII_marks]; omega)).mono ?_
  rintro e w20 ⟨rfl, hC⟩
  rw [HH.out]
  clear HH
  have q74 : w19.heap.size ≤ w20.heap.size := hC.size
  replace x0a := hC.cell x0a
  replace x0b := hC.cell x0b
  replace x1a := hC.cell x1a
  replace x1b := hC.cell x1b
  replace y0a := hC.cell y0a
  replace y0b := hC.cell y0b
  replace y1a := hC.cell y1a
  replace y1b := hC.cell y1b
  replace o0 := o0.ext hC
  replace o1 := o1.ext hC
  replace o2 := o2.ext hC
  replace o3 := o3.ext hC
  replace o4 := o4.ext hC
  replace o5 := o5.ext hC
  replace o6 := o6.ext hC
  replace o7 := o7.ext hC
  replace hE := hE.tr hC
  clear hC
  have q75 : w.heap.size < w20.heap.size := lt_of_cell x0a
  have q76 : w.heap.size + 1 < w20.heap.size := lt_of_cell x1a
  have q77 : w2.heap.size < w20.heap.size := lt_of_cell y0a
  have q78 : w3.heap.size < w20.heap.size := lt_of_cell y1a
  go_wp2_with fail
  have hh : heldI (marksI (1 + (mkII (SBreakingTuples d0 d1 d2).1 : Int)) (SBreakingTuples d0 d1 d2).2.1.length) (1 + (mkII (SBreakingTuples d0 d1 d2).1 : Int)) = 1 + (mkII (SBreakingTuples d0 d1 d2).1 : Int) + (List.length (SBreakingTuples d0 d1 d2).2.1 : Int) := heldI_marks _ _
  have HH := Lib.hid hh
  clear hh
  refine (heldInt64S_any (marksI (1 + (mkII (SBreakingTuples d0 d1 d2).1 : Int)) (SBreakingTuples d0 d1 d2).2.1.length) _ (1 + (mkII (SBreakingTuples d0 d1 d2).1 : Int)) _ o5.rd (by omega) (by rw [marksI_length]; omega)).mono ?_
  rintro e w21 ⟨rfl, hC⟩
  rw [HH.out]
  clear HH
  have q79 : w20.heap.size ≤ w21.heap.size := hC.size
  replace x0a := hC.cell x0a
  replace x0b := hC.cell x0b
  replace x1a := hC.cell x1a
  replace x1b := hC.cell x1b
  replace y0a := hC.cell y0a
  replace y0b := hC.cell y0b
  replace y1a := hC.cell y1a
  replace y1b := hC.cell y1b
  replace o0 := o0.ext hC
  replace o1 := o1.ext hC
  replace o2 := o2.ext hC
  replace o3 := o3.ext hC
  replace o4 := o4.ext hC
  replace o5 := o5.ext hC
  replace o6 := o6.ext hC
  replace o7 := o7.ext hC
  replace hE := hE.tr hC
  clear hC
  have q80 : w.heap.size < w21.heap.size := lt_of_cell x0a
  have q81 : w.heap.size + 1 < w21.heap.size := lt_of_cell x1a
  have q82 : w2.heap.size < w21.heap.size := lt_of_cell y0a
  have q83 : w3.heap.size < w21.heap.size := lt_of_cell y1a
  go_wp2_with fail
  go_ret
  exact ⟨rfl, hE⟩

set_option maxRecDepth 100000 in
theorem lifted (os : Os) (started : os.Started) (H : Type) (enc : TypeId × Value → H) :
    ReturnsInHanded {} Try.checked os 7 .any (Rows.fnExactBreakingTuplesSpec.pre6 enc Try.prog Try.f7 Rows.fnExactBreakingTuplesRow.domain false) (Rows.fnExactBreakingTuplesSpec.post enc Try.prog Try.f7 false true false false) := by
  refine returnsInHanded_of_change (C := Try.checked) own_knob started (by kernel_rfl) Try.func7
    (ChangeSpec.witness6 (enc := enc) (C := Try.checked) false ⟨#[], #[.int .i64 0, .agg #[.int .i64 0, .slice none 0 0], .agg #[.int .i64 0, .slice none 0 0]], []⟩ 8 (by kernel_rfl) (by kernel_rfl) (by kernel_rfl) (by kernel_rfl)) ?_
  intro W base args ds gs before hval0 hW hcnd _
  have hval : ∀ (j : Nat) t v, Try.f7.params[j]? = some t → args[j]? = some v → Value.okWide Try.prog W .any base t v := hval0
  have hW' := hW
  obtain ⟨p, q, hA0, hV, rfl, hfz, hnd⟩ := hW
  have hA : DataW.TrodAll enc Try.prog W 0 (fun _ => true) true Try.f7.params.toList args.toList ds p := hA0
  rw [Try.params7] at hA hval
  obtain ⟨v0, v1, v2, d0, d1, d2, p0, p1, p2, rfl, rfl, rfl, k0, k1, k2⟩ := trodAll_three hA
  obtain ⟨rfl, rfl⟩ := trodVars_none hV
  clear hA0 hval0
  simp only [List.append_nil] at hW'
  obtain ⟨e0, rfl, lo0, hi0⟩ := int_of k0 (hval 0 _ _ rfl rfl)
  obtain ⟨e1, h1⟩ := dOp_of k1 (hval 1 _ _ rfl rfl)
  obtain ⟨e2, h2⟩ := dRel_of k2 (hval 2 _ _ rfl rfl)
  refine (walk e0 e1 _ e2 _ W h1 h2 lo0 hi0).mono fun e W' ⟨he, hE⟩ => ?_
  subst he
  exact ⟨_, rfl, law_post rfl rfl (by kernel_rfl) hW' hE rfl rfl rfl⟩

theorem proved : Rows.FnExactBreakingTuplesSaid :=
  OpenClaim.holds_of_wide 7 Try.f7 rfl rfl rfl rfl rfl rfl rfl ⟨rfl, rfl, rfl, rfl, rfl⟩ rfl rfl rfl rfl rfl (by kernel_rfl) Try.func7 (by kernel_rfl)
    (of_decide_eq_true (by kernel_rfl)) (by unfold Func.isWrapper; first | (rw [if_pos (by decide +kernel)]; kernel_rfl) | (rw [if_neg (by decide +kernel)]; exact ⟨rfl, rfl⟩))
    (fun os started H enc _ => lifted os started H enc)
end Go.Proofs.Ytemhmpnnccmlmaa.fnExactBreakingTuples
