
/- FnExactComposeRels returns true, whatever the input, and writes nothing that was there. Conditions: none. -/
import Derived.Test.YtohpjamngpphnaaLift
import Derived.Test.YtohpjamngpphnaaRelL
import Derived.Test.YtohpjamngpphnaaComp
import Derived.Test.YtohpjamngpphnaaBox
namespace Go.Proofs.Ytohpjamngpphnaa.fnExactComposeRels
open Go.ChangeShapes Go.WideShapes Go.ChangeAt Go.RowKit
set_option linter.unusedVariables false

set_option maxHeartbeats 4000000 in
set_option maxRecDepth 100000 in
theorem walk (d0 : Int) (d1 : Int × List (List Int)) (v1 : Value) (d2 : Int × List (List Int)) (v2 : Value) (w : World) (h1 : RdRel w v1 d1) (h2 : RdRel w v2 d2) (lo0 : -9223372036854775808 ≤ d0) (hi0 : d0 ≤ 9223372036854775807) :
    Calls Try.prog 13 #[.int .i64 d0, v1, v2] w fun e w' => e = .returned (.bool true) ∧ Ext w w' := by
  obtain ⟨tv1, rfl⟩ := h1.form
  obtain ⟨tv2, rfl⟩ := h2.form
  have hE : Ext w ((w.alloc (.cells #[.int .i64 d1.1, tv1] 30)).alloc (.cells #[.int .i64 d2.1, tv2] 30)) := (((Ext.refl' w).alloc (Nat.le_refl _) _).alloc (by simp) _)
  by_cases z0 : szL 1048576 (szRel d1) < 0
  · go_enter Try.func13, Try.ntmps13
    go_wp2_with fail
    refine (szRel_any d1 _ _ _ (h1.ext hE) (by omega) (by omega)).mono ?_
    rintro e s1 ⟨rfl, hS⟩
    have x0a := hS.cell (p := ⟨w.heap.size, 0, none⟩) (v := .int .i64 d1.1) (by simp [go_sem])
    have x0b := hS.cell (p := ⟨w.heap.size, 1, none⟩) (v := tv1) (by simp [go_sem])
    have x1a := hS.cell (p := ⟨w.heap.size + 1, 0, none⟩) (v := .int .i64 d2.1) (by simp [go_sem])
    have x1b := hS.cell (p := ⟨w.heap.size + 1, 1, none⟩) (v := tv2) (by simp [go_sem])
    replace hE := hE.tr hS
    clear hS
    go_wp2_with fail
    go_ret
    exact ⟨rfl, hE⟩
  obtain ⟨za0, zb0, zc0⟩ := szL_le z0
  by_cases z1 : szL (szL 1048576 (szRel d1)) (szRel d2) < 0
  · go_enter Try.func13, Try.ntmps13
    go_wp2_with fail
    refine (szRel_any d1 _ _ _ (h1.ext hE) (by omega) (by omega)).mono ?_
    rintro e s1 ⟨rfl, hS⟩
    have x0a := hS.cell (p := ⟨w.heap.size, 0, none⟩) (v := .int .i64 d1.1) (by simp [go_sem])
    have x0b := hS.cell (p := ⟨w.heap.size, 1, none⟩) (v := tv1) (by simp [go_sem])
    have x1a := hS.cell (p := ⟨w.heap.size + 1, 0, none⟩) (v := .int .i64 d2.1) (by simp [go_sem])
    have x1b := hS.cell (p := ⟨w.heap.size + 1, 1, none⟩) (v := tv2) (by simp [go_sem])
    replace hE := hE.tr hS
    clear hS
    go_wp2_with fail
    refine (szRel_any d2 _ _ _ (h2.ext hE) (by omega) (by omega)).mono ?_
    rintro e s2 ⟨rfl, hS⟩
    replace x0a := hS.cell x0a
    replace x0b := hS.cell x0b
    replace x1a := hS.cell x1a
    replace x1b := hS.cell x1b
    replace hE := hE.tr hS
    clear hS
    go_wp2_with fail
    go_ret
    exact ⟨rfl, hE⟩
  obtain ⟨za1, zb1, zc1⟩ := szL_le z1
  have hmk1 := mkRel_le d1
  have hmk2 := mkRel_le d2
  go_enter Try.func13, Try.ntmps13
  go_wp2_with fail
  refine (szRel_any d1 _ _ _ (h1.ext hE) (by omega) (by omega)).mono ?_
  rintro e s1 ⟨rfl, hS⟩
  have x0a := hS.cell (p := ⟨w.heap.size, 0, none⟩) (v := .int .i64 d1.1) (by simp [go_sem])
  have x0b := hS.cell (p := ⟨w.heap.size, 1, none⟩) (v := tv1) (by simp [go_sem])
  have x1a := hS.cell (p := ⟨w.heap.size + 1, 0, none⟩) (v := .int .i64 d2.1) (by simp [go_sem])
  have x1b := hS.cell (p := ⟨w.heap.size + 1, 1, none⟩) (v := tv2) (by simp [go_sem])
  replace hE := hE.tr hS
  clear hS
  go_wp2_with fail
  refine (szRel_any d2 _ _ _ (h2.ext hE) (by omega) (by omega)).mono ?_
  rintro e s2 ⟨rfl, hS⟩
  replace x0a := hS.cell x0a
  replace x0b := hS.cell x0b
  replace x1a := hS.cell x1a
  replace x1b := hS.cell x1b
  replace hE := hE.tr hS
  clear hS
  go_wp2_with fail
  refine region_sp [8] [10, 11] [SP.val (.int .i64 d0), SP.val (.agg #[.int .i64 d1.1, tv1]), SP.ownRel d1, SP.val (.agg #[.int .i64 d2.1, tv2]), SP.ownRel d2, SP.resRel s2.heap.size (SComposeRels d0 d1 d2), SP.resRel s2.heap.size (SComposeRels d0 d1 d2), SP.ownRelB s2.heap.size (SComposeRels d0 d1 d2).1, SP.val (.int .i64 (SComposeRels d0 d1 d2).2), SP.box2 s2.heap.size 24, SP.any, SP.any] (by kernel_rfl) (fun _ d _ _ _ h => by cases d <;> exact h) (by kernel_rfl) (by kernel_rfl)
    (.cons (fun vs y hY => Step.move rfl rfl rfl rfl) <|
     .cons (fun vs y hY => Step.load ⟨w.heap.size, 0, none⟩ rfl rfl rfl (by simp [go_sem, hY.cell x0a, hY.cell x0b]) rfl) <|
     .cons (fun vs y hY g1_0 => Step.call Try.call22 rfl rfl [vs 1] rfl rfl ((toRel_any d1 _ _ (by rw [show vs 1 = _ from g1_0]; exact h1.ext (hE.tr hY)) (by omega)).mono fun _ _ ⟨u, fp, he, hE, ho, _⟩ => ⟨u, he, hE, fp, ho⟩)) <|
     .cons (fun vs y hY => Step.load ⟨w.heap.size + 1, 0, none⟩ rfl rfl rfl (by simp [go_sem, hY.cell x1a, hY.cell x1b]) rfl) <|
     .cons (fun vs y hY g3_0 g2_1 => Step.call Try.call22 rfl rfl [vs 3] rfl rfl ((toRel_any d2 _ _ (by rw [show vs 3 = _ from g3_0]; exact h2.ext (hE.tr hY)) (by omega)).mono fun _ _ ⟨u, fp, he, hE, ho, _⟩ => ⟨u, he, hE, fp, ho⟩)) <|
     .cons (fun vs y hY g0_0 g2_1 g4_2 g4_3 => Step.call Try.call42 rfl rfl [vs 0, vs 2, vs 4] rfl rfl (by rw [show vs 0 = _ from g0_0]; exact (RelRes.sp (specComposeRels_any d0 d1 _ d2 _ _ (rdRel_of_sp g2_1) (rdRel_of_sp g4_2) lo0 hi0 (by omega) (by omega)) hY.size))) <|
     .cons (fun vs y hY g5_0 => Step.move rfl rfl rfl g5_0) <|
     .cons (fun vs y hY g6_0 => Step.resRel0 rfl rfl g6_0) <|
     .free (Step.free rfl (fun vs y hY g6_0 => free_resRel1 rfl g6_0)) <|
     .cons (fun vs y hY => Step.alloc rfl rfl (by simp [go_sem]) (box2_new hY.size)) <|
     .skip rfl <|
     .skip rfl <|
     .nil) ?_
  intro vs w1 hC hL
  have r0 : vs 0 = _ := hL 0 (by decide) rfl
  have r1 : vs 1 = _ := hL 1 (by decide) rfl
  have r3 : vs 3 = _ := hL 3 (by decide) rfl
  have r8 : vs 8 = _ := hL 8 (by decide) rfl
  have ro := hL 7 (by decide) rfl
  have rb := hL 9 (by decide) rfl
  clear hL
  obtain ⟨fp0, o0, lo_o0, bd_o0⟩ := ro
  obtain ⟨bo0, hbv, lbo0, hbo0⟩ := rb
  have nbo0 : bo0 ∉ fp0 := o0.apart hbo0
  have hi_o0 := o0.lt
  obtain ⟨ao0, co0, hvo⟩ := o0.form
  rw [hvo] at o0
  simp only [putAll, Act.put, List.contains_cons, List.contains_nil, Nat.reduceBEq, Nat.reduceAdd, Bool.or_false, Bool.or_true, cond_true, cond_false, List.setIfInBounds_toArray, List.set_cons_succ, List.set_cons_zero, List.filterMap_cons, List.filterMap_nil, List.getElem?_cons_succ, List.getElem?_cons_zero, hbv, hvo, r0, r1, r3, r8]
  clear hbv hvo r0 r1 r3 r8
  have q0 : w.heap.size < s2.heap.size := lt_of_cell x0a
  have q1 : w.heap.size + 1 < s2.heap.size := lt_of_cell x1a
  have hEb : w.heap.size ≤ s2.heap.size := hE.size
  have q2 : s2.heap.size ≤ w1.heap.size := hC.size
  replace x0a := hC.cell x0a
  replace x0b := hC.cell x0b
  replace x1a := hC.cell x1a
  replace x1b := hC.cell x1b
  replace hE := hE.tr hC
  clear hC
  have q3 : w.heap.size < w1.heap.size := lt_of_cell x0a
  have q4 : w.heap.size + 1 < w1.heap.size := lt_of_cell x1a
  refine wpList_store_box rfl 24 (.tmp 8) (.tmp 36) rfl rfl bo0 _ _ rfl rfl _ _ hbo0 (by kernel_rfl) rfl rfl rfl ?_
  intro w2 hO y0a y0b
  replace x0a := hO.cell x0a (by simp only [List.mem_singleton]; omega)
  replace x0b := hO.cell x0b (by simp only [List.mem_singleton]; omega)
  replace x1a := hO.cell x1a (by simp only [List.mem_singleton]; omega)
  replace x1b := hO.cell x1b (by simp only [List.mem_singleton]; omega)
  replace o0 := o0.off hO (by intro g hg hm; rw [List.mem_singleton] at hm; exact nbo0 (hm ▸ hg))
  replace hE : Ext w w2 := Below.trans hE (hO.below hE.size (fun g hg => by rw [List.mem_singleton] at hg; omega))
  clear hEb
  have q5 : w1.heap.size ≤ w2.heap.size := hO.size
  clear hO
  have q6 : w.heap.size < w2.heap.size := lt_of_cell x0a
  have q7 : w.heap.size + 1 < w2.heap.size := lt_of_cell x1a
  have q8 : bo0 < w2.heap.size := lt_of_cell y0a
  go_wp2_with fail
  refine (toRel_any d1 _ _ (h1.ext hE) (by omega)).mono ?_
  rintro e w3 ⟨uo1, fp1, rfl, hC, o1, lo_o1⟩
  have q9 : w2.heap.size ≤ w3.heap.size := hC.size
  replace x0a := hC.cell x0a
  replace x0b := hC.cell x0b
  replace x1a := hC.cell x1a
  replace x1b := hC.cell x1b
  replace y0a := hC.cell y0a
  replace y0b := hC.cell y0b
  replace o0 := o0.ext hC
  replace hE := hE.tr hC
  clear hC
  have q10 : w.heap.size < w3.heap.size := lt_of_cell x0a
  have q11 : w.heap.size + 1 < w3.heap.size := lt_of_cell x1a
  have q12 : bo0 < w3.heap.size := lt_of_cell y0a
  replace lo_o1 : ∀ g ∈ fp1, w2.heap.size + 0 ≤ g := fun g hg => by have := lo_o1 g hg; (try simp only [World.size_alloc] at this); omega
  have hi_o1 := o1.lt
  obtain ⟨ao1, co1, rfl⟩ := o1.form
  go_wp2_with fail
  have hP : Ext w3 (w3.alloc (.cells #[.int .i64 d1.1, .slice ao1 d1.2.length co1] 24)) := ((Ext.refl' w3).alloc (Nat.le_refl _) _)
  refine (toRel_any d2 _ _ (h2.ext (hE.tr hP)) (by omega)).mono ?_
  rintro e w4 ⟨uo2, fp2, rfl, hC, o2, lo_o2⟩
  have y1a := hC.cell (p := ⟨w3.heap.size, 0, none⟩) (v := .int .i64 d1.1) (by simp [go_sem])
  have y1b := hC.cell (p := ⟨w3.heap.size, 1, none⟩) (v := .slice ao1 d1.2.length co1) (by simp [go_sem])
  replace hC := hP.tr hC
  clear hP
  have q13 : w3.heap.size ≤ w4.heap.size := hC.size
  replace x0a := hC.cell x0a
  replace x0b := hC.cell x0b
  replace x1a := hC.cell x1a
  replace x1b := hC.cell x1b
  replace y0a := hC.cell y0a
  replace y0b := hC.cell y0b
  replace o0 := o0.ext hC
  replace o1 := o1.ext hC
  replace hE := hE.tr hC
  clear hC
  have q14 : w.heap.size < w4.heap.size := lt_of_cell x0a
  have q15 : w.heap.size + 1 < w4.heap.size := lt_of_cell x1a
  have q16 : bo0 < w4.heap.size := lt_of_cell y0a
  have q17 : w3.heap.size < w4.heap.size := lt_of_cell y1a
  replace lo_o2 : ∀ g ∈ fp2, w3.heap.size + 1 ≤ g := fun g hg => by have := lo_o2 g hg; (try simp only [World.size_alloc] at this); omega
  have hi_o2 := o2.lt
  obtain ⟨ao2, co2, rfl⟩ := o2.form
  go_wp2_with fail
  have hP : Ext w4 (w4.alloc (.cells #[.int .i64 d2.1, .slice ao2 d2.2.length co2] 24)) := ((Ext.refl' w4).alloc (Nat.le_refl _) _)
  refine (implComposeRels_any d0 d1 _ d2 _ _ (o1.ext hP).rd (o2.ext hP).rd lo0 hi0 (by omega) (by omega)).mono ?_
  rintro e w5 ⟨u3, fp3, rfl, hC, o3, lo_o3, bd_o3⟩
  have y2a := hC.cell (p := ⟨w4.heap.size, 0, none⟩) (v := .int .i64 d2.1) (by simp [go_sem])
  have y2b := hC.cell (p := ⟨w4.heap.size, 1, none⟩) (v := .slice ao2 d2.2.length co2) (by simp [go_sem])
  replace hC := hP.tr hC
  clear hP
  have q18 : w4.heap.size ≤ w5.heap.size := hC.size
  replace x0a := hC.cell x0a
  replace x0b := hC.cell x0b
  replace x1a := hC.cell x1a
  replace x1b := hC.cell x1b
  replace y0a := hC.cell y0a
  replace y0b := hC.cell y0b
  replace y1a := hC.cell y1a
  replace y1b := hC.cell y1b
  replace o0 := o0.ext hC
  replace o1 := o1.ext hC
  replace o2 := o2.ext hC
  replace hE := hE.tr hC
  clear hC
  have q19 : w.heap.size < w5.heap.size := lt_of_cell x0a
  have q20 : w.heap.size + 1 < w5.heap.size := lt_of_cell x1a
  have q21 : bo0 < w5.heap.size := lt_of_cell y0a
  have q22 : w3.heap.size < w5.heap.size := lt_of_cell y1a
  have q23 : w4.heap.size < w5.heap.size := lt_of_cell y2a
  replace lo_o3 : ∀ g ∈ fp3, w4.heap.size + 1 ≤ g := fun g hg => by have := lo_o3 g hg; (try simp only [World.size_alloc] at this); omega
  have hi_o3 := o3.lt
  obtain ⟨ao3, co3, rfl⟩ := o3.form
  go_wp2_with fail
  have hP : Ext w5 (w5.alloc (.cells #[.int .i64 (SComposeRels d0 d1 d2).1.1, .slice ao3 (SComposeRels d0 d1 d2).1.2.length co3] 24)) := ((Ext.refl' w5).alloc (Nat.le_refl _) _)
  refine (eqRel_any (SComposeRels d0 d1 d2).1 (SComposeRels d0 d1 d2).1 _ _ _ (o3.ext hP).rd (o0.ext hP).rd).mono ?_
  rintro e w6 ⟨rfl, hC⟩
  have y3a := hC.cell (p := ⟨w5.heap.size, 0, none⟩) (v := .int .i64 (SComposeRels d0 d1 d2).1.1) (by simp [go_sem])
  have y3b := hC.cell (p := ⟨w5.heap.size, 1, none⟩) (v := .slice ao3 (SComposeRels d0 d1 d2).1.2.length co3) (by simp [go_sem])
  replace hC := hP.tr hC
  clear hP
  have q24 : w5.heap.size ≤ w6.heap.size := hC.size
  replace x0a := hC.cell x0a
  replace x0b := hC.cell x0b
  replace x1a := hC.cell x1a
  replace x1b := hC.cell x1b
  replace y0a := hC.cell y0a
  replace y0b := hC.cell y0b
  replace y1a := hC.cell y1a
  replace y1b := hC.cell y1b
  replace y2a := hC.cell y2a
  replace y2b := hC.cell y2b
  replace o0 := o0.ext hC
  replace o1 := o1.ext hC
  replace o2 := o2.ext hC
  replace o3 := o3.ext hC
  replace hE := hE.tr hC
  clear hC
  have q25 : w.heap.size < w6.heap.size := lt_of_cell x0a
  have q26 : w.heap.size + 1 < w6.heap.size := lt_of_cell x1a
  have q27 : bo0 < w6.heap.size := lt_of_cell y0a
  have q28 : w3.heap.size < w6.heap.size := lt_of_cell y1a
  have q29 : w4.heap.size < w6.heap.size := lt_of_cell y2a
  have q30 : w5.heap.size < w6.heap.size := lt_of_cell y3a
  go_wp2_with fail
  refine region_sp [] [] [SP.val (.agg #[.int .i64 d1.1, .slice ao1 d1.2.length co1]), SP.val (.agg #[.int .i64 d1.1, tv1]), SP.ownRel d1, SP.val (.bool true), SP.val (.bool false)] (by kernel_rfl) (fun _ d _ _ _ h => by cases d <;> exact h) (by kernel_rfl) (by kernel_rfl)
    (.cons (fun vs y hY => Step.load ⟨w3.heap.size, 0, none⟩ rfl rfl rfl (by simp [go_sem, hY.cell y1a, hY.cell y1b]) rfl) <|
     .cons (fun vs y hY => Step.load ⟨w.heap.size, 0, none⟩ rfl rfl rfl (by simp [go_sem, hY.cell x0a, hY.cell x0b]) rfl) <|
     .cons (fun vs y hY g1_0 => Step.call Try.call22 rfl rfl [vs 1] rfl rfl ((toRel_any d1 _ _ (by rw [show vs 1 = _ from g1_0]; exact h1.ext (hE.tr hY)) (by omega)).mono fun _ _ ⟨u, fp, he, hE, ho, _⟩ => ⟨u, he, hE, fp, ho⟩)) <|
     .cons (fun vs y hY g0_0 g2_1 g2_2 => Step.call Try.call17 rfl rfl [vs 0, vs 2] rfl rfl ((eqRel_any d1 d1 _ _ _ (by rw [show vs 0 = _ from g0_0]; exact (o1.ext hY).rd) (rdRel_of_sp g2_1)).mono fun _ _ ⟨he, hE⟩ => ⟨_, he, hE, by simp; rfl⟩)) <|
     .cons (fun vs y hY g3_0 => Step.not rfl rfl g3_0 rfl) <|
     .nil) ?_
  intro vs w7 hC hL
  have r0 : vs 0 = _ := hL 0 (by decide) rfl
  have r1 : vs 1 = _ := hL 1 (by decide) rfl
  have r3 : vs 3 = _ := hL 3 (by decide) rfl
  have r4 : vs 4 = _ := hL 4 (by decide) rfl
  clear hL
  simp only [putAll, Act.put, List.contains_nil, cond_false, List.setIfInBounds_toArray, List.set_cons_succ, List.set_cons_zero, List.filterMap_nil, r0, r1, r3, r4]
  clear r0 r1 r3 r4
  have q31 : w6.heap.size ≤ w7.heap.size := hC.size
  replace x0a := hC.cell x0a
  replace x0b := hC.cell x0b
  replace x1a := hC.cell x1a
  replace x1b := hC.cell x1b
  replace y0a := hC.cell y0a
  replace y0b := hC.cell y0b
  replace y1a := hC.cell y1a
  replace y1b := hC.cell y1b
  replace y2a := hC.cell y2a
  replace y2b := hC.cell y2b
  replace y3a := hC.cell y3a
  replace y3b := hC.cell y3b
  replace o0 := o0.ext hC
  replace o1 := o1.ext hC
  replace o2 := o2.ext hC
  replace o3 := o3.ext hC
  replace hE := hE.tr hC
  clear hC
  have q32 : w.heap.size < w7.heap.size := lt_of_cell x0a
  have q33 : w.heap.size + 1 < w7.heap.size := lt_of_cell x1a
  have q34 : bo0 < w7.heap.size := lt_of_cell y0a
  have q35 : w3.heap.size < w7.heap.size := lt_of_cell y1a
  have q36 : w4.heap.size < w7.heap.size := lt_of_cell y2a
  have q37 : w5.heap.size < w7.heap.size := lt_of_cell y3a
  go_wp2_with fail
  refine region_sp [] [] [SP.val (.agg #[.int .i64 d2.1, .slice ao2 d2.2.length co2]), SP.val (.agg #[.int .i64 d2.1, tv2]), SP.ownRel d2, SP.val (.bool true), SP.val (.bool false)] (by kernel_rfl) (fun _ d _ _ _ h => by cases d <;> exact h) (by kernel_rfl) (by kernel_rfl)
    (.cons (fun vs y hY => Step.load ⟨w4.heap.size, 0, none⟩ rfl rfl rfl (by simp [go_sem, hY.cell y2a, hY.cell y2b]) rfl) <|
     .cons (fun vs y hY => Step.load ⟨w.heap.size + 1, 0, none⟩ rfl rfl rfl (by simp [go_sem, hY.cell x1a, hY.cell x1b]) rfl) <|
     .cons (fun vs y hY g1_0 => Step.call Try.call22 rfl rfl [vs 1] rfl rfl ((toRel_any d2 _ _ (by rw [show vs 1 = _ from g1_0]; exact h2.ext (hE.tr hY)) (by omega)).mono fun _ _ ⟨u, fp, he, hE, ho, _⟩ => ⟨u, he, hE, fp, ho⟩)) <|
     .cons (fun vs y hY g0_0 g2_1 g2_2 => Step.call Try.call17 rfl rfl [vs 0, vs 2] rfl rfl ((eqRel_any d2 d2 _ _ _ (by rw [show vs 0 = _ from g0_0]; exact (o2.ext hY).rd) (rdRel_of_sp g2_1)).mono fun _ _ ⟨he, hE⟩ => ⟨_, he, hE, by simp; rfl⟩)) <|
     .cons (fun vs y hY g3_0 => Step.not rfl rfl g3_0 rfl) <|
     .nil) ?_
  intro vs w8 hC hL
  have r0 : vs 0 = _ := hL 0 (by decide) rfl
  have r1 : vs 1 = _ := hL 1 (by decide) rfl
  have r3 : vs 3 = _ := hL 3 (by decide) rfl
  have r4 : vs 4 = _ := hL 4 (by decide) rfl
  clear hL
  simp only [putAll, Act.put, List.contains_nil, cond_false, List.setIfInBounds_toArray, List.set_cons_succ, List.set_cons_zero, List.filterMap_nil, r0, r1, r3, r4]
  clear r0 r1 r3 r4
  have q38 : w7.heap.size ≤ w8.heap.size := hC.size
  replace x0a := hC.cell x0a
  replace x0b := hC.cell x0b
  replace x1a := hC.cell x1a
  replace x1b := hC.cell x1b
  replace y0a := hC.cell y0a
  replace y0b := hC.cell y0b
  replace y1a := hC.cell y1a
  replace y1b := hC.cell y1b
  replace y2a := hC.cell y2a
  replace y2b := hC.cell y2b
  replace y3a := hC.cell y3a
  replace y3b := hC.cell y3b
  replace o0 := o0.ext hC
  replace o1 := o1.ext hC
  replace o2 := o2.ext hC
  replace o3 := o3.ext hC
  replace hE := hE.tr hC
  clear hC
  have q39 : w.heap.size < w8.heap.size := lt_of_cell x0a
  have q40 : w.heap.size + 1 < w8.heap.size := lt_of_cell x1a
  have q41 : bo0 < w8.heap.size := lt_of_cell y0a
  have q42 : w3.heap.size < w8.heap.size := lt_of_cell y1a
  have q43 : w4.heap.size < w8.heap.size := lt_of_cell y2a
  have q44 : w5.heap.size < w8.heap.size := lt_of_cell y3a
  go_wp2_with fail
  refine (markRel_any d1 _ fp1 (1) _ o1 (by omega) (by omega)).mono ?_
  rintro e w9 ⟨rfl, hO, o1'⟩
  replace x0a := hO.cell x0a (by intro hm; have := lo_o1 _ hm; have := hi_o1 _ hm; dsimp only at *; omega)
  replace x0b := hO.cell x0b (by intro hm; have := lo_o1 _ hm; have := hi_o1 _ hm; dsimp only at *; omega)
  replace x1a := hO.cell x1a (by intro hm; have := lo_o1 _ hm; have := hi_o1 _ hm; dsimp only at *; omega)
  replace x1b := hO.cell x1b (by intro hm; have := lo_o1 _ hm; have := hi_o1 _ hm; dsimp only at *; omega)
  replace y0a := hO.cell y0a (by intro hm; have := lo_o1 _ hm; have := hi_o1 _ hm; dsimp only at *; omega)
  replace y0b := hO.cell y0b (by intro hm; have := lo_o1 _ hm; have := hi_o1 _ hm; dsimp only at *; omega)
  replace y1a := hO.cell y1a (by intro hm; have := lo_o1 _ hm; have := hi_o1 _ hm; dsimp only at *; omega)
  replace y1b := hO.cell y1b (by intro hm; have := lo_o1 _ hm; have := hi_o1 _ hm; dsimp only at *; omega)
  replace y2a := hO.cell y2a (by intro hm; have := lo_o1 _ hm; have := hi_o1 _ hm; dsimp only at *; omega)
  replace y2b := hO.cell y2b (by intro hm; have := lo_o1 _ hm; have := hi_o1 _ hm; dsimp only at *; omega)
  replace y3a := hO.cell y3a (by intro hm; have := lo_o1 _ hm; have := hi_o1 _ hm; dsimp only at *; omega)
  replace y3b := hO.cell y3b (by intro hm; have := lo_o1 _ hm; have := hi_o1 _ hm; dsimp only at *; omega)
  replace o0 := o0.off hO (by intro g hg hm; have := lo_o1 _ hm; have := hi_o1 _ hm; have := lo_o0 _ hg; have := hi_o0 _ hg; omega)
  replace o2 := o2.off hO (by intro g hg hm; have := lo_o1 _ hm; have := hi_o1 _ hm; have := lo_o2 _ hg; have := hi_o2 _ hg; omega)
  replace o3 := o3.off hO (by intro g hg hm; have := lo_o1 _ hm; have := hi_o1 _ hm; have := lo_o3 _ hg; have := hi_o3 _ hg; omega)
  replace hE : Ext w w9 := Below.trans hE (hO.below hE.size (fun g hg => by have := lo_o1 g hg; have := hE.size; omega))
  have q45 : w8.heap.size ≤ w9.heap.size := hO.size
  clear o1 hO
  have o1 := o1'
  clear o1'
  go_wp2_with fail
  refine (markRel_any d2 _ fp2 (1 + (mkRel d1 : Int)) _ o2 (by omega) (by omega)).mono ?_
  rintro e w10 ⟨rfl, hO, o2'⟩
  replace x0a := hO.cell x0a (by intro hm; have := lo_o2 _ hm; have := hi_o2 _ hm; dsimp only at *; omega)
  replace x0b := hO.cell x0b (by intro hm; have := lo_o2 _ hm; have := hi_o2 _ hm; dsimp only at *; omega)
  replace x1a := hO.cell x1a (by intro hm; have := lo_o2 _ hm; have := hi_o2 _ hm; dsimp only at *; omega)
  replace x1b := hO.cell x1b (by intro hm; have := lo_o2 _ hm; have := hi_o2 _ hm; dsimp only at *; omega)
  replace y0a := hO.cell y0a (by intro hm; have := lo_o2 _ hm; have := hi_o2 _ hm; dsimp only at *; omega)
  replace y0b := hO.cell y0b (by intro hm; have := lo_o2 _ hm; have := hi_o2 _ hm; dsimp only at *; omega)
  replace y1a := hO.cell y1a (by intro hm; have := lo_o2 _ hm; have := hi_o2 _ hm; dsimp only at *; omega)
  replace y1b := hO.cell y1b (by intro hm; have := lo_o2 _ hm; have := hi_o2 _ hm; dsimp only at *; omega)
  replace y2a := hO.cell y2a (by intro hm; have := lo_o2 _ hm; have := hi_o2 _ hm; dsimp only at *; omega)
  replace y2b := hO.cell y2b (by intro hm; have := lo_o2 _ hm; have := hi_o2 _ hm; dsimp only at *; omega)
  replace y3a := hO.cell y3a (by intro hm; have := lo_o2 _ hm; have := hi_o2 _ hm; dsimp only at *; omega)
  replace y3b := hO.cell y3b (by intro hm; have := lo_o2 _ hm; have := hi_o2 _ hm; dsimp only at *; omega)
  replace o0 := o0.off hO (by intro g hg hm; have := lo_o2 _ hm; have := hi_o2 _ hm; have := lo_o0 _ hg; have := hi_o0 _ hg; omega)
  replace o1 := o1.off hO (by intro g hg hm; have := lo_o2 _ hm; have := hi_o2 _ hm; have := lo_o1 _ hg; have := hi_o1 _ hg; omega)
  replace o3 := o3.off hO (by intro g hg hm; have := lo_o2 _ hm; have := hi_o2 _ hm; have := lo_o3 _ hg; have := hi_o3 _ hg; omega)
  replace hE : Ext w w10 := Below.trans hE (hO.below hE.size (fun g hg => by have := lo_o2 g hg; have := hE.size; omega))
  have q46 : w9.heap.size ≤ w10.heap.size := hO.size
  clear o2 hO
  have o2 := o2'
  clear o2'
  go_wp2_with fail
  refine (eqRel_any (SComposeRels d0 d1 d2).1 (SComposeRels d0 d1 d2).1 _ _ _ o3.rd o0.rd).mono ?_
  rintro e w11 ⟨rfl, hC⟩
  have q47 : w10.heap.size ≤ w11.heap.size := hC.size
  replace x0a := hC.cell x0a
  replace x0b := hC.cell x0b
  replace x1a := hC.cell x1a
  replace x1b := hC.cell x1b
  replace y0a := hC.cell y0a
  replace y0b := hC.cell y0b
  replace y1a := hC.cell y1a
  replace y1b := hC.cell y1b
  replace y2a := hC.cell y2a
  replace y2b := hC.cell y2b
  replace y3a := hC.cell y3a
  replace y3b := hC.cell y3b
  replace o0 := o0.ext hC
  replace o1 := o1.ext hC
  replace o2 := o2.ext hC
  replace o3 := o3.ext hC
  replace hE := hE.tr hC
  clear hC
  have q48 : w.heap.size < w11.heap.size := lt_of_cell x0a
  have q49 : w.heap.size + 1 < w11.heap.size := lt_of_cell x1a
  have q50 : bo0 < w11.heap.size := lt_of_cell y0a
  have q51 : w3.heap.size < w11.heap.size := lt_of_cell y1a
  have q52 : w4.heap.size < w11.heap.size := lt_of_cell y2a
  have q53 : w5.heap.size < w11.heap.size := lt_of_cell y3a
  go_wp2_with fail
  refine (markRel_any (SComposeRels d0 d1 d2).1 _ fp3 (1) _ o3 (by omega) (by omega)).mono ?_
  rintro e w12 ⟨rfl, hO, o3'⟩
  replace x0a := hO.cell x0a (by intro hm; have := lo_o3 _ hm; have := hi_o3 _ hm; dsimp only at *; omega)
  replace x0b := hO.cell x0b (by intro hm; have := lo_o3 _ hm; have := hi_o3 _ hm; dsimp only at *; omega)
  replace x1a := hO.cell x1a (by intro hm; have := lo_o3 _ hm; have := hi_o3 _ hm; dsimp only at *; omega)
  replace x1b := hO.cell x1b (by intro hm; have := lo_o3 _ hm; have := hi_o3 _ hm; dsimp only at *; omega)
  replace y0a := hO.cell y0a (by intro hm; have := lo_o3 _ hm; have := hi_o3 _ hm; dsimp only at *; omega)
  replace y0b := hO.cell y0b (by intro hm; have := lo_o3 _ hm; have := hi_o3 _ hm; dsimp only at *; omega)
  replace y1a := hO.cell y1a (by intro hm; have := lo_o3 _ hm; have := hi_o3 _ hm; dsimp only at *; omega)
  replace y1b := hO.cell y1b (by intro hm; have := lo_o3 _ hm; have := hi_o3 _ hm; dsimp only at *; omega)
  replace y2a := hO.cell y2a (by intro hm; have := lo_o3 _ hm; have := hi_o3 _ hm; dsimp only at *; omega)
  replace y2b := hO.cell y2b (by intro hm; have := lo_o3 _ hm; have := hi_o3 _ hm; dsimp only at *; omega)
  replace y3a := hO.cell y3a (by intro hm; have := lo_o3 _ hm; have := hi_o3 _ hm; dsimp only at *; omega)
  replace y3b := hO.cell y3b (by intro hm; have := lo_o3 _ hm; have := hi_o3 _ hm; dsimp only at *; omega)
  replace o0 := o0.off hO (by intro g hg hm; have := lo_o3 _ hm; have := hi_o3 _ hm; have := lo_o0 _ hg; have := hi_o0 _ hg; omega)
  replace o1 := o1.off hO (by intro g hg hm; have := lo_o3 _ hm; have := hi_o3 _ hm; have := lo_o1 _ hg; have := hi_o1 _ hg; omega)
  replace o2 := o2.off hO (by intro g hg hm; have := lo_o3 _ hm; have := hi_o3 _ hm; have := lo_o2 _ hg; have := hi_o2 _ hg; omega)
  replace hE : Ext w w12 := Below.trans hE (hO.below hE.size (fun g hg => by have := lo_o3 g hg; have := hE.size; omega))
  have q54 : w11.heap.size ≤ w12.heap.size := hO.size
  clear o3 hO
  have o3 := o3'
  clear o3'
  go_wp2_with fail
  have hh : heldRel (marksRel (1) (SComposeRels d0 d1 d2).1) (1) = 1 + (mkRel (SComposeRels d0 d1 d2).1 : Int) := heldRel_marks _ _ (by omega)
  have HH := Lib.hid hh
  clear hh
  refine (heldRel_any (marksRel (1) (SComposeRels d0 d1 d2).1) _ (1) _ o3.rd (by omega) (by rw [mkRel_marks]; omega)).mono ?_
  rintro e w13 ⟨rfl, hC⟩
  rw [HH.out]
  clear HH
  have q55 : w12.heap.size ≤ w13.heap.size := hC.size
  replace x0a := hC.cell x0a
  replace x0b := hC.cell x0b
  replace x1a := hC.cell x1a
  replace x1b := hC.cell x1b
  replace y0a := hC.cell y0a
  replace y0b := hC.cell y0b
  replace y1a := hC.cell y1a
  replace y1b := hC.cell y1b
  replace y2a := hC.cell y2a
  replace y2b := hC.cell y2b
  replace y3a := hC.cell y3a
  replace y3b := hC.cell y3b
  replace o0 := o0.ext hC
  replace o1 := o1.ext hC
  replace o2 := o2.ext hC
  replace o3 := o3.ext hC
  replace hE := hE.tr hC
  clear hC
  have q56 : w.heap.size < w13.heap.size := lt_of_cell x0a
  have q57 : w.heap.size + 1 < w13.heap.size := lt_of_cell x1a
  have q58 : bo0 < w13.heap.size := lt_of_cell y0a
  have q59 : w3.heap.size < w13.heap.size := lt_of_cell y1a
  have q60 : w4.heap.size < w13.heap.size := lt_of_cell y2a
  have q61 : w5.heap.size < w13.heap.size := lt_of_cell y3a
  go_wp2_with fail
  refine region_sp [8] [10, 11] [SP.val (.int .i64 d0), SP.val (.agg #[.int .i64 d1.1, tv1]), SP.ownRel d1, SP.val (.agg #[.int .i64 d2.1, tv2]), SP.ownRel d2, SP.resRel w13.heap.size (SComposeRels d0 d1 d2), SP.resRel w13.heap.size (SComposeRels d0 d1 d2), SP.ownRelB w13.heap.size (SComposeRels d0 d1 d2).1, SP.val (.int .i64 (SComposeRels d0 d1 d2).2), SP.box2 w13.heap.size 24, SP.any, SP.any] (by kernel_rfl) (fun _ d _ _ _ h => by cases d <;> exact h) (by kernel_rfl) (by kernel_rfl)
    (.cons (fun vs y hY => Step.move rfl rfl rfl rfl) <|
     .cons (fun vs y hY => Step.load ⟨w.heap.size, 0, none⟩ rfl rfl rfl (by simp [go_sem, hY.cell x0a, hY.cell x0b]) rfl) <|
     .cons (fun vs y hY g1_0 => Step.call Try.call22 rfl rfl [vs 1] rfl rfl ((toRel_any d1 _ _ (by rw [show vs 1 = _ from g1_0]; exact h1.ext (hE.tr hY)) (by omega)).mono fun _ _ ⟨u, fp, he, hE, ho, _⟩ => ⟨u, he, hE, fp, ho⟩)) <|
     .cons (fun vs y hY => Step.load ⟨w.heap.size + 1, 0, none⟩ rfl rfl rfl (by simp [go_sem, hY.cell x1a, hY.cell x1b]) rfl) <|
     .cons (fun vs y hY g3_0 g2_1 => Step.call Try.call22 rfl rfl [vs 3] rfl rfl ((toRel_any d2 _ _ (by rw [show vs 3 = _ from g3_0]; exact h2.ext (hE.tr hY)) (by omega)).mono fun _ _ ⟨u, fp, he, hE, ho, _⟩ => ⟨u, he, hE, fp, ho⟩)) <|
     .cons (fun vs y hY g0_0 g2_1 g4_2 g4_3 => Step.call Try.call43 rfl rfl [vs 0, vs 2, vs 4] rfl rfl (by rw [show vs 0 = _ from g0_0]; exact (RelRes.sp (implComposeRels_any d0 d1 _ d2 _ _ (rdRel_of_sp g2_1) (rdRel_of_sp g4_2) lo0 hi0 (by omega) (by omega)) hY.size))) <|
     .cons (fun vs y hY g5_0 => Step.move rfl rfl rfl g5_0) <|
     .cons (fun vs y hY g6_0 => Step.resRel0 rfl rfl g6_0) <|
     .free (Step.free rfl (fun vs y hY g6_0 => free_resRel1 rfl g6_0)) <|
     .cons (fun vs y hY => Step.alloc rfl rfl (by simp [go_sem]) (box2_new hY.size)) <|
     .skip rfl <|
     .skip rfl <|
     .nil) ?_
  intro vs w14 hC hL
  have r0 : vs 0 = _ := hL 0 (by decide) rfl
  have r1 : vs 1 = _ := hL 1 (by decide) rfl
  have r3 : vs 3 = _ := hL 3 (by decide) rfl
  have r8 : vs 8 = _ := hL 8 (by decide) rfl
  have ro := hL 7 (by decide) rfl
  have rb := hL 9 (by decide) rfl
  clear hL
  obtain ⟨fp4, o4, lo_o4, bd_o4⟩ := ro
  obtain ⟨bo4, hbv, lbo4, hbo4⟩ := rb
  have nbo4 : bo4 ∉ fp4 := o4.apart hbo4
  have hi_o4 := o4.lt
  obtain ⟨ao4, co4, hvo⟩ := o4.form
  rw [hvo] at o4
  simp only [putAll, Act.put, List.contains_cons, List.contains_nil, Nat.reduceBEq, Nat.reduceAdd, Bool.or_false, Bool.or_true, cond_true, cond_false, List.setIfInBounds_toArray, List.set_cons_succ, List.set_cons_zero, List.filterMap_cons, List.filterMap_nil, List.getElem?_cons_succ, List.getElem?_cons_zero, hbv, hvo, r0, r1, r3, r8]
  clear hbv hvo r0 r1 r3 r8
  have q62 : w.heap.size < w13.heap.size := lt_of_cell x0a
  have q63 : w.heap.size + 1 < w13.heap.size := lt_of_cell x1a
  have q64 : bo0 < w13.heap.size := lt_of_cell y0a
  have q65 : w3.heap.size < w13.heap.size := lt_of_cell y1a
  have q66 : w4.heap.size < w13.heap.size := lt_of_cell y2a
  have q67 : w5.heap.size < w13.heap.size := lt_of_cell y3a
  have hEb : w.heap.size ≤ w13.heap.size := hE.size
  have q68 : w13.heap.size ≤ w14.heap.size := hC.size
  replace x0a := hC.cell x0a
  replace x0b := hC.cell x0b
  replace x1a := hC.cell x1a
  replace x1b := hC.cell x1b
  replace y0a := hC.cell y0a
  replace y0b := hC.cell y0b
  replace y1a := hC.cell y1a
  replace y1b := hC.cell y1b
  replace y2a := hC.cell y2a
  replace y2b := hC.cell y2b
  replace y3a := hC.cell y3a
  replace y3b := hC.cell y3b
  replace o0 := o0.ext hC
  replace o1 := o1.ext hC
  replace o2 := o2.ext hC
  replace o3 := o3.ext hC
  replace hE := hE.tr hC
  clear hC
  have q69 : w.heap.size < w14.heap.size := lt_of_cell x0a
  have q70 : w.heap.size + 1 < w14.heap.size := lt_of_cell x1a
  have q71 : bo0 < w14.heap.size := lt_of_cell y0a
  have q72 : w3.heap.size < w14.heap.size := lt_of_cell y1a
  have q73 : w4.heap.size < w14.heap.size := lt_of_cell y2a
  have q74 : w5.heap.size < w14.heap.size := lt_of_cell y3a
  refine wpList_store_box rfl 24 (.tmp 17) (.tmp 105) rfl rfl bo4 _ _ rfl rfl _ _ hbo4 (by kernel_rfl) rfl rfl rfl ?_
  intro w15 hO y4a y4b
  replace x0a := hO.cell x0a (by simp only [List.mem_singleton]; omega)
  replace x0b := hO.cell x0b (by simp only [List.mem_singleton]; omega)
  replace x1a := hO.cell x1a (by simp only [List.mem_singleton]; omega)
  replace x1b := hO.cell x1b (by simp only [List.mem_singleton]; omega)
  replace y0a := hO.cell y0a (by simp only [List.mem_singleton]; omega)
  replace y0b := hO.cell y0b (by simp only [List.mem_singleton]; omega)
  replace y1a := hO.cell y1a (by simp only [List.mem_singleton]; omega)
  replace y1b := hO.cell y1b (by simp only [List.mem_singleton]; omega)
  replace y2a := hO.cell y2a (by simp only [List.mem_singleton]; omega)
  replace y2b := hO.cell y2b (by simp only [List.mem_singleton]; omega)
  replace y3a := hO.cell y3a (by simp only [List.mem_singleton]; omega)
  replace y3b := hO.cell y3b (by simp only [List.mem_singleton]; omega)
  replace o0 := o0.off hO (by intro g hg hm; rw [List.mem_singleton] at hm; have := hi_o0 g hg; omega)
  replace o1 := o1.off hO (by intro g hg hm; rw [List.mem_singleton] at hm; have := hi_o1 g hg; omega)
  replace o2 := o2.off hO (by intro g hg hm; rw [List.mem_singleton] at hm; have := hi_o2 g hg; omega)
  replace o3 := o3.off hO (by intro g hg hm; rw [List.mem_singleton] at hm; have := hi_o3 g hg; omega)
  replace o4 := o4.off hO (by intro g hg hm; rw [List.mem_singleton] at hm; exact nbo4 (hm ▸ hg))
  replace hE : Ext w w15 := Below.trans hE (hO.below hE.size (fun g hg => by rw [List.mem_singleton] at hg; omega))
  clear hEb
  have q75 : w14.heap.size ≤ w15.heap.size := hO.size
  clear hO
  have q76 : w.heap.size < w15.heap.size := lt_of_cell x0a
  have q77 : w.heap.size + 1 < w15.heap.size := lt_of_cell x1a
  have q78 : bo0 < w15.heap.size := lt_of_cell y0a
  have q79 : w3.heap.size < w15.heap.size := lt_of_cell y1a
  have q80 : w4.heap.size < w15.heap.size := lt_of_cell y2a
  have q81 : w5.heap.size < w15.heap.size := lt_of_cell y3a
  have q82 : bo4 < w15.heap.size := lt_of_cell y4a
  go_wp2_with fail
  refine (eqRel_any (SComposeRels d0 d1 d2).1 (SComposeRels d0 d1 d2).1 _ _ _ o4.rd o0.rd).mono ?_
  rintro e w16 ⟨rfl, hC⟩
  have q83 : w15.heap.size ≤ w16.heap.size := hC.size
  replace x0a := hC.cell x0a
  replace x0b := hC.cell x0b
  replace x1a := hC.cell x1a
  replace x1b := hC.cell x1b
  replace y0a := hC.cell y0a
  replace y0b := hC.cell y0b
  replace y1a := hC.cell y1a
  replace y1b := hC.cell y1b
  replace y2a := hC.cell y2a
  replace y2b := hC.cell y2b
  replace y3a := hC.cell y3a
  replace y3b := hC.cell y3b
  replace y4a := hC.cell y4a
  replace y4b := hC.cell y4b
  replace o0 := o0.ext hC
  replace o1 := o1.ext hC
  replace o2 := o2.ext hC
  replace o3 := o3.ext hC
  replace o4 := o4.ext hC
  replace hE := hE.tr hC
  clear hC
  have q84 : w.heap.size < w16.heap.size := lt_of_cell x0a
  have q85 : w.heap.size + 1 < w16.heap.size := lt_of_cell x1a
  have q86 : bo0 < w16.heap.size := lt_of_cell y0a
  have q87 : w3.heap.size < w16.heap.size := lt_of_cell y1a
  have q88 : w4.heap.size < w16.heap.size := lt_of_cell y2a
  have q89 : w5.heap.size < w16.heap.size := lt_of_cell y3a
  have q90 : bo4 < w16.heap.size := lt_of_cell y4a
  go_wp2_with fail
  have hh : heldRel (marksRel (1) (SComposeRels d0 d1 d2).1) (1) = 1 + (mkRel (SComposeRels d0 d1 d2).1 : Int) := heldRel_marks _ _ (by omega)
  have HH := Lib.hid hh
  clear hh
  refine (heldRel_any (marksRel (1) (SComposeRels d0 d1 d2).1) _ (1) _ o3.rd (by omega) (by rw [mkRel_marks]; omega)).mono ?_
  rintro e w17 ⟨rfl, hC⟩
  rw [HH.out]
  clear HH
  have q91 : w16.heap.size ≤ w17.heap.size := hC.size
  replace x0a := hC.cell x0a
  replace x0b := hC.cell x0b
  replace x1a := hC.cell x1a
  replace x1b := hC.cell x1b
  replace y0a := hC.cell y0a
  replace y0b := hC.cell y0b
  replace y1a := hC.cell y1a
  replace y1b := hC.cell y1b
  replace y2a := hC.cell y2a
  replace y2b := hC.cell y2b
  replace y3a := hC.cell y3a
  replace y3b := hC.cell y3b
  replace y4a := hC.cell y4a
  replace y4b := hC.cell y4b
  replace o0 := o0.ext hC
  replace o1 := o1.ext hC
  replace o2 := o2.ext hC
  replace o3 := o3.ext hC
  replace o4 := o4.ext hC
  replace hE := hE.tr hC
  clear hC
  have q92 : w.heap.size < w17.heap.size := lt_of_cell x0a
  have q93 : w.heap.size + 1 < w17.heap.size := lt_of_cell x1a
  have q94 : bo0 < w17.heap.size := lt_of_cell y0a
  have q95 : w3.heap.size < w17.heap.size := lt_of_cell y1a
  have q96 : w4.heap.size < w17.heap.size := lt_of_cell y2a
  have q97 : w5.heap.size < w17.heap.size := lt_of_cell y3a
  have q98 : bo4 < w17.heap.size := lt_of_cell y4a
  go_wp2_with fail
  go_ret
  exact ⟨rfl, hE⟩

set_option maxRecDepth 100000 in
theorem lifted (os : Os) (started : os.Started) (H : Type) (enc : TypeId × Value → H) :
    ReturnsInHanded {} Try.checked os 13 .any (Rows.fnExactComposeRelsSpec.pre6 enc Try.prog Try.f13 Rows.fnExactComposeRelsRow.domain false) (Rows.fnExactComposeRelsSpec.post enc Try.prog Try.f13 false true false false) := by
  refine returnsInHanded_of_change (C := Try.checked) own_knob started (by kernel_rfl) Try.func13
    (ChangeSpec.witness6 (enc := enc) (C := Try.checked) false ⟨#[], #[.int .i64 0, .agg #[.int .i64 0, .slice none 0 0], .agg #[.int .i64 0, .slice none 0 0]], []⟩ 8 (by kernel_rfl) (by kernel_rfl) (by kernel_rfl) (by kernel_rfl)) ?_
  intro W base args ds gs before hval0 hW hcnd _
  have hval : ∀ (j : Nat) t v, Try.f13.params[j]? = some t → args[j]? = some v → Value.okWide Try.prog W .any base t v := hval0
  have hW' := hW
  obtain ⟨p, q, hA0, hV, rfl, hfz, hnd⟩ := hW
  have hA : DataW.TrodAll enc Try.prog W 0 (fun _ => true) true Try.f13.params.toList args.toList ds p := hA0
  rw [Try.params13] at hA hval
  obtain ⟨v0, v1, v2, d0, d1, d2, p0, p1, p2, rfl, rfl, rfl, k0, k1, k2⟩ := trodAll_three hA
  obtain ⟨rfl, rfl⟩ := trodVars_none hV
  clear hA0 hval0
  simp only [List.append_nil] at hW'
  obtain ⟨e0, rfl, lo0, hi0⟩ := int_of k0 (hval 0 _ _ rfl rfl)
  obtain ⟨e1, h1⟩ := dRel_of k1 (hval 1 _ _ rfl rfl)
  obtain ⟨e2, h2⟩ := dRel_of k2 (hval 2 _ _ rfl rfl)
  refine (walk e0 e1 _ e2 _ W h1 h2 lo0 hi0).mono fun e W' ⟨he, hE⟩ => ?_
  subst he
  exact ⟨_, rfl, law_post rfl rfl (by kernel_rfl) hW' hE rfl rfl rfl⟩

theorem proved : Rows.FnExactComposeRelsSaid :=
  OpenClaim.holds_of_wide 13 Try.f13 rfl rfl rfl rfl rfl rfl rfl ⟨rfl, rfl, rfl, rfl, rfl⟩ rfl rfl rfl rfl rfl (by kernel_rfl) Try.func13 (by kernel_rfl)
    (of_decide_eq_true (by kernel_rfl)) (by unfold Func.isWrapper; first | (rw [if_pos (by decide +kernel)]; kernel_rfl) | (rw [if_neg (by decide +kernel)]; exact ⟨rfl, rfl⟩))
    (fun os started H enc _ => lifted os started H enc)
end Go.Proofs.Ytohpjamngpphnaa.fnExactComposeRels
