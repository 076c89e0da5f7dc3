
/- FnExactCoreOf returns true, whatever the input, and writes nothing that was there. Conditions: none. -/
import Derived.Test.YtefnmfdmnoednaaLift
import Derived.Test.YtefnmfdmnoednaaTmL
import Derived.Test.YtefnmfdmnoednaaIIL
import Derived.Test.YtefnmfdmnoednaaCoreS
namespace Go.Proofs.Ytefnmfdmnoednaa.fnExactCoreOf
open Go.ChangeShapes Go.WideShapes Go.ChangeAt Go.RowKit
set_option linter.unusedVariables false

set_option maxHeartbeats 4000000 in
set_option maxRecDepth 100000 in
theorem walk (d0 : Int × List (Int × List (List Int))) (v0 : Value) (w : World) (h0 : RdTm w v0 d0) :
    Calls Try.prog 8 #[v0] w fun e w' => e = .returned (.bool true) ∧ Ext w w' := by
  obtain ⟨tv0, rfl⟩ := h0.form
  have hE : Ext w (w.alloc (.cells #[.int .i64 d0.1, tv0] 59)) := ((Ext.refl' w).alloc (Nat.le_refl _) _)
  by_cases z0 : szL 1048576 (szTm d0) < 0
  · go_enter Try.func8, Try.ntmps8
    go_wp2_with fail
    refine (szTemplate_any d0 _ _ _ (h0.ext hE) (by omega) (by omega)).mono ?_
    rintro e s1 ⟨rfl, hS⟩
    have x0a := hS.cell (p := ⟨w.heap.size, 0, none⟩) (v := .int .i64 d0.1) (by simp [go_sem])
    have x0b := hS.cell (p := ⟨w.heap.size, 1, none⟩) (v := tv0) (by simp [go_sem])
    replace hE := hE.tr hS
    clear hS
    go_wp2_with fail
    go_ret
    exact ⟨rfl, hE⟩
  obtain ⟨za0, zb0, zc0⟩ := szL_le z0
  have hmk0 := mkTm_le d0
  go_enter Try.func8, Try.ntmps8
  go_wp2_with fail
  refine (szTemplate_any d0 _ _ _ (h0.ext hE) (by omega) (by omega)).mono ?_
  rintro e s1 ⟨rfl, hS⟩
  have x0a := hS.cell (p := ⟨w.heap.size, 0, none⟩) (v := .int .i64 d0.1) (by simp [go_sem])
  have x0b := hS.cell (p := ⟨w.heap.size, 1, none⟩) (v := tv0) (by simp [go_sem])
  replace hE := hE.tr hS
  clear hS
  go_wp2_with fail
  refine (toTemplate_any d0 _ _ (h0.ext hE) (by omega)).mono ?_
  rintro e w1 ⟨uo0, fp0, rfl, hC, o0, lo_o0⟩
  have q0 : s1.heap.size ≤ w1.heap.size := hC.size
  replace x0a := hC.cell x0a
  replace x0b := hC.cell x0b
  replace hE := hE.tr hC
  clear hC
  have q1 : w.heap.size < w1.heap.size := lt_of_cell x0a
  replace lo_o0 : ∀ g ∈ fp0, s1.heap.size + 0 ≤ g := fun g hg => by have := lo_o0 g hg; (try simp only [World.size_alloc] at this); omega
  have hi_o0 := o0.lt
  obtain ⟨ao0, co0, rfl⟩ := o0.form
  go_wp2_with fail
  refine (specCoreOf_any d0 _ _ o0.rd (by omega)).mono ?_
  rintro e w2 ⟨u1, fp1, u2, fp2, rfl, hC, o1, lo_o1, o2, lo_o2, dj_o1, bd_o1, bd_o2⟩
  have q2 : w1.heap.size ≤ w2.heap.size := hC.size
  replace x0a := hC.cell x0a
  replace x0b := hC.cell x0b
  replace o0 := o0.ext hC
  replace hE := hE.tr hC
  clear hC
  have q3 : w.heap.size < w2.heap.size := lt_of_cell x0a
  replace lo_o1 : ∀ g ∈ fp1, w1.heap.size + 0 ≤ g := fun g hg => by have := lo_o1 g hg; (try simp only [World.size_alloc] at this); omega
  replace lo_o2 : ∀ g ∈ fp2, w1.heap.size + 0 ≤ g := fun g hg => by have := lo_o2 g hg; (try simp only [World.size_alloc] at this); omega
  have hi_o1 := o1.lt
  obtain ⟨ao1, co1, rfl⟩ := o1.form
  have hi_o2 := o2.lt
  obtain ⟨ao2, co2, rfl⟩ := o2.form
  go_wp2_with fail
  have hP : Ext w2 (w2.alloc (.cells #[.int .i64 (SCoreOf d0).1.1, .slice ao1 (SCoreOf d0).1.2.length co1] 63)) := ((Ext.refl' w2).alloc (Nat.le_refl _) _)
  refine (toTemplate_any d0 _ _ (h0.ext (hE.tr hP)) (by omega)).mono ?_
  rintro e w3 ⟨uo3, fp3, rfl, hC, o3, lo_o3⟩
  have y0a := hC.cell (p := ⟨w2.heap.size, 0, none⟩) (v := .int .i64 (SCoreOf d0).1.1) (by simp [go_sem])
  have y0b := hC.cell (p := ⟨w2.heap.size, 1, none⟩) (v := .slice ao1 (SCoreOf d0).1.2.length co1) (by simp [go_sem])
  replace hC := hP.tr hC
  clear hP
  have q4 : w2.heap.size ≤ w3.heap.size := hC.size
  replace x0a := hC.cell x0a
  replace x0b := hC.cell x0b
  replace o0 := o0.ext hC
  replace o1 := o1.ext hC
  replace o2 := o2.ext hC
  replace hE := hE.tr hC
  clear hC
  have q5 : w.heap.size < w3.heap.size := lt_of_cell x0a
  have q6 : w2.heap.size < w3.heap.size := lt_of_cell y0a
  replace lo_o3 : ∀ g ∈ fp3, w2.heap.size + 1 ≤ g := fun g hg => by have := lo_o3 g hg; (try simp only [World.size_alloc] at this); omega
  have hi_o3 := o3.lt
  obtain ⟨ao3, co3, rfl⟩ := o3.form
  go_wp2_with fail
  have hP : Ext w3 (w3.alloc (.cells #[.int .i64 d0.1, .slice ao3 d0.2.length co3] 63)) := ((Ext.refl' w3).alloc (Nat.le_refl _) _)
  refine (implCoreOf_any d0 _ _ (o3.ext hP).rd (by omega)).mono ?_
  rintro e w4 ⟨u4, fp4, u5, fp5, rfl, hC, o4, lo_o4, o5, lo_o5, dj_o4, bd_o4, bd_o5⟩
  have y1a := hC.cell (p := ⟨w3.heap.size, 0, none⟩) (v := .int .i64 d0.1) (by simp [go_sem])
  have y1b := hC.cell (p := ⟨w3.heap.size, 1, none⟩) (v := .slice ao3 d0.2.length co3) (by simp [go_sem])
  replace hC := hP.tr hC
  clear hP
  have q7 : w3.heap.size ≤ w4.heap.size := hC.size
  replace x0a := hC.cell x0a
  replace x0b := hC.cell x0b
  replace y0a := hC.cell y0a
  replace y0b := hC.cell y0b
  replace o0 := o0.ext hC
  replace o1 := o1.ext hC
  replace o2 := o2.ext hC
  replace o3 := o3.ext hC
  replace hE := hE.tr hC
  clear hC
  have q8 : w.heap.size < w4.heap.size := lt_of_cell x0a
  have q9 : w2.heap.size < w4.heap.size := lt_of_cell y0a
  have q10 : w3.heap.size < w4.heap.size := lt_of_cell y1a
  replace lo_o4 : ∀ g ∈ fp4, w3.heap.size + 1 ≤ g := fun g hg => by have := lo_o4 g hg; (try simp only [World.size_alloc] at this); omega
  replace lo_o5 : ∀ g ∈ fp5, w3.heap.size + 1 ≤ g := fun g hg => by have := lo_o5 g hg; (try simp only [World.size_alloc] at this); omega
  have hi_o4 := o4.lt
  obtain ⟨ao4, co4, rfl⟩ := o4.form
  have hi_o5 := o5.lt
  obtain ⟨ao5, co5, rfl⟩ := o5.form
  go_wp2_with fail
  have hP : Ext w4 (w4.alloc (.cells #[.int .i64 (SCoreOf d0).1.1, .slice ao4 (SCoreOf d0).1.2.length co4] 63)) := ((Ext.refl' w4).alloc (Nat.le_refl _) _)
  refine (eqTemplate_any (SCoreOf d0).1 (SCoreOf d0).1 _ _ _ (o4.ext hP).rd (o1.ext hP).rd).mono ?_
  rintro e w5 ⟨rfl, hC⟩
  have y2a := hC.cell (p := ⟨w4.heap.size, 0, none⟩) (v := .int .i64 (SCoreOf d0).1.1) (by simp [go_sem])
  have y2b := hC.cell (p := ⟨w4.heap.size, 1, none⟩) (v := .slice ao4 (SCoreOf d0).1.2.length co4) (by simp [go_sem])
  replace hC := hP.tr hC
  clear hP
  have q11 : w4.heap.size ≤ w5.heap.size := hC.size
  replace x0a := hC.cell x0a
  replace x0b := hC.cell x0b
  replace y0a := hC.cell y0a
  replace y0b := hC.cell y0b
  replace y1a := hC.cell y1a
  replace y1b := hC.cell y1b
  replace o0 := o0.ext hC
  replace o1 := o1.ext hC
  replace o2 := o2.ext hC
  replace o3 := o3.ext hC
  replace o4 := o4.ext hC
  replace o5 := o5.ext hC
  replace hE := hE.tr hC
  clear hC
  have q12 : w.heap.size < w5.heap.size := lt_of_cell x0a
  have q13 : w2.heap.size < w5.heap.size := lt_of_cell y0a
  have q14 : w3.heap.size < w5.heap.size := lt_of_cell y1a
  have q15 : w4.heap.size < w5.heap.size := lt_of_cell y2a
  go_wp2_with fail
  refine (eqInt64S_any (SCoreOf d0).2.1 (SCoreOf d0).2.1 _ _ _ o5.rd o2.rd).mono ?_
  rintro e w6 ⟨rfl, hC⟩
  have q16 : w5.heap.size ≤ w6.heap.size := hC.size
  replace x0a := hC.cell x0a
  replace x0b := hC.cell x0b
  replace y0a := hC.cell y0a
  replace y0b := hC.cell y0b
  replace y1a := hC.cell y1a
  replace y1b := hC.cell y1b
  replace y2a := hC.cell y2a
  replace y2b := hC.cell y2b
  replace o0 := o0.ext hC
  replace o1 := o1.ext hC
  replace o2 := o2.ext hC
  replace o3 := o3.ext hC
  replace o4 := o4.ext hC
  replace o5 := o5.ext hC
  replace hE := hE.tr hC
  clear hC
  have q17 : w.heap.size < w6.heap.size := lt_of_cell x0a
  have q18 : w2.heap.size < w6.heap.size := lt_of_cell y0a
  have q19 : w3.heap.size < w6.heap.size := lt_of_cell y1a
  have q20 : w4.heap.size < w6.heap.size := lt_of_cell y2a
  go_wp2_with fail
  refine region_sp [] [] [SP.val (.agg #[.int .i64 d0.1, .slice ao3 d0.2.length co3]), SP.val (.agg #[.int .i64 d0.1, tv0]), SP.ownTm d0, SP.val (.bool true), SP.val (.bool false)] (by kernel_rfl) (fun _ d _ _ _ h => by cases d <;> exact h) (by kernel_rfl) (by kernel_rfl)
    (.cons (fun vs y hY => Step.load ⟨w3.heap.size, 0, none⟩ rfl rfl rfl (by simp [go_sem, hY.cell y1a, hY.cell y1b]) rfl) <|
     .cons (fun vs y hY => Step.load ⟨w.heap.size, 0, none⟩ rfl rfl rfl (by simp [go_sem, hY.cell x0a, hY.cell x0b]) rfl) <|
     .cons (fun vs y hY g1_0 => Step.call Try.call39 rfl rfl [vs 1] rfl rfl ((toTemplate_any d0 _ _ (by rw [show vs 1 = _ from g1_0]; exact h0.ext (hE.tr hY)) (by omega)).mono fun _ _ ⟨u, fp, he, hE, ho, _⟩ => ⟨u, he, hE, fp, ho⟩)) <|
     .cons (fun vs y hY g0_0 g2_1 g2_2 => Step.call Try.call41 rfl rfl [vs 0, vs 2] rfl rfl ((eqTemplate_any d0 d0 _ _ _ (by rw [show vs 0 = _ from g0_0]; exact (o3.ext hY).rd) (rdTm_of_sp g2_1)).mono fun _ _ ⟨he, hE⟩ => ⟨_, he, hE, by simp; rfl⟩)) <|
     .cons (fun vs y hY g3_0 => Step.not rfl rfl g3_0 rfl) <|
     .nil) ?_
  intro vs w7 hC hL
  have r0 : vs 0 = _ := hL 0 (by decide) rfl
  have r1 : vs 1 = _ := hL 1 (by decide) rfl
  have r3 : vs 3 = _ := hL 3 (by decide) rfl
  have r4 : vs 4 = _ := hL 4 (by decide) rfl
  clear hL
  simp only [putAll, Act.put, List.contains_nil, cond_false, List.setIfInBounds_toArray, List.set_cons_succ, List.set_cons_zero, List.filterMap_nil, r0, r1, r3, r4]
  clear r0 r1 r3 r4
  have q21 : w6.heap.size ≤ w7.heap.size := hC.size
  replace x0a := hC.cell x0a
  replace x0b := hC.cell x0b
  replace y0a := hC.cell y0a
  replace y0b := hC.cell y0b
  replace y1a := hC.cell y1a
  replace y1b := hC.cell y1b
  replace y2a := hC.cell y2a
  replace y2b := hC.cell y2b
  replace o0 := o0.ext hC
  replace o1 := o1.ext hC
  replace o2 := o2.ext hC
  replace o3 := o3.ext hC
  replace o4 := o4.ext hC
  replace o5 := o5.ext hC
  replace hE := hE.tr hC
  clear hC
  have q22 : w.heap.size < w7.heap.size := lt_of_cell x0a
  have q23 : w2.heap.size < w7.heap.size := lt_of_cell y0a
  have q24 : w3.heap.size < w7.heap.size := lt_of_cell y1a
  have q25 : w4.heap.size < w7.heap.size := lt_of_cell y2a
  go_wp2_with fail
  refine (markTemplate_any d0 _ fp3 (1) _ o3 (by omega) (by omega)).mono ?_
  rintro e w8 ⟨rfl, hO, o3'⟩
  replace x0a := hO.cell x0a (by intro hm; have := lo_o3 _ hm; have := hi_o3 _ hm; dsimp only at *; omega)
  replace x0b := hO.cell x0b (by intro hm; have := lo_o3 _ hm; have := hi_o3 _ hm; dsimp only at *; omega)
  replace y0a := hO.cell y0a (by intro hm; have := lo_o3 _ hm; have := hi_o3 _ hm; dsimp only at *; omega)
  replace y0b := hO.cell y0b (by intro hm; have := lo_o3 _ hm; have := hi_o3 _ hm; dsimp only at *; omega)
  replace y1a := hO.cell y1a (by intro hm; have := lo_o3 _ hm; have := hi_o3 _ hm; dsimp only at *; omega)
  replace y1b := hO.cell y1b (by intro hm; have := lo_o3 _ hm; have := hi_o3 _ hm; dsimp only at *; omega)
  replace y2a := hO.cell y2a (by intro hm; have := lo_o3 _ hm; have := hi_o3 _ hm; dsimp only at *; omega)
  replace y2b := hO.cell y2b (by intro hm; have := lo_o3 _ hm; have := hi_o3 _ hm; dsimp only at *; omega)
  replace o0 := o0.off hO (by intro g hg hm; have := lo_o3 _ hm; have := hi_o3 _ hm; have := lo_o0 _ hg; have := hi_o0 _ hg; omega)
  replace o1 := o1.off hO (by intro g hg hm; have := lo_o3 _ hm; have := hi_o3 _ hm; have := lo_o1 _ hg; have := hi_o1 _ hg; omega)
  replace o2 := o2.off hO (by intro g hg hm; have := lo_o3 _ hm; have := hi_o3 _ hm; have := lo_o2 _ hg; have := hi_o2 _ hg; omega)
  replace o4 := o4.off hO (by intro g hg hm; have := lo_o3 _ hm; have := hi_o3 _ hm; have := lo_o4 _ hg; have := hi_o4 _ hg; omega)
  replace o5 := o5.off hO (by intro g hg hm; have := lo_o3 _ hm; have := hi_o3 _ hm; have := lo_o5 _ hg; have := hi_o5 _ hg; omega)
  replace hE : Ext w w8 := Below.trans hE (hO.below hE.size (fun g hg => by have := lo_o3 g hg; have := hE.size; omega))
  have q26 : w7.heap.size ≤ w8.heap.size := hO.size
  clear o3 hO
  have o3 := o3'
  clear o3'
  go_wp2_with fail
  refine (eqTemplate_any (SCoreOf d0).1 (SCoreOf d0).1 _ _ _ o4.rd o1.rd).mono ?_
  rintro e w9 ⟨rfl, hC⟩
  have q27 : w8.heap.size ≤ w9.heap.size := hC.size
  replace x0a := hC.cell x0a
  replace x0b := hC.cell x0b
  replace y0a := hC.cell y0a
  replace y0b := hC.cell y0b
  replace y1a := hC.cell y1a
  replace y1b := hC.cell y1b
  replace y2a := hC.cell y2a
  replace y2b := hC.cell y2b
  replace o0 := o0.ext hC
  replace o1 := o1.ext hC
  replace o2 := o2.ext hC
  replace o3 := o3.ext hC
  replace o4 := o4.ext hC
  replace o5 := o5.ext hC
  replace hE := hE.tr hC
  clear hC
  have q28 : w.heap.size < w9.heap.size := lt_of_cell x0a
  have q29 : w2.heap.size < w9.heap.size := lt_of_cell y0a
  have q30 : w3.heap.size < w9.heap.size := lt_of_cell y1a
  have q31 : w4.heap.size < w9.heap.size := lt_of_cell y2a
  go_wp2_with fail
  refine (eqInt64S_any (SCoreOf d0).2.1 (SCoreOf d0).2.1 _ _ _ o5.rd o2.rd).mono ?_
  rintro e w10 ⟨rfl, hC⟩
  have q32 : w9.heap.size ≤ w10.heap.size := hC.size
  replace x0a := hC.cell x0a
  replace x0b := hC.cell x0b
  replace y0a := hC.cell y0a
  replace y0b := hC.cell y0b
  replace y1a := hC.cell y1a
  replace y1b := hC.cell y1b
  replace y2a := hC.cell y2a
  replace y2b := hC.cell y2b
  replace o0 := o0.ext hC
  replace o1 := o1.ext hC
  replace o2 := o2.ext hC
  replace o3 := o3.ext hC
  replace o4 := o4.ext hC
  replace o5 := o5.ext hC
  replace hE := hE.tr hC
  clear hC
  have q33 : w.heap.size < w10.heap.size := lt_of_cell x0a
  have q34 : w2.heap.size < w10.heap.size := lt_of_cell y0a
  have q35 : w3.heap.size < w10.heap.size := lt_of_cell y1a
  have q36 : w4.heap.size < w10.heap.size := lt_of_cell y2a
  go_wp2_with fail
  refine (markTemplate_any (SCoreOf d0).1 _ fp4 (1) _ o4 (by omega) (by omega)).mono ?_
  rintro e w11 ⟨rfl, hO, o4'⟩
  replace x0a := hO.cell x0a (by intro hm; have := lo_o4 _ hm; have := hi_o4 _ hm; dsimp only at *; omega)
  replace x0b := hO.cell x0b (by intro hm; have := lo_o4 _ hm; have := hi_o4 _ hm; dsimp only at *; omega)
  replace y0a := hO.cell y0a (by intro hm; have := lo_o4 _ hm; have := hi_o4 _ hm; dsimp only at *; omega)
  replace y0b := hO.cell y0b (by intro hm; have := lo_o4 _ hm; have := hi_o4 _ hm; dsimp only at *; omega)
  replace y1a := hO.cell y1a (by intro hm; have := lo_o4 _ hm; have := hi_o4 _ hm; dsimp only at *; omega)
  replace y1b := hO.cell y1b (by intro hm; have := lo_o4 _ hm; have := hi_o4 _ hm; dsimp only at *; omega)
  replace y2a := hO.cell y2a (by intro hm; have := lo_o4 _ hm; have := hi_o4 _ hm; dsimp only at *; omega)
  replace y2b := hO.cell y2b (by intro hm; have := lo_o4 _ hm; have := hi_o4 _ hm; dsimp only at *; omega)
  replace o0 := o0.off hO (by intro g hg hm; have := lo_o4 _ hm; have := hi_o4 _ hm; have := lo_o0 _ hg; have := hi_o0 _ hg; omega)
  replace o1 := o1.off hO (by intro g hg hm; have := lo_o4 _ hm; have := hi_o4 _ hm; have := lo_o1 _ hg; have := hi_o1 _ hg; omega)
  replace o2 := o2.off hO (by intro g hg hm; have := lo_o4 _ hm; have := hi_o4 _ hm; have := lo_o2 _ hg; have := hi_o2 _ hg; omega)
  replace o3 := o3.off hO (by intro g hg hm; have := lo_o4 _ hm; have := hi_o4 _ hm; have := lo_o3 _ hg; have := hi_o3 _ hg; omega)
  replace o5 := o5.off hO (by intro g hg hm; have := lo_o4 _ hm; have := hi_o4 _ hm; have := lo_o5 _ hg; have := hi_o5 _ hg; first | omega | exact (dj_o4 _ hm hg))
  replace hE : Ext w w11 := Below.trans hE (hO.below hE.size (fun g hg => by have := lo_o4 g hg; have := hE.size; omega))
  have q37 : w10.heap.size ≤ w11.heap.size := hO.size
  clear o4 hO
  have o4 := o4'
  clear o4'
  go_wp2_with fail
  refine (markInt64S_any (SCoreOf d0).2.1 _ fp5 (1 + (mkTm (SCoreOf d0).1 : Int)) _ o5 (by omega) (by omega)).mono ?_
  rintro e w12 ⟨rfl, hO, o5'⟩
  replace x0a := hO.cell x0a (by intro hm; have := lo_o5 _ hm; have := hi_o5 _ hm; dsimp only at *; omega)
  replace x0b := hO.cell x0b (by intro hm; have := lo_o5 _ hm; have := hi_o5 _ hm; dsimp only at *; omega)
  replace y0a := hO.cell y0a (by intro hm; have := lo_o5 _ hm; have := hi_o5 _ hm; dsimp only at *; omega)
  replace y0b := hO.cell y0b (by intro hm; have := lo_o5 _ hm; have := hi_o5 _ hm; dsimp only at *; omega)
  replace y1a := hO.cell y1a (by intro hm; have := lo_o5 _ hm; have := hi_o5 _ hm; dsimp only at *; omega)
  replace y1b := hO.cell y1b (by intro hm; have := lo_o5 _ hm; have := hi_o5 _ hm; dsimp only at *; omega)
  replace y2a := hO.cell y2a (by intro hm; have := lo_o5 _ hm; have := hi_o5 _ hm; dsimp only at *; omega)
  replace y2b := hO.cell y2b (by intro hm; have := lo_o5 _ hm; have := hi_o5 _ hm; dsimp only at *; omega)
  replace o0 := o0.off hO (by intro g hg hm; have := lo_o5 _ hm; have := hi_o5 _ hm; have := lo_o0 _ hg; have := hi_o0 _ hg; omega)
  replace o1 := o1.off hO (by intro g hg hm; have := lo_o5 _ hm; have := hi_o5 _ hm; have := lo_o1 _ hg; have := hi_o1 _ hg; omega)
  replace o2 := o2.off hO (by intro g hg hm; have := lo_o5 _ hm; have := hi_o5 _ hm; have := lo_o2 _ hg; have := hi_o2 _ hg; omega)
  replace o3 := o3.off hO (by intro g hg hm; have := lo_o5 _ hm; have := hi_o5 _ hm; have := lo_o3 _ hg; have := hi_o3 _ hg; omega)
  replace o4 := o4.off hO (by intro g hg hm; have := lo_o5 _ hm; have := hi_o5 _ hm; have := lo_o4 _ hg; have := hi_o4 _ hg; first | omega | exact (dj_o4 _ hg hm))
  replace hE : Ext w w12 := Below.trans hE (hO.below hE.size (fun g hg => by have := lo_o5 g hg; have := hE.size; omega))
  have q38 : w11.heap.size ≤ w12.heap.size := hO.size
  clear o5 hO
  have o5 := o5'
  clear o5'
  go_wp2_with fail
  have hh : heldTm (marksTm (1) (SCoreOf d0).1) (1) = 1 + (mkTm (SCoreOf d0).1 : Int) := heldTm_marks _ _ (by omega)
  have HH := Lib.hid hh
  clear hh
  refine (heldTemplate_any (marksTm (1) (SCoreOf d0).1) _ (1) _ o4.rd (by omega) (by rw [mkTm_marks]; omega)).mono ?_
  rintro e w13 ⟨rfl, hC⟩
  rw [HH.out]
  clear HH
  have q39 : w12.heap.size ≤ w13.heap.size := hC.size
  replace x0a := hC.cell x0a
  replace x0b := hC.cell x0b
  replace y0a := hC.cell y0a
  replace y0b := hC.cell y0b
  replace y1a := hC.cell y1a
  replace y1b := hC.cell y1b
  replace y2a := hC.cell y2a
  replace y2b := hC.cell y2b
  replace o0 := o0.ext hC
  replace o1 := o1.ext hC
  replace o2 := o2.ext hC
  replace o3 := o3.ext hC
  replace o4 := o4.ext hC
  replace o5 := o5.ext hC
  replace hE := hE.tr hC
  clear hC
  have q40 : w.heap.size < w13.heap.size := lt_of_cell x0a
  have q41 : w2.heap.size < w13.heap.size := lt_of_cell y0a
  have q42 : w3.heap.size < w13.heap.size := lt_of_cell y1a
  have q43 : w4.heap.size < w13.heap.size := lt_of_cell y2a
  go_wp2_with fail
  have hh : heldI (marksI (1 + (mkTm (SCoreOf d0).1 : Int)) (SCoreOf d0).2.1.length) (1 + (mkTm (SCoreOf d0).1 : Int)) = 1 + (mkTm (SCoreOf d0).1 : Int) + (List.length (SCoreOf d0).2.1 : Int) := heldI_marks _ _
  have HH := Lib.hid hh
  clear hh
  refine (heldInt64S_any (marksI (1 + (mkTm (SCoreOf d0).1 : Int)) (SCoreOf d0).2.1.length) _ (1 + (mkTm (SCoreOf d0).1 : Int)) _ o5.rd (by omega) (by rw [marksI_length]; omega)).mono ?_
  rintro e w14 ⟨rfl, hC⟩
  rw [HH.out]
  clear HH
  have q44 : w13.heap.size ≤ w14.heap.size := hC.size
  replace x0a := hC.cell x0a
  replace x0b := hC.cell x0b
  replace y0a := hC.cell y0a
  replace y0b := hC.cell y0b
  replace y1a := hC.cell y1a
  replace y1b := hC.cell y1b
  replace y2a := hC.cell y2a
  replace y2b := hC.cell y2b
  replace o0 := o0.ext hC
  replace o1 := o1.ext hC
  replace o2 := o2.ext hC
  replace o3 := o3.ext hC
  replace o4 := o4.ext hC
  replace o5 := o5.ext hC
  replace hE := hE.tr hC
  clear hC
  have q45 : w.heap.size < w14.heap.size := lt_of_cell x0a
  have q46 : w2.heap.size < w14.heap.size := lt_of_cell y0a
  have q47 : w3.heap.size < w14.heap.size := lt_of_cell y1a
  have q48 : w4.heap.size < w14.heap.size := lt_of_cell y2a
  go_wp2_with fail
  refine (toTemplate_any d0 _ _ (h0.ext hE) (by omega)).mono ?_
  rintro e w15 ⟨uo6, fp6, rfl, hC, o6, lo_o6⟩
  have q49 : w14.heap.size ≤ w15.heap.size := hC.size
  replace x0a := hC.cell x0a
  replace x0b := hC.cell x0b
  replace y0a := hC.cell y0a
  replace y0b := hC.cell y0b
  replace y1a := hC.cell y1a
  replace y1b := hC.cell y1b
  replace y2a := hC.cell y2a
  replace y2b := hC.cell y2b
  replace o0 := o0.ext hC
  replace o1 := o1.ext hC
  replace o2 := o2.ext hC
  replace o3 := o3.ext hC
  replace o4 := o4.ext hC
  replace o5 := o5.ext hC
  replace hE := hE.tr hC
  clear hC
  have q50 : w.heap.size < w15.heap.size := lt_of_cell x0a
  have q51 : w2.heap.size < w15.heap.size := lt_of_cell y0a
  have q52 : w3.heap.size < w15.heap.size := lt_of_cell y1a
  have q53 : w4.heap.size < w15.heap.size := lt_of_cell y2a
  replace lo_o6 : ∀ g ∈ fp6, w14.heap.size + 0 ≤ g := fun g hg => by have := lo_o6 g hg; (try simp only [World.size_alloc] at this); omega
  have hi_o6 := o6.lt
  obtain ⟨ao6, co6, rfl⟩ := o6.form
  go_wp2_with fail
  refine (implCoreOf_any d0 _ _ o6.rd (by omega)).mono ?_
  rintro e w16 ⟨u7, fp7, u8, fp8, rfl, hC, o7, lo_o7, o8, lo_o8, dj_o7, bd_o7, bd_o8⟩
  have q54 : w15.heap.size ≤ w16.heap.size := hC.size
  replace x0a := hC.cell x0a
  replace x0b := hC.cell x0b
  replace y0a := hC.cell y0a
  replace y0b := hC.cell y0b
  replace y1a := hC.cell y1a
  replace y1b := hC.cell y1b
  replace y2a := hC.cell y2a
  replace y2b := hC.cell y2b
  replace o0 := o0.ext hC
  replace o1 := o1.ext hC
  replace o2 := o2.ext hC
  replace o3 := o3.ext hC
  replace o4 := o4.ext hC
  replace o5 := o5.ext hC
  replace o6 := o6.ext hC
  replace hE := hE.tr hC
  clear hC
  have q55 : w.heap.size < w16.heap.size := lt_of_cell x0a
  have q56 : w2.heap.size < w16.heap.size := lt_of_cell y0a
  have q57 : w3.heap.size < w16.heap.size := lt_of_cell y1a
  have q58 : w4.heap.size < w16.heap.size := lt_of_cell y2a
  replace lo_o7 : ∀ g ∈ fp7, w15.heap.size + 0 ≤ g := fun g hg => by have := lo_o7 g hg; (try simp only [World.size_alloc] at this); omega
  replace lo_o8 : ∀ g ∈ fp8, w15.heap.size + 0 ≤ g := fun g hg => by have := lo_o8 g hg; (try simp only [World.size_alloc] at this); omega
  have hi_o7 := o7.lt
  obtain ⟨ao7, co7, rfl⟩ := o7.form
  have hi_o8 := o8.lt
  obtain ⟨ao8, co8, rfl⟩ := o8.form
  go_wp2_with fail
  have hP : Ext w16 (w16.alloc (.cells #[.int .i64 (SCoreOf d0).1.1, .slice ao7 (SCoreOf d0).1.2.length co7] 63)) := ((Ext.refl' w16).alloc (Nat.le_refl _) _)
  refine (eqTemplate_any (SCoreOf d0).1 (SCoreOf d0).1 _ _ _ (o7.ext hP).rd (o1.ext hP).rd).mono ?_
  rintro e w17 ⟨rfl, hC⟩
  have y3a := hC.cell (p := ⟨w16.heap.size, 0, none⟩) (v := .int .i64 (SCoreOf d0).1.1) (by simp [go_sem])
  have y3b := hC.cell (p := ⟨w16.heap.size, 1, none⟩) (v := .slice ao7 (SCoreOf d0).1.2.length co7) (by simp [go_sem])
  replace hC := hP.tr hC
  clear hP
  have q59 : w16.heap.size ≤ w17.heap.size := hC.size
  replace x0a := hC.cell x0a
  replace x0b := hC.cell x0b
  replace y0a := hC.cell y0a
  replace y0b := hC.cell y0b
  replace y1a := hC.cell y1a
  replace y1b := hC.cell y1b
  replace y2a := hC.cell y2a
  replace y2b := hC.cell y2b
  replace o0 := o0.ext hC
  replace o1 := o1.ext hC
  replace o2 := o2.ext hC
  replace o3 := o3.ext hC
  replace o4 := o4.ext hC
  replace o5 := o5.ext hC
  replace o6 := o6.ext hC
  replace o7 := o7.ext hC
  replace o8 := o8.ext hC
  replace hE := hE.tr hC
  clear hC
  have q60 : w.heap.size < w17.heap.size := lt_of_cell x0a
  have q61 : w2.heap.size < w17.heap.size := lt_of_cell y0a
  have q62 : w3.heap.size < w17.heap.size := lt_of_cell y1a
  have q63 : w4.heap.size < w17.heap.size := lt_of_cell y2a
  have q64 : w16.heap.size < w17.heap.size := lt_of_cell y3a
  go_wp2_with fail
  refine (eqInt64S_any (SCoreOf d0).2.1 (SCoreOf d0).2.1 _ _ _ o8.rd o2.rd).mono ?_
  rintro e w18 ⟨rfl, hC⟩
  have q65 : w17.heap.size ≤ w18.heap.size := hC.size
  replace x0a := hC.cell x0a
  replace x0b := hC.cell x0b
  replace y0a := hC.cell y0a
  replace y0b := hC.cell y0b
  replace y1a := hC.cell y1a
  replace y1b := hC.cell y1b
  replace y2a := hC.cell y2a
  replace y2b := hC.cell y2b
  replace y3a := hC.cell y3a
  replace y3b := hC.cell y3b
  replace o0 := o0.ext hC
  replace o1 := o1.ext hC
  replace o2 := o2.ext hC
  replace o3 := o3.ext hC
  replace o4 := o4.ext hC
  replace o5 := o5.ext hC
  replace o6 := o6.ext hC
  replace o7 := o7.ext hC
  replace o8 := o8.ext hC
  replace hE := hE.tr hC
  clear hC
  have q66 : w.heap.size < w18.heap.size := lt_of_cell x0a
  have q67 : w2.heap.size < w18.heap.size := lt_of_cell y0a
  have q68 : w3.heap.size < w18.heap.size := lt_of_cell y1a
  have q69 : w4.heap.size < w18.heap.size := lt_of_cell y2a
  have q70 : w16.heap.size < w18.heap.size := lt_of_cell y3a
  go_wp2_with fail
  have hh : heldTm (marksTm (1) (SCoreOf d0).1) (1) = 1 + (mkTm (SCoreOf d0).1 : Int) := heldTm_marks _ _ (by omega)
  have HH := Lib.hid hh
  clear hh
  refine (heldTemplate_any (marksTm (1) (SCoreOf d0).1) _ (1) _ o4.rd (by omega) (by rw [mkTm_marks]; omega)).mono ?_
  rintro e w19 ⟨rfl, hC⟩
  rw [HH.out]
  clear HH
  have q71 : w18.heap.size ≤ w19.heap.size := hC.size
  replace x0a := hC.cell x0a
  replace x0b := hC.cell x0b
  replace y0a := hC.cell y0a
  replace y0b := hC.cell y0b
  replace y1a := hC.cell y1a
  replace y1b := hC.cell y1b
  replace y2a := hC.cell y2a
  replace y2b := hC.cell y2b
  replace y3a := hC.cell y3a
  replace y3b := hC.cell y3b
  replace o0 := o0.ext hC
  replace o1 := o1.ext hC
  replace o2 := o2.ext hC
  replace o3 := o3.ext hC
  replace o4 := o4.ext hC
  replace o5 := o5.ext hC
  replace o6 := o6.ext hC
  replace o7 := o7.ext hC
  replace o8 := o8.ext hC
  replace hE := hE.tr hC
  clear hC
  have q72 : w.heap.size < w19.heap.size := lt_of_cell x0a
  have q73 : w2.heap.size < w19.heap.size := lt_of_cell y0a
  have q74 : w3.heap.size < w19.heap.size := lt_of_cell y1a
  have q75 : w4.heap.size < w19.heap.size := lt_of_cell y2a
  have q76 : w16.heap.size < w19.heap.size := lt_of_cell y3a
  go_wp2_with fail
  have hh : heldI (marksI (1 + (mkTm (SCoreOf d0).1 : Int)) (SCoreOf d0).2.1.length) (1 + (mkTm (SCoreOf d0).1 : Int)) = 1 + (mkTm (SCoreOf d0).1 : Int) + (List.length (SCoreOf d0).2.1 : Int) := heldI_marks _ _
  have HH := Lib.hid hh
  clear hh
  refine (heldInt64S_any (marksI (1 + (mkTm (SCoreOf d0).1 : Int)) (SCoreOf d0).2.1.length) _ (1 + (mkTm (SCoreOf d0).1 : Int)) _ o5.rd (by omega) (by rw [marksI_length]; omega)).mono ?_
  rintro e w20 ⟨rfl, hC⟩
  rw [HH.out]
  clear HH
  have q77 : w19.heap.size ≤ w20.heap.size := hC.size
  replace x0a := hC.cell x0a
  replace x0b := hC.cell x0b
  replace y0a := hC.cell y0a
  replace y0b := hC.cell y0b
  replace y1a := hC.cell y1a
  replace y1b := hC.cell y1b
  replace y2a := hC.cell y2a
  replace y2b := hC.cell y2b
  replace y3a := hC.cell y3a
  replace y3b := hC.cell y3b
  replace o0 := o0.ext hC
  replace o1 := o1.ext hC
  replace o2 := o2.ext hC
  replace o3 := o3.ext hC
  replace o4 := o4.ext hC
  replace o5 := o5.ext hC
  replace o6 := o6.ext hC
  replace o7 := o7.ext hC
  replace o8 := o8.ext hC
  replace hE := hE.tr hC
  clear hC
  have q78 : w.heap.size < w20.heap.size := lt_of_cell x0a
  have q79 : w2.heap.size < w20.heap.size := lt_of_cell y0a
  have q80 : w3.heap.size < w20.heap.size := lt_of_cell y1a
  have q81 : w4.heap.size < w20.heap.size := lt_of_cell y2a
  have q82 : w16.heap.size < w20.heap.size := lt_of_cell y3a
  go_wp2_with fail
  go_ret
  exact ⟨rfl, hE⟩

set_option maxRecDepth 100000 in
theorem lifted (os : Os) (started : os.Started) (H : Type) (enc : TypeId × Value → H) :
    ReturnsInHanded {} Try.checked os 8 .any (Rows.fnExactCoreOfSpec.pre6 enc Try.prog Try.f8 Rows.fnExactCoreOfRow.domain false) (Rows.fnExactCoreOfSpec.post enc Try.prog Try.f8 false true false false) := by
  refine returnsInHanded_of_change (C := Try.checked) own_knob started (by kernel_rfl) Try.func8
    (ChangeSpec.witness6 (enc := enc) (C := Try.checked) false ⟨#[], #[.agg #[.int .i64 0, .slice none 0 0]], []⟩ 8 (by kernel_rfl) (by kernel_rfl) (by kernel_rfl) (by kernel_rfl)) ?_
  intro W base args ds gs before hval0 hW hcnd _
  have hval : ∀ (j : Nat) t v, Try.f8.params[j]? = some t → args[j]? = some v → Value.okWide Try.prog W .any base t v := hval0
  have hW' := hW
  obtain ⟨p, q, hA0, hV, rfl, hfz, hnd⟩ := hW
  have hA : DataW.TrodAll enc Try.prog W 0 (fun _ => true) true Try.f8.params.toList args.toList ds p := hA0
  rw [Try.params8] at hA hval
  obtain ⟨v0, d0, rfl, rfl, k0⟩ := trodAll_one hA
  obtain ⟨rfl, rfl⟩ := trodVars_none hV
  clear hA0 hval0
  simp only [List.append_nil] at hW'
  obtain ⟨e0, h0⟩ := dTm_of k0 (hval 0 _ _ rfl rfl)
  refine (walk e0 _ W h0).mono fun e W' ⟨he, hE⟩ => ?_
  subst he
  exact ⟨_, rfl, law_post rfl rfl (by kernel_rfl) hW' hE rfl rfl rfl⟩

theorem proved : Rows.FnExactCoreOfSaid :=
  OpenClaim.holds_of_wide 8 Try.f8 rfl rfl rfl rfl rfl rfl rfl ⟨rfl, rfl, rfl, rfl, rfl⟩ rfl rfl rfl rfl rfl (by kernel_rfl) Try.func8 (by kernel_rfl)
    (of_decide_eq_true (by kernel_rfl)) (by unfold Func.isWrapper; first | (rw [if_pos (by decide +kernel)]; kernel_rfl) | (rw [if_neg (by decide +kernel)]; exact ⟨rfl, rfl⟩))
    (fun os started H enc _ => lifted os started H enc)
end Go.Proofs.Ytefnmfdmnoednaa.fnExactCoreOf
