
/- FnExactMakeRel returns true, whatever the input, and writes nothing that was there. Conditions: none. -/
import Derived.Test.YtefnmfdmnoednaaLift
import Derived.Test.YtefnmfdmnoednaaRelL
import Derived.Test.YtefnmfdmnoednaaIIL
import Derived.Test.YtefnmfdmnoednaaBox
import Derived.Test.YtefnmfdmnoednaaMakeX
namespace Go.Proofs.Ytefnmfdmnoednaa.fnExactMakeRel
open Go.ChangeShapes Go.WideShapes Go.ChangeAt Go.RowKit
set_option linter.unusedVariables false

set_option maxHeartbeats 4000000 in
set_option maxRecDepth 100000 in
theorem walk (d0 : Int) (d1 : Int) (d2 : List (List Int)) (v2 : Value) (w : World) (h2 : RdII w v2 d2) (lo0 : -9223372036854775808 ≤ d0) (hi0 : d0 ≤ 9223372036854775807) (lo1 : -9223372036854775808 ≤ d1) (hi1 : d1 ≤ 9223372036854775807) :
    Calls Try.prog 3 #[.int .i64 d0, .int .i64 d1, v2] w fun e w' => e = .returned (.bool true) ∧ Ext w w' := by
  obtain ⟨a2, c2, rfl⟩ := h2.form
  have hE : Ext w w := (Ext.refl' w)
  by_cases z0 : szL 1048576 (szII d2) < 0
  · go_enter Try.func3, Try.ntmps3
    go_wp2_with fail
    refine (szInt64SS_ext d2 _ _ _ (h2.ext hE) (by omega) (by omega)).mono ?_
    rintro e s1 ⟨rfl, hS⟩
    replace hE := hE.tr hS
    clear hS
    go_wp2_with fail
    go_ret
    exact ⟨rfl, hE⟩
  obtain ⟨za0, zb0, zc0⟩ := szL_le z0
  have hmk2 := mkII_le d2
  go_enter Try.func3, Try.ntmps3
  go_wp2_with fail
  refine (szInt64SS_ext d2 _ _ _ (h2.ext hE) (by omega) (by omega)).mono ?_
  rintro e s1 ⟨rfl, hS⟩
  replace hE := hE.tr hS
  clear hS
  have qbase : w.heap.size ≤ s1.heap.size := hE.size
  go_wp2_with fail
  refine (toInt64SS_any d2 _ _ (h2.ext hE) (by omega)).mono ?_
  rintro e w1 ⟨uo0, fp0, rfl, hC, o0, lo_o0⟩
  have q0 : s1.heap.size ≤ w1.heap.size := hC.size
  replace hE := hE.tr hC
  clear hC
  replace lo_o0 : ∀ g ∈ fp0, s1.heap.size + 0 ≤ g := fun g hg => by have := lo_o0 g hg; (try simp only [World.size_alloc] at this); omega
  have hi_o0 := o0.lt
  obtain ⟨ao0, co0, rfl⟩ := o0.form
  go_wp2_with fail
  refine (specMakeRel_any d0 d1 d2 _ _ o0.rd lo0 hi0 lo1 hi1 (by omega)).mono ?_
  rintro e w2 ⟨u1, fp1, rfl, hC, o1, lo_o1, bd_o1⟩
  have q1 : w1.heap.size ≤ w2.heap.size := hC.size
  replace o0 := o0.ext hC
  replace hE := hE.tr hC
  clear hC
  replace lo_o1 : ∀ g ∈ fp1, w1.heap.size + 0 ≤ g := fun g hg => by have := lo_o1 g hg; (try simp only [World.size_alloc] at this); omega
  have hi_o1 := o1.lt
  obtain ⟨ao1, co1, rfl⟩ := o1.form
  go_wp2_with fail
  have hP : Ext w2 (w2.alloc (.cells #[.int .i64 (SMakeRel d0 d1 d2).1.1, .slice ao1 (SMakeRel d0 d1 d2).1.2.length co1] 25)) := ((Ext.refl' w2).alloc (Nat.le_refl _) _)
  refine (toInt64SS_any d2 _ _ (h2.ext (hE.tr hP)) (by omega)).mono ?_
  rintro e w3 ⟨uo2, fp2, rfl, hC, o2, lo_o2⟩
  have y0a := hC.cell (p := ⟨w2.heap.size, 0, none⟩) (v := .int .i64 (SMakeRel d0 d1 d2).1.1) (by simp [go_sem])
  have y0b := hC.cell (p := ⟨w2.heap.size, 1, none⟩) (v := .slice ao1 (SMakeRel d0 d1 d2).1.2.length co1) (by simp [go_sem])
  replace hC := hP.tr hC
  clear hP
  have q2 : w2.heap.size ≤ w3.heap.size := hC.size
  replace o0 := o0.ext hC
  replace o1 := o1.ext hC
  replace hE := hE.tr hC
  clear hC
  have q3 : w2.heap.size < w3.heap.size := lt_of_cell y0a
  replace lo_o2 : ∀ g ∈ fp2, w2.heap.size + 1 ≤ g := fun g hg => by have := lo_o2 g hg; (try simp only [World.size_alloc] at this); omega
  have hi_o2 := o2.lt
  obtain ⟨ao2, co2, rfl⟩ := o2.form
  go_wp2_with fail
  refine (implMakeRel_any d0 d1 d2 _ _ o2.rd lo0 hi0 lo1 hi1 (by omega)).mono ?_
  rintro e w4 ⟨u3, fp3, rfl, hC, o3, lo_o3, bd_o3⟩
  have q4 : w3.heap.size ≤ w4.heap.size := hC.size
  replace y0a := hC.cell y0a
  replace y0b := hC.cell y0b
  replace o0 := o0.ext hC
  replace o1 := o1.ext hC
  replace o2 := o2.ext hC
  replace hE := hE.tr hC
  clear hC
  have q5 : w2.heap.size < w4.heap.size := lt_of_cell y0a
  replace lo_o3 : ∀ g ∈ fp3, w3.heap.size + 0 ≤ g := fun g hg => by have := lo_o3 g hg; (try simp only [World.size_alloc] at this); omega
  have hi_o3 := o3.lt
  obtain ⟨ao3, co3, rfl⟩ := o3.form
  go_wp2_with fail
  have hP : Ext w4 (w4.alloc (.cells #[.int .i64 (SMakeRel d0 d1 d2).1.1, .slice ao3 (SMakeRel d0 d1 d2).1.2.length co3] 25)) := ((Ext.refl' w4).alloc (Nat.le_refl _) _)
  refine (eqRel_any (SMakeRel d0 d1 d2).1 (SMakeRel d0 d1 d2).1 _ _ _ (o3.ext hP).rd (o1.ext hP).rd).mono ?_
  rintro e w5 ⟨rfl, hC⟩
  have y1a := hC.cell (p := ⟨w4.heap.size, 0, none⟩) (v := .int .i64 (SMakeRel d0 d1 d2).1.1) (by simp [go_sem])
  have y1b := hC.cell (p := ⟨w4.heap.size, 1, none⟩) (v := .slice ao3 (SMakeRel d0 d1 d2).1.2.length co3) (by simp [go_sem])
  replace hC := hP.tr hC
  clear hP
  have q6 : w4.heap.size ≤ w5.heap.size := hC.size
  replace y0a := hC.cell y0a
  replace y0b := hC.cell y0b
  replace o0 := o0.ext hC
  replace o1 := o1.ext hC
  replace o2 := o2.ext hC
  replace o3 := o3.ext hC
  replace hE := hE.tr hC
  clear hC
  have q7 : w2.heap.size < w5.heap.size := lt_of_cell y0a
  have q8 : w4.heap.size < w5.heap.size := lt_of_cell y1a
  go_wp2_with fail
  refine (toInt64SS_any d2 _ _ (h2.ext hE) (by omega)).mono ?_
  rintro e w6 ⟨uo4, fp4, rfl, hC, o4, lo_o4⟩
  have q9 : w5.heap.size ≤ w6.heap.size := hC.size
  replace y0a := hC.cell y0a
  replace y0b := hC.cell y0b
  replace y1a := hC.cell y1a
  replace y1b := hC.cell y1b
  replace o0 := o0.ext hC
  replace o1 := o1.ext hC
  replace o2 := o2.ext hC
  replace o3 := o3.ext hC
  replace hE := hE.tr hC
  clear hC
  have q10 : w2.heap.size < w6.heap.size := lt_of_cell y0a
  have q11 : w4.heap.size < w6.heap.size := lt_of_cell y1a
  replace lo_o4 : ∀ g ∈ fp4, w5.heap.size + 0 ≤ g := fun g hg => by have := lo_o4 g hg; (try simp only [World.size_alloc] at this); omega
  have hi_o4 := o4.lt
  obtain ⟨ao4, co4, rfl⟩ := o4.form
  go_wp2_with fail
  refine (eqInt64SS_any d2 d2 _ _ _ o2.rd o4.rd).mono ?_
  rintro e w7 ⟨rfl, hC⟩
  have q12 : w6.heap.size ≤ w7.heap.size := hC.size
  replace y0a := hC.cell y0a
  replace y0b := hC.cell y0b
  replace y1a := hC.cell y1a
  replace y1b := hC.cell y1b
  replace o0 := o0.ext hC
  replace o1 := o1.ext hC
  replace o2 := o2.ext hC
  replace o3 := o3.ext hC
  replace o4 := o4.ext hC
  replace hE := hE.tr hC
  clear hC
  have q13 : w2.heap.size < w7.heap.size := lt_of_cell y0a
  have q14 : w4.heap.size < w7.heap.size := lt_of_cell y1a
  go_wp2_with fail
  refine (markInt64SS_any d2 _ fp2 (1) _ o2 (by omega) (by omega)).mono ?_
  rintro e w8 ⟨rfl, hO, o2'⟩
  replace y0a := hO.cell y0a (by intro hm; have := lo_o2 _ hm; have := hi_o2 _ hm; dsimp only at *; omega)
  replace y0b := hO.cell y0b (by intro hm; have := lo_o2 _ hm; have := hi_o2 _ hm; dsimp only at *; omega)
  replace y1a := hO.cell y1a (by intro hm; have := lo_o2 _ hm; have := hi_o2 _ hm; dsimp only at *; omega)
  replace y1b := hO.cell y1b (by intro hm; have := lo_o2 _ hm; have := hi_o2 _ hm; dsimp only at *; omega)
  replace o0 := o0.off hO (by intro g hg hm; have := lo_o2 _ hm; have := hi_o2 _ hm; have := lo_o0 _ hg; have := hi_o0 _ hg; omega)
  replace o1 := o1.off hO (by intro g hg hm; have := lo_o2 _ hm; have := hi_o2 _ hm; have := lo_o1 _ hg; have := hi_o1 _ hg; omega)
  replace o3 := o3.off hO (by intro g hg hm; have := lo_o2 _ hm; have := hi_o2 _ hm; have := lo_o3 _ hg; have := hi_o3 _ hg; omega)
  replace o4 := o4.off hO (by intro g hg hm; have := lo_o2 _ hm; have := hi_o2 _ hm; have := lo_o4 _ hg; have := hi_o4 _ hg; omega)
  replace hE : Ext w w8 := Below.trans hE (hO.below hE.size (fun g hg => by have := lo_o2 g hg; have := hE.size; omega))
  have q15 : w7.heap.size ≤ w8.heap.size := hO.size
  clear o2 hO
  have o2 := o2'
  clear o2'
  go_wp2_with fail
  refine (eqRel_any (SMakeRel d0 d1 d2).1 (SMakeRel d0 d1 d2).1 _ _ _ o3.rd o1.rd).mono ?_
  rintro e w9 ⟨rfl, hC⟩
  have q16 : w8.heap.size ≤ w9.heap.size := hC.size
  replace y0a := hC.cell y0a
  replace y0b := hC.cell y0b
  replace y1a := hC.cell y1a
  replace y1b := hC.cell y1b
  replace o0 := o0.ext hC
  replace o1 := o1.ext hC
  replace o2 := o2.ext hC
  replace o3 := o3.ext hC
  replace o4 := o4.ext hC
  replace hE := hE.tr hC
  clear hC
  have q17 : w2.heap.size < w9.heap.size := lt_of_cell y0a
  have q18 : w4.heap.size < w9.heap.size := lt_of_cell y1a
  go_wp2_with fail
  refine (markRel_any (SMakeRel d0 d1 d2).1 _ fp3 (1) _ o3 (by omega) (by omega)).mono ?_
  rintro e w10 ⟨rfl, hO, o3'⟩
  replace y0a := hO.cell y0a (by intro hm; have := lo_o3 _ hm; have := hi_o3 _ hm; dsimp only at *; omega)
  replace y0b := hO.cell y0b (by intro hm; have := lo_o3 _ hm; have := hi_o3 _ hm; dsimp only at *; omega)
  replace y1a := hO.cell y1a (by intro hm; have := lo_o3 _ hm; have := hi_o3 _ hm; dsimp only at *; omega)
  replace y1b := hO.cell y1b (by intro hm; have := lo_o3 _ hm; have := hi_o3 _ hm; dsimp only at *; omega)
  replace o0 := o0.off hO (by intro g hg hm; have := lo_o3 _ hm; have := hi_o3 _ hm; have := lo_o0 _ hg; have := hi_o0 _ hg; omega)
  replace o1 := o1.off hO (by intro g hg hm; have := lo_o3 _ hm; have := hi_o3 _ hm; have := lo_o1 _ hg; have := hi_o1 _ hg; omega)
  replace o2 := o2.off hO (by intro g hg hm; have := lo_o3 _ hm; have := hi_o3 _ hm; have := lo_o2 _ hg; have := hi_o2 _ hg; omega)
  replace o4 := o4.off hO (by intro g hg hm; have := lo_o3 _ hm; have := hi_o3 _ hm; have := lo_o4 _ hg; have := hi_o4 _ hg; omega)
  replace hE : Ext w w10 := Below.trans hE (hO.below hE.size (fun g hg => by have := lo_o3 g hg; have := hE.size; omega))
  have q19 : w9.heap.size ≤ w10.heap.size := hO.size
  clear o3 hO
  have o3 := o3'
  clear o3'
  go_wp2_with fail
  have hh : heldRel (marksRel (1) (SMakeRel d0 d1 d2).1) (1) = 1 + (mkRel (SMakeRel d0 d1 d2).1 : Int) := heldRel_marks _ _ (by omega)
  have HH := Lib.hid hh
  clear hh
  refine (heldRel_any (marksRel (1) (SMakeRel d0 d1 d2).1) _ (1) _ o3.rd (by omega) (by rw [mkRel_marks]; omega)).mono ?_
  rintro e w11 ⟨rfl, hC⟩
  rw [HH.out]
  clear HH
  have q20 : w10.heap.size ≤ w11.heap.size := hC.size
  replace y0a := hC.cell y0a
  replace y0b := hC.cell y0b
  replace y1a := hC.cell y1a
  replace y1b := hC.cell y1b
  replace o0 := o0.ext hC
  replace o1 := o1.ext hC
  replace o2 := o2.ext hC
  replace o3 := o3.ext hC
  replace o4 := o4.ext hC
  replace hE := hE.tr hC
  clear hC
  have q21 : w2.heap.size < w11.heap.size := lt_of_cell y0a
  have q22 : w4.heap.size < w11.heap.size := lt_of_cell y1a
  go_wp2_with fail
  refine (toInt64SS_any d2 _ _ (h2.ext hE) (by omega)).mono ?_
  rintro e w12 ⟨uo5, fp5, rfl, hC, o5, lo_o5⟩
  have q23 : w11.heap.size ≤ w12.heap.size := hC.size
  replace y0a := hC.cell y0a
  replace y0b := hC.cell y0b
  replace y1a := hC.cell y1a
  replace y1b := hC.cell y1b
  replace o0 := o0.ext hC
  replace o1 := o1.ext hC
  replace o2 := o2.ext hC
  replace o3 := o3.ext hC
  replace o4 := o4.ext hC
  replace hE := hE.tr hC
  clear hC
  have q24 : w2.heap.size < w12.heap.size := lt_of_cell y0a
  have q25 : w4.heap.size < w12.heap.size := lt_of_cell y1a
  replace lo_o5 : ∀ g ∈ fp5, w11.heap.size + 0 ≤ g := fun g hg => by have := lo_o5 g hg; (try simp only [World.size_alloc] at this); omega
  have hi_o5 := o5.lt
  obtain ⟨ao5, co5, rfl⟩ := o5.form
  go_wp2_with fail
  refine (implMakeRel_any d0 d1 d2 _ _ o5.rd lo0 hi0 lo1 hi1 (by omega)).mono ?_
  rintro e w13 ⟨u6, fp6, rfl, hC, o6, lo_o6, bd_o6⟩
  have q26 : w12.heap.size ≤ w13.heap.size := hC.size
  replace y0a := hC.cell y0a
  replace y0b := hC.cell y0b
  replace y1a := hC.cell y1a
  replace y1b := hC.cell y1b
  replace o0 := o0.ext hC
  replace o1 := o1.ext hC
  replace o2 := o2.ext hC
  replace o3 := o3.ext hC
  replace o4 := o4.ext hC
  replace o5 := o5.ext hC
  replace hE := hE.tr hC
  clear hC
  have q27 : w2.heap.size < w13.heap.size := lt_of_cell y0a
  have q28 : w4.heap.size < w13.heap.size := lt_of_cell y1a
  replace lo_o6 : ∀ g ∈ fp6, w12.heap.size + 0 ≤ g := fun g hg => by have := lo_o6 g hg; (try simp only [World.size_alloc] at this); omega
  have hi_o6 := o6.lt
  obtain ⟨ao6, co6, rfl⟩ := o6.form
  go_wp2_with fail
  have hP : Ext w13 (w13.alloc (.cells #[.int .i64 (SMakeRel d0 d1 d2).1.1, .slice ao6 (SMakeRel d0 d1 d2).1.2.length co6] 25)) := ((Ext.refl' w13).alloc (Nat.le_refl _) _)
  refine (eqRel_any (SMakeRel d0 d1 d2).1 (SMakeRel d0 d1 d2).1 _ _ _ (o6.ext hP).rd (o1.ext hP).rd).mono ?_
  rintro e w14 ⟨rfl, hC⟩
  have y2a := hC.cell (p := ⟨w13.heap.size, 0, none⟩) (v := .int .i64 (SMakeRel d0 d1 d2).1.1) (by simp [go_sem])
  have y2b := hC.cell (p := ⟨w13.heap.size, 1, none⟩) (v := .slice ao6 (SMakeRel d0 d1 d2).1.2.length co6) (by simp [go_sem])
  replace hC := hP.tr hC
  clear hP
  have q29 : w13.heap.size ≤ w14.heap.size := hC.size
  replace y0a := hC.cell y0a
  replace y0b := hC.cell y0b
  replace y1a := hC.cell y1a
  replace y1b := hC.cell y1b
  replace o0 := o0.ext hC
  replace o1 := o1.ext hC
  replace o2 := o2.ext hC
  replace o3 := o3.ext hC
  replace o4 := o4.ext hC
  replace o5 := o5.ext hC
  replace o6 := o6.ext hC
  replace hE := hE.tr hC
  clear hC
  have q30 : w2.heap.size < w14.heap.size := lt_of_cell y0a
  have q31 : w4.heap.size < w14.heap.size := lt_of_cell y1a
  have q32 : w13.heap.size < w14.heap.size := lt_of_cell y2a
  go_wp2_with fail
  have hh : heldRel (marksRel (1) (SMakeRel d0 d1 d2).1) (1) = 1 + (mkRel (SMakeRel d0 d1 d2).1 : Int) := heldRel_marks _ _ (by omega)
  have HH := Lib.hid hh
  clear hh
  refine (heldRel_any (marksRel (1) (SMakeRel d0 d1 d2).1) _ (1) _ o3.rd (by omega) (by rw [mkRel_marks]; omega)).mono ?_
  rintro e w15 ⟨rfl, hC⟩
  rw [HH.out]
  clear HH
  have q33 : w14.heap.size ≤ w15.heap.size := hC.size
  replace y0a := hC.cell y0a
  replace y0b := hC.cell y0b
  replace y1a := hC.cell y1a
  replace y1b := hC.cell y1b
  replace y2a := hC.cell y2a
  replace y2b := hC.cell y2b
  replace o0 := o0.ext hC
  replace o1 := o1.ext hC
  replace o2 := o2.ext hC
  replace o3 := o3.ext hC
  replace o4 := o4.ext hC
  replace o5 := o5.ext hC
  replace o6 := o6.ext hC
  replace hE := hE.tr hC
  clear hC
  have q34 : w2.heap.size < w15.heap.size := lt_of_cell y0a
  have q35 : w4.heap.size < w15.heap.size := lt_of_cell y1a
  have q36 : w13.heap.size < w15.heap.size := lt_of_cell y2a
  go_wp2_with fail
  go_ret
  exact ⟨rfl, hE⟩

set_option maxRecDepth 100000 in
theorem lifted (os : Os) (started : os.Started) (H : Type) (enc : TypeId × Value → H) :
    ReturnsInHanded {} Try.checked os 3 .any (Rows.fnExactMakeRelSpec.pre6 enc Try.prog Try.f3 Rows.fnExactMakeRelRow.domain false) (Rows.fnExactMakeRelSpec.post enc Try.prog Try.f3 false true false false) := by
  refine returnsInHanded_of_change (C := Try.checked) own_knob started (by kernel_rfl) Try.func3
    (ChangeSpec.witness6 (enc := enc) (C := Try.checked) false ⟨#[], #[.int .i64 0, .int .i64 0, .slice none 0 0], []⟩ 8 (by kernel_rfl) (by kernel_rfl) (by kernel_rfl) (by kernel_rfl)) ?_
  intro W base args ds gs before hval0 hW hcnd _
  have hval : ∀ (j : Nat) t v, Try.f3.params[j]? = some t → args[j]? = some v → Value.okWide Try.prog W .any base t v := hval0
  have hW' := hW
  obtain ⟨p, q, hA0, hV, rfl, hfz, hnd⟩ := hW
  have hA : DataW.TrodAll enc Try.prog W 0 (fun _ => true) true Try.f3.params.toList args.toList ds p := hA0
  rw [Try.params3] at hA hval
  obtain ⟨v0, v1, v2, d0, d1, d2, p0, p1, p2, rfl, rfl, rfl, k0, k1, k2⟩ := trodAll_three hA
  obtain ⟨rfl, rfl⟩ := trodVars_none hV
  clear hA0 hval0
  simp only [List.append_nil] at hW'
  obtain ⟨e0, rfl, lo0, hi0⟩ := int_of k0 (hval 0 _ _ rfl rfl)
  obtain ⟨e1, rfl, lo1, hi1⟩ := int_of k1 (hval 1 _ _ rfl rfl)
  obtain ⟨e2, h2⟩ := dII_of k2 (hval 2 _ _ rfl rfl)
  refine (walk e0 e1 e2 _ W h2 lo0 hi0 lo1 hi1).mono fun e W' ⟨he, hE⟩ => ?_
  subst he
  exact ⟨_, rfl, law_post rfl rfl (by kernel_rfl) hW' hE rfl rfl rfl⟩

theorem proved : Rows.FnExactMakeRelSaid :=
  OpenClaim.holds_of_wide 3 Try.f3 rfl rfl rfl rfl rfl rfl rfl ⟨rfl, rfl, rfl, rfl, rfl⟩ rfl rfl rfl rfl rfl (by kernel_rfl) Try.func3 (by kernel_rfl)
    (of_decide_eq_true (by kernel_rfl)) (by unfold Func.isWrapper; first | (rw [if_pos (by decide +kernel)]; kernel_rfl) | (rw [if_neg (by decide +kernel)]; exact ⟨rfl, rfl⟩))
    (fun os started H enc _ => lifted os started H enc)
end Go.Proofs.Ytefnmfdmnoednaa.fnExactMakeRel
