
/- FnExactIsOfKind returns true, whatever the input, and writes nothing that was there. Conditions: none. -/
import Derived.Test.YtefnmfdmnoednaaLift
import Derived.Test.YtefnmfdmnoednaaOpL
import Derived.Test.YtefnmfdmnoednaaKindW
namespace Go.Proofs.Ytefnmfdmnoednaa.fnExactIsOfKind
open Go.ChangeShapes Go.WideShapes Go.ChangeAt Go.RowKit
set_option linter.unusedVariables false

set_option maxHeartbeats 4000000 in
set_option maxRecDepth 100000 in
theorem walk (d0 : Int) (d1 : Int × List Int) (v1 : Value) (d2 : Int) (w : World) (h1 : RdOp w v1 d1) (lo0 : -9223372036854775808 ≤ d0) (hi0 : d0 ≤ 9223372036854775807) (lo2 : -9223372036854775808 ≤ d2) (hi2 : d2 ≤ 9223372036854775807) :
    Calls Try.prog 6 #[.int .i64 d0, v1, .int .i64 d2] w fun e w' => e = .returned (.bool true) ∧ Ext w w' := by
  obtain ⟨tv1, rfl⟩ := h1.form
  have hE : Ext w (w.alloc (.cells #[.int .i64 d1.1, tv1] 45)) := ((Ext.refl' w).alloc (Nat.le_refl _) _)
  by_cases z0 : szL 1048576 (szOp d1) < 0
  · go_enter Try.func6, Try.ntmps6
    go_wp2_with fail
    refine (szOp_any d1 _ _ _ (h1.ext hE) (by omega) (by omega)).mono ?_
    rintro e s1 ⟨rfl, hS⟩
    have x0a := hS.cell (p := ⟨w.heap.size, 0, none⟩) (v := .int .i64 d1.1) (by simp [go_sem])
    have x0b := hS.cell (p := ⟨w.heap.size, 1, none⟩) (v := tv1) (by simp [go_sem])
    replace hE := hE.tr hS
    clear hS
    go_wp2_with fail
    go_ret
    exact ⟨rfl, hE⟩
  obtain ⟨za0, zb0, zc0⟩ := szL_le z0
  have hmk1 := mkOp_le d1
  go_enter Try.func6, Try.ntmps6
  go_wp2_with fail
  refine (szOp_any d1 _ _ _ (h1.ext hE) (by omega) (by omega)).mono ?_
  rintro e s1 ⟨rfl, hS⟩
  have x0a := hS.cell (p := ⟨w.heap.size, 0, none⟩) (v := .int .i64 d1.1) (by simp [go_sem])
  have x0b := hS.cell (p := ⟨w.heap.size, 1, none⟩) (v := tv1) (by simp [go_sem])
  replace hE := hE.tr hS
  clear hS
  go_wp2_with fail
  refine (toOp_any d1 _ _ (h1.ext hE) (by omega)).mono ?_
  rintro e w1 ⟨uo0, fp0, rfl, hC, o0, lo_o0⟩
  have q0 : s1.heap.size ≤ w1.heap.size := hC.size
  replace x0a := hC.cell x0a
  replace x0b := hC.cell x0b
  replace hE := hE.tr hC
  clear hC
  have q1 : w.heap.size < w1.heap.size := lt_of_cell x0a
  replace lo_o0 : ∀ g ∈ fp0, s1.heap.size + 0 ≤ g := fun g hg => by have := lo_o0 g hg; (try simp only [World.size_alloc] at this); omega
  have hi_o0 := o0.lt
  obtain ⟨ao0, co0, rfl⟩ := o0.form
  go_wp2_with fail
  refine (specIsOfKind_any d0 d1 _ d2 _ o0.rd lo0 hi0 lo2 hi2 (by omega)).mono ?_
  rintro e w2 ⟨rfl, hC⟩
  have q2 : w1.heap.size ≤ w2.heap.size := hC.size
  replace x0a := hC.cell x0a
  replace x0b := hC.cell x0b
  replace o0 := o0.ext hC
  replace hE := hE.tr hC
  clear hC
  have q3 : w.heap.size < w2.heap.size := lt_of_cell x0a
  go_wp2_with fail
  refine (toOp_any d1 _ _ (h1.ext hE) (by omega)).mono ?_
  rintro e w3 ⟨uo1, fp1, rfl, hC, o1, lo_o1⟩
  have q4 : w2.heap.size ≤ w3.heap.size := hC.size
  replace x0a := hC.cell x0a
  replace x0b := hC.cell x0b
  replace o0 := o0.ext hC
  replace hE := hE.tr hC
  clear hC
  have q5 : w.heap.size < w3.heap.size := lt_of_cell x0a
  replace lo_o1 : ∀ g ∈ fp1, w2.heap.size + 0 ≤ g := fun g hg => by have := lo_o1 g hg; (try simp only [World.size_alloc] at this); omega
  have hi_o1 := o1.lt
  obtain ⟨ao1, co1, rfl⟩ := o1.form
  go_wp2_with fail
  have hP : Ext w3 (w3.alloc (.cells #[.int .i64 d1.1, .slice ao1 d1.2.length co1] 49)) := ((Ext.refl' w3).alloc (Nat.le_refl _) _)
  refine (implIsOfKind_any d0 d1 _ d2 _ (o1.ext hP).rd lo0 hi0 lo2 hi2 (by omega)).mono ?_
  rintro e w4 ⟨rfl, hC⟩
  have y0a := hC.cell (p := ⟨w3.heap.size, 0, none⟩) (v := .int .i64 d1.1) (by simp [go_sem])
  have y0b := hC.cell (p := ⟨w3.heap.size, 1, none⟩) (v := .slice ao1 d1.2.length co1) (by simp [go_sem])
  replace hC := hP.tr hC
  clear hP
  have q6 : w3.heap.size ≤ w4.heap.size := hC.size
  replace x0a := hC.cell x0a
  replace x0b := hC.cell x0b
  replace o0 := o0.ext hC
  replace o1 := o1.ext hC
  replace hE := hE.tr hC
  clear hC
  have q7 : w.heap.size < w4.heap.size := lt_of_cell x0a
  have q8 : w3.heap.size < w4.heap.size := lt_of_cell y0a
  go_wp2_with fail
  refine region_sp [] [] [SP.val (.agg #[.int .i64 d1.1, .slice ao1 d1.2.length co1]), SP.val (.agg #[.int .i64 d1.1, tv1]), SP.ownOp d1, SP.val (.bool true), SP.val (.bool false)] (by kernel_rfl) (fun _ d _ _ _ h => by cases d <;> exact h) (by kernel_rfl) (by kernel_rfl)
    (.cons (fun vs y hY => Step.load ⟨w3.heap.size, 0, none⟩ rfl rfl rfl (by simp [go_sem, hY.cell y0a, hY.cell y0b]) rfl) <|
     .cons (fun vs y hY => Step.load ⟨w.heap.size, 0, none⟩ rfl rfl rfl (by simp [go_sem, hY.cell x0a, hY.cell x0b]) rfl) <|
     .cons (fun vs y hY g1_0 => Step.call Try.call30 rfl rfl [vs 1] rfl rfl ((toOp_any d1 _ _ (by rw [show vs 1 = _ from g1_0]; exact h1.ext (hE.tr hY)) (by omega)).mono fun _ _ ⟨u, fp, he, hE, ho, _⟩ => ⟨u, he, hE, fp, ho⟩)) <|
     .cons (fun vs y hY g0_0 g2_1 g2_2 => Step.call Try.call32 rfl rfl [vs 0, vs 2] rfl rfl ((eqOp_any d1 d1 _ _ _ (by rw [show vs 0 = _ from g0_0]; exact (o1.ext hY).rd) (rdOp_of_sp g2_1)).mono fun _ _ ⟨he, hE⟩ => ⟨_, he, hE, by simp; rfl⟩)) <|
     .cons (fun vs y hY g3_0 => Step.not rfl rfl g3_0 rfl) <|
     .nil) ?_
  intro vs w5 hC hL
  have r0 : vs 0 = _ := hL 0 (by decide) rfl
  have r1 : vs 1 = _ := hL 1 (by decide) rfl
  have r3 : vs 3 = _ := hL 3 (by decide) rfl
  have r4 : vs 4 = _ := hL 4 (by decide) rfl
  clear hL
  simp only [putAll, Act.put, List.contains_nil, cond_false, List.setIfInBounds_toArray, List.set_cons_succ, List.set_cons_zero, List.filterMap_nil, r0, r1, r3, r4]
  clear r0 r1 r3 r4
  have q9 : w4.heap.size ≤ w5.heap.size := hC.size
  replace x0a := hC.cell x0a
  replace x0b := hC.cell x0b
  replace y0a := hC.cell y0a
  replace y0b := hC.cell y0b
  replace o0 := o0.ext hC
  replace o1 := o1.ext hC
  replace hE := hE.tr hC
  clear hC
  have q10 : w.heap.size < w5.heap.size := lt_of_cell x0a
  have q11 : w3.heap.size < w5.heap.size := lt_of_cell y0a
  go_wp2_with fail
  go_ret
  exact ⟨rfl, hE⟩

set_option maxRecDepth 100000 in
theorem lifted (os : Os) (started : os.Started) (H : Type) (enc : TypeId × Value → H) :
    ReturnsInHanded {} Try.checked os 6 .any (Rows.fnExactIsOfKindSpec.pre6 enc Try.prog Try.f6 Rows.fnExactIsOfKindRow.domain false) (Rows.fnExactIsOfKindSpec.post enc Try.prog Try.f6 false true false false) := by
  refine returnsInHanded_of_change (C := Try.checked) own_knob started (by kernel_rfl) Try.func6
    (ChangeSpec.witness6 (enc := enc) (C := Try.checked) false ⟨#[], #[.int .i64 0, .agg #[.int .i64 0, .slice none 0 0], .int .i64 0], []⟩ 8 (by kernel_rfl) (by kernel_rfl) (by kernel_rfl) (by kernel_rfl)) ?_
  intro W base args ds gs before hval0 hW hcnd _
  have hval : ∀ (j : Nat) t v, Try.f6.params[j]? = some t → args[j]? = some v → Value.okWide Try.prog W .any base t v := hval0
  have hW' := hW
  obtain ⟨p, q, hA0, hV, rfl, hfz, hnd⟩ := hW
  have hA : DataW.TrodAll enc Try.prog W 0 (fun _ => true) true Try.f6.params.toList args.toList ds p := hA0
  rw [Try.params6] at hA hval
  obtain ⟨v0, v1, v2, d0, d1, d2, p0, p1, p2, rfl, rfl, rfl, k0, k1, k2⟩ := trodAll_three hA
  obtain ⟨rfl, rfl⟩ := trodVars_none hV
  clear hA0 hval0
  simp only [List.append_nil] at hW'
  obtain ⟨e0, rfl, lo0, hi0⟩ := int_of k0 (hval 0 _ _ rfl rfl)
  obtain ⟨e1, h1⟩ := dOp_of k1 (hval 1 _ _ rfl rfl)
  obtain ⟨e2, rfl, lo2, hi2⟩ := int_of k2 (hval 2 _ _ rfl rfl)
  refine (walk e0 e1 _ e2 W h1 lo0 hi0 lo2 hi2).mono fun e W' ⟨he, hE⟩ => ?_
  subst he
  exact ⟨_, rfl, law_post rfl rfl (by kernel_rfl) hW' hE rfl rfl rfl⟩

theorem proved : Rows.FnExactIsOfKindSaid :=
  OpenClaim.holds_of_wide 6 Try.f6 rfl rfl rfl rfl rfl rfl rfl ⟨rfl, rfl, rfl, rfl, rfl⟩ rfl rfl rfl rfl rfl (by kernel_rfl) Try.func6 (by kernel_rfl)
    (of_decide_eq_true (by kernel_rfl)) (by unfold Func.isWrapper; first | (rw [if_pos (by decide +kernel)]; kernel_rfl) | (rw [if_neg (by decide +kernel)]; exact ⟨rfl, rfl⟩))
    (fun os started H enc _ => lifted os started H enc)
end Go.Proofs.Ytefnmfdmnoednaa.fnExactIsOfKind
