
/- FnExactHasTuple returns true, whatever the input, and writes nothing that was there. Conditions: none. -/
import Derived.Test.YtohpjamngpphnaaLift
import Derived.Test.YtohpjamngpphnaaRelL
import Derived.Test.YtohpjamngpphnaaPart
namespace Go.Proofs.Ytohpjamngpphnaa.fnExactHasTuple
open Go.ChangeShapes Go.WideShapes Go.ChangeAt Go.RowKit
set_option linter.unusedVariables false

set_option maxHeartbeats 4000000 in
set_option maxRecDepth 100000 in
theorem walk (d0 : Int) (d1 : Int × List (List Int)) (v1 : Value) (d2 : List Int) (v2 : Value) (w : World) (h1 : RdRel w v1 d1) (h2 : RdI w v2 d2) (lo0 : -9223372036854775808 ≤ d0) (hi0 : d0 ≤ 9223372036854775807) :
    Calls Try.prog 7 #[.int .i64 d0, v1, v2] w fun e w' => e = .returned (.bool true) ∧ Ext w w' := by
  obtain ⟨tv1, rfl⟩ := h1.form
  obtain ⟨a2, c2, rfl⟩ := h2.form
  have hE : Ext w (w.alloc (.cells #[.int .i64 d1.1, tv1] 30)) := ((Ext.refl' w).alloc (Nat.le_refl _) _)
  by_cases z0 : (1048576 : Int) < (d2.length : Int)
  · go_enter Try.func7, Try.ntmps7
    go_wp2_with fail
    go_ret
    exact ⟨rfl, hE⟩
  by_cases z1 : szL 1048576 (szRel d1) < 0
  · go_enter Try.func7, Try.ntmps7
    go_wp2_with fail
    refine (szRel_any d1 _ _ _ (h1.ext hE) (by omega) (by omega)).mono ?_
    rintro e s1 ⟨rfl, hS⟩
    have x0a := hS.cell (p := ⟨w.heap.size, 0, none⟩) (v := .int .i64 d1.1) (by simp [go_sem])
    have x0b := hS.cell (p := ⟨w.heap.size, 1, none⟩) (v := tv1) (by simp [go_sem])
    replace hE := hE.tr hS
    clear hS
    go_wp2_with fail
    go_ret
    exact ⟨rfl, hE⟩
  obtain ⟨za1, zb1, zc1⟩ := szL_le z1
  have hmk1 := mkRel_le d1
  go_enter Try.func7, Try.ntmps7
  go_wp2_with fail
  refine (szRel_any d1 _ _ _ (h1.ext hE) (by omega) (by omega)).mono ?_
  rintro e s1 ⟨rfl, hS⟩
  have x0a := hS.cell (p := ⟨w.heap.size, 0, none⟩) (v := .int .i64 d1.1) (by simp [go_sem])
  have x0b := hS.cell (p := ⟨w.heap.size, 1, none⟩) (v := tv1) (by simp [go_sem])
  replace hE := hE.tr hS
  clear hS
  go_wp2_with fail
  refine (toRel_any d1 _ _ (h1.ext hE) (by omega)).mono ?_
  rintro e w1 ⟨uo0, fp0, rfl, hC, o0, lo_o0⟩
  have q0 : s1.heap.size ≤ w1.heap.size := hC.size
  replace x0a := hC.cell x0a
  replace x0b := hC.cell x0b
  replace hE := hE.tr hC
  clear hC
  have q1 : w.heap.size < w1.heap.size := lt_of_cell x0a
  replace lo_o0 : ∀ g ∈ fp0, s1.heap.size + 0 ≤ g := fun g hg => by have := lo_o0 g hg; (try simp only [World.size_alloc] at this); omega
  have hi_o0 := o0.lt
  obtain ⟨ao0, co0, rfl⟩ := o0.form
  go_wp2_with fail
  refine (toInt64S_any d2 _ _ (h2.ext hE) (by omega)).mono ?_
  rintro e w2 ⟨uo1, fp1, rfl, hC, o1, lo_o1⟩
  have q2 : w1.heap.size ≤ w2.heap.size := hC.size
  replace x0a := hC.cell x0a
  replace x0b := hC.cell x0b
  replace o0 := o0.ext hC
  replace hE := hE.tr hC
  clear hC
  have q3 : w.heap.size < w2.heap.size := lt_of_cell x0a
  replace lo_o1 : ∀ g ∈ fp1, w1.heap.size + 0 ≤ g := fun g hg => by have := lo_o1 g hg; (try simp only [World.size_alloc] at this); omega
  have hi_o1 := o1.lt
  obtain ⟨ao1, co1, rfl⟩ := o1.form
  go_wp2_with fail
  refine (specHasTuple_any d0 d1 _ d2 _ _ o0.rd o1.rd lo0 hi0 (by omega) (by omega)).mono ?_
  rintro e w3 ⟨rfl, hC⟩
  have q4 : w2.heap.size ≤ w3.heap.size := hC.size
  replace x0a := hC.cell x0a
  replace x0b := hC.cell x0b
  replace o0 := o0.ext hC
  replace o1 := o1.ext hC
  replace hE := hE.tr hC
  clear hC
  have q5 : w.heap.size < w3.heap.size := lt_of_cell x0a
  go_wp2_with fail
  refine (toRel_any d1 _ _ (h1.ext hE) (by omega)).mono ?_
  rintro e w4 ⟨uo2, fp2, rfl, hC, o2, lo_o2⟩
  have q6 : w3.heap.size ≤ w4.heap.size := hC.size
  replace x0a := hC.cell x0a
  replace x0b := hC.cell x0b
  replace o0 := o0.ext hC
  replace o1 := o1.ext hC
  replace hE := hE.tr hC
  clear hC
  have q7 : w.heap.size < w4.heap.size := lt_of_cell x0a
  replace lo_o2 : ∀ g ∈ fp2, w3.heap.size + 0 ≤ g := fun g hg => by have := lo_o2 g hg; (try simp only [World.size_alloc] at this); omega
  have hi_o2 := o2.lt
  obtain ⟨ao2, co2, rfl⟩ := o2.form
  go_wp2_with fail
  have hP : Ext w4 (w4.alloc (.cells #[.int .i64 d1.1, .slice ao2 d1.2.length co2] 24)) := ((Ext.refl' w4).alloc (Nat.le_refl _) _)
  refine (toInt64S_any d2 _ _ (h2.ext (hE.tr hP)) (by omega)).mono ?_
  rintro e w5 ⟨uo3, fp3, rfl, hC, o3, lo_o3⟩
  have y0a := hC.cell (p := ⟨w4.heap.size, 0, none⟩) (v := .int .i64 d1.1) (by simp [go_sem])
  have y0b := hC.cell (p := ⟨w4.heap.size, 1, none⟩) (v := .slice ao2 d1.2.length co2) (by simp [go_sem])
  replace hC := hP.tr hC
  clear hP
  have q8 : w4.heap.size ≤ w5.heap.size := hC.size
  replace x0a := hC.cell x0a
  replace x0b := hC.cell x0b
  replace o0 := o0.ext hC
  replace o1 := o1.ext hC
  replace o2 := o2.ext hC
  replace hE := hE.tr hC
  clear hC
  have q9 : w.heap.size < w5.heap.size := lt_of_cell x0a
  have q10 : w4.heap.size < w5.heap.size := lt_of_cell y0a
  replace lo_o3 : ∀ g ∈ fp3, w4.heap.size + 1 ≤ g := fun g hg => by have := lo_o3 g hg; (try simp only [World.size_alloc] at this); omega
  have hi_o3 := o3.lt
  obtain ⟨ao3, co3, rfl⟩ := o3.form
  go_wp2_with fail
  refine (implHasTuple_any d0 d1 _ d2 _ _ o2.rd o3.rd lo0 hi0 (by omega) (by omega)).mono ?_
  rintro e w6 ⟨rfl, hC⟩
  have q11 : w5.heap.size ≤ w6.heap.size := hC.size
  replace x0a := hC.cell x0a
  replace x0b := hC.cell x0b
  replace y0a := hC.cell y0a
  replace y0b := hC.cell y0b
  replace o0 := o0.ext hC
  replace o1 := o1.ext hC
  replace o2 := o2.ext hC
  replace o3 := o3.ext hC
  replace hE := hE.tr hC
  clear hC
  have q12 : w.heap.size < w6.heap.size := lt_of_cell x0a
  have q13 : w4.heap.size < w6.heap.size := lt_of_cell y0a
  go_wp2_with fail
  refine region_sp [] [] [SP.val (.agg #[.int .i64 d1.1, .slice ao2 d1.2.length co2]), SP.val (.agg #[.int .i64 d1.1, tv1]), SP.ownRel d1, SP.val (.bool true), SP.val (.bool false)] (by kernel_rfl) (fun _ d _ _ _ h => by cases d <;> exact h) (by kernel_rfl) (by kernel_rfl)
    (.cons (fun vs y hY => Step.load ⟨w4.heap.size, 0, none⟩ rfl rfl rfl (by simp [go_sem, hY.cell y0a, hY.cell y0b]) rfl) <|
     .cons (fun vs y hY => Step.load ⟨w.heap.size, 0, none⟩ rfl rfl rfl (by simp [go_sem, hY.cell x0a, hY.cell x0b]) rfl) <|
     .cons (fun vs y hY g1_0 => Step.call Try.call22 rfl rfl [vs 1] rfl rfl ((toRel_any d1 _ _ (by rw [show vs 1 = _ from g1_0]; exact h1.ext (hE.tr hY)) (by omega)).mono fun _ _ ⟨u, fp, he, hE, ho, _⟩ => ⟨u, he, hE, fp, ho⟩)) <|
     .cons (fun vs y hY g0_0 g2_1 g2_2 => Step.call Try.call17 rfl rfl [vs 0, vs 2] rfl rfl ((eqRel_any d1 d1 _ _ _ (by rw [show vs 0 = _ from g0_0]; exact (o2.ext hY).rd) (rdRel_of_sp g2_1)).mono fun _ _ ⟨he, hE⟩ => ⟨_, he, hE, by simp; rfl⟩)) <|
     .cons (fun vs y hY g3_0 => Step.not rfl rfl g3_0 rfl) <|
     .nil) ?_
  intro vs w7 hC hL
  have r0 : vs 0 = _ := hL 0 (by decide) rfl
  have r1 : vs 1 = _ := hL 1 (by decide) rfl
  have r3 : vs 3 = _ := hL 3 (by decide) rfl
  have r4 : vs 4 = _ := hL 4 (by decide) rfl
  clear hL
  simp only [putAll, Act.put, List.contains_nil, cond_false, List.setIfInBounds_toArray, List.set_cons_succ, List.set_cons_zero, List.filterMap_nil, r0, r1, r3, r4]
  clear r0 r1 r3 r4
  have q14 : w6.heap.size ≤ w7.heap.size := hC.size
  replace x0a := hC.cell x0a
  replace x0b := hC.cell x0b
  replace y0a := hC.cell y0a
  replace y0b := hC.cell y0b
  replace o0 := o0.ext hC
  replace o1 := o1.ext hC
  replace o2 := o2.ext hC
  replace o3 := o3.ext hC
  replace hE := hE.tr hC
  clear hC
  have q15 : w.heap.size < w7.heap.size := lt_of_cell x0a
  have q16 : w4.heap.size < w7.heap.size := lt_of_cell y0a
  go_wp2_with fail
  refine (toInt64S_any d2 _ _ (h2.ext hE) (by omega)).mono ?_
  rintro e w8 ⟨uo4, fp4, rfl, hC, o4, lo_o4⟩
  have q17 : w7.heap.size ≤ w8.heap.size := hC.size
  replace x0a := hC.cell x0a
  replace x0b := hC.cell x0b
  replace y0a := hC.cell y0a
  replace y0b := hC.cell y0b
  replace o0 := o0.ext hC
  replace o1 := o1.ext hC
  replace o2 := o2.ext hC
  replace o3 := o3.ext hC
  replace hE := hE.tr hC
  clear hC
  have q18 : w.heap.size < w8.heap.size := lt_of_cell x0a
  have q19 : w4.heap.size < w8.heap.size := lt_of_cell y0a
  replace lo_o4 : ∀ g ∈ fp4, w7.heap.size + 0 ≤ g := fun g hg => by have := lo_o4 g hg; (try simp only [World.size_alloc] at this); omega
  have hi_o4 := o4.lt
  obtain ⟨ao4, co4, rfl⟩ := o4.form
  go_wp2_with fail
  refine (eqInt64S_any d2 d2 _ _ _ o3.rd o4.rd).mono ?_
  rintro e w9 ⟨rfl, hC⟩
  have q20 : w8.heap.size ≤ w9.heap.size := hC.size
  replace x0a := hC.cell x0a
  replace x0b := hC.cell x0b
  replace y0a := hC.cell y0a
  replace y0b := hC.cell y0b
  replace o0 := o0.ext hC
  replace o1 := o1.ext hC
  replace o2 := o2.ext hC
  replace o3 := o3.ext hC
  replace o4 := o4.ext hC
  replace hE := hE.tr hC
  clear hC
  have q21 : w.heap.size < w9.heap.size := lt_of_cell x0a
  have q22 : w4.heap.size < w9.heap.size := lt_of_cell y0a
  go_wp2_with fail
  go_ret
  exact ⟨rfl, hE⟩

set_option maxRecDepth 100000 in
theorem lifted (os : Os) (started : os.Started) (H : Type) (enc : TypeId × Value → H) :
    ReturnsInHanded {} Try.checked os 7 .any (Rows.fnExactHasTupleSpec.pre6 enc Try.prog Try.f7 Rows.fnExactHasTupleRow.domain false) (Rows.fnExactHasTupleSpec.post enc Try.prog Try.f7 false true false false) := by
  refine returnsInHanded_of_change (C := Try.checked) own_knob started (by kernel_rfl) Try.func7
    (ChangeSpec.witness6 (enc := enc) (C := Try.checked) false ⟨#[], #[.int .i64 0, .agg #[.int .i64 0, .slice none 0 0], .slice none 0 0], []⟩ 8 (by kernel_rfl) (by kernel_rfl) (by kernel_rfl) (by kernel_rfl)) ?_
  intro W base args ds gs before hval0 hW hcnd _
  have hval : ∀ (j : Nat) t v, Try.f7.params[j]? = some t → args[j]? = some v → Value.okWide Try.prog W .any base t v := hval0
  have hW' := hW
  obtain ⟨p, q, hA0, hV, rfl, hfz, hnd⟩ := hW
  have hA : DataW.TrodAll enc Try.prog W 0 (fun _ => true) true Try.f7.params.toList args.toList ds p := hA0
  rw [Try.params7] at hA hval
  obtain ⟨v0, v1, v2, d0, d1, d2, p0, p1, p2, rfl, rfl, rfl, k0, k1, k2⟩ := trodAll_three hA
  obtain ⟨rfl, rfl⟩ := trodVars_none hV
  clear hA0 hval0
  simp only [List.append_nil] at hW'
  obtain ⟨e0, rfl, lo0, hi0⟩ := int_of k0 (hval 0 _ _ rfl rfl)
  obtain ⟨e1, h1⟩ := dRel_of k1 (hval 1 _ _ rfl rfl)
  obtain ⟨e2, h2⟩ := dI_of k2 (hval 2 _ _ rfl rfl)
  refine (walk e0 e1 _ e2 _ W h1 h2 lo0 hi0).mono fun e W' ⟨he, hE⟩ => ?_
  subst he
  exact ⟨_, rfl, law_post rfl rfl (by kernel_rfl) hW' hE rfl rfl rfl⟩

theorem proved : Rows.FnExactHasTupleSaid :=
  OpenClaim.holds_of_wide 7 Try.f7 rfl rfl rfl rfl rfl rfl rfl ⟨rfl, rfl, rfl, rfl, rfl⟩ rfl rfl rfl rfl rfl (by kernel_rfl) Try.func7 (by kernel_rfl)
    (of_decide_eq_true (by kernel_rfl)) (by unfold Func.isWrapper; first | (rw [if_pos (by decide +kernel)]; kernel_rfl) | (rw [if_neg (by decide +kernel)]; exact ⟨rfl, rfl⟩))
    (fun os started H enc _ => lifted os started H enc)
end Go.Proofs.Ytohpjamngpphnaa.fnExactHasTuple
