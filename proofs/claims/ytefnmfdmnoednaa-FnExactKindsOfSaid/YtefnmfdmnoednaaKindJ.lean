
/- Kinds of operations, the program's way: isKind, IsOfKind, KindsOf. -/
import Derived.Test.YtefnmfdmnoednaaKindTer
import Derived.Test.YtefnmfdmnoednaaIRes
namespace Go.Proofs.Ytefnmfdmnoednaa
open Go.RowKit
set_option linter.unusedVariables false

set_option maxHeartbeats 1000000 in
theorem isSymmetric_any (s : Int) (f : Int × List Int) (v : Value) (w : World) (hr : RdOp w v f) (hf : SValidOp s f = true) :
    Calls Try.prog 144 #[.int .i64 s, v] w fun e w' => e = .returned (.bool (kSym s f)) ∧ Ext w w' := by
  have hmf : ∀ (fn : Fn) (first cap : Array Value) (w : World), (Instr.makeFunc fn first cap).run Try.prog w = .ok (.func fn first cap) w := fun _ _ _ _ => rfl
  obtain ⟨tv, rfl, hr'⟩ := hr
  obtain ⟨ta, tc, rfl⟩ := hr'.form
  have hr : RdOp w _ f := ⟨_, rfl, hr'⟩
  clear hr'
  obtain ⟨hv1, hv2, hv3, _⟩ := valid_iff.1 hf
  have hE1 : Ext w ((w.alloc (.cells #[.int .i64 s] 2)).alloc (.cells #[.int .i64 f.1, .slice ta f.2.length tc] 49)) := ((Ext.refl' w).alloc (Nat.le_refl _) _).alloc (by simp) _
  have b0 : ((w.alloc (.cells #[.int .i64 s] 2)).alloc (.cells #[.int .i64 f.1, .slice ta f.2.length tc] 49)).cell? ⟨w.heap.size, 0, none⟩ = some (.int .i64 s) := by simp [go_sem]
  have b1 : ((w.alloc (.cells #[.int .i64 s] 2)).alloc (.cells #[.int .i64 f.1, .slice ta f.2.length tc] 49)).cell? ⟨w.heap.size + 1, 0, none⟩ = some (.int .i64 f.1) := by simp [go_sem]
  have b2 : ((w.alloc (.cells #[.int .i64 s] 2)).alloc (.cells #[.int .i64 f.1, .slice ta f.2.length tc] 49)).cell? ⟨w.heap.size + 1, 1, none⟩ = some (.slice ta f.2.length tc) := by simp [go_sem]
  have HK := Lib.hid (show kSym s f = allL s f.1 (symP s f) from rfl)
  go_enter Try.func144, Try.ntmps144
  go_wp2_with fail
  refine (allLists_any s f.1 (symP s f) _ _ _ _ hv1.1 hv1.2 hv2.1 (by omega) Try.call178 ?_).mono ?_
  · intro k u fp w' hk hE hx hfp
    simp only [List.append_toArray, List.nil_append, List.cons_append]
    exact symFn_any s f _ _ _ k u w' (hr.ext (hE1.tr hE)) hf (hE.cell b0) (hE.cell b1) (hE.cell b2) hx.rd |>.mono fun _ _ ⟨h1, h2⟩ => ⟨h1, hE.tr h2⟩
  rintro e w2 ⟨rfl, hE⟩
  rw [← HK.out]
  go_wp2_with fail
  go_ret
  exact ⟨rfl, hE1.tr hE⟩
set_option maxHeartbeats 1000000 in
theorem isTernary_any (want : Int → Int → Int × Int × Int) (F : FuncId) (hcall : ∀ xs w, (callFunc F xs).run Try.prog w = .ok (.enter F xs) w) (hF : ∀ (x y : Int) (w : World), Calls Try.prog F #[.int .i64 x, .int .i64 y] w fun e w' => e = .returned (.agg #[.int .i64 (want x y).1, .int .i64 (want x y).2.1, .int .i64 (want x y).2.2]) ∧ Ext w w')
    (s : Int) (f : Int × List Int) (v : Value) (w : World) (hr : RdOp w v f) (hf : SValidOp s f = true) :
    Calls Try.prog 146 #[.int .i64 s, v, .func (.func F) #[] #[]] w fun e w' => e = .returned (.bool (kTer s f want)) ∧ Ext w w' := by
  have hmf : ∀ (fn : Fn) (first cap : Array Value) (w : World), (Instr.makeFunc fn first cap).run Try.prog w = .ok (.func fn first cap) w := fun _ _ _ _ => rfl
  obtain ⟨tv, rfl, hr'⟩ := hr
  obtain ⟨ta, tc, rfl⟩ := hr'.form
  have hr : RdOp w _ f := ⟨_, rfl, hr'⟩
  clear hr'
  obtain ⟨hv1, hv2, hv3, _⟩ := valid_iff.1 hf
  have hE1 : Ext w (((w.alloc (.cells #[.int .i64 s] 2)).alloc (.cells #[.int .i64 f.1, .slice ta f.2.length tc] 49)).alloc (.cells #[.func (.func F) #[] #[]] 142)) := (((Ext.refl' w).alloc (Nat.le_refl _) _).alloc (by simp) _).alloc (by simp; omega) _
  have b0 : (((w.alloc (.cells #[.int .i64 s] 2)).alloc (.cells #[.int .i64 f.1, .slice ta f.2.length tc] 49)).alloc (.cells #[.func (.func F) #[] #[]] 142)).cell? ⟨w.heap.size, 0, none⟩ = some (.int .i64 s) := by simp [go_sem]
  have b1 : (((w.alloc (.cells #[.int .i64 s] 2)).alloc (.cells #[.int .i64 f.1, .slice ta f.2.length tc] 49)).alloc (.cells #[.func (.func F) #[] #[]] 142)).cell? ⟨w.heap.size + 1, 0, none⟩ = some (.int .i64 f.1) := by simp [go_sem]
  have b2 : (((w.alloc (.cells #[.int .i64 s] 2)).alloc (.cells #[.int .i64 f.1, .slice ta f.2.length tc] 49)).alloc (.cells #[.func (.func F) #[] #[]] 142)).cell? ⟨w.heap.size + 1, 1, none⟩ = some (.slice ta f.2.length tc) := by simp [go_sem]
  have b3 : (((w.alloc (.cells #[.int .i64 s] 2)).alloc (.cells #[.int .i64 f.1, .slice ta f.2.length tc] 49)).alloc (.cells #[.func (.func F) #[] #[]] 142)).cell? ⟨w.heap.size + 1 + 1, 0, none⟩ = some (.func (.func F) #[] #[]) := by simp [go_sem]
  by_cases h3 : f.1 = 3
  · have hb : (f.1 == 3) = true := by simp [h3]
    have HK := Lib.hid (show kTer s f want = allL s 2 (terP s f want) from by unfold kTer; rw [decide_eq_true h3, Bool.true_and])
    have H3 := Lib.hid h3
    clear h3
    go_enter Try.func146, Try.ntmps146
    go_wp2_with fail
    refine (allLists_any s 2 (terP s f want) _ _ _ _ hv1.1 hv1.2 (by omega) (by omega) Try.call179 ?_).mono ?_
    · intro k u fp w' hk hE hx hfp
      simp only [List.append_toArray, List.nil_append, List.cons_append]
      exact terFn_any want F hcall hF s f _ _ _ k u w' (hr.ext (hE1.tr hE)) hf (hE.cell b0) (hE.cell b1) (hE.cell b2) _ (hE.cell b3) H3.out hx.rd |>.mono fun _ _ ⟨h1, h2⟩ => ⟨h1, hE.tr h2⟩
    rintro e w2 ⟨rfl, hE⟩
    rw [← HK.out]
    go_wp2_with fail
    go_ret
    exact ⟨rfl, hE1.tr hE⟩
  · have hb : (f.1 == 3) = false := by simp [h3]
    have HK := Lib.hid (show kTer s f want = false from by unfold kTer; rw [decide_eq_false h3, Bool.false_and])
    clear h3
    go_enter Try.func146, Try.ntmps146
    go_wp2_with fail
    go_ret
    exact ⟨ret_bool HK.out.symm, hE1⟩
set_option maxHeartbeats 4000000 in
set_option maxRecDepth 100000 in
theorem isKind_base (s : Int) (f : Int × List Int) (k : Int) (v : Value) (w : World) (hr : RdOp w v f) (hf : SValidOp s f = true) (hk6 : k ≠ 6) (h1 : 1 ≤ k) (h10 : k ≤ 10) :
    Calls Try.prog 84 #[.int .i64 s, v, .int .i64 k] w fun e w' => e = .returned (.bool (SKind s f k)) ∧ Ext w w' := by
  have hmf : ∀ (fn : Fn) (first cap : Array Value) (w : World), (Instr.makeFunc fn first cap).run Try.prog w = .ok (.func fn first cap) w := fun _ _ _ _ => rfl
  obtain ⟨tv, rfl, hr'⟩ := hr
  obtain ⟨ta, tc, rfl⟩ := hr'.form
  have hr : RdOp w _ f := ⟨_, rfl, hr'⟩
  clear hr'
  obtain ⟨hv1, hv2, hv3, _⟩ := valid_iff.1 hf
  have hE1 : Ext w ((w.alloc (.cells #[.int .i64 s] 2)).alloc (.cells #[.int .i64 f.1, .slice ta f.2.length tc] 49)) := ((Ext.refl' w).alloc (Nat.le_refl _) _).alloc (by simp) _
  have b0 : ((w.alloc (.cells #[.int .i64 s] 2)).alloc (.cells #[.int .i64 f.1, .slice ta f.2.length tc] 49)).cell? ⟨w.heap.size, 0, none⟩ = some (.int .i64 s) := by simp [go_sem]
  have b1 : ((w.alloc (.cells #[.int .i64 s] 2)).alloc (.cells #[.int .i64 f.1, .slice ta f.2.length tc] 49)).cell? ⟨w.heap.size + 1, 0, none⟩ = some (.int .i64 f.1) := by simp [go_sem]
  have b2 : ((w.alloc (.cells #[.int .i64 s] 2)).alloc (.cells #[.int .i64 f.1, .slice ta f.2.length tc] 49)).cell? ⟨w.heap.size + 1, 1, none⟩ = some (.slice ta f.2.length tc) := by simp [go_sem]
  have hrN := hr.ext hE1
  by_cases hk3 : k = 3
  · subst hk3
    have HK := Lib.hid (show SKind s f 3 = allL s 1 (idemP s f) from rfl)
    go_enter Try.func84, Try.ntmps84
    go_wp2_with fail
    refine (allLists_any s 1 (idemP s f) _ _ _ _ hv1.1 hv1.2 (by omega) (by omega) Try.call139 (by intro k u fp w' hk hE hx hfp; simp only [List.append_toArray, List.nil_append, List.cons_append]; exact idemFn_any s f _ _ _ k u w' (hrN.ext hE) hf (hE.cell b0) (hE.cell b1) (hE.cell b2) hx.rd |>.mono fun _ _ ⟨h1, h2⟩ => ⟨h1, hE.tr h2⟩)).mono ?_
    rintro e w2 ⟨rfl, hE⟩
    rw [← HK.out]
    go_wp2_with fail
    go_ret
    exact ⟨rfl, hE1.tr hE⟩
  by_cases hk4 : k = 4
  · subst hk4
    have HK := Lib.hid (show SKind s f 4 = allL s f.1 (consP s f) from rfl)
    go_enter Try.func84, Try.ntmps84
    go_wp2_with fail
    refine (allLists_any s f.1 (consP s f) _ _ _ _ hv1.1 hv1.2 hv2.1 (by omega) Try.call142 (by intro k u fp w' hk hE hx hfp; simp only [List.append_toArray, List.nil_append, List.cons_append]; exact consFn_any s f _ _ _ k u w' (hrN.ext hE) hf (hE.cell b0) (hE.cell b1) (hE.cell b2) hx.rd |>.mono fun _ _ ⟨h1, h2⟩ => ⟨h1, hE.tr h2⟩)).mono ?_
    rintro e w2 ⟨rfl, hE⟩
    rw [← HK.out]
    go_wp2_with fail
    go_ret
    exact ⟨rfl, hE1.tr hE⟩
  by_cases hk7 : k = 7
  · subst hk7
    have HK := Lib.hid (show SKind s f 7 = kTer s f wMaj from rfl)
    go_enter Try.func84, Try.ntmps84
    go_wp2_with fail
    refine (isTernary_any wMaj _ Try.call147 majW_any s f _ _ hrN hf).mono ?_
    rintro e w2 ⟨rfl, hE⟩
    rw [← HK.out]
    go_wp2_with fail
    go_ret
    exact ⟨rfl, hE1.tr hE⟩
  by_cases hk8 : k = 8
  · subst hk8
    have HK := Lib.hid (show SKind s f 8 = kTer s f wMin from rfl)
    go_enter Try.func84, Try.ntmps84
    go_wp2_with fail
    refine (isTernary_any wMin _ Try.call148 minW_any s f _ _ hrN hf).mono ?_
    rintro e w2 ⟨rfl, hE⟩
    rw [← HK.out]
    go_wp2_with fail
    go_ret
    exact ⟨rfl, hE1.tr hE⟩
  by_cases hk9 : k = 9
  · subst hk9
    have HK := Lib.hid (show SKind s f 9 = kTer s f wMal from rfl)
    go_enter Try.func84, Try.ntmps84
    go_wp2_with fail
    refine (isTernary_any wMal _ Try.call149 malW_any s f _ _ hrN hf).mono ?_
    rintro e w2 ⟨rfl, hE⟩
    rw [← HK.out]
    go_wp2_with fail
    go_ret
    exact ⟨rfl, hE1.tr hE⟩
  by_cases hk10 : k = 10
  · subst hk10
    have HK := Lib.hid (show SKind s f 10 = kSym s f from rfl)
    go_enter Try.func84, Try.ntmps84
    go_wp2_with fail
    refine (isSymmetric_any s f _ _ hrN hf).mono ?_
    rintro e w2 ⟨rfl, hE⟩
    rw [← HK.out]
    go_wp2_with fail
    go_ret
    exact ⟨rfl, hE1.tr hE⟩
  by_cases hk5 : k = 5
  · subst hk5
    by_cases h2 : f.1 = 2
    · have hb : (f.1 == 2) = true := by simp [h2]
      have HK := Lib.hid (show SKind s f 5 = kSym s f from by show kComm s f = _; unfold kComm; rw [decide_eq_true h2, Bool.true_and])
      clear h2
      go_enter Try.func84, Try.ntmps84
      go_wp2_with fail
      refine (isSymmetric_any s f _ _ hrN hf).mono ?_
      rintro e w2 ⟨rfl, hE⟩
      rw [← HK.out]
      go_wp2_with fail
      go_ret
      exact ⟨rfl, hE1.tr hE⟩
    · have hb : (f.1 == 2) = false := by simp [h2]
      have HK := Lib.hid (show SKind s f 5 = false from by show kComm s f = _; unfold kComm; rw [decide_eq_false h2, Bool.false_and])
      clear h2
      go_enter Try.func84, Try.ntmps84
      go_wp2_with fail
      go_ret
      exact ⟨ret_bool HK.out.symm, hE1⟩
  by_cases hk2 : k = 2
  · subst hk2
    have hl0 : 0 < f.2.length := by have := powW_small s f.1 hv1.1 hv1.2 hv2.1 (by omega); omega
    have hl1 : f.2.length ≤ 1048576 := by have := powW_small s f.1 hv1.1 hv1.2 hv2.1 (by omega); omega
    have HK := Lib.hid (show SKind s f 2 = ((riseL f.2).length == 1 : Bool) from by show kConst f = _; rw [kConst_rise hl0]; rfl)
    obtain ⟨tv', htv, hrd⟩ := hrN
    simp only [Value.agg.injEq, Array.mk.injEq, List.cons.injEq, and_true, true_and] at htv
    subst htv
    go_enter Try.func84, Try.ntmps84
    go_wp2_with fail
    refine (rising_any f.2 _ _ hrd hl0 hl1).mono ?_
    rintro e w2 ⟨u, fp, rfl, hE, ho, hfp⟩
    obtain ⟨ua, uc, rfl⟩ := ho.form
    go_wp2_with fail
    go_ret
    exact ⟨ret_bool (by rw [HK.out, Bool.eq_iff_iff]; simp; omega), hE1.tr hE⟩
  obtain rfl : k = 1 := by omega
  have HKK := Lib.hid (show SKind s f 1 = anyR f.1.toNat fun p : Nat => SSameOp f (SopOf s f.1 fun l => l.getD p 0) from rfl)
  have hq3 := powW_small s f.1 hv1.1 hv1.2 hv2.1 (by omega)
  have hsz1 : szOp f ≤ 1048576 := by unfold szOp; omega
  have hcn := count_eq s f.1 hv1.1 hv1.2 hv2.1 (by omega)
  have HSZ := Lib.hid (show ∀ j : Nat, szOp (SopOf s f.1 fun l => l.getD j 0) ≤ 1048576 from fun j => by show (tableOf s f.1 (fun l => l.getD j 0) (count s f.1)).length ≤ 1048576; rw [tableOf_length]; omega)
  clear hcn hq3 hv3
  go_enter Try.func84, Try.ntmps84
  go_wp2_with fail
  go_loopw [13] (fun i wr => ∃ j : Nat, j ≤ f.1.toNat ∧ i = .int .i64 j ∧ Ext ((w.alloc (.cells #[.int .i64 s] 2)).alloc (.cells #[.int .i64 f.1, .slice ta f.2.length tc] 49)) wr ∧ ∀ q, q < j → SSameOp f (SopOf s f.1 fun l => l.getD q 0) = false) (fun i _ => f.1.toNat - (intOf i).toNat)
  case atStart => exact ⟨0, by omega, rfl, Ext.refl' _, fun q hq => by omega⟩
  case round =>
    obtain ⟨j, hj, rfl, hE, ht⟩ := hrel
    have HT := Lib.hid ht
    clear ht
    by_cases hjl : j < f.1.toNat
    · have hjf : (j : Int) < f.1 := by omega
      have c0 := hE.cell b0
      have c1 := hE.cell b1
      have c2 := hE.cell b2
      have hrj := hrN.ext hE
      have HY := Lib.hid (fun h : SSameOp f (SopOf s f.1 fun l => l.getD j 0) = true => HKK.out.trans (anyR_yes (p := fun p : Nat => SSameOp f (SopOf s f.1 fun l => l.getD p 0)) hjl h))
      have HN := Lib.hid (show SSameOp f (SopOf s f.1 fun l => l.getD j 0) = false → ∀ q, q < j + 1 → SSameOp f (SopOf s f.1 fun l => l.getD q 0) = false from fun h q hq => if e : q = j then by rw [e]; exact h else HT.out q (by omega))
      have HS2 := Lib.hid (HSZ.out j)
      have hpr : ∀ y : World, Calls Try.prog 137 #[.int .i64 s, .int .i64 f.1, .int .i64 (j : Nat)] y fun e w' => ∃ u, e = .returned u ∧ Ext y w' ∧ ∃ fp, OwnOp w' u (SopOf s f.1 fun l => l.getD j 0) fp :=
        fun y => (projection_any s f.1 (j : Int) y hv1.1 hv1.2 hv2.1 (by omega) (by omega) hjf).mono fun _ _ ⟨u, fp, he, hE, ho, _⟩ => ⟨u, he, hE, fp, ho⟩
      generalize SopOf s f.1 (fun l => l.getD j 0) = G at hpr HY HN HS2
      cases hs : SSameOp f G with
      | true =>
        have HK := Lib.hid (HY.out hs)
        go_wp2_with fail
        go_wp2_with fail
        refine region_sp [] [] [SP.val (.agg #[.int .i64 f.1, .slice ta f.2.length tc]), SP.val (.int .i64 s), SP.val (.pointer (some ⟨(w.heap.size + 1), 0, none⟩)), SP.val (.int .i64 f.1), SP.val (.int .i64 (j : Nat)), SP.ownOp G, SP.val (.bool true)] (by kernel_rfl) (fun _ d _ _ _ h => by cases d <;> exact h) (by kernel_rfl) (by kernel_rfl)
          (.cons (fun vs y hY => Step.load ⟨(w.heap.size + 1), 0, none⟩ rfl rfl rfl (by simp [go_sem, hY.cell c1, hY.cell c2]) rfl) <|
           .cons (fun vs y hY => Step.load ⟨w.heap.size, 0, none⟩ rfl rfl rfl (by simp [go_sem, hY.cell c0]) rfl) <|
           .cons (fun vs y hY => Step.fieldAddr ⟨(w.heap.size + 1), 0, none⟩ rfl rfl rfl (by simp [go_sem]) rfl) <|
           .cons (fun vs y hY g2_0 => Step.load ⟨(w.heap.size + 1), 0, none⟩ rfl rfl g2_0 (by simp [go_sem, hY.cell c1]) rfl) <|
           .cons (fun vs y hY => Step.move rfl rfl rfl rfl) <|
           .cons (fun vs y hY g1_0 g3_1 g4_2 => Step.call Try.call137 rfl rfl [vs 1, vs 3, vs 4] rfl rfl (by rw [show vs 1 = _ from g1_0, show vs 3 = _ from g3_1, show vs 4 = _ from g4_2]; exact (hpr _))) <|
           .cons (fun vs y hY g0_0 g5_1 g5_2 => Step.call Try.call136 rfl rfl [vs 0, vs 5] rfl rfl (by rw [show vs 0 = _ from g0_0]; exact (Calls.spe (implSameOp_any f _ G _ _ (hrj.ext hY) (rdOp_of_sp g5_1) hsz1 HS2.out) (by rw [hs])))) <|
           .nil) ?_
        intro vs w3 hC hL
        have r0 : vs 0 = _ := hL 0 (by decide) rfl
        have r1 : vs 1 = _ := hL 1 (by decide) rfl
        have r2 : vs 2 = _ := hL 2 (by decide) rfl
        have r3 : vs 3 = _ := hL 3 (by decide) rfl
        have r4 : vs 4 = _ := hL 4 (by decide) rfl
        have r5 := hL 5 (by decide) rfl
        have r6 : vs 6 = _ := hL 6 (by decide) rfl
        clear hL
        simp only [putAll, Act.put, List.contains_nil, cond_false, List.setIfInBounds_toArray, List.set_cons_succ, List.set_cons_zero, List.filterMap_nil, r0, r1, r2, r3, r4, r6]
        clear r0 r1 r2 r3 r4 r6
        clear hs
        go_wp2_with fail
        go_ret
        exact ⟨ret_bool HK.out.symm, hE1.tr (hE.tr hC)⟩
      | false =>
        have HK := Lib.hid (HN.out hs)
        go_wp2_with fail
        go_wp2_with fail
        refine region_sp [] [] [SP.val (.agg #[.int .i64 f.1, .slice ta f.2.length tc]), SP.val (.int .i64 s), SP.val (.pointer (some ⟨(w.heap.size + 1), 0, none⟩)), SP.val (.int .i64 f.1), SP.val (.int .i64 (j : Nat)), SP.ownOp G, SP.val (.bool false)] (by kernel_rfl) (fun _ d _ _ _ h => by cases d <;> exact h) (by kernel_rfl) (by kernel_rfl)
          (.cons (fun vs y hY => Step.load ⟨(w.heap.size + 1), 0, none⟩ rfl rfl rfl (by simp [go_sem, hY.cell c1, hY.cell c2]) rfl) <|
           .cons (fun vs y hY => Step.load ⟨w.heap.size, 0, none⟩ rfl rfl rfl (by simp [go_sem, hY.cell c0]) rfl) <|
           .cons (fun vs y hY => Step.fieldAddr ⟨(w.heap.size + 1), 0, none⟩ rfl rfl rfl (by simp [go_sem]) rfl) <|
           .cons (fun vs y hY g2_0 => Step.load ⟨(w.heap.size + 1), 0, none⟩ rfl rfl g2_0 (by simp [go_sem, hY.cell c1]) rfl) <|
           .cons (fun vs y hY => Step.move rfl rfl rfl rfl) <|
           .cons (fun vs y hY g1_0 g3_1 g4_2 => Step.call Try.call137 rfl rfl [vs 1, vs 3, vs 4] rfl rfl (by rw [show vs 1 = _ from g1_0, show vs 3 = _ from g3_1, show vs 4 = _ from g4_2]; exact (hpr _))) <|
           .cons (fun vs y hY g0_0 g5_1 g5_2 => Step.call Try.call136 rfl rfl [vs 0, vs 5] rfl rfl (by rw [show vs 0 = _ from g0_0]; exact (Calls.spe (implSameOp_any f _ G _ _ (hrj.ext hY) (rdOp_of_sp g5_1) hsz1 HS2.out) (by rw [hs])))) <|
           .nil) ?_
        intro vs w3 hC hL
        have r0 : vs 0 = _ := hL 0 (by decide) rfl
        have r1 : vs 1 = _ := hL 1 (by decide) rfl
        have r2 : vs 2 = _ := hL 2 (by decide) rfl
        have r3 : vs 3 = _ := hL 3 (by decide) rfl
        have r4 : vs 4 = _ := hL 4 (by decide) rfl
        have r5 := hL 5 (by decide) rfl
        have r6 : vs 6 = _ := hL 6 (by decide) rfl
        clear hL
        simp only [putAll, Act.put, List.contains_nil, cond_false, List.setIfInBounds_toArray, List.set_cons_succ, List.set_cons_zero, List.filterMap_nil, r0, r1, r2, r3, r4, r6]
        clear r0 r1 r2 r3 r4 r6
        clear hs
        go_wp2_with fail
        go_roundw
        case rel => exact ⟨j + 1, by omega, by go_num, hE.tr hC, HK.out⟩
        case measure => simp [intOf]; omega
    · have HK := Lib.hid (HKK.out.trans (anyR_no fun q hq => HT.out q (by omega)))
      go_wp2_with fail
      go_ret
      exact ⟨ret_bool HK.out.symm, hE1.tr hE⟩
set_option maxHeartbeats 2000000 in
set_option maxRecDepth 100000 in
theorem isKind_any (s : Int) (f : Int × List Int) (k : Int) (v : Value) (w : World) (hr : RdOp w v f) (hf : SValidOp s f = true) (h1 : 1 ≤ k) (h10 : k ≤ 10) :
    Calls Try.prog 84 #[.int .i64 s, v, .int .i64 k] w fun e w' => e = .returned (.bool (SKind s f k)) ∧ Ext w w' := by
  by_cases hk6 : k = 6
  · subst hk6
    have hmf : ∀ (fn : Fn) (first cap : Array Value) (w : World), (Instr.makeFunc fn first cap).run Try.prog w = .ok (.func fn first cap) w := fun _ _ _ _ => rfl
    obtain ⟨tv, rfl, hr'⟩ := hr
    obtain ⟨ta, tc, rfl⟩ := hr'.form
    have hr : RdOp w _ f := ⟨_, rfl, hr'⟩
    clear hr'
    obtain ⟨hv1, hv2, hv3, _⟩ := valid_iff.1 hf
    have hE1 : Ext w ((w.alloc (.cells #[.int .i64 s] 2)).alloc (.cells #[.int .i64 f.1, .slice ta f.2.length tc] 49)) := ((Ext.refl' w).alloc (Nat.le_refl _) _).alloc (by simp) _
    have b0 : ((w.alloc (.cells #[.int .i64 s] 2)).alloc (.cells #[.int .i64 f.1, .slice ta f.2.length tc] 49)).cell? ⟨w.heap.size, 0, none⟩ = some (.int .i64 s) := by simp [go_sem]
    have b1 : ((w.alloc (.cells #[.int .i64 s] 2)).alloc (.cells #[.int .i64 f.1, .slice ta f.2.length tc] 49)).cell? ⟨w.heap.size + 1, 0, none⟩ = some (.int .i64 f.1) := by simp [go_sem]
    have b2 : ((w.alloc (.cells #[.int .i64 s] 2)).alloc (.cells #[.int .i64 f.1, .slice ta f.2.length tc] 49)).cell? ⟨w.heap.size + 1, 1, none⟩ = some (.slice ta f.2.length tc) := by simp [go_sem]
    have hrN := hr.ext hE1
    have HK := Lib.hid (show SKind s f 6 = (kIdem s f && kComm s f && kAss s f) from rfl)
    cases hi : kIdem s f with
    | false =>
      have HK2 := Lib.hid (show SKind s f 6 = false from by rw [HK.out, hi]; rfl)
      go_enter Try.func84, Try.ntmps84
      go_wp2_with fail
      refine (isKind_base s f 3 _ _ hrN hf (by decide) (by decide) (by decide)).mono ?_
      rintro e w2 ⟨rfl, hE⟩
      rw [show SKind s f 3 = kIdem s f from rfl, hi]
      clear hi
      go_wp2_with fail
      go_ret
      exact ⟨ret_bool HK2.out.symm, hE1.tr hE⟩
    | true =>
      cases hc : kComm s f with
      | false =>
        have HK2 := Lib.hid (show SKind s f 6 = false from by rw [HK.out, hi, hc]; rfl)
        go_enter Try.func84, Try.ntmps84
        go_wp2_with fail
        refine (isKind_base s f 3 _ _ hrN hf (by decide) (by decide) (by decide)).mono ?_
        rintro e w2 ⟨rfl, hE⟩
        rw [show SKind s f 3 = kIdem s f from rfl, hi]
        clear hi
        have c0 := hE.cell b0
        have c1 := hE.cell b1
        have c2 := hE.cell b2
        go_wp2_with fail
        refine (isKind_base s f 5 _ _ (hrN.ext hE) hf (by decide) (by decide) (by decide)).mono ?_
        rintro e w3 ⟨rfl, hE2⟩
        rw [show SKind s f 5 = kComm s f from rfl, hc]
        replace hE2 := hE.tr hE2
        clear hc
        go_wp2_with fail
        go_ret
        exact ⟨ret_bool HK2.out.symm, hE1.tr hE2⟩
      | true =>
        have h2 : f.1 = 2 := by
          unfold kComm at hc
          exact of_decide_eq_true (Bool.and_eq_true_iff.1 hc).1
        have H2 := Lib.hid h2
        clear h2
        have HK2 := Lib.hid (show SKind s f 6 = allL s 3 (assP s f) from by rw [HK.out, hi, hc]; rfl)
        go_enter Try.func84, Try.ntmps84
        go_wp2_with fail
        refine (isKind_base s f 3 _ _ hrN hf (by decide) (by decide) (by decide)).mono ?_
        rintro e w2 ⟨rfl, hE⟩
        rw [show SKind s f 3 = kIdem s f from rfl, hi]
        clear hi
        have c0 := hE.cell b0
        have c1 := hE.cell b1
        have c2 := hE.cell b2
        go_wp2_with fail
        refine (isKind_base s f 5 _ _ (hrN.ext hE) hf (by decide) (by decide) (by decide)).mono ?_
        rintro e w3 ⟨rfl, hE2⟩
        rw [show SKind s f 5 = kComm s f from rfl, hc]
        replace hE2 := hE.tr hE2
        clear hc
        have d0 := hE2.cell b0
        have d1 := hE2.cell b1
        have d2 := hE2.cell b2
        have hrM := hrN.ext hE2
        go_wp2_with fail
        refine (allLists_any s 3 (assP s f) _ _ _ _ hv1.1 hv1.2 (by omega) (by omega) Try.call145 ?_).mono ?_
        · intro k u fp w' hk hE3 hx hfp
          simp only [List.append_toArray, List.nil_append, List.cons_append]
          exact assFn_any s f _ _ _ k u w' (hrM.ext hE3) hf (hE3.cell d0) (hE3.cell d1) (hE3.cell d2) H2.out hx.rd |>.mono fun _ _ ⟨h1, h2⟩ => ⟨h1, hE3.tr h2⟩
        rintro e w4 ⟨rfl, hE4⟩
        rw [← HK2.out]
        go_wp2_with fail
        go_ret
        exact ⟨rfl, hE1.tr (hE2.tr hE4)⟩
  · exact isKind_base s f k v w hr hf hk6 h1 h10
theorem sk_1 {s : Int} {f : Int × List Int} {k : Int} (h : SValidOp s f = false) : SIsOfKind s f k = (false, 1) := by unfold SIsOfKind; rw [h]; rfl
theorem sk_2 {s : Int} {f : Int × List Int} {k : Int} (h : SValidOp s f = true) (h2 : inB k 1 10 = false) : SIsOfKind s f k = (false, 2) := by unfold SIsOfKind; rw [h, h2]; rfl
theorem sk_0 {s : Int} {f : Int × List Int} {k : Int} (h : SValidOp s f = true) (h2 : inB k 1 10 = true) : SIsOfKind s f k = (SKind s f k, 0) := by unfold SIsOfKind; rw [h, h2]; rfl
set_option maxHeartbeats 1000000 in
set_option maxRecDepth 100000 in
theorem implIsOfKind_any (s : Int) (f : Int × List Int) (v : Value) (k : Int) (w : World) (hr : RdOp w v f) (_ : -9223372036854775808 ≤ s) (_ : s ≤ 9223372036854775807) (_ : -9223372036854775808 ≤ k) (_ : k ≤ 9223372036854775807) (_ : szOp f ≤ 1048576) :
    Calls Try.prog 31 #[.int .i64 s, v, .int .i64 k] w fun e w' => e = .returned (.tuple #[.bool (SIsOfKind s f k).1, .int .i64 (SIsOfKind s f k).2]) ∧ Ext w w' := by
  obtain ⟨tv, rfl, hr'⟩ := hr
  obtain ⟨ta, tc, rfl⟩ := hr'.form
  have hr : RdOp w _ f := ⟨_, rfl, hr'⟩
  clear hr'
  have hE1 : Ext w (w.alloc (.cells #[.int .i64 f.1, .slice ta f.2.length tc] 49)) := (Ext.refl' w).alloc (Nat.le_refl _) _
  cases h1 : SValidOp s f with
  | false =>
    rw [sk_1 h1]
    go_enter Try.func31, Try.ntmps31
    go_wp2_with fail
    refine (implValidOp_ok s f _ _ (hr.ext hE1)).mono ?_
    rintro e w1 ⟨rfl, hE⟩
    rw [h1]
    have b0 := hE.cell (p := ⟨w.heap.size, 0, none⟩) (v := .int .i64 f.1) (by simp [go_sem])
    have b1 := hE.cell (p := ⟨w.heap.size, 1, none⟩) (v := .slice ta f.2.length tc) (by simp [go_sem])
    replace hE := hE1.tr hE
    go_wp2_with fail
    go_ret2
    exact ⟨rfl, hE⟩
  | true =>
    cases h2 : inB k 1 10 with
    | false =>
      rw [sk_2 h1 h2]
      go_enter Try.func31, Try.ntmps31
      go_wp2_with fail
      refine (implValidOp_ok s f _ _ (hr.ext hE1)).mono ?_
      rintro e w1 ⟨rfl, hE⟩
      rw [h1]
      have b0 := hE.cell (p := ⟨w.heap.size, 0, none⟩) (v := .int .i64 f.1) (by simp [go_sem])
      have b1 := hE.cell (p := ⟨w.heap.size, 1, none⟩) (v := .slice ta f.2.length tc) (by simp [go_sem])
      replace hE := hE1.tr hE
      go_wp2_with fail
      refine (isKd_any k _).mono ?_
      rintro e w2 ⟨rfl, rfl⟩
      rw [h2]
      go_wp2_with fail
      go_ret2
      exact ⟨rfl, hE⟩
    | true =>
      rw [sk_0 h1 h2]
      have hb := inB_iff.1 h2
      go_enter Try.func31, Try.ntmps31
      go_wp2_with fail
      refine (implValidOp_ok s f _ _ (hr.ext hE1)).mono ?_
      rintro e w1 ⟨rfl, hE⟩
      rw [h1]
      have b0 := hE.cell (p := ⟨w.heap.size, 0, none⟩) (v := .int .i64 f.1) (by simp [go_sem])
      have b1 := hE.cell (p := ⟨w.heap.size, 1, none⟩) (v := .slice ta f.2.length tc) (by simp [go_sem])
      replace hE := hE1.tr hE
      go_wp2_with fail
      refine (isKd_any k _).mono ?_
      rintro e w2 ⟨rfl, rfl⟩
      rw [h2]
      have H1 := Lib.hid h1
      clear h1 h2
      go_wp2_with fail
      refine (isKind_any s f k _ _ (hr.ext hE) H1.out hb.1 hb.2).mono ?_
      rintro e w3 ⟨rfl, hE3⟩
      go_wp2_with fail
      go_ret2
      exact ⟨rfl, hE.tr hE3⟩
end Go.Proofs.Ytefnmfdmnoednaa
