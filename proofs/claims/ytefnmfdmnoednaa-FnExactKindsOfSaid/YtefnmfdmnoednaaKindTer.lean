
/- Kinds of operations of three places, the program's way. -/
import Derived.Test.YtefnmfdmnoednaaKindI
namespace Go.Proofs.Ytefnmfdmnoednaa
open Go.RowKit
set_option linter.unusedVariables false

/-- a pointer at a new array of three numbers -/
def SP.arr3 (B : Nat) : SP := ⟨fun v w => ∃ b, v = .pointer (some ⟨b, 0, none⟩) ∧ B ≤ b ∧ w.cell? ⟨b, 0, none⟩ = some (.int .i64 0) ∧ w.cell? ⟨b, 1, none⟩ = some (.int .i64 0) ∧ w.cell? ⟨b, 2, none⟩ = some (.int .i64 0) ∧ ∀ j, w.frozen? ⟨b, j, none⟩ = false,
  fun _ _ _ ⟨b, h1, h2, h3, h4, h5, h6⟩ hE => ⟨b, h1, h2, hE.cell h3, hE.cell h4, hE.cell h5, fun j => (hE.frozen (p := ⟨b, j, none⟩) (lt_of_cell (p := ⟨b, 0, none⟩) h3)).trans (h6 j)⟩⟩
theorem Step.arr3 {B : Nat} {P : Program} {ops : List Oper} {o : Oper} {ρ : Operand → Value} {w : World} {e : TypeId} (hg : o.guard = none) (hop : o.op = .alloc e) (hr : (Instr.alloc e true (.tuple #[])).run P w = .ok (.pointer (some ⟨w.heap.size, 0, none⟩)) (w.alloc (.cells #[.int .i64 0, .int .i64 0, .int .i64 0] e))) (hB : B ≤ w.heap.size) : Step P ops o ρ w (SP.arr3 B).R :=
  Step.alloc hg hop hr ⟨_, rfl, hB, by simp [go_sem], by simp [go_sem], by simp [go_sem], fun j => by simp [go_sem]⟩
theorem majW_any (x y : Int) (w : World) : Calls Try.prog 147 #[.int .i64 x, .int .i64 y] w fun e w' => e = .returned (.agg #[.int .i64 (wMaj x y).1, .int .i64 (wMaj x y).2.1, .int .i64 (wMaj x y).2.2]) ∧ Ext w w' := by
  go_enter Try.func147, Try.ntmps147
  go_wp2_with fail
  exact bodyPost_ret (v := .agg #[.int .i64 (wMaj x y).1, .int .i64 (wMaj x y).2.1, .int .i64 (wMaj x y).2.2]) (by simp [results, Try.results147, go_sem, wMaj]) rfl ⟨rfl, (Ext.refl' w).alloc (Nat.le_refl _) _⟩
theorem minW_any (x y : Int) (w : World) : Calls Try.prog 148 #[.int .i64 x, .int .i64 y] w fun e w' => e = .returned (.agg #[.int .i64 (wMin x y).1, .int .i64 (wMin x y).2.1, .int .i64 (wMin x y).2.2]) ∧ Ext w w' := by
  go_enter Try.func148, Try.ntmps148
  go_wp2_with fail
  exact bodyPost_ret (v := .agg #[.int .i64 (wMin x y).1, .int .i64 (wMin x y).2.1, .int .i64 (wMin x y).2.2]) (by simp [results, Try.results148, go_sem, wMin]) rfl ⟨rfl, (Ext.refl' w).alloc (Nat.le_refl _) _⟩
theorem malW_any (x y : Int) (w : World) : Calls Try.prog 149 #[.int .i64 x, .int .i64 y] w fun e w' => e = .returned (.agg #[.int .i64 (wMal x y).1, .int .i64 (wMal x y).2.1, .int .i64 (wMal x y).2.2]) ∧ Ext w w' := by
  go_enter Try.func149, Try.ntmps149
  go_wp2_with fail
  exact bodyPost_ret (v := .agg #[.int .i64 (wMal x y).1, .int .i64 (wMal x y).2.1, .int .i64 (wMal x y).2.2]) (by simp [results, Try.results149, go_sem, wMal]) rfl ⟨rfl, (Ext.refl' w).alloc (Nat.le_refl _) _⟩
set_option maxHeartbeats 4000000 in
set_option maxRecDepth 100000 in
theorem terFn_any (want : Int → Int → Int × Int × Int) (F : FuncId) (hcall : ∀ xs w, (callFunc F xs).run Try.prog w = .ok (.enter F xs) w) (hF : ∀ (x y : Int) (w : World), Calls Try.prog F #[.int .i64 x, .int .i64 y] w fun e w' => e = .returned (.agg #[.int .i64 (want x y).1, .int .i64 (want x y).2.1, .int .i64 (want x y).2.2]) ∧ Ext w w')
    (s : Int) (f : Int × List Int) (tv : Value) (bs bf k : Nat) (x : Value) (w : World) (hr : RdOp w (.agg #[.int .i64 f.1, tv]) f) (hf : SValidOp s f = true) (c0 : w.cell? ⟨bs, 0, none⟩ = some (.int .i64 s)) (c1 : w.cell? ⟨bf, 0, none⟩ = some (.int .i64 f.1)) (c2 : w.cell? ⟨bf, 1, none⟩ = some tv)
    (bw : Nat) (c3 : w.cell? ⟨bw, 0, none⟩ = some (.func (.func F) #[] #[])) (hf3 : f.1 = 3) (hx : RdI w x (digs s 2 k)) : Calls Try.prog 179 #[x, .pointer (some ⟨bf, 0, none⟩), .pointer (some ⟨bs, 0, none⟩), .pointer (some ⟨bw, 0, none⟩)] w fun e w' => e = .returned (.bool (terP s f want (digs s 2 k))) ∧ Ext w w' := by
  obtain ⟨hv1, hv2, _, _⟩ := valid_iff.1 hf
  have hdv := digs_vals' hv1.1 2 k
  obtain ⟨x0, y0, hx0⟩ := digs_two s k
  rw [hx0] at hx hdv ⊢
  clear hx0
  have b0 := hdv x0 (by simp)
  have b1 := hdv y0 (by simp)
  have three : ∀ {a c d : Int}, (0 ≤ a ∧ a < s) → (0 ≤ c ∧ c < s) → (0 ≤ d ∧ d < s) → (([a, c, d] : List Int).length : Int) = f.1 ∧ ∀ z ∈ [a, c, d], 0 ≤ z ∧ z < s := fun {a c d} ha hc hd => ⟨by simp [hf3], fun z hz => by
    simp at hz
    rcases hz with rfl | rfl | rfl
    · exact ha
    · exact hc
    · exact hd⟩
  have HA := Lib.hid (three b0 b0 b1)
  have HB := Lib.hid (three b0 b1 b0)
  have HC := Lib.hid (three b1 b0 b0)
  have hFF := hF x0 y0
  have HP := Lib.hid (show terP s f want [x0, y0] = ((decide ((want x0 y0).1 < 0) || decide (apply s f [x0, x0, y0] = (want x0 y0).1)) && (decide ((want x0 y0).2.1 < 0) || decide (apply s f [x0, y0, x0] = (want x0 y0).2.1)) && (decide ((want x0 y0).2.2 < 0) || decide (apply s f [y0, x0, x0] = (want x0 y0).2.2))) from rfl)
  generalize (want x0 y0).1 = n0 at hFF HP
  generalize (want x0 y0).2.1 = n1 at hFF HP
  generalize (want x0 y0).2.2 = n2 at hFF HP
  have hbw : bw < w.heap.size := lt_of_cell c3
  obtain ⟨b, off, c, rfl, hc1, hc0, hc1'⟩ := rdI_two hx
  clear hdv three
  go_enter Try.func179, Try.ntmps179
  go_wp2_with fail
  refine region_sp [] [] [SP.val (.slice (some ⟨b, off, none⟩) 2 c), SP.val (.pointer (some ⟨b, off, none⟩)), SP.val (.int .i64 x0), SP.val (.slice (some ⟨b, off, none⟩) 2 c), SP.val (.pointer (some ⟨b, off + 1, none⟩)), SP.val (.int .i64 y0), SP.val (.int .i64 x0), SP.val (.int .i64 y0)] (by kernel_rfl) (fun _ d _ _ _ h => by cases d <;> exact h) (by kernel_rfl) (by kernel_rfl)
    (.cons (fun vs y hY => Step.move rfl rfl rfl rfl) <|
     .cons (fun vs y hY g0_0 => Step.indexAtP (n := .int .i64 0) ⟨b, off, none⟩ rfl rfl g0_0 rfl (by simp [go_sem, Instr.indexAt, Addr.add] <;> omega) rfl) <|
     .cons (fun vs y hY g1_0 => Step.load ⟨b, off, none⟩ rfl rfl g1_0 (by simp [go_sem, hY.cell hc0]) rfl) <|
     .cons (fun vs y hY => Step.move rfl rfl rfl rfl) <|
     .cons (fun vs y hY g3_0 => Step.indexAtP (n := .int .i64 1) ⟨b, off + 1, none⟩ rfl rfl g3_0 rfl (by simp [go_sem, Instr.indexAt, Addr.add] <;> omega) rfl) <|
     .cons (fun vs y hY g4_0 => Step.load ⟨b, off + 1, none⟩ rfl rfl g4_0 (by simp [go_sem, hY.cell hc1']) rfl) <|
     .cons (fun vs y hY g2_0 g0_1 g1_2 g2_3 => Step.assign rfl rfl g2_0 rfl) <|
     .cons (fun vs y hY g5_0 g6_1 g0_2 g1_3 g2_4 g3_5 g4_6 g5_7 g6_8 => Step.assign rfl rfl g5_0 rfl) <|
     .nil) ?_
  intro vs w1 hC hL
  have r0 : vs 0 = _ := hL 0 (by decide) rfl
  have r1 : vs 1 = _ := hL 1 (by decide) rfl
  have r2 : vs 2 = _ := hL 2 (by decide) rfl
  have r3 : vs 3 = _ := hL 3 (by decide) rfl
  have r4 : vs 4 = _ := hL 4 (by decide) rfl
  have r5 : vs 5 = _ := hL 5 (by decide) rfl
  have r6 : vs 6 = _ := hL 6 (by decide) rfl
  have r7 : vs 7 = _ := hL 7 (by decide) rfl
  clear hL
  simp only [putAll, Act.put, List.contains_nil, cond_false, List.setIfInBounds_toArray, List.set_cons_succ, List.set_cons_zero, List.filterMap_nil, r0, r1, r2, r3, r4, r5, r6, r7]
  clear r0 r1 r2 r3 r4 r5 r6 r7
  have hE1 := hC
  have c0 := hC.cell c0
  have c1 := hC.cell c1
  have c2 := hC.cell c2
  replace c3 := hC.cell c3
  have hr := hr.ext hC
  clear hC hc0 hc1' hx
  go_wp2_with fail
  refine region_sp [] [23] [SP.val (.agg #[.int .i64 f.1, tv]), SP.val (.int .i64 s), SP.val (.int .i64 x0), SP.val (.int .i64 x0), SP.val (.int .i64 y0), SP.ownIb w1.heap.size [x0, x0, y0], SP.val (.int .i64 (apply s f [x0, x0, y0])), SP.val (.agg #[.int .i64 f.1, tv]), SP.val (.int .i64 s), SP.val (.int .i64 x0), SP.val (.int .i64 y0), SP.val (.int .i64 x0), SP.ownIb w1.heap.size [x0, y0, x0], SP.val (.int .i64 (apply s f [x0, y0, x0])), SP.val (.agg #[.int .i64 f.1, tv]), SP.val (.int .i64 s), SP.val (.int .i64 y0), SP.val (.int .i64 x0), SP.val (.int .i64 x0), SP.ownIb w1.heap.size [y0, x0, x0], SP.val (.int .i64 (apply s f [y0, x0, x0])), SP.val (.agg #[.int .i64 (apply s f [x0, x0, y0]), .int .i64 (apply s f [x0, y0, x0]), .int .i64 (apply s f [y0, x0, x0])]), SP.arr3 w1.heap.size, SP.any] (by kernel_rfl) (fun _ d _ _ _ h => by cases d <;> exact h) (by kernel_rfl) (by kernel_rfl)
    (.cons (fun vs y hY => Step.load ⟨bf, 0, none⟩ rfl rfl rfl (by simp [go_sem, hY.cell c1, hY.cell c2]) rfl) <|
     .cons (fun vs y hY => Step.load ⟨bs, 0, none⟩ rfl rfl rfl (by simp [go_sem, hY.cell c0]) rfl) <|
     .cons (fun vs y hY => Step.move rfl rfl rfl rfl) <|
     .cons (fun vs y hY => Step.move rfl rfl rfl rfl) <|
     .cons (fun vs y hY => Step.move rfl rfl rfl rfl) <|
     .cons (fun vs y hY g2_0 g3_1 g4_2 => Step.buildSlice3 (e := 2) rfl rfl g2_0 g3_1 g4_2 (by simp [go_sem]) ⟨_, OI_three _ _ _ _, by simp; exact hY.size⟩) <|
     .cons (fun vs y hY g0_0 g1_1 g5_2 => Step.call Try.call140 rfl rfl [vs 0, vs 1, vs 5] rfl rfl (by rw [show vs 0 = _ from g0_0, show vs 1 = _ from g1_1]; exact (Calls.spe (opAt_any s f _ _ _ _ (hr.ext hY) (rdI_of_spb g5_2) hf HA.out.1 HA.out.2)))) <|
     .cons (fun vs y hY => Step.load ⟨bf, 0, none⟩ rfl rfl rfl (by simp [go_sem, hY.cell c1, hY.cell c2]) rfl) <|
     .cons (fun vs y hY => Step.load ⟨bs, 0, none⟩ rfl rfl rfl (by simp [go_sem, hY.cell c0]) rfl) <|
     .cons (fun vs y hY => Step.move rfl rfl rfl rfl) <|
     .cons (fun vs y hY => Step.move rfl rfl rfl rfl) <|
     .cons (fun vs y hY => Step.move rfl rfl rfl rfl) <|
     .cons (fun vs y hY g9_0 g10_1 g11_2 => Step.buildSlice3 (e := 2) rfl rfl g9_0 g10_1 g11_2 (by simp [go_sem]) ⟨_, OI_three _ _ _ _, by simp; exact hY.size⟩) <|
     .cons (fun vs y hY g7_0 g8_1 g12_2 g6_3 => Step.call Try.call140 rfl rfl [vs 7, vs 8, vs 12] rfl rfl (by rw [show vs 7 = _ from g7_0, show vs 8 = _ from g8_1]; exact (Calls.spe (opAt_any s f _ _ _ _ (hr.ext hY) (rdI_of_spb g12_2) hf HB.out.1 HB.out.2)))) <|
     .cons (fun vs y hY => Step.load ⟨bf, 0, none⟩ rfl rfl rfl (by simp [go_sem, hY.cell c1, hY.cell c2]) rfl) <|
     .cons (fun vs y hY => Step.load ⟨bs, 0, none⟩ rfl rfl rfl (by simp [go_sem, hY.cell c0]) rfl) <|
     .cons (fun vs y hY => Step.move rfl rfl rfl rfl) <|
     .cons (fun vs y hY => Step.move rfl rfl rfl rfl) <|
     .cons (fun vs y hY => Step.move rfl rfl rfl rfl) <|
     .cons (fun vs y hY g16_0 g17_1 g18_2 => Step.buildSlice3 (e := 2) rfl rfl g16_0 g17_1 g18_2 (by simp [go_sem]) ⟨_, OI_three _ _ _ _, by simp; exact hY.size⟩) <|
     .cons (fun vs y hY g14_0 g15_1 g19_2 g13_3 => Step.call Try.call140 rfl rfl [vs 14, vs 15, vs 19] rfl rfl (by rw [show vs 14 = _ from g14_0, show vs 15 = _ from g15_1]; exact (Calls.spe (opAt_any s f _ _ _ _ (hr.ext hY) (rdI_of_spb g19_2) hf HC.out.1 HC.out.2)))) <|
     .cons (fun vs y hY g6_0 g13_1 g20_2 => Step.build3 rfl rfl g6_0 g13_1 g20_2 (by simp [go_sem]) rfl) <|
     .cons (fun vs y hY => Step.arr3 rfl rfl (by simp [go_sem]) hY.size) <|
     .skip rfl <|
     .nil) ?_
  intro vs w2 hC hL
  have r0 : vs 0 = _ := hL 0 (by decide) rfl
  have r1 : vs 1 = _ := hL 1 (by decide) rfl
  have r2 : vs 2 = _ := hL 2 (by decide) rfl
  have r3 : vs 3 = _ := hL 3 (by decide) rfl
  have r4 : vs 4 = _ := hL 4 (by decide) rfl
  have r5 := hL 5 (by decide) rfl
  have r6 : vs 6 = _ := hL 6 (by decide) rfl
  have r7 : vs 7 = _ := hL 7 (by decide) rfl
  have r8 : vs 8 = _ := hL 8 (by decide) rfl
  have r9 : vs 9 = _ := hL 9 (by decide) rfl
  have r10 : vs 10 = _ := hL 10 (by decide) rfl
  have r11 : vs 11 = _ := hL 11 (by decide) rfl
  have r12 := hL 12 (by decide) rfl
  have r13 : vs 13 = _ := hL 13 (by decide) rfl
  have r14 : vs 14 = _ := hL 14 (by decide) rfl
  have r15 : vs 15 = _ := hL 15 (by decide) rfl
  have r16 : vs 16 = _ := hL 16 (by decide) rfl
  have r17 : vs 17 = _ := hL 17 (by decide) rfl
  have r18 : vs 18 = _ := hL 18 (by decide) rfl
  have r19 := hL 19 (by decide) rfl
  have r20 : vs 20 = _ := hL 20 (by decide) rfl
  have r21 : vs 21 = _ := hL 21 (by decide) rfl
  have r22 := hL 22 (by decide) rfl
  clear hL
  simp only [putAll, Act.put, List.contains_cons, List.contains_nil, Nat.reduceBEq, Nat.reduceAdd, Bool.or_false, cond_true, cond_false, List.setIfInBounds_toArray, List.set_cons_succ, List.set_cons_zero, List.filterMap_cons, List.filterMap_nil, List.getElem?_cons_succ, List.getElem?_cons_zero, r0, r1, r2, r3, r4, r6, r7, r8, r9, r10, r11, r13, r14, r15, r16, r17, r18, r20, r21]
  clear r0 r1 r2 r3 r4 r6 r7 r8 r9 r10 r11 r13 r14 r15 r16 r17 r18 r20 r21
  have hE2 := hE1.tr hC
  replace c3 := hC.cell c3
  generalize apply s f [x0, x0, y0] = g0 at HP ⊢
  generalize apply s f [x0, y0, x0] = g1 at HP ⊢
  generalize apply s f [y0, x0, x0] = g2 at HP ⊢
  clear hC c0 c1 c2 hr HA HB HC r5 r12 r19
  obtain ⟨ba, rb, hba, z0, z1, z2, zf⟩ := r22
  have hsz := hE1.size
  have hba2 : ba < w2.heap.size := lt_of_cell z0
  rw [rb]
  clear rb
  have nb : ba ≠ bw := by omega
  have c3' : (((w2.setCell ⟨ba, 0, none⟩ (.int .i64 g0)).setCell ⟨ba, 1, none⟩ (.int .i64 g1)).setCell ⟨ba, 2, none⟩ (.int .i64 g2)).cell? ⟨bw, 0, none⟩ = some (.func (.func F) #[] #[]) := cell_set (cell_set (cell_set c3 (.inl nb)) (.inl nb)) (.inl nb)
  have a0 : (((w2.setCell ⟨ba, 0, none⟩ (.int .i64 g0)).setCell ⟨ba, 1, none⟩ (.int .i64 g1)).setCell ⟨ba, 2, none⟩ (.int .i64 g2)).cell? ⟨ba, 0, none⟩ = some (.int .i64 g0) := cell_set (cell_set (cell_same z0) (by simp)) (by simp)
  have a1 : (((w2.setCell ⟨ba, 0, none⟩ (.int .i64 g0)).setCell ⟨ba, 1, none⟩ (.int .i64 g1)).setCell ⟨ba, 2, none⟩ (.int .i64 g2)).cell? ⟨ba, 1, none⟩ = some (.int .i64 g1) := cell_set (cell_same (cell_set z1 (by simp))) (by simp)
  have a2 : (((w2.setCell ⟨ba, 0, none⟩ (.int .i64 g0)).setCell ⟨ba, 1, none⟩ (.int .i64 g1)).setCell ⟨ba, 2, none⟩ (.int .i64 g2)).cell? ⟨ba, 2, none⟩ = some (.int .i64 g2) := cell_same (cell_set (cell_set z2 (by simp)) (by simp))
  have hE3 : Ext w (((w2.setCell ⟨ba, 0, none⟩ (.int .i64 g0)).setCell ⟨ba, 1, none⟩ (.int .i64 g1)).setCell ⟨ba, 2, none⟩ (.int .i64 g2)) := ((hE2.setCell (by dsimp only; omega) _).setCell (by dsimp only; omega) _).setCell (by dsimp only; omega) _
  have zf0 := zf 0
  have zf1 := zf 1
  have zf2 := zf 2
  clear zf
  go_wp2_with fail
  refine (hFF _).mono ?_
  rintro e w4 ⟨rfl, hE4⟩
  replace a0 := hE4.cell a0
  replace a1 := hE4.cell a1
  replace a2 := hE4.cell a2
  replace hE4 := hE3.tr hE4
  clear c3' hE3 z0 z1 z2 c3
  go_wp2_with fail
  have ix0 : ∀ w : World, (Instr.index 141 (.agg #[.int .i64 n0, .int .i64 n1, .int .i64 n2]) (.int .i64 0)).run Try.prog w = .ok (.int .i64 n0) w := fun _ => by kernel_rfl
  have ix1 : ∀ w : World, (Instr.index 141 (.agg #[.int .i64 n0, .int .i64 n1, .int .i64 n2]) (.int .i64 1)).run Try.prog w = .ok (.int .i64 n1) w := fun _ => by kernel_rfl
  have ix2 : ∀ w : World, (Instr.index 141 (.agg #[.int .i64 n0, .int .i64 n1, .int .i64 n2]) (.int .i64 2)).run Try.prog w = .ok (.int .i64 n2) w := fun _ => by kernel_rfl
  go_loop [43] (fun i => ∃ j : Nat, j ≤ 3 ∧ i = .int .i64 j ∧ (0 < j → (decide (n0 < 0) || decide (g0 = n0)) = true) ∧ (1 < j → (decide (n1 < 0) || decide (g1 = n1)) = true) ∧ (2 < j → (decide (n2 < 0) || decide (g2 = n2)) = true)) (fun i => 3 - (intOf i).toNat)
  case atStart => exact ⟨0, by omega, rfl, by omega, by omega, by omega⟩
  case round =>
    obtain ⟨j, hj, rfl, t0, t1, t2⟩ := hrel
    have T0 := Lib.hid t0
    have T1 := Lib.hid t1
    have T2 := Lib.hid t2
    clear t0 t1 t2
    by_cases hj3 : j = 3
    · subst hj3
      have HQ := Lib.hid (show terP s f want [x0, y0] = true from by rw [HP.out, T0.out (by omega), T1.out (by omega), T2.out (by omega)]; rfl)
      go_wp2_with fail
      go_ret
      exact ⟨ret_bool HQ.out.symm, hE4⟩
    by_cases hj0 : j = 0
    · subst hj0
      by_cases hneg : n0 < 0
      · have hn : (0 ≤ n0) = False := by simp; omega
        have HN := Lib.hid (show (decide (n0 < 0) || decide (g0 = n0)) = true from by simp [hneg])
        go_wp2_with fail
        go_round
        case rel => exact ⟨0 + 1, by omega, by go_num, fun _ => HN.out, by omega, by omega⟩
        case measure => simp [intOf]
      · have hn : (0 ≤ n0) = True := by simp; omega
        by_cases he : g0 = n0
        · have hb : (g0 != n0) = false := by simp [he]
          have HN := Lib.hid (show (decide (n0 < 0) || decide (g0 = n0)) = true from by simp [he])
          clear he
          go_wp2_with fail
          go_round
          case rel => exact ⟨0 + 1, by omega, by go_num, fun _ => HN.out, by omega, by omega⟩
          case measure => simp [intOf]
        · have hb : (g0 != n0) = true := by simp [he]
          have HN := Lib.hid (show terP s f want [x0, y0] = false from by rw [HP.out]; simp [hneg, he])
          clear he
          go_wp2_with fail
          go_ret
          exact ⟨ret_bool HN.out.symm, hE4⟩
    by_cases hj1 : j = 1
    · subst hj1
      by_cases hneg : n1 < 0
      · have hn : (0 ≤ n1) = False := by simp; omega
        have HN := Lib.hid (show (decide (n1 < 0) || decide (g1 = n1)) = true from by simp [hneg])
        go_wp2_with fail
        go_round
        case rel => exact ⟨1 + 1, by omega, by go_num, fun _ => T0.out (by omega), fun _ => HN.out, by omega⟩
        case measure => simp [intOf]
      · have hn : (0 ≤ n1) = True := by simp; omega
        by_cases he : g1 = n1
        · have hb : (g1 != n1) = false := by simp [he]
          have HN := Lib.hid (show (decide (n1 < 0) || decide (g1 = n1)) = true from by simp [he])
          clear he
          go_wp2_with fail
          go_round
          case rel => exact ⟨1 + 1, by omega, by go_num, fun _ => T0.out (by omega), fun _ => HN.out, by omega⟩
          case measure => simp [intOf]
        · have hb : (g1 != n1) = true := by simp [he]
          have HN := Lib.hid (show terP s f want [x0, y0] = false from by rw [HP.out]; simp [hneg, he])
          clear he
          go_wp2_with fail
          go_ret
          exact ⟨ret_bool HN.out.symm, hE4⟩
    by_cases hj2 : j = 2
    · subst hj2
      by_cases hneg : n2 < 0
      · have hn : (0 ≤ n2) = False := by simp; omega
        have HN := Lib.hid (show (decide (n2 < 0) || decide (g2 = n2)) = true from by simp [hneg])
        go_wp2_with fail
        go_round
        case rel => exact ⟨2 + 1, by omega, by go_num, fun _ => T0.out (by omega), fun _ => T1.out (by omega), fun _ => HN.out⟩
        case measure => simp [intOf]
      · have hn : (0 ≤ n2) = True := by simp; omega
        by_cases he : g2 = n2
        · have hb : (g2 != n2) = false := by simp [he]
          have HN := Lib.hid (show (decide (n2 < 0) || decide (g2 = n2)) = true from by simp [he])
          clear he
          go_wp2_with fail
          go_round
          case rel => exact ⟨2 + 1, by omega, by go_num, fun _ => T0.out (by omega), fun _ => T1.out (by omega), fun _ => HN.out⟩
          case measure => simp [intOf]
        · have hb : (g2 != n2) = true := by simp [he]
          have HN := Lib.hid (show terP s f want [x0, y0] = false from by rw [HP.out]; simp [hneg, he])
          clear he
          go_wp2_with fail
          go_ret
          exact ⟨ret_bool HN.out.symm, hE4⟩
    omega
end Go.Proofs.Ytefnmfdmnoednaa
