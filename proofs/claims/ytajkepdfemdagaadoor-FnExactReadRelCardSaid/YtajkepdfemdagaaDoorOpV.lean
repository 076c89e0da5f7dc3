
/- Which operations are valid: the program's answer and the reference's are one function's. -/
import Derived.Test.YtajkepdfemdagaaDoorOpT
import Derived.Test.YtajkepdfemdagaaDoorVals
namespace Go.Proofs.YtajkepdfemdagaaDoor
open Go.RowKit
set_option linter.unusedVariables false

def SValidOp (s : Int) (f : Int × List Int) : Bool := inB s 1 4 && (inB f.1 1 3 && vals s f.2 (powW s f.1.toNat))
theorem SValidOp_size {s : Int} {f : Int × List Int} (h : inB s 1 4 = false) : SValidOp s f = false := by unfold SValidOp; rw [h]; rfl
theorem SValidOp_arity {s : Int} {f : Int × List Int} (h : inB f.1 1 3 = false) : SValidOp s f = false := by unfold SValidOp; rw [h]; simp
theorem SValidOp_rest {s : Int} {f : Int × List Int} (h : inB s 1 4 = true) (h2 : inB f.1 1 3 = true) : SValidOp s f = vals s f.2 (powW s f.1.toNat) := by unfold SValidOp; rw [h, h2]; simp

set_option maxHeartbeats 1000000 in
set_option maxRecDepth 100000 in
theorem implValidOp_ok (s : Int) (f : Int × List Int) (v : Value) (w : World) (hr : RdOp w v f) :
    Calls Tryd.prog 67 #[.int .i64 s, v] w fun e w' => e = .returned (.bool (SValidOp s f)) ∧ Ext w w' := by
  obtain ⟨tv, rfl, hr⟩ := hr
  have hE : Ext w (w.alloc (.cells #[.int .i64 f.1, tv] 27)) := (Ext.refl' w).alloc (Nat.le_refl _) _
  have hr := hr.ext hE
  have c0 : (w.alloc (.cells #[.int .i64 f.1, tv] 27)).cell? ⟨w.heap.size, 0, none⟩ = some (.int .i64 f.1) := by simp [go_sem]
  have c1 : (w.alloc (.cells #[.int .i64 f.1, tv] 27)).cell? ⟨w.heap.size, 0 + 1, none⟩ = some tv := by simp [go_sem]
  cases h1 : inB s 1 4 with
  | false =>
    have HV := Lib.hid (SValidOp_size (f := f) h1)
    go_enter Tryd.func67, Tryd.ntmps67
    go_wp2_with fail
    go_quiet ((go_at_call 66; exact Calls.qsv (.bool false) (isSize_any _ _) (by rw [h1])))
    go_wp2_with fail
    go_ret
    exact ⟨ret_bool HV.out.symm, hE.tr (Qt.ext ⟨_, rfl⟩)⟩
  | true =>
    have hb1 := inB_iff.1 h1
    cases h2 : inB f.1 1 3 with
    | false =>
      have HV := Lib.hid (SValidOp_arity (s := s) h2)
      go_enter Tryd.func67, Tryd.ntmps67
      go_wp2_with fail
      refine region_sp [] [] [SP.val (.int .i64 s), SP.val (.bool true), SP.val (.bool true), SP.val (.pointer (some ⟨w.heap.size, 0, none⟩)), SP.val (.int .i64 f.1), SP.val (.bool false), SP.val (.bool false), SP.val (.bool false), SP.val undef, SP.val undef, SP.val undef, SP.val undef, SP.val undef, SP.val undef, SP.val undef, SP.val undef, SP.val (.bool false), SP.val (.bool false)] (by kernel_rfl) (fun _ d _ _ _ h => by cases d <;> exact h) (by kernel_rfl) (by kernel_rfl)
        (.cons (fun vs y hY => Step.move rfl rfl rfl rfl) <|
         .cons (fun vs y hY g0_0 => Step.call Tryd.call66 rfl rfl [vs 0] rfl rfl (by rw [show vs 0 = _ from g0_0]; exact (Calls.sps (isSize_any _ _) (by rw [h1])))) <|
         .cons (fun vs y hY g1_0 g1_1 => Step.move rfl rfl g1_0 rfl) <|
         .cons (fun vs y hY g2_0 => Step.on rfl rfl g2_0 (GivesR.fieldAddr ⟨w.heap.size, 0, none⟩ rfl rfl (by simp [go_sem]) ⟨Ext.refl_ _, rfl⟩)) <|
         .cons (fun vs y hY g3_0 g2_1 => Step.on rfl rfl g2_1 (GivesR.load ⟨w.heap.size, 0, none⟩ rfl g3_0 (by simp [go_sem, hY.cell c0]) ⟨Ext.refl_ _, rfl⟩)) <|
         .cons (fun vs y hY g4_0 g2_1 g2_2 => Step.on rfl rfl g2_1 (GivesR.call rfl [vs 4] rfl rfl Tryd.call85 (by rw [show vs 4 = _ from g4_0]; exact (Calls.sps (isOpArity_any _ _) (by rw [h2]))))) <|
         .cons (fun vs y hY g2_0 g5_1 => Step.pick rfl rfl g2_0 g5_1 rfl rfl) <|
         .cons (fun vs y hY g6_0 g5_1 => Step.move rfl rfl g6_0 rfl) <|
         .cons (fun vs y hY g7_0 => Step.off rfl rfl g7_0 (by decide) rfl) <|
         .cons (fun vs y hY g7_0 => Step.off rfl rfl g7_0 (by decide) rfl) <|
         .cons (fun vs y hY g9_0 g7_1 => Step.off rfl rfl g7_1 (by decide) rfl) <|
         .cons (fun vs y hY g7_0 => Step.off rfl rfl g7_0 (by decide) rfl) <|
         .cons (fun vs y hY g7_0 => Step.off rfl rfl g7_0 (by decide) rfl) <|
         .cons (fun vs y hY g12_0 g7_1 => Step.off rfl rfl g7_1 (by decide) rfl) <|
         .cons (fun vs y hY g11_0 g13_1 g7_2 g7_3 => Step.off rfl rfl g7_2 (by decide) rfl) <|
         .cons (fun vs y hY g8_0 g10_1 g14_2 g14_3 g7_4 => Step.off rfl rfl g7_4 (by decide) rfl) <|
         .cons (fun vs y hY g7_0 g15_1 => Step.pick rfl rfl g7_0 g15_1 rfl rfl) <|
         .cons (fun vs y hY g16_0 g15_1 g0_2 g1_3 g2_4 g3_5 g4_6 g5_7 g6_8 g7_9 g8_10 g9_11 g10_12 g11_13 g12_14 g13_15 g14_16 g15_17 g16_18 => Step.assign rfl rfl g16_0 rfl) <|
         .nil) ?_
      intro vs w1 hC hL
      have r0 : vs 0 = _ := hL 0 (by decide) rfl
      have r1 : vs 1 = _ := hL 1 (by decide) rfl
      have r2 : vs 2 = _ := hL 2 (by decide) rfl
      have r3 : vs 3 = _ := hL 3 (by decide) rfl
      have r4 : vs 4 = _ := hL 4 (by decide) rfl
      have r5 : vs 5 = _ := hL 5 (by decide) rfl
      have r6 : vs 6 = _ := hL 6 (by decide) rfl
      have r7 : vs 7 = _ := hL 7 (by decide) rfl
      have r8 : vs 8 = _ := hL 8 (by decide) rfl
      have r9 : vs 9 = _ := hL 9 (by decide) rfl
      have r10 : vs 10 = _ := hL 10 (by decide) rfl
      have r11 : vs 11 = _ := hL 11 (by decide) rfl
      have r12 : vs 12 = _ := hL 12 (by decide) rfl
      have r13 : vs 13 = _ := hL 13 (by decide) rfl
      have r14 : vs 14 = _ := hL 14 (by decide) rfl
      have r15 : vs 15 = _ := hL 15 (by decide) rfl
      have r16 : vs 16 = _ := hL 16 (by decide) rfl
      have r17 : vs 17 = _ := hL 17 (by decide) rfl
      clear hL
      simp only [putAll, Act.put, List.contains_nil, cond_false, List.setIfInBounds_toArray, List.set_cons_succ, List.set_cons_zero, List.filterMap_nil, r0, r1, r2, r3, r4, r5, r6, r7, r8, r9, r10, r11, r12, r13, r14, r15, r16, r17]
      clear r0 r1 r2 r3 r4 r5 r6 r7 r8 r9 r10 r11 r12 r13 r14 r15 r16 r17
      go_wp2_with fail
      go_ret
      exact ⟨ret_bool HV.out.symm, hE.tr hC⟩
    | true =>
      have hb2 := inB_iff.1 h2
      have HV := Lib.hid (SValidOp_rest h1 h2)
      go_enter Tryd.func67, Tryd.ntmps67
      go_wp2_with fail
      refine region_sp [] [] [SP.val (.int .i64 s), SP.val (.bool true), SP.val (.bool true), SP.val (.pointer (some ⟨w.heap.size, 0, none⟩)), SP.val (.int .i64 f.1), SP.val (.bool true), SP.val (.bool true), SP.val (.bool true), SP.val (.int .i64 s), SP.val (.pointer (some ⟨w.heap.size, 1, none⟩)), SP.val (tv), SP.val (.int .i64 s), SP.val (.pointer (some ⟨w.heap.size, 0, none⟩)), SP.val (.int .i64 f.1), SP.val (.int .i64 (powW s f.1.toNat)), SP.val (.bool (vals s f.2 (powW s f.1.toNat))), SP.val (.bool (vals s f.2 (powW s f.1.toNat))), SP.val (.bool (vals s f.2 (powW s f.1.toNat)))] (by kernel_rfl) (fun _ d _ _ _ h => by cases d <;> exact h) (by kernel_rfl) (by kernel_rfl)
        (.cons (fun vs y hY => Step.move rfl rfl rfl rfl) <|
         .cons (fun vs y hY g0_0 => Step.call Tryd.call66 rfl rfl [vs 0] rfl rfl (by rw [show vs 0 = _ from g0_0]; exact (Calls.sps (isSize_any _ _) (by rw [h1])))) <|
         .cons (fun vs y hY g1_0 g1_1 => Step.move rfl rfl g1_0 rfl) <|
         .cons (fun vs y hY g2_0 => Step.on rfl rfl g2_0 (GivesR.fieldAddr ⟨w.heap.size, 0, none⟩ rfl rfl (by simp [go_sem]) ⟨Ext.refl_ _, rfl⟩)) <|
         .cons (fun vs y hY g3_0 g2_1 => Step.on rfl rfl g2_1 (GivesR.load ⟨w.heap.size, 0, none⟩ rfl g3_0 (by simp [go_sem, hY.cell c0]) ⟨Ext.refl_ _, rfl⟩)) <|
         .cons (fun vs y hY g4_0 g2_1 g2_2 => Step.on rfl rfl g2_1 (GivesR.call rfl [vs 4] rfl rfl Tryd.call85 (by rw [show vs 4 = _ from g4_0]; exact (Calls.sps (isOpArity_any _ _) (by rw [h2]))))) <|
         .cons (fun vs y hY g2_0 g5_1 => Step.pick rfl rfl g2_0 g5_1 rfl rfl) <|
         .cons (fun vs y hY g6_0 g5_1 => Step.move rfl rfl g6_0 rfl) <|
         .cons (fun vs y hY g7_0 => Step.on rfl rfl g7_0 (GivesR.move rfl rfl ⟨Ext.refl_ _, rfl⟩)) <|
         .cons (fun vs y hY g7_0 => Step.on rfl rfl g7_0 (GivesR.fieldAddr ⟨w.heap.size, 0, none⟩ rfl rfl (by simp [go_sem]) ⟨Ext.refl_ _, rfl⟩)) <|
         .cons (fun vs y hY g9_0 g7_1 => Step.on rfl rfl g7_1 (GivesR.load ⟨w.heap.size, 1, none⟩ rfl g9_0 (by simp [go_sem, hY.cell c1]) ⟨Ext.refl_ _, rfl⟩)) <|
         .cons (fun vs y hY g7_0 => Step.on rfl rfl g7_0 (GivesR.move rfl rfl ⟨Ext.refl_ _, rfl⟩)) <|
         .cons (fun vs y hY g7_0 => Step.on rfl rfl g7_0 (GivesR.fieldAddr ⟨w.heap.size, 0, none⟩ rfl rfl (by simp [go_sem]) ⟨Ext.refl_ _, rfl⟩)) <|
         .cons (fun vs y hY g12_0 g7_1 => Step.on rfl rfl g7_1 (GivesR.load ⟨w.heap.size, 0, none⟩ rfl g12_0 (by simp [go_sem, hY.cell c0]) ⟨Ext.refl_ _, rfl⟩)) <|
         .cons (fun vs y hY g11_0 g13_1 g7_2 g7_3 => Step.on rfl rfl g7_2 (GivesR.call rfl [vs 11, vs 13] rfl rfl Tryd.call86 (by rw [show vs 11 = _ from g11_0, show vs 13 = _ from g13_1]; exact (Calls.sps (power_any _ _ _ (by omega)))))) <|
         .cons (fun vs y hY g8_0 g10_1 g14_2 g14_3 g7_4 => Step.on rfl rfl g7_4 (GivesR.call rfl [vs 8, vs 10, vs 14] rfl rfl Tryd.call74 (by rw [show vs 8 = _ from g8_0, show vs 10 = _ from g10_1, show vs 14 = _ from g14_2]; exact (Calls.spe (areValues_any _ _ _ _ _ (hr.ext hY) (by omega) (by omega)))))) <|
         .cons (fun vs y hY g7_0 g15_1 => Step.pick rfl rfl g7_0 g15_1 rfl rfl) <|
         .cons (fun vs y hY g16_0 g15_1 g0_2 g1_3 g2_4 g3_5 g4_6 g5_7 g6_8 g7_9 g8_10 g9_11 g10_12 g11_13 g12_14 g13_15 g14_16 g15_17 g16_18 => Step.assign rfl rfl g16_0 rfl) <|
         .nil) ?_
      intro vs w1 hC hL
      have r0 : vs 0 = _ := hL 0 (by decide) rfl
      have r1 : vs 1 = _ := hL 1 (by decide) rfl
      have r2 : vs 2 = _ := hL 2 (by decide) rfl
      have r3 : vs 3 = _ := hL 3 (by decide) rfl
      have r4 : vs 4 = _ := hL 4 (by decide) rfl
      have r5 : vs 5 = _ := hL 5 (by decide) rfl
      have r6 : vs 6 = _ := hL 6 (by decide) rfl
      have r7 : vs 7 = _ := hL 7 (by decide) rfl
      have r8 : vs 8 = _ := hL 8 (by decide) rfl
      have r9 : vs 9 = _ := hL 9 (by decide) rfl
      have r10 : vs 10 = _ := hL 10 (by decide) rfl
      have r11 : vs 11 = _ := hL 11 (by decide) rfl
      have r12 : vs 12 = _ := hL 12 (by decide) rfl
      have r13 : vs 13 = _ := hL 13 (by decide) rfl
      have r14 : vs 14 = _ := hL 14 (by decide) rfl
      have r15 : vs 15 = _ := hL 15 (by decide) rfl
      have r16 : vs 16 = _ := hL 16 (by decide) rfl
      have r17 : vs 17 = _ := hL 17 (by decide) rfl
      clear hL
      simp only [putAll, Act.put, List.contains_nil, cond_false, List.setIfInBounds_toArray, List.set_cons_succ, List.set_cons_zero, List.filterMap_nil, r0, r1, r2, r3, r4, r5, r6, r7, r8, r9, r10, r11, r12, r13, r14, r15, r16, r17]
      clear r0 r1 r2 r3 r4 r5 r6 r7 r8 r9 r10 r11 r12 r13 r14 r15 r16 r17
      go_wp2_with fail
      go_ret
      exact ⟨ret_bool HV.out.symm, hE.tr hC⟩

set_option maxHeartbeats 1000000 in
theorem l02Ok_any (s : Int) (f : Int × List Int) (v : Value) (w : World) (hr : PtOp w v f) :
    Calls Tryd.prog 64 #[.int .i64 s, v] w fun e w' => e = .returned (.bool (SValidOp s f)) ∧ Qt w w' := by
  obtain ⟨b, off, tv, rfl, c0, c1, hr⟩ := hr
  cases h1 : inB s 1 4 with
  | false =>
    have HV := Lib.hid (SValidOp_size (f := f) h1)
    go_enter Tryd.func64, Tryd.ntmps64
    go_wp2_with fail
    go_quiet ((go_at_call 69; exact Calls.qsv (.bool false) (l01Size_any _ _) (by rw [h1])))
    go_wp2_with fail
    go_ret
    exact ⟨ret_bool HV.out.symm, _, rfl⟩
  | true =>
    have hb1 := inB_iff.1 h1
    cases h2 : inB f.1 1 3 with
    | false =>
      have HV := Lib.hid (SValidOp_arity (s := s) h2)
      go_enter Tryd.func64, Tryd.ntmps64
      go_wp2_with fail
      go_quiet ((first | (go_at_call 69; exact Calls.qsv (.bool true) (l01Size_any _ _) (by rw [h1])) | (go_at_call 81; exact Calls.qsv (.bool false) (l02Arity_any _ _) (by rw [h2]))))
      go_wp2_with fail
      go_ret
      exact ⟨ret_bool HV.out.symm, _, rfl⟩
    | true =>
      have hb2 := inB_iff.1 h2
      obtain ⟨a, b', off', c, rfl, hlc, hcm, ha, hc⟩ := hr
      by_cases hlen : (f.2.length : Int) = powW s f.1.toNat
      · have hb : ((f.2.length : Int) != powW s f.1.toNat) = false := by simp [hlen]
        have HV := Lib.hid (show SValidOp s f = f.2.all fun a => inB a 0 (s - 1) from by rw [SValidOp_rest h1 h2]; unfold vals; rw [decide_eq_true hlen, Bool.true_and])
        clear hlen
        go_enter Tryd.func64, Tryd.ntmps64
        go_wp2_with fail
        go_quiet ((first | (go_at_call 69; exact Calls.qsv (.bool true) (l01Size_any _ _) (by rw [h1])) | (go_at_call 81; exact Calls.qsv (.bool true) (l02Arity_any _ _) (by rw [h2])) | (go_at_call 82; exact Calls.qs (l01Power_any _ _ _ (by omega) (by omega)))))
        go_wp2_with fail
        go_loop [5] (fun i => ∃ k : Nat, k ≤ f.2.length ∧ i = .int .i64 k ∧ (f.2.take k).any (fun a => !inB a 0 (s - 1)) = false) (fun i => f.2.length - (intOf i).toNat)
        case atStart => exact ⟨0, by omega, rfl, rfl⟩
        case round =>
          obtain ⟨k, hk, rfl, ht⟩ := hrel
          have HT := Lib.hid ht
          clear ht
          by_cases hkl : k < f.2.length
          · obtain rfl := ha (by omega)
            have hck := hc k hkl
            cases hp : inB f.2[k] 0 (s - 1) with
            | true =>
              have HI := Lib.hid (show (f.2.take (k + 1)).any (fun a => !inB a 0 (s - 1)) = false from by rw [any_take_succ _ f.2 k hkl, HT.out, hp]; rfl)
              go_wp2_with (go_at_call 83; refine (l00In_any _ _ _ _).mono ?_; rintro e w' ⟨rfl, rfl⟩)
              go_round
              case rel => exact ⟨k + 1, by omega, by go_num, HI.out⟩
              case measure => simp [intOf]; omega
            | false =>
              have HI := Lib.hid (show (f.2.all fun a => inB a 0 (s - 1)) = false from by
                rw [List.all_eq_false]
                exact ⟨f.2[k], List.getElem_mem hkl, by simp [hp]⟩)
              go_wp2_with (go_at_call 83; refine (l00In_any _ _ _ _).mono ?_; rintro e w' ⟨rfl, rfl⟩)
              go_ret
              exact ⟨ret_bool (by rw [HV.out, HI.out]), _, rfl⟩
          · have HI := Lib.hid (show (f.2.all fun a => inB a 0 (s - 1)) = true from by
              have hkk : k = f.2.length := by omega
              have := HT.out
              rw [hkk, List.take_length] at this
              rw [List.all_eq_true]
              intro x hx
              rw [List.any_eq_false] at this
              simpa using this x hx)
            go_wp2_with fail
            go_ret
            exact ⟨ret_bool (by rw [HV.out, HI.out]), _, rfl⟩
      · have hb : ((f.2.length : Int) != powW s f.1.toNat) = true := by simp [hlen]
        have HV := Lib.hid (show SValidOp s f = false from by rw [SValidOp_rest h1 h2]; unfold vals; rw [decide_eq_false hlen, Bool.false_and])
        clear hlen
        go_enter Tryd.func64, Tryd.ntmps64
        go_wp2_with fail
        go_quiet ((first | (go_at_call 69; exact Calls.qsv (.bool true) (l01Size_any _ _) (by rw [h1])) | (go_at_call 81; exact Calls.qsv (.bool true) (l02Arity_any _ _) (by rw [h2])) | (go_at_call 82; exact Calls.qs (l01Power_any _ _ _ (by omega) (by omega)))))
        go_wp2_with fail
        go_ret
        exact ⟨ret_bool HV.out.symm, _, rfl⟩


end Go.Proofs.YtajkepdfemdagaaDoor
