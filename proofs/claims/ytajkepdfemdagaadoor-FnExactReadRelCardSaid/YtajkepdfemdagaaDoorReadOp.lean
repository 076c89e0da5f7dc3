
/- ReadOp: the program's and the reference's read one operation. -/
import Derived.Test.YtajkepdfemdagaaDoorReadOpL
import Derived.Test.YtajkepdfemdagaaDoorBox
import Derived.Test.YtajkepdfemdagaaDoorRelLoop
import Derived.Test.YtajkepdfemdagaaDoorAccT
namespace Go.Proofs.YtajkepdfemdagaaDoor
open Go.RowKit
set_option linter.unusedVariables false

theorem cells_of {w : World} {v : Value} {xs : List ByteArray} (h : RdS w v xs) : ∃ b off cap, v = .slice (some ⟨b, off, none⟩) xs.length cap ∧ (∀ (h : 0 < xs.length), w.cell? ⟨b, off, none⟩ = some (.string xs[0])) ∧ (∀ (h : 1 < xs.length), w.cell? ⟨b, off + 1, none⟩ = some (.string xs[1])) ∧ (∀ (h : 2 < xs.length), w.cell? ⟨b, off + 2, none⟩ = some (.string xs[2])) := by
  obtain ⟨b, off, cap, h1, _, _, h4⟩ := h
  exact ⟨b, off, cap, h1, fun h => h4 0 h, fun h => h4 1 h, fun h => h4 2 h⟩
def SP.build2 (B : Nat) (n : Int) (l : List Int) : SP := ⟨fun v w => ∃ u fp, v = .agg #[.int .i64 n, u] ∧ OI w u l fp ∧ ∀ g ∈ fp, B ≤ g, fun _ _ _ ⟨u, fp, h1, h2, h3⟩ hE => ⟨u, fp, h1, h2.ext hE, h3⟩⟩
theorem build2_of {B : Nat} {n : Int} {l : List Int} {w : World} {x : Value} (h : ∃ fp, OI w x l fp ∧ ∀ g ∈ fp, B ≤ g) : (Instr.build 27 #[(0, .int .i64 n), (1, x)]).run Tryd.prog w = .ok (.agg #[.int .i64 n, x]) w ∧ (SP.build2 B n l).R (.agg #[.int .i64 n, x]) w := by
  obtain ⟨fp, h1, h2⟩ := h
  obtain ⟨a, c, rfl⟩ := h1.form
  exact ⟨by simp [go_sem], _, fp, rfl, h1, h2⟩

theorem anyOp_64 {f : Int × List Int} (h : SAnyOp f = true) : f.2.length ≤ 64 := by
  unfold SAnyOp at h
  rw [List.any_eq_true] at h
  obtain ⟨k, hk, h⟩ := h
  have hk4 := List.mem_range.1 hk
  unfold SValidOp at h
  rw [Bool.and_eq_true, Bool.and_eq_true] at h
  obtain ⟨_, h2, h3⟩ := h
  have h2 := inB_iff.1 h2
  obtain ⟨h4, _⟩ := vals_iff.1 h3
  have hp : powW ((k : Int) + 1) f.1.toNat ≤ 64 := by
    have hm : f.1 = 1 ∨ f.1 = 2 ∨ f.1 = 3 := by omega
    have hk5 : k = 0 ∨ k = 1 ∨ k = 2 ∨ k = 3 := by omega
    rcases hm with h | h | h <;> rw [h] <;> rcases hk5 with rfl | rfl | rfl | rfl <;> decide +kernel
  omega
theorem rdg_len (s : ByteArray) : (rdg s).length ≤ s.size := by
  unfold rdg
  split
  · rw [List.length_map, Lib.size_eq]
    exact Nat.le_refl _
  · simp
set_option maxHeartbeats 4000000 in
set_option maxRecDepth 100000 in
theorem implReadOp_any (s : ByteArray) (w : World) (hL : LaidW w) (hs : s.size ≤ 1048576) :
    Calls Tryd.prog 24 #[.string s] w (OpRes (SReadOp s) w) := by
  have hE1 : Ext w (w.alloc (.cells #[.int .i64 0, .slice none 0 0] 27)) := (Ext.refl' w).alloc (Nat.le_refl _) _
  obtain ⟨m, hm⟩ := (hL.ext hE1).max
  have hL1 := hL.ext hE1
  by_cases hbig : 20000 < s.size
  · have HR := Lib.hid (readOp_no (s := s) fun f hf => by have := op_size hf; have := (anyOp_parts hf.1).2.2.2; omega)
    rw [HR.out]
    clear HR
    go_enter Tryd.func24, Tryd.ntmps24
    go_wp2_with fail
    refine (split_any 32 s m _ hm hs).mono ?_
    rintro e w1 ⟨v, rfl, hE, hv⟩
    have d0 := hE.cell (p := ⟨w.heap.size, 0, none⟩) (v := .int .i64 0) (by simp [go_sem])
    have d1 := hE.cell (p := ⟨w.heap.size, 1, none⟩) (v := .slice none 0 0) (by simp [go_sem])
    have f2 := hE.frozen (p := ⟨w.heap.size, 0, none⟩) (by simp)
    have f3 := hE.frozen (p := ⟨w.heap.size, 1, none⟩) (by simp)
    simp [go_sem] at f2 f3
    replace hL1 := hL1.ext hE
    replace hE := hE1.tr hE
    obtain ⟨b, off, cap, rfl, q0, q1, q2⟩ := cells_of hv
    clear q0 q1 q2 hv
    go_wp2_with fail
    exact bodyPost_ret (v := .tuple #[.agg #[.int .i64 0, .slice none 0 0], .int .i64 5]) (by simp [results, Tryd.results24, go_sem, d0, d1]) rfl (OpRes.no ((hE.setCell (by simp <;> omega) _).setCell (by simp <;> omega) _))
  by_cases hlen : (words 32 s).length = 3
  · obtain ⟨w0, wa, wb, hws⟩ : ∃ x y z, words 32 s = [x, y, z] := by
      generalize words 32 s = ws at hlen
      match ws, hlen with
      | [x, y, z], _ => exact ⟨x, y, z, rfl⟩
    have hsa : wa.size ≤ s.size := words_size (c := 32) (by rw [hws]; simp)
    have hsb : wb.size ≤ s.size := words_size (c := 32) (by rw [hws]; simp)
    by_cases hw0 : w0 = ⟨#[111, 112]⟩
    · subst hw0
      have hlb : (rdg wb).length ≤ 1048576 := Nat.le_trans (rdg_len wb) (by omega)
      have hnb := (rnV_num wa).1
      obtain ⟨f, hf⟩ : ∃ f : Int × List Int, f = (rnV wa, rdg wb) := ⟨_, rfl⟩
      have HF := Lib.hid hf
      have hz : szOp f ≤ 1048576 := by rw [hf]; exact hlb
      have HW := Lib.hid hws
      by_cases he : SOpText f = s
      · have hok : IsOpOf s f := by
          cases ha : SAnyOp f with
          | true => exact ⟨ha, by rw [← he]; unfold SOpText; rw [ha]; rfl⟩
          | false =>
            exfalso
            have h0 : s = ByteArray.empty := by rw [← he]; unfold SOpText; rw [ha]; rfl
            rw [h0] at hws
            have := congrArg List.length hws
            have h1 := words_length 32 ByteArray.empty
            simp only [List.length_cons, List.length_nil] at this
            simp at h1
            omega
        have HR := Lib.hid (readOp_yes hok)
        rw [HR.out]
        have hmk : mkOp f ≤ 1048576 := Nat.le_trans (mkOp_le f) hz
        have hbb : ((SOpText f).toList == s.toList) = true := by rw [he]; simp
        clear HR hok he hf hws hlen
        go_enter Tryd.func24, Tryd.ntmps24
        go_wp2_with fail
        refine (split_any 32 s m _ hm hs).mono ?_
        rintro e w1 ⟨v, rfl, hE, hv⟩
        have d0 := hE.cell (p := ⟨w.heap.size, 0, none⟩) (v := .int .i64 0) (by simp [go_sem])
        have d1 := hE.cell (p := ⟨w.heap.size, 1, none⟩) (v := .slice none 0 0) (by simp [go_sem])
        have f2 := hE.frozen (p := ⟨w.heap.size, 0, none⟩) (by simp)
        have f3 := hE.frozen (p := ⟨w.heap.size, 1, none⟩) (by simp)
        simp [go_sem] at f2 f3
        replace hL1 := hL1.ext hE
        replace hE := hE1.tr hE
        rw [HW.out] at hv
        obtain ⟨b, off, cap, rfl, q0, q1, q2⟩ := cells_of hv
        have q0 := q0 (by simp)
        have q1 := q1 (by simp)
        have q2 := q2 (by simp)
        clear hv
        simp only [List.getElem_cons_zero, List.getElem_cons_succ, List.length_cons, List.length_nil, Nat.zero_add, Nat.reduceAdd] at q0 q1 q2 ⊢
        go_wp2_with fail
        go_wp2_with fail
        refine region_sp [] [10] [SP.val (.slice (some ⟨b, off, none⟩) 3 cap), SP.val (.pointer (some ⟨b, off + 1, none⟩)), SP.val (.string wa), SP.val (.int .i64 (rnV wa)), SP.val (.slice (some ⟨b, off, none⟩) 3 cap), SP.val (.pointer (some ⟨b, off + 2, none⟩)), SP.val (.string wb), SP.ownIb w1.heap.size (rdg wb), SP.build2 w1.heap.size (rnV wa) (rdg wb), SP.box2 w1.heap.size 27, SP.any] (by kernel_rfl) (fun _ d _ _ _ h => by cases d <;> exact h) (by kernel_rfl) (by kernel_rfl)
          (.cons (fun vs y hY => Step.move rfl rfl rfl rfl) <|
           .cons (fun vs y hY g0_0 => Step.indexAtP (n := .int .i64 1) ⟨b, off + 1, none⟩ rfl rfl g0_0 rfl (by simp [go_sem, Instr.indexAt, Addr.add] <;> omega) rfl) <|
           .cons (fun vs y hY g1_0 => Step.load ⟨b, off + 1, none⟩ rfl rfl g1_0 (by simp [go_sem, hY.cell q1]) rfl) <|
           .cons (fun vs y hY g2_0 => Step.call Tryd.call56 rfl rfl [vs 2] rfl rfl (by rw [show vs 2 = _ from g2_0]; exact ((readNumber_any wa _ (hL1.ext hY) (by omega)).mono fun _ _ ⟨he, hE⟩ => ⟨_, he, hE, rfl⟩))) <|
           .cons (fun vs y hY => Step.move rfl rfl rfl rfl) <|
           .cons (fun vs y hY g4_0 => Step.indexAtP (n := .int .i64 2) ⟨b, off + 2, none⟩ rfl rfl g4_0 rfl (by simp [go_sem, Instr.indexAt, Addr.add] <;> omega) rfl) <|
           .cons (fun vs y hY g5_0 => Step.load ⟨b, off + 2, none⟩ rfl rfl g5_0 (by simp [go_sem, hY.cell q2]) rfl) <|
           .cons (fun vs y hY g6_0 g3_1 => Step.call Tryd.call57 rfl rfl [vs 6] rfl rfl (by rw [show vs 6 = _ from g6_0]; exact ((readDigits_any wb _ (by omega)).mono fun _ _ ⟨u, fp, he, hE, ho, hg⟩ => ⟨u, he, hE, fp, ho, fun g h => Nat.le_trans hY.size (hg g h)⟩))) <|
           .cons (fun vs y hY g3_0 g7_1 => Step.build2 rfl rfl g3_0 rfl (build2_of g7_1).1 (build2_of g7_1).2) <|
           .cons (fun vs y hY => Step.alloc rfl rfl (by simp [go_sem]) (box2_new hY.size)) <|
           .skip rfl <|
           .nil) ?_
        intro vs w2 hC hL
        have r0 : vs 0 = _ := hL 0 (by decide) rfl
        have r1 : vs 1 = _ := hL 1 (by decide) rfl
        have r2 : vs 2 = _ := hL 2 (by decide) rfl
        have r3 : vs 3 = _ := hL 3 (by decide) rfl
        have r4 : vs 4 = _ := hL 4 (by decide) rfl
        have r5 : vs 5 = _ := hL 5 (by decide) rfl
        have r6 : vs 6 = _ := hL 6 (by decide) rfl
        have r7 := hL 7 (by decide) rfl
        have r8 := hL 8 (by decide) rfl
        have r9 := hL 9 (by decide) rfl
        clear hL
        simp only [putAll, Act.put, List.contains_cons, List.contains_nil, Nat.reduceBEq, Nat.reduceAdd, Bool.or_false, cond_true, cond_false, List.setIfInBounds_toArray, List.set_cons_succ, List.set_cons_zero, List.filterMap_cons, List.filterMap_nil, List.getElem?_cons_succ, List.getElem?_cons_zero, r0, r1, r2, r3, r4, r5, r6]
        clear r0 r1 r2 r3 r4 r5 r6
        obtain ⟨u, fp, h8, o8, l8⟩ := r8
        obtain ⟨bo, h9, lb, hb9⟩ := r9
        rw [h8, h9]
        clear h8 h9 r7
        have hbw : w.heap.size < w1.heap.size := lt_of_cell d0
        have hE2 := hE.tr hC
        have ntag : bo ∉ fp := fun hg => by
          obtain ⟨cs, hcs⟩ := o8.tag bo hg
          rw [hb9] at hcs
          simp only [Option.some.injEq, Obj.cells.injEq] at hcs
          exact absurd hcs.2.1 (by decide)
        obtain ⟨ua, uc, rfl⟩ := o8.form
        replace f2 : _ = false := (hC.frozen (lt_of_cell d0)).trans f2
        replace f3 : _ = false := (hC.frozen (lt_of_cell d1)).trans f3
        replace d0 := hC.cell d0
        replace d1 := hC.cell d1
        refine wpList_store_box rfl 27 (.tmp 5) (.tmp 31) rfl rfl bo _ _ rfl rfl _ _ hb9 (by kernel_rfl) rfl rfl rfl ?_
        intro w3 hO z0 z1
        have hE3 : Ext w w3 := Below.trans hE2 (hO.below hE2.size (fun g hg => by rw [List.mem_singleton] at hg; have := hE.size; omega))
        have hne : ∀ g, g = w.heap.size → g ∉ [bo] := fun g hg => by rw [List.mem_singleton]; omega
        replace f2 : _ = false := (World.frozen?_of_block (a := ⟨w.heap.size, 0, none⟩) (hO.block _ (lt_of_cell d0) (hne _ rfl))).trans f2
        replace f3 : _ = false := (World.frozen?_of_block (a := ⟨w.heap.size, 1, none⟩) (hO.block _ (lt_of_cell d1) (hne _ rfl))).trans f3
        replace d0 := hO.cell d0 (hne _ rfl)
        replace d1 := hO.cell d1 (hne _ rfl)
        have o9 := o8.off hO (by intro g hg hm; rw [List.mem_singleton] at hm; exact ntag (hm ▸ hg))
        have hrf : RdOp w3 (.agg #[.int .i64 (rnV wa), .slice ua (rdg wb).length uc]) f := by rw [HF.out]; exact ⟨_, rfl, o9.rd⟩
        have hl1 : ∀ g ∈ fp, w.heap.size < g := fun g hg => by have := l8 g hg; omega
        clear hE hC hE2 o8 ntag hb9 hO q0 q1 q2 hne
        go_wp2_with fail
        refine (implOpText_any f _ _ hrf hz).mono ?_
        rintro e w4 ⟨rfl, hE4⟩
        replace f2 : _ = false := (hE4.frozen (lt_of_cell d0)).trans f2
        replace f3 : _ = false := (hE4.frozen (lt_of_cell d1)).trans f3
        replace d0 := hE4.cell d0
        replace d1 := hE4.cell d1
        replace z0 := hE4.cell z0
        replace z1 := hE4.cell z1
        have hlbo := lt_of_cell z0
        have o9 := o9.ext hE4
        have hE := hE3.tr hE4
        clear hrf hE3 hE4
        go_wp2_with fail
        exact bodyPost_ret (v := .tuple #[.agg #[.int .i64 (rnV wa), .slice ua (rdg wb).length uc], .int .i64 0]) (by simp [results, Tryd.results24, go_sem, d0, d1]) rfl
          ⟨_, fp, rfl, (hE.setCell (by simp <;> omega) _).setCell (by simp <;> omega) _, by rw [HF.out]; exact ⟨_, rfl, o9.off ((Off.set (fp := [w.heap.size]) (by simp)).trans (Off.set (by simp))) (fun h hh hm => by have := hl1 h hh; simp at hm; omega)⟩, fun g hg => by have := hl1 g hg; omega, hmk⟩
      · have HR := Lib.hid (readOp_no (s := s) fun g hg => he (by
          have h1 := op_words hg
          rw [hws] at h1
          simp only [List.cons.injEq, true_and, and_true] at h1
          obtain ⟨b0, b1, b2, b3⟩ := anyOp_parts hg.1
          have h2 : rnV wa = g.1 := ((rnV_num wa).2 g.1 b0 (by omega)).2 h1.1
          have h3 : rdg wb = g.2 := by rw [h1.2]; exact rdg_digB fun x hx => by have := b2 x hx; omega
          have h4 : f = g := by rw [hf, h2, h3]
          rw [h4]
          unfold SOpText
          rw [hg.1]
          exact hg.2))
        rw [HR.out]
        have hbb : ((SOpText f).toList == s.toList) = false := text_ne he
        clear HR he hf hws hlen
        go_enter Tryd.func24, Tryd.ntmps24
        go_wp2_with fail
        refine (split_any 32 s m _ hm hs).mono ?_
        rintro e w1 ⟨v, rfl, hE, hv⟩
        have d0 := hE.cell (p := ⟨w.heap.size, 0, none⟩) (v := .int .i64 0) (by simp [go_sem])
        have d1 := hE.cell (p := ⟨w.heap.size, 1, none⟩) (v := .slice none 0 0) (by simp [go_sem])
        have f2 := hE.frozen (p := ⟨w.heap.size, 0, none⟩) (by simp)
        have f3 := hE.frozen (p := ⟨w.heap.size, 1, none⟩) (by simp)
        simp [go_sem] at f2 f3
        replace hL1 := hL1.ext hE
        replace hE := hE1.tr hE
        rw [HW.out] at hv
        obtain ⟨b, off, cap, rfl, q0, q1, q2⟩ := cells_of hv
        have q0 := q0 (by simp)
        have q1 := q1 (by simp)
        have q2 := q2 (by simp)
        clear hv
        simp only [List.getElem_cons_zero, List.getElem_cons_succ, List.length_cons, List.length_nil, Nat.zero_add, Nat.reduceAdd] at q0 q1 q2 ⊢
        go_wp2_with fail
        go_wp2_with fail
        refine region_sp [] [10] [SP.val (.slice (some ⟨b, off, none⟩) 3 cap), SP.val (.pointer (some ⟨b, off + 1, none⟩)), SP.val (.string wa), SP.val (.int .i64 (rnV wa)), SP.val (.slice (some ⟨b, off, none⟩) 3 cap), SP.val (.pointer (some ⟨b, off + 2, none⟩)), SP.val (.string wb), SP.ownIb w1.heap.size (rdg wb), SP.build2 w1.heap.size (rnV wa) (rdg wb), SP.box2 w1.heap.size 27, SP.any] (by kernel_rfl) (fun _ d _ _ _ h => by cases d <;> exact h) (by kernel_rfl) (by kernel_rfl)
          (.cons (fun vs y hY => Step.move rfl rfl rfl rfl) <|
           .cons (fun vs y hY g0_0 => Step.indexAtP (n := .int .i64 1) ⟨b, off + 1, none⟩ rfl rfl g0_0 rfl (by simp [go_sem, Instr.indexAt, Addr.add] <;> omega) rfl) <|
           .cons (fun vs y hY g1_0 => Step.load ⟨b, off + 1, none⟩ rfl rfl g1_0 (by simp [go_sem, hY.cell q1]) rfl) <|
           .cons (fun vs y hY g2_0 => Step.call Tryd.call56 rfl rfl [vs 2] rfl rfl (by rw [show vs 2 = _ from g2_0]; exact ((readNumber_any wa _ (hL1.ext hY) (by omega)).mono fun _ _ ⟨he, hE⟩ => ⟨_, he, hE, rfl⟩))) <|
           .cons (fun vs y hY => Step.move rfl rfl rfl rfl) <|
           .cons (fun vs y hY g4_0 => Step.indexAtP (n := .int .i64 2) ⟨b, off + 2, none⟩ rfl rfl g4_0 rfl (by simp [go_sem, Instr.indexAt, Addr.add] <;> omega) rfl) <|
           .cons (fun vs y hY g5_0 => Step.load ⟨b, off + 2, none⟩ rfl rfl g5_0 (by simp [go_sem, hY.cell q2]) rfl) <|
           .cons (fun vs y hY g6_0 g3_1 => Step.call Tryd.call57 rfl rfl [vs 6] rfl rfl (by rw [show vs 6 = _ from g6_0]; exact ((readDigits_any wb _ (by omega)).mono fun _ _ ⟨u, fp, he, hE, ho, hg⟩ => ⟨u, he, hE, fp, ho, fun g h => Nat.le_trans hY.size (hg g h)⟩))) <|
           .cons (fun vs y hY g3_0 g7_1 => Step.build2 rfl rfl g3_0 rfl (build2_of g7_1).1 (build2_of g7_1).2) <|
           .cons (fun vs y hY => Step.alloc rfl rfl (by simp [go_sem]) (box2_new hY.size)) <|
           .skip rfl <|
           .nil) ?_
        intro vs w2 hC hL
        have r0 : vs 0 = _ := hL 0 (by decide) rfl
        have r1 : vs 1 = _ := hL 1 (by decide) rfl
        have r2 : vs 2 = _ := hL 2 (by decide) rfl
        have r3 : vs 3 = _ := hL 3 (by decide) rfl
        have r4 : vs 4 = _ := hL 4 (by decide) rfl
        have r5 : vs 5 = _ := hL 5 (by decide) rfl
        have r6 : vs 6 = _ := hL 6 (by decide) rfl
        have r7 := hL 7 (by decide) rfl
        have r8 := hL 8 (by decide) rfl
        have r9 := hL 9 (by decide) rfl
        clear hL
        simp only [putAll, Act.put, List.contains_cons, List.contains_nil, Nat.reduceBEq, Nat.reduceAdd, Bool.or_false, cond_true, cond_false, List.setIfInBounds_toArray, List.set_cons_succ, List.set_cons_zero, List.filterMap_cons, List.filterMap_nil, List.getElem?_cons_succ, List.getElem?_cons_zero, r0, r1, r2, r3, r4, r5, r6]
        clear r0 r1 r2 r3 r4 r5 r6
        obtain ⟨u, fp, h8, o8, l8⟩ := r8
        obtain ⟨bo, h9, lb, hb9⟩ := r9
        rw [h8, h9]
        clear h8 h9 r7
        have hbw : w.heap.size < w1.heap.size := lt_of_cell d0
        have hE2 := hE.tr hC
        have ntag : bo ∉ fp := fun hg => by
          obtain ⟨cs, hcs⟩ := o8.tag bo hg
          rw [hb9] at hcs
          simp only [Option.some.injEq, Obj.cells.injEq] at hcs
          exact absurd hcs.2.1 (by decide)
        obtain ⟨ua, uc, rfl⟩ := o8.form
        replace f2 : _ = false := (hC.frozen (lt_of_cell d0)).trans f2
        replace f3 : _ = false := (hC.frozen (lt_of_cell d1)).trans f3
        replace d0 := hC.cell d0
        replace d1 := hC.cell d1
        refine wpList_store_box rfl 27 (.tmp 5) (.tmp 31) rfl rfl bo _ _ rfl rfl _ _ hb9 (by kernel_rfl) rfl rfl rfl ?_
        intro w3 hO z0 z1
        have hE3 : Ext w w3 := Below.trans hE2 (hO.below hE2.size (fun g hg => by rw [List.mem_singleton] at hg; have := hE.size; omega))
        have hne : ∀ g, g = w.heap.size → g ∉ [bo] := fun g hg => by rw [List.mem_singleton]; omega
        replace f2 : _ = false := (World.frozen?_of_block (a := ⟨w.heap.size, 0, none⟩) (hO.block _ (lt_of_cell d0) (hne _ rfl))).trans f2
        replace f3 : _ = false := (World.frozen?_of_block (a := ⟨w.heap.size, 1, none⟩) (hO.block _ (lt_of_cell d1) (hne _ rfl))).trans f3
        replace d0 := hO.cell d0 (hne _ rfl)
        replace d1 := hO.cell d1 (hne _ rfl)
        have o9 := o8.off hO (by intro g hg hm; rw [List.mem_singleton] at hm; exact ntag (hm ▸ hg))
        have hrf : RdOp w3 (.agg #[.int .i64 (rnV wa), .slice ua (rdg wb).length uc]) f := by rw [HF.out]; exact ⟨_, rfl, o9.rd⟩
        have hl1 : ∀ g ∈ fp, w.heap.size < g := fun g hg => by have := l8 g hg; omega
        clear hE hC hE2 o8 ntag hb9 hO q0 q1 q2 hne
        go_wp2_with fail
        refine (implOpText_any f _ _ hrf hz).mono ?_
        rintro e w4 ⟨rfl, hE4⟩
        replace f2 : _ = false := (hE4.frozen (lt_of_cell d0)).trans f2
        replace f3 : _ = false := (hE4.frozen (lt_of_cell d1)).trans f3
        replace d0 := hE4.cell d0
        replace d1 := hE4.cell d1
        replace z0 := hE4.cell z0
        replace z1 := hE4.cell z1
        have hlbo := lt_of_cell z0
        have o9 := o9.ext hE4
        have hE := hE3.tr hE4
        clear hrf hE3 hE4
        go_wp2_with fail
        exact bodyPost_ret (v := .tuple #[.agg #[.int .i64 0, .slice none 0 0], .int .i64 5]) (by simp [results, Tryd.results24, go_sem, d0, d1]) rfl (OpRes.no ((hE.setCell (by simp <;> omega) _).setCell (by simp <;> omega) _))
    · have HR := Lib.hid (readOp_no (s := s) fun f hf => by
        have := op_words hf
        rw [hws] at this
        simp only [List.cons.injEq] at this
        exact hw0 this.1)
      rw [HR.out]
      clear HR
      have hbb2 : (w0.toList == ([111, 112] : List UInt8)) = false := by have := text_ne hw0; rw [toList_eq ⟨#[111, 112]⟩] at this; exact this
      have HW := Lib.hid hws
      clear hlen hw0 hws
      go_enter Tryd.func24, Tryd.ntmps24
      go_wp2_with fail
      refine (split_any 32 s m _ hm hs).mono ?_
      rintro e w1 ⟨v, rfl, hE, hv⟩
      have d0 := hE.cell (p := ⟨w.heap.size, 0, none⟩) (v := .int .i64 0) (by simp [go_sem])
      have d1 := hE.cell (p := ⟨w.heap.size, 1, none⟩) (v := .slice none 0 0) (by simp [go_sem])
      have f2 := hE.frozen (p := ⟨w.heap.size, 0, none⟩) (by simp)
      have f3 := hE.frozen (p := ⟨w.heap.size, 1, none⟩) (by simp)
      simp [go_sem] at f2 f3
      replace hL1 := hL1.ext hE
      replace hE := hE1.tr hE
      rw [HW.out] at hv
      obtain ⟨b, off, cap, rfl, q0, q1, q2⟩ := cells_of hv
      have q0 := q0 (by simp)
      clear q1 q2 hv
      simp only [List.getElem_cons_zero, List.length_cons, List.length_nil] at q0 ⊢
      go_wp2_with fail
      exact bodyPost_ret (v := .tuple #[.agg #[.int .i64 0, .slice none 0 0], .int .i64 5]) (by simp [results, Tryd.results24, go_sem, d0, d1]) rfl (OpRes.no ((hE.setCell (by simp <;> omega) _).setCell (by simp <;> omega) _))
  · have HR := Lib.hid (readOp_no (s := s) fun f hf => by have := op_words hf; rw [this] at hlen; exact hlen rfl)
    rw [HR.out]
    clear HR
    have hlen2 : (((words 32 s).length : Int) != 3) = true := by simp; omega
    have hlen3 : (((words 32 s).length : Int) = 3) = False := eq_false (by omega)
    clear hlen
    go_enter Tryd.func24, Tryd.ntmps24
    go_wp2_with fail
    refine (split_any 32 s m _ hm hs).mono ?_
    rintro e w1 ⟨v, rfl, hE, hv⟩
    have d0 := hE.cell (p := ⟨w.heap.size, 0, none⟩) (v := .int .i64 0) (by simp [go_sem])
    have d1 := hE.cell (p := ⟨w.heap.size, 1, none⟩) (v := .slice none 0 0) (by simp [go_sem])
    have f2 := hE.frozen (p := ⟨w.heap.size, 0, none⟩) (by simp)
    have f3 := hE.frozen (p := ⟨w.heap.size, 1, none⟩) (by simp)
    simp [go_sem] at f2 f3
    replace hL1 := hL1.ext hE
    replace hE := hE1.tr hE
    obtain ⟨b, off, cap, rfl, q0, q1, q2⟩ := cells_of hv
    clear q0 q1 q2 hv
    generalize words 32 s = ws at *
    go_wp2_with fail
    exact bodyPost_ret (v := .tuple #[.agg #[.int .i64 0, .slice none 0 0], .int .i64 5]) (by simp [results, Tryd.results24, go_sem, d0, d1]) rfl (OpRes.no ((hE.setCell (by simp <;> omega) _).setCell (by simp <;> omega) _))
/-- the bytes of a text less 48 -/
def subK (s : ByteArray) (k : Nat) : List Int := (s.data.toList.take k).map fun b => (b.toNat : Int) - 48
theorem subK_succ {s : ByteArray} {k : Nat} (hk : k < s.size) : subK s (k + 1) = subK s k ++ [((s[k].toNat : Nat) : Int) - 48] := by
  unfold subK
  have hkd : k < s.data.toList.length := by rw [← Lib.size_eq]; exact hk
  rw [List.take_succ_eq_append_getElem hkd, List.map_append]
  rfl
theorem subK_length {s : ByteArray} {k : Nat} (hk : k ≤ s.size) : (subK s k).length = k := by
  unfold subK
  rw [List.length_map, List.length_take, ← Lib.size_eq]
  omega
theorem subK_all (s : ByteArray) : subK s s.size = s.data.toList.map fun b => (b.toNat : Int) - 48 := by
  unfold subK
  rw [List.take_of_length_le (by rw [← Lib.size_eq]; exact Nat.le_refl _)]
set_option maxHeartbeats 4000000 in
set_option maxRecDepth 100000 in
theorem specReadOp_any (s : ByteArray) (w : World) (hs : s.size ≤ 1048576) :
    Calls Tryd.prog 23 #[.string s] w (OpRes (SReadOp s) w) := by
  have hE1 : Ext w (w.alloc (.cells #[.int .i64 0, .slice none 0 0] 27)) := (Ext.refl' w).alloc (Nat.le_refl _) _
  by_cases hlen : (words 32 s).length = 3
  · obtain ⟨w0, wa, wb, hws⟩ : ∃ x y z, words 32 s = [x, y, z] := by
      generalize words 32 s = ws at hlen
      match ws, hlen with
      | [x, y, z], _ => exact ⟨x, y, z, rfl⟩
    have hsa : wa.size ≤ s.size := words_size (c := 32) (by rw [hws]; simp)
    have hsb : wb.size ≤ s.size := words_size (c := 32) (by rw [hws]; simp)
    have HW := Lib.hid hws
    by_cases hw0 : w0 = ⟨#[111, 112]⟩
    · subst hw0
      by_cases h64 : 64 < wb.size
      · have HR := Lib.hid (readOp_no (s := s) fun f hf => by
          have h1 := op_words hf
          rw [hws] at h1
          simp only [List.cons.injEq, true_and, and_true] at h1
          obtain ⟨b0, b1, b2, b3⟩ := anyOp_parts hf.1
          have h2 : wb.size = f.2.length := by rw [h1.2]; exact digB_size _ fun x hx => by have := b2 x hx; omega
          have := anyOp_64 hf.1
          omega)
        rw [HR.out]
        clear HR hlen hws
        go_enter Tryd.func23, Tryd.ntmps23
        go_wp2_with fail
        refine (show Calls Tryd.prog 53 #[.string s, .int .u8 32] _ _ from l01Split_any 32 s _ hs).mono ?_
        rintro e w1 ⟨v, rfl, hE, hv⟩
        have d0 := hE.cell (p := ⟨w.heap.size, 0, none⟩) (v := .int .i64 0) (by simp [go_sem])
        have d1 := hE.cell (p := ⟨w.heap.size, 1, none⟩) (v := .slice none 0 0) (by simp [go_sem])
        have f2 := hE.frozen (p := ⟨w.heap.size, 0, none⟩) (by simp)
        have f3 := hE.frozen (p := ⟨w.heap.size, 1, none⟩) (by simp)
        simp [go_sem] at f2 f3
        replace hE := hE1.tr hE
        rw [HW.out] at hv
        obtain ⟨b, off, cap, rfl, q0, q1, q2⟩ := cells_of hv
        have q0 := q0 (by simp)
        have q2 := q2 (by simp)
        clear q1 hv
        simp only [List.getElem_cons_zero, List.getElem_cons_succ, List.length_cons, List.length_nil] at q0 q2 ⊢
        go_wp2_with fail
        exact bodyPost_ret (v := .tuple #[.agg #[.int .i64 0, .slice none 0 0], .int .i64 5]) (by simp [results, Tryd.results23, go_sem, d0, d1]) rfl (OpRes.no ((hE.setCell (by simp <;> omega) _).setCell (by simp <;> omega) _))
      · clear hlen
        go_enter Tryd.func23, Tryd.ntmps23
        go_wp2_with fail
        refine (show Calls Tryd.prog 53 #[.string s, .int .u8 32] _ _ from l01Split_any 32 s _ hs).mono ?_
        rintro e w1 ⟨v, rfl, hE, hv⟩
        have d0 := hE.cell (p := ⟨w.heap.size, 0, none⟩) (v := .int .i64 0) (by simp [go_sem])
        have d1 := hE.cell (p := ⟨w.heap.size, 1, none⟩) (v := .slice none 0 0) (by simp [go_sem])
        have f2 := hE.frozen (p := ⟨w.heap.size, 0, none⟩) (by simp)
        have f3 := hE.frozen (p := ⟨w.heap.size, 1, none⟩) (by simp)
        simp [go_sem] at f2 f3
        replace hE := hE1.tr hE
        rw [HW.out] at hv
        obtain ⟨b, off, cap, rfl, q0, q1, q2⟩ := cells_of hv
        have q0 := q0 (by simp)
        have q1 := q1 (by simp)
        have q2 := q2 (by simp)
        clear hv
        simp only [List.getElem_cons_zero, List.getElem_cons_succ, List.length_cons, List.length_nil, Nat.zero_add, Nat.reduceAdd] at q0 q1 q2 ⊢
        have HWS := Lib.hid hws
        clear hws
        go_wp2_with fail
        refine (l01Number_any wa _ (by omega)).mono ?_
        rintro e w2 ⟨n, ok, rfl, hE2, hn, n0, n1⟩
        have HN := Lib.hid hn
        clear hn
        replace f2 : _ = false := (hE2.frozen (lt_of_cell d0)).trans f2
        replace f3 : _ = false := (hE2.frozen (lt_of_cell d1)).trans f3
        replace d0 := hE2.cell d0
        replace d1 := hE2.cell d1
        replace q2 := hE2.cell q2
        replace hE := hE.tr hE2
        clear hE2 q0 q1
        have hb2 := lt_of_cell q2
        have hdl := lt_of_cell d0
        dsimp only at hb2 hdl
        have hA1 : Ext w2 (w2.alloc (.cells #[.int .i64 n, .slice none 0 0] 27)) := (Ext.refl' w2).alloc (Nat.le_refl _) _
        have hAcc : AccT w (w2.alloc (.cells #[.int .i64 n, .slice none 0 0] 27)) w.heap.size w2.heap.size (w2.heap.size + 1) n (subK wb 0) (.slice none 0 0) := ⟨hE.tr hA1, World.ownsRow_nil _ _ _ _, by simp, by omega, hdl, by omega, by simp [go_sem], by simp [go_sem], by simp [go_sem], hA1.cell d0, hA1.cell d1, (hA1.frozen (lt_of_cell d0)).trans f2, (hA1.frozen (lt_of_cell d1)).trans f3⟩
        have q3 := hA1.cell q2
        clear hA1 d0 d1 f2 f3 hE q2
        go_wp2_with fail
        go_loopw [8] (fun i wr => ∃ (k : Nat) (tv : Value), k ≤ wb.size ∧ i = .int .i64 (k : Nat) ∧ AccT w wr w.heap.size w2.heap.size (w2.heap.size + 1) n (subK wb k) tv ∧ wr.cell? ⟨b, off + 2, none⟩ = some (.string wb)) (fun i _ => wb.size - (intOf i).toNat)
        case atStart => exact ⟨0, _, by omega, rfl, hAcc, q3⟩
        case round =>
          obtain ⟨k, tv, hk, rfl, hA, q2⟩ := hrel
          clear hAcc q3
          obtain ⟨ka, kc, rfl⟩ := hA.form
          by_cases hkl : k < wb.size
          · have a0 := hA.c0
            have a1 := hA.c1
            have HS := Lib.hid (subK_succ hkl)
            have hsl : (subK wb k).length ≤ 1048576 := by rw [subK_length hk]; omega
            generalize subK wb k = L at *
            have hbl := UInt8.toNat_lt wb[k]
            have hwr : IntKind.i64.wrap ((wb[k].toNat : Nat) : Int) = ((wb[k].toNat : Nat) : Int) := by
              simp only [IntKind.wrap]
              simp [IntKind.bits, IntKind.signed]
              omega
            have hwr2 : IntKind.i64.wrap (((wb[k].toNat : Nat) : Int) - 48) = ((wb[k].toNat : Nat) : Int) - 48 := by
              simp only [IntKind.wrap]
              simp [IntKind.bits, IntKind.signed]
              omega
            go_wp2_with fail
            go_wp2_with fail
            refine region_sp [] [10, 11, 12] [SP.val (.pointer (some ⟨w2.heap.size, 1, none⟩)), SP.val (.slice ka L.length kc), SP.val (.slice (some ⟨b, off, none⟩) 3 cap), SP.val (.pointer (some ⟨b, off + 2, none⟩)), SP.val (.string wb), SP.val (.int .i64 (k : Nat)), SP.val (.int .u8 ((wb[k].toNat : Nat) : Int)), SP.val (.int .i64 ((wb[k].toNat : Nat) : Int)), SP.val (.int .i64 (((wb[k].toNat : Nat) : Int) - 48)), SP.row1 (.int .i64 (((wb[k].toNat : Nat) : Int) - 48)), SP.any, SP.any, SP.any] (by kernel_rfl) (fun _ d _ _ _ h => by cases d <;> exact h) (by kernel_rfl) (by kernel_rfl)
              (.cons (fun vs y hY => Step.fieldAddr ⟨w2.heap.size, 0, none⟩ rfl rfl rfl (by simp [go_sem]) rfl) <|
               .cons (fun vs y hY g0_0 => Step.load ⟨w2.heap.size, 1, none⟩ rfl rfl g0_0 (by simp [go_sem, hY.cell a1]) rfl) <|
               .cons (fun vs y hY => Step.move rfl rfl rfl rfl) <|
               .cons (fun vs y hY g2_0 => Step.indexAtP (n := .int .i64 2) ⟨b, off + 2, none⟩ rfl rfl g2_0 rfl (by simp [go_sem, Instr.indexAt, Addr.add] <;> omega) rfl) <|
               .cons (fun vs y hY g3_0 => Step.load ⟨b, off + 2, none⟩ rfl rfl g3_0 (by simp [go_sem, hY.cell q2]) rfl) <|
               .cons (fun vs y hY => Step.move rfl rfl rfl rfl) <|
               .cons (fun vs y hY g4_0 g5_1 => Step.index rfl rfl g4_0 g5_1 (by simp [go_sem, hkl]) rfl) <|
               .cons (fun vs y hY g6_0 => Step.convert rfl rfl g6_0 (by simp [go_sem, hwr]) rfl) <|
               .cons (fun vs y hY g7_0 => Step.bin (u := .int .i64 ((wb[k].toNat : Nat) : Int)) (v := .int .i64 48) rfl rfl g7_0 rfl (by simp [go_sem, hwr2]) rfl) <|
               .cons (fun vs y hY g8_0 => Step.buildSlice1 (x := .int .i64 (((wb[k].toNat : Nat) : Int) - 48)) (e := 2) rfl rfl g8_0 (by simp [go_sem]) row1_new) <|
               .skip rfl <|
               .skip rfl <|
               .skip rfl <|
               .nil) ?_
            intro vs w3 hC hL
            have r0 : vs 0 = _ := hL 0 (by decide) rfl
            have r1 : vs 1 = _ := hL 1 (by decide) rfl
            have r2 : vs 2 = _ := hL 2 (by decide) rfl
            have r3 : vs 3 = _ := hL 3 (by decide) rfl
            have r4 : vs 4 = _ := hL 4 (by decide) rfl
            have r5 : vs 5 = _ := hL 5 (by decide) rfl
            have r6 : vs 6 = _ := hL 6 (by decide) rfl
            have r7 : vs 7 = _ := hL 7 (by decide) rfl
            have r8 : vs 8 = _ := hL 8 (by decide) rfl
            have r9 := hL 9 (by decide) rfl
            clear hL
            simp only [putAll, Act.put, List.contains_cons, List.contains_nil, Nat.reduceBEq, Nat.reduceAdd, Bool.or_false, Bool.or_true, cond_true, cond_false, List.setIfInBounds_toArray, List.set_cons_succ, List.set_cons_zero, List.filterMap_cons, List.filterMap_nil, List.getElem?_cons_succ, List.getElem?_cons_zero, r0, r1, r2, r3, r4, r5, r6, r7, r8]
            clear r0 r1 r2 r3 r4 r5 r6 r7 r8
            obtain ⟨b', rb, cb⟩ := r9
            rw [rb]
            replace hA := hA.ext hC
            replace q2 := hC.cell q2
            refine hA.append hsl cb rfl (.tmp 46) (.tmp 54) rfl rfl rfl ?_
            intro v' w4 k3 k4 hA' hK ⟨xa, xc, hxe⟩
            subst hxe
            rw [← HS.out] at hA'
            have q2' := hK.cell q2 (by dsimp only; omega) (by dsimp only; omega)
            go_wp2_with fail
            go_roundw
            case rel => exact ⟨k + 1, _, by omega, by go_num, hA', q2'⟩
            case measure => simp [intOf]; omega
          · have hke : k = wb.size := by omega
            subst hke
            have hll : (subK wb wb.size).length = wb.size := subK_length (Nat.le_refl _)
            have hmk : mkOp (n, subK wb wb.size) ≤ 1048576 := by
              show (subK wb wb.size).length ≤ 1048576
              omega
            have HUN : ∀ g, IsOpOf s g → wa = decB g.1 ∧ subK wb wb.size = g.2 := fun g hg => by
              have h1 := op_words hg
              rw [HWS.out] at h1
              simp only [List.cons.injEq, true_and, and_true] at h1
              obtain ⟨b0, b1, b2, b3⟩ := anyOp_parts hg.1
              refine ⟨h1.1, ?_⟩
              rw [subK_all, h1.2, digB_bytes _ fun x hx => by have := b2 x hx; omega, List.map_map]
              refine Eq.trans (List.map_congr_left fun x hx => ?_) (List.map_id _)
              have hx := b2 x hx
              simp only [Function.comp_apply, id_eq, ofNat_dig hx.1 (show x < 10 by omega)]
              omega
            have hrd : RdI wr (.slice ka (subK wb wb.size).length kc) (subK wb wb.size) := (show OI wr _ (subK wb wb.size) _ from ⟨own_base hA.ho (fun _ _ => Nat.zero_le _), rfl⟩).rd
            have hpt : PtOp wr (.pointer (some ⟨w2.heap.size, 0, none⟩)) (n, subK wb wb.size) := ⟨_, _, _, rfl, hA.c0, hA.c1, hrd⟩
            have HPT := Lib.hid hpt
            have HSUB := Lib.hid (subK_all wb)
            clear hpt hrd hll hkl
            generalize subK wb wb.size = L at *
            have a0 := hA.c0
            have a1 := hA.c1
            have d0 := hA.d0
            have d1 := hA.d1
            have f2 := hA.f2
            have f3 := hA.f3
            have hE := hA.hE
            cases ok with
            | false =>
              have HR := Lib.hid (readOp_no (s := s) fun g hg => by
                obtain ⟨b0, b1, _⟩ := anyOp_parts hg.1
                exact HN.out.2 rfl g.1 b0 (by omega) (HUN g hg).1)
              clear HUN hA
              go_wp2_with fail
              rw [HR.out]
              exact bodyPost_ret (v := .tuple #[.agg #[.int .i64 0, .slice none 0 0], .int .i64 5]) (by simp [results, Tryd.results23, go_sem, d0, d1]) rfl (OpRes.no ((hE.setCell (by simp <;> omega) _).setCell (by simp <;> omega) _))
            | true =>
              have hnum := HN.out.1 rfl
              cases ha : SAnyOp (n, L) with
              | false =>
                have HR := Lib.hid (readOp_no (s := s) fun g hg => by
                  obtain ⟨b0, b1, _⟩ := anyOp_parts hg.1
                  obtain ⟨u1, u2⟩ := HUN g hg
                  have h1 : n = g.1 := (hnum.2 g.1 b0 (by omega)).2 u1
                  have h2 : (n, L) = g := by rw [h1, u2]
                  rw [h2, hg.1] at ha
                  cases ha)
                clear HUN hnum hA
                go_wp2_with fail
                refine (l02Sized_any (n, L) _ _ HPT.out).mono ?_
                rintro e w3 ⟨rfl, hE3⟩
                rw [ha]
                replace f2 : _ = false := (hE3.frozen (lt_of_cell d0)).trans f2
                replace f3 : _ = false := (hE3.frozen (lt_of_cell d1)).trans f3
                replace d0 := hE3.cell d0
                replace d1 := hE3.cell d1
                replace a0 := hE3.cell a0
                replace a1 := hE3.cell a1
                replace hE := hE.tr hE3
                clear hE3
                go_wp2_with fail
                rw [HR.out]
                exact bodyPost_ret (v := .tuple #[.agg #[.int .i64 0, .slice none 0 0], .int .i64 5]) (by simp [results, Tryd.results23, go_sem, d0, d1]) rfl (OpRes.no ((hE.setCell (by simp <;> omega) _).setCell (by simp <;> omega) _))
              | true =>
                have hok : IsOpOf s (n, L) := ⟨ha, by
                  obtain ⟨b0, b1, b2, b3⟩ := anyOp_parts ha
                  have hd : ∀ b ∈ wb.data.toList, isDig b = true := fun b hb => by
                    have := b2 ((b.toNat : Int) - 48) (by rw [HSUB.out]; exact List.mem_map.2 ⟨b, hb, rfl⟩)
                    unfold isDig
                    rw [decide_eq_true_eq]
                    omega
                  rw [HSUB.out]
                  exact op_from HWS.out ((hnum.2 n b0 (by have : n ≤ 3 := b1; omega)).1 rfl) (by have : 1 ≤ n := b0; omega) (by have : n ≤ 3 := b1; omega) hd⟩
                have HR := Lib.hid (readOp_yes hok)
                clear HUN hnum hok a0 a1 d0 d1 f2 f3 hE
                go_wp2_with fail
                refine (l02Sized_any (n, L) _ _ HPT.out).mono ?_
                rintro e w3 ⟨rfl, hE3⟩
                rw [ha]
                replace hA := hA.ext hE3
                have a0 := hA.c0
                have a1 := hA.c1
                have d0 := hA.d0
                have d1 := hA.d1
                have f2 := hA.f2
                have f3 := hA.f3
                obtain ⟨fp, g1, g2, g3⟩ := hA.done (.int .i64 n) (.slice ka L.length kc)
                clear hA hE3
                go_wp2_with fail
                rw [HR.out]
                exact bodyPost_ret (v := .tuple #[.agg #[.int .i64 n, .slice ka L.length kc], .int .i64 0]) (by simp [results, Tryd.results23, go_sem, d0, d1]) rfl (OpRes.of rfl g1 g2 g3 hmk)
    · have HR := Lib.hid (readOp_no (s := s) fun f hf => by
        have := op_words hf
        rw [hws] at this
        simp only [List.cons.injEq] at this
        exact hw0 this.1)
      rw [HR.out]
      clear HR
      have hbb2 : (w0.toList == ([111, 112] : List UInt8)) = false := by have := text_ne hw0; rw [toList_eq ⟨#[111, 112]⟩] at this; exact this
      clear hlen hw0 hws
      go_enter Tryd.func23, Tryd.ntmps23
      go_wp2_with fail
      refine (show Calls Tryd.prog 53 #[.string s, .int .u8 32] _ _ from l01Split_any 32 s _ hs).mono ?_
      rintro e w1 ⟨v, rfl, hE, hv⟩
      have d0 := hE.cell (p := ⟨w.heap.size, 0, none⟩) (v := .int .i64 0) (by simp [go_sem])
      have d1 := hE.cell (p := ⟨w.heap.size, 1, none⟩) (v := .slice none 0 0) (by simp [go_sem])
      have f2 := hE.frozen (p := ⟨w.heap.size, 0, none⟩) (by simp)
      have f3 := hE.frozen (p := ⟨w.heap.size, 1, none⟩) (by simp)
      simp [go_sem] at f2 f3
      replace hE := hE1.tr hE
      rw [HW.out] at hv
      obtain ⟨b, off, cap, rfl, q0, q1, q2⟩ := cells_of hv
      have q0 := q0 (by simp)
      clear q1 q2 hv
      simp only [List.getElem_cons_zero, List.length_cons, List.length_nil] at q0 ⊢
      go_wp2_with fail
      exact bodyPost_ret (v := .tuple #[.agg #[.int .i64 0, .slice none 0 0], .int .i64 5]) (by simp [results, Tryd.results23, go_sem, d0, d1]) rfl (OpRes.no ((hE.setCell (by simp <;> omega) _).setCell (by simp <;> omega) _))
  · have HR := Lib.hid (readOp_no (s := s) fun f hf => by have := op_words hf; rw [this] at hlen; exact hlen rfl)
    rw [HR.out]
    clear HR
    have hlen2 : (((words 32 s).length : Int) != 3) = true := by simp; omega
    have hlen3 : (((words 32 s).length : Int) = 3) = False := eq_false (by omega)
    clear hlen
    go_enter Tryd.func23, Tryd.ntmps23
    go_wp2_with fail
    refine (show Calls Tryd.prog 53 #[.string s, .int .u8 32] _ _ from l01Split_any 32 s _ hs).mono ?_
    rintro e w1 ⟨v, rfl, hE, hv⟩
    have d0 := hE.cell (p := ⟨w.heap.size, 0, none⟩) (v := .int .i64 0) (by simp [go_sem])
    have d1 := hE.cell (p := ⟨w.heap.size, 1, none⟩) (v := .slice none 0 0) (by simp [go_sem])
    have f2 := hE.frozen (p := ⟨w.heap.size, 0, none⟩) (by simp)
    have f3 := hE.frozen (p := ⟨w.heap.size, 1, none⟩) (by simp)
    simp [go_sem] at f2 f3
    replace hE := hE1.tr hE
    obtain ⟨b, off, cap, rfl, q0, q1, q2⟩ := cells_of hv
    clear q0 q1 q2 hv
    generalize words 32 s = ws at *
    go_wp2_with fail
    exact bodyPost_ret (v := .tuple #[.agg #[.int .i64 0, .slice none 0 0], .int .i64 5]) (by simp [results, Tryd.results23, go_sem, d0, d1]) rfl (OpRes.no ((hE.setCell (by simp <;> omega) _).setCell (by simp <;> omega) _))
end Go.Proofs.YtajkepdfemdagaaDoor
