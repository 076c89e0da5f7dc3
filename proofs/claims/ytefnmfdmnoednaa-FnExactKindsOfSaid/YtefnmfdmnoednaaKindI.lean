
/- Kinds of operations, the program's way: isKind and what it leans on. -/
import Derived.Test.YtefnmfdmnoednaaKindL
import Derived.Test.YtefnmfdmnoednaaSortC
import Derived.Test.YtefnmfdmnoednaaOpMk
import Derived.Test.YtefnmfdmnoednaaRepeat
namespace Go.Proofs.Ytefnmfdmnoednaa
open Go.RowKit
set_option linter.unusedVariables false

theorem digs_vals' {s : Int} (hs : 1 ≤ s) (m k : Nat) : ∀ a ∈ digs s m k, 0 ≤ a ∧ a < s := digs_val s hs m k (by omega)
set_option maxHeartbeats 1000000 in
theorem symFn_any
    (s : Int) (f : Int × List Int) (tv : Value) (bs bf k : Nat) (x : Value) (w : World) (hr : RdOp w (.agg #[.int .i64 f.1, tv]) f) (hf : SValidOp s f = true) (c0 : w.cell? ⟨bs, 0, none⟩ = some (.int .i64 s)) (c1 : w.cell? ⟨bf, 0, none⟩ = some (.int .i64 f.1)) (c2 : w.cell? ⟨bf, 1, none⟩ = some tv)
    (hx : RdI w x (digs s f.1.toNat k)) : Calls Try.prog 178 #[x, .pointer (some ⟨bf, 0, none⟩), .pointer (some ⟨bs, 0, none⟩)] w fun e w' => e = .returned (.bool (symP s f (digs s f.1.toNat k))) ∧ Ext w w' := by
  obtain ⟨hv1, hv2, _, _⟩ := valid_iff.1 hf
  have hlen := digs_length s f.1.toNat k
  have hdv := Lib.hid (digs_vals' hv1.1 f.1.toNat k)
  generalize digs s f.1.toNat k = l at hx hlen hdv ⊢
  have hll : (l.length : Int) = f.1 := by omega
  have HL := Lib.hid hll
  have HS := Lib.hid (show ((sortI l).length : Int) = f.1 from by rw [sortI_length]; exact hll)
  have HV := Lib.hid (show ∀ a ∈ sortI l, 0 ≤ a ∧ a < s from fun a ha => hdv.out a ((sortI_perm l).mem_iff.1 ha))
  have hl0 : 0 < l.length := by omega
  have hl1 : l.length ≤ 1048576 := by omega
  have HP := Lib.hid (show symP s f l = (apply s f l == apply s f (sortI l)) from by rw [Bool.eq_iff_iff]; simp [symP])
  clear hll hlen
  obtain ⟨xa, xc, rfl⟩ := hx.form
  go_enter Try.func178, Try.ntmps178
  go_wp2_with fail
  refine (clone_any _ _ _ hx hl0 hl1).mono ?_
  rintro e w1 ⟨u, fp, rfl, hE, ho, hfp⟩
  obtain ⟨ua, uc, rfl⟩ := ho.form
  go_wp2_with fail
  refine (sort_any l _ fp _ ho hl0 hl1).mono ?_
  rintro e w2 ⟨rfl, hO, ho2⟩
  have hE2 : Ext w w2 := Below.trans hE (hO.below hE.size hfp)
  have c0 := hE2.cell c0
  have c1 := hE2.cell c1
  have c2 := hE2.cell c2
  have hr := hr.ext hE2
  have hx := hx.ext hE2
  go_wp2_with fail
  refine region_sp [] [] [SP.val (.agg #[.int .i64 f.1, tv]), SP.val (.int .i64 s), SP.val (.slice xa l.length xc), SP.val (.int .i64 (apply s f l)), SP.val (.agg #[.int .i64 f.1, tv]), SP.val (.int .i64 s), SP.val (.slice ua l.length uc), SP.val (.int .i64 (apply s f (sortI l))), SP.val (.bool (apply s f l == apply s f (sortI l))), SP.val (.bool (apply s f l == apply s f (sortI l)))] (by kernel_rfl) (fun _ d _ _ _ h => by cases d <;> exact h) (by kernel_rfl) (by kernel_rfl)
    (.cons (fun vs y hY => Step.load ⟨bf, 0, none⟩ rfl rfl rfl (by simp [go_sem, hY.cell c1, hY.cell c2]) rfl) <|
     .cons (fun vs y hY => Step.load ⟨bs, 0, none⟩ rfl rfl rfl (by simp [go_sem, hY.cell c0]) rfl) <|
     .cons (fun vs y hY => Step.move rfl rfl rfl rfl) <|
     .cons (fun vs y hY g0_0 g1_1 g2_2 => Step.call Try.call140 rfl rfl [vs 0, vs 1, vs 2] rfl rfl (by rw [show vs 0 = _ from g0_0, show vs 1 = _ from g1_1, show vs 2 = _ from g2_2]; exact (Calls.spe (opAt_any s f _ _ _ _ (hr.ext hY) (hx.ext hY) hf HL.out hdv.out)))) <|
     .cons (fun vs y hY => Step.load ⟨bf, 0, none⟩ rfl rfl rfl (by simp [go_sem, hY.cell c1, hY.cell c2]) rfl) <|
     .cons (fun vs y hY => Step.load ⟨bs, 0, none⟩ rfl rfl rfl (by simp [go_sem, hY.cell c0]) rfl) <|
     .cons (fun vs y hY => Step.move rfl rfl rfl rfl) <|
     .cons (fun vs y hY g4_0 g5_1 g6_2 g3_3 => Step.call Try.call140 rfl rfl [vs 4, vs 5, vs 6] rfl rfl (by rw [show vs 4 = _ from g4_0, show vs 5 = _ from g5_1, show vs 6 = _ from g6_2]; exact (Calls.spe (opAt_any s f _ _ _ _ (hr.ext hY) (ho2.rd.ext hY) hf HS.out HV.out)))) <|
     .cons (fun vs y hY g3_0 g7_1 => Step.bin (u := .int .i64 (apply s f l)) (v := .int .i64 (apply s f (sortI l))) rfl rfl g3_0 g7_1 (by simp [go_sem]) rfl) <|
     .cons (fun vs y hY g8_0 g7_1 g0_2 g1_3 g2_4 g3_5 g4_6 g5_7 g6_8 g7_9 g8_10 => Step.assign rfl rfl g8_0 rfl) <|
     .nil) ?_
  intro vs w3 hC hL
  have r0 : vs 0 = _ := hL 0 (by decide) rfl
  have r1 : vs 1 = _ := hL 1 (by decide) rfl
  have r2 : vs 2 = _ := hL 2 (by decide) rfl
  have r3 : vs 3 = _ := hL 3 (by decide) rfl
  have r4 : vs 4 = _ := hL 4 (by decide) rfl
  have r5 : vs 5 = _ := hL 5 (by decide) rfl
  have r6 : vs 6 = _ := hL 6 (by decide) rfl
  have r7 : vs 7 = _ := hL 7 (by decide) rfl
  have r8 : vs 8 = _ := hL 8 (by decide) rfl
  have r9 : vs 9 = _ := hL 9 (by decide) rfl
  clear hL
  simp only [putAll, Act.put, List.contains_nil, cond_false, List.setIfInBounds_toArray, List.set_cons_succ, List.set_cons_zero, List.filterMap_nil, r0, r1, r2, r3, r4, r5, r6, r7, r8, r9]
  clear r0 r1 r2 r3 r4 r5 r6 r7 r8 r9
  go_wp2_with fail
  go_ret
  exact ⟨ret_bool HP.out.symm, hE2.tr hC⟩

set_option maxHeartbeats 1000000 in
theorem idemFn_any
    (s : Int) (f : Int × List Int) (tv : Value) (bs bf k : Nat) (x : Value) (w : World) (hr : RdOp w (.agg #[.int .i64 f.1, tv]) f) (hf : SValidOp s f = true) (c0 : w.cell? ⟨bs, 0, none⟩ = some (.int .i64 s)) (c1 : w.cell? ⟨bf, 0, none⟩ = some (.int .i64 f.1)) (c2 : w.cell? ⟨bf, 1, none⟩ = some tv)
    (hx : RdI w x (digs s 1 k)) : Calls Try.prog 139 #[x, .pointer (some ⟨bf, 0, none⟩), .pointer (some ⟨bs, 0, none⟩)] w fun e w' => e = .returned (.bool (idemP s f (digs s 1 k))) ∧ Ext w w' := by
  obtain ⟨hv1, hv2, _, _⟩ := valid_iff.1 hf
  have hdv := digs_vals' hv1.1 1 k
  obtain ⟨x0, hx0⟩ := digs_one s k
  rw [hx0] at hx hdv ⊢
  clear hx0
  obtain ⟨n, hn⟩ := Int.eq_ofNat_of_zero_le (show 0 ≤ f.1 by omega)
  have HL := Lib.hid (show ((List.replicate n x0).length : Int) = f.1 from by simp [hn])
  have HV := Lib.hid (show ∀ a ∈ List.replicate n x0, 0 ≤ a ∧ a < s from fun a ha => by rw [(List.mem_replicate.1 ha).2]; exact hdv x0 (by simp))
  have HP := Lib.hid (show idemP s f [x0] = (apply s f (List.replicate n x0) == x0) from by rw [Bool.eq_iff_iff]; simp [idemP, hn])
  have hn1 : 1 ≤ n ∧ n ≤ 1048576 := by omega
  rw [hn] at c1
  have hr : RdOp w (.agg #[.int .i64 (n : Nat), tv]) f := hn ▸ hr
  have hxr := hx
  obtain ⟨b, off, c, rfl, hc1, hc⟩ := rdI_one hx
  clear hdv hn
  go_enter Try.func139, Try.ntmps139
  go_wp2_with fail
  refine region_sp [] [] [SP.val (.agg #[.int .i64 (n : Nat), tv]), SP.val (.int .i64 s), SP.val (.slice (some ⟨b, off, none⟩) 1 c), SP.val (.pointer (some ⟨bf, 0, none⟩)), SP.val (.int .i64 (n : Nat)), SP.ownIb w.heap.size (List.replicate n x0), SP.val (.int .i64 (apply s f (List.replicate n x0))), SP.val (.slice (some ⟨b, off, none⟩) 1 c), SP.val (.pointer (some ⟨b, off, none⟩)), SP.val (.int .i64 x0), SP.val (.bool (apply s f (List.replicate n x0) == x0)), SP.val (.bool (apply s f (List.replicate n x0) == x0))] (by kernel_rfl) (fun _ d _ _ _ h => by cases d <;> exact h) (by kernel_rfl) (by kernel_rfl)
    (.cons (fun vs y hY => Step.load ⟨bf, 0, none⟩ rfl rfl rfl (by simp [go_sem, hY.cell c1, hY.cell c2]) rfl) <|
     .cons (fun vs y hY => Step.load ⟨bs, 0, none⟩ rfl rfl rfl (by simp [go_sem, hY.cell c0]) rfl) <|
     .cons (fun vs y hY => Step.move rfl rfl rfl rfl) <|
     .cons (fun vs y hY => Step.fieldAddr ⟨bf, 0, none⟩ rfl rfl rfl (by simp [go_sem]) rfl) <|
     .cons (fun vs y hY g3_0 => Step.load ⟨bf, 0, none⟩ rfl rfl g3_0 (by simp [go_sem, hY.cell c1]) rfl) <|
     .cons (fun vs y hY g2_0 g4_1 => Step.call Try.call141 rfl rfl [vs 2, vs 4] rfl rfl (by rw [show vs 2 = _ from g2_0, show vs 4 = _ from g4_1]; exact ((repeat_any x0 n _ _ (hxr.ext hY) hn1.1 hn1.2).mono fun _ _ ⟨u, fp, he, hE, ho, hg⟩ => ⟨u, he, hE, fp, ho, fun g h => Nat.le_trans hY.size (hg g h)⟩))) <|
     .cons (fun vs y hY g0_0 g1_1 g5_2 g5_3 => Step.call Try.call140 rfl rfl [vs 0, vs 1, vs 5] rfl rfl (by rw [show vs 0 = _ from g0_0, show vs 1 = _ from g1_1]; exact (Calls.spe (opAt_any s f _ _ _ _ (hr.ext hY) (rdI_of_spb g5_2) hf HL.out HV.out)))) <|
     .cons (fun vs y hY => Step.move rfl rfl rfl rfl) <|
     .cons (fun vs y hY g7_0 => Step.indexAtP (n := .int .i64 0) ⟨b, off, none⟩ rfl rfl g7_0 rfl (by simp [go_sem, Instr.indexAt, Addr.add] <;> omega) rfl) <|
     .cons (fun vs y hY g8_0 => Step.load ⟨b, off, none⟩ rfl rfl g8_0 (by simp [go_sem, hY.cell hc]) rfl) <|
     .cons (fun vs y hY g6_0 g9_1 => Step.bin (u := .int .i64 (apply s f (List.replicate n x0))) (v := .int .i64 x0) rfl rfl g6_0 g9_1 (by simp [go_sem]) rfl) <|
     .cons (fun vs y hY g10_0 g6_1 g0_2 g1_3 g2_4 g3_5 g4_6 g5_7 g6_8 g7_9 g8_10 g9_11 g10_12 => Step.assign rfl rfl g10_0 rfl) <|
     .nil) ?_
  intro vs w3 hC hL
  have r0 : vs 0 = _ := hL 0 (by decide) rfl
  have r1 : vs 1 = _ := hL 1 (by decide) rfl
  have r2 : vs 2 = _ := hL 2 (by decide) rfl
  have r3 : vs 3 = _ := hL 3 (by decide) rfl
  have r4 : vs 4 = _ := hL 4 (by decide) rfl
  have r5 := hL 5 (by decide) rfl
  have r6 : vs 6 = _ := hL 6 (by decide) rfl
  have r7 : vs 7 = _ := hL 7 (by decide) rfl
  have r8 : vs 8 = _ := hL 8 (by decide) rfl
  have r9 : vs 9 = _ := hL 9 (by decide) rfl
  have r10 : vs 10 = _ := hL 10 (by decide) rfl
  have r11 : vs 11 = _ := hL 11 (by decide) rfl
  clear hL
  simp only [putAll, Act.put, List.contains_nil, cond_false, List.setIfInBounds_toArray, List.set_cons_succ, List.set_cons_zero, List.filterMap_nil, r0, r1, r2, r3, r4, r6, r7, r8, r9, r10, r11]
  clear r0 r1 r2 r3 r4 r6 r7 r8 r9 r10 r11
  go_wp2_with fail
  go_ret
  exact ⟨ret_bool HP.out.symm, hC⟩
set_option maxHeartbeats 1000000 in
theorem consFn_any
    (s : Int) (f : Int × List Int) (tv : Value) (bs bf k : Nat) (x : Value) (w : World) (hr : RdOp w (.agg #[.int .i64 f.1, tv]) f) (hf : SValidOp s f = true) (c0 : w.cell? ⟨bs, 0, none⟩ = some (.int .i64 s)) (c1 : w.cell? ⟨bf, 0, none⟩ = some (.int .i64 f.1)) (c2 : w.cell? ⟨bf, 1, none⟩ = some tv)
    (hx : RdI w x (digs s f.1.toNat k)) : Calls Try.prog 142 #[x, .pointer (some ⟨bf, 0, none⟩), .pointer (some ⟨bs, 0, none⟩)] w fun e w' => e = .returned (.bool (consP s f (digs s f.1.toNat k))) ∧ Ext w w' := by
  obtain ⟨hv1, hv2, _, _⟩ := valid_iff.1 hf
  have hlen := digs_length s f.1.toNat k
  have hdv := Lib.hid (digs_vals' hv1.1 f.1.toNat k)
  generalize digs s f.1.toNat k = l at hx hlen hdv ⊢
  have HL := Lib.hid (show (l.length : Int) = f.1 from by omega)
  have HP := Lib.hid (show consP s f l = hasI l (apply s f l) from rfl)
  clear hlen
  obtain ⟨xa, xc, rfl⟩ := hx.form
  go_enter Try.func142, Try.ntmps142
  go_wp2_with fail
  refine (opAt_any s f _ _ _ _ hr hx hf HL.out hdv.out).mono ?_
  rintro e w1 ⟨rfl, hE⟩
  go_wp2_with fail
  refine (containsI_any l _ _ _ (hx.ext hE)).mono ?_
  rintro e w2 ⟨rfl, hE2⟩
  go_wp2_with fail
  go_ret
  exact ⟨ret_bool HP.out.symm, hE.tr hE2⟩
set_option maxHeartbeats 2000000 in
set_option maxRecDepth 100000 in
theorem assFn_any
    (s : Int) (f : Int × List Int) (tv : Value) (bs bf k : Nat) (x : Value) (w : World) (hr : RdOp w (.agg #[.int .i64 f.1, tv]) f) (hf : SValidOp s f = true) (c0 : w.cell? ⟨bs, 0, none⟩ = some (.int .i64 s)) (c1 : w.cell? ⟨bf, 0, none⟩ = some (.int .i64 f.1)) (c2 : w.cell? ⟨bf, 1, none⟩ = some tv)
    (hf2 : f.1 = 2) (hx : RdI w x (digs s 3 k)) : Calls Try.prog 145 #[x, .pointer (some ⟨bf, 0, none⟩), .pointer (some ⟨bs, 0, none⟩)] w fun e w' => e = .returned (.bool (assP s f (digs s 3 k))) ∧ Ext w w' := by
  obtain ⟨hv1, hv2, _, _⟩ := valid_iff.1 hf
  have hdv := digs_vals' hv1.1 3 k
  obtain ⟨x0, x1, x2, hx0⟩ := digs_three s k
  rw [hx0] at hx hdv ⊢
  clear hx0
  have b0 := hdv x0 (by simp)
  have b1 := hdv x1 (by simp)
  have b2 := hdv x2 (by simp)
  have two : ∀ {a c : Int}, (0 ≤ a ∧ a < s) → (0 ≤ c ∧ c < s) → (([a, c] : List Int).length : Int) = f.1 ∧ ∀ z ∈ [a, c], 0 ≤ z ∧ z < s := fun {a c} ha hc => ⟨by simp [hf2], fun z hz => by
    simp at hz
    rcases hz with rfl | rfl
    · exact ha
    · exact hc⟩
  have HA := Lib.hid (two b0 b1)
  have HB := Lib.hid (two b1 b2)
  have HC := Lib.hid (two (apply_val hf HA.out.1 HA.out.2) b2)
  have HD := Lib.hid (two b0 (apply_val hf HB.out.1 HB.out.2))
  have HP := Lib.hid (show assP s f [x0, x1, x2] = (apply s f [apply s f [x0, x1], x2] == apply s f [x0, apply s f [x1, x2]]) from by rw [Bool.eq_iff_iff]; simp [assP])
  have hxr := hx
  obtain ⟨b, off, c, rfl, hc1, _, hc0, hc1', hc2⟩ := rdI_three hx
  clear hdv two
  go_enter Try.func145, Try.ntmps145
  go_wp2_with fail
  refine region_sp [] [] [SP.val (.agg #[.int .i64 f.1, tv]), SP.val (.int .i64 s), SP.val (.agg #[.int .i64 f.1, tv]), SP.val (.int .i64 s), SP.val (.slice (some ⟨b, off, none⟩) 3 c), SP.val (.pointer (some ⟨b, off, none⟩)), SP.val (.int .i64 x0), SP.val (.slice (some ⟨b, off, none⟩) 3 c), SP.val (.pointer (some ⟨b, off + 1, none⟩)), SP.val (.int .i64 x1), SP.ownIb w.heap.size [x0, x1], SP.val (.int .i64 (apply s f [x0, x1])), SP.val (.slice (some ⟨b, off, none⟩) 3 c), SP.val (.pointer (some ⟨b, off + 2, none⟩)), SP.val (.int .i64 x2), SP.ownIb w.heap.size [(apply s f [x0, x1]), x2], SP.val (.int .i64 (apply s f [apply s f [x0, x1], x2])), SP.val (.agg #[.int .i64 f.1, tv]), SP.val (.int .i64 s), SP.val (.slice (some ⟨b, off, none⟩) 3 c), SP.val (.pointer (some ⟨b, off, none⟩)), SP.val (.int .i64 x0), SP.val (.agg #[.int .i64 f.1, tv]), SP.val (.int .i64 s), SP.val (.slice (some ⟨b, off, none⟩) 3 c), SP.val (.pointer (some ⟨b, off + 1, none⟩)), SP.val (.int .i64 x1), SP.val (.slice (some ⟨b, off, none⟩) 3 c), SP.val (.pointer (some ⟨b, off + 2, none⟩)), SP.val (.int .i64 x2), SP.ownIb w.heap.size [x1, x2], SP.val (.int .i64 (apply s f [x1, x2])), SP.ownIb w.heap.size [x0, (apply s f [x1, x2])], SP.val (.int .i64 (apply s f [x0, apply s f [x1, x2]])), SP.val (.bool (apply s f [apply s f [x0, x1], x2] == apply s f [x0, apply s f [x1, x2]])), SP.val (.bool (apply s f [apply s f [x0, x1], x2] == apply s f [x0, apply s f [x1, x2]]))] (by kernel_rfl) (fun _ d _ _ _ h => by cases d <;> exact h) (by kernel_rfl) (by kernel_rfl)
    (.cons (fun vs y hY => Step.load ⟨bf, 0, none⟩ rfl rfl rfl (by simp [go_sem, hY.cell c1, hY.cell c2]) rfl) <|
     .cons (fun vs y hY => Step.load ⟨bs, 0, none⟩ rfl rfl rfl (by simp [go_sem, hY.cell c0]) rfl) <|
     .cons (fun vs y hY => Step.load ⟨bf, 0, none⟩ rfl rfl rfl (by simp [go_sem, hY.cell c1, hY.cell c2]) rfl) <|
     .cons (fun vs y hY => Step.load ⟨bs, 0, none⟩ rfl rfl rfl (by simp [go_sem, hY.cell c0]) rfl) <|
     .cons (fun vs y hY => Step.move rfl rfl rfl rfl) <|
     .cons (fun vs y hY g4_0 => Step.indexAtP (n := .int .i64 0) ⟨b, off, none⟩ rfl rfl g4_0 rfl (by simp [go_sem, Instr.indexAt, Addr.add] <;> omega) rfl) <|
     .cons (fun vs y hY g5_0 => Step.load ⟨b, off, none⟩ rfl rfl g5_0 (by simp [go_sem, hY.cell hc0]) rfl) <|
     .cons (fun vs y hY => Step.move rfl rfl rfl rfl) <|
     .cons (fun vs y hY g7_0 => Step.indexAtP (n := .int .i64 1) ⟨b, off + 1, none⟩ rfl rfl g7_0 rfl (by simp [go_sem, Instr.indexAt, Addr.add] <;> omega) rfl) <|
     .cons (fun vs y hY g8_0 => Step.load ⟨b, off + 1, none⟩ rfl rfl g8_0 (by simp [go_sem, hY.cell hc1']) rfl) <|
     .cons (fun vs y hY g6_0 g9_1 => Step.buildSlice2 (e := 2) rfl rfl g6_0 g9_1 (by simp [go_sem]) ⟨_, OI_pair _ _ _, by simp; exact hY.size⟩) <|
     .cons (fun vs y hY g2_0 g3_1 g10_2 => Step.call Try.call140 rfl rfl [vs 2, vs 3, vs 10] rfl rfl (by rw [show vs 2 = _ from g2_0, show vs 3 = _ from g3_1]; exact (Calls.spe (opAt_any s f _ _ _ _ (hr.ext hY) (rdI_of_spb g10_2) hf HA.out.1 HA.out.2)))) <|
     .cons (fun vs y hY => Step.move rfl rfl rfl rfl) <|
     .cons (fun vs y hY g12_0 => Step.indexAtP (n := .int .i64 2) ⟨b, off + 2, none⟩ rfl rfl g12_0 rfl (by simp [go_sem, Instr.indexAt, Addr.add] <;> omega) rfl) <|
     .cons (fun vs y hY g13_0 => Step.load ⟨b, off + 2, none⟩ rfl rfl g13_0 (by simp [go_sem, hY.cell hc2]) rfl) <|
     .cons (fun vs y hY g11_0 g14_1 => Step.buildSlice2 (e := 2) rfl rfl g11_0 g14_1 (by simp [go_sem]) ⟨_, OI_pair _ _ _, by simp; exact hY.size⟩) <|
     .cons (fun vs y hY g0_0 g1_1 g15_2 g11_3 => Step.call Try.call140 rfl rfl [vs 0, vs 1, vs 15] rfl rfl (by rw [show vs 0 = _ from g0_0, show vs 1 = _ from g1_1]; exact (Calls.spe (opAt_any s f _ _ _ _ (hr.ext hY) (rdI_of_spb g15_2) hf HC.out.1 HC.out.2)))) <|
     .cons (fun vs y hY => Step.load ⟨bf, 0, none⟩ rfl rfl rfl (by simp [go_sem, hY.cell c1, hY.cell c2]) rfl) <|
     .cons (fun vs y hY => Step.load ⟨bs, 0, none⟩ rfl rfl rfl (by simp [go_sem, hY.cell c0]) rfl) <|
     .cons (fun vs y hY => Step.move rfl rfl rfl rfl) <|
     .cons (fun vs y hY g19_0 => Step.indexAtP (n := .int .i64 0) ⟨b, off, none⟩ rfl rfl g19_0 rfl (by simp [go_sem, Instr.indexAt, Addr.add] <;> omega) rfl) <|
     .cons (fun vs y hY g20_0 => Step.load ⟨b, off, none⟩ rfl rfl g20_0 (by simp [go_sem, hY.cell hc0]) rfl) <|
     .cons (fun vs y hY => Step.load ⟨bf, 0, none⟩ rfl rfl rfl (by simp [go_sem, hY.cell c1, hY.cell c2]) rfl) <|
     .cons (fun vs y hY => Step.load ⟨bs, 0, none⟩ rfl rfl rfl (by simp [go_sem, hY.cell c0]) rfl) <|
     .cons (fun vs y hY => Step.move rfl rfl rfl rfl) <|
     .cons (fun vs y hY g24_0 => Step.indexAtP (n := .int .i64 1) ⟨b, off + 1, none⟩ rfl rfl g24_0 rfl (by simp [go_sem, Instr.indexAt, Addr.add] <;> omega) rfl) <|
     .cons (fun vs y hY g25_0 => Step.load ⟨b, off + 1, none⟩ rfl rfl g25_0 (by simp [go_sem, hY.cell hc1']) rfl) <|
     .cons (fun vs y hY => Step.move rfl rfl rfl rfl) <|
     .cons (fun vs y hY g27_0 => Step.indexAtP (n := .int .i64 2) ⟨b, off + 2, none⟩ rfl rfl g27_0 rfl (by simp [go_sem, Instr.indexAt, Addr.add] <;> omega) rfl) <|
     .cons (fun vs y hY g28_0 => Step.load ⟨b, off + 2, none⟩ rfl rfl g28_0 (by simp [go_sem, hY.cell hc2]) rfl) <|
     .cons (fun vs y hY g26_0 g29_1 => Step.buildSlice2 (e := 2) rfl rfl g26_0 g29_1 (by simp [go_sem]) ⟨_, OI_pair _ _ _, by simp; exact hY.size⟩) <|
     .cons (fun vs y hY g22_0 g23_1 g30_2 g16_3 => Step.call Try.call140 rfl rfl [vs 22, vs 23, vs 30] rfl rfl (by rw [show vs 22 = _ from g22_0, show vs 23 = _ from g23_1]; exact (Calls.spe (opAt_any s f _ _ _ _ (hr.ext hY) (rdI_of_spb g30_2) hf HB.out.1 HB.out.2)))) <|
     .cons (fun vs y hY g21_0 g31_1 => Step.buildSlice2 (e := 2) rfl rfl g21_0 g31_1 (by simp [go_sem]) ⟨_, OI_pair _ _ _, by simp; exact hY.size⟩) <|
     .cons (fun vs y hY g17_0 g18_1 g32_2 g31_3 => Step.call Try.call140 rfl rfl [vs 17, vs 18, vs 32] rfl rfl (by rw [show vs 17 = _ from g17_0, show vs 18 = _ from g18_1]; exact (Calls.spe (opAt_any s f _ _ _ _ (hr.ext hY) (rdI_of_spb g32_2) hf HD.out.1 HD.out.2)))) <|
     .cons (fun vs y hY g16_0 g33_1 => Step.bin (u := .int .i64 (apply s f [apply s f [x0, x1], x2])) (v := .int .i64 (apply s f [x0, apply s f [x1, x2]])) rfl rfl g16_0 g33_1 (by simp [go_sem]) rfl) <|
     .cons (fun vs y hY g34_0 g33_1 g0_2 g1_3 g2_4 g3_5 g4_6 g5_7 g6_8 g7_9 g8_10 g9_11 g10_12 g11_13 g12_14 g13_15 g14_16 g15_17 g16_18 g17_19 g18_20 g19_21 g20_22 g21_23 g22_24 g23_25 g24_26 g25_27 g26_28 g27_29 g28_30 g29_31 g30_32 g31_33 g32_34 g33_35 g34_36 => Step.assign rfl rfl g34_0 rfl) <|
     .nil) ?_
  intro vs w3 hC hL
  have r0 : vs 0 = _ := hL 0 (by decide) rfl
  have r1 : vs 1 = _ := hL 1 (by decide) rfl
  have r2 : vs 2 = _ := hL 2 (by decide) rfl
  have r3 : vs 3 = _ := hL 3 (by decide) rfl
  have r4 : vs 4 = _ := hL 4 (by decide) rfl
  have r5 : vs 5 = _ := hL 5 (by decide) rfl
  have r6 : vs 6 = _ := hL 6 (by decide) rfl
  have r7 : vs 7 = _ := hL 7 (by decide) rfl
  have r8 : vs 8 = _ := hL 8 (by decide) rfl
  have r9 : vs 9 = _ := hL 9 (by decide) rfl
  have r10 := hL 10 (by decide) rfl
  have r11 : vs 11 = _ := hL 11 (by decide) rfl
  have r12 : vs 12 = _ := hL 12 (by decide) rfl
  have r13 : vs 13 = _ := hL 13 (by decide) rfl
  have r14 : vs 14 = _ := hL 14 (by decide) rfl
  have r15 := hL 15 (by decide) rfl
  have r16 : vs 16 = _ := hL 16 (by decide) rfl
  have r17 : vs 17 = _ := hL 17 (by decide) rfl
  have r18 : vs 18 = _ := hL 18 (by decide) rfl
  have r19 : vs 19 = _ := hL 19 (by decide) rfl
  have r20 : vs 20 = _ := hL 20 (by decide) rfl
  have r21 : vs 21 = _ := hL 21 (by decide) rfl
  have r22 : vs 22 = _ := hL 22 (by decide) rfl
  have r23 : vs 23 = _ := hL 23 (by decide) rfl
  have r24 : vs 24 = _ := hL 24 (by decide) rfl
  have r25 : vs 25 = _ := hL 25 (by decide) rfl
  have r26 : vs 26 = _ := hL 26 (by decide) rfl
  have r27 : vs 27 = _ := hL 27 (by decide) rfl
  have r28 : vs 28 = _ := hL 28 (by decide) rfl
  have r29 : vs 29 = _ := hL 29 (by decide) rfl
  have r30 := hL 30 (by decide) rfl
  have r31 : vs 31 = _ := hL 31 (by decide) rfl
  have r32 := hL 32 (by decide) rfl
  have r33 : vs 33 = _ := hL 33 (by decide) rfl
  have r34 : vs 34 = _ := hL 34 (by decide) rfl
  have r35 : vs 35 = _ := hL 35 (by decide) rfl
  clear hL
  simp only [putAll, Act.put, List.contains_nil, cond_false, List.setIfInBounds_toArray, List.set_cons_succ, List.set_cons_zero, List.filterMap_nil, r0, r1, r2, r3, r4, r5, r6, r7, r8, r9, r11, r12, r13, r14, r16, r17, r18, r19, r20, r21, r22, r23, r24, r25, r26, r27, r28, r29, r31, r33, r34, r35]
  clear r0 r1 r2 r3 r4 r5 r6 r7 r8 r9 r11 r12 r13 r14 r16 r17 r18 r19 r20 r21 r22 r23 r24 r25 r26 r27 r28 r29 r31 r33 r34 r35
  go_wp2_with fail
  go_ret
  exact ⟨ret_bool HP.out.symm, hC⟩

end Go.Proofs.Ytefnmfdmnoednaa
