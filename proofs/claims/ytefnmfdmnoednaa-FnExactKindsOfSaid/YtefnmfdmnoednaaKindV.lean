
/- Kinds of operations, the reference's way: associative, of three places; l02Kind, IsOfKind. -/
import Derived.Test.YtefnmfdmnoednaaKindS
import Derived.Test.YtefnmfdmnoednaaIRes
namespace Go.Proofs.Ytefnmfdmnoednaa
open Go.RowKit
set_option linter.unusedVariables false

theorem spv_two {s : Int} {f : Int × List Int} (hf2 : f.1 = 2) {a c : Int} (ha : 0 ≤ a ∧ a < s) (hc : 0 ≤ c ∧ c < s) : (([a, c] : List Int).length : Int) = f.1 ∧ ∀ z ∈ [a, c], 0 ≤ z ∧ z < s := ⟨by simp [hf2], fun z hz => by
  simp at hz
  rcases hz with rfl | rfl
  · exact ha
  · exact hc⟩
theorem spv_three {s : Int} {f : Int × List Int} (hf3 : f.1 = 3) {a c d : Int} (ha : 0 ≤ a ∧ a < s) (hc : 0 ≤ c ∧ c < s) (hd : 0 ≤ d ∧ d < s) : (([a, c, d] : List Int).length : Int) = f.1 ∧ ∀ z ∈ [a, c, d], 0 ≤ z ∧ z < s := ⟨by simp [hf3], fun z hz => by
  simp at hz
  rcases hz with rfl | rfl | rfl
  · exact ha
  · exact hc
  · exact hd⟩
theorem digs_three' (s : Int) (k : Nat) : ∃ x y z, digs s 3 k = [x, y, z] := digs_three s k
theorem rdI_three' {w : World} {v : Value} {x y z : Int} (h : RdI w v [x, y, z]) : ∃ b off c, v = .slice (some ⟨b, off, none⟩) 3 c ∧ 3 ≤ c ∧ c ≤ 9223372036854775807 ∧ w.cell? ⟨b, off, none⟩ = some (.int .i64 x) ∧ w.cell? ⟨b, off + 1, none⟩ = some (.int .i64 y) ∧ w.cell? ⟨b, off + 2, none⟩ = some (.int .i64 z) := by
  obtain ⟨a, b, off, c, rfl, hlc, hcm, ha, hc⟩ := h
  obtain rfl := ha (by simp)
  exact ⟨b, off, c, rfl, hlc, hcm, by simpa using hc 0 (by simp), by simpa using hc 1 (by simp), by simpa using hc 2 (by simp)⟩
theorem rdI_pair {w : World} {b off c : Nat} {x y : Int} (h0 : w.cell? ⟨b, off, none⟩ = some (.int .i64 x)) (h1 : w.cell? ⟨b, off + 1, none⟩ = some (.int .i64 y)) (hc : 2 ≤ c) (hm : c ≤ 9223372036854775807) : RdI w (.slice (some ⟨b, off, none⟩) 2 c) [x, y] :=
  ⟨_, b, off, c, rfl, hc, hm, fun _ => rfl, fun j hj => by
    match j, hj with
    | 0, _ => simpa using h0
    | 1, _ => simpa using h1⟩
set_option maxHeartbeats 4000000 in
set_option maxRecDepth 100000 in
theorem l02Associative_any (s : Int) (f : Int × List Int) (p : Value) (w : World) (hp : PtOp w p f) (hf : SValidOp s f = true) (hf2 : f.1 = 2) :
    Calls Try.prog 133 #[.int .i64 s, p] w fun e w' => e = .returned (.bool (kAss s f)) ∧ Ext w w' := by
  obtain ⟨hv1, hv2, hv3, _⟩ := valid_iff.1 hf
  have hp0 := hp
  obtain ⟨b0, o0, tv, rfl, c0, c1, hrr⟩ := hp
  obtain ⟨a, b, off, c, rfl, hlc, hcm, ha, hc⟩ := hrr
  have hN := count_eq s 3 hv1.1 hv1.2 (by omega) (by omega)
  have hN2 := powW_small s 3 hv1.1 hv1.2 (by omega) (by omega)
  have hN3 : count s 3 ≤ 256 := by omega
  have HN := Lib.hid hN
  clear hN hc
  go_enter Try.func133, Try.ntmps133
  go_wp2_with fail
  go_loopw [5] (fun i wr => ∃ k : Nat, k ≤ count s 3 ∧ i = .int .i64 (k : Nat) ∧ Ext w wr ∧ ∀ j : Nat, j < k → assP s f (digs s 3 j) = true) (fun i _ => count s 3 - (intOf i).toNat)
  case atStart => exact ⟨0, by omega, rfl, Ext.refl' _, fun j hj => by omega⟩
  case round =>
    obtain ⟨k, hk, rfl, hE, ht⟩ := hrel
    have HT := Lib.hid ht
    clear ht
    have hp1 := hp0.ext hE
    by_cases hkl : k < count s 3
    · have HNo := Lib.hid (fun h : assP s f (digs s 3 k) = false => (show kAss s f = false from allL_false (m := 3) hkl h))
      have HYe := Lib.hid (show assP s f (digs s 3 k) = true → ∀ j : Nat, j < k + 1 → assP s f (digs s 3 j) = true from fun h j hj => if e : j = k then by rw [e]; exact h else HT.out j (by omega))
      have hdv := digs_val s hv1.1 3 k (by omega)
      obtain ⟨x0, x1, x2, hx0⟩ := digs_three' s k
      have hdg := l01Digits_any s 3 k wr (by omega) (by omega) hv1.1 (by omega) (by omega) (by omega)
      rw [show Int.toNat 3 = 3 from rfl] at hdg
      rw [hx0] at hdv HNo HYe hdg
      clear hx0
      have b0' := hdv x0 (by simp)
      have b1' := hdv x1 (by simp)
      have b2' := hdv x2 (by simp)
      have HA := Lib.hid (spv_two hf2 b0' b1')
      have HB := Lib.hid (spv_two hf2 b1' b2')
      have HC := Lib.hid (spv_two hf2 (apply_val hf HA.out.1 HA.out.2) b2')
      have HD := Lib.hid (spv_two hf2 b0' (apply_val hf HB.out.1 HB.out.2))
      have HP := Lib.hid (show assP s f [x0, x1, x2] = (apply s f [apply s f [x0, x1], x2] == apply s f [x0, apply s f [x1, x2]]) from by rw [Bool.eq_iff_iff]; simp [assP])
      clear hdv
      go_wp2_with fail
      refine (l01Power_any _ _ _ (by omega) (by omega)).mono ?_
      rintro e w' ⟨rfl, rfl⟩
      rw [show powW s (Int.toNat 3) = count s 3 from HN.out.symm]
      go_wp2_with fail
      refine hdg.mono ?_
      rintro e w1 ⟨u, fp, rfl, hE1, ho, hfp⟩
      have hor := ho.rd
      obtain ⟨yb, yoff, yc, rfl, hy3, hym, y0, y1, y2⟩ := rdI_three' ho.rd
      have hr2 : RdI w1 (.slice (some ⟨yb, yoff, none⟩) 2 yc) [x0, x1] := rdI_pair y0 y1 (by omega) hym
      have hr1 : RdI w1 (.slice (some ⟨yb, yoff + 1, none⟩) 2 (yc - 1)) [x1, x2] := rdI_pair y1 (by rw [Nat.add_assoc]; exact y2) (by omega) (by omega)
      have hp2 := hp1.ext hE1
      have hy4 : ¬ ((yc : Int) < 2) := by omega
      have hy5 : ¬ yc = 1 := by omega
      go_wp2_with fail
      go_wp2_with fail
      refine region_sp [] [] [SP.val (.int .i64 s), SP.val (.pointer (some ⟨b0, o0, none⟩)), SP.val (.int .i64 s), SP.val (.pointer (some ⟨b0, o0, none⟩)), SP.val (.slice (some ⟨yb, yoff, none⟩) 3 yc), SP.val (.slice (some ⟨yb, yoff, none⟩) 2 yc), SP.val (.int .i64 (apply s f [x0, x1])), SP.val (.slice (some ⟨yb, yoff, none⟩) 3 yc), SP.val (.pointer (some ⟨yb, yoff + 2, none⟩)), SP.val (.int .i64 x2), SP.ownIb w1.heap.size [(apply s f [x0, x1]), x2], SP.val (.int .i64 (apply s f [apply s f [x0, x1], x2])), SP.val (.int .i64 (apply s f [apply s f [x0, x1], x2]))] (by kernel_rfl) (fun _ d _ _ _ h => by cases d <;> exact h) (by kernel_rfl) (by kernel_rfl)
        (.cons (fun vs y hY => Step.move rfl rfl rfl rfl) <|
         .cons (fun vs y hY => Step.move rfl rfl rfl rfl) <|
         .cons (fun vs y hY => Step.move rfl rfl rfl rfl) <|
         .cons (fun vs y hY => Step.move rfl rfl rfl rfl) <|
         .cons (fun vs y hY => Step.move rfl rfl rfl rfl) <|
         .cons (fun vs y hY g4_0 => Step.slice rfl rfl g4_0 rfl (show Option.map _ _ = some (.int .i64 2) from rfl) rfl (by simp [go_sem, Instr.sliceAt, hy4]) rfl) <|
         .cons (fun vs y hY g2_0 g3_1 g5_2 => Step.call Try.call172 rfl rfl [vs 2, vs 3, vs 5] rfl rfl (by rw [show vs 2 = _ from g2_0, show vs 3 = _ from g3_1, show vs 5 = _ from g5_2]; exact (Calls.spq (l02Value_any s f _ _ _ _ (hp2.ext hY) (hr2.ext hY) hf HA.out.1 HA.out.2)))) <|
         .cons (fun vs y hY => Step.move rfl rfl rfl rfl) <|
         .cons (fun vs y hY g7_0 => Step.indexAtP (n := .int .i64 2) ⟨yb, yoff + 2, none⟩ rfl rfl g7_0 rfl (by simp [go_sem, Instr.indexAt, Addr.add] <;> omega) rfl) <|
         .cons (fun vs y hY g8_0 => Step.load ⟨yb, yoff + 2, none⟩ rfl rfl g8_0 (by simp [go_sem, hY.cell y2]) rfl) <|
         .cons (fun vs y hY g6_0 g9_1 => Step.buildSlice2 (e := 2) rfl rfl g6_0 g9_1 (by simp [go_sem]) ⟨_, OI_pair _ _ _, by simp; exact hY.size⟩) <|
         .cons (fun vs y hY g0_0 g1_1 g10_2 g6_3 => Step.call Try.call172 rfl rfl [vs 0, vs 1, vs 10] rfl rfl (by rw [show vs 0 = _ from g0_0, show vs 1 = _ from g1_1]; exact (Calls.spq (l02Value_any s f _ _ _ _ (hp2.ext hY) (rdI_of_spb g10_2) hf HC.out.1 HC.out.2)))) <|
         .cons (fun vs y hY g11_0 g11_1 g0_2 g1_3 g2_4 g3_5 g4_6 g5_7 g6_8 g7_9 g8_10 g9_11 g10_12 g11_13 => Step.assign rfl rfl g11_0 rfl) <|
         .nil) ?_
      intro vs w2 hC hL
      have r0 : vs 0 = _ := hL 0 (by decide) rfl
      have r1 : vs 1 = _ := hL 1 (by decide) rfl
      have r2 : vs 2 = _ := hL 2 (by decide) rfl
      have r3 : vs 3 = _ := hL 3 (by decide) rfl
      have r4 : vs 4 = _ := hL 4 (by decide) rfl
      have r5 : vs 5 = _ := hL 5 (by decide) rfl
      have r6 : vs 6 = _ := hL 6 (by decide) rfl
      have r7 : vs 7 = _ := hL 7 (by decide) rfl
      have r8 : vs 8 = _ := hL 8 (by decide) rfl
      have r9 : vs 9 = _ := hL 9 (by decide) rfl
      have r10 := hL 10 (by decide) rfl
      have r11 : vs 11 = _ := hL 11 (by decide) rfl
      have r12 : vs 12 = _ := hL 12 (by decide) rfl
      clear hL
      simp only [putAll, Act.put, List.contains_nil, cond_false, List.setIfInBounds_toArray, List.set_cons_succ, List.set_cons_zero, List.filterMap_nil, r0, r1, r2, r3, r4, r5, r6, r7, r8, r9, r11, r12]
      clear r0 r1 r2 r3 r4 r5 r6 r7 r8 r9 r11 r12
      have hp3 := hp2.ext hC
      have z0 := hC.cell y0
      have hr1 := hr1.ext hC
      go_wp2_with fail
      refine region_sp [] [] [SP.val (.int .i64 s), SP.val (.pointer (some ⟨b0, o0, none⟩)), SP.val (.slice (some ⟨yb, yoff, none⟩) 3 yc), SP.val (.pointer (some ⟨yb, yoff, none⟩)), SP.val (.int .i64 x0), SP.val (.int .i64 s), SP.val (.pointer (some ⟨b0, o0, none⟩)), SP.val (.slice (some ⟨yb, yoff, none⟩) 3 yc), SP.val (.slice (some ⟨yb, yoff + 1, none⟩) 2 (yc - 1)), SP.val (.int .i64 (apply s f [x1, x2])), SP.ownIb w2.heap.size [x0, (apply s f [x1, x2])], SP.val (.int .i64 (apply s f [x0, apply s f [x1, x2]])), SP.val (.int .i64 (apply s f [x0, apply s f [x1, x2]]))] (by kernel_rfl) (fun _ d _ _ _ h => by cases d <;> exact h) (by kernel_rfl) (by kernel_rfl)
        (.cons (fun vs y hY => Step.move rfl rfl rfl rfl) <|
         .cons (fun vs y hY => Step.move rfl rfl rfl rfl) <|
         .cons (fun vs y hY => Step.move rfl rfl rfl rfl) <|
         .cons (fun vs y hY g2_0 => Step.indexAtP (n := .int .i64 0) ⟨yb, yoff, none⟩ rfl rfl g2_0 rfl (by simp [go_sem, Instr.indexAt, Addr.add] <;> omega) rfl) <|
         .cons (fun vs y hY g3_0 => Step.load ⟨yb, yoff, none⟩ rfl rfl g3_0 (by simp [go_sem, hY.cell z0]) rfl) <|
         .cons (fun vs y hY => Step.move rfl rfl rfl rfl) <|
         .cons (fun vs y hY => Step.move rfl rfl rfl rfl) <|
         .cons (fun vs y hY => Step.move rfl rfl rfl rfl) <|
         .cons (fun vs y hY g7_0 => Step.slice rfl rfl g7_0 (show Option.map _ _ = some (.int .i64 1) from rfl) rfl rfl (by simp [go_sem, Instr.sliceAt, hy5]) rfl) <|
         .cons (fun vs y hY g5_0 g6_1 g8_2 => Step.call Try.call172 rfl rfl [vs 5, vs 6, vs 8] rfl rfl (by rw [show vs 5 = _ from g5_0, show vs 6 = _ from g6_1, show vs 8 = _ from g8_2]; exact (Calls.spq (l02Value_any s f _ _ _ _ (hp3.ext hY) (hr1.ext hY) hf HB.out.1 HB.out.2)))) <|
         .cons (fun vs y hY g4_0 g9_1 => Step.buildSlice2 (e := 2) rfl rfl g4_0 g9_1 (by simp [go_sem]) ⟨_, OI_pair _ _ _, by simp; exact hY.size⟩) <|
         .cons (fun vs y hY g0_0 g1_1 g10_2 g9_3 => Step.call Try.call172 rfl rfl [vs 0, vs 1, vs 10] rfl rfl (by rw [show vs 0 = _ from g0_0, show vs 1 = _ from g1_1]; exact (Calls.spq (l02Value_any s f _ _ _ _ (hp3.ext hY) (rdI_of_spb g10_2) hf HD.out.1 HD.out.2)))) <|
         .cons (fun vs y hY g11_0 g11_1 g0_2 g1_3 g2_4 g3_5 g4_6 g5_7 g6_8 g7_9 g8_10 g9_11 g10_12 g11_13 => Step.assign rfl rfl g11_0 rfl) <|
         .nil) ?_
      intro vs w3 hC hL
      have r0 : vs 0 = _ := hL 0 (by decide) rfl
      have r1 : vs 1 = _ := hL 1 (by decide) rfl
      have r2 : vs 2 = _ := hL 2 (by decide) rfl
      have r3 : vs 3 = _ := hL 3 (by decide) rfl
      have r4 : vs 4 = _ := hL 4 (by decide) rfl
      have r5 : vs 5 = _ := hL 5 (by decide) rfl
      have r6 : vs 6 = _ := hL 6 (by decide) rfl
      have r7 : vs 7 = _ := hL 7 (by decide) rfl
      have r8 : vs 8 = _ := hL 8 (by decide) rfl
      have r9 : vs 9 = _ := hL 9 (by decide) rfl
      have r10 := hL 10 (by decide) rfl
      have r11 : vs 11 = _ := hL 11 (by decide) rfl
      have r12 : vs 12 = _ := hL 12 (by decide) rfl
      clear hL
      simp only [putAll, Act.put, List.contains_nil, cond_false, List.setIfInBounds_toArray, List.set_cons_succ, List.set_cons_zero, List.filterMap_nil, r0, r1, r2, r3, r4, r5, r6, r7, r8, r9, r11, r12]
      clear r0 r1 r2 r3 r4 r5 r6 r7 r8 r9 r11 r12
      have hE3 := hE.tr (hE1.tr (by assumption))
      have hE4 := hE3.tr hC
      by_cases he : apply s f [apply s f [x0, x1], x2] = apply s f [x0, apply s f [x1, x2]]
      · have hb : (apply s f [apply s f [x0, x1], x2] != apply s f [x0, apply s f [x1, x2]]) = false := by simp [he]
        have HK := Lib.hid (HYe.out (by rw [HP.out, he]; simp))
        clear he
        go_wp2_with fail
        go_roundw
        case rel => exact ⟨k + 1, by omega, by go_num, hE4, HK.out⟩
        case measure => simp [intOf]; omega
      · have hb : (apply s f [apply s f [x0, x1], x2] != apply s f [x0, apply s f [x1, x2]]) = true := by simp [he]
        have HK := Lib.hid (HNo.out (by rw [HP.out]; simp [he]))
        clear he
        go_wp2_with fail
        go_ret
        exact ⟨ret_bool HK.out.symm, hE4⟩
    · have HK := Lib.hid (show kAss s f = true from allL_true (m := 3) fun j hj => HT.out j (by omega))
      go_wp2_with fail
      refine (l01Power_any _ _ _ (by omega) (by omega)).mono ?_
      rintro e w' ⟨rfl, rfl⟩
      rw [show powW s (Int.toNat 3) = count s 3 from HN.out.symm]
      go_wp2_with fail
      go_ret
      exact ⟨ret_bool HK.out.symm, hE⟩
set_option maxHeartbeats 8000000 in
set_option maxRecDepth 100000 in
theorem l02Thirds_any (s : Int) (f : Int × List Int) (mid odd : Bool) (p : Value) (w : World) (hp : PtOp w p f) (hf : SValidOp s f = true) :
    Calls Try.prog 134 #[.int .i64 s, p, .bool mid, .bool odd] w fun e w' => e = .returned (.bool (kThird s f mid odd)) ∧ Ext w w' := by
  obtain ⟨hv1, hv2, hv3, _⟩ := valid_iff.1 hf
  have hp0 := hp
  obtain ⟨b0, o0, tv, rfl, c0, c1, hrr⟩ := hp
  obtain ⟨a, b, off, c, rfl, hlc, hcm, ha, hc⟩ := hrr
  clear hc
  by_cases hf3 : f.1 = 3
  · have hb3 : (f.1 != 3) = false := by simp [hf3]
    obtain ⟨sn, rfl⟩ := Int.eq_ofNat_of_zero_le (show 0 ≤ s by omega)
    have HYes := Lib.hid (fun h => kThird_yes (mid := mid) (odd := odd) hv1.1 hv1.2 hf3 h)
    have HNo := Lib.hid (fun (x y : Int) (hx : 0 ≤ x ∧ x < (sn : Int)) (hy : 0 ≤ y ∧ y < (sn : Int)) (h : thirdP sn f mid odd x y = false) => kThird_no (mid := mid) (odd := odd) hv1.1 hv1.2 hx hy h)
    have H3 := Lib.hid hf3
    clear hf3
    go_enter Try.func134, Try.ntmps134
    go_wp2_with fail
    go_loopw [9] (fun i wr => ∃ k : Nat, k ≤ sn ∧ i = .int .i64 (k : Nat) ∧ Ext w wr ∧ ∀ x y : Int, 0 ≤ x → x < k → 0 ≤ y → y < sn → thirdP sn f mid odd x y = true) (fun i _ => sn - (intOf i).toNat)
    case atStart => exact ⟨0, by omega, rfl, Ext.refl' _, fun x y h0 h1 => by omega⟩
    case round =>
      rename World => wo
      obtain ⟨k, hk, rfl, hE, ht⟩ := hrel
      have HT := Lib.hid ht
      clear ht
      by_cases hkl : k < sn
      · have hks : (k : Int) < sn := by omega
        go_wp2_with fail
        go_loopw [10] (fun i wr => ∃ j : Nat, j ≤ sn ∧ i = .int .i64 (j : Nat) ∧ Ext w wr ∧ ∀ y : Int, 0 ≤ y → y < j → thirdP sn f mid odd k y = true) (fun i _ => sn - (intOf i).toNat)
        case atStart => exact ⟨0, by omega, rfl, hE, fun y h0 h1 => by omega⟩
        case round =>
          obtain ⟨j, hj, rfl, hE2, ht2⟩ := hrel
          have HT2 := Lib.hid ht2
          clear ht2
          by_cases hjl : j < sn
          · have hjs : (j : Int) < sn := by omega
            have bk : 0 ≤ (k : Int) ∧ (k : Int) < (sn : Int) := by omega
            have bj : 0 ≤ (j : Int) ∧ (j : Int) < (sn : Int) := by omega
            have HA := Lib.hid (spv_three (s := (sn : Int)) H3.out bk bk bj)
            have HB := Lib.hid (spv_three (s := (sn : Int)) H3.out bj bk bk)
            have HC := Lib.hid (spv_three (s := (sn : Int)) H3.out bk bj bk)
            have hp1 := hp0.ext hE2
            have HNj := Lib.hid (fun h => HNo.out k j bk bj h)
            have HYj := Lib.hid (show thirdP (sn : Int) f mid odd k j = true → ∀ y : Int, 0 ≤ y → y < ((j + 1 : Nat) : Int) → thirdP (sn : Int) f mid odd k y = true from fun h y h0 h1 => if e : y = j then by rw [e]; exact h else HT2.out y h0 (by omega))
            have HP := Lib.hid (show thirdP (sn : Int) f mid odd k j = (decide (apply sn f [k, k, j] = if odd then (j : Int) else k) && decide (apply sn f [j, k, k] = if odd then (j : Int) else k) && (!mid || decide (apply sn f [k, j, k] = if odd then (j : Int) else k))) from rfl)
            have hwA : ∀ y v, Ext wr y → (∃ fp, OI y v [(k : Int), k, j] fp) → Calls Try.prog 172 #[.int .i64 (sn : Int), .pointer (some ⟨b0, o0, none⟩), v] y fun e w' => e = .returned (.int .i64 (apply sn f [k, k, j])) ∧ Ext y w' :=
              fun y v hy ⟨_, ho⟩ => (l02Value_any _ f _ _ _ _ (hp1.ext hy) ho.rd hf HA.out.1 HA.out.2).mono fun _ _ ⟨h1, h2⟩ => ⟨h1, h2.ext⟩
            have hwB : ∀ y v, Ext wr y → (∃ fp, OI y v [(j : Int), k, k] fp) → Calls Try.prog 172 #[.int .i64 (sn : Int), .pointer (some ⟨b0, o0, none⟩), v] y fun e w' => e = .returned (.int .i64 (apply sn f [j, k, k])) ∧ Ext y w' :=
              fun y v hy ⟨_, ho⟩ => (l02Value_any _ f _ _ _ _ (hp1.ext hy) ho.rd hf HB.out.1 HB.out.2).mono fun _ _ ⟨h1, h2⟩ => ⟨h1, h2.ext⟩
            have hwC : ∀ y v, Ext wr y → (∃ fp, OI y v [(k : Int), j, k] fp) → Calls Try.prog 172 #[.int .i64 (sn : Int), .pointer (some ⟨b0, o0, none⟩), v] y fun e w' => e = .returned (.int .i64 (apply sn f [k, j, k])) ∧ Ext y w' :=
              fun y v hy ⟨_, ho⟩ => (l02Value_any _ f _ _ _ _ (hp1.ext hy) ho.rd hf HC.out.1 HC.out.2).mono fun _ _ ⟨h1, h2⟩ => ⟨h1, h2.ext⟩
            generalize apply sn f [(k : Int), k, j] = ga at hwA HP
            generalize apply sn f [(j : Int), k, k] = gb at hwB HP
            generalize apply sn f [(k : Int), j, k] = gc at hwC HP
            clear HA HB HC
            have hA0 : Ext wr (wr.alloc (.cells #[.int .i64 (k : Nat), .int .i64 (k : Nat), .int .i64 (j : Nat)] 2)) := (Ext.refl' wr).alloc (Nat.le_refl _) _
            cases odd with
            | false =>
              by_cases h1 : ga = (k : Int)
              · have n1 : (ga != (k : Int)) = false := by simp [h1]
                by_cases h2 : gb = (k : Int)
                · have n2 : (gb != (k : Int)) = false := by simp [h2]
                  cases mid with
                  | false =>
                    have HK := Lib.hid (HYj.out (by rw [HP.out, h1, h2]; simp))
                    clear h1 h2
                    go_wp2_with fail
                    refine (hwA _ _ hA0 ⟨_, OI_three _ _ _ _⟩).mono ?_
                    rintro e w1 ⟨rfl, hX1⟩
                    replace hX1 := hA0.tr hX1
                    have hA1 : Ext wr (w1.alloc (.cells #[.int .i64 (j : Nat), .int .i64 (k : Nat), .int .i64 (k : Nat)] 2)) := hX1.alloc hX1.size _
                    go_wp2_with fail
                    refine (hwB _ _ hA1 ⟨_, OI_three _ _ _ _⟩).mono ?_
                    rintro e w2 ⟨rfl, hX2⟩
                    replace hX2 := hA1.tr hX2
                    go_wp2_with fail
                    go_roundw
                    case rel => exact ⟨j + 1, by omega, by go_num, hE2.tr hX2, HK.out⟩
                    case measure => simp [intOf]; omega
                  | true =>
                    by_cases h3 : gc = (k : Int)
                    · have n3 : (gc != (k : Int)) = false := by simp [h3]
                      have HK := Lib.hid (HYj.out (by rw [HP.out, h1, h2, h3]; simp))
                      clear h1 h2 h3
                      go_wp2_with fail
                      refine (hwA _ _ hA0 ⟨_, OI_three _ _ _ _⟩).mono ?_
                      rintro e w1 ⟨rfl, hX1⟩
                      replace hX1 := hA0.tr hX1
                      have hA1 : Ext wr (w1.alloc (.cells #[.int .i64 (j : Nat), .int .i64 (k : Nat), .int .i64 (k : Nat)] 2)) := hX1.alloc hX1.size _
                      go_wp2_with fail
                      refine (hwB _ _ hA1 ⟨_, OI_three _ _ _ _⟩).mono ?_
                      rintro e w2 ⟨rfl, hX2⟩
                      replace hX2 := hA1.tr hX2
                      have hA2 : Ext wr (w2.alloc (.cells #[.int .i64 (k : Nat), .int .i64 (j : Nat), .int .i64 (k : Nat)] 2)) := hX2.alloc hX2.size _
                      go_wp2_with fail
                      refine (hwC _ _ hA2 ⟨_, OI_three _ _ _ _⟩).mono ?_
                      rintro e w3 ⟨rfl, hX3⟩
                      replace hX3 := hA2.tr hX3
                      go_wp2_with fail
                      go_roundw
                      case rel => exact ⟨j + 1, by omega, by go_num, hE2.tr hX3, HK.out⟩
                      case measure => simp [intOf]; omega
                    · have n3 : (gc != (k : Int)) = true := by simp [h3]
                      have HK := Lib.hid (HNj.out (by rw [HP.out]; simp [h3]))
                      clear h1 h2 h3
                      go_wp2_with fail
                      refine (hwA _ _ hA0 ⟨_, OI_three _ _ _ _⟩).mono ?_
                      rintro e w1 ⟨rfl, hX1⟩
                      replace hX1 := hA0.tr hX1
                      have hA1 : Ext wr (w1.alloc (.cells #[.int .i64 (j : Nat), .int .i64 (k : Nat), .int .i64 (k : Nat)] 2)) := hX1.alloc hX1.size _
                      go_wp2_with fail
                      refine (hwB _ _ hA1 ⟨_, OI_three _ _ _ _⟩).mono ?_
                      rintro e w2 ⟨rfl, hX2⟩
                      replace hX2 := hA1.tr hX2
                      have hA2 : Ext wr (w2.alloc (.cells #[.int .i64 (k : Nat), .int .i64 (j : Nat), .int .i64 (k : Nat)] 2)) := hX2.alloc hX2.size _
                      go_wp2_with fail
                      refine (hwC _ _ hA2 ⟨_, OI_three _ _ _ _⟩).mono ?_
                      rintro e w3 ⟨rfl, hX3⟩
                      replace hX3 := hA2.tr hX3
                      go_wp2_with fail
                      go_ret
                      exact ⟨ret_bool HK.out.symm, hE2.tr hX3⟩
                · have n2 : (gb != (k : Int)) = true := by simp [h2]
                  have HK := Lib.hid (HNj.out (by rw [HP.out]; simp [h2]))
                  clear h1 h2
                  go_wp2_with fail
                  refine (hwA _ _ hA0 ⟨_, OI_three _ _ _ _⟩).mono ?_
                  rintro e w1 ⟨rfl, hX1⟩
                  replace hX1 := hA0.tr hX1
                  have hA1 : Ext wr (w1.alloc (.cells #[.int .i64 (j : Nat), .int .i64 (k : Nat), .int .i64 (k : Nat)] 2)) := hX1.alloc hX1.size _
                  go_wp2_with fail
                  refine (hwB _ _ hA1 ⟨_, OI_three _ _ _ _⟩).mono ?_
                  rintro e w2 ⟨rfl, hX2⟩
                  replace hX2 := hA1.tr hX2
                  go_wp2_with fail
                  go_ret
                  exact ⟨ret_bool HK.out.symm, hE2.tr hX2⟩
              · have n1 : (ga != (k : Int)) = true := by simp [h1]
                have HK := Lib.hid (HNj.out (by rw [HP.out]; simp [h1]))
                clear h1
                go_wp2_with fail
                refine (hwA _ _ hA0 ⟨_, OI_three _ _ _ _⟩).mono ?_
                rintro e w1 ⟨rfl, hX1⟩
                replace hX1 := hA0.tr hX1
                go_wp2_with fail
                go_ret
                exact ⟨ret_bool HK.out.symm, hE2.tr hX1⟩
            | true =>
              by_cases h1 : ga = (j : Int)
              · have n1 : (ga != (j : Int)) = false := by simp [h1]
                by_cases h2 : gb = (j : Int)
                · have n2 : (gb != (j : Int)) = false := by simp [h2]
                  cases mid with
                  | false =>
                    have HK := Lib.hid (HYj.out (by rw [HP.out, h1, h2]; simp))
                    clear h1 h2
                    go_wp2_with fail
                    refine (hwA _ _ hA0 ⟨_, OI_three _ _ _ _⟩).mono ?_
                    rintro e w1 ⟨rfl, hX1⟩
                    replace hX1 := hA0.tr hX1
                    have hA1 : Ext wr (w1.alloc (.cells #[.int .i64 (j : Nat), .int .i64 (k : Nat), .int .i64 (k : Nat)] 2)) := hX1.alloc hX1.size _
                    go_wp2_with fail
                    refine (hwB _ _ hA1 ⟨_, OI_three _ _ _ _⟩).mono ?_
                    rintro e w2 ⟨rfl, hX2⟩
                    replace hX2 := hA1.tr hX2
                    go_wp2_with fail
                    go_roundw
                    case rel => exact ⟨j + 1, by omega, by go_num, hE2.tr hX2, HK.out⟩
                    case measure => simp [intOf]; omega
                  | true =>
                    by_cases h3 : gc = (j : Int)
                    · have n3 : (gc != (j : Int)) = false := by simp [h3]
                      have HK := Lib.hid (HYj.out (by rw [HP.out, h1, h2, h3]; simp))
                      clear h1 h2 h3
                      go_wp2_with fail
                      refine (hwA _ _ hA0 ⟨_, OI_three _ _ _ _⟩).mono ?_
                      rintro e w1 ⟨rfl, hX1⟩
                      replace hX1 := hA0.tr hX1
                      have hA1 : Ext wr (w1.alloc (.cells #[.int .i64 (j : Nat), .int .i64 (k : Nat), .int .i64 (k : Nat)] 2)) := hX1.alloc hX1.size _
                      go_wp2_with fail
                      refine (hwB _ _ hA1 ⟨_, OI_three _ _ _ _⟩).mono ?_
                      rintro e w2 ⟨rfl, hX2⟩
                      replace hX2 := hA1.tr hX2
                      have hA2 : Ext wr (w2.alloc (.cells #[.int .i64 (k : Nat), .int .i64 (j : Nat), .int .i64 (k : Nat)] 2)) := hX2.alloc hX2.size _
                      go_wp2_with fail
                      refine (hwC _ _ hA2 ⟨_, OI_three _ _ _ _⟩).mono ?_
                      rintro e w3 ⟨rfl, hX3⟩
                      replace hX3 := hA2.tr hX3
                      go_wp2_with fail
                      go_roundw
                      case rel => exact ⟨j + 1, by omega, by go_num, hE2.tr hX3, HK.out⟩
                      case measure => simp [intOf]; omega
                    · have n3 : (gc != (j : Int)) = true := by simp [h3]
                      have HK := Lib.hid (HNj.out (by rw [HP.out]; simp [h3]))
                      clear h1 h2 h3
                      go_wp2_with fail
                      refine (hwA _ _ hA0 ⟨_, OI_three _ _ _ _⟩).mono ?_
                      rintro e w1 ⟨rfl, hX1⟩
                      replace hX1 := hA0.tr hX1
                      have hA1 : Ext wr (w1.alloc (.cells #[.int .i64 (j : Nat), .int .i64 (k : Nat), .int .i64 (k : Nat)] 2)) := hX1.alloc hX1.size _
                      go_wp2_with fail
                      refine (hwB _ _ hA1 ⟨_, OI_three _ _ _ _⟩).mono ?_
                      rintro e w2 ⟨rfl, hX2⟩
                      replace hX2 := hA1.tr hX2
                      have hA2 : Ext wr (w2.alloc (.cells #[.int .i64 (k : Nat), .int .i64 (j : Nat), .int .i64 (k : Nat)] 2)) := hX2.alloc hX2.size _
                      go_wp2_with fail
                      refine (hwC _ _ hA2 ⟨_, OI_three _ _ _ _⟩).mono ?_
                      rintro e w3 ⟨rfl, hX3⟩
                      replace hX3 := hA2.tr hX3
                      go_wp2_with fail
                      go_ret
                      exact ⟨ret_bool HK.out.symm, hE2.tr hX3⟩
                · have n2 : (gb != (j : Int)) = true := by simp [h2]
                  have HK := Lib.hid (HNj.out (by rw [HP.out]; simp [h2]))
                  clear h1 h2
                  go_wp2_with fail
                  refine (hwA _ _ hA0 ⟨_, OI_three _ _ _ _⟩).mono ?_
                  rintro e w1 ⟨rfl, hX1⟩
                  replace hX1 := hA0.tr hX1
                  have hA1 : Ext wr (w1.alloc (.cells #[.int .i64 (j : Nat), .int .i64 (k : Nat), .int .i64 (k : Nat)] 2)) := hX1.alloc hX1.size _
                  go_wp2_with fail
                  refine (hwB _ _ hA1 ⟨_, OI_three _ _ _ _⟩).mono ?_
                  rintro e w2 ⟨rfl, hX2⟩
                  replace hX2 := hA1.tr hX2
                  go_wp2_with fail
                  go_ret
                  exact ⟨ret_bool HK.out.symm, hE2.tr hX2⟩
              · have n1 : (ga != (j : Int)) = true := by simp [h1]
                have HK := Lib.hid (HNj.out (by rw [HP.out]; simp [h1]))
                clear h1
                go_wp2_with fail
                refine (hwA _ _ hA0 ⟨_, OI_three _ _ _ _⟩).mono ?_
                rintro e w1 ⟨rfl, hX1⟩
                replace hX1 := hA0.tr hX1
                go_wp2_with fail
                go_ret
                exact ⟨ret_bool HK.out.symm, hE2.tr hX1⟩
          · have HK := Lib.hid (show ∀ x y : Int, 0 ≤ x → x < ((k + 1 : Nat) : Int) → 0 ≤ y → y < (sn : Int) → thirdP (sn : Int) f mid odd x y = true from fun x y h0 h1 h2 h3 => if e : x = k then by rw [e]; exact HT2.out y h2 (by omega) else HT.out x y h0 (by omega) h2 h3)
            go_wp2_with fail
            go_roundw
            case rel => exact ⟨k + 1, by omega, by go_num, hE2, HK.out⟩
            case measure => simp [intOf]; omega
      · have HK := Lib.hid (HYes.out fun x y h0 h1 h2 h3 => HT.out x y h0 (by omega) h2 h3)
        go_wp2_with fail
        go_ret
        exact ⟨ret_bool HK.out.symm, hE⟩
  · have hb3 : (f.1 != 3) = true := by simp [hf3]
    have HK := Lib.hid (show kThird s f mid odd = false from by unfold kThird; rw [decide_eq_false hf3]; rfl)
    clear hf3
    go_enter Try.func134, Try.ntmps134
    go_wp2_with fail
    go_ret
    exact ⟨ret_bool HK.out.symm, Ext.refl' _⟩
end Go.Proofs.Ytefnmfdmnoednaa
