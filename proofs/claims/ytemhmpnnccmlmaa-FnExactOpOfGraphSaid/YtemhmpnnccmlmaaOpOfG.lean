
/- OpOfGraph: the program's and the reference's give one function's answers. -/
import Derived.Test.YtemhmpnnccmlmaaGraph
import Derived.Test.YtemhmpnnccmlmaaAccT
namespace Go.Proofs.Ytemhmpnnccmlmaa
open Go.RowKit
set_option linter.unusedVariables false

/-- the tuple at a place has the number of the place, without its last element -/
def gAt (s : Int) (r : Int × List (List Int)) (n : Nat) : Bool := decide (code s ((r.2.getD n []).take (r.1 - 1).toNat) = n)
def gVals (r : Int × List (List Int)) (k : Nat) : List Int := (r.2.take k).map fun t => t.getD (r.1 - 1).toNat 0
def gOk (s : Int) (r : Int × List (List Int)) : Bool := decide ((r.2.length : Int) = powW s (r.1 - 1).toNat) && (List.range r.2.length).all (gAt s r)
def SOpOfGraph (s : Int) (r : Int × List (List Int)) : (Int × List Int) × Int :=
  if SValidRel s r then if r.1 = 1 then (noOp, 2) else if gOk s r then ((r.1 - 1, gVals r r.2.length), 0) else (noOp, 4) else (noOp, 1)
theorem oog_1 {s : Int} {r : Int × List (List Int)} (h : SValidRel s r = false) : SOpOfGraph s r = (noOp, 1) := by unfold SOpOfGraph; rw [h]; rfl
theorem oog_2 {s : Int} {r : Int × List (List Int)} (h : SValidRel s r = true) (h2 : r.1 = 1) : SOpOfGraph s r = (noOp, 2) := by unfold SOpOfGraph; rw [h, if_pos h2]; rfl
theorem oog_4 {s : Int} {r : Int × List (List Int)} (h : SValidRel s r = true) (h2 : ¬ r.1 = 1) (h3 : gOk s r = false) : SOpOfGraph s r = (noOp, 4) := by unfold SOpOfGraph; rw [h, if_neg h2, h3]; rfl
theorem oog_0 {s : Int} {r : Int × List (List Int)} (h : SValidRel s r = true) (h2 : ¬ r.1 = 1) (h3 : gOk s r = true) : SOpOfGraph s r = ((r.1 - 1, gVals r r.2.length), 0) := by unfold SOpOfGraph; rw [h, if_neg h2, h3]; rfl
theorem gVals_length (r : Int × List (List Int)) (k : Nat) : (gVals r k).length ≤ k := by unfold gVals; rw [List.length_map, List.length_take]; exact Nat.min_le_left _ _
theorem gVals_full (r : Int × List (List Int)) : (gVals r r.2.length).length = r.2.length := by simp [gVals]
theorem gVals_succ {r : Int × List (List Int)} {k m : Nat} (hk : k < r.2.length) (hm : (r.1 - 1).toNat = m) (hml : m < r.2[k].length) : gVals r (k + 1) = gVals r k ++ [(r.2[k])[m]] := by
  unfold gVals
  rw [List.take_succ_eq_append_getElem hk, List.map_append, hm]
  simp [List.getElem?_eq_getElem hml]
theorem gAt_eq {s : Int} {r : Int × List (List Int)} {k m : Nat} (hk : k < r.2.length) (hm : (r.1 - 1).toNat = m) : gAt s r k = decide (code s (r.2[k].take m) = k) := by
  unfold gAt
  rw [hm, List.getD_eq_getElem?_getD, List.getElem?_eq_getElem hk]
  rfl
theorem gOk_no {s : Int} {r : Int × List (List Int)} {k : Nat} (hk : k < r.2.length) (h : gAt s r k = false) : gOk s r = false := by
  unfold gOk
  rw [show (List.range r.2.length).all (gAt s r) = false from List.all_eq_false.2 ⟨k, List.mem_range.2 hk, by simp [h]⟩, Bool.and_false]
theorem gOk_end {s : Int} {r : Int × List (List Int)} (h : (List.range r.2.length).all (gAt s r) = true) : gOk s r = decide ((r.2.length : Int) = powW s (r.1 - 1).toNat) := by unfold gOk; rw [h, Bool.and_true]
theorem gall_succ {s : Int} {r : Int × List (List Int)} {k : Nat} (h : (List.range k).all (gAt s r) = true) (h2 : gAt s r k = true) : (List.range (k + 1)).all (gAt s r) = true := by
  rw [List.range_succ, List.all_append, h]
  simp [h2]
theorem gValid {s : Int} {r : Int × List (List Int)} (h : SValidRel s r = true) (h2 : ¬ r.1 = 1) (h3 : (List.range r.2.length).all (gAt s r) = true) : SValidOp s (r.1 - 1, gVals r r.2.length) = gOk s r := by
  rw [gOk_end h3]
  obtain ⟨h1, hm, hall⟩ := valid_parts h
  have hv : ∀ a ∈ gVals r r.2.length, 0 ≤ a ∧ a < s := by
    intro a ha
    unfold gVals at ha
    rw [List.take_length] at ha
    obtain ⟨t, ht, rfl⟩ := List.mem_map.1 ha
    obtain ⟨v1, v2⟩ := vals_iff.1 (hall t ht)
    have hlt : (r.1 - 1).toNat < t.length := by omega
    rw [List.getD_eq_getElem?_getD, List.getElem?_eq_getElem hlt]
    exact v2 _ (List.getElem_mem hlt)
  have hg := gVals_full r
  by_cases hl : (r.2.length : Int) = powW s (r.1 - 1).toNat
  · rw [decide_eq_true hl]
    exact valid_iff.2 ⟨h1, by dsimp only; omega, by dsimp only; omega, hv⟩
  · rw [decide_eq_false hl]
    cases hq : SValidOp s (r.1 - 1, gVals r r.2.length) with
    | false => rfl
    | true =>
      exfalso
      obtain ⟨-, -, k3, -⟩ := valid_iff.1 hq
      dsimp only at k3
      omega

set_option maxHeartbeats 2000000 in
set_option maxRecDepth 100000 in
theorem implOpOfGraph_any (s : Int) (r : Int × List (List Int)) (v : Value) (w : World) (hr : RdRel w v r) (_ : -9223372036854775808 ≤ s) (_ : s ≤ 9223372036854775807) (hz : szRel r ≤ 1048576) :
    Calls Try.prog 30 #[.int .i64 s, v] w (OpRes (SOpOfGraph s r) w) := by
  obtain ⟨tv, rfl, hr'⟩ := hr
  obtain ⟨ta, tc, rfl⟩ := hr'.form
  have hr : RdRel w _ r := ⟨_, rfl, hr'⟩
  have hE1 : Ext w ((w.alloc (.cells #[.int .i64 r.1, .slice ta r.2.length tc] 27)).alloc (.cells #[.int .i64 0, .slice none 0 0] 41)) := ((Ext.refl' w).alloc (Nat.le_refl _) _).alloc (by simp) _
  cases h1 : SValidRel s r with
  | false =>
    rw [oog_1 h1]
    go_enter Try.func30, Try.ntmps30
    go_wp2_with fail
    refine (implValidRel_ok s r _ _ (hr.ext hE1)).mono ?_
    rintro e w1 ⟨rfl, hE⟩
    rw [h1]
    have c0 := hE.cell (p := ⟨w.heap.size, 0, none⟩) (v := .int .i64 r.1) (by simp [go_sem])
    have c1 := hE.cell (p := ⟨w.heap.size, 1, none⟩) (v := .slice ta r.2.length tc) (by simp [go_sem])
    have d0 := hE.cell (p := ⟨w.heap.size + 1, 0, none⟩) (v := .int .i64 0) (by simp [go_sem])
    have d1 := hE.cell (p := ⟨w.heap.size + 1, 1, none⟩) (v := .slice none 0 0) (by simp [go_sem])
    have f2 := hE.frozen (p := ⟨w.heap.size + 1, 0, none⟩) (by simp)
    have f3 := hE.frozen (p := ⟨w.heap.size + 1, 1, none⟩) (by simp)
    simp [go_sem] at f2 f3
    replace hE := hE1.tr hE
    go_wp2_with fail
    exact bodyPost_ret (v := .tuple #[.agg #[.int .i64 0, .slice none 0 0], .int .i64 1]) (by simp [results, Try.results30, go_sem, d0, d1]) rfl (OpRes.no ((hE.setCell (by simp <;> omega) _).setCell (by simp <;> omega) _))
  | true =>
    obtain ⟨⟨hs1, hs2⟩, ⟨hm1, hm2⟩, hall⟩ := valid_parts h1
    by_cases h2 : r.1 = 1
    · have hb : (r.1 == 1) = true := by simp [h2]
      rw [oog_2 h1 h2]
      clear h2
      go_enter Try.func30, Try.ntmps30
      go_wp2_with fail
      refine (implValidRel_ok s r _ _ (hr.ext hE1)).mono ?_
      rintro e w1 ⟨rfl, hE⟩
      rw [h1]
      have c0 := hE.cell (p := ⟨w.heap.size, 0, none⟩) (v := .int .i64 r.1) (by simp [go_sem])
      have c1 := hE.cell (p := ⟨w.heap.size, 1, none⟩) (v := .slice ta r.2.length tc) (by simp [go_sem])
      have d0 := hE.cell (p := ⟨w.heap.size + 1, 0, none⟩) (v := .int .i64 0) (by simp [go_sem])
      have d1 := hE.cell (p := ⟨w.heap.size + 1, 1, none⟩) (v := .slice none 0 0) (by simp [go_sem])
      have f2 := hE.frozen (p := ⟨w.heap.size + 1, 0, none⟩) (by simp)
      have f3 := hE.frozen (p := ⟨w.heap.size + 1, 1, none⟩) (by simp)
      simp [go_sem] at f2 f3
      replace hE := hE1.tr hE
      go_wp2_with fail
      exact bodyPost_ret (v := .tuple #[.agg #[.int .i64 0, .slice none 0 0], .int .i64 2]) (by simp [results, Try.results30, go_sem, d0, d1]) rfl (OpRes.no ((hE.setCell (by simp <;> omega) _).setCell (by simp <;> omega) _))
    · have hb : (r.1 == 1) = false := by simp [h2]
      have HALL := Lib.hid hall
      have H1 := Lib.hid h1
      have H2 := Lib.hid h2
      have hlr : r.2.length ≤ 256 := valid_length h1
      obtain ⟨n, hn⟩ := Int.eq_ofNat_of_zero_le (show 0 ≤ r.1 - 1 by omega)
      have hsub : r.1 - 1 = (n : Int) := hn
      have HN := Lib.hid hn
      clear hall h2 hn
      go_enter Try.func30, Try.ntmps30
      go_wp2_with fail
      refine (implValidRel_ok s r _ _ (hr.ext hE1)).mono ?_
      rintro e w1 ⟨rfl, hE⟩
      rw [h1]
      have c0 := hE.cell (p := ⟨w.heap.size, 0, none⟩) (v := .int .i64 r.1) (by simp [go_sem])
      have c1 := hE.cell (p := ⟨w.heap.size, 1, none⟩) (v := .slice ta r.2.length tc) (by simp [go_sem])
      have d0 := hE.cell (p := ⟨w.heap.size + 1, 0, none⟩) (v := .int .i64 0) (by simp [go_sem])
      have d1 := hE.cell (p := ⟨w.heap.size + 1, 1, none⟩) (v := .slice none 0 0) (by simp [go_sem])
      have f2 := hE.frozen (p := ⟨w.heap.size + 1, 0, none⟩) (by simp)
      have f3 := hE.frozen (p := ⟨w.heap.size + 1, 1, none⟩) (by simp)
      simp [go_sem] at f2 f3
      replace hE := hE1.tr hE
      clear h1
      obtain ⟨a, b, off, cap, us, hsl, hlc, hcm, ha, hc⟩ := hr'
      simp only [Value.slice.injEq] at hsl
      obtain ⟨rfl, -, rfl⟩ := hsl
      have hq1 := lt_of_cell d0
      have hq0 := lt_of_cell c0
      dsimp only at hq0
      have hA1 : Ext w1 (w1.alloc (.cells #[.int .i64 (n : Nat), .slice none 0 0] 41)) := (Ext.refl' w1).alloc (Nat.le_refl _) _
      go_wp2_with fail
      go_loopw [27] (fun i wr => ∃ (k : Nat) (tv : Value), k ≤ r.2.length ∧ i = .int .i64 k ∧ AccT w wr (w.heap.size + 1) w1.heap.size (w1.heap.size + 1) (n : Nat) (gVals r k) tv ∧ (List.range k).all (gAt s r) = true ∧ wr.cell? ⟨w.heap.size, 0, none⟩ = some (.int .i64 r.1) ∧ wr.cell? ⟨w.heap.size, 1, none⟩ = some (.slice ta r.2.length tc))
        (fun i _ => r.2.length - (intOf i).toNat)
      case atStart =>
        exact ⟨0, .slice none 0 0, by omega, rfl, ⟨hE.tr hA1, World.ownsRow_nil _ _ _ _, by simp, by omega, hq1, by omega, by simp [go_sem], by simp [go_sem], by simp [go_sem], hA1.cell d0, hA1.cell d1, (hA1.frozen (lt_of_cell d0)).trans f2, (hA1.frozen (lt_of_cell d1)).trans f3⟩, rfl, hA1.cell c0, hA1.cell c1⟩
      case round =>
        obtain ⟨k, tv, hk, rfl, hA, hgs, c0, c1⟩ := hrel
        have hE := hA.hE
        have HT := Lib.hid hgs
        clear hgs
        obtain ⟨va, vc, rfl⟩ := hA.form
        by_cases hkl : k < r.2.length
        · skip
          obtain rfl := ha (by omega)
          obtain ⟨k1, k2⟩ := hc k hkl
          replace k1 := hE.cell k1
          replace k2 := k2.ext hE
          have ht := HALL.out r.2[k] (List.getElem_mem hkl)
          have hln : n < r.2[k].length ∧ r.2[k].length ≤ 4 := by have := vals_len ht; have := HN.out; omega
          obtain ⟨hln1, hln4⟩ := hln
          generalize us k = y at k1 k2
          obtain ⟨ea, eb, eoff, ec, rfl, elc, ecm, eha, ehc⟩ := k2
          obtain rfl := eha (by omega)
          have hck := ehc n hln1
          have hrt := RdI.take ehc elc ecm n (by omega)
          have hnc : n ≤ ec := by omega
          have HG := Lib.hid (gAt_eq (s := s) hkl (m := n) (by have := HN.out; omega))
          have HV := Lib.hid (gVals_succ hkl (m := n) (by have := HN.out; omega) hln1)
          have HTL := Lib.hid (show (r.2[k].take n).length ≤ 4 from by rw [List.length_take]; omega)
          have HTV := Lib.hid (show ∀ a ∈ r.2[k].take n, 0 ≤ a ∧ a < s from fun a ha => (vals_iff.1 ht).2 a (List.mem_of_mem_take ha))
          have hgl := gVals_length r k
          have hgl2 : (gVals r k).length ≤ 1048576 := by omega
          have a0 := hA.c0
          have a1 := hA.c1
          clear ehc hgl ht
          cases hg : gAt s r k with
          | false =>
            have hb2 : (code s (r.2[k].take n) != (k : Int)) = true := by have := HG.out; rw [hg] at this; simpa using this.symm
            have HO := Lib.hid (oog_4 H1.out H2.out (gOk_no hkl hg))
            clear hg
            go_wp2_with fail
            refine (indexOf_any s _ _ _ hrt (by omega) (by omega) HTL.out HTV.out).mono ?_
            rintro e w' ⟨rfl, rfl⟩
            have hdn := hA.d0
            have hdn1 := hA.d1
            have f2 := hA.f2
            have f3 := hA.f3
            go_wp2_with fail
            rw [HO.out]
            exact bodyPost_ret (v := .tuple #[.agg #[.int .i64 0, .slice none 0 0], .int .i64 4]) (by simp [results, Try.results30, go_sem, hdn, hdn1]) rfl (OpRes.no ((hE.setCell (by simp <;> omega) _).setCell (by simp <;> omega) _))
          | true =>
            have hb2 : (code s (r.2[k].take n) != (k : Int)) = false := by have := HG.out; rw [hg] at this; simpa using this.symm
            go_wp2_with fail
            refine (indexOf_any s _ _ _ hrt (by omega) (by omega) HTL.out HTV.out).mono ?_
            rintro e w' ⟨rfl, rfl⟩
            go_wp2_with fail
            go_wp2_with fail
            refine region_sp [] [8, 9, 10] [SP.val (.pointer (some ⟨w1.heap.size, 1, none⟩)), SP.val (.slice va (gVals r k).length vc), SP.val (.slice (some ⟨eb, eoff, none⟩) r.2[k].length ec), SP.val (.pointer (some ⟨w1.heap.size, 0, none⟩)), SP.val (.int .i64 (n : Nat)), SP.val (.pointer (some ⟨eb, eoff + n, none⟩)), SP.val (.int .i64 (r.2[k])[n]), SP.row1 (.int .i64 (r.2[k])[n]), SP.any, SP.any, SP.any] (by kernel_rfl) (fun _ d _ _ _ h => by cases d <;> exact h) (by kernel_rfl) (by kernel_rfl)
              (.cons (fun vs y hY => Step.fieldAddr ⟨w1.heap.size, 0, none⟩ rfl rfl rfl (by simp [go_sem]) rfl) <|
               .cons (fun vs y hY g0_0 => Step.load ⟨w1.heap.size, 1, none⟩ rfl rfl g0_0 (by simp [go_sem, hY.cell a1]) rfl) <|
               .cons (fun vs y hY => Step.move rfl rfl rfl rfl) <|
               .cons (fun vs y hY => Step.fieldAddr ⟨w1.heap.size, 0, none⟩ rfl rfl rfl (by simp [go_sem]) rfl) <|
               .cons (fun vs y hY g3_0 => Step.load ⟨w1.heap.size, 0, none⟩ rfl rfl g3_0 (by simp [go_sem, hY.cell a0]) rfl) <|
               .cons (fun vs y hY g2_0 g4_1 => Step.indexAtP (n := .int .i64 (n : Nat)) ⟨eb, eoff + n, none⟩ rfl rfl g2_0 g4_1 (by simp [go_sem, Instr.indexAt, Addr.add, hln1] <;> omega) rfl) <|
               .cons (fun vs y hY g5_0 => Step.load ⟨eb, eoff + n, none⟩ rfl rfl g5_0 (by simp [go_sem, hY.cell hck]) rfl) <|
               .cons (fun vs y hY g6_0 => Step.buildSlice1 (x := .int .i64 (r.2[k])[n]) (e := 2) rfl rfl g6_0 (by simp [go_sem]) row1_new) <|
               .skip rfl <|
               .skip rfl <|
               .skip rfl <|
               .nil) ?_
            intro vs w3 hC hL
            have r0 : vs 0 = _ := hL 0 (by decide) rfl
            have r1 : vs 1 = _ := hL 1 (by decide) rfl
            have r2 : vs 2 = _ := hL 2 (by decide) rfl
            have r3 : vs 3 = _ := hL 3 (by decide) rfl
            have r4 : vs 4 = _ := hL 4 (by decide) rfl
            have r5 : vs 5 = _ := hL 5 (by decide) rfl
            have r6 : vs 6 = _ := hL 6 (by decide) rfl
            have r7 := hL 7 (by decide) rfl
            clear hL
            simp only [putAll, Act.put, List.contains_cons, List.contains_nil, Nat.reduceBEq, Nat.reduceAdd, Bool.or_false, Bool.or_true, cond_true, cond_false, List.setIfInBounds_toArray, List.set_cons_succ, List.set_cons_zero, List.filterMap_cons, List.filterMap_nil, List.getElem?_cons_succ, List.getElem?_cons_zero, r0, r1, r2, r3, r4, r5, r6]
            clear r0 r1 r2 r3 r4 r5 r6
            obtain ⟨b', rb, cb⟩ := r7
            rw [rb]
            replace hA := hA.ext hC
            replace c0 := hC.cell c0
            replace c1 := hC.cell c1
            refine hA.append hgl2 cb rfl (.tmp 42) (.tmp 48) rfl rfl rfl ?_
            intro v' w4 k3 k4 hA' hK ⟨xa, xc, hxe⟩
            subst hxe
            rw [← HV.out] at hA'
            replace c0 := hK.cell c0 (by dsimp only; omega) (by dsimp only; omega)
            replace c1 := hK.cell c1 (by dsimp only; omega) (by dsimp only; omega)
            go_wp2_with fail
            go_roundw
            case rel => exact ⟨k + 1, _, by omega, by go_num, hA', gall_succ HT.out hg, c0, c1⟩
            case measure => simp [intOf]; omega
        · have hkk : k = r.2.length := by omega
          subst hkk
          have HVO := Lib.hid (gValid H1.out H2.out HT.out)
          have a0 := hA.c0
          have a1 := hA.c1
          have hop : RdOp wr (.agg #[.int .i64 (n : Nat), .slice va (gVals r r.2.length).length vc]) (r.1 - 1, gVals r r.2.length) := ⟨_, by rw [HN.out], (show OI wr _ (gVals r r.2.length) _ from ⟨own_base hA.ho (fun _ _ => Nat.zero_le _), rfl⟩).rd⟩
          go_wp2_with fail
          refine (implValidOp_ok s _ _ _ hop).mono ?_
          rintro e w2 ⟨rfl, hE2⟩
          rw [HVO.out]
          replace hA := hA.ext hE2
          replace hE := hE.tr hE2
          cases hok : gOk s r with
          | false =>
            have HO := Lib.hid (oog_4 H1.out H2.out hok)
            have hdn := hA.d0
            have hdn1 := hA.d1
            have f2 := hA.f2
            have f3 := hA.f3
            go_wp2_with fail
            rw [HO.out]
            exact bodyPost_ret (v := .tuple #[.agg #[.int .i64 0, .slice none 0 0], .int .i64 4]) (by simp [results, Try.results30, go_sem, hdn, hdn1]) rfl (OpRes.no ((hE.setCell (by simp <;> omega) _).setCell (by simp <;> omega) _))
          | true =>
            have HO := Lib.hid (oog_0 H1.out H2.out hok)
            have c0 := hA.c0
            have c1 := hA.c1
            have d0 := hA.d0
            have d1 := hA.d1
            have f2 := hA.f2
            have f3 := hA.f3
            have hmk : mkOp (r.1 - 1, gVals r r.2.length) ≤ 1048576 := by
              have := gVals_length r r.2.length
              show (gVals r r.2.length).length ≤ 1048576
              omega
            obtain ⟨fp, g1, g2, g3⟩ := hA.done (.int .i64 (n : Nat)) (.slice va (gVals r r.2.length).length vc)
            rw [← HN.out] at g2
            go_wp2_with fail
            rw [HO.out]
            exact bodyPost_ret (v := .tuple #[.agg #[.int .i64 (n : Nat), .slice va (gVals r r.2.length).length vc], .int .i64 0]) (by simp [results, Try.results30, go_sem, d0, d1]) rfl (OpRes.of rfl g1 (by rw [HN.out] at g2 ⊢; exact g2) g3 hmk)
set_option maxHeartbeats 2000000 in
set_option maxRecDepth 100000 in
theorem specOpOfGraph_any (s : Int) (r : Int × List (List Int)) (v : Value) (w : World) (hr : RdRel w v r) (_ : -9223372036854775808 ≤ s) (_ : s ≤ 9223372036854775807) (hz : szRel r ≤ 1048576) :
    Calls Try.prog 29 #[.int .i64 s, v] w (OpRes (SOpOfGraph s r) w) := by
  obtain ⟨tv, rfl, hr'⟩ := hr
  obtain ⟨ta, tc, rfl⟩ := hr'.form
  have hr : RdRel w _ r := ⟨_, rfl, hr'⟩
  have hE1 : Ext w ((w.alloc (.cells #[.int .i64 r.1, .slice ta r.2.length tc] 27)).alloc (.cells #[.int .i64 0, .slice none 0 0] 41)) := ((Ext.refl' w).alloc (Nat.le_refl _) _).alloc (by simp) _
  have hp : PtRel ((w.alloc (.cells #[.int .i64 r.1, .slice ta r.2.length tc] 27)).alloc (.cells #[.int .i64 0, .slice none 0 0] 41)) (.pointer (some ⟨w.heap.size, 0, none⟩)) r := ⟨_, _, _, rfl, by simp [go_sem], by simp [go_sem], hr'.ext hE1⟩
  cases h1 : SValidRel s r with
  | false =>
    rw [oog_1 h1]
    go_enter Try.func29, Try.ntmps29
    go_wp2_with fail
    refine (l01Ok_any s r _ _ hp).mono ?_
    rintro e w1 ⟨rfl, hQ⟩
    rw [h1]
    have hE := hQ.ext
    have c0 := hE.cell (p := ⟨w.heap.size, 0, none⟩) (v := .int .i64 r.1) (by simp [go_sem])
    have c1 := hE.cell (p := ⟨w.heap.size, 1, none⟩) (v := .slice ta r.2.length tc) (by simp [go_sem])
    have d0 := hE.cell (p := ⟨w.heap.size + 1, 0, none⟩) (v := .int .i64 0) (by simp [go_sem])
    have d1 := hE.cell (p := ⟨w.heap.size + 1, 1, none⟩) (v := .slice none 0 0) (by simp [go_sem])
    have f2 := hE.frozen (p := ⟨w.heap.size + 1, 0, none⟩) (by simp)
    have f3 := hE.frozen (p := ⟨w.heap.size + 1, 1, none⟩) (by simp)
    simp [go_sem] at f2 f3
    replace hE := hE1.tr hE
    go_wp2_with fail
    exact bodyPost_ret (v := .tuple #[.agg #[.int .i64 0, .slice none 0 0], .int .i64 1]) (by simp [results, Try.results29, go_sem, d0, d1]) rfl (OpRes.no ((hE.setCell (by simp <;> omega) _).setCell (by simp <;> omega) _))
  | true =>
    obtain ⟨⟨hs1, hs2⟩, ⟨hm1, hm2⟩, hall⟩ := valid_parts h1
    by_cases h2 : r.1 = 1
    · have hb : (r.1 == 1) = true := by simp [h2]
      rw [oog_2 h1 h2]
      clear h2
      go_enter Try.func29, Try.ntmps29
      go_wp2_with fail
      refine (l01Ok_any s r _ _ hp).mono ?_
      rintro e w1 ⟨rfl, hQ⟩
      rw [h1]
      have hE := hQ.ext
      have c0 := hE.cell (p := ⟨w.heap.size, 0, none⟩) (v := .int .i64 r.1) (by simp [go_sem])
      have c1 := hE.cell (p := ⟨w.heap.size, 1, none⟩) (v := .slice ta r.2.length tc) (by simp [go_sem])
      have d0 := hE.cell (p := ⟨w.heap.size + 1, 0, none⟩) (v := .int .i64 0) (by simp [go_sem])
      have d1 := hE.cell (p := ⟨w.heap.size + 1, 1, none⟩) (v := .slice none 0 0) (by simp [go_sem])
      have f2 := hE.frozen (p := ⟨w.heap.size + 1, 0, none⟩) (by simp)
      have f3 := hE.frozen (p := ⟨w.heap.size + 1, 1, none⟩) (by simp)
      simp [go_sem] at f2 f3
      replace hE := hE1.tr hE
      go_wp2_with fail
      exact bodyPost_ret (v := .tuple #[.agg #[.int .i64 0, .slice none 0 0], .int .i64 2]) (by simp [results, Try.results29, go_sem, d0, d1]) rfl (OpRes.no ((hE.setCell (by simp <;> omega) _).setCell (by simp <;> omega) _))
    · have hb : (r.1 == 1) = false := by simp [h2]
      have HALL := Lib.hid hall
      have H1 := Lib.hid h1
      have H2 := Lib.hid h2
      have hlr : r.2.length ≤ 256 := valid_length h1
      obtain ⟨n, hn⟩ := Int.eq_ofNat_of_zero_le (show 0 ≤ r.1 - 1 by omega)
      have hsub : r.1 - 1 = (n : Int) := hn
      have hn3 : n ≤ 3 := by omega
      have HN := Lib.hid hn
      have HPW := Lib.hid (show powW s n = powW s (r.1 - 1).toNat from by rw [hn, Int.toNat_natCast])
      clear hall h2 hn
      by_cases hpw : (r.2.length : Int) = powW s (r.1 - 1).toNat
      · have hbp : ((r.2.length : Int) != powW s n) = false := by rw [HPW.out]; simp [hpw]
        have HPL := Lib.hid hpw
        clear hpw
        go_enter Try.func29, Try.ntmps29
        go_wp2_with fail
        refine (l01Ok_any s r _ _ hp).mono ?_
        rintro e w1 ⟨rfl, hQ⟩
        rw [h1]
        have hE := hQ.ext
        have c0 := hE.cell (p := ⟨w.heap.size, 0, none⟩) (v := .int .i64 r.1) (by simp [go_sem])
        have c1 := hE.cell (p := ⟨w.heap.size, 1, none⟩) (v := .slice ta r.2.length tc) (by simp [go_sem])
        have d0 := hE.cell (p := ⟨w.heap.size + 1, 0, none⟩) (v := .int .i64 0) (by simp [go_sem])
        have d1 := hE.cell (p := ⟨w.heap.size + 1, 1, none⟩) (v := .slice none 0 0) (by simp [go_sem])
        have f2 := hE.frozen (p := ⟨w.heap.size + 1, 0, none⟩) (by simp)
        have f3 := hE.frozen (p := ⟨w.heap.size + 1, 1, none⟩) (by simp)
        simp [go_sem] at f2 f3
        replace hE := hE1.tr hE
        clear h1
        obtain ⟨a, b, off, cap, us, hsl, hlc, hcm, ha, hc⟩ := hr'
        simp only [Value.slice.injEq] at hsl
        obtain ⟨rfl, -, rfl⟩ := hsl
        have hq1 := lt_of_cell d0
        have hq0 := lt_of_cell c0
        dsimp only at hq0
        have hA1 : Ext w1 (w1.alloc (.cells #[.int .i64 (n : Nat), .slice none 0 0] 41)) := (Ext.refl' w1).alloc (Nat.le_refl _) _
        have hAcc : AccT w (w1.alloc (.cells #[.int .i64 (n : Nat), .slice none 0 0] 41)) (w.heap.size + 1) w1.heap.size (w1.heap.size + 1) (n : Nat) (gVals r 0) (.slice none 0 0) := ⟨hE.tr hA1, World.ownsRow_nil _ _ _ _, by simp, by omega, hq1, by omega, by simp [go_sem], by simp [go_sem], by simp [go_sem], hA1.cell d0, hA1.cell d1, (hA1.frozen (lt_of_cell d0)).trans f2, (hA1.frozen (lt_of_cell d1)).trans f3⟩
        go_wp2_with fail
        replace c0 := hA1.cell c0
        replace c1 := hA1.cell c1
        generalize hwa : w1.alloc (.cells #[.int .i64 (n : Nat), .slice none 0 0] 41) = wa at hAcc c0 c1 ⊢
        have hE := hAcc.hE
        have a0 := hAcc.c0
        have a1 := hAcc.c1
        clear hwa hA1
        go_wp2_with fail
        refine region_sp [] [] [SP.val (.pointer (some ⟨w.heap.size, 1, none⟩)), SP.val (.slice ta r.2.length tc), SP.val (.int .i64 (r.2.length : Nat)), SP.val (.int .i64 s), SP.val (.pointer (some ⟨w1.heap.size, 0, none⟩)), SP.val (.int .i64 (n : Nat)), SP.val (.int .i64 (powW s n)), SP.val (.bool false)] (by kernel_rfl) (fun _ d _ _ _ h => by cases d <;> exact h) (by kernel_rfl) (by kernel_rfl)
          (.cons (fun vs y hY => Step.fieldAddr ⟨w.heap.size, 0, none⟩ rfl rfl rfl (by simp [go_sem]) rfl) <|
           .cons (fun vs y hY g0_0 => Step.load ⟨w.heap.size, 1, none⟩ rfl rfl g0_0 (by simp [go_sem, hY.cell c1]) rfl) <|
           .cons (fun vs y hY g1_0 => Step.len Try.underlying22 rfl rfl g1_0 rfl) <|
           .cons (fun vs y hY => Step.move rfl rfl rfl rfl) <|
           .cons (fun vs y hY => Step.fieldAddr ⟨w1.heap.size, 0, none⟩ rfl rfl rfl (by simp [go_sem]) rfl) <|
           .cons (fun vs y hY g4_0 => Step.load ⟨w1.heap.size, 0, none⟩ rfl rfl g4_0 (by simp [go_sem, hY.cell a0]) rfl) <|
           .cons (fun vs y hY g3_0 g5_1 => Step.call Try.call73 rfl rfl [vs 3, vs 5] rfl rfl (by rw [show vs 3 = _ from g3_0, show vs 5 = _ from g5_1]; exact ((l01Power_any _ _ _ (by omega) (by omega)).mono fun _ _ ⟨he, hw⟩ => ⟨_, he, hw ▸ Ext.refl_ _, rfl⟩))) <|
           .cons (fun vs y hY g2_0 g6_1 => Step.bin (u := .int .i64 (r.2.length : Nat)) (v := .int .i64 (powW s n)) rfl rfl g2_0 g6_1 (by simp [go_sem, hbp]) rfl) <|
           .nil) ?_
        intro vs w2 hC hL
        have r0 : vs 0 = _ := hL 0 (by decide) rfl
        have r1 : vs 1 = _ := hL 1 (by decide) rfl
        have r2 : vs 2 = _ := hL 2 (by decide) rfl
        have r3 : vs 3 = _ := hL 3 (by decide) rfl
        have r4 : vs 4 = _ := hL 4 (by decide) rfl
        have r5 : vs 5 = _ := hL 5 (by decide) rfl
        have r6 : vs 6 = _ := hL 6 (by decide) rfl
        have r7 : vs 7 = _ := hL 7 (by decide) rfl
        clear hL
        simp only [putAll, Act.put, List.contains_nil, cond_false, List.setIfInBounds_toArray, List.set_cons_succ, List.set_cons_zero, List.filterMap_nil, r0, r1, r2, r3, r4, r5, r6, r7]
        clear r0 r1 r2 r3 r4 r5 r6 r7
        have hA := hAcc.ext hC
        replace hE := hE.tr hC
        replace c0 := hC.cell c0
        replace c1 := hC.cell c1
        go_wp2_with fail
        go_loopw [7] (fun i wr => ∃ (k : Nat) (tv : Value), k ≤ r.2.length ∧ i = .int .i64 k ∧ AccT w wr (w.heap.size + 1) w1.heap.size (w1.heap.size + 1) (n : Nat) (gVals r k) tv ∧ (List.range k).all (gAt s r) = true ∧ wr.cell? ⟨w.heap.size, 0, none⟩ = some (.int .i64 r.1) ∧ wr.cell? ⟨w.heap.size, 1, none⟩ = some (.slice ta r.2.length tc))
          (fun i _ => r.2.length - (intOf i).toNat)
        case atStart => exact ⟨0, .slice none 0 0, by omega, rfl, hA, rfl, c0, c1⟩
        case round =>
          obtain ⟨k, tv, hk, rfl, hA, hgs, c0, c1⟩ := hrel
          have hE := hA.hE
          have HT := Lib.hid hgs
          clear hgs
          obtain ⟨va, vc, rfl⟩ := hA.form
          by_cases hkl : k < r.2.length
          · skip
            obtain rfl := ha (by omega)
            obtain ⟨k1, k2⟩ := hc k hkl
            replace k1 := hE.cell k1
            replace k2 := k2.ext hE
            have ht := HALL.out r.2[k] (List.getElem_mem hkl)
            have hln : n < r.2[k].length ∧ r.2[k].length ≤ 4 := by have := vals_len ht; have := HN.out; omega
            obtain ⟨hln1, hln4⟩ := hln
            generalize us k = y at k1 k2
            obtain ⟨ea, eb, eoff, ec, rfl, elc, ecm, eha, ehc⟩ := k2
            obtain rfl := eha (by omega)
            have hck := ehc n hln1
            have hrt := RdI.take ehc elc ecm n (by omega)
            have hnc : n ≤ ec := by omega
            have HG := Lib.hid (gAt_eq (s := s) hkl (m := n) (by have := HN.out; omega))
            have HV := Lib.hid (gVals_succ hkl (m := n) (by have := HN.out; omega) hln1)
            have HTL := Lib.hid (show (r.2[k].take n).length ≤ 4 from by rw [List.length_take]; omega)
            have HTV := Lib.hid (show ∀ a ∈ r.2[k].take n, 0 ≤ a ∧ a < s from fun a ha => (vals_iff.1 ht).2 a (List.mem_of_mem_take ha))
            have hgl := gVals_length r k
            have hgl2 : (gVals r k).length ≤ 1048576 := by omega
            have a0 := hA.c0
            have a1 := hA.c1
            clear ehc hgl ht
            cases hg : gAt s r k with
            | false =>
              have hb2 : (code s (r.2[k].take n) != (k : Int)) = true := by have := HG.out; rw [hg] at this; simpa using this.symm
              have HO := Lib.hid (oog_4 H1.out H2.out (gOk_no hkl hg))
              clear hg
              go_wp2_with fail
              refine (l01Code_any s _ _ _ hrt (by omega) (by omega) HTL.out HTV.out).mono ?_
              rintro e w' ⟨rfl, rfl⟩
              have hdn := hA.d0
              have hdn1 := hA.d1
              have f2 := hA.f2
              have f3 := hA.f3
              go_wp2_with fail
              rw [HO.out]
              exact bodyPost_ret (v := .tuple #[.agg #[.int .i64 0, .slice none 0 0], .int .i64 4]) (by simp [results, Try.results29, go_sem, hdn, hdn1]) rfl (OpRes.no ((hE.setCell (by simp <;> omega) _).setCell (by simp <;> omega) _))
            | true =>
              have hb2 : (code s (r.2[k].take n) != (k : Int)) = false := by have := HG.out; rw [hg] at this; simpa using this.symm
              go_wp2_with fail
              refine (l01Code_any s _ _ _ hrt (by omega) (by omega) HTL.out HTV.out).mono ?_
              rintro e w' ⟨rfl, rfl⟩
              go_wp2_with fail
              go_wp2_with fail
              refine region_sp [] [8, 9, 10] [SP.val (.pointer (some ⟨w1.heap.size, 1, none⟩)), SP.val (.slice va (gVals r k).length vc), SP.val (.slice (some ⟨eb, eoff, none⟩) r.2[k].length ec), SP.val (.pointer (some ⟨w1.heap.size, 0, none⟩)), SP.val (.int .i64 (n : Nat)), SP.val (.pointer (some ⟨eb, eoff + n, none⟩)), SP.val (.int .i64 (r.2[k])[n]), SP.row1 (.int .i64 (r.2[k])[n]), SP.any, SP.any, SP.any] (by kernel_rfl) (fun _ d _ _ _ h => by cases d <;> exact h) (by kernel_rfl) (by kernel_rfl)
                (.cons (fun vs y hY => Step.fieldAddr ⟨w1.heap.size, 0, none⟩ rfl rfl rfl (by simp [go_sem]) rfl) <|
                 .cons (fun vs y hY g0_0 => Step.load ⟨w1.heap.size, 1, none⟩ rfl rfl g0_0 (by simp [go_sem, hY.cell a1]) rfl) <|
                 .cons (fun vs y hY => Step.move rfl rfl rfl rfl) <|
                 .cons (fun vs y hY => Step.fieldAddr ⟨w1.heap.size, 0, none⟩ rfl rfl rfl (by simp [go_sem]) rfl) <|
                 .cons (fun vs y hY g3_0 => Step.load ⟨w1.heap.size, 0, none⟩ rfl rfl g3_0 (by simp [go_sem, hY.cell a0]) rfl) <|
                 .cons (fun vs y hY g2_0 g4_1 => Step.indexAtP (n := .int .i64 (n : Nat)) ⟨eb, eoff + n, none⟩ rfl rfl g2_0 g4_1 (by simp [go_sem, Instr.indexAt, Addr.add, hln1] <;> omega) rfl) <|
                 .cons (fun vs y hY g5_0 => Step.load ⟨eb, eoff + n, none⟩ rfl rfl g5_0 (by simp [go_sem, hY.cell hck]) rfl) <|
                 .cons (fun vs y hY g6_0 => Step.buildSlice1 (x := .int .i64 (r.2[k])[n]) (e := 2) rfl rfl g6_0 (by simp [go_sem]) row1_new) <|
                 .skip rfl <|
                 .skip rfl <|
                 .skip rfl <|
                 .nil) ?_
              intro vs w3 hC hL
              have r0 : vs 0 = _ := hL 0 (by decide) rfl
              have r1 : vs 1 = _ := hL 1 (by decide) rfl
              have r2 : vs 2 = _ := hL 2 (by decide) rfl
              have r3 : vs 3 = _ := hL 3 (by decide) rfl
              have r4 : vs 4 = _ := hL 4 (by decide) rfl
              have r5 : vs 5 = _ := hL 5 (by decide) rfl
              have r6 : vs 6 = _ := hL 6 (by decide) rfl
              have r7 := hL 7 (by decide) rfl
              clear hL
              simp only [putAll, Act.put, List.contains_cons, List.contains_nil, Nat.reduceBEq, Nat.reduceAdd, Bool.or_false, Bool.or_true, cond_true, cond_false, List.setIfInBounds_toArray, List.set_cons_succ, List.set_cons_zero, List.filterMap_cons, List.filterMap_nil, List.getElem?_cons_succ, List.getElem?_cons_zero, r0, r1, r2, r3, r4, r5, r6]
              clear r0 r1 r2 r3 r4 r5 r6
              obtain ⟨b', rb, cb⟩ := r7
              rw [rb]
              replace hA := hA.ext hC
              replace c0 := hC.cell c0
              replace c1 := hC.cell c1
              refine hA.append hgl2 cb rfl (.tmp 52) (.tmp 58) rfl rfl rfl ?_
              intro v' w4 k3 k4 hA' hK ⟨xa, xc, hxe⟩
              subst hxe
              rw [← HV.out] at hA'
              replace c0 := hK.cell c0 (by dsimp only; omega) (by dsimp only; omega)
              replace c1 := hK.cell c1 (by dsimp only; omega) (by dsimp only; omega)
              go_wp2_with fail
              go_roundw
              case rel => exact ⟨k + 1, _, by omega, by go_num, hA', gall_succ HT.out hg, c0, c1⟩
              case measure => simp [intOf]; omega
          · have hkk : k = r.2.length := by omega
            subst hkk
            have HO := Lib.hid (oog_0 H1.out H2.out ((gOk_end HT.out).trans (decide_eq_true HPL.out)))
            have c0 := hA.c0
            have c1 := hA.c1
            have d0 := hA.d0
            have d1 := hA.d1
            have f2 := hA.f2
            have f3 := hA.f3
            have hmk : mkOp (r.1 - 1, gVals r r.2.length) ≤ 1048576 := by
              have := gVals_length r r.2.length
              show (gVals r r.2.length).length ≤ 1048576
              omega
            obtain ⟨fp, g1, g2, g3⟩ := hA.done (.int .i64 (n : Nat)) (.slice va (gVals r r.2.length).length vc)
            rw [← HN.out] at g2
            go_wp2_with fail
            rw [HO.out]
            exact bodyPost_ret (v := .tuple #[.agg #[.int .i64 (n : Nat), .slice va (gVals r r.2.length).length vc], .int .i64 0]) (by simp [results, Try.results29, go_sem, d0, d1]) rfl (OpRes.of rfl g1 (by rw [HN.out] at g2 ⊢; exact g2) g3 hmk)
      · have hbp : ((r.2.length : Int) != powW s n) = true := by rw [HPW.out]; exact bne_iff_ne.2 hpw
        have HO := Lib.hid (oog_4 H1.out H2.out (show gOk s r = false from by unfold gOk; rw [decide_eq_false hpw]; rfl))
        clear hpw
        go_enter Try.func29, Try.ntmps29
        go_wp2_with fail
        refine (l01Ok_any s r _ _ hp).mono ?_
        rintro e w1 ⟨rfl, hQ⟩
        rw [h1]
        have hE := hQ.ext
        have c0 := hE.cell (p := ⟨w.heap.size, 0, none⟩) (v := .int .i64 r.1) (by simp [go_sem])
        have c1 := hE.cell (p := ⟨w.heap.size, 1, none⟩) (v := .slice ta r.2.length tc) (by simp [go_sem])
        have d0 := hE.cell (p := ⟨w.heap.size + 1, 0, none⟩) (v := .int .i64 0) (by simp [go_sem])
        have d1 := hE.cell (p := ⟨w.heap.size + 1, 1, none⟩) (v := .slice none 0 0) (by simp [go_sem])
        have f2 := hE.frozen (p := ⟨w.heap.size + 1, 0, none⟩) (by simp)
        have f3 := hE.frozen (p := ⟨w.heap.size + 1, 1, none⟩) (by simp)
        simp [go_sem] at f2 f3
        replace hE := hE1.tr hE
        clear h1
        obtain ⟨a, b, off, cap, us, hsl, hlc, hcm, ha, hc⟩ := hr'
        simp only [Value.slice.injEq] at hsl
        obtain ⟨rfl, -, rfl⟩ := hsl
        have hq1 := lt_of_cell d0
        have hq0 := lt_of_cell c0
        dsimp only at hq0
        have hA1 : Ext w1 (w1.alloc (.cells #[.int .i64 (n : Nat), .slice none 0 0] 41)) := (Ext.refl' w1).alloc (Nat.le_refl _) _
        have hAcc : AccT w (w1.alloc (.cells #[.int .i64 (n : Nat), .slice none 0 0] 41)) (w.heap.size + 1) w1.heap.size (w1.heap.size + 1) (n : Nat) (gVals r 0) (.slice none 0 0) := ⟨hE.tr hA1, World.ownsRow_nil _ _ _ _, by simp, by omega, hq1, by omega, by simp [go_sem], by simp [go_sem], by simp [go_sem], hA1.cell d0, hA1.cell d1, (hA1.frozen (lt_of_cell d0)).trans f2, (hA1.frozen (lt_of_cell d1)).trans f3⟩
        go_wp2_with fail
        replace c0 := hA1.cell c0
        replace c1 := hA1.cell c1
        generalize hwa : w1.alloc (.cells #[.int .i64 (n : Nat), .slice none 0 0] 41) = wa at hAcc c0 c1 ⊢
        have hE := hAcc.hE
        have a0 := hAcc.c0
        have a1 := hAcc.c1
        clear hwa hA1
        go_wp2_with fail
        refine region_sp [] [] [SP.val (.pointer (some ⟨w.heap.size, 1, none⟩)), SP.val (.slice ta r.2.length tc), SP.val (.int .i64 (r.2.length : Nat)), SP.val (.int .i64 s), SP.val (.pointer (some ⟨w1.heap.size, 0, none⟩)), SP.val (.int .i64 (n : Nat)), SP.val (.int .i64 (powW s n)), SP.val (.bool true)] (by kernel_rfl) (fun _ d _ _ _ h => by cases d <;> exact h) (by kernel_rfl) (by kernel_rfl)
          (.cons (fun vs y hY => Step.fieldAddr ⟨w.heap.size, 0, none⟩ rfl rfl rfl (by simp [go_sem]) rfl) <|
           .cons (fun vs y hY g0_0 => Step.load ⟨w.heap.size, 1, none⟩ rfl rfl g0_0 (by simp [go_sem, hY.cell c1]) rfl) <|
           .cons (fun vs y hY g1_0 => Step.len Try.underlying22 rfl rfl g1_0 rfl) <|
           .cons (fun vs y hY => Step.move rfl rfl rfl rfl) <|
           .cons (fun vs y hY => Step.fieldAddr ⟨w1.heap.size, 0, none⟩ rfl rfl rfl (by simp [go_sem]) rfl) <|
           .cons (fun vs y hY g4_0 => Step.load ⟨w1.heap.size, 0, none⟩ rfl rfl g4_0 (by simp [go_sem, hY.cell a0]) rfl) <|
           .cons (fun vs y hY g3_0 g5_1 => Step.call Try.call73 rfl rfl [vs 3, vs 5] rfl rfl (by rw [show vs 3 = _ from g3_0, show vs 5 = _ from g5_1]; exact ((l01Power_any _ _ _ (by omega) (by omega)).mono fun _ _ ⟨he, hw⟩ => ⟨_, he, hw ▸ Ext.refl_ _, rfl⟩))) <|
           .cons (fun vs y hY g2_0 g6_1 => Step.bin (u := .int .i64 (r.2.length : Nat)) (v := .int .i64 (powW s n)) rfl rfl g2_0 g6_1 (by simp [go_sem, hbp]) rfl) <|
           .nil) ?_
        intro vs w2 hC hL
        have r0 : vs 0 = _ := hL 0 (by decide) rfl
        have r1 : vs 1 = _ := hL 1 (by decide) rfl
        have r2 : vs 2 = _ := hL 2 (by decide) rfl
        have r3 : vs 3 = _ := hL 3 (by decide) rfl
        have r4 : vs 4 = _ := hL 4 (by decide) rfl
        have r5 : vs 5 = _ := hL 5 (by decide) rfl
        have r6 : vs 6 = _ := hL 6 (by decide) rfl
        have r7 : vs 7 = _ := hL 7 (by decide) rfl
        clear hL
        simp only [putAll, Act.put, List.contains_nil, cond_false, List.setIfInBounds_toArray, List.set_cons_succ, List.set_cons_zero, List.filterMap_nil, r0, r1, r2, r3, r4, r5, r6, r7]
        clear r0 r1 r2 r3 r4 r5 r6 r7
        have hA := hAcc.ext hC
        replace hE := hE.tr hC
        replace c0 := hC.cell c0
        replace c1 := hC.cell c1
        have hdn := hA.d0
        have hdn1 := hA.d1
        have f2 := hA.f2
        have f3 := hA.f3
        go_wp2_with fail
        rw [HO.out]
        exact bodyPost_ret (v := .tuple #[.agg #[.int .i64 0, .slice none 0 0], .int .i64 4]) (by simp [results, Try.results29, go_sem, hdn, hdn1]) rfl (OpRes.no ((hE.setCell (by simp <;> omega) _).setCell (by simp <;> omega) _))
end Go.Proofs.Ytemhmpnnccmlmaa
