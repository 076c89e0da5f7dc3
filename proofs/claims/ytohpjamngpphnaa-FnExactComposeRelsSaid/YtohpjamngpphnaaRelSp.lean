
/- OppositeRel, MeetRels, JoinRels: the reference's functions. -/
import Derived.Test.YtohpjamngpphnaaRelFns
import Derived.Test.YtohpjamngpphnaaAcc
namespace Go.Proofs.Ytohpjamngpphnaa
open Go.RowKit
set_option linter.unusedVariables false

theorem filter_take_yes {α : Type} {p : α → Bool} {l : List α} {k : Nat} (hk : k < l.length) (h : p l[k] = true) : (l.take (k + 1)).filter p = (l.take k).filter p ++ [l[k]] := by
  rw [List.take_succ_eq_append_getElem hk, List.filter_append]; simp [h]
theorem filter_take_no {α : Type} {p : α → Bool} {l : List α} {k : Nat} (hk : k < l.length) (h : p l[k] = false) : (l.take (k + 1)).filter p = (l.take k).filter p := by
  rw [List.take_succ_eq_append_getElem hk, List.filter_append]; simp [h]
theorem filter_take_length {α : Type} (p : α → Bool) (l : List α) (k : Nat) : ((l.take k).filter p).length ≤ l.length := Nat.le_trans (List.length_filter_le _ _) (by rw [List.length_take]; exact Nat.min_le_right _ _)

theorem mks_or_take {s m : Int} {p : List Int → Bool} {L : List (List Int)} {k : Nat} (hk : k < L.length) : (mks s m fun x => (p x || decide (x ∈ L.take k)) || decide (x = L[k])) = mks s m fun x => p x || decide (x ∈ L.take (k + 1)) := by
  congr 1
  funext x
  rw [Bool.or_assoc]
  congr 1
  rw [List.take_succ_eq_append_getElem hk, Bool.eq_iff_iff, Bool.or_eq_true, decide_eq_true_eq, decide_eq_true_eq, decide_eq_true_eq, List.mem_append, List.mem_singleton]
set_option maxHeartbeats 2000000 in
set_option maxRecDepth 100000 in
theorem l01Meet_any (s : Int) (r q : Int × List (List Int)) (v u : Value) (w : World) (hr : PtRel w v r) (hs : PtRel w u q) (hv : SValidRel s r = true) (hz : szRel r ≤ 1048576) :
    Calls Try.prog 81 #[v, u] w fun e w' => ∃ x fp, e = .returned x ∧ Ext w w' ∧ OwnRel w' x (SrelOf s r.1 fun t => hasT r t && hasT q t) fp ∧ ∀ h ∈ fp, w.heap.size ≤ h := by
  rw [← srel_filter hv]
  have hlen : r.2.length ≤ 1048576 := Nat.le_trans (len_le_szII _) hz
  obtain ⟨-, ⟨hm1, -⟩, hall⟩ := valid_parts hv
  have HALL := Lib.hid hall
  clear hall
  obtain ⟨b0, off0, tv, rfl, c0, c1, hr⟩ := hr
  obtain ⟨a, b, off, cap, vs, rfl, hlc, hcm, ha, hc⟩ := hr
  have hb0 := lt_of_cell c0
  go_enter Try.func81, Try.ntmps81
  go_wp2_with fail
  go_loopw [6] (fun i wr => ∃ (k : Nat) (tv : Value) (fp : List Nat), k ≤ r.2.length ∧ i = .int .i64 k ∧ Acc w wr w.heap.size (w.heap.size + 1) (w.heap.size + 2) r.1 ((r.2.take k).filter (hasT q)) tv fp)
    (fun i _ => r.2.length - (intOf i).toNat)
  case atStart =>
    refine ⟨0, .slice none 0 0, [], by omega, rfl, ⟨((Ext.refl' w).alloc (Nat.le_refl _) _).alloc (by simp) _, OII_nil _, by simp, by simp, by omega, by omega, Nat.le_refl _, ?_, ?_, ?_, ?_, ?_, ?_, ?_⟩⟩ <;> simp [go_sem]
  case round =>
    obtain ⟨k, tv, fp, hk, rfl, hA⟩ := hrel
    have hE := hA.hE
    replace c0 := hE.cell c0
    replace c1 := hE.cell c1
    obtain ⟨va, vc, rfl⟩ := hA.ho.form
    by_cases hkl : k < r.2.length
    · obtain rfl := ha (by omega)
      obtain ⟨k1, k2⟩ := hc k hkl
      replace k1 := hE.cell k1
      replace k2 := k2.ext hE
      have ht := HALL.out r.2[k] (List.getElem_mem hkl)
      have hl0 : 0 < r.2[k].length ∧ r.2[k].length ≤ 1048576 := by have := vals_len ht; have := elem_le_szII hkl; unfold szRel at hz; omega
      generalize vs k = y at k1 k2
      obtain ⟨ya, yc, rfl⟩ := k2.form
      go_wp2_with fail
      refine (l01Has_any q _ _ _ _ (hs.ext hE) k2).mono ?_
      rintro e w2 ⟨rfl, hQ⟩
      replace hA := hA.ext hQ.ext
      replace c0 := hQ.ext.cell c0
      replace c1 := hQ.ext.cell c1
      replace k1 := hQ.ext.cell k1
      replace k2 := k2.ext hQ.ext
      cases hp : hasT q r.2[k] with
      | false =>
        have HD := Lib.hid (filter_take_no (p := hasT q) hkl hp)
        go_wp2_with fail
        go_roundw
        case rel => exact ⟨k + 1, _, fp, by omega, by go_num, by rw [HD.out]; exact hA⟩
        case measure => simp [intOf]; omega
      | true =>
        have HD := Lib.hid (filter_take_yes (p := hasT q) hkl hp)
        have a0 := hA.c0
        have a1 := hA.c1
        go_wp2_with fail
        go_wp2_with fail
        refine region_sp [] [11, 12, 13] [SP.val (.pointer (some ⟨(w.heap.size + 1), 1, none⟩)), SP.val (.slice va ((r.2.take k).filter (hasT q)).length vc), SP.val (.pointer (some ⟨b0, off0, none⟩)), SP.val (.pointer (some ⟨b0, off0, none⟩)), SP.val (.pointer (some ⟨b0, off0 + 1, none⟩)), SP.val (.slice (some ⟨b, off, none⟩) r.2.length cap), SP.val (.int .i64 (k : Nat)), SP.val (.pointer (some ⟨b, off + k, none⟩)), SP.val (.slice ya r.2[k].length yc), SP.ownIb w2.heap.size r.2[k], SP.rowIb w2.heap.size r.2[k], SP.any, SP.any, SP.any] (by kernel_rfl) (fun _ d _ _ _ h => by cases d <;> exact h) (by kernel_rfl) (by kernel_rfl)
          (.cons (fun vs y hY => Step.fieldAddr ⟨(w.heap.size + 1), 0, none⟩ rfl rfl rfl (by simp [go_sem]) rfl) <|
           .cons (fun vs y hY g0_0 => Step.load ⟨(w.heap.size + 1), 1, none⟩ rfl rfl g0_0 (by simp [go_sem, hY.cell a1]) rfl) <|
           .cons (fun vs y hY => Step.move rfl rfl rfl rfl) <|
           .cons (fun vs y hY g2_0 => Step.nilCheck rfl rfl g2_0 rfl) <|
           .cons (fun vs y hY g3_0 => Step.fieldAddr ⟨b0, off0, none⟩ rfl rfl g3_0 (by simp [go_sem]) rfl) <|
           .cons (fun vs y hY g4_0 => Step.load ⟨b0, off0 + 1, none⟩ rfl rfl g4_0 (by simp [go_sem, hY.cell c1]) rfl) <|
           .cons (fun vs y hY => Step.move rfl rfl rfl rfl) <|
           .cons (fun vs y hY g5_0 g6_1 => Step.indexAtP (n := .int .i64 (k : Nat)) ⟨b, off + k, none⟩ rfl rfl g5_0 g6_1 (by simp [go_sem, Instr.indexAt, Addr.add, hkl] <;> omega) rfl) <|
           .cons (fun vs y hY g7_0 => Step.load ⟨b, off + k, none⟩ rfl rfl g7_0 (by simp [go_sem, hY.cell k1]) rfl) <|
           .cons (fun vs y hY g8_0 => Step.call Try.call73 rfl rfl [vs 8] rfl rfl (by rw [show vs 8 = _ from g8_0]; exact ((l00Own_any _ _ _ (k2.ext hY) hl0.1 hl0.2).mono fun _ _ ⟨u, fp, he, hE, ho, hg⟩ => ⟨u, he, hE, fp, ho, fun g h => Nat.le_trans hY.size (hg g h)⟩))) <|
           .cons (fun vs y hY g9_0 => Step.rowIb (e := 38) rfl rfl g9_0 (by simp [go_sem])) <|
           .skip rfl <|
           .skip rfl <|
           .skip rfl <|
           .nil) ?_
        intro vs w3 hC hL
        have r0 : vs 0 = _ := hL 0 (by decide) rfl
        have r1 : vs 1 = _ := hL 1 (by decide) rfl
        have r2 : vs 2 = _ := hL 2 (by decide) rfl
        have r3 : vs 3 = _ := hL 3 (by decide) rfl
        have r4 : vs 4 = _ := hL 4 (by decide) rfl
        have r5 : vs 5 = _ := hL 5 (by decide) rfl
        have r6 : vs 6 = _ := hL 6 (by decide) rfl
        have r7 : vs 7 = _ := hL 7 (by decide) rfl
        have r8 : vs 8 = _ := hL 8 (by decide) rfl
        have r9 := hL 9 (by decide) rfl
        have r10 := hL 10 (by decide) rfl
        clear hL
        simp only [putAll, Act.put, List.contains_cons, List.contains_nil, Nat.reduceBEq, Nat.reduceAdd, Bool.or_false, Bool.or_true, cond_true, cond_false, List.setIfInBounds_toArray, List.set_cons_succ, List.set_cons_zero, List.filterMap_cons, List.filterMap_nil, List.getElem?_cons_succ, List.getElem?_cons_zero, r0, r1, r2, r3, r4, r5, r6, r7, r8]
        clear r0 r1 r2 r3 r4 r5 r6 r7 r8
        obtain ⟨b', u, fx, rb, cb, hx, hfx⟩ := r10
        rw [rb]
        have q5 := hA.hB
        have hd : ∀ g ∈ fx, g ∉ fp := fun g hg hm => by have := hfx g hg; have := hA.ho.lt g hm; omega
        replace hA := hA.ext hC
        refine hA.append hx (fun g hg => Nat.le_trans q5 (hfx g hg)) hd (Nat.le_trans (filter_take_length _ _ _) hlen) cb rfl (.tmp 31) (.tmp 40) rfl rfl rfl ?_
        intro v' w4 fp' k3 k4 hA _ ⟨xa, xc, hxe⟩
        subst hxe
        rw [← HD.out] at hA
        go_wp2_with fail
        go_roundw
        case rel => exact ⟨k + 1, _, fp', by omega, by go_num, hA⟩
        case measure => simp [intOf]; omega
    · have hkk : k = r.2.length := by omega
      subst hkk
      rw [List.take_length] at hA
      have hdone := hA.done
      have c0 := hA.c0
      have c1 := hA.c1
      have d0 := hA.d0
      have d1 := hA.d1
      have f2 := hA.f2
      have f3 := hA.f3
      go_wp2_with fail
      obtain ⟨g1, g2, g3⟩ := hdone (.int .i64 r.1) (.slice va (r.2.filter (hasT q)).length vc)
      exact bodyPost_ret (v := .agg #[.int .i64 r.1, .slice va (r.2.filter (hasT q)).length vc]) (by simp [results, Try.results81, go_sem, d0, d1]) rfl ⟨_, fp, rfl, g1, g2, g3⟩
set_option maxHeartbeats 1000000 in
theorem specMeetRels_any (s : Int) (r : Int × List (List Int)) (v : Value) (q : Int × List (List Int)) (u : Value) (w : World) (hr : RdRel w v r) (hs : RdRel w u q) (_ : -9223372036854775808 ≤ s) (_ : s ≤ 9223372036854775807) (hz : szRel r ≤ 1048576) (hz2 : szRel q ≤ 1048576) :
    Calls Try.prog 40 #[.int .i64 s, v, u] w (RelRes (SMeetRels s r q) w) := by
  obtain ⟨tv, rfl, hr'⟩ := hr
  obtain ⟨ta, tc, rfl⟩ := hr'.form
  have hr : RdRel w _ r := ⟨_, rfl, hr'⟩
  obtain ⟨tu, rfl, hs'⟩ := hs
  obtain ⟨ua', uc', rfl⟩ := hs'.form
  have hs : RdRel w _ q := ⟨_, rfl, hs'⟩
  have hE1 : Ext w (((w.alloc (.cells #[.int .i64 r.1, .slice ta r.2.length tc] 24)).alloc (.cells #[.int .i64 q.1, .slice ua' q.2.length uc'] 24)).alloc (.cells #[.int .i64 0, .slice none 0 0] 24)) := (((Ext.refl' w).alloc (Nat.le_refl _) _).alloc (by simp) _).alloc (by simp; omega) _
  have hp : PtRel (((w.alloc (.cells #[.int .i64 r.1, .slice ta r.2.length tc] 24)).alloc (.cells #[.int .i64 q.1, .slice ua' q.2.length uc'] 24)).alloc (.cells #[.int .i64 0, .slice none 0 0] 24)) (.pointer (some ⟨w.heap.size, 0, none⟩)) r := ⟨_, _, _, rfl, by simp [go_sem], by simp [go_sem], hr'.ext hE1⟩
  have hq : PtRel (((w.alloc (.cells #[.int .i64 r.1, .slice ta r.2.length tc] 24)).alloc (.cells #[.int .i64 q.1, .slice ua' q.2.length uc'] 24)).alloc (.cells #[.int .i64 0, .slice none 0 0] 24)) (.pointer (some ⟨w.heap.size + 1, 0, none⟩)) q := ⟨_, _, _, rfl, by simp [go_sem], by simp [go_sem], hs'.ext hE1⟩
  by_cases h1 : twoFault s r q = 0
  · have HZ := Lib.hid (twoFault_zero h1)
    obtain ⟨⟨hs1, hs2⟩, ⟨hm1, hm2⟩, -⟩ := valid_parts HZ.out.1
    have hmk := mkRel_SrelOf (p := fun t => hasT r t && hasT q t) hs1 hs2 hm1 hm2
    rw [show SMeetRels s r q = (SrelOf s r.1 fun t => hasT r t && hasT q t, 0) from if_pos h1]
    go_enter Try.func40, Try.ntmps40
    go_wp2_with fail
    refine (l01Two_any s r q _ _ _ hp hq).mono ?_
    rintro e w1 ⟨rfl, hQ⟩
    rw [h1]
    clear h1
    have hE := hQ.ext
    have d0 := hE.cell (p := ⟨w.heap.size + 1 + 1, 0, none⟩) (v := .int .i64 0) (by simp [go_sem])
    have d1 := hE.cell (p := ⟨w.heap.size + 1 + 1, 1, none⟩) (v := .slice none 0 0) (by simp [go_sem])
    have f2 := hE.frozen (p := ⟨w.heap.size + 1 + 1, 0, none⟩) (by simp)
    have f3 := hE.frozen (p := ⟨w.heap.size + 1 + 1, 1, none⟩) (by simp)
    simp [go_sem] at f2 f3
    replace hp := hp.ext hE
    replace hq := hq.ext hE
    replace hE := hE1.tr hE
    go_wp2_with fail
    refine (l01Meet_any s r q _ _ _ hp hq HZ.out.1 hz).mono ?_
    rintro e w3 ⟨u, fp, rfl, hE3, hr3, hfr⟩
    have q0 := lt_of_cell d0
    obtain ⟨ua, uc, rfl⟩ := hr3.form
    replace f2 : _ = false := (hE3.frozen (lt_of_cell d0)).trans f2
    replace f3 : _ = false := (hE3.frozen (lt_of_cell d1)).trans f3
    replace d0 := hE3.cell d0
    replace d1 := hE3.cell d1
    go_wp2_with fail
    exact bodyPost_ret (v := .tuple #[.agg #[.int .i64 (SrelOf s r.1 fun t => hasT r t && hasT q t).1, .slice ua (SrelOf s r.1 fun t => hasT r t && hasT q t).2.length uc], .int .i64 0]) (by simp [results, Try.results40, go_sem, d0, d1]; try rfl) rfl
      (RelRes.of rfl (((hE.tr hE3).setCell (by simp <;> omega) _).setCell (by simp <;> omega) _) (hr3.off ((Off.set (fp := [w.heap.size + 1 + 1]) (by simp)).trans (Off.set (by simp))) (fun h hh hm => by have := hfr h hh; simp at hm; (try dsimp only at q0); omega)) (fun h hh => by have := hfr h hh; have := hE.size; omega) hmk)
  · skip
    rw [show SMeetRels s r q = (noRel, twoFault s r q) from if_neg h1]
    have hb : (twoFault s r q != 0) = true := by simp [h1]
    go_enter Try.func40, Try.ntmps40
    go_wp2_with fail
    refine (l01Two_any s r q _ _ _ hp hq).mono ?_
    rintro e w1 ⟨rfl, hQ⟩
    have hE := hQ.ext
    have d0 := hE.cell (p := ⟨w.heap.size + 1 + 1, 0, none⟩) (v := .int .i64 0) (by simp [go_sem])
    have d1 := hE.cell (p := ⟨w.heap.size + 1 + 1, 1, none⟩) (v := .slice none 0 0) (by simp [go_sem])
    have f2 := hE.frozen (p := ⟨w.heap.size + 1 + 1, 0, none⟩) (by simp)
    have f3 := hE.frozen (p := ⟨w.heap.size + 1 + 1, 1, none⟩) (by simp)
    simp [go_sem] at f2 f3
    replace hE := hE1.tr hE
    go_wp2_with fail
    exact bodyPost_ret (v := .tuple #[.agg #[.int .i64 0, .slice none 0 0], .int .i64 (twoFault s r q)]) (by simp [results, Try.results40, go_sem, d0, d1]) rfl (RelRes.no ((hE.setCell (by simp <;> omega) _).setCell (by simp <;> omega) _))

set_option maxHeartbeats 1000000 in
theorem specJoinRels_any (s : Int) (r : Int × List (List Int)) (v : Value) (q : Int × List (List Int)) (u : Value) (w : World) (hr : RdRel w v r) (hs : RdRel w u q) (_ : -9223372036854775808 ≤ s) (_ : s ≤ 9223372036854775807) (hz : szRel r ≤ 1048576) (hz2 : szRel q ≤ 1048576) :
    Calls Try.prog 44 #[.int .i64 s, v, u] w (RelRes (SJoinRels s r q) w) := by
  obtain ⟨tv, rfl, hr'⟩ := hr
  obtain ⟨ta, tc, rfl⟩ := hr'.form
  have hr : RdRel w _ r := ⟨_, rfl, hr'⟩
  obtain ⟨tu, rfl, hs'⟩ := hs
  obtain ⟨ua', uc', rfl⟩ := hs'.form
  have hs : RdRel w _ q := ⟨_, rfl, hs'⟩
  have hE1 : Ext w (((w.alloc (.cells #[.int .i64 r.1, .slice ta r.2.length tc] 24)).alloc (.cells #[.int .i64 q.1, .slice ua' q.2.length uc'] 24)).alloc (.cells #[.int .i64 0, .slice none 0 0] 24)) := (((Ext.refl' w).alloc (Nat.le_refl _) _).alloc (by simp) _).alloc (by simp; omega) _
  have hp : PtRel (((w.alloc (.cells #[.int .i64 r.1, .slice ta r.2.length tc] 24)).alloc (.cells #[.int .i64 q.1, .slice ua' q.2.length uc'] 24)).alloc (.cells #[.int .i64 0, .slice none 0 0] 24)) (.pointer (some ⟨w.heap.size, 0, none⟩)) r := ⟨_, _, _, rfl, by simp [go_sem], by simp [go_sem], hr'.ext hE1⟩
  have hq : PtRel (((w.alloc (.cells #[.int .i64 r.1, .slice ta r.2.length tc] 24)).alloc (.cells #[.int .i64 q.1, .slice ua' q.2.length uc'] 24)).alloc (.cells #[.int .i64 0, .slice none 0 0] 24)) (.pointer (some ⟨w.heap.size + 1, 0, none⟩)) q := ⟨_, _, _, rfl, by simp [go_sem], by simp [go_sem], hs'.ext hE1⟩
  by_cases h1 : twoFault s r q = 0
  · have HZ := Lib.hid (twoFault_zero h1)
    obtain ⟨⟨hs1, hs2⟩, ⟨hm1, hm2⟩, -⟩ := valid_parts HZ.out.1
    obtain ⟨-, -, hall⟩ := valid_parts HZ.out.2.1
    have HALL := Lib.hid (show ∀ t ∈ q.2, vals s t r.1 = true from by rw [HZ.out.2.2]; exact hall)
    clear hall
    have hmk := mkRel_SrelOf (p := fun t => hasT r t || hasT q t) hs1 hs2 hm1 hm2
    rw [show SJoinRels s r q = (SrelOf s r.1 fun t => hasT r t || hasT q t, 0) from if_pos h1]
    go_enter Try.func44, Try.ntmps44
    go_wp2_with fail
    refine (l01Two_any s r q _ _ _ hp hq).mono ?_
    rintro e w1 ⟨rfl, hQ⟩
    rw [h1]
    clear h1
    have hE := hQ.ext
    have c0 := hE.cell (p := ⟨w.heap.size + 1, 0, none⟩) (v := .int .i64 q.1) (by simp [go_sem])
    have c1 := hE.cell (p := ⟨w.heap.size + 1, 1, none⟩) (v := .slice ua' q.2.length uc') (by simp [go_sem])
    have d0 := hE.cell (p := ⟨w.heap.size + 1 + 1, 0, none⟩) (v := .int .i64 0) (by simp [go_sem])
    have d1 := hE.cell (p := ⟨w.heap.size + 1 + 1, 1, none⟩) (v := .slice none 0 0) (by simp [go_sem])
    have f2 := hE.frozen (p := ⟨w.heap.size + 1 + 1, 0, none⟩) (by simp)
    have f3 := hE.frozen (p := ⟨w.heap.size + 1 + 1, 1, none⟩) (by simp)
    simp [go_sem] at f2 f3
    replace hp := hp.ext hE
    replace hE := hE1.tr hE
    go_wp2_with fail
    refine (l01SetOf_any s r _ _ hp HZ.out.1).mono ?_
    rintro e w2 ⟨p, fs, rfl, hE2, hset, hfs⟩
    have q0 := lt_of_cell d0
    replace f2 : _ = false := (hE2.frozen (lt_of_cell d0)).trans f2
    replace f3 : _ = false := (hE2.frozen (lt_of_cell d1)).trans f3
    replace d0 := hE2.cell d0
    replace d1 := hE2.cell d1
    replace c0 := hE2.cell c0
    replace c1 := hE2.cell c1
    replace hE := hE.tr hE2
    replace hfs : ∀ g ∈ fs, w.heap.size + 1 + 1 < g := fun g hg => by have := hfs g hg; dsimp only at q0; omega
    obtain ⟨a, b, off, cap, vs, hsl, hlc, hcm, ha, hc⟩ := hs'
    simp only [Value.slice.injEq] at hsl
    obtain ⟨rfl, -, rfl⟩ := hsl
    clear q0
    go_wp2_with fail
    go_loopw [10] (fun i wr => ∃ k : Nat, k ≤ q.2.length ∧ i = .int .i64 k ∧ Ext w wr ∧ OSet wr p s r.1 (mks s r.1 fun x => hasT r x || decide (x ∈ q.2.take k)) fs ∧
      wr.cell? ⟨w.heap.size + 1, 0, none⟩ = some (.int .i64 q.1) ∧ wr.cell? ⟨w.heap.size + 1, 1, none⟩ = some (.slice ua' q.2.length uc') ∧ wr.cell? ⟨w.heap.size + 1 + 1, 0, none⟩ = some (.int .i64 0) ∧ wr.cell? ⟨w.heap.size + 1 + 1, 1, none⟩ = some (.slice none 0 0) ∧ wr.frozen? ⟨w.heap.size + 1 + 1, 0, none⟩ = false ∧ wr.frozen? ⟨w.heap.size + 1 + 1, 1, none⟩ = false) (fun i _ => q.2.length - (intOf i).toNat)
    case atStart => exact ⟨0, by omega, rfl, hE, by simpa using hset, c0, c1, d0, d1, f2, f3⟩
    case round =>
      obtain ⟨k, hk, rfl, hE, hset, c0, c1, d0, d1, f2, f3⟩ := hrel
      by_cases hkl : k < q.2.length
      · obtain rfl := ha (by omega)
        obtain ⟨k1, k2⟩ := hc k hkl
        replace k1 := hE.cell k1
        replace k2 := k2.ext hE
        have ht := HALL.out q.2[k] (List.getElem_mem hkl)
        generalize vs k = y at k1 k2
        obtain ⟨ya, yc, rfl⟩ := k2.form
        go_wp2_with fail
        refine (put_any s r.1 _ _ _ _ fs _ hset k2 hs1 hs2 hm1 hm2 ht).mono ?_
        rintro e w4 ⟨rfl, hO, hset⟩
        rw [mks_or_take hkl] at hset
        have n0 : w.heap.size + 1 ∉ fs := fun hm => by have := hfs _ hm; omega
        have n1 : w.heap.size + 1 + 1 ∉ fs := fun hm => by have := hfs _ hm; omega
        replace f2 : w4.frozen? ⟨w.heap.size + 1 + 1, 0, none⟩ = false := (World.frozen?_of_block (hO.block _ (lt_of_cell d0) n1)).trans f2
        replace f3 : w4.frozen? ⟨w.heap.size + 1 + 1, 1, none⟩ = false := (World.frozen?_of_block (hO.block _ (lt_of_cell d1) n1)).trans f3
        replace hE : Ext w w4 := Below.trans hE (hO.below hE.size (fun g hg => by have := hfs g hg; omega))
        replace c0 := hO.cell c0 n0
        replace c1 := hO.cell c1 n0
        replace d0 := hO.cell d0 n1
        replace d1 := hO.cell d1 n1
        clear hO
        go_wp2_with fail
        go_roundw
        case rel => exact ⟨k + 1, by omega, by go_num, hE, hset, c0, c1, d0, d1, f2, f3⟩
        case measure => simp [intOf]; omega
      · have hkk : k = q.2.length := by omega
        subst hkk
        rw [List.take_length] at hset
        go_wp2_with fail
        refine (setRel_any s r.1 _ _ _ _ hset hs1 hs2 hm1 hm2 (mks_length _)).mono ?_
        rintro e w3 ⟨u, fp, rfl, hE3, hr3, hfr⟩
        rw [setRel_mks] at hr3
        change OwnRel w3 u (SrelOf s r.1 fun t => hasT r t || hasT q t) fp at hr3
        have q0 := lt_of_cell d0
        obtain ⟨ua, uc, rfl⟩ := hr3.form
        replace f2 : _ = false := (hE3.frozen (lt_of_cell d0)).trans f2
        replace f3 : _ = false := (hE3.frozen (lt_of_cell d1)).trans f3
        replace d0 := hE3.cell d0
        replace d1 := hE3.cell d1
        go_wp2_with fail
        exact bodyPost_ret (v := .tuple #[.agg #[.int .i64 (SrelOf s r.1 fun t => hasT r t || hasT q t).1, .slice ua (SrelOf s r.1 fun t => hasT r t || hasT q t).2.length uc], .int .i64 0]) (by simp [results, Try.results44, go_sem, d0, d1]; try rfl) rfl
          (RelRes.of rfl (((hE.tr hE3).setCell (by simp <;> omega) _).setCell (by simp <;> omega) _) (hr3.off ((Off.set (fp := [w.heap.size + 1 + 1]) (by simp)).trans (Off.set (by simp))) (fun h hh hm => by have := hfr h hh; simp at hm; (try dsimp only at q0); omega)) (fun h hh => by have := hfr h hh; have := hE.size; omega) hmk)
  · skip
    rw [show SJoinRels s r q = (noRel, twoFault s r q) from if_neg h1]
    have hb : (twoFault s r q != 0) = true := by simp [h1]
    go_enter Try.func44, Try.ntmps44
    go_wp2_with fail
    refine (l01Two_any s r q _ _ _ hp hq).mono ?_
    rintro e w1 ⟨rfl, hQ⟩
    have hE := hQ.ext
    have d0 := hE.cell (p := ⟨w.heap.size + 1 + 1, 0, none⟩) (v := .int .i64 0) (by simp [go_sem])
    have d1 := hE.cell (p := ⟨w.heap.size + 1 + 1, 1, none⟩) (v := .slice none 0 0) (by simp [go_sem])
    have f2 := hE.frozen (p := ⟨w.heap.size + 1 + 1, 0, none⟩) (by simp)
    have f3 := hE.frozen (p := ⟨w.heap.size + 1 + 1, 1, none⟩) (by simp)
    simp [go_sem] at f2 f3
    replace hE := hE1.tr hE
    go_wp2_with fail
    exact bodyPost_ret (v := .tuple #[.agg #[.int .i64 0, .slice none 0 0], .int .i64 (twoFault s r q)]) (by simp [results, Try.results44, go_sem, d0, d1]) rfl (RelRes.no ((hE.setCell (by simp <;> omega) _).setCell (by simp <;> omega) _))
/-- the marks turned up to a place -/
def flipTo (M : List Bool) (k : Nat) : List Bool := (M.take k).map (!·) ++ M.drop k
theorem flipTo_length (M : List Bool) (k : Nat) (hk : k ≤ M.length) : (flipTo M k).length = M.length := by simp [flipTo]; omega
theorem flipTo_get (M : List Bool) (k : Nat) (hk : k < M.length) (h : k < (flipTo M k).length) : (flipTo M k)[k] = M[k] := by
  have e : (flipTo M k)[k]? = some M[k] := by
    unfold flipTo
    rw [List.getElem?_append_right (by simp; omega)]
    simp [Nat.min_eq_left (Nat.le_of_lt hk)]
  rw [List.getElem?_eq_getElem h] at e
  exact Option.some.inj e
theorem flipTo_set (M : List Bool) (k : Nat) (hk : k < M.length) : (flipTo M k).set k (!M[k]) = flipTo M (k + 1) := by
  unfold flipTo
  rw [List.set_append_right _ _ (by simp; omega), List.take_succ_eq_append_getElem hk, List.map_append, List.drop_eq_getElem_cons hk]
  simp [Nat.min_eq_left (Nat.le_of_lt hk)]
  rw [List.drop_eq_getElem_cons hk]
  rfl
set_option maxHeartbeats 1000000 in
theorem specOppositeRel_any (s : Int) (r : Int × List (List Int)) (v : Value) (w : World) (hr : RdRel w v r) (_ : -9223372036854775808 ≤ s) (_ : s ≤ 9223372036854775807) (hz : szRel r ≤ 1048576) :
    Calls Try.prog 38 #[.int .i64 s, v] w (RelRes (SOppositeRel s r) w) := by
  obtain ⟨tv, rfl, hr'⟩ := hr
  obtain ⟨ta, tc, rfl⟩ := hr'.form
  have hr : RdRel w _ r := ⟨_, rfl, hr'⟩
  have hE1 : Ext w ((w.alloc (.cells #[.int .i64 r.1, .slice ta r.2.length tc] 24)).alloc (.cells #[.int .i64 0, .slice none 0 0] 24)) := ((Ext.refl' w).alloc (Nat.le_refl _) _).alloc (by simp) _
  have hp : PtRel ((w.alloc (.cells #[.int .i64 r.1, .slice ta r.2.length tc] 24)).alloc (.cells #[.int .i64 0, .slice none 0 0] 24)) (.pointer (some ⟨w.heap.size, 0, none⟩)) r := ⟨_, _, _, rfl, by simp [go_sem], by simp [go_sem], hr'.ext hE1⟩
  cases h1 : SValidRel s r with
  | false =>
    rw [show SOppositeRel s r = (noRel, 1) from by unfold SOppositeRel; rw [h1]; rfl]
    go_enter Try.func38, Try.ntmps38
    go_wp2_with fail
    refine (l01Ok_any s r _ _ hp).mono ?_
    rintro e w1 ⟨rfl, hQ⟩
    rw [h1]
    have hE := hQ.ext
    have d0 := hE.cell (p := ⟨w.heap.size + 1, 0, none⟩) (v := .int .i64 0) (by simp [go_sem])
    have d1 := hE.cell (p := ⟨w.heap.size + 1, 1, none⟩) (v := .slice none 0 0) (by simp [go_sem])
    have f2 := hE.frozen (p := ⟨w.heap.size + 1, 0, none⟩) (by simp)
    have f3 := hE.frozen (p := ⟨w.heap.size + 1, 1, none⟩) (by simp)
    simp [go_sem] at f2 f3
    replace hE := hE1.tr hE
    go_wp2_with fail
    exact bodyPost_ret (v := .tuple #[.agg #[.int .i64 0, .slice none 0 0], .int .i64 1]) (by simp [results, Try.results38, go_sem, d0, d1]) rfl (RelRes.no ((hE.setCell (by simp <;> omega) _).setCell (by simp <;> omega) _))
  | true =>
    obtain ⟨⟨hs1, hs2⟩, ⟨hm1, hm2⟩, -⟩ := valid_parts h1
    rw [show SOppositeRel s r = (SrelOf s r.1 fun t => !hasT r t, 0) from by unfold SOppositeRel; rw [h1]; rfl]
    have hmk := mkRel_SrelOf (p := fun t => !hasT r t) hs1 hs2 hm1 hm2
    have hN3 : count s r.1 ≤ 256 := by have := count_eq s r.1 hs1 hs2 hm1 hm2; have := powW_small s r.1 hs1 hs2 hm1 hm2; omega
    go_enter Try.func38, Try.ntmps38
    go_wp2_with fail
    refine (l01Ok_any s r _ _ hp).mono ?_
    rintro e w1 ⟨rfl, hQ⟩
    have H1 := Lib.hid h1
    rw [h1]
    clear h1
    have hE := hQ.ext
    have d0 := hE.cell (p := ⟨w.heap.size + 1, 0, none⟩) (v := .int .i64 0) (by simp [go_sem])
    have d1 := hE.cell (p := ⟨w.heap.size + 1, 1, none⟩) (v := .slice none 0 0) (by simp [go_sem])
    have f2 := hE.frozen (p := ⟨w.heap.size + 1, 0, none⟩) (by simp)
    have f3 := hE.frozen (p := ⟨w.heap.size + 1, 1, none⟩) (by simp)
    simp [go_sem] at f2 f3
    replace hp := hp.ext hE
    replace hE := hE1.tr hE
    go_wp2_with fail
    refine (l01SetOf_any s r _ _ hp H1.out).mono ?_
    rintro e w2 ⟨p, fs, rfl, hE2, hset, hfs⟩
    have q0 := lt_of_cell d0
    replace f2 : _ = false := (hE2.frozen (lt_of_cell d0)).trans f2
    replace f3 : _ = false := (hE2.frozen (lt_of_cell d1)).trans f3
    replace d0 := hE2.cell d0
    replace d1 := hE2.cell d1
    replace hE := hE.tr hE2
    replace hfs : ∀ g ∈ fs, w.heap.size + 1 < g := fun g hg => by have := hfs g hg; dsimp only at q0; omega
    clear q0
    have HNOT := Lib.hid (mks_not (s := s) (m := r.1) (hasT r))
    have hml := mks_length (s := s) (m := r.1) (hasT r)
    have HML := Lib.hid hml
    generalize mks s r.1 (hasT r) = M at hset HNOT hml HML
    obtain ⟨N, hN, hMN, hNM⟩ : ∃ N, N = M.length ∧ M.length ≤ N ∧ N ≤ M.length := ⟨_, rfl, Nat.le_refl _, Nat.le_refl _⟩
    have HN := Lib.hid hN
    have hN256 : N ≤ 256 := by omega
    clear hN hml
    go_wp2_with fail
    go_loopw [7] (fun i wr => ∃ k : Nat, k ≤ N ∧ i = .int .i64 k ∧ Ext w wr ∧ OSet wr p s r.1 (flipTo M k) fs ∧
      wr.cell? ⟨w.heap.size + 1, 0, none⟩ = some (.int .i64 0) ∧ wr.cell? ⟨w.heap.size + 1, 1, none⟩ = some (.slice none 0 0) ∧ wr.frozen? ⟨w.heap.size + 1, 0, none⟩ = false ∧ wr.frozen? ⟨w.heap.size + 1, 1, none⟩ = false) (fun i _ => N - (intOf i).toNat)
    case atStart => exact ⟨0, by omega, rfl, hE, by simpa [flipTo] using hset, d0, d1, f2, f3⟩
    case round =>
      obtain ⟨k, hk, rfl, hE, h, d0, d1, f2, f3⟩ := hrel
      have hfl := flipTo_length M k (by omega)
      by_cases hkl : k < N
      · have hkM : k < M.length := by omega
        obtain ⟨bs, g, caps, rfl, s0, s1, s2, cb, fz, hg, hcap, hcms, -⟩ := h.store k (by omega) true
        rw [flipTo_get M k hkM (by omega)] at cb
        rw [hfl, ← HN.out] at s2 hcap
        have HF := Lib.hid (flipTo_set M k hkM)
        generalize M[k] = x at cb HF
        clear hfl
        go_wp2_with fail
        go_wp2_with fail
        refine region_sp [] [14] [SP.val (.pointer (some ⟨bs, 0, none⟩)), SP.val (.pointer (some ⟨bs, 0, none⟩)), SP.val (.pointer (some ⟨bs, 2, none⟩)), SP.val (.slice (some ⟨g, 0, none⟩) N caps), SP.val (.int .i64 (k : Nat)), SP.val (.pointer (some ⟨bs, 0, none⟩)), SP.val (.pointer (some ⟨bs, 0, none⟩)), SP.val (.pointer (some ⟨bs, 2, none⟩)), SP.val (.slice (some ⟨g, 0, none⟩) N caps), SP.val (.int .i64 (k : Nat)), SP.val (.pointer (some ⟨g, k, none⟩)), SP.val (.bool x), SP.val (.bool (!x)), SP.val (.pointer (some ⟨g, k, none⟩)), SP.any] (by kernel_rfl) (fun _ d _ _ _ h => by cases d <;> exact h) (by kernel_rfl) (by kernel_rfl)
          (.cons (fun vs y hY => Step.move rfl rfl rfl rfl) <|
           .cons (fun vs y hY g0_0 => Step.nilCheck rfl rfl g0_0 rfl) <|
           .cons (fun vs y hY g1_0 => Step.fieldAddr ⟨bs, 0, none⟩ rfl rfl g1_0 (by simp [go_sem]) rfl) <|
           .cons (fun vs y hY g2_0 => Step.load ⟨bs, 2, none⟩ rfl rfl g2_0 (by simp [go_sem, hY.cell s2]) rfl) <|
           .cons (fun vs y hY => Step.move rfl rfl rfl rfl) <|
           .cons (fun vs y hY => Step.move rfl rfl rfl rfl) <|
           .cons (fun vs y hY g5_0 => Step.nilCheck rfl rfl g5_0 rfl) <|
           .cons (fun vs y hY g6_0 => Step.fieldAddr ⟨bs, 0, none⟩ rfl rfl g6_0 (by simp [go_sem]) rfl) <|
           .cons (fun vs y hY g7_0 => Step.load ⟨bs, 2, none⟩ rfl rfl g7_0 (by simp [go_sem, hY.cell s2]) rfl) <|
           .cons (fun vs y hY => Step.move rfl rfl rfl rfl) <|
           .cons (fun vs y hY g8_0 g9_1 => Step.indexAtP (n := .int .i64 (k : Nat)) ⟨g, k, none⟩ rfl rfl g8_0 g9_1 (by simp [go_sem, Instr.indexAt, Addr.add, hkl] <;> omega) rfl) <|
           .cons (fun vs y hY g10_0 => Step.load ⟨g, k, none⟩ rfl rfl g10_0 (by simp [go_sem, hY.cell cb]) rfl) <|
           .cons (fun vs y hY g11_0 => Step.not rfl rfl g11_0 rfl) <|
           .cons (fun vs y hY g3_0 g4_1 g0_2 g1_3 g2_4 g3_5 g4_6 g5_7 g6_8 g7_9 g8_10 g9_11 g10_12 g11_13 g12_14 => Step.indexAtP (n := .int .i64 (k : Nat)) ⟨g, k, none⟩ rfl rfl g3_0 g4_1 (by simp [go_sem, Instr.indexAt, Addr.add, hkl] <;> omega) rfl) <|
           .skip rfl <|
           .nil) ?_
        intro vs w3 hC hL
        have r0 : vs 0 = _ := hL 0 (by decide) rfl
        have r1 : vs 1 = _ := hL 1 (by decide) rfl
        have r2 : vs 2 = _ := hL 2 (by decide) rfl
        have r3 : vs 3 = _ := hL 3 (by decide) rfl
        have r4 : vs 4 = _ := hL 4 (by decide) rfl
        have r5 : vs 5 = _ := hL 5 (by decide) rfl
        have r6 : vs 6 = _ := hL 6 (by decide) rfl
        have r7 : vs 7 = _ := hL 7 (by decide) rfl
        have r8 : vs 8 = _ := hL 8 (by decide) rfl
        have r9 : vs 9 = _ := hL 9 (by decide) rfl
        have r10 : vs 10 = _ := hL 10 (by decide) rfl
        have r11 : vs 11 = _ := hL 11 (by decide) rfl
        have r12 : vs 12 = _ := hL 12 (by decide) rfl
        have r13 : vs 13 = _ := hL 13 (by decide) rfl
        clear hL
        simp only [putAll, Act.put, List.contains_cons, List.contains_nil, Nat.reduceBEq, Nat.reduceAdd, Bool.or_false, cond_true, cond_false, List.setIfInBounds_toArray, List.set_cons_succ, List.set_cons_zero, List.filterMap_cons, List.filterMap_nil, List.getElem?_cons_succ, List.getElem?_cons_zero, r0, r1, r2, r3, r4, r5, r6, r7, r8, r9, r10, r11, r12, r13]
        clear r0 r1 r2 r3 r4 r5 r6 r7 r8 r9 r10 r11 r12 r13
        replace h := h.ext hC
        obtain ⟨b', g', cap', hbv, e0, e1, e2, eb, ez, hg', hcap', hcm', hst⟩ := h.store k (by rw [flipTo_length M k (by omega)]; omega) (!x)
        simp only [Value.pointer.injEq, Option.some.injEq, Addr.mk.injEq, and_true] at hbv
        subst hbv
        have hgg := e2.symm.trans (hC.cell s2)
        simp only [Option.some.injEq, Value.slice.injEq, Addr.mk.injEq, and_true] at hgg
        obtain ⟨rfl, -, rfl⟩ := hgg
        rw [HF.out] at hst
        replace eb : ∃ x, w3.cell? ⟨g', k, none⟩ = some x := ⟨_, eb⟩
        obtain ⟨old, eb⟩ := eb
        have hgw := hfs g' hg'
        replace f2 : w3.frozen? ⟨w.heap.size + 1, 0, none⟩ = false := (hC.frozen (lt_of_cell d0)).trans f2
        replace f3 : w3.frozen? ⟨w.heap.size + 1, 1, none⟩ = false := (hC.frozen (lt_of_cell d1)).trans f3
        replace d0 := hC.cell d0
        replace d1 := hC.cell d1
        have hE5 := (hE.tr hC).setCell (p := ⟨g', k, none⟩) (by dsimp only; omega) (.bool (!x))
        clear e0 e1 hE cb s0 s1 s2
        go_wp2_with fail
        go_roundw
        case rel => exact ⟨k + 1, by omega, by go_num, hE5, hst, cell_set d0 (.inl (by dsimp only; omega)), cell_set d1 (.inl (by dsimp only; omega)), by rw [World.frozen?_setCell]; exact f2, by rw [World.frozen?_setCell]; exact f3⟩
        case measure => simp [intOf]; omega
      · have hkk : k = N := by omega
        subst hkk
        have hset2 := h
        obtain ⟨b, tv, rfl, c0, c1, c2, hob, hbf⟩ := h
        obtain ⟨ba, bc, rfl⟩ := hob.form
        rw [hfl, ← HN.out] at c2
        have HFL := Lib.hid hfl
        clear hfl
        go_wp2_with fail
        have hall : flipTo M k = mks s r.1 fun t => !hasT r t := by
          rw [HN.out, ← HNOT.out]
          unfold flipTo
          rw [List.take_length, List.drop_length, List.append_nil]
        rw [hall] at hset2
        clear hall
        refine (setRel_any s r.1 _ _ _ _ hset2 hs1 hs2 hm1 hm2 (mks_length _)).mono ?_
        rintro e w3 ⟨u, fp, rfl, hE3, hr3, hfr⟩
        rw [setRel_mks] at hr3
        have q0 := lt_of_cell d0
        obtain ⟨ua, uc, rfl⟩ := hr3.form
        replace f2 : _ = false := (hE3.frozen (lt_of_cell d0)).trans f2
        replace f3 : _ = false := (hE3.frozen (lt_of_cell d1)).trans f3
        replace d0 := hE3.cell d0
        replace d1 := hE3.cell d1
        go_wp2_with fail
        exact bodyPost_ret (v := .tuple #[.agg #[.int .i64 (SrelOf s r.1 fun t => !hasT r t).1, .slice ua (SrelOf s r.1 fun t => !hasT r t).2.length uc], .int .i64 0]) (by simp [results, Try.results38, go_sem, d0, d1]; try rfl) rfl
          (RelRes.of rfl (((hE.tr hE3).setCell (by simp <;> omega) _).setCell (by simp <;> omega) _) (hr3.off ((Off.set (fp := [w.heap.size + 1]) (by simp)).trans (Off.set (by simp))) (fun h hh hm => by have := hfr h hh; simp at hm; (try dsimp only at q0); omega)) (fun h hh => by have := hfr h hh; have := hE.size; omega) hmk)
end Go.Proofs.Ytohpjamngpphnaa
