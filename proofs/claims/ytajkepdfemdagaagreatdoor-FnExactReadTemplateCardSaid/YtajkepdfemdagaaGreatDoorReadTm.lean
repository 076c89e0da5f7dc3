
/- ReadTemplate: the program reads a template. -/
import Derived.Test.YtajkepdfemdagaaGreatDoorReadTmL
import Derived.Test.YtajkepdfemdagaaGreatDoorReadRel
import Derived.Test.YtajkepdfemdagaaGreatDoorRelAcc
namespace Go.Proofs.YtajkepdfemdagaaGreatDoor
open Go.RowKit
set_option linter.unusedVariables false

set_option maxHeartbeats 1000000 in
theorem cutLite_any (s : ByteArray) (w : World) (hs : s.size ≤ 1048576) : Calls Tryz.prog 95 #[.string s, .string ⟨#[116, 101, 109, 112, 108, 97, 116, 101, 32]⟩] w fun e w' => ∃ b, e = .returned (.tuple #[.string (cutB s), .bool b]) ∧ w' = w := by
  cases hp : Lib.hasPrefix s.data.toList [116, 101, 109, 112, 108, 97, 116, 101, 32] with
  | false =>
    have HC := Lib.hid (show cutB s = s by unfold cutB; rw [hp]; rfl)
    go_enter Tryz.func95, Tryz.ntmps95
    go_wp2_with fail
    refine (Tryz.stringslite_HasPrefix s ⟨#[116, 101, 109, 112, 108, 97, 116, 101, 32]⟩ _).mono ?_
    rintro e w1 ⟨rfl, rfl⟩
    rw [show Lib.hasPrefix s.data.toList (⟨#[116, 101, 109, 112, 108, 97, 116, 101, 32]⟩ : ByteArray).data.toList = false from hp]
    go_wp2_with fail
    go_ret2
    exact ⟨false, by rw [HC.out]; rfl, rfl⟩
  | true =>
    have HC := Lib.hid (show cutB s = s.extract 9 s.size by unfold cutB; rw [hp]; rfl)
    have hlen : 9 ≤ s.size := by
      unfold Lib.hasPrefix at hp
      have := (List.isPrefixOf_iff_prefix.1 hp).length_le
      rw [Lib.size_eq]
      exact this
    go_enter Tryz.func95, Tryz.ntmps95
    go_wp2_with fail
    refine (Tryz.stringslite_HasPrefix s ⟨#[116, 101, 109, 112, 108, 97, 116, 101, 32]⟩ _).mono ?_
    rintro e w1 ⟨rfl, rfl⟩
    rw [show Lib.hasPrefix s.data.toList (⟨#[116, 101, 109, 112, 108, 97, 116, 101, 32]⟩ : ByteArray).data.toList = true from hp]
    go_wp2_with fail
    go_ret2
    exact ⟨true, by rw [HC.out]; rfl, rfl⟩
set_option maxHeartbeats 1000000 in
theorem cutPrefix_any (s : ByteArray) (w : World) (hs : s.size ≤ 1048576) : Calls Tryz.prog 45 #[.string s, .string ⟨#[116, 101, 109, 112, 108, 97, 116, 101, 32]⟩] w fun e w' => ∃ b, e = .returned (.tuple #[.string (cutB s), .bool b]) ∧ w' = w := by
  go_enter Tryz.func45, Tryz.ntmps45
  go_wp2_with fail
  refine (cutLite_any s _ hs).mono ?_
  rintro e w1 ⟨b, rfl, rfl⟩
  go_wp2_with fail
  go_ret2
  exact ⟨b, rfl, rfl⟩
set_option maxHeartbeats 8000000 in
set_option maxRecDepth 100000 in
theorem implReadTemplate_any (s : ByteArray) (w : World) (hL : LaidW w) (hs : s.size ≤ 1048576) : Calls Tryz.prog 7 #[.string s] w (TmRes (SReadTemplate s) w) := by
  have hE1 : Ext w (w.alloc (.cells #[.int .i64 0, .slice none 0 0] 24)) := (Ext.refl' w).alloc (Nat.le_refl _) _
  by_cases hbig : 20000 < s.size
  · rw [readTm_big hbig]
    go_enter Tryz.func7, Tryz.ntmps7
    go_wp2_with fail
    exact bodyPost_ret (v := .tuple #[.agg #[.int .i64 0, .slice none 0 0], .int .i64 2]) (by simp [results, Tryz.results7, go_sem]) rfl (TmRes.no hE1)
  obtain ⟨m, hm⟩ := (hL.ext hE1).max
  have hL1 := hL.ext hE1
  have hts := trimB_size s
  have HTB := Lib.hid (show (⟨(Lib.trimSuffix s.data.toList (⟨#[10]⟩ : ByteArray).data.toList).toArray⟩ : ByteArray) = trimB s from rfl)
  obtain ⟨l0, ws, hws⟩ : ∃ x t, words 10 (trimB s) = x :: t := by
    have := words_ne 10 (trimB s)
    generalize words 10 (trimB s) = ws at *
    match ws, this with
    | x :: t, _ => exact ⟨x, t, rfl⟩
  have HR := Lib.hid (show SrdT s = (rnV (cutB l0), ws.map SrdR) by unfold SrdT; rw [hws])
  have hsa : l0.size ≤ s.size := Nat.le_trans (words_size (c := 10) (s := trimB s) (by rw [hws]; simp)) hts
  have hca := cutB_size l0
  have hnb := (rnV_num (cutB l0)).1
  have hsz : ∀ x ∈ ws, x.size ≤ s.size := fun x hx => Nat.le_trans (words_size (c := 10) (s := trimB s) (by rw [hws]; simp [hx])) hts
  have hwl2 : ws.length ≤ 1048576 := by
    have := words_length 10 (trimB s)
    rw [hws] at this
    simp only [List.length_cons] at this
    omega
  have HW := Lib.hid hws
  clear hws
  go_enter Tryz.func7, Tryz.ntmps7
  go_wp2_with fail
  refine (Tryz.strings_TrimSuffix s ⟨#[10]⟩ _ (by omega)).mono ?_
  rintro e w1 ⟨rfl, rfl⟩
  rw [HTB.out]
  go_wp2_with fail
  refine (split_any 10 (trimB s) m _ hm (by omega)).mono ?_
  rintro e w1 ⟨v, rfl, hE, hv⟩
  have d0 := hE.cell (p := ⟨w.heap.size, 0, none⟩) (v := .int .i64 0) (by simp [go_sem])
  have d1 := hE.cell (p := ⟨w.heap.size, 1, none⟩) (v := .slice none 0 0) (by simp [go_sem])
  have f2 := hE.frozen (p := ⟨w.heap.size, 0, none⟩) (by simp)
  have f3 := hE.frozen (p := ⟨w.heap.size, 1, none⟩) (by simp)
  simp [go_sem] at f2 f3
  replace hL1 := hL1.ext hE
  replace hE := hE1.tr hE
  rw [HW.out] at hv
  obtain ⟨b, off, cap, rfl, hcap, hcells⟩ := cells_all hv
  have q0 := hcells 0 (by simp)
  simp only [List.getElem_cons_zero, Nat.add_zero] at q0
  clear hv
  have HC := Lib.hid (show ∀ j (h : j < ws.length), w1.cell? ⟨b, off + 1 + j, none⟩ = some (.string ws[j]) from fun j hj => by
    have := hcells (j + 1) (by simp; omega)
    simp only [List.getElem_cons_succ] at this
    rw [show off + 1 + j = off + (j + 1) by omega]
    exact this)
  have hlen : (l0 :: ws : List ByteArray).length = ws.length + 1 := by simp
  rw [hlen] at hcap ⊢
  clear hcells hlen
  go_wp2_with fail
  refine (cutPrefix_any l0 _ (by omega)).mono ?_
  rintro e w2 ⟨bb, rfl, rfl⟩
  go_wp2_with fail
  refine (readNumber_any (cutB l0) _ hL1 (by omega)).mono ?_
  rintro e wo ⟨rfl, hE2⟩
  replace f2 : _ = false := (hE2.frozen (lt_of_cell d0)).trans f2
  replace f3 : _ = false := (hE2.frozen (lt_of_cell d1)).trans f3
  replace d0 := hE2.cell d0
  replace d1 := hE2.cell d1
  have HC2 := Lib.hid (show ∀ j (h : j < ws.length), wo.cell? ⟨b, off + 1 + j, none⟩ = some (.string ws[j]) from fun j hj => hE2.cell (HC.out j hj))
  replace hL1 := hL1.ext hE2
  replace hE := hE.tr hE2
  have hdl := lt_of_cell d0
  dsimp only at hdl
  clear q0 HC hE2
  by_cases hc1 : cap = 1
  · have hcz : (cap = 1) = True := eq_true hc1
    go_wp2_with fail
    go_loopw [30] (fun i wr => ∃ (k : Nat) (tv : Value) (fp : List Nat), k ≤ ws.length ∧ i = .int .i64 (k : Nat) ∧ AccR wo wr wo.heap.size (wo.heap.size + 1) (rnV (cutB l0)) ((ws.take k).map SrdR) tv fp) (fun i _ => ws.length - (intOf i).toNat)
    case atStart =>
      refine ⟨0, .slice none 0 0, [], by omega, rfl, ⟨(Ext.refl' wo).alloc (Nat.le_refl _) _, OwnL.nil _, by simp, by simp, by omega, Nat.le_refl _, ?_, ?_, ?_⟩⟩ <;> simp [go_sem]
    case round =>
      obtain ⟨k, tv, fp, hk, rfl, hA⟩ := hrel
      have hfp1 := hA.ho.lt
      have hEo := hA.hE
      obtain ⟨ka, kc, rfl⟩ := hA.ho.form
      have hkl : ¬ k < ws.length := by omega
      have HT := Lib.hid (show (ws.take k).map SrdR = ws.map SrdR by rw [List.take_of_length_le (by omega)])
      rw [HT.out] at hA
      have hA2 := hA
      replace f2 : _ = false := (hEo.frozen (lt_of_cell d0)).trans f2
      replace f3 : _ = false := (hEo.frozen (lt_of_cell d1)).trans f3
      replace d0 := hEo.cell d0
      replace d1 := hEo.cell d1
      have hE9 := hE.tr hEo
      have a0 := hA2.c0
      have a1 := hA2.c1
      have hfp3 := hA2.hfp
      have hT : OwnTm wr (.agg #[.int .i64 (rnV (cutB l0)), .slice ka (ws.map SrdR).length kc]) (SrdT s) fp := by rw [HR.out]; exact ⟨_, rfl, hA2.ho⟩
      rw [List.length_map] at a1 hT
      clear hA hA2 HT HC2 hfp1
      obtain ⟨n, hn⟩ : ∃ n, n = rnV (cutB l0) := ⟨_, rfl⟩
      obtain ⟨t, ht⟩ : ∃ t, t = SrdT s := ⟨_, rfl⟩
      rw [← hn] at a0 hT hnb
      rw [← ht] at hT
      have HT2 := Lib.hid ht.symm
      rw [← hn]
      clear hn HR
      cases hv : SValidTemplate t with
      | false =>
        have HS := Lib.hid (readTm_5 hbig (by rw [← ht]; exact hv))
        clear ht
        go_wp2_with fail
        refine (implValidTemplate_ok t _ _ hT.rd).mono ?_
        rintro e w3 ⟨rfl, hE3⟩
        rw [hv]
        replace a0 := hE3.cell a0
        replace a1 := hE3.cell a1
        replace f2 : _ = false := (hE3.frozen (lt_of_cell d0)).trans f2
        replace f3 : _ = false := (hE3.frozen (lt_of_cell d1)).trans f3
        replace d0 := hE3.cell d0
        replace d1 := hE3.cell d1
        replace hT := hT.ext hE3
        replace hE9 := hE9.tr hE3
        go_wp2_with fail
        rw [HS.out]
        exact bodyPost_ret (v := .tuple #[.agg #[.int .i64 0, .slice none 0 0], .int .i64 5]) (by simp [results, Tryz.results7, go_sem, d0, d1]) rfl (TmRes.no ((hE9.setCell (by simp <;> omega) _).setCell (by simp <;> omega) _))
      | true =>
        by_cases he : tmB t = s
        · have hmk := tm_mk hv
          have HS := Lib.hid (readTm_yes (s := s) (t := t) ⟨hv, he⟩)
          have hbb : ((tmB t).toList == s.toList) = true := by rw [he]; simp
          clear ht he
          go_wp2_with fail
          refine (implValidTemplate_ok t _ _ hT.rd).mono ?_
          rintro e w3 ⟨rfl, hE3⟩
          rw [hv]
          replace a0 := hE3.cell a0
          replace a1 := hE3.cell a1
          replace f2 : _ = false := (hE3.frozen (lt_of_cell d0)).trans f2
          replace f3 : _ = false := (hE3.frozen (lt_of_cell d1)).trans f3
          replace d0 := hE3.cell d0
          replace d1 := hE3.cell d1
          replace hT := hT.ext hE3
          replace hE9 := hE9.tr hE3
          go_wp2_with fail
          refine (templateText_any t _ _ hT.rd hv).mono ?_
          rintro e w4 ⟨rfl, hE4⟩
          replace a0 := hE4.cell a0
          replace a1 := hE4.cell a1
          replace f2 : _ = false := (hE4.frozen (lt_of_cell d0)).trans f2
          replace f3 : _ = false := (hE4.frozen (lt_of_cell d1)).trans f3
          replace d0 := hE4.cell d0
          replace d1 := hE4.cell d1
          replace hT := hT.ext hE4
          replace hE9 := hE9.tr hE4
          go_wp2_with fail
          rw [HS.out]
          exact bodyPost_ret (v := .tuple #[.agg #[.int .i64 n, .slice ka ws.length kc], .int .i64 0]) (by simp [results, Tryz.results7, go_sem, d0, d1]) rfl
            ⟨_, fp, rfl, (hE9.setCell (by simp <;> omega) _).setCell (by simp <;> omega) _, hT.off ((Off.set (fp := [w.heap.size]) (by simp)).trans (Off.set (by simp))) (fun h hh hm => by have := hfp3 h hh; simp at hm; omega), fun g hg => by have := hfp3 g hg; omega, hmk⟩
        · have HS := Lib.hid (readTm_5b hbig (by rw [← ht]; exact he))
          have hbb : ((tmB t).toList == s.toList) = false := text_ne he
          clear ht he
          go_wp2_with fail
          refine (implValidTemplate_ok t _ _ hT.rd).mono ?_
          rintro e w3 ⟨rfl, hE3⟩
          rw [hv]
          replace a0 := hE3.cell a0
          replace a1 := hE3.cell a1
          replace f2 : _ = false := (hE3.frozen (lt_of_cell d0)).trans f2
          replace f3 : _ = false := (hE3.frozen (lt_of_cell d1)).trans f3
          replace d0 := hE3.cell d0
          replace d1 := hE3.cell d1
          replace hT := hT.ext hE3
          replace hE9 := hE9.tr hE3
          go_wp2_with fail
          refine (templateText_any t _ _ hT.rd hv).mono ?_
          rintro e w4 ⟨rfl, hE4⟩
          replace a0 := hE4.cell a0
          replace a1 := hE4.cell a1
          replace f2 : _ = false := (hE4.frozen (lt_of_cell d0)).trans f2
          replace f3 : _ = false := (hE4.frozen (lt_of_cell d1)).trans f3
          replace d0 := hE4.cell d0
          replace d1 := hE4.cell d1
          replace hT := hT.ext hE4
          replace hE9 := hE9.tr hE4
          go_wp2_with fail
          rw [HS.out]
          exact bodyPost_ret (v := .tuple #[.agg #[.int .i64 0, .slice none 0 0], .int .i64 5]) (by simp [results, Tryz.results7, go_sem, d0, d1]) rfl (TmRes.no ((hE9.setCell (by simp <;> omega) _).setCell (by simp <;> omega) _))
  · have hcz : (cap = 1) = False := eq_false hc1
    go_wp2_with fail
    go_loopw [30] (fun i wr => ∃ (k : Nat) (tv : Value) (fp : List Nat), k ≤ ws.length ∧ i = .int .i64 (k : Nat) ∧ AccR wo wr wo.heap.size (wo.heap.size + 1) (rnV (cutB l0)) ((ws.take k).map SrdR) tv fp) (fun i _ => ws.length - (intOf i).toNat)
    case atStart =>
      refine ⟨0, .slice none 0 0, [], by omega, rfl, ⟨(Ext.refl' wo).alloc (Nat.le_refl _) _, OwnL.nil _, by simp, by simp, by omega, Nat.le_refl _, ?_, ?_, ?_⟩⟩ <;> simp [go_sem]
    case round =>
      obtain ⟨k, tv, fp, hk, rfl, hA⟩ := hrel
      have hfp1 := hA.ho.lt
      have hEo := hA.hE
      obtain ⟨ka, kc, rfl⟩ := hA.ho.form
      by_cases hkl : k < ws.length
      · have q0 := hEo.cell (HC2.out k hkl)
        have a0 := hA.c0
        have a1 := hA.c1
        have hqB := hA.hB
        have hxs := hsz ws[k] (List.getElem_mem hkl)
        have HS := Lib.hid (show (ws.take (k + 1)).map SrdR = (ws.take k).map SrdR ++ [SrdR ws[k]] by rw [List.take_succ_eq_append_getElem hkl, List.map_append]; rfl)
        have hsl : ((ws.take k).map SrdR).length ≤ 1048576 := by rw [List.length_map, List.length_take]; omega
        have hLr := hL1.ext hEo
        generalize (ws.take k).map SrdR = L at *
        generalize ws[k] = x at *
        go_wp2_with fail
        go_wp2_with fail
        refine region_sp [] [5, 6, 7] [SP.val (.pointer (some ⟨wo.heap.size, 1, none⟩)), SP.val (.slice ka L.length kc), SP.val (.string x), SP.relF wr.heap.size (SrdR x), SP.rowRelF wr.heap.size (SrdR x), SP.any, SP.any, SP.any] (by kernel_rfl) (fun _ d _ _ _ h => by cases d <;> exact h) (by kernel_rfl) (by kernel_rfl)
          (.cons (fun vs y hY => Step.fieldAddr ⟨wo.heap.size, 0, none⟩ rfl rfl rfl (by simp [go_sem]) rfl) <|
           .cons (fun vs y hY g0_0 => Step.load ⟨wo.heap.size, 1, none⟩ rfl rfl g0_0 (by simp [go_sem, hY.cell a1]) rfl) <|
           .cons (fun vs y hY => Step.move rfl rfl rfl rfl) <|
           .cons (fun vs y hY g2_0 => Step.call Tryz.call47 rfl rfl [vs 2] rfl rfl (by rw [show vs 2 = _ from g2_0]; exact ((readRel_any x _ (hLr.ext hY) (by omega)).mono fun _ _ ⟨u, fp, he, hE, ho, hg⟩ => ⟨u, he, hE, fp, ho, fun g h => Nat.le_trans hY.size (hg g h)⟩))) <|
           .cons (fun vs y hY g3_0 => Step.rowRelF (e := 35) rfl rfl g3_0 (by intros; simp [go_sem])) <|
           .skip rfl <|
           .skip rfl <|
           .skip rfl <|
           .nil) ?_
        intro vs w6 hC hL
        have r0 : vs 0 = _ := hL 0 (by decide) rfl
        have r1 : vs 1 = _ := hL 1 (by decide) rfl
        have r2 : vs 2 = _ := hL 2 (by decide) rfl
        have r3 := hL 3 (by decide) rfl
        have r4 := hL 4 (by decide) rfl
        clear hL
        simp only [putAll, Act.put, List.contains_cons, List.contains_nil, Nat.reduceBEq, Nat.reduceAdd, Bool.or_false, Bool.or_true, cond_true, cond_false, List.setIfInBounds_toArray, List.set_cons_succ, List.set_cons_zero, List.filterMap_cons, List.filterMap_nil, List.getElem?_cons_succ, List.getElem?_cons_zero, r0, r1, r2]
        clear r0 r1 r2
        obtain ⟨b', u, fx, r4, y0, y1, hx, hfx⟩ := r4
        refine AccR.append (hA.ext hC) hx (fun g hg => by have := hfx g hg; omega) (fun g hg hm => by have := hfx g hg; have := hfp1 g hm; omega) hsl (b' := b') (u := u) y0 y1 rfl (.tmp 35) (.tmp 38) rfl rfl r4 ?_
        rintro v' w7 fp' k7 k8 hA4 ⟨xa, xc, rfl⟩
        rw [← HS.out] at hA4
        clear hA q0 a0 a1
        go_wp2_with fail
        go_roundw
        case rel => exact ⟨k + 1, _, fp', by omega, by go_num, hA4⟩
        case measure => simp [intOf]; omega
      · skip
        have HT := Lib.hid (show (ws.take k).map SrdR = ws.map SrdR by rw [List.take_of_length_le (by omega)])
        rw [HT.out] at hA
        have hA2 := hA
        replace f2 : _ = false := (hEo.frozen (lt_of_cell d0)).trans f2
        replace f3 : _ = false := (hEo.frozen (lt_of_cell d1)).trans f3
        replace d0 := hEo.cell d0
        replace d1 := hEo.cell d1
        have hE9 := hE.tr hEo
        have a0 := hA2.c0
        have a1 := hA2.c1
        have hfp3 := hA2.hfp
        have hT : OwnTm wr (.agg #[.int .i64 (rnV (cutB l0)), .slice ka (ws.map SrdR).length kc]) (SrdT s) fp := by rw [HR.out]; exact ⟨_, rfl, hA2.ho⟩
        rw [List.length_map] at a1 hT
        clear hA hA2 HT HC2 hfp1
        obtain ⟨n, hn⟩ : ∃ n, n = rnV (cutB l0) := ⟨_, rfl⟩
        obtain ⟨t, ht⟩ : ∃ t, t = SrdT s := ⟨_, rfl⟩
        rw [← hn] at a0 hT hnb
        rw [← ht] at hT
        have HT2 := Lib.hid ht.symm
        rw [← hn]
        clear hn HR
        cases hv : SValidTemplate t with
        | false =>
          have HS := Lib.hid (readTm_5 hbig (by rw [← ht]; exact hv))
          clear ht
          go_wp2_with fail
          refine (implValidTemplate_ok t _ _ hT.rd).mono ?_
          rintro e w3 ⟨rfl, hE3⟩
          rw [hv]
          replace a0 := hE3.cell a0
          replace a1 := hE3.cell a1
          replace f2 : _ = false := (hE3.frozen (lt_of_cell d0)).trans f2
          replace f3 : _ = false := (hE3.frozen (lt_of_cell d1)).trans f3
          replace d0 := hE3.cell d0
          replace d1 := hE3.cell d1
          replace hT := hT.ext hE3
          replace hE9 := hE9.tr hE3
          go_wp2_with fail
          rw [HS.out]
          exact bodyPost_ret (v := .tuple #[.agg #[.int .i64 0, .slice none 0 0], .int .i64 5]) (by simp [results, Tryz.results7, go_sem, d0, d1]) rfl (TmRes.no ((hE9.setCell (by simp <;> omega) _).setCell (by simp <;> omega) _))
        | true =>
          by_cases he : tmB t = s
          · have hmk := tm_mk hv
            have HS := Lib.hid (readTm_yes (s := s) (t := t) ⟨hv, he⟩)
            have hbb : ((tmB t).toList == s.toList) = true := by rw [he]; simp
            clear ht he
            go_wp2_with fail
            refine (implValidTemplate_ok t _ _ hT.rd).mono ?_
            rintro e w3 ⟨rfl, hE3⟩
            rw [hv]
            replace a0 := hE3.cell a0
            replace a1 := hE3.cell a1
            replace f2 : _ = false := (hE3.frozen (lt_of_cell d0)).trans f2
            replace f3 : _ = false := (hE3.frozen (lt_of_cell d1)).trans f3
            replace d0 := hE3.cell d0
            replace d1 := hE3.cell d1
            replace hT := hT.ext hE3
            replace hE9 := hE9.tr hE3
            go_wp2_with fail
            refine (templateText_any t _ _ hT.rd hv).mono ?_
            rintro e w4 ⟨rfl, hE4⟩
            replace a0 := hE4.cell a0
            replace a1 := hE4.cell a1
            replace f2 : _ = false := (hE4.frozen (lt_of_cell d0)).trans f2
            replace f3 : _ = false := (hE4.frozen (lt_of_cell d1)).trans f3
            replace d0 := hE4.cell d0
            replace d1 := hE4.cell d1
            replace hT := hT.ext hE4
            replace hE9 := hE9.tr hE4
            go_wp2_with fail
            rw [HS.out]
            exact bodyPost_ret (v := .tuple #[.agg #[.int .i64 n, .slice ka ws.length kc], .int .i64 0]) (by simp [results, Tryz.results7, go_sem, d0, d1]) rfl
              ⟨_, fp, rfl, (hE9.setCell (by simp <;> omega) _).setCell (by simp <;> omega) _, hT.off ((Off.set (fp := [w.heap.size]) (by simp)).trans (Off.set (by simp))) (fun h hh hm => by have := hfp3 h hh; simp at hm; omega), fun g hg => by have := hfp3 g hg; omega, hmk⟩
          · have HS := Lib.hid (readTm_5b hbig (by rw [← ht]; exact he))
            have hbb : ((tmB t).toList == s.toList) = false := text_ne he
            clear ht he
            go_wp2_with fail
            refine (implValidTemplate_ok t _ _ hT.rd).mono ?_
            rintro e w3 ⟨rfl, hE3⟩
            rw [hv]
            replace a0 := hE3.cell a0
            replace a1 := hE3.cell a1
            replace f2 : _ = false := (hE3.frozen (lt_of_cell d0)).trans f2
            replace f3 : _ = false := (hE3.frozen (lt_of_cell d1)).trans f3
            replace d0 := hE3.cell d0
            replace d1 := hE3.cell d1
            replace hT := hT.ext hE3
            replace hE9 := hE9.tr hE3
            go_wp2_with fail
            refine (templateText_any t _ _ hT.rd hv).mono ?_
            rintro e w4 ⟨rfl, hE4⟩
            replace a0 := hE4.cell a0
            replace a1 := hE4.cell a1
            replace f2 : _ = false := (hE4.frozen (lt_of_cell d0)).trans f2
            replace f3 : _ = false := (hE4.frozen (lt_of_cell d1)).trans f3
            replace d0 := hE4.cell d0
            replace d1 := hE4.cell d1
            replace hT := hT.ext hE4
            replace hE9 := hE9.tr hE4
            go_wp2_with fail
            rw [HS.out]
            exact bodyPost_ret (v := .tuple #[.agg #[.int .i64 0, .slice none 0 0], .int .i64 5]) (by simp [results, Tryz.results7, go_sem, d0, d1]) rfl (TmRes.no ((hE9.setCell (by simp <;> omega) _).setCell (by simp <;> omega) _))
end Go.Proofs.YtajkepdfemdagaaGreatDoor
