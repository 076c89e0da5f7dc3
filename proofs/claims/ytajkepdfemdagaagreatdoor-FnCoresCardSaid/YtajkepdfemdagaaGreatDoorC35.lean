/- ReadRel: the program reads a relation. ReadTemplate: the program reads a template. -/
import Derived.Test.YtajkepdfemdagaaGreatDoorC33
import Derived.Test.YtajkepdfemdagaaGreatDoorC07
import Derived.Test.YtajkepdfemdagaaGreatDoorC08
import Derived.Test.YtajkepdfemdagaaGreatDoorC34
import Derived.Test.YtajkepdfemdagaaGreatDoorC28
namespace Go.Proofs.YtajkepdfemdagaaGreatDoor
open Go.RowKit
set_option linter.unusedVariables false

theorem cells_all {w : World} {v : Value} {xs : List ByteArray} (h : RdS w v xs) : ∃ b off cap, v = .slice (some ⟨b, off, none⟩) xs.length cap ∧ xs.length ≤ cap ∧ ∀ j (h : j < xs.length), w.cell? ⟨b, off + j, none⟩ = some (.string xs[j]) := by
  obtain ⟨b, off, cap, h1, h2, _, h4⟩ := h
  exact ⟨b, off, cap, h1, h2, h4⟩
theorem OII_none (w : World) : OII w (.slice none 0 0) [] [] := OwnL.nil _
/-- what a function leaves that answers a relation -/
def RelFresh (r : Int × List (List Int)) (w : World) (e : Ending) (w' : World) : Prop := ∃ u fp, e = .returned u ∧ Ext w w' ∧ OwnRel w' u r fp ∧ ∀ g ∈ fp, w.heap.size ≤ g
theorem RelFresh.no {w w' : World} (hE : Ext w w') : RelFresh noRel w (.returned (.agg #[.int .i64 0, .slice none 0 0])) w' := ⟨_, [], rfl, hE, noRel_own _, by simp⟩
theorem rdR_yes {s w1 : ByteArray} {ws : List ByteArray} (h : words 32 s = ⟨#[114, 101, 108]⟩ :: w1 :: ws) : SrdR s = (rnV w1, ws.map rdg) := by unfold SrdR; rw [h]; simp
theorem rdR_short {s w0 : ByteArray} (h : words 32 s = [w0]) : SrdR s = noRel := by unfold SrdR; rw [h]
theorem rdR_other {s w0 : ByteArray} {ws : List ByteArray} (h : words 32 s = w0 :: ws) (h0 : ¬ w0 = ⟨#[114, 101, 108]⟩) : SrdR s = noRel := by
  unfold SrdR
  rw [h]
  cases ws with
  | nil => rfl
  | cons x xs => simp only [h0, if_false]
set_option maxHeartbeats 4000000 in
set_option maxRecDepth 100000 in
theorem readRel_any (s : ByteArray) (w : World) (hL : LaidW w) (hs : s.size ≤ 1048576) : Calls Tryz.prog 47 #[.string s] w (RelFresh (SrdR s) w) := by
  have hE1 : Ext w (w.alloc (.cells #[.int .i64 0, .slice none 0 0] 35)) := (Ext.refl' w).alloc (Nat.le_refl _) _
  obtain ⟨m, hm⟩ := (hL.ext hE1).max
  have hL1 := hL.ext hE1
  have hwl := words_length 32 s
  obtain ⟨w0, wt, hws⟩ : ∃ x t, words 32 s = x :: t := by
    have := words_ne 32 s
    generalize words 32 s = ws at *
    match ws, this with
    | x :: t, _ => exact ⟨x, t, rfl⟩
  by_cases hw0 : w0 = ⟨#[114, 101, 108]⟩
  · subst hw0
    cases wt with
    | nil =>
      rw [rdR_short hws]
      have HW := Lib.hid hws
      clear hws hwl
      go_enter Tryz.func47, Tryz.ntmps47
      go_wp2_with fail
      refine (split_any 32 s m _ hm hs).mono ?_
      rintro e w1 ⟨v, rfl, hE, hv⟩
      have d0 := hE.cell (p := ⟨w.heap.size, 0, none⟩) (v := .int .i64 0) (by simp [go_sem])
      have d1 := hE.cell (p := ⟨w.heap.size, 1, none⟩) (v := .slice none 0 0) (by simp [go_sem])
      have f2 := hE.frozen (p := ⟨w.heap.size, 0, none⟩) (by simp)
      have f3 := hE.frozen (p := ⟨w.heap.size, 1, none⟩) (by simp)
      simp [go_sem] at f2 f3
      replace hL1 := hL1.ext hE
      replace hE := hE1.tr hE
      rw [HW.out] at hv
      obtain ⟨b, off, cap, rfl, hcap, hcells⟩ := cells_all hv
      have q0 := hcells 0 (by simp)
      simp only [List.getElem_cons_zero, Nat.add_zero] at q0
      clear hv
      clear hcells
      simp only [List.length_cons, List.length_nil, Nat.zero_add] at hcap ⊢
      go_wp2_with fail
      exact bodyPost_ret (v := .agg #[.int .i64 0, .slice none 0 0]) (by simp [results, Tryz.results47, go_sem, d0, d1]) rfl (RelFresh.no ((hE.setCell (by simp <;> omega) _).setCell (by simp <;> omega) _))
    | cons wa ws =>
      have HR := Lib.hid (rdR_yes hws)
      have HW := Lib.hid hws
      have hsa : wa.size ≤ s.size := words_size (c := 32) (by rw [hws]; simp)
      have hsz : ∀ x ∈ ws, x.size ≤ s.size := fun x hx => words_size (c := 32) (by rw [hws]; simp [hx])
      have hnb := (rnV_num wa).1
      have hwl2 : ws.length ≤ 1048576 := by rw [hws] at hwl; simp only [List.length_cons] at hwl; omega
      clear hws hwl
      go_enter Tryz.func47, Tryz.ntmps47
      go_wp2_with fail
      refine (split_any 32 s m _ hm hs).mono ?_
      rintro e w1 ⟨v, rfl, hE, hv⟩
      have d0 := hE.cell (p := ⟨w.heap.size, 0, none⟩) (v := .int .i64 0) (by simp [go_sem])
      have d1 := hE.cell (p := ⟨w.heap.size, 1, none⟩) (v := .slice none 0 0) (by simp [go_sem])
      have f2 := hE.frozen (p := ⟨w.heap.size, 0, none⟩) (by simp)
      have f3 := hE.frozen (p := ⟨w.heap.size, 1, none⟩) (by simp)
      simp [go_sem] at f2 f3
      replace hL1 := hL1.ext hE
      replace hE := hE1.tr hE
      rw [HW.out] at hv
      obtain ⟨b, off, cap, rfl, hcap, hcells⟩ := cells_all hv
      have q0 := hcells 0 (by simp)
      simp only [List.getElem_cons_zero, Nat.add_zero] at q0
      clear hv
      have q1 := hcells 1 (by simp)
      have HC := Lib.hid (show ∀ j (h : j < ws.length), w1.cell? ⟨b, off + 2 + j, none⟩ = some (.string ws[j]) from fun j hj => by
        have := hcells (j + 2) (by simp; omega)
        simp only [List.getElem_cons_succ] at this
        rw [show off + 2 + j = off + (j + 2) by omega]
        exact this)
      simp only [List.getElem_cons_zero, List.getElem_cons_succ] at q1
      have hlen : (⟨#[114, 101, 108]⟩ :: wa :: ws : List ByteArray).length = ws.length + 1 + 1 := by simp
      rw [hlen] at hcap ⊢
      clear hcells hlen
      go_wp2_with fail
      refine (readNumber_any wa _ hL1 (by omega)).mono ?_
      rintro e w2 ⟨rfl, hE2⟩
      replace f2 : _ = false := (hE2.frozen (lt_of_cell d0)).trans f2
      replace f3 : _ = false := (hE2.frozen (lt_of_cell d1)).trans f3
      replace d0 := hE2.cell d0
      replace d1 := hE2.cell d1
      have HC2 := Lib.hid (show ∀ j (h : j < ws.length), w2.cell? ⟨b, off + 2 + j, none⟩ = some (.string ws[j]) from fun j hj => hE2.cell (HC.out j hj))
      replace q0 := hE2.cell q0
      replace hE := hE.tr hE2
      have hb2 := lt_of_cell q0
      have hdl := lt_of_cell d0
      dsimp only at hb2 hdl
      have hA1 : Ext w2 (w2.alloc (.cells #[.int .i64 (rnV wa), .slice none 0 0] 35)) := (Ext.refl' w2).alloc (Nat.le_refl _) _
      have hAcc : Acc w (w2.alloc (.cells #[.int .i64 (rnV wa), .slice none 0 0] 35)) w.heap.size w2.heap.size (w2.heap.size + 1) (rnV wa) ((ws.take 0).map rdg) (.slice none 0 0) [] := ⟨hE.tr hA1, OII_none _, by simp, by simp, by omega, hdl, by omega, by simp [go_sem], by simp [go_sem], by simp [go_sem], hA1.cell d0, hA1.cell d1, (hA1.frozen (lt_of_cell d0)).trans f2, (hA1.frozen (lt_of_cell d1)).trans f3⟩
      have HC3 := Lib.hid (show ∀ j (h : j < ws.length), (w2.alloc (.cells #[.int .i64 (rnV wa), .slice none 0 0] 35)).cell? ⟨b, off + 2 + j, none⟩ = some (.string ws[j]) from fun j hj => hA1.cell (HC2.out j hj))
      clear hA1 d0 d1 f2 f3 hE q0 q1 HC HC2 hE2 hL1
      by_cases hc2 : cap = 2
      · have hcz : (cap = 2) = True := eq_true hc2
        go_wp2_with fail
        go_loopw [27] (fun i wr => ∃ (k : Nat) (tv : Value) (fp : List Nat), k ≤ ws.length ∧ i = .int .i64 (k : Nat) ∧ Acc w wr w.heap.size w2.heap.size (w2.heap.size + 1) (rnV wa) ((ws.take k).map rdg) tv fp ∧ Hid (∀ j (h : j < ws.length), wr.cell? ⟨b, off + 2 + j, none⟩ = some (.string ws[j]))) (fun i _ => ws.length - (intOf i).toNat)
        case atStart => exact ⟨0, _, _, by omega, rfl, hAcc, HC3⟩
        case round =>
          obtain ⟨k, tv, fp, hk, rfl, hA, HCr⟩ := hrel
          clear hAcc HC3
          have hfp1 := hA.ho.lt
          obtain ⟨ka, kc, rfl⟩ := hA.ho.form
          have hkl : ¬ k < ws.length := by omega
          have HT := Lib.hid (show (ws.take k).map rdg = ws.map rdg by rw [List.take_of_length_le (by omega)])
          rw [HT.out] at hA
          have a0 := hA.c0
          have a1 := hA.c1
          have d0 := hA.d0
          have d1 := hA.d1
          have f2 := hA.f2
          have f3 := hA.f3
          obtain ⟨g1, g2, g3⟩ := hA.done (.int .i64 (rnV wa)) (.slice ka ((ws.take k).map rdg).length kc)
          rw [← HR.out] at g2
          rw [HT.out, List.length_map] at g1 g2
          rw [List.length_map] at a1
          clear hA
          clear hfp1
          go_wp2_with fail
          exact bodyPost_ret (v := .agg #[.int .i64 (rnV wa), .slice ka ws.length kc]) (by simp [results, Tryz.results47, go_sem, d0, d1]) rfl ⟨_, fp, rfl, g1, g2, g3⟩
      · have hcz : (cap = 2) = False := eq_false hc2
        go_wp2_with fail
        go_loopw [27] (fun i wr => ∃ (k : Nat) (tv : Value) (fp : List Nat), k ≤ ws.length ∧ i = .int .i64 (k : Nat) ∧ Acc w wr w.heap.size w2.heap.size (w2.heap.size + 1) (rnV wa) ((ws.take k).map rdg) tv fp ∧ Hid (∀ j (h : j < ws.length), wr.cell? ⟨b, off + 2 + j, none⟩ = some (.string ws[j]))) (fun i _ => ws.length - (intOf i).toNat)
        case atStart => exact ⟨0, _, _, by omega, rfl, hAcc, HC3⟩
        case round =>
          obtain ⟨k, tv, fp, hk, rfl, hA, HCr⟩ := hrel
          clear hAcc HC3
          have hfp1 := hA.ho.lt
          obtain ⟨ka, kc, rfl⟩ := hA.ho.form
          by_cases hkl : k < ws.length
          · have q0 := HCr.out k hkl
            have a0 := hA.c0
            have a1 := hA.c1
            have hqB := hA.hB
            have hE := hA.hE
            have hxs := hsz ws[k] (List.getElem_mem hkl)
            have HS := Lib.hid (show (ws.take (k + 1)).map rdg = (ws.take k).map rdg ++ [rdg ws[k]] by rw [List.take_succ_eq_append_getElem hkl, List.map_append]; rfl)
            have hsl : ((ws.take k).map rdg).length ≤ 1048576 := by rw [List.length_map, List.length_take]; omega
            generalize (ws.take k).map rdg = L at *
            generalize ws[k] = x at *
            go_wp2_with fail
            go_wp2_with fail
            refine region_sp [] [5, 6, 7] [SP.val (.pointer (some ⟨w2.heap.size, 1, none⟩)), SP.val (.slice ka L.length kc), SP.val (.string x), SP.ownIb wr.heap.size (rdg x), SP.rowIb wr.heap.size (rdg x), SP.any, SP.any, SP.any] (by kernel_rfl) (fun _ d _ _ _ h => by cases d <;> exact h) (by kernel_rfl) (by kernel_rfl)
              (.cons (fun vs y hY => Step.fieldAddr ⟨w2.heap.size, 0, none⟩ rfl rfl rfl (by simp [go_sem]) rfl) <|
               .cons (fun vs y hY g0_0 => Step.load ⟨w2.heap.size, 1, none⟩ rfl rfl g0_0 (by simp [go_sem, hY.cell a1]) rfl) <|
               .cons (fun vs y hY => Step.move rfl rfl rfl rfl) <|
               .cons (fun vs y hY g2_0 => Step.call Tryz.call98 rfl rfl [vs 2] rfl rfl (by rw [show vs 2 = _ from g2_0]; exact ((readDigits_any x _ (by omega)).mono fun _ _ ⟨u, fp, he, hE, ho, hg⟩ => ⟨u, he, hE, fp, ho, fun g h => Nat.le_trans hY.size (hg g h)⟩))) <|
               .cons (fun vs y hY g3_0 => Step.rowIb (e := 37) rfl rfl g3_0 (by simp [go_sem])) <|
               .skip rfl <|
               .skip rfl <|
               .skip rfl <|
               .nil) ?_
            intro vs w6 hC hL
            have r0 : vs 0 = _ := hL 0 (by decide) rfl
            have r1 : vs 1 = _ := hL 1 (by decide) rfl
            have r2 : vs 2 = _ := hL 2 (by decide) rfl
            have r3 := hL 3 (by decide) rfl
            have r4 := hL 4 (by decide) rfl
            clear hL
            simp only [putAll, Act.put, List.contains_cons, List.contains_nil, Nat.reduceBEq, Nat.reduceAdd, Bool.or_false, Bool.or_true, cond_true, cond_false, List.setIfInBounds_toArray, List.set_cons_succ, List.set_cons_zero, List.filterMap_cons, List.filterMap_nil, List.getElem?_cons_succ, List.getElem?_cons_zero, r0, r1, r2]
            clear r0 r1 r2
            obtain ⟨b', u, fx, r4, y0, hx, hfx⟩ := r4
            refine (hA.ext hC).append hx (fun g hg => by have := hfx g hg; omega) (fun g hg hm => by have := hfx g hg; have := hfp1 g hm; omega) hsl y0 rfl (.tmp 32) (.tmp 35) rfl rfl r4 ?_
            intro v' w7 fp' k7 k8 hA4 hK ⟨xa, xc, hxe⟩
            subst hxe
            rw [← HS.out] at hA4
            have HC4 := Lib.hid (show ∀ j (h : j < ws.length), (w7.setCell ⟨w2.heap.size, 1, none⟩ (.slice xa (L.length + 1) xc)).cell? ⟨b, off + 2 + j, none⟩ = some (.string ws[j]) from fun j hj => hK.cell (hC.cell (HCr.out j hj)) (by dsimp only; omega) (by dsimp only; omega))
            clear hA HCr hK q0 a0 a1
            go_wp2_with fail
            go_roundw
            case rel => exact ⟨k + 1, _, fp', by omega, by go_num, hA4, HC4⟩
            case measure => simp [intOf]; omega
          · skip
            have HT := Lib.hid (show (ws.take k).map rdg = ws.map rdg by rw [List.take_of_length_le (by omega)])
            rw [HT.out] at hA
            have a0 := hA.c0
            have a1 := hA.c1
            have d0 := hA.d0
            have d1 := hA.d1
            have f2 := hA.f2
            have f3 := hA.f3
            obtain ⟨g1, g2, g3⟩ := hA.done (.int .i64 (rnV wa)) (.slice ka ((ws.take k).map rdg).length kc)
            rw [← HR.out] at g2
            rw [HT.out, List.length_map] at g1 g2
            rw [List.length_map] at a1
            clear hA
            clear hfp1
            go_wp2_with fail
            exact bodyPost_ret (v := .agg #[.int .i64 (rnV wa), .slice ka ws.length kc]) (by simp [results, Tryz.results47, go_sem, d0, d1]) rfl ⟨_, fp, rfl, g1, g2, g3⟩
  · rw [rdR_other hws hw0]
    have HW := Lib.hid hws
    have hbb2 : (w0.toList == ([114, 101, 108] : List UInt8)) = false := by have := text_ne hw0; rw [toList_eq ⟨#[114, 101, 108]⟩] at this; exact this
    clear hws hw0 hwl
    go_enter Tryz.func47, Tryz.ntmps47
    go_wp2_with fail
    refine (split_any 32 s m _ hm hs).mono ?_
    rintro e w1 ⟨v, rfl, hE, hv⟩
    have d0 := hE.cell (p := ⟨w.heap.size, 0, none⟩) (v := .int .i64 0) (by simp [go_sem])
    have d1 := hE.cell (p := ⟨w.heap.size, 1, none⟩) (v := .slice none 0 0) (by simp [go_sem])
    have f2 := hE.frozen (p := ⟨w.heap.size, 0, none⟩) (by simp)
    have f3 := hE.frozen (p := ⟨w.heap.size, 1, none⟩) (by simp)
    simp [go_sem] at f2 f3
    replace hL1 := hL1.ext hE
    replace hE := hE1.tr hE
    rw [HW.out] at hv
    obtain ⟨b, off, cap, rfl, hcap, hcells⟩ := cells_all hv
    have q0 := hcells 0 (by simp)
    simp only [List.getElem_cons_zero, Nat.add_zero] at q0
    clear hv
    clear hcells
    have hlen : (w0 :: wt).length = wt.length + 1 := by simp
    rw [hlen] at hcap ⊢
    clear hlen
    go_wp2_with fail
    exact bodyPost_ret (v := .agg #[.int .i64 0, .slice none 0 0]) (by simp [results, Tryz.results47, go_sem, d0, d1]) rfl (RelFresh.no ((hE.setCell (by simp <;> omega) _).setCell (by simp <;> omega) _))
set_option maxHeartbeats 4000000 in
set_option maxRecDepth 100000 in
theorem implReadRel_any (s : ByteArray) (w : World) (hL : LaidW w) (hs : s.size ≤ 1048576) : Calls Tryz.prog 24 #[.string s] w (RelRes (SReadRel s) w) := by
  have hE1 : Ext w (w.alloc (.cells #[.int .i64 0, .slice none 0 0] 35)) := (Ext.refl' w).alloc (Nat.le_refl _) _
  by_cases hbig : 20000 < s.size
  · rw [readRel_big hbig]
    go_enter Tryz.func24, Tryz.ntmps24
    go_wp2_with fail
    exact bodyPost_ret (v := .tuple #[.agg #[.int .i64 0, .slice none 0 0], .int .i64 2]) (by simp [results, Tryz.results24, go_sem]) rfl (RelRes.no hE1)
  have hL1 := hL.ext hE1
  obtain ⟨r, hr⟩ : ∃ r, r = SrdR s := ⟨_, rfl⟩
  have HR := Lib.hid hr.symm
  cases hv : SValidRel 4 r with
  | false =>
    rw [readRel_5 hbig (by rw [← hr]; exact hv)]
    clear hr
    go_enter Tryz.func24, Tryz.ntmps24
    go_wp2_with fail
    refine (readRel_any s _ hL1 hs).mono ?_
    rintro e w1 ⟨u, fp, rfl, hE, ho, hfp⟩
    rw [HR.out] at ho
    have d0 := hE.cell (p := ⟨w.heap.size, 0, none⟩) (v := .int .i64 0) (by simp [go_sem])
    have d1 := hE.cell (p := ⟨w.heap.size, 1, none⟩) (v := .slice none 0 0) (by simp [go_sem])
    have f2 := hE.frozen (p := ⟨w.heap.size, 0, none⟩) (by simp)
    have f3 := hE.frozen (p := ⟨w.heap.size, 1, none⟩) (by simp)
    simp [go_sem] at f2 f3
    replace hE := hE1.tr hE
    have hfp1 : ∀ g ∈ fp, w.heap.size < g := fun g hg => by have := hfp g hg; simp at this; omega
    obtain ⟨ua, uc, rfl⟩ := ho.form
    have hbw := lt_of_cell d0
    dsimp only at hbw
    have hA2 : Ext w1 (w1.alloc (.cells #[.int .i64 r.1, .slice ua r.2.length uc] 35)) := (Ext.refl' w1).alloc (Nat.le_refl _) _
    go_wp2_with fail
    refine (implValidRel_ok 4 r _ _ (ho.ext hA2).rd).mono ?_
    rintro e w3 ⟨rfl, hE3⟩
    rw [hv]
    have z0 := hE3.cell (p := ⟨w1.heap.size, 0, none⟩) (v := .int .i64 r.1) (by simp [go_sem])
    have z1 := hE3.cell (p := ⟨w1.heap.size, 1, none⟩) (v := .slice ua r.2.length uc) (by simp [go_sem])
    replace hE3 := hA2.tr hE3
    replace f2 : _ = false := (hE3.frozen (lt_of_cell d0)).trans f2
    replace f3 : _ = false := (hE3.frozen (lt_of_cell d1)).trans f3
    replace d0 := hE3.cell d0
    replace d1 := hE3.cell d1
    have ho := ho.ext hE3
    replace hE := hE.tr hE3
    clear hA2 hE3 hfp
    go_wp2_with fail
    exact bodyPost_ret (v := .tuple #[.agg #[.int .i64 0, .slice none 0 0], .int .i64 5]) (by simp [results, Tryz.results24, go_sem, d0, d1]) rfl (RelRes.no ((hE.setCell (by simp <;> omega) _).setCell (by simp <;> omega) _))
  | true =>
    by_cases he : relB r = s
    · have hmk := (rel_mk hv).2
      rw [readRel_yes (s := s) (r := r) ⟨hv, he⟩]
      have hbb : ((relB r).toList == s.toList) = true := by rw [he]; simp
      clear hr he
      go_enter Tryz.func24, Tryz.ntmps24
      go_wp2_with fail
      refine (readRel_any s _ hL1 hs).mono ?_
      rintro e w1 ⟨u, fp, rfl, hE, ho, hfp⟩
      rw [HR.out] at ho
      have d0 := hE.cell (p := ⟨w.heap.size, 0, none⟩) (v := .int .i64 0) (by simp [go_sem])
      have d1 := hE.cell (p := ⟨w.heap.size, 1, none⟩) (v := .slice none 0 0) (by simp [go_sem])
      have f2 := hE.frozen (p := ⟨w.heap.size, 0, none⟩) (by simp)
      have f3 := hE.frozen (p := ⟨w.heap.size, 1, none⟩) (by simp)
      simp [go_sem] at f2 f3
      replace hE := hE1.tr hE
      have hfp1 : ∀ g ∈ fp, w.heap.size < g := fun g hg => by have := hfp g hg; simp at this; omega
      obtain ⟨ua, uc, rfl⟩ := ho.form
      have hbw := lt_of_cell d0
      dsimp only at hbw
      have hA2 : Ext w1 (w1.alloc (.cells #[.int .i64 r.1, .slice ua r.2.length uc] 35)) := (Ext.refl' w1).alloc (Nat.le_refl _) _
      go_wp2_with fail
      refine (implValidRel_ok 4 r _ _ (ho.ext hA2).rd).mono ?_
      rintro e w3 ⟨rfl, hE3⟩
      rw [hv]
      have z0 := hE3.cell (p := ⟨w1.heap.size, 0, none⟩) (v := .int .i64 r.1) (by simp [go_sem])
      have z1 := hE3.cell (p := ⟨w1.heap.size, 1, none⟩) (v := .slice ua r.2.length uc) (by simp [go_sem])
      replace hE3 := hA2.tr hE3
      replace f2 : _ = false := (hE3.frozen (lt_of_cell d0)).trans f2
      replace f3 : _ = false := (hE3.frozen (lt_of_cell d1)).trans f3
      replace d0 := hE3.cell d0
      replace d1 := hE3.cell d1
      have ho := ho.ext hE3
      replace hE := hE.tr hE3
      clear hA2 hE3 hfp
      go_wp2_with fail
      refine (relText_any r _ _ ho.rd hv).mono ?_
      rintro e w4 ⟨rfl, hE4⟩
      replace z0 := hE4.cell z0
      replace z1 := hE4.cell z1
      replace f2 : _ = false := (hE4.frozen (lt_of_cell d0)).trans f2
      replace f3 : _ = false := (hE4.frozen (lt_of_cell d1)).trans f3
      replace d0 := hE4.cell d0
      replace d1 := hE4.cell d1
      have ho := ho.ext hE4
      replace hE := hE.tr hE4
      have hlz := lt_of_cell z0
      dsimp only at hlz
      go_wp2_with fail
      exact bodyPost_ret (v := .tuple #[.agg #[.int .i64 r.1, .slice ua r.2.length uc], .int .i64 0]) (by simp [results, Tryz.results24, go_sem, d0, d1]) rfl
        ⟨_, fp, rfl, (hE.setCell (by simp <;> omega) _).setCell (by simp <;> omega) _, ho.off ((Off.set (fp := [w.heap.size]) (by simp)).trans (Off.set (by simp))) (fun h hh hm => by have := hfp1 h hh; simp at hm; omega), fun g hg => by have := hfp1 g hg; omega, hmk⟩
    · rw [readRel_5b hbig (by rw [← hr]; exact he)]
      have hbb : ((relB r).toList == s.toList) = false := text_ne he
      clear hr he
      go_enter Tryz.func24, Tryz.ntmps24
      go_wp2_with fail
      refine (readRel_any s _ hL1 hs).mono ?_
      rintro e w1 ⟨u, fp, rfl, hE, ho, hfp⟩
      rw [HR.out] at ho
      have d0 := hE.cell (p := ⟨w.heap.size, 0, none⟩) (v := .int .i64 0) (by simp [go_sem])
      have d1 := hE.cell (p := ⟨w.heap.size, 1, none⟩) (v := .slice none 0 0) (by simp [go_sem])
      have f2 := hE.frozen (p := ⟨w.heap.size, 0, none⟩) (by simp)
      have f3 := hE.frozen (p := ⟨w.heap.size, 1, none⟩) (by simp)
      simp [go_sem] at f2 f3
      replace hE := hE1.tr hE
      have hfp1 : ∀ g ∈ fp, w.heap.size < g := fun g hg => by have := hfp g hg; simp at this; omega
      obtain ⟨ua, uc, rfl⟩ := ho.form
      have hbw := lt_of_cell d0
      dsimp only at hbw
      have hA2 : Ext w1 (w1.alloc (.cells #[.int .i64 r.1, .slice ua r.2.length uc] 35)) := (Ext.refl' w1).alloc (Nat.le_refl _) _
      go_wp2_with fail
      refine (implValidRel_ok 4 r _ _ (ho.ext hA2).rd).mono ?_
      rintro e w3 ⟨rfl, hE3⟩
      rw [hv]
      have z0 := hE3.cell (p := ⟨w1.heap.size, 0, none⟩) (v := .int .i64 r.1) (by simp [go_sem])
      have z1 := hE3.cell (p := ⟨w1.heap.size, 1, none⟩) (v := .slice ua r.2.length uc) (by simp [go_sem])
      replace hE3 := hA2.tr hE3
      replace f2 : _ = false := (hE3.frozen (lt_of_cell d0)).trans f2
      replace f3 : _ = false := (hE3.frozen (lt_of_cell d1)).trans f3
      replace d0 := hE3.cell d0
      replace d1 := hE3.cell d1
      have ho := ho.ext hE3
      replace hE := hE.tr hE3
      clear hA2 hE3 hfp
      go_wp2_with fail
      refine (relText_any r _ _ ho.rd hv).mono ?_
      rintro e w4 ⟨rfl, hE4⟩
      replace z0 := hE4.cell z0
      replace z1 := hE4.cell z1
      replace f2 : _ = false := (hE4.frozen (lt_of_cell d0)).trans f2
      replace f3 : _ = false := (hE4.frozen (lt_of_cell d1)).trans f3
      replace d0 := hE4.cell d0
      replace d1 := hE4.cell d1
      replace hE := hE.tr hE4
      go_wp2_with fail
      exact bodyPost_ret (v := .tuple #[.agg #[.int .i64 0, .slice none 0 0], .int .i64 5]) (by simp [results, Tryz.results24, go_sem, d0, d1]) rfl (RelRes.no ((hE.setCell (by simp <;> omega) _).setCell (by simp <;> omega) _))
end Go.Proofs.YtajkepdfemdagaaGreatDoor
namespace Go.Proofs.YtajkepdfemdagaaGreatDoor
open Go.RowKit
set_option linter.unusedVariables false

set_option maxHeartbeats 1000000 in
theorem cutLite_any (s : ByteArray) (w : World) (hs : s.size ≤ 1048576) : Calls Tryz.prog 95 #[.string s, .string ⟨#[116, 101, 109, 112, 108, 97, 116, 101, 32]⟩] w fun e w' => ∃ b, e = .returned (.tuple #[.string (cutB s), .bool b]) ∧ w' = w := by
  cases hp : Lib.hasPrefix s.data.toList [116, 101, 109, 112, 108, 97, 116, 101, 32] with
  | false =>
    have HC := Lib.hid (show cutB s = s by unfold cutB; rw [hp]; rfl)
    go_enter Tryz.func95, Tryz.ntmps95
    go_wp2_with fail
    refine (Tryz.stringslite_HasPrefix s ⟨#[116, 101, 109, 112, 108, 97, 116, 101, 32]⟩ _).mono ?_
    rintro e w1 ⟨rfl, rfl⟩
    rw [show Lib.hasPrefix s.data.toList (⟨#[116, 101, 109, 112, 108, 97, 116, 101, 32]⟩ : ByteArray).data.toList = false from hp]
    go_wp2_with fail
    go_ret2
    exact ⟨false, by rw [HC.out]; rfl, rfl⟩
  | true =>
    have HC := Lib.hid (show cutB s = s.extract 9 s.size by unfold cutB; rw [hp]; rfl)
    have hlen : 9 ≤ s.size := by
      unfold Lib.hasPrefix at hp
      have := (List.isPrefixOf_iff_prefix.1 hp).length_le
      rw [Lib.size_eq]
      exact this
    go_enter Tryz.func95, Tryz.ntmps95
    go_wp2_with fail
    refine (Tryz.stringslite_HasPrefix s ⟨#[116, 101, 109, 112, 108, 97, 116, 101, 32]⟩ _).mono ?_
    rintro e w1 ⟨rfl, rfl⟩
    rw [show Lib.hasPrefix s.data.toList (⟨#[116, 101, 109, 112, 108, 97, 116, 101, 32]⟩ : ByteArray).data.toList = true from hp]
    go_wp2_with fail
    go_ret2
    exact ⟨true, by rw [HC.out]; rfl, rfl⟩
set_option maxHeartbeats 1000000 in
theorem cutPrefix_any (s : ByteArray) (w : World) (hs : s.size ≤ 1048576) : Calls Tryz.prog 45 #[.string s, .string ⟨#[116, 101, 109, 112, 108, 97, 116, 101, 32]⟩] w fun e w' => ∃ b, e = .returned (.tuple #[.string (cutB s), .bool b]) ∧ w' = w := by
  go_enter Tryz.func45, Tryz.ntmps45
  go_wp2_with fail
  refine (cutLite_any s _ hs).mono ?_
  rintro e w1 ⟨b, rfl, rfl⟩
  go_wp2_with fail
  go_ret2
  exact ⟨b, rfl, rfl⟩
set_option maxHeartbeats 8000000 in
set_option maxRecDepth 100000 in
theorem implReadTemplate_any (s : ByteArray) (w : World) (hL : LaidW w) (hs : s.size ≤ 1048576) : Calls Tryz.prog 7 #[.string s] w (TmRes (SReadTemplate s) w) := by
  have hE1 : Ext w (w.alloc (.cells #[.int .i64 0, .slice none 0 0] 24)) := (Ext.refl' w).alloc (Nat.le_refl _) _
  by_cases hbig : 20000 < s.size
  · rw [readTm_big hbig]
    go_enter Tryz.func7, Tryz.ntmps7
    go_wp2_with fail
    exact bodyPost_ret (v := .tuple #[.agg #[.int .i64 0, .slice none 0 0], .int .i64 2]) (by simp [results, Tryz.results7, go_sem]) rfl (TmRes.no hE1)
  obtain ⟨m, hm⟩ := (hL.ext hE1).max
  have hL1 := hL.ext hE1
  have hts := trimB_size s
  have HTB := Lib.hid (show (⟨(Lib.trimSuffix s.data.toList (⟨#[10]⟩ : ByteArray).data.toList).toArray⟩ : ByteArray) = trimB s from rfl)
  obtain ⟨l0, ws, hws⟩ : ∃ x t, words 10 (trimB s) = x :: t := by
    have := words_ne 10 (trimB s)
    generalize words 10 (trimB s) = ws at *
    match ws, this with
    | x :: t, _ => exact ⟨x, t, rfl⟩
  have HR := Lib.hid (show SrdT s = (rnV (cutB l0), ws.map SrdR) by unfold SrdT; rw [hws])
  have hsa : l0.size ≤ s.size := Nat.le_trans (words_size (c := 10) (s := trimB s) (by rw [hws]; simp)) hts
  have hca := cutB_size l0
  have hnb := (rnV_num (cutB l0)).1
  have hsz : ∀ x ∈ ws, x.size ≤ s.size := fun x hx => Nat.le_trans (words_size (c := 10) (s := trimB s) (by rw [hws]; simp [hx])) hts
  have hwl2 : ws.length ≤ 1048576 := by
    have := words_length 10 (trimB s)
    rw [hws] at this
    simp only [List.length_cons] at this
    omega
  have HW := Lib.hid hws
  clear hws
  go_enter Tryz.func7, Tryz.ntmps7
  go_wp2_with fail
  refine (Tryz.strings_TrimSuffix s ⟨#[10]⟩ _ (by omega)).mono ?_
  rintro e w1 ⟨rfl, rfl⟩
  rw [HTB.out]
  go_wp2_with fail
  refine (split_any 10 (trimB s) m _ hm (by omega)).mono ?_
  rintro e w1 ⟨v, rfl, hE, hv⟩
  have d0 := hE.cell (p := ⟨w.heap.size, 0, none⟩) (v := .int .i64 0) (by simp [go_sem])
  have d1 := hE.cell (p := ⟨w.heap.size, 1, none⟩) (v := .slice none 0 0) (by simp [go_sem])
  have f2 := hE.frozen (p := ⟨w.heap.size, 0, none⟩) (by simp)
  have f3 := hE.frozen (p := ⟨w.heap.size, 1, none⟩) (by simp)
  simp [go_sem] at f2 f3
  replace hL1 := hL1.ext hE
  replace hE := hE1.tr hE
  rw [HW.out] at hv
  obtain ⟨b, off, cap, rfl, hcap, hcells⟩ := cells_all hv
  have q0 := hcells 0 (by simp)
  simp only [List.getElem_cons_zero, Nat.add_zero] at q0
  clear hv
  have HC := Lib.hid (show ∀ j (h : j < ws.length), w1.cell? ⟨b, off + 1 + j, none⟩ = some (.string ws[j]) from fun j hj => by
    have := hcells (j + 1) (by simp; omega)
    simp only [List.getElem_cons_succ] at this
    rw [show off + 1 + j = off + (j + 1) by omega]
    exact this)
  have hlen : (l0 :: ws : List ByteArray).length = ws.length + 1 := by simp
  rw [hlen] at hcap ⊢
  clear hcells hlen
  go_wp2_with fail
  refine (cutPrefix_any l0 _ (by omega)).mono ?_
  rintro e w2 ⟨bb, rfl, rfl⟩
  go_wp2_with fail
  refine (readNumber_any (cutB l0) _ hL1 (by omega)).mono ?_
  rintro e wo ⟨rfl, hE2⟩
  replace f2 : _ = false := (hE2.frozen (lt_of_cell d0)).trans f2
  replace f3 : _ = false := (hE2.frozen (lt_of_cell d1)).trans f3
  replace d0 := hE2.cell d0
  replace d1 := hE2.cell d1
  have HC2 := Lib.hid (show ∀ j (h : j < ws.length), wo.cell? ⟨b, off + 1 + j, none⟩ = some (.string ws[j]) from fun j hj => hE2.cell (HC.out j hj))
  replace hL1 := hL1.ext hE2
  replace hE := hE.tr hE2
  have hdl := lt_of_cell d0
  dsimp only at hdl
  clear q0 HC hE2
  by_cases hc1 : cap = 1
  · have hcz : (cap = 1) = True := eq_true hc1
    go_wp2_with fail
    go_loopw [30] (fun i wr => ∃ (k : Nat) (tv : Value) (fp : List Nat), k ≤ ws.length ∧ i = .int .i64 (k : Nat) ∧ AccR wo wr wo.heap.size (wo.heap.size + 1) (rnV (cutB l0)) ((ws.take k).map SrdR) tv fp) (fun i _ => ws.length - (intOf i).toNat)
    case atStart =>
      refine ⟨0, .slice none 0 0, [], by omega, rfl, ⟨(Ext.refl' wo).alloc (Nat.le_refl _) _, OwnL.nil _, by simp, by simp, by omega, Nat.le_refl _, ?_, ?_, ?_⟩⟩ <;> simp [go_sem]
    case round =>
      obtain ⟨k, tv, fp, hk, rfl, hA⟩ := hrel
      have hfp1 := hA.ho.lt
      have hEo := hA.hE
      obtain ⟨ka, kc, rfl⟩ := hA.ho.form
      have hkl : ¬ k < ws.length := by omega
      have HT := Lib.hid (show (ws.take k).map SrdR = ws.map SrdR by rw [List.take_of_length_le (by omega)])
      rw [HT.out] at hA
      have hA2 := hA
      replace f2 : _ = false := (hEo.frozen (lt_of_cell d0)).trans f2
      replace f3 : _ = false := (hEo.frozen (lt_of_cell d1)).trans f3
      replace d0 := hEo.cell d0
      replace d1 := hEo.cell d1
      have hE9 := hE.tr hEo
      have a0 := hA2.c0
      have a1 := hA2.c1
      have hfp3 := hA2.hfp
      have hT : OwnTm wr (.agg #[.int .i64 (rnV (cutB l0)), .slice ka (ws.map SrdR).length kc]) (SrdT s) fp := by rw [HR.out]; exact ⟨_, rfl, hA2.ho⟩
      rw [List.length_map] at a1 hT
      clear hA hA2 HT HC2 hfp1
      obtain ⟨n, hn⟩ : ∃ n, n = rnV (cutB l0) := ⟨_, rfl⟩
      obtain ⟨t, ht⟩ : ∃ t, t = SrdT s := ⟨_, rfl⟩
      rw [← hn] at a0 hT hnb
      rw [← ht] at hT
      have HT2 := Lib.hid ht.symm
      rw [← hn]
      clear hn HR
      cases hv : SValidTemplate t with
      | false =>
        have HS := Lib.hid (readTm_5 hbig (by rw [← ht]; exact hv))
        clear ht
        go_wp2_with fail
        refine (implValidTemplate_ok t _ _ hT.rd).mono ?_
        rintro e w3 ⟨rfl, hE3⟩
        rw [hv]
        replace a0 := hE3.cell a0
        replace a1 := hE3.cell a1
        replace f2 : _ = false := (hE3.frozen (lt_of_cell d0)).trans f2
        replace f3 : _ = false := (hE3.frozen (lt_of_cell d1)).trans f3
        replace d0 := hE3.cell d0
        replace d1 := hE3.cell d1
        replace hT := hT.ext hE3
        replace hE9 := hE9.tr hE3
        go_wp2_with fail
        rw [HS.out]
        exact bodyPost_ret (v := .tuple #[.agg #[.int .i64 0, .slice none 0 0], .int .i64 5]) (by simp [results, Tryz.results7, go_sem, d0, d1]) rfl (TmRes.no ((hE9.setCell (by simp <;> omega) _).setCell (by simp <;> omega) _))
      | true =>
        by_cases he : tmB t = s
        · have hmk := tm_mk hv
          have HS := Lib.hid (readTm_yes (s := s) (t := t) ⟨hv, he⟩)
          have hbb : ((tmB t).toList == s.toList) = true := by rw [he]; simp
          clear ht he
          go_wp2_with fail
          refine (implValidTemplate_ok t _ _ hT.rd).mono ?_
          rintro e w3 ⟨rfl, hE3⟩
          rw [hv]
          replace a0 := hE3.cell a0
          replace a1 := hE3.cell a1
          replace f2 : _ = false := (hE3.frozen (lt_of_cell d0)).trans f2
          replace f3 : _ = false := (hE3.frozen (lt_of_cell d1)).trans f3
          replace d0 := hE3.cell d0
          replace d1 := hE3.cell d1
          replace hT := hT.ext hE3
          replace hE9 := hE9.tr hE3
          go_wp2_with fail
          refine (templateText_any t _ _ hT.rd hv).mono ?_
          rintro e w4 ⟨rfl, hE4⟩
          replace a0 := hE4.cell a0
          replace a1 := hE4.cell a1
          replace f2 : _ = false := (hE4.frozen (lt_of_cell d0)).trans f2
          replace f3 : _ = false := (hE4.frozen (lt_of_cell d1)).trans f3
          replace d0 := hE4.cell d0
          replace d1 := hE4.cell d1
          replace hT := hT.ext hE4
          replace hE9 := hE9.tr hE4
          go_wp2_with fail
          rw [HS.out]
          exact bodyPost_ret (v := .tuple #[.agg #[.int .i64 n, .slice ka ws.length kc], .int .i64 0]) (by simp [results, Tryz.results7, go_sem, d0, d1]) rfl
            ⟨_, fp, rfl, (hE9.setCell (by simp <;> omega) _).setCell (by simp <;> omega) _, hT.off ((Off.set (fp := [w.heap.size]) (by simp)).trans (Off.set (by simp))) (fun h hh hm => by have := hfp3 h hh; simp at hm; omega), fun g hg => by have := hfp3 g hg; omega, hmk⟩
        · have HS := Lib.hid (readTm_5b hbig (by rw [← ht]; exact he))
          have hbb : ((tmB t).toList == s.toList) = false := text_ne he
          clear ht he
          go_wp2_with fail
          refine (implValidTemplate_ok t _ _ hT.rd).mono ?_
          rintro e w3 ⟨rfl, hE3⟩
          rw [hv]
          replace a0 := hE3.cell a0
          replace a1 := hE3.cell a1
          replace f2 : _ = false := (hE3.frozen (lt_of_cell d0)).trans f2
          replace f3 : _ = false := (hE3.frozen (lt_of_cell d1)).trans f3
          replace d0 := hE3.cell d0
          replace d1 := hE3.cell d1
          replace hT := hT.ext hE3
          replace hE9 := hE9.tr hE3
          go_wp2_with fail
          refine (templateText_any t _ _ hT.rd hv).mono ?_
          rintro e w4 ⟨rfl, hE4⟩
          replace a0 := hE4.cell a0
          replace a1 := hE4.cell a1
          replace f2 : _ = false := (hE4.frozen (lt_of_cell d0)).trans f2
          replace f3 : _ = false := (hE4.frozen (lt_of_cell d1)).trans f3
          replace d0 := hE4.cell d0
          replace d1 := hE4.cell d1
          replace hT := hT.ext hE4
          replace hE9 := hE9.tr hE4
          go_wp2_with fail
          rw [HS.out]
          exact bodyPost_ret (v := .tuple #[.agg #[.int .i64 0, .slice none 0 0], .int .i64 5]) (by simp [results, Tryz.results7, go_sem, d0, d1]) rfl (TmRes.no ((hE9.setCell (by simp <;> omega) _).setCell (by simp <;> omega) _))
  · have hcz : (cap = 1) = False := eq_false hc1
    go_wp2_with fail
    go_loopw [30] (fun i wr => ∃ (k : Nat) (tv : Value) (fp : List Nat), k ≤ ws.length ∧ i = .int .i64 (k : Nat) ∧ AccR wo wr wo.heap.size (wo.heap.size + 1) (rnV (cutB l0)) ((ws.take k).map SrdR) tv fp) (fun i _ => ws.length - (intOf i).toNat)
    case atStart =>
      refine ⟨0, .slice none 0 0, [], by omega, rfl, ⟨(Ext.refl' wo).alloc (Nat.le_refl _) _, OwnL.nil _, by simp, by simp, by omega, Nat.le_refl _, ?_, ?_, ?_⟩⟩ <;> simp [go_sem]
    case round =>
      obtain ⟨k, tv, fp, hk, rfl, hA⟩ := hrel
      have hfp1 := hA.ho.lt
      have hEo := hA.hE
      obtain ⟨ka, kc, rfl⟩ := hA.ho.form
      by_cases hkl : k < ws.length
      · have q0 := hEo.cell (HC2.out k hkl)
        have a0 := hA.c0
        have a1 := hA.c1
        have hqB := hA.hB
        have hxs := hsz ws[k] (List.getElem_mem hkl)
        have HS := Lib.hid (show (ws.take (k + 1)).map SrdR = (ws.take k).map SrdR ++ [SrdR ws[k]] by rw [List.take_succ_eq_append_getElem hkl, List.map_append]; rfl)
        have hsl : ((ws.take k).map SrdR).length ≤ 1048576 := by rw [List.length_map, List.length_take]; omega
        have hLr := hL1.ext hEo
        generalize (ws.take k).map SrdR = L at *
        generalize ws[k] = x at *
        go_wp2_with fail
        go_wp2_with fail
        refine region_sp [] [5, 6, 7] [SP.val (.pointer (some ⟨wo.heap.size, 1, none⟩)), SP.val (.slice ka L.length kc), SP.val (.string x), SP.relF wr.heap.size (SrdR x), SP.rowRelF wr.heap.size (SrdR x), SP.any, SP.any, SP.any] (by kernel_rfl) (fun _ d _ _ _ h => by cases d <;> exact h) (by kernel_rfl) (by kernel_rfl)
          (.cons (fun vs y hY => Step.fieldAddr ⟨wo.heap.size, 0, none⟩ rfl rfl rfl (by simp [go_sem]) rfl) <|
           .cons (fun vs y hY g0_0 => Step.load ⟨wo.heap.size, 1, none⟩ rfl rfl g0_0 (by simp [go_sem, hY.cell a1]) rfl) <|
           .cons (fun vs y hY => Step.move rfl rfl rfl rfl) <|
           .cons (fun vs y hY g2_0 => Step.call Tryz.call47 rfl rfl [vs 2] rfl rfl (by rw [show vs 2 = _ from g2_0]; exact ((readRel_any x _ (hLr.ext hY) (by omega)).mono fun _ _ ⟨u, fp, he, hE, ho, hg⟩ => ⟨u, he, hE, fp, ho, fun g h => Nat.le_trans hY.size (hg g h)⟩))) <|
           .cons (fun vs y hY g3_0 => Step.rowRelF (e := 35) rfl rfl g3_0 (by intros; simp [go_sem])) <|
           .skip rfl <|
           .skip rfl <|
           .skip rfl <|
           .nil) ?_
        intro vs w6 hC hL
        have r0 : vs 0 = _ := hL 0 (by decide) rfl
        have r1 : vs 1 = _ := hL 1 (by decide) rfl
        have r2 : vs 2 = _ := hL 2 (by decide) rfl
        have r3 := hL 3 (by decide) rfl
        have r4 := hL 4 (by decide) rfl
        clear hL
        simp only [putAll, Act.put, List.contains_cons, List.contains_nil, Nat.reduceBEq, Nat.reduceAdd, Bool.or_false, Bool.or_true, cond_true, cond_false, List.setIfInBounds_toArray, List.set_cons_succ, List.set_cons_zero, List.filterMap_cons, List.filterMap_nil, List.getElem?_cons_succ, List.getElem?_cons_zero, r0, r1, r2]
        clear r0 r1 r2
        obtain ⟨b', u, fx, r4, y0, y1, hx, hfx⟩ := r4
        refine AccR.append (hA.ext hC) hx (fun g hg => by have := hfx g hg; omega) (fun g hg hm => by have := hfx g hg; have := hfp1 g hm; omega) hsl (b' := b') (u := u) y0 y1 rfl (.tmp 35) (.tmp 38) rfl rfl r4 ?_
        rintro v' w7 fp' k7 k8 hA4 ⟨xa, xc, rfl⟩
        rw [← HS.out] at hA4
        clear hA q0 a0 a1
        go_wp2_with fail
        go_roundw
        case rel => exact ⟨k + 1, _, fp', by omega, by go_num, hA4⟩
        case measure => simp [intOf]; omega
      · skip
        have HT := Lib.hid (show (ws.take k).map SrdR = ws.map SrdR by rw [List.take_of_length_le (by omega)])
        rw [HT.out] at hA
        have hA2 := hA
        replace f2 : _ = false := (hEo.frozen (lt_of_cell d0)).trans f2
        replace f3 : _ = false := (hEo.frozen (lt_of_cell d1)).trans f3
        replace d0 := hEo.cell d0
        replace d1 := hEo.cell d1
        have hE9 := hE.tr hEo
        have a0 := hA2.c0
        have a1 := hA2.c1
        have hfp3 := hA2.hfp
        have hT : OwnTm wr (.agg #[.int .i64 (rnV (cutB l0)), .slice ka (ws.map SrdR).length kc]) (SrdT s) fp := by rw [HR.out]; exact ⟨_, rfl, hA2.ho⟩
        rw [List.length_map] at a1 hT
        clear hA hA2 HT HC2 hfp1
        obtain ⟨n, hn⟩ : ∃ n, n = rnV (cutB l0) := ⟨_, rfl⟩
        obtain ⟨t, ht⟩ : ∃ t, t = SrdT s := ⟨_, rfl⟩
        rw [← hn] at a0 hT hnb
        rw [← ht] at hT
        have HT2 := Lib.hid ht.symm
        rw [← hn]
        clear hn HR
        cases hv : SValidTemplate t with
        | false =>
          have HS := Lib.hid (readTm_5 hbig (by rw [← ht]; exact hv))
          clear ht
          go_wp2_with fail
          refine (implValidTemplate_ok t _ _ hT.rd).mono ?_
          rintro e w3 ⟨rfl, hE3⟩
          rw [hv]
          replace a0 := hE3.cell a0
          replace a1 := hE3.cell a1
          replace f2 : _ = false := (hE3.frozen (lt_of_cell d0)).trans f2
          replace f3 : _ = false := (hE3.frozen (lt_of_cell d1)).trans f3
          replace d0 := hE3.cell d0
          replace d1 := hE3.cell d1
          replace hT := hT.ext hE3
          replace hE9 := hE9.tr hE3
          go_wp2_with fail
          rw [HS.out]
          exact bodyPost_ret (v := .tuple #[.agg #[.int .i64 0, .slice none 0 0], .int .i64 5]) (by simp [results, Tryz.results7, go_sem, d0, d1]) rfl (TmRes.no ((hE9.setCell (by simp <;> omega) _).setCell (by simp <;> omega) _))
        | true =>
          by_cases he : tmB t = s
          · have hmk := tm_mk hv
            have HS := Lib.hid (readTm_yes (s := s) (t := t) ⟨hv, he⟩)
            have hbb : ((tmB t).toList == s.toList) = true := by rw [he]; simp
            clear ht he
            go_wp2_with fail
            refine (implValidTemplate_ok t _ _ hT.rd).mono ?_
            rintro e w3 ⟨rfl, hE3⟩
            rw [hv]
            replace a0 := hE3.cell a0
            replace a1 := hE3.cell a1
            replace f2 : _ = false := (hE3.frozen (lt_of_cell d0)).trans f2
            replace f3 : _ = false := (hE3.frozen (lt_of_cell d1)).trans f3
            replace d0 := hE3.cell d0
            replace d1 := hE3.cell d1
            replace hT := hT.ext hE3
            replace hE9 := hE9.tr hE3
            go_wp2_with fail
            refine (templateText_any t _ _ hT.rd hv).mono ?_
            rintro e w4 ⟨rfl, hE4⟩
            replace a0 := hE4.cell a0
            replace a1 := hE4.cell a1
            replace f2 : _ = false := (hE4.frozen (lt_of_cell d0)).trans f2
            replace f3 : _ = false := (hE4.frozen (lt_of_cell d1)).trans f3
            replace d0 := hE4.cell d0
            replace d1 := hE4.cell d1
            replace hT := hT.ext hE4
            replace hE9 := hE9.tr hE4
            go_wp2_with fail
            rw [HS.out]
            exact bodyPost_ret (v := .tuple #[.agg #[.int .i64 n, .slice ka ws.length kc], .int .i64 0]) (by simp [results, Tryz.results7, go_sem, d0, d1]) rfl
              ⟨_, fp, rfl, (hE9.setCell (by simp <;> omega) _).setCell (by simp <;> omega) _, hT.off ((Off.set (fp := [w.heap.size]) (by simp)).trans (Off.set (by simp))) (fun h hh hm => by have := hfp3 h hh; simp at hm; omega), fun g hg => by have := hfp3 g hg; omega, hmk⟩
          · have HS := Lib.hid (readTm_5b hbig (by rw [← ht]; exact he))
            have hbb : ((tmB t).toList == s.toList) = false := text_ne he
            clear ht he
            go_wp2_with fail
            refine (implValidTemplate_ok t _ _ hT.rd).mono ?_
            rintro e w3 ⟨rfl, hE3⟩
            rw [hv]
            replace a0 := hE3.cell a0
            replace a1 := hE3.cell a1
            replace f2 : _ = false := (hE3.frozen (lt_of_cell d0)).trans f2
            replace f3 : _ = false := (hE3.frozen (lt_of_cell d1)).trans f3
            replace d0 := hE3.cell d0
            replace d1 := hE3.cell d1
            replace hT := hT.ext hE3
            replace hE9 := hE9.tr hE3
            go_wp2_with fail
            refine (templateText_any t _ _ hT.rd hv).mono ?_
            rintro e w4 ⟨rfl, hE4⟩
            replace a0 := hE4.cell a0
            replace a1 := hE4.cell a1
            replace f2 : _ = false := (hE4.frozen (lt_of_cell d0)).trans f2
            replace f3 : _ = false := (hE4.frozen (lt_of_cell d1)).trans f3
            replace d0 := hE4.cell d0
            replace d1 := hE4.cell d1
            replace hT := hT.ext hE4
            replace hE9 := hE9.tr hE4
            go_wp2_with fail
            rw [HS.out]
            exact bodyPost_ret (v := .tuple #[.agg #[.int .i64 0, .slice none 0 0], .int .i64 5]) (by simp [results, Tryz.results7, go_sem, d0, d1]) rfl (TmRes.no ((hE9.setCell (by simp <;> omega) _).setCell (by simp <;> omega) _))
end Go.Proofs.YtajkepdfemdagaaGreatDoor
