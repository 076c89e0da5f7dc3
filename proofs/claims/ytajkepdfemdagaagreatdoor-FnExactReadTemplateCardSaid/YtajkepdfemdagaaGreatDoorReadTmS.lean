
/- ReadTemplate: the reference reads a template. -/
import Derived.Test.YtajkepdfemdagaaGreatDoorReadTmL
import Derived.Test.YtajkepdfemdagaaGreatDoorReadRelS
import Derived.Test.YtajkepdfemdagaaGreatDoorRelAcc
namespace Go.Proofs.YtajkepdfemdagaaGreatDoor
open Go.RowKit
set_option linter.unusedVariables false

/-- the last of some lines -/
def lastB : ByteArray → List ByteArray → ByteArray
  | x, [] => x
  | _, y :: ys => lastB y ys
theorem lastB_get : ∀ (ws : List ByteArray) (x : ByteArray) (h : ws.length < (x :: ws).length), (x :: ws)[ws.length] = lastB x ws
  | [], _, _ => rfl
  | y :: ys, x, h => by
    have := lastB_get ys y (by simp)
    simpa [lastB] using this
theorem lastB_end (e : ByteArray) : ∀ (ws : List ByteArray) (x : ByteArray), lastB x (ws ++ [e]) = e
  | [], _ => rfl
  | y :: ys, x => lastB_end e ys y
theorem lastB_mid : ∀ (ws : List ByteArray) (x : ByteArray), ∃ mid, x :: ws = mid ++ [lastB x ws]
  | [], x => ⟨[], rfl⟩
  | y :: ys, x => by
    obtain ⟨m, hm⟩ := lastB_mid ys y
    exact ⟨x :: m, congrArg (x :: ·) hm⟩
theorem cell_last {w : World} {b off : Nat} {l0 : ByteArray} {ws : List ByteArray} (h : ∀ j (hj : j < (l0 :: ws).length), w.cell? ⟨b, off + j, none⟩ = some (.string (l0 :: ws)[j])) : w.cell? ⟨b, off + ws.length, none⟩ = some (.string (lastB l0 ws)) := by
  rw [h ws.length (by simp), lastB_get]
theorem tm_not_len {s l0 : ByteArray} {ws : List ByteArray} (hw : words 10 s = l0 :: ws) (h : ¬ (words 32 l0).length = 2) : ∀ t, ¬ IsTmOf s t := fun t ht => by
  have h1 := tm_words ht
  obtain ⟨b1, _, _⟩ := tm_bounds ht.1
  rw [hw] at h1
  injection h1 with h1 h2
  rw [h1, head_words b1.1 b1.2] at h
  exact h rfl
theorem tm_head {s l0 h0 wa : ByteArray} {ws : List ByteArray} {t : Int × List RelD} (hw : words 10 s = l0 :: ws) (h : words 32 l0 = [h0, wa]) (ht : IsTmOf s t) : h0 = ⟨#[116, 101, 109, 112, 108, 97, 116, 101]⟩ ∧ wa = decB t.1 ∧ ws = t.2.map relB ++ [ByteArray.empty] := by
  have h1 := tm_words ht
  obtain ⟨b1, _, _⟩ := tm_bounds ht.1
  rw [hw] at h1
  injection h1 with h1 h2
  rw [h1, head_words b1.1 b1.2] at h
  simp only [List.cons.injEq, and_true] at h
  exact ⟨h.1.symm, h.2.symm, h2⟩
theorem last_mid {l0 : ByteArray} {ws : List ByteArray} (h : (words 32 l0).length = 2) (hl : lastB l0 ws = ByteArray.empty) : ∃ mid, ws = mid ++ [ByteArray.empty] := by
  cases ws with
  | nil =>
    have hl : l0 = ByteArray.empty := hl
    subst hl
    have h1 := congrArg List.length (words_data 32 ByteArray.empty)
    rw [List.length_map, h] at h1
    have h2 : (splitC 32 (ByteArray.empty).data.toList).length = 1 := rfl
    omega
  | cons x xs =>
    obtain ⟨m, hm⟩ := lastB_mid xs x
    exact ⟨m, by rw [show lastB x xs = ByteArray.empty from hl] at hm; exact hm⟩
/-- what the loop keeps -/
def TRel (P : Prop) (s : ByteArray) (wo : World) (n : Int) (mid : List ByteArray) (okv i : Value) (wr : World) : Prop :=
  ∃ (k : Nat) (ok : Bool) (tv : Value) (fp : List Nat) (rs : List RelD), k ≤ mid.length ∧ i = .int .i64 ((k + 1 : Nat) : Int) ∧ okv = .bool ok ∧ AccR wo wr wo.heap.size (wo.heap.size + 1) n rs tv fp ∧ rs.length ≤ k ∧
    Hid ((ok = true → P ∧ rs.map relB = mid.take k ∧ ∀ r ∈ rs, SValidRel 4 r = true) ∧ (ok = false → ∀ t, ¬ IsTmOf s t))
theorem trel_step {P : Prop} {s : ByteArray} {mid : List ByteArray} {rs : List RelD} {r : RelD} {k : Nat} {ok : Bool} (hk : k < mid.length) (h : P ∧ rs.map relB = mid.take k ∧ ∀ r ∈ rs, SValidRel 4 r = true) (hU : ∀ t, IsTmOf s t → mid = t.2.map relB) (h1 : ok = true → IsRelOf mid[k] r) (h2 : ok = false → ∀ g, ¬ IsRelOf mid[k] g) :
    (ok = true → P ∧ (rs ++ [r]).map relB = mid.take (k + 1) ∧ ∀ x ∈ rs ++ [r], SValidRel 4 x = true) ∧ (ok = false → ∀ t, ¬ IsTmOf s t) := by
  refine ⟨fun ho => ⟨h.1, ?_, fun x hx => ?_⟩, fun ho t ht => ?_⟩
  · rw [List.map_append, h.2.1, List.take_succ_eq_append_getElem hk, List.map_cons, List.map_nil, (h1 ho).2]
  · rcases List.mem_append.1 hx with hx | hx
    · exact h.2.2 x hx
    · rw [List.mem_singleton] at hx
      subst hx
      exact (h1 ho).1
  · have hm := hU t ht
    obtain ⟨_, _, b3⟩ := tm_bounds ht.1
    have hk2 : k < t.2.length := by rw [hm, List.length_map] at hk; exact hk
    refine h2 ho t.2[k] ⟨b3 _ (List.getElem_mem hk2), ?_⟩
    simp only [hm, List.getElem_map]

set_option maxHeartbeats 8000000 in
set_option maxRecDepth 100000 in
theorem specReadTemplate_any (s : ByteArray) (w : World) (hs : s.size ≤ 1048576) : Calls Tryz.prog 6 #[.string s] w (TmRes (SReadTemplate s) w) := by
  have hE1 : Ext w (w.alloc (.cells #[.int .i64 0, .slice none 0 0] 24)) := (Ext.refl' w).alloc (Nat.le_refl _) _
  by_cases hbig : 20000 < s.size
  · rw [readTm_big hbig]
    go_enter Tryz.func6, Tryz.ntmps6
    go_wp2_with fail
    exact bodyPost_ret (v := .tuple #[.agg #[.int .i64 0, .slice none 0 0], .int .i64 2]) (by simp [results, Tryz.results6, go_sem]) rfl (TmRes.no hE1)
  obtain ⟨l0, ws, hws⟩ : ∃ x t, words 10 s = x :: t := by
    have := words_ne 10 s
    generalize words 10 s = ws at *
    match ws, this with
    | x :: t, _ => exact ⟨x, t, rfl⟩
  have HW := Lib.hid hws
  have hsa : l0.size ≤ s.size := words_size (c := 10) (s := s) (by rw [hws]; simp)
  have hsz : ∀ x ∈ ws, x.size ≤ s.size := fun x hx => words_size (c := 10) (s := s) (by rw [hws]; simp [hx])
  have hwl2 : ws.length ≤ 1048576 := by
    have := words_length 10 s
    rw [hws] at this
    simp only [List.length_cons] at this
    omega
  clear hws
  obtain ⟨last, hlast⟩ : ∃ x, lastB l0 ws = x := ⟨_, rfl⟩
  have HLA := Lib.hid hlast
  by_cases hl2 : (words 32 l0).length = 2
  · obtain ⟨h0, wa, hwd⟩ : ∃ x y, words 32 l0 = [x, y] := by
      generalize words 32 l0 = ws at hl2
      match ws, hl2 with
      | [x, y], _ => exact ⟨x, y, rfl⟩
    have HWD := Lib.hid hwd
    have hsw : wa.size ≤ l0.size := words_size (c := 32) (by rw [hwd]; simp)
    by_cases hh : h0 = ⟨#[116, 101, 109, 112, 108, 97, 116, 101]⟩
    · subst hh
      by_cases h8 : 8 < ws.length + 1
      · have HS := Lib.hid (readTm_no hbig fun t ht => by
          obtain ⟨_, _, u3⟩ := tm_head HW.out HWD.out ht
          obtain ⟨_, b2, _⟩ := tm_bounds ht.1
          rw [u3, List.length_append, List.length_map] at h8
          simp only [List.length_cons, List.length_nil] at h8
          omega)
        clear hl2 hwd hlast
        go_enter Tryz.func6, Tryz.ntmps6
        go_wp2_with fail
        refine (show Calls Tryz.prog 39 #[.string s, .int .u8 10] _ _ from l01Split_any 10 s _ hs).mono ?_
        rintro e w1 ⟨v, rfl, hE, hv⟩
        have d0 := hE.cell (p := ⟨w.heap.size, 0, none⟩) (v := .int .i64 0) (by simp [go_sem])
        have d1 := hE.cell (p := ⟨w.heap.size, 1, none⟩) (v := .slice none 0 0) (by simp [go_sem])
        have f2 := hE.frozen (p := ⟨w.heap.size, 0, none⟩) (by simp)
        have f3 := hE.frozen (p := ⟨w.heap.size, 1, none⟩) (by simp)
        simp [go_sem] at f2 f3
        replace hE := hE1.tr hE
        rw [HW.out] at hv
        obtain ⟨b, off, cap, rfl, hcap, hcells⟩ := cells_all hv
        have q0 := hcells 0 (by simp)
        have qL := cell_last hcells
        simp only [List.getElem_cons_zero, Nat.add_zero] at q0
        clear hv
        have HC := Lib.hid (show ∀ j (h : j < ws.length), w1.cell? ⟨b, off + 1 + j, none⟩ = some (.string ws[j]) from fun j hj => by
          have := hcells (j + 1) (by simp; omega)
          simp only [List.getElem_cons_succ] at this
          rw [show off + 1 + j = off + (j + 1) by omega]
          exact this)
        have hlen : (l0 :: ws : List ByteArray).length = ws.length + 1 := by simp
        rw [hlen] at hcap ⊢
        clear hcells hlen
        rw [HLA.out] at qL
        go_wp2_with fail
        refine (show Calls Tryz.prog 39 #[.string l0, .int .u8 32] _ _ from l01Split_any 32 l0 _ (by omega)).mono ?_
        rintro e w2 ⟨v2, rfl, hE2, hv2⟩
        replace f2 : _ = false := (hE2.frozen (lt_of_cell d0)).trans f2
        replace f3 : _ = false := (hE2.frozen (lt_of_cell d1)).trans f3
        replace d0 := hE2.cell d0
        replace d1 := hE2.cell d1
        replace hE := hE.tr hE2
        replace qL := hE2.cell qL
        have HC2 := Lib.hid (show ∀ j (h : j < ws.length), w2.cell? ⟨b, off + 1 + j, none⟩ = some (.string ws[j]) from fun j hj => hE2.cell (HC.out j hj))
        obtain ⟨b2, off2, cap2, rfl, hcap2, hcells2⟩ := cells_all hv2
        clear q0 HC hE2 hv2
        rw [HWD.out] at hcap2 hcells2
        have r0 := hcells2 0 (by simp)
        have r1 := hcells2 1 (by simp)
        simp only [List.getElem_cons_zero, List.getElem_cons_succ, Nat.add_zero] at r0 r1
        rw [HWD.out]
        simp only [List.length_cons, List.length_nil, Nat.zero_add, Nat.reduceAdd] at hcap2 ⊢
        clear hcells2
        go_wp2_with fail
        rw [HS.out]
        exact bodyPost_ret (v := .tuple #[.agg #[.int .i64 0, .slice none 0 0], .int .i64 5]) (by simp [results, Tryz.results6, go_sem, d0, d1]) rfl (TmRes.no ((hE.setCell (by simp <;> omega) _).setCell (by simp <;> omega) _))
      · by_cases hle : last = ByteArray.empty
        · obtain ⟨mid, hmid⟩ := last_mid hl2 (hlast.trans hle)
          have hbl : (last.toList == ([] : List UInt8)) = true := by rw [hle, toList_eq]; rfl
          have hml : ws.length = mid.length + 1 := by rw [hmid]; simp
          have HM := Lib.hid hmid
          have HW2 := Lib.hid (show words 10 s = l0 :: (mid ++ [ByteArray.empty]) by rw [HW.out, hmid])
          have HU := Lib.hid (show ∀ t, IsTmOf s t → wa = decB t.1 ∧ mid = t.2.map relB from fun t ht => by
            obtain ⟨_, u2, u3⟩ := tm_head HW.out HWD.out ht
            rw [hmid] at u3
            exact ⟨u2, List.append_cancel_right u3⟩)
          have hmz : ∀ x ∈ mid, x.size ≤ s.size := fun x hx => hsz x (by rw [hmid]; simp [hx])
          clear hl2 hwd hlast hle hsz
          go_enter Tryz.func6, Tryz.ntmps6
          go_wp2_with fail
          refine (show Calls Tryz.prog 39 #[.string s, .int .u8 10] _ _ from l01Split_any 10 s _ hs).mono ?_
          rintro e w1 ⟨v, rfl, hE, hv⟩
          have d0 := hE.cell (p := ⟨w.heap.size, 0, none⟩) (v := .int .i64 0) (by simp [go_sem])
          have d1 := hE.cell (p := ⟨w.heap.size, 1, none⟩) (v := .slice none 0 0) (by simp [go_sem])
          have f2 := hE.frozen (p := ⟨w.heap.size, 0, none⟩) (by simp)
          have f3 := hE.frozen (p := ⟨w.heap.size, 1, none⟩) (by simp)
          simp [go_sem] at f2 f3
          replace hE := hE1.tr hE
          rw [HW.out] at hv
          obtain ⟨b, off, cap, rfl, hcap, hcells⟩ := cells_all hv
          have q0 := hcells 0 (by simp)
          have qL := cell_last hcells
          simp only [List.getElem_cons_zero, Nat.add_zero] at q0
          clear hv
          have HC := Lib.hid (show ∀ j (h : j < ws.length), w1.cell? ⟨b, off + 1 + j, none⟩ = some (.string ws[j]) from fun j hj => by
            have := hcells (j + 1) (by simp; omega)
            simp only [List.getElem_cons_succ] at this
            rw [show off + 1 + j = off + (j + 1) by omega]
            exact this)
          have hlen : (l0 :: ws : List ByteArray).length = ws.length + 1 := by simp
          rw [hlen] at hcap ⊢
          clear hcells hlen
          rw [HLA.out] at qL
          go_wp2_with fail
          refine (show Calls Tryz.prog 39 #[.string l0, .int .u8 32] _ _ from l01Split_any 32 l0 _ (by omega)).mono ?_
          rintro e w2 ⟨v2, rfl, hE2, hv2⟩
          replace f2 : _ = false := (hE2.frozen (lt_of_cell d0)).trans f2
          replace f3 : _ = false := (hE2.frozen (lt_of_cell d1)).trans f3
          replace d0 := hE2.cell d0
          replace d1 := hE2.cell d1
          replace hE := hE.tr hE2
          replace qL := hE2.cell qL
          have HC2 := Lib.hid (show ∀ j (h : j < ws.length), w2.cell? ⟨b, off + 1 + j, none⟩ = some (.string ws[j]) from fun j hj => hE2.cell (HC.out j hj))
          obtain ⟨b2, off2, cap2, rfl, hcap2, hcells2⟩ := cells_all hv2
          clear q0 HC hE2 hv2
          rw [HWD.out] at hcap2 hcells2
          have r0 := hcells2 0 (by simp)
          have r1 := hcells2 1 (by simp)
          simp only [List.getElem_cons_zero, List.getElem_cons_succ, Nat.add_zero] at r0 r1
          rw [HWD.out]
          simp only [List.length_cons, List.length_nil, Nat.zero_add, Nat.reduceAdd] at hcap2 ⊢
          clear hcells2
          have HC3 := Lib.hid (show ∀ j (h : j < mid.length), w2.cell? ⟨b, off + 1 + j, none⟩ = some (.string mid[j]) from fun j hj => by
            rw [HC2.out j (by omega)]
            congr 2
            simp only [HM.out]
            exact List.getElem_append_left hj)
          clear HC2 hmid
          rw [hml] at hcap qL h8
          clear HM
          generalize ws = ws' at *
          clear hwl2
          go_wp2_with fail
          refine (l01Number_any wa _ (by omega)).mono ?_
          rintro e wo ⟨n, ok0, rfl, hE3, hn, n0, n1⟩
          have HN := Lib.hid hn
          clear hn
          replace f2 : _ = false := (hE3.frozen (lt_of_cell d0)).trans f2
          replace f3 : _ = false := (hE3.frozen (lt_of_cell d1)).trans f3
          replace d0 := hE3.cell d0
          replace d1 := hE3.cell d1
          replace hE := hE.tr hE3
          have HC4 := Lib.hid (show ∀ j (h : j < mid.length), wo.cell? ⟨b, off + 1 + j, none⟩ = some (.string mid[j]) from fun j hj => hE3.cell (HC3.out j hj))
          have hdl := lt_of_cell d0
          dsimp only at hdl
          have HO0 := Lib.hid (show (ok0 = true → NumOf wa n ∧ (([] : List RelD).map relB = mid.take 0 ∧ ∀ r ∈ ([] : List RelD), SValidRel 4 r = true)) ∧ (ok0 = false → ∀ t, ¬ IsTmOf s t) from ⟨fun h => ⟨HN.out.1 h, rfl, by simp⟩, fun h t ht => by
            have h4 := (tmText_parts ht.1).1
            exact HN.out.2 h t.1 h4.1 h4.2 (HU.out t ht).1⟩)
          clear HC3 hE3 r0 r1 qL
          go_wp2_with fail
          go_loopw [7, 9] (fun okv i wr => TRel (NumOf wa n) s wo n mid okv i wr) (fun _ i _ => mid.length + 1 - (intOf i).toNat)
          case atStart =>
            refine ⟨0, ok0, .slice none 0 0, [], [], by omega, rfl, rfl, ⟨(Ext.refl' wo).alloc (Nat.le_refl _) _, OwnL.nil _, by simp, by simp, by omega, Nat.le_refl _, ?_, ?_, ?_⟩, by simp, HO0⟩ <;> simp [go_sem]
          case round =>
            obtain ⟨k, ok, tv, fp, rs, hk, rfl, rfl, hA, hrl, HOK⟩ := hrel
            have hfp1 := hA.ho.lt
            have hEo := hA.hE
            obtain ⟨ka, kc, rfl⟩ := hA.ho.form
            have a0 := hA.c0
            have a1 := hA.c1
            cases ok with
            | false =>
              have HS := Lib.hid (readTm_no hbig (HOK.out.2 rfl))
              have hE9 := hE.tr hEo
              replace f2 : _ = false := (hEo.frozen (lt_of_cell d0)).trans f2
              replace f3 : _ = false := (hEo.frozen (lt_of_cell d1)).trans f3
              replace d0 := hEo.cell d0
              replace d1 := hEo.cell d1
              by_cases hkl : k < mid.length
              · skip
                go_wp2_with fail
                rw [HS.out]
                exact bodyPost_ret (v := .tuple #[.agg #[.int .i64 0, .slice none 0 0], .int .i64 5]) (by simp [results, Tryz.results6, go_sem, d0, d1]) rfl (TmRes.no ((hE9.setCell (by simp <;> omega) _).setCell (by simp <;> omega) _))
              · skip
                go_wp2_with fail
                rw [HS.out]
                exact bodyPost_ret (v := .tuple #[.agg #[.int .i64 0, .slice none 0 0], .int .i64 5]) (by simp [results, Tryz.results6, go_sem, d0, d1]) rfl (TmRes.no ((hE9.setCell (by simp <;> omega) _).setCell (by simp <;> omega) _))
            | true =>
              have HOT := Lib.hid (HOK.out.1 rfl)
              by_cases hkl : k < mid.length
              · have q0 := hEo.cell (HC4.out k hkl)
                rw [show off + 1 + k = off + (k + 1) by omega] at q0
                have HST := Lib.hid (show ∀ (r : RelD) (ok : Bool), (ok = true → IsRelOf mid[k] r) → (ok = false → ∀ g, ¬ IsRelOf mid[k] g) → (ok = true → NumOf wa n ∧ (rs ++ [r]).map relB = mid.take (k + 1) ∧ ∀ x ∈ rs ++ [r], SValidRel 4 x = true) ∧ (ok = false → ∀ t, ¬ IsTmOf s t) from fun r ok h1 h2 => trel_step hkl HOT.out (fun t ht => (HU.out t ht).2) h1 h2)
                have hxs := hmz mid[k] (List.getElem_mem hkl)
                generalize mid[k] = x at *
                go_wp2_with fail
                refine (l01Read_any x _ (by omega)).mono ?_
                rintro e w5 ⟨r, ok, u, fx, rfl, hE5, hx, hfx, hy, hno⟩
                have HK := Lib.hid (HST.out r ok hy hno)
                clear hy hno
                have hB := hA.hB
                have hA5 := hA.ext hE5
                have q5 := hE5.size
                obtain ⟨xv, rfl, hxo⟩ := hx
                obtain ⟨xa, xc, rfl⟩ := hxo.form
                have hAB : Ext w5 (w5.alloc (.cells #[.int .i64 r.1, .slice xa r.2.length xc] 35)) := (Ext.refl' w5).alloc (Nat.le_refl _) _
                have hAC : Ext w5 ((w5.alloc (.cells #[.int .i64 r.1, .slice xa r.2.length xc] 35)).alloc (.cells #[.int .i64 r.1, .slice xa r.2.length xc] 35)) := hAB.alloc (by simp) _
                have a1 := hAB.cell (hA5.c1)
                clear hA
                go_wp2_with (at_builtin; (refine AccR.append (r := r) (hA5.ext hAC) (hxo.ext hAC) (fun g hg => by have := hfx g hg; omega) (fun g hg hm => by have := hfx g hg; have := hfp1 g hm; omega) (by omega) (b' := w5.heap.size + 1) (u := .slice xa r.2.length xc) (by simp [go_sem]) (by simp [go_sem]) rfl (.tmp 75) (.tmp 77) rfl rfl rfl ?_))
                intro v' w7 fp' k7 k8 hA7 ya yc hye
                subst hye
                clear hA5 hAB hAC hE5 hxo
                go_wp2_with fail
                go_roundw
                case rel => exact ⟨k + 1, ok, _, fp', rs ++ [r], by omega, by go_num, rfl, hA7, by simp; omega, HK⟩
                case measure => simp [intOf]; omega
              · have HMD := Lib.hid (show rs.map relB = mid by rw [HOT.out.2.1, List.take_of_length_le (by omega)])
                have hvr := HOT.out.2.2
                have hE9 := hE.tr hEo
                have hP : PtTm wr (.pointer (some ⟨wo.heap.size, 0, none⟩)) (n, rs) := ⟨_, _, _, rfl, a0, a1, hA.ho.rd⟩
                replace f2 : _ = false := (hEo.frozen (lt_of_cell d0)).trans f2
                replace f3 : _ = false := (hEo.frozen (lt_of_cell d1)).trans f3
                replace d0 := hEo.cell d0
                replace d1 := hEo.cell d1
                have hT : OwnTm wr (.agg #[.int .i64 n, .slice ka rs.length kc]) (n, rs) fp := ⟨_, rfl, hA.ho⟩
                have hfp3 := hA.hfp
                clear hA
                cases hv : SValidTemplate (n, rs) with
                | false =>
                  have HS := Lib.hid (readTm_no hbig fun t ht => by
                    have := tm_only (v := n) (L := rs) HW2.out HWD.out HOT.out.1 HMD.out hvr ht
                    rw [this] at ht
                    exact absurd (hv.symm.trans ht.1) (by decide))
                  go_wp2_with fail
                  refine (l01Template_any (n, rs) _ _ hP).mono ?_
                  rintro e w3 ⟨rfl, hE3⟩
                  rw [hv]
                  replace a0 := hE3.cell a0
                  replace a1 := hE3.cell a1
                  replace f2 : _ = false := (hE3.frozen (lt_of_cell d0)).trans f2
                  replace f3 : _ = false := (hE3.frozen (lt_of_cell d1)).trans f3
                  replace d0 := hE3.cell d0
                  replace d1 := hE3.cell d1
                  replace hT := hT.ext hE3
                  replace hE9 := hE9.tr hE3
                  go_wp2_with fail
                  rw [HS.out]
                  exact bodyPost_ret (v := .tuple #[.agg #[.int .i64 0, .slice none 0 0], .int .i64 5]) (by simp [results, Tryz.results6, go_sem, d0, d1]) rfl (TmRes.no ((hE9.setCell (by simp <;> omega) _).setCell (by simp <;> omega) _))
                | true =>
                  have HS := Lib.hid (readTm_yes (s := s) (t := (n, rs)) (tm_from HW2.out HWD.out HOT.out.1 HMD.out hv))
                  have hmk := tm_mk hv
                  go_wp2_with fail
                  refine (l01Template_any (n, rs) _ _ hP).mono ?_
                  rintro e w3 ⟨rfl, hE3⟩
                  rw [hv]
                  replace a0 := hE3.cell a0
                  replace a1 := hE3.cell a1
                  replace f2 : _ = false := (hE3.frozen (lt_of_cell d0)).trans f2
                  replace f3 : _ = false := (hE3.frozen (lt_of_cell d1)).trans f3
                  replace d0 := hE3.cell d0
                  replace d1 := hE3.cell d1
                  replace hT := hT.ext hE3
                  replace hE9 := hE9.tr hE3
                  go_wp2_with fail
                  rw [HS.out]
                  exact bodyPost_ret (v := .tuple #[.agg #[.int .i64 n, .slice ka rs.length kc], .int .i64 0]) (by simp [results, Tryz.results6, go_sem, d0, d1]) rfl
                    ⟨_, fp, rfl, (hE9.setCell (by simp <;> omega) _).setCell (by simp <;> omega) _, hT.off ((Off.set (fp := [w.heap.size]) (by simp)).trans (Off.set (by simp))) (fun h hh hm => by have := hfp3 h hh; simp at hm; omega), fun g hg => by have := hfp3 g hg; omega, hmk⟩
        · have HS := Lib.hid (readTm_no hbig fun t ht => by
            obtain ⟨_, _, u3⟩ := tm_head HW.out HWD.out ht
            refine hle ?_
            rw [← hlast]
            rw [u3, lastB_end])
          have hbl : (last.toList == ([] : List UInt8)) = false := by have := text_ne hle; rw [toList_eq ByteArray.empty] at this; exact this
          clear hl2 hwd hlast hle
          go_enter Tryz.func6, Tryz.ntmps6
          go_wp2_with fail
          refine (show Calls Tryz.prog 39 #[.string s, .int .u8 10] _ _ from l01Split_any 10 s _ hs).mono ?_
          rintro e w1 ⟨v, rfl, hE, hv⟩
          have d0 := hE.cell (p := ⟨w.heap.size, 0, none⟩) (v := .int .i64 0) (by simp [go_sem])
          have d1 := hE.cell (p := ⟨w.heap.size, 1, none⟩) (v := .slice none 0 0) (by simp [go_sem])
          have f2 := hE.frozen (p := ⟨w.heap.size, 0, none⟩) (by simp)
          have f3 := hE.frozen (p := ⟨w.heap.size, 1, none⟩) (by simp)
          simp [go_sem] at f2 f3
          replace hE := hE1.tr hE
          rw [HW.out] at hv
          obtain ⟨b, off, cap, rfl, hcap, hcells⟩ := cells_all hv
          have q0 := hcells 0 (by simp)
          have qL := cell_last hcells
          simp only [List.getElem_cons_zero, Nat.add_zero] at q0
          clear hv
          have HC := Lib.hid (show ∀ j (h : j < ws.length), w1.cell? ⟨b, off + 1 + j, none⟩ = some (.string ws[j]) from fun j hj => by
            have := hcells (j + 1) (by simp; omega)
            simp only [List.getElem_cons_succ] at this
            rw [show off + 1 + j = off + (j + 1) by omega]
            exact this)
          have hlen : (l0 :: ws : List ByteArray).length = ws.length + 1 := by simp
          rw [hlen] at hcap ⊢
          clear hcells hlen
          rw [HLA.out] at qL
          go_wp2_with fail
          refine (show Calls Tryz.prog 39 #[.string l0, .int .u8 32] _ _ from l01Split_any 32 l0 _ (by omega)).mono ?_
          rintro e w2 ⟨v2, rfl, hE2, hv2⟩
          replace f2 : _ = false := (hE2.frozen (lt_of_cell d0)).trans f2
          replace f3 : _ = false := (hE2.frozen (lt_of_cell d1)).trans f3
          replace d0 := hE2.cell d0
          replace d1 := hE2.cell d1
          replace hE := hE.tr hE2
          replace qL := hE2.cell qL
          have HC2 := Lib.hid (show ∀ j (h : j < ws.length), w2.cell? ⟨b, off + 1 + j, none⟩ = some (.string ws[j]) from fun j hj => hE2.cell (HC.out j hj))
          obtain ⟨b2, off2, cap2, rfl, hcap2, hcells2⟩ := cells_all hv2
          clear q0 HC hE2 hv2
          rw [HWD.out] at hcap2 hcells2
          have r0 := hcells2 0 (by simp)
          have r1 := hcells2 1 (by simp)
          simp only [List.getElem_cons_zero, List.getElem_cons_succ, Nat.add_zero] at r0 r1
          rw [HWD.out]
          simp only [List.length_cons, List.length_nil, Nat.zero_add, Nat.reduceAdd] at hcap2 ⊢
          clear hcells2
          go_wp2_with fail
          rw [HS.out]
          exact bodyPost_ret (v := .tuple #[.agg #[.int .i64 0, .slice none 0 0], .int .i64 5]) (by simp [results, Tryz.results6, go_sem, d0, d1]) rfl (TmRes.no ((hE.setCell (by simp <;> omega) _).setCell (by simp <;> omega) _))
    · have HS := Lib.hid (readTm_no hbig fun t ht => hh (tm_head HW.out HWD.out ht).1)
      have hbb2 : (h0.toList == ([116, 101, 109, 112, 108, 97, 116, 101] : List UInt8)) = false := by have := text_ne hh; rw [toList_eq ⟨#[116, 101, 109, 112, 108, 97, 116, 101]⟩] at this; exact this
      clear hl2 hwd hlast hh
      go_enter Tryz.func6, Tryz.ntmps6
      go_wp2_with fail
      refine (show Calls Tryz.prog 39 #[.string s, .int .u8 10] _ _ from l01Split_any 10 s _ hs).mono ?_
      rintro e w1 ⟨v, rfl, hE, hv⟩
      have d0 := hE.cell (p := ⟨w.heap.size, 0, none⟩) (v := .int .i64 0) (by simp [go_sem])
      have d1 := hE.cell (p := ⟨w.heap.size, 1, none⟩) (v := .slice none 0 0) (by simp [go_sem])
      have f2 := hE.frozen (p := ⟨w.heap.size, 0, none⟩) (by simp)
      have f3 := hE.frozen (p := ⟨w.heap.size, 1, none⟩) (by simp)
      simp [go_sem] at f2 f3
      replace hE := hE1.tr hE
      rw [HW.out] at hv
      obtain ⟨b, off, cap, rfl, hcap, hcells⟩ := cells_all hv
      have q0 := hcells 0 (by simp)
      have qL := cell_last hcells
      simp only [List.getElem_cons_zero, Nat.add_zero] at q0
      clear hv
      have HC := Lib.hid (show ∀ j (h : j < ws.length), w1.cell? ⟨b, off + 1 + j, none⟩ = some (.string ws[j]) from fun j hj => by
        have := hcells (j + 1) (by simp; omega)
        simp only [List.getElem_cons_succ] at this
        rw [show off + 1 + j = off + (j + 1) by omega]
        exact this)
      have hlen : (l0 :: ws : List ByteArray).length = ws.length + 1 := by simp
      rw [hlen] at hcap ⊢
      clear hcells hlen
      rw [HLA.out] at qL
      go_wp2_with fail
      refine (show Calls Tryz.prog 39 #[.string l0, .int .u8 32] _ _ from l01Split_any 32 l0 _ (by omega)).mono ?_
      rintro e w2 ⟨v2, rfl, hE2, hv2⟩
      replace f2 : _ = false := (hE2.frozen (lt_of_cell d0)).trans f2
      replace f3 : _ = false := (hE2.frozen (lt_of_cell d1)).trans f3
      replace d0 := hE2.cell d0
      replace d1 := hE2.cell d1
      replace hE := hE.tr hE2
      replace qL := hE2.cell qL
      have HC2 := Lib.hid (show ∀ j (h : j < ws.length), w2.cell? ⟨b, off + 1 + j, none⟩ = some (.string ws[j]) from fun j hj => hE2.cell (HC.out j hj))
      obtain ⟨b2, off2, cap2, rfl, hcap2, hcells2⟩ := cells_all hv2
      clear q0 HC hE2 hv2
      rw [HWD.out] at hcap2 hcells2
      have r0 := hcells2 0 (by simp)
      have r1 := hcells2 1 (by simp)
      simp only [List.getElem_cons_zero, List.getElem_cons_succ, Nat.add_zero] at r0 r1
      rw [HWD.out]
      simp only [List.length_cons, List.length_nil, Nat.zero_add, Nat.reduceAdd] at hcap2 ⊢
      clear hcells2
      go_wp2_with fail
      rw [HS.out]
      exact bodyPost_ret (v := .tuple #[.agg #[.int .i64 0, .slice none 0 0], .int .i64 5]) (by simp [results, Tryz.results6, go_sem, d0, d1]) rfl (TmRes.no ((hE.setCell (by simp <;> omega) _).setCell (by simp <;> omega) _))
  · have HS := Lib.hid (readTm_no hbig (tm_not_len HW.out hl2))
    have hlb : (((words 32 l0).length : Int) != 2) = true := by simp; omega
    clear hlast
    go_enter Tryz.func6, Tryz.ntmps6
    go_wp2_with fail
    refine (show Calls Tryz.prog 39 #[.string s, .int .u8 10] _ _ from l01Split_any 10 s _ hs).mono ?_
    rintro e w1 ⟨v, rfl, hE, hv⟩
    have d0 := hE.cell (p := ⟨w.heap.size, 0, none⟩) (v := .int .i64 0) (by simp [go_sem])
    have d1 := hE.cell (p := ⟨w.heap.size, 1, none⟩) (v := .slice none 0 0) (by simp [go_sem])
    have f2 := hE.frozen (p := ⟨w.heap.size, 0, none⟩) (by simp)
    have f3 := hE.frozen (p := ⟨w.heap.size, 1, none⟩) (by simp)
    simp [go_sem] at f2 f3
    replace hE := hE1.tr hE
    rw [HW.out] at hv
    obtain ⟨b, off, cap, rfl, hcap, hcells⟩ := cells_all hv
    have q0 := hcells 0 (by simp)
    have qL := cell_last hcells
    simp only [List.getElem_cons_zero, Nat.add_zero] at q0
    clear hv
    have HC := Lib.hid (show ∀ j (h : j < ws.length), w1.cell? ⟨b, off + 1 + j, none⟩ = some (.string ws[j]) from fun j hj => by
      have := hcells (j + 1) (by simp; omega)
      simp only [List.getElem_cons_succ] at this
      rw [show off + 1 + j = off + (j + 1) by omega]
      exact this)
    have hlen : (l0 :: ws : List ByteArray).length = ws.length + 1 := by simp
    rw [hlen] at hcap ⊢
    clear hcells hlen
    rw [HLA.out] at qL
    go_wp2_with fail
    refine (show Calls Tryz.prog 39 #[.string l0, .int .u8 32] _ _ from l01Split_any 32 l0 _ (by omega)).mono ?_
    rintro e w2 ⟨v2, rfl, hE2, hv2⟩
    replace f2 : _ = false := (hE2.frozen (lt_of_cell d0)).trans f2
    replace f3 : _ = false := (hE2.frozen (lt_of_cell d1)).trans f3
    replace d0 := hE2.cell d0
    replace d1 := hE2.cell d1
    replace hE := hE.tr hE2
    replace qL := hE2.cell qL
    have HC2 := Lib.hid (show ∀ j (h : j < ws.length), w2.cell? ⟨b, off + 1 + j, none⟩ = some (.string ws[j]) from fun j hj => hE2.cell (HC.out j hj))
    obtain ⟨b2, off2, cap2, rfl, hcap2, hcells2⟩ := cells_all hv2
    clear q0 HC hE2 hv2
    clear hcells2
    generalize (words 32 l0).length = hl at *
    go_wp2_with fail
    rw [HS.out]
    exact bodyPost_ret (v := .tuple #[.agg #[.int .i64 0, .slice none 0 0], .int .i64 5]) (by simp [results, Tryz.results6, go_sem, d0, d1]) rfl (TmRes.no ((hE.setCell (by simp <;> omega) _).setCell (by simp <;> omega) _))
end Go.Proofs.YtajkepdfemdagaaGreatDoor
