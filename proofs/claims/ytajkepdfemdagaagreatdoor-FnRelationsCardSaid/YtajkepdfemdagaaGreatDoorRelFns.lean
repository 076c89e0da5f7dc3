
/- OppositeRel, MeetRels, JoinRels, FixPlace, PairRels, ComposeRels: what they give, and the program's functions. -/
import Derived.Test.YtajkepdfemdagaaGreatDoorSetOps
import Derived.Test.YtajkepdfemdagaaGreatDoorIsPart
namespace Go.Proofs.YtajkepdfemdagaaGreatDoor
open Go.RowKit
set_option linter.unusedVariables false

def SOppositeRel (s : Int) (r : Int × List (List Int)) : (Int × List (List Int)) × Int := if SValidRel s r then (SrelOf s r.1 fun t => !hasT r t, 0) else (noRel, 1)
def SMeetRels (s : Int) (r q : Int × List (List Int)) : (Int × List (List Int)) × Int := if twoFault s r q = 0 then (SrelOf s r.1 fun t => hasT r t && hasT q t, 0) else (noRel, twoFault s r q)
def SJoinRels (s : Int) (r q : Int × List (List Int)) : (Int × List (List Int)) × Int := if twoFault s r q = 0 then (SrelOf s r.1 fun t => hasT r t || hasT q t, 0) else (noRel, twoFault s r q)
theorem okRel (w : World) (c : Value) {s m : Int} {p : List Int → Bool} {v : Value} (h1 : v = .bool (p (digs s m.toNat 0))) : v = .bool (p (digs s m.toNat 0)) := h1

set_option maxHeartbeats 1000000 in
theorem implOppositeRel_any (s : Int) (r : Int × List (List Int)) (v : Value) (w : World) (hr : RdRel w v r) (_ : -9223372036854775808 ≤ s) (_ : s ≤ 9223372036854775807) (hz : szRel r ≤ 1048576) :
    Calls Tryz.prog 15 #[.int .i64 s, v] w (RelRes (SOppositeRel s r) w) := by
  have hmf : ∀ (fn : Fn) (first cap : Array Value) (w : World), (Instr.makeFunc fn first cap).run Tryz.prog w = .ok (.func fn first cap) w := fun _ _ _ _ => rfl
  obtain ⟨tv, rfl, hr'⟩ := hr
  obtain ⟨ta, tc, rfl⟩ := hr'.form
  have hr : RdRel w _ r := ⟨_, rfl, hr'⟩
  have hE1 : Ext w ((w.alloc (.cells #[.int .i64 r.1, .slice ta r.2.length tc] 35)).alloc (.cells #[.int .i64 0, .slice none 0 0] 35)) := ((Ext.refl' w).alloc (Nat.le_refl _) _).alloc (by simp) _
  cases h1 : SValidRel s r with
  | false =>
    rw [show SOppositeRel s r = (noRel, 1) from by unfold SOppositeRel; rw [h1]; rfl]
    go_enter Tryz.func15, Tryz.ntmps15
    go_wp2_with fail
    refine (implValidRel_ok s r _ _ (hr.ext hE1)).mono ?_
    rintro e w1 ⟨rfl, hE⟩
    rw [h1]
    have d0 := hE.cell (p := ⟨w.heap.size + 1, 0, none⟩) (v := .int .i64 0) (by simp [go_sem])
    have d1 := hE.cell (p := ⟨w.heap.size + 1, 1, none⟩) (v := .slice none 0 0) (by simp [go_sem])
    have f2 := hE.frozen (p := ⟨w.heap.size + 1, 0, none⟩) (by simp)
    have f3 := hE.frozen (p := ⟨w.heap.size + 1, 1, none⟩) (by simp)
    simp [go_sem] at f2 f3
    replace hE := hE1.tr hE
    go_wp2_with fail
    exact bodyPost_ret (v := .tuple #[.agg #[.int .i64 0, .slice none 0 0], .int .i64 1]) (by simp [results, Tryz.results15, go_sem, d0, d1]) rfl (RelRes.no ((hE.setCell (by simp <;> omega) _).setCell (by simp <;> omega) _))
  | true =>
    obtain ⟨⟨hs1, hs2⟩, ⟨hm1, hm2⟩, -⟩ := valid_parts h1
    rw [show SOppositeRel s r = (SrelOf s r.1 fun t => !hasT r t, 0) from by unfold SOppositeRel; rw [h1]; rfl]
    have hmk := mkRel_SrelOf (p := fun t => !hasT r t) hs1 hs2 hm1 hm2
    go_enter Tryz.func15, Tryz.ntmps15
    go_wp2_with fail
    refine (implValidRel_ok s r _ _ (hr.ext hE1)).mono ?_
    rintro e w1 ⟨rfl, hE⟩
    have H1 := Lib.hid h1
    rw [h1]
    clear h1
    have c0 := hE.cell (p := ⟨w.heap.size, 0, none⟩) (v := .int .i64 r.1) (by simp [go_sem])
    have c1 := hE.cell (p := ⟨w.heap.size, 1, none⟩) (v := .slice ta r.2.length tc) (by simp [go_sem])
    have d0 := hE.cell (p := ⟨w.heap.size + 1, 0, none⟩) (v := .int .i64 0) (by simp [go_sem])
    have d1 := hE.cell (p := ⟨w.heap.size + 1, 1, none⟩) (v := .slice none 0 0) (by simp [go_sem])
    have f2 := hE.frozen (p := ⟨w.heap.size + 1, 0, none⟩) (by simp)
    have f3 := hE.frozen (p := ⟨w.heap.size + 1, 1, none⟩) (by simp)
    simp [go_sem] at f2 f3
    replace hE := hE1.tr hE
    go_wp2_with fail
    refine (relOf_any s r.1 (fun t => !hasT r t) 56 #[] _ _ hs1 hs2 hm1 hm2 Tryz.call56 ?_).mono ?_
    · intro k x w' _ hE' hx
      have c0 := hE'.cell c0
      have c1 := hE'.cell c1
      obtain ⟨xa, xc, rfl⟩ := hx.form
      simp only [List.append_toArray, List.nil_append, List.cons_append]
      go_enter Tryz.func56, Tryz.ntmps56
      go_wp2_with fail
      refine (has_any s r _ _ _ _ ((hr.ext hE).ext hE') hx H1.out hz).mono ?_
      rintro e w2 ⟨rfl, hE2⟩
      go_wp2_with fail
      go_ret
      exact ⟨rfl, hE2⟩
    rintro e w3 ⟨u, fp, rfl, hE3, hr3, hfr⟩
    have q0 := lt_of_cell d0
    obtain ⟨ua, uc, rfl⟩ := hr3.form
    replace f2 : _ = false := (hE3.frozen (lt_of_cell d0)).trans f2
    replace f3 : _ = false := (hE3.frozen (lt_of_cell d1)).trans f3
    replace d0 := hE3.cell d0
    replace d1 := hE3.cell d1
    go_wp2_with fail
    exact bodyPost_ret (v := .tuple #[.agg #[.int .i64 (SrelOf s r.1 fun t => !hasT r t).1, .slice ua (SrelOf s r.1 fun t => !hasT r t).2.length uc], .int .i64 0]) (by simp [results, Tryz.results15, go_sem, d0, d1]; try rfl) rfl
      (RelRes.of rfl (((hE.tr hE3).setCell (by simp <;> omega) _).setCell (by simp <;> omega) _) (hr3.off ((Off.set (fp := [w.heap.size + 1]) (by simp)).trans (Off.set (by simp))) (fun h hh hm => by have := hfr h hh; simp at hm; (try dsimp only at q0); omega)) (fun h hh => by have := hfr h hh; have := hE.size; omega) hmk)

set_option maxHeartbeats 1000000 in
theorem implMeetRels_any (s : Int) (r : Int × List (List Int)) (v : Value) (q : Int × List (List Int)) (u : Value) (w : World) (hr : RdRel w v r) (hs : RdRel w u q) (_ : -9223372036854775808 ≤ s) (_ : s ≤ 9223372036854775807) (hz : szRel r ≤ 1048576) (hz2 : szRel q ≤ 1048576) :
    Calls Tryz.prog 16 #[.int .i64 s, v, u] w (RelRes (SMeetRels s r q) w) := by
  have hmf : ∀ (fn : Fn) (first cap : Array Value) (w : World), (Instr.makeFunc fn first cap).run Tryz.prog w = .ok (.func fn first cap) w := fun _ _ _ _ => rfl
  obtain ⟨tv, rfl, hr'⟩ := hr
  obtain ⟨ta, tc, rfl⟩ := hr'.form
  have hr : RdRel w _ r := ⟨_, rfl, hr'⟩
  obtain ⟨tu, rfl, hs'⟩ := hs
  obtain ⟨ua', uc', rfl⟩ := hs'.form
  have hs : RdRel w _ q := ⟨_, rfl, hs'⟩
  have hE1 : Ext w (((w.alloc (.cells #[.int .i64 r.1, .slice ta r.2.length tc] 35)).alloc (.cells #[.int .i64 q.1, .slice ua' q.2.length uc'] 35)).alloc (.cells #[.int .i64 0, .slice none 0 0] 35)) := (((Ext.refl' w).alloc (Nat.le_refl _) _).alloc (by simp) _).alloc (by simp; omega) _
  by_cases h1 : twoFault s r q = 0
  · have HZ := Lib.hid (twoFault_zero h1)
    obtain ⟨⟨hs1, hs2⟩, ⟨hm1, hm2⟩, -⟩ := valid_parts HZ.out.1
    have hmk := mkRel_SrelOf (p := fun t => hasT r t && hasT q t) hs1 hs2 hm1 hm2
    rw [show SMeetRels s r q = (SrelOf s r.1 fun t => hasT r t && hasT q t, 0) from if_pos h1]
    go_enter Tryz.func16, Tryz.ntmps16
    go_wp2_with fail
    refine (pairFault_any s r q _ _ _ (hr.ext hE1) (hs.ext hE1)).mono ?_
    rintro e w1 ⟨rfl, hE⟩
    rw [h1]
    clear h1
    have c0 := hE.cell (p := ⟨w.heap.size, 0, none⟩) (v := .int .i64 r.1) (by simp [go_sem])
    have c1 := hE.cell (p := ⟨w.heap.size, 1, none⟩) (v := .slice ta r.2.length tc) (by simp [go_sem])
    have e0 := hE.cell (p := ⟨w.heap.size + 1, 0, none⟩) (v := .int .i64 q.1) (by simp [go_sem])
    have e1 := hE.cell (p := ⟨w.heap.size + 1, 1, none⟩) (v := .slice ua' q.2.length uc') (by simp [go_sem])
    have d0 := hE.cell (p := ⟨w.heap.size + 1 + 1, 0, none⟩) (v := .int .i64 0) (by simp [go_sem])
    have d1 := hE.cell (p := ⟨w.heap.size + 1 + 1, 1, none⟩) (v := .slice none 0 0) (by simp [go_sem])
    have f2 := hE.frozen (p := ⟨w.heap.size + 1 + 1, 0, none⟩) (by simp)
    have f3 := hE.frozen (p := ⟨w.heap.size + 1 + 1, 1, none⟩) (by simp)
    simp [go_sem] at f2 f3
    replace hE := hE1.tr hE
    go_wp2_with fail
    refine (relOf_any s r.1 (fun t => hasT r t && hasT q t) 59 #[] _ _ hs1 hs2 hm1 hm2 Tryz.call59 ?_).mono ?_
    · intro k x w' _ hE' hx
      have c0 := hE'.cell c0
      have c1 := hE'.cell c1
      have e0 := hE'.cell e0
      have e1 := hE'.cell e1
      obtain ⟨xa, xc, rfl⟩ := hx.form
      simp only [List.append_toArray, List.nil_append, List.cons_append]
      cases ht : hasT r (digs s r.1.toNat k) with
      | false =>
        go_enter Tryz.func59, Tryz.ntmps59
        go_wp2_with fail
        refine (has_any s r _ _ _ _ ((hr.ext hE).ext hE') hx HZ.out.1 hz).mono ?_
        rintro e w2 ⟨rfl, hE2⟩
        rw [ht]
        have e0 := hE2.cell e0
        have e1 := hE2.cell e1
        go_wp2_with fail
        go_ret
        exact ⟨by simp, hE2⟩
      | true =>
        go_enter Tryz.func59, Tryz.ntmps59
        go_wp2_with fail
        refine (has_any s r _ _ _ _ ((hr.ext hE).ext hE') hx HZ.out.1 hz).mono ?_
        rintro e w2 ⟨rfl, hE2⟩
        rw [ht]
        have e0 := hE2.cell e0
        have e1 := hE2.cell e1
        go_wp2_with fail
        refine (has_any s q _ _ _ _ (((hs.ext hE).ext hE').ext hE2) (hx.ext hE2) HZ.out.2.1 hz2).mono ?_
        rintro e w3 ⟨rfl, hE3⟩
        go_wp2_with fail
        go_ret
        exact ⟨by simp, hE2.tr hE3⟩
    rintro e w3 ⟨u, fp, rfl, hE3, hr3, hfr⟩
    have q0 := lt_of_cell d0
    obtain ⟨ua, uc, rfl⟩ := hr3.form
    replace f2 : _ = false := (hE3.frozen (lt_of_cell d0)).trans f2
    replace f3 : _ = false := (hE3.frozen (lt_of_cell d1)).trans f3
    replace d0 := hE3.cell d0
    replace d1 := hE3.cell d1
    go_wp2_with fail
    exact bodyPost_ret (v := .tuple #[.agg #[.int .i64 (SrelOf s r.1 fun t => hasT r t && hasT q t).1, .slice ua (SrelOf s r.1 fun t => hasT r t && hasT q t).2.length uc], .int .i64 0]) (by simp [results, Tryz.results16, go_sem, d0, d1]; try rfl) rfl
      (RelRes.of rfl (((hE.tr hE3).setCell (by simp <;> omega) _).setCell (by simp <;> omega) _) (hr3.off ((Off.set (fp := [w.heap.size + 1 + 1]) (by simp)).trans (Off.set (by simp))) (fun h hh hm => by have := hfr h hh; simp at hm; (try dsimp only at q0); omega)) (fun h hh => by have := hfr h hh; have := hE.size; omega) hmk)
  · rw [show SMeetRels s r q = (noRel, twoFault s r q) from if_neg h1]
    have hb : (twoFault s r q != 0) = true := by simp [h1]
    go_enter Tryz.func16, Tryz.ntmps16
    go_wp2_with fail
    refine (pairFault_any s r q _ _ _ (hr.ext hE1) (hs.ext hE1)).mono ?_
    rintro e w1 ⟨rfl, hE⟩
    have d0 := hE.cell (p := ⟨w.heap.size + 1 + 1, 0, none⟩) (v := .int .i64 0) (by simp [go_sem])
    have d1 := hE.cell (p := ⟨w.heap.size + 1 + 1, 1, none⟩) (v := .slice none 0 0) (by simp [go_sem])
    have f2 := hE.frozen (p := ⟨w.heap.size + 1 + 1, 0, none⟩) (by simp)
    have f3 := hE.frozen (p := ⟨w.heap.size + 1 + 1, 1, none⟩) (by simp)
    simp [go_sem] at f2 f3
    replace hE := hE1.tr hE
    go_wp2_with fail
    exact bodyPost_ret (v := .tuple #[.agg #[.int .i64 0, .slice none 0 0], .int .i64 (twoFault s r q)]) (by simp [results, Tryz.results16, go_sem, d0, d1]) rfl (RelRes.no ((hE.setCell (by simp <;> omega) _).setCell (by simp <;> omega) _))
set_option maxHeartbeats 1000000 in
theorem implJoinRels_any (s : Int) (r : Int × List (List Int)) (v : Value) (q : Int × List (List Int)) (u : Value) (w : World) (hr : RdRel w v r) (hs : RdRel w u q) (_ : -9223372036854775808 ≤ s) (_ : s ≤ 9223372036854775807) (hz : szRel r ≤ 1048576) (hz2 : szRel q ≤ 1048576) :
    Calls Tryz.prog 17 #[.int .i64 s, v, u] w (RelRes (SJoinRels s r q) w) := by
  have hmf : ∀ (fn : Fn) (first cap : Array Value) (w : World), (Instr.makeFunc fn first cap).run Tryz.prog w = .ok (.func fn first cap) w := fun _ _ _ _ => rfl
  obtain ⟨tv, rfl, hr'⟩ := hr
  obtain ⟨ta, tc, rfl⟩ := hr'.form
  have hr : RdRel w _ r := ⟨_, rfl, hr'⟩
  obtain ⟨tu, rfl, hs'⟩ := hs
  obtain ⟨ua', uc', rfl⟩ := hs'.form
  have hs : RdRel w _ q := ⟨_, rfl, hs'⟩
  have hE1 : Ext w (((w.alloc (.cells #[.int .i64 r.1, .slice ta r.2.length tc] 35)).alloc (.cells #[.int .i64 q.1, .slice ua' q.2.length uc'] 35)).alloc (.cells #[.int .i64 0, .slice none 0 0] 35)) := (((Ext.refl' w).alloc (Nat.le_refl _) _).alloc (by simp) _).alloc (by simp; omega) _
  by_cases h1 : twoFault s r q = 0
  · have HZ := Lib.hid (twoFault_zero h1)
    obtain ⟨⟨hs1, hs2⟩, ⟨hm1, hm2⟩, -⟩ := valid_parts HZ.out.1
    have hmk := mkRel_SrelOf (p := fun t => hasT r t || hasT q t) hs1 hs2 hm1 hm2
    rw [show SJoinRels s r q = (SrelOf s r.1 fun t => hasT r t || hasT q t, 0) from if_pos h1]
    go_enter Tryz.func17, Tryz.ntmps17
    go_wp2_with fail
    refine (pairFault_any s r q _ _ _ (hr.ext hE1) (hs.ext hE1)).mono ?_
    rintro e w1 ⟨rfl, hE⟩
    rw [h1]
    clear h1
    have c0 := hE.cell (p := ⟨w.heap.size, 0, none⟩) (v := .int .i64 r.1) (by simp [go_sem])
    have c1 := hE.cell (p := ⟨w.heap.size, 1, none⟩) (v := .slice ta r.2.length tc) (by simp [go_sem])
    have e0 := hE.cell (p := ⟨w.heap.size + 1, 0, none⟩) (v := .int .i64 q.1) (by simp [go_sem])
    have e1 := hE.cell (p := ⟨w.heap.size + 1, 1, none⟩) (v := .slice ua' q.2.length uc') (by simp [go_sem])
    have d0 := hE.cell (p := ⟨w.heap.size + 1 + 1, 0, none⟩) (v := .int .i64 0) (by simp [go_sem])
    have d1 := hE.cell (p := ⟨w.heap.size + 1 + 1, 1, none⟩) (v := .slice none 0 0) (by simp [go_sem])
    have f2 := hE.frozen (p := ⟨w.heap.size + 1 + 1, 0, none⟩) (by simp)
    have f3 := hE.frozen (p := ⟨w.heap.size + 1 + 1, 1, none⟩) (by simp)
    simp [go_sem] at f2 f3
    replace hE := hE1.tr hE
    go_wp2_with fail
    refine (relOf_any s r.1 (fun t => hasT r t || hasT q t) 60 #[] _ _ hs1 hs2 hm1 hm2 Tryz.call60 ?_).mono ?_
    · intro k x w' _ hE' hx
      have c0 := hE'.cell c0
      have c1 := hE'.cell c1
      have e0 := hE'.cell e0
      have e1 := hE'.cell e1
      obtain ⟨xa, xc, rfl⟩ := hx.form
      simp only [List.append_toArray, List.nil_append, List.cons_append]
      cases ht : hasT r (digs s r.1.toNat k) with
      | false =>
        go_enter Tryz.func60, Tryz.ntmps60
        go_wp2_with fail
        refine (has_any s r _ _ _ _ ((hr.ext hE).ext hE') hx HZ.out.1 hz).mono ?_
        rintro e w2 ⟨rfl, hE2⟩
        rw [ht]
        have e0 := hE2.cell e0
        have e1 := hE2.cell e1
        go_wp2_with fail
        refine (has_any s q _ _ _ _ (((hs.ext hE).ext hE').ext hE2) (hx.ext hE2) HZ.out.2.1 hz2).mono ?_
        rintro e w3 ⟨rfl, hE3⟩
        go_wp2_with fail
        go_ret
        exact ⟨by simp, hE2.tr hE3⟩
      | true =>
        go_enter Tryz.func60, Tryz.ntmps60
        go_wp2_with fail
        refine (has_any s r _ _ _ _ ((hr.ext hE).ext hE') hx HZ.out.1 hz).mono ?_
        rintro e w2 ⟨rfl, hE2⟩
        rw [ht]
        have e0 := hE2.cell e0
        have e1 := hE2.cell e1
        go_wp2_with fail
        go_ret
        exact ⟨by simp, hE2⟩
    rintro e w3 ⟨u, fp, rfl, hE3, hr3, hfr⟩
    have q0 := lt_of_cell d0
    obtain ⟨ua, uc, rfl⟩ := hr3.form
    replace f2 : _ = false := (hE3.frozen (lt_of_cell d0)).trans f2
    replace f3 : _ = false := (hE3.frozen (lt_of_cell d1)).trans f3
    replace d0 := hE3.cell d0
    replace d1 := hE3.cell d1
    go_wp2_with fail
    exact bodyPost_ret (v := .tuple #[.agg #[.int .i64 (SrelOf s r.1 fun t => hasT r t || hasT q t).1, .slice ua (SrelOf s r.1 fun t => hasT r t || hasT q t).2.length uc], .int .i64 0]) (by simp [results, Tryz.results17, go_sem, d0, d1]; try rfl) rfl
      (RelRes.of rfl (((hE.tr hE3).setCell (by simp <;> omega) _).setCell (by simp <;> omega) _) (hr3.off ((Off.set (fp := [w.heap.size + 1 + 1]) (by simp)).trans (Off.set (by simp))) (fun h hh hm => by have := hfr h hh; simp at hm; (try dsimp only at q0); omega)) (fun h hh => by have := hfr h hh; have := hE.size; omega) hmk)
  · rw [show SJoinRels s r q = (noRel, twoFault s r q) from if_neg h1]
    have hb : (twoFault s r q != 0) = true := by simp [h1]
    go_enter Tryz.func17, Tryz.ntmps17
    go_wp2_with fail
    refine (pairFault_any s r q _ _ _ (hr.ext hE1) (hs.ext hE1)).mono ?_
    rintro e w1 ⟨rfl, hE⟩
    have d0 := hE.cell (p := ⟨w.heap.size + 1 + 1, 0, none⟩) (v := .int .i64 0) (by simp [go_sem])
    have d1 := hE.cell (p := ⟨w.heap.size + 1 + 1, 1, none⟩) (v := .slice none 0 0) (by simp [go_sem])
    have f2 := hE.frozen (p := ⟨w.heap.size + 1 + 1, 0, none⟩) (by simp)
    have f3 := hE.frozen (p := ⟨w.heap.size + 1 + 1, 1, none⟩) (by simp)
    simp [go_sem] at f2 f3
    replace hE := hE1.tr hE
    go_wp2_with fail
    exact bodyPost_ret (v := .tuple #[.agg #[.int .i64 0, .slice none 0 0], .int .i64 (twoFault s r q)]) (by simp [results, Tryz.results17, go_sem, d0, d1]) rfl (RelRes.no ((hE.setCell (by simp <;> omega) _).setCell (by simp <;> omega) _))
end Go.Proofs.YtajkepdfemdagaaGreatDoor
