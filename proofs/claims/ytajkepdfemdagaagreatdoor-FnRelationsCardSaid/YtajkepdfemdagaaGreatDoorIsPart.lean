
/- IsPartOf: the program's and the reference's give one function's answers. -/
import Derived.Test.YtajkepdfemdagaaGreatDoorPart
namespace Go.Proofs.YtajkepdfemdagaaGreatDoor
open Go.RowKit
set_option linter.unusedVariables false

set_option maxHeartbeats 1000000 in
theorem pairFault_any (s : Int) (r q : Int × List (List Int)) (v u : Value) (w : World) (hr : RdRel w v r) (hs : RdRel w u q) :
    Calls Tryz.prog 58 #[.int .i64 s, v, u] w fun e w' => e = .returned (.int .i64 (twoFault s r q)) ∧ Ext w w' := by
  obtain ⟨tv, rfl, hr'⟩ := hr
  obtain ⟨ta, tc, rfl⟩ := hr'.form
  have hr : RdRel w _ r := ⟨_, rfl, hr'⟩
  obtain ⟨tu, rfl, hs'⟩ := hs
  obtain ⟨ua, uc, rfl⟩ := hs'.form
  have hs : RdRel w _ q := ⟨_, rfl, hs'⟩
  have hE1 : Ext w ((w.alloc (.cells #[.int .i64 r.1, .slice ta r.2.length tc] 35)).alloc (.cells #[.int .i64 q.1, .slice ua q.2.length uc] 35)) := ((Ext.refl' w).alloc (Nat.le_refl _) _).alloc (by simp) _
  cases h1 : SValidRel s r with
  | false =>
    have HV := Lib.hid (show twoFault s r q = 1 from by unfold twoFault; rw [h1]; rfl)
    go_enter Tryz.func58, Tryz.ntmps58
    go_wp2_with fail
    refine (implValidRel_ok s r _ _ (hr.ext hE1)).mono ?_
    rintro e w2 ⟨rfl, hE⟩
    rw [h1]
    have c0 := hE.cell (p := ⟨w.heap.size, 0, none⟩) (v := .int .i64 r.1) (by simp [go_sem])
    have d0 := hE.cell (p := ⟨w.heap.size + 1, 0, none⟩) (v := .int .i64 q.1) (by simp [go_sem])
    have d1 := hE.cell (p := ⟨w.heap.size + 1, 1, none⟩) (v := .slice ua q.2.length uc) (by simp [go_sem])
    replace hE := hE1.tr hE
    go_wp2_with fail
    go_ret
    exact ⟨ret_int HV.out.symm, hE⟩
  | true =>
    cases h2 : SValidRel s q with
    | false =>
      have HV := Lib.hid (show twoFault s r q = 1 from by unfold twoFault; rw [h1, h2]; rfl)
      go_enter Tryz.func58, Tryz.ntmps58
      go_wp2_with fail
      refine (implValidRel_ok s r _ _ (hr.ext hE1)).mono ?_
      rintro e w2 ⟨rfl, hE⟩
      rw [h1]
      have c0 := hE.cell (p := ⟨w.heap.size, 0, none⟩) (v := .int .i64 r.1) (by simp [go_sem])
      have d0 := hE.cell (p := ⟨w.heap.size + 1, 0, none⟩) (v := .int .i64 q.1) (by simp [go_sem])
      have d1 := hE.cell (p := ⟨w.heap.size + 1, 1, none⟩) (v := .slice ua q.2.length uc) (by simp [go_sem])
      replace hE := hE1.tr hE
      go_wp2_with fail
      refine (implValidRel_ok s q _ _ (hs.ext hE)).mono ?_
      rintro e w3 ⟨rfl, hE2⟩
      rw [h2]
      go_wp2_with fail
      go_ret
      exact ⟨ret_int HV.out.symm, hE.tr hE2⟩
    | true =>
      by_cases h3 : r.1 = q.1
      · have hb : (r.1 != q.1) = false := by simp [h3]
        have HV := Lib.hid (show twoFault s r q = 0 from by unfold twoFault; rw [h1, h2, if_pos h3]; rfl)
        clear h3
        go_enter Tryz.func58, Tryz.ntmps58
        go_wp2_with fail
        refine (implValidRel_ok s r _ _ (hr.ext hE1)).mono ?_
        rintro e w2 ⟨rfl, hE⟩
        rw [h1]
        have c0 := hE.cell (p := ⟨w.heap.size, 0, none⟩) (v := .int .i64 r.1) (by simp [go_sem])
        have d0 := hE.cell (p := ⟨w.heap.size + 1, 0, none⟩) (v := .int .i64 q.1) (by simp [go_sem])
        have d1 := hE.cell (p := ⟨w.heap.size + 1, 1, none⟩) (v := .slice ua q.2.length uc) (by simp [go_sem])
        replace hE := hE1.tr hE
        go_wp2_with fail
        refine (implValidRel_ok s q _ _ (hs.ext hE)).mono ?_
        rintro e w3 ⟨rfl, hE2⟩
        rw [h2]
        replace c0 := hE2.cell c0
        replace d0 := hE2.cell d0
        go_wp2_with fail
        go_ret
        exact ⟨ret_int HV.out.symm, hE.tr hE2⟩
      · have hb : (r.1 != q.1) = true := by simp [h3]
        have HV := Lib.hid (show twoFault s r q = 2 from by unfold twoFault; rw [h1, h2, if_neg h3]; rfl)
        clear h3
        go_enter Tryz.func58, Tryz.ntmps58
        go_wp2_with fail
        refine (implValidRel_ok s r _ _ (hr.ext hE1)).mono ?_
        rintro e w2 ⟨rfl, hE⟩
        rw [h1]
        have c0 := hE.cell (p := ⟨w.heap.size, 0, none⟩) (v := .int .i64 r.1) (by simp [go_sem])
        have d0 := hE.cell (p := ⟨w.heap.size + 1, 0, none⟩) (v := .int .i64 q.1) (by simp [go_sem])
        have d1 := hE.cell (p := ⟨w.heap.size + 1, 1, none⟩) (v := .slice ua q.2.length uc) (by simp [go_sem])
        replace hE := hE1.tr hE
        go_wp2_with fail
        refine (implValidRel_ok s q _ _ (hs.ext hE)).mono ?_
        rintro e w3 ⟨rfl, hE2⟩
        rw [h2]
        replace c0 := hE2.cell c0
        replace d0 := hE2.cell d0
        go_wp2_with fail
        go_ret
        exact ⟨ret_int HV.out.symm, hE.tr hE2⟩
theorem twoFault_zero {s : Int} {r q : Int × List (List Int)} (h : twoFault s r q = 0) : SValidRel s r = true ∧ SValidRel s q = true ∧ r.1 = q.1 := by
  unfold twoFault at h
  cases h1 : SValidRel s r <;> cases h2 : SValidRel s q <;> rw [h1, h2] at h
  · simp at h
  · simp at h
  · simp at h
  · by_cases h3 : r.1 = q.1
    · exact ⟨rfl, rfl, h3⟩
    · simp [h3] at h


set_option maxHeartbeats 1000000 in
theorem implIsPartOf_any (s : Int) (r : Int × List (List Int)) (v : Value) (q : Int × List (List Int)) (u : Value) (w : World) (hr : RdRel w v r) (hs : RdRel w u q) (_ : -9223372036854775808 ≤ s) (_ : s ≤ 9223372036854775807) (hz : szRel r ≤ 1048576) (hz2 : szRel q ≤ 1048576) :
    Calls Tryz.prog 23 #[.int .i64 s, v, u] w fun e w' => e = .returned (.tuple #[.bool (SIsPartOf s r q).1, .int .i64 (SIsPartOf s r q).2]) ∧ Ext w w' := by
  have hmf : ∀ (fn : Fn) (first cap : Array Value) (w : World), (Instr.makeFunc fn first cap).run Tryz.prog w = .ok (.func fn first cap) w := fun _ _ _ _ => rfl
  obtain ⟨tv, rfl, hr'⟩ := hr
  obtain ⟨ta, tc, rfl⟩ := hr'.form
  have hr : RdRel w _ r := ⟨_, rfl, hr'⟩
  obtain ⟨tu, rfl, hs'⟩ := hs
  obtain ⟨ua, uc, rfl⟩ := hs'.form
  have hs : RdRel w _ q := ⟨_, rfl, hs'⟩
  have hE1 : Ext w ((w.alloc (.cells #[.int .i64 r.1, .slice ta r.2.length tc] 35)).alloc (.cells #[.int .i64 q.1, .slice ua q.2.length uc] 35)) := ((Ext.refl' w).alloc (Nat.le_refl _) _).alloc (by simp) _
  by_cases h1 : twoFault s r q = 0
  · rw [show SIsPartOf s r q = (partOf r q, 0) from if_pos h1]
    have HZ := Lib.hid (twoFault_zero h1)
    have HP := Lib.hid (show (!(r.2.any fun t => !hasT q t)) = partOf r q from by unfold partOf; rw [List.any_eq_not_all_not]; simp)
    go_enter Tryz.func23, Tryz.ntmps23
    go_wp2_with fail
    refine (pairFault_any s r q _ _ _ (hr.ext hE1) (hs.ext hE1)).mono ?_
    rintro e w1 ⟨rfl, hE⟩
    rw [h1]
    have c1 := hE.cell (p := ⟨w.heap.size, 1, none⟩) (v := .slice ta r.2.length tc) (by simp [go_sem])
    have d0 := hE.cell (p := ⟨w.heap.size + 1, 0, none⟩) (v := .int .i64 q.1) (by simp [go_sem])
    have d1 := hE.cell (p := ⟨w.heap.size + 1, 1, none⟩) (v := .slice ua q.2.length uc) (by simp [go_sem])
    replace hE := hE1.tr hE
    go_wp2_with fail
    refine (containsFuncII_any (fun t => !hasT q t) r.2 _ _ _ _ _ (hr'.ext hE) Tryz.call70 ?_).mono ?_
    · intro t _ vt w' hE' ht
      have d0 := hE'.cell d0
      have d1 := hE'.cell d1
      simp only [List.append_toArray, List.nil_append, List.cons_append]
      go_enter Tryz.func70, Tryz.ntmps70
      go_wp2_with fail
      refine (has_any s q _ t _ _ ((hs.ext hE).ext hE') ht HZ.out.2.1 hz2).mono ?_
      rintro e w2 ⟨rfl, hE2⟩
      go_wp2_with fail
      go_ret
      exact ⟨rfl, hE2⟩
    rintro e w2 ⟨rfl, hE2⟩
    go_wp2_with fail
    go_ret2
    rw [HP.out]
    exact ⟨rfl, hE.tr hE2⟩
  · rw [show SIsPartOf s r q = (false, twoFault s r q) from if_neg h1]
    have hb : (twoFault s r q != 0) = true := by simp [h1]
    go_enter Tryz.func23, Tryz.ntmps23
    go_wp2_with fail
    refine (pairFault_any s r q _ _ _ (hr.ext hE1) (hs.ext hE1)).mono ?_
    rintro e w1 ⟨rfl, hE⟩
    go_wp2_with fail
    go_ret2
    exact ⟨rfl, hE1.tr hE⟩
end Go.Proofs.YtajkepdfemdagaaGreatDoor
