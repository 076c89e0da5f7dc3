
/- HasTuple, IsPartOf: the program's and the reference's give one function's answers. -/
import Derived.Test.YtajkepdfemdagaaGreatDoorHas
import Derived.Test.YtajkepdfemdagaaGreatDoorFuncII
namespace Go.Proofs.YtajkepdfemdagaaGreatDoor
open Go.RowKit
set_option linter.unusedVariables false


set_option maxHeartbeats 400000 in
theorem specHasTuple_any (s : Int) (r : Int × List (List Int)) (v : Value) (t : List Int) (u : Value) (w : World) (hr : RdRel w v r) (hs : RdI w u t) (_ : -9223372036854775808 ≤ s) (_ : s ≤ 9223372036854775807) (hz : szRel r ≤ 1048576) (_ : t.length ≤ 1048576) :
    Calls Tryz.prog 21 #[.int .i64 s, v, u] w fun e w' => e = .returned (.tuple #[.bool (SHasTuple s r t).1, .int .i64 (SHasTuple s r t).2]) ∧ Ext w w' := by
  obtain ⟨tv, rfl, hr⟩ := hr
  obtain ⟨ta, tc, rfl⟩ := hr.form
  have hE1 : Ext w (w.alloc (.cells #[.int .i64 r.1, .slice ta r.2.length tc] 35)) := (Ext.refl' w).alloc (Nat.le_refl _) _
  have hp : PtRel (w.alloc (.cells #[.int .i64 r.1, .slice ta r.2.length tc] 35)) (.pointer (some ⟨w.heap.size, 0, none⟩)) r := ⟨_, _, _, rfl, by simp [go_sem], by simp [go_sem], hr.ext hE1⟩
  cases h1 : SValidRel s r with
  | false =>
    rw [show SHasTuple s r t = (false, 1) from by unfold SHasTuple; rw [h1]; rfl]
    go_enter Tryz.func21, Tryz.ntmps21
    go_wp2_with (go_at_call 67; refine (l01Ok_any _ _ _ _ hp).mono ?_; rintro e w1 ⟨rfl, hE⟩; rw [h1])
    go_ret2
    exact ⟨rfl, hE1.tr hE.ext⟩
  | true =>
    rw [show SHasTuple s r t = (hasT r t, 0) from by unfold SHasTuple; rw [h1]; rfl]
    go_enter Tryz.func21, Tryz.ntmps21
    go_wp2_with fail
    refine (l01Ok_any _ _ _ _ hp).mono ?_
    rintro e w1 ⟨rfl, hE⟩
    rw [h1]
    go_wp2_with fail
    refine (l01Has_any r _ t _ _ (hp.ext hE.ext) ((hs.ext hE1).ext hE.ext)).mono ?_
    rintro e w2 ⟨rfl, hE2⟩
    go_wp2_with fail
    go_ret2
    exact ⟨rfl, (hE1.tr hE.ext).tr hE2.ext⟩
set_option maxHeartbeats 400000 in
theorem implHasTuple_any (s : Int) (r : Int × List (List Int)) (v : Value) (t : List Int) (u : Value) (w : World) (hr : RdRel w v r) (hs : RdI w u t) (_ : -9223372036854775808 ≤ s) (_ : s ≤ 9223372036854775807) (hz : szRel r ≤ 1048576) (_ : t.length ≤ 1048576) :
    Calls Tryz.prog 22 #[.int .i64 s, v, u] w fun e w' => e = .returned (.tuple #[.bool (SHasTuple s r t).1, .int .i64 (SHasTuple s r t).2]) ∧ Ext w w' := by
  obtain ⟨tv, rfl, hr'⟩ := hr
  obtain ⟨ta, tc, rfl⟩ := hr'.form
  have hr : RdRel w _ r := ⟨_, rfl, hr'⟩
  have hE1 : Ext w (w.alloc (.cells #[.int .i64 r.1, .slice ta r.2.length tc] 35)) := (Ext.refl' w).alloc (Nat.le_refl _) _
  cases h1 : SValidRel s r with
  | false =>
    rw [show SHasTuple s r t = (false, 1) from by unfold SHasTuple; rw [h1]; rfl]
    go_enter Tryz.func22, Tryz.ntmps22
    go_wp2_with (go_at_call 20; refine (implValidRel_ok s r _ _ (hr.ext hE1)).mono ?_; rintro e w1 ⟨rfl, hE⟩; rw [h1])
    go_ret2
    exact ⟨rfl, hE1.tr hE⟩
  | true =>
    rw [show SHasTuple s r t = (hasT r t, 0) from by unfold SHasTuple; rw [h1]; rfl]
    go_enter Tryz.func22, Tryz.ntmps22
    go_wp2_with fail
    refine (implValidRel_ok s r _ _ (hr.ext hE1)).mono ?_
    rintro e w1 ⟨rfl, hE⟩
    rw [h1]
    have c0 := hE.cell (p := ⟨w.heap.size, 0, none⟩) (v := .int .i64 r.1) (by simp [go_sem])
    have c1 := hE.cell (p := ⟨w.heap.size, 1, none⟩) (v := .slice ta r.2.length tc) (by simp [go_sem])
    go_wp2_with fail
    refine (has_any s r _ t _ _ ((hr.ext hE1).ext hE) ((hs.ext hE1).ext hE) h1 hz).mono ?_
    rintro e w2 ⟨rfl, hE2⟩
    go_wp2_with fail
    go_ret2
    exact ⟨rfl, (hE1.tr hE).tr hE2⟩
end Go.Proofs.YtajkepdfemdagaaGreatDoor
