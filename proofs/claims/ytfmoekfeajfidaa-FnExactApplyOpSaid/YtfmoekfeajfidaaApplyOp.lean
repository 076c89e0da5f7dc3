
/- ApplyOp: the program's and the reference's give one function's answers. -/
import Derived.Test.YtfmoekfeajfidaaOpAt
namespace Go.Proofs.Ytfmoekfeajfidaa
open Go.RowKit
set_option linter.unusedVariables false

def SApplyOp (s : Int) (f : Int × List Int) (l : List Int) : Int × Int := if SValidOp s f then if vals s l f.1 then (apply s f l, 0) else (0, 2) else (0, 1)

set_option maxHeartbeats 1000000 in
theorem implApplyOp_any (s : Int) (f : Int × List Int) (v : Value) (l : List Int) (u : Value) (w : World) (hr : RdOp w v f) (hs : RdI w u l) (lo0 : -9223372036854775808 ≤ s) (hi0 : s ≤ 9223372036854775807) (_ : szOp f ≤ 1048576) (_ : l.length ≤ 1048576) :
    Calls Try.prog 31 #[.int .i64 s, v, u] w fun e w' => e = .returned (.tuple #[.int .i64 (SApplyOp s f l).1, .int .i64 (SApplyOp s f l).2]) ∧ Ext w w' := by
  obtain ⟨tv, rfl⟩ := hr.form
  have hE1 : Ext w (w.alloc (.cells #[.int .i64 f.1, tv] 30)) := (Ext.refl' w).alloc (Nat.le_refl _) _
  cases h1 : SValidOp s f with
  | false =>
    rw [show SApplyOp s f l = (0, 1) from by unfold SApplyOp; rw [h1]; rfl]
    go_enter Try.func31, Try.ntmps31
    go_wp2_with (go_at_call 22; refine (implValidOp_ok _ _ _ _ (hr.ext hE1)).mono ?_; rintro e w1 ⟨rfl, hE⟩)
    go_ret2
    exact ⟨rfl, hE1.tr hE⟩
  | true =>
    have hb := valid_iff.1 h1
    have hb1 := hb.1
    clear hb
    cases h2 : vals s l f.1 with
    | false =>
      rw [show SApplyOp s f l = (0, 2) from by unfold SApplyOp; rw [h1, h2]; rfl]
      go_enter Try.func31, Try.ntmps31
      go_wp2_with fail
      refine (implValidOp_ok _ _ _ _ (hr.ext hE1)).mono ?_
      rintro e w1 ⟨rfl, hE⟩
      have c0 := hE.cell (p := ⟨w.heap.size, 0, none⟩) (v := .int .i64 f.1) (by simp [go_sem])
      go_wp2_with fail
      refine (areValues_any _ _ _ _ _ (hs.ext (hE1.tr hE)) (by omega) (by omega)).mono ?_
      rintro e w2 ⟨rfl, hE2⟩
      go_wp2_with fail
      go_ret2
      exact ⟨rfl, (hE1.tr hE).tr hE2⟩
    | true =>
      have hv := vals_iff.1 h2
      rw [show SApplyOp s f l = (apply s f l, 0) from by unfold SApplyOp; rw [h1, h2]; rfl]
      go_enter Try.func31, Try.ntmps31
      go_wp2_with fail
      refine (implValidOp_ok _ _ _ _ (hr.ext hE1)).mono ?_
      rintro e w1 ⟨rfl, hE⟩
      have c0 := hE.cell (p := ⟨w.heap.size, 0, none⟩) (v := .int .i64 f.1) (by simp [go_sem])
      have c1 := hE.cell (p := ⟨w.heap.size, 1, none⟩) (v := tv) (by simp [go_sem])
      go_wp2_with fail
      refine (areValues_any _ _ _ _ _ (hs.ext (hE1.tr hE)) (by omega) (by omega)).mono ?_
      rintro e w2 ⟨rfl, hE2⟩
      have c0 := hE2.cell c0
      have c1 := hE2.cell c1
      have HV := Lib.hid hv
      clear hv
      go_wp2_with fail
      refine (opAt_any s f _ l _ _ (hr.ext ((hE1.tr hE).tr hE2)) (hs.ext ((hE1.tr hE).tr hE2)) h1 HV.out.1 HV.out.2).mono ?_
      rintro e w3 ⟨rfl, hE3⟩
      go_wp2_with fail
      go_ret2
      exact ⟨rfl, ((hE1.tr hE).tr hE2).tr hE3⟩

set_option maxHeartbeats 1000000 in
theorem specApplyOp_any (s : Int) (f : Int × List Int) (v : Value) (l : List Int) (u : Value) (w : World) (hr : RdOp w v f) (hs : RdI w u l) (lo0 : -9223372036854775808 ≤ s) (hi0 : s ≤ 9223372036854775807) (_ : szOp f ≤ 1048576) (_ : l.length ≤ 1048576) :
    Calls Try.prog 29 #[.int .i64 s, v, u] w fun e w' => e = .returned (.tuple #[.int .i64 (SApplyOp s f l).1, .int .i64 (SApplyOp s f l).2]) ∧ Ext w w' := by
  obtain ⟨tv, rfl, hr⟩ := hr
  have hE1 : Ext w (w.alloc (.cells #[.int .i64 f.1, tv] 30)) := (Ext.refl' w).alloc (Nat.le_refl _) _
  have hp : PtOp (w.alloc (.cells #[.int .i64 f.1, tv] 30)) (.pointer (some ⟨w.heap.size, 0, none⟩)) f := ⟨_, _, _, rfl, by simp [go_sem], by simp [go_sem], hr.ext hE1⟩
  have hs := hs.ext hE1
  cases h1 : SValidOp s f with
  | false =>
    rw [show SApplyOp s f l = (0, 1) from by unfold SApplyOp; rw [h1]; rfl]
    go_enter Try.func29, Try.ntmps29
    go_wp2_with (go_at_call 56; refine (l02Ok_any _ _ _ _ hp).mono ?_; rintro e w1 ⟨rfl, hE⟩)
    go_ret2
    exact ⟨rfl, hE1.tr hE.ext⟩
  | true =>
    have hb := valid_iff.1 h1
    have hb1 := hb.1
    clear hb
    cases h2 : vals s l f.1 with
    | false =>
      rw [show SApplyOp s f l = (0, 2) from by unfold SApplyOp; rw [h1, h2]; rfl]
      go_enter Try.func29, Try.ntmps29
      go_wp2_with fail
      refine (l02Ok_any _ _ _ _ hp).mono ?_
      rintro e w1 ⟨rfl, hE⟩
      have c0 := hE.ext.cell (p := ⟨w.heap.size, 0, none⟩) (v := .int .i64 f.1) (by simp [go_sem])
      go_wp2_with fail
      refine (l01Tuple_any _ _ _ _ _ (hs.ext hE.ext) (by omega) (by omega)).mono ?_
      rintro e w2 ⟨rfl, rfl⟩
      go_wp2_with fail
      go_ret2
      exact ⟨rfl, hE1.tr hE.ext⟩
    | true =>
      have HV := Lib.hid (vals_iff.1 h2)
      rw [show SApplyOp s f l = (apply s f l, 0) from by unfold SApplyOp; rw [h1, h2]; rfl]
      go_enter Try.func29, Try.ntmps29
      go_wp2_with fail
      refine (l02Ok_any _ _ _ _ hp).mono ?_
      rintro e w1 ⟨rfl, hE⟩
      have c0 := hE.ext.cell (p := ⟨w.heap.size, 0, none⟩) (v := .int .i64 f.1) (by simp [go_sem])
      go_wp2_with fail
      refine (l01Tuple_any _ _ _ _ _ (hs.ext hE.ext) (by omega) (by omega)).mono ?_
      rintro e w2 ⟨rfl, rfl⟩
      go_wp2_with fail
      refine (l02Value_any s f _ l _ _ (hp.ext hE.ext) (hs.ext hE.ext) h1 HV.out.1 HV.out.2).mono ?_
      rintro e w3 ⟨rfl, hE3⟩
      go_wp2_with fail
      go_ret2
      exact ⟨rfl, (hE1.tr hE.ext).tr hE3.ext⟩
end Go.Proofs.Ytfmoekfeajfidaa
