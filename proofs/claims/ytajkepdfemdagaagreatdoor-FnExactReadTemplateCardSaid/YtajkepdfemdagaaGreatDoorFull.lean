
/- FullRel: the program's and the reference's give one function's answers. -/
import Derived.Test.YtajkepdfemdagaaGreatDoorSet
namespace Go.Proofs.YtajkepdfemdagaaGreatDoor
open Go.RowKit
set_option linter.unusedVariables false


theorem allC_congr {s m : Int} {h h' : Nat → Bool} {n : Nat} (hh : ∀ k, k < n → h k = h' k) : allC s m h n = allC s m h' n := by
  unfold allC
  congr 1
  exact List.filter_congr fun k hk => hh k (List.mem_range.1 hk)
/-- a set as a relation of all tuples for which something is so -/
theorem setRel_eq {s m : Int} {hs : List Bool} {p : List Int → Bool} (hh : ∀ k, k < count s m → hs.getD k false = p (digs s m.toNat k)) : setRel s m hs = SrelOf s m p := by
  unfold setRel SrelOf
  rw [allD_eq, allC_congr hh]
def SFullRel (s m : Int) : (Int × List (List Int)) × Int := if inB s 1 4 then if inB m 1 4 then (SrelOf s m fun _ => true, 0) else (noRel, 2) else (noRel, 1)


set_option maxHeartbeats 1000000 in
theorem fullRel_any (s m : Int) (w : World) (hs1 : 1 ≤ s) (hs2 : s ≤ 4) (hm : 1 ≤ m) (hm2 : m ≤ 4) :
    Calls Tryz.prog 63 #[.int .i64 s, .int .i64 m] w fun e w' => ∃ u fp, e = .returned u ∧ Ext w w' ∧ OwnRel w' u (SrelOf s m fun _ => true) fp ∧ ∀ h ∈ fp, w.heap.size ≤ h := by
  have hE1 : Ext w (w.alloc (.cells #[.int .i64 0, .slice none 0 0] 35)) := (Ext.refl' w).alloc (Nat.le_refl _) _
  go_enter Tryz.func63, Tryz.ntmps63
  go_wp2_with fail
  refine (relOf_any s m (fun _ => true) 107 #[] #[] _ hs1 hs2 hm hm2 Tryz.call107 ?_).mono ?_
  · intro k u w' _ _ hr
    simp only [List.append_toArray, List.nil_append, List.append_nil]
    go_enter Tryz.func107, Tryz.ntmps107
    go_wp2_with fail
    go_ret
    exact ⟨rfl, Ext.refl' _⟩
  rintro e w3 ⟨u, fp, rfl, hE3, hr, hfr⟩
  obtain ⟨ua, uc, rfl⟩ := hr.form
  have d0 := hE3.cell (p := ⟨w.heap.size, 0, none⟩) (v := .int .i64 0) (by simp [go_sem])
  have d1 := hE3.cell (p := ⟨w.heap.size, 1, none⟩) (v := .slice none 0 0) (by simp [go_sem])
  have f2 := hE3.frozen (p := ⟨w.heap.size, 0, none⟩) (by simp)
  have f3 := hE3.frozen (p := ⟨w.heap.size, 1, none⟩) (by simp)
  simp [go_sem] at f2 f3
  have hfr : ∀ g ∈ fp, w.heap.size + 1 ≤ g := fun g hg => by have := hfr g hg; simpa using this
  go_wp2_with fail
  exact bodyPost_ret (v := .agg #[.int .i64 m, .slice ua (SrelOf s m fun _ => true).2.length uc]) (by simp [results, Tryz.results63, go_sem, d0, d1]; rfl) rfl
    ⟨_, fp, rfl, ((hE1.tr hE3).setCell (by simp) _).setCell (by simp) _, hr.off ((Off.set (fp := [w.heap.size]) (by simp)).trans (Off.set (by simp))) (fun h hh hm => by have := hfr h hh; simp at hm; omega), fun h hh => by have := hfr h hh; omega⟩

set_option maxHeartbeats 1000000 in
theorem implFullRel_any (s m : Int) (w : World) (lo0 : -9223372036854775808 ≤ s) (hi0 : s ≤ 9223372036854775807) (lo1 : -9223372036854775808 ≤ m) (hi1 : m ≤ 9223372036854775807) :
    Calls Tryz.prog 18 #[.int .i64 s, .int .i64 m] w (RelRes (SFullRel s m) w) := by
  have hE1 : Ext w (w.alloc (.cells #[.int .i64 0, .slice none 0 0] 35)) := (Ext.refl' w).alloc (Nat.le_refl _) _
  cases h1 : inB s 1 4 with
  | false =>
    rw [show SFullRel s m = (noRel, 1) from by unfold SFullRel; rw [h1]; rfl]
    go_enter Tryz.func18, Tryz.ntmps18
    go_wp2_with (go_at_call 61; refine (isSize_any _ _).mono ?_; rintro e w' ⟨rfl, rfl⟩)
    exact bodyPost_ret (v := .tuple #[.agg #[.int .i64 0, .slice none 0 0], .int .i64 1]) (by simp [results, Tryz.results18, go_sem]) rfl (RelRes.no hE1)
  | true =>
    have hb1 := inB_iff.1 h1
    cases h2 : inB m 1 4 with
    | false =>
      rw [show SFullRel s m = (noRel, 2) from by unfold SFullRel; rw [h1, h2]; rfl]
      go_enter Tryz.func18, Tryz.ntmps18
      go_wp2_with (first | (go_at_call 61; refine (isSize_any _ _).mono ?_; rintro e w' ⟨rfl, rfl⟩) | (go_at_call 62; refine (isArity_any _ _).mono ?_; rintro e w' ⟨rfl, rfl⟩))
      exact bodyPost_ret (v := .tuple #[.agg #[.int .i64 0, .slice none 0 0], .int .i64 2]) (by simp [results, Tryz.results18, go_sem]) rfl (RelRes.no hE1)
    | true =>
      have hb2 := inB_iff.1 h2
      have hmk := mkRel_SrelOf (p := fun _ => true) hb1.1 hb1.2 hb2.1 hb2.2
      rw [show SFullRel s m = (SrelOf s m fun _ => true, 0) from by unfold SFullRel; rw [h1, h2]; rfl]
      go_enter Tryz.func18, Tryz.ntmps18
      go_wp2_with (first | (go_at_call 61; refine (isSize_any _ _).mono ?_; rintro e w' ⟨rfl, rfl⟩) | (go_at_call 62; refine (isArity_any _ _).mono ?_; rintro e w' ⟨rfl, rfl⟩))
      refine (fullRel_any s m _ hb1.1 hb1.2 hb2.1 hb2.2).mono ?_
      rintro e w3 ⟨u, fp, rfl, hE3, hr, hfr⟩
      obtain ⟨ua, uc, rfl⟩ := hr.form
      have d0 := hE3.cell (p := ⟨w.heap.size, 0, none⟩) (v := .int .i64 0) (by simp [go_sem])
      have d1 := hE3.cell (p := ⟨w.heap.size, 1, none⟩) (v := .slice none 0 0) (by simp [go_sem])
      have f2 := hE3.frozen (p := ⟨w.heap.size, 0, none⟩) (by simp)
      have f3 := hE3.frozen (p := ⟨w.heap.size, 1, none⟩) (by simp)
      simp [go_sem] at f2 f3
      have hfr : ∀ g ∈ fp, w.heap.size + 1 ≤ g := fun g hg => by have := hfr g hg; simpa using this
      go_wp2_with fail
      exact bodyPost_ret (v := .tuple #[.agg #[.int .i64 (SrelOf s m fun _ => true).1, .slice ua (SrelOf s m fun _ => true).2.length uc], .int .i64 0]) (by simp [results, Tryz.results18, go_sem, d0, d1]) rfl
        (RelRes.of rfl (((hE1.tr hE3).setCell (by simp) _).setCell (by simp) _) (hr.off ((Off.set (fp := [w.heap.size]) (by simp)).trans (Off.set (by simp))) (fun h hh hm => by have := hfr h hh; simp at hm; omega)) (fun h hh => by have := hfr h hh; omega) hmk)
end Go.Proofs.YtajkepdfemdagaaGreatDoor
