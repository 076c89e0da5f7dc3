
/- MakeRel, MapRel, ProjectRel: the program's and the reference's give one function's answers. -/
import Derived.Test.YtajkepdfemdagaaGreatDoorMakeR
import Derived.Test.YtajkepdfemdagaaGreatDoorSetOps
import Derived.Test.YtajkepdfemdagaaGreatDoorFuncII
import Derived.Test.YtajkepdfemdagaaGreatDoorScal
namespace Go.Proofs.YtajkepdfemdagaaGreatDoor
open Go.RowKit
set_option linter.unusedVariables false

def allV (s m : Int) (ll : List (List Int)) : Bool := ll.all fun t => vals s t m
theorem allV_iff {s m : Int} {ll : List (List Int)} : allV s m ll = true ↔ ∀ t ∈ ll, vals s t m = true := List.all_eq_true
def SMakeRel (s m : Int) (ll : List (List Int)) : (Int × List (List Int)) × Int := if inB s 1 4 then if inB m 1 4 && allV s m ll then (SrelOf s m fun t => decide (t ∈ ll), 0) else (noRel, 2) else (noRel, 1)
theorem mk_1 {s m : Int} {ll : List (List Int)} (h : inB s 1 4 = false) : SMakeRel s m ll = (noRel, 1) := by unfold SMakeRel; rw [h]; rfl
theorem mk_2 {s m : Int} {ll : List (List Int)} (h : inB s 1 4 = true) (h2 : (inB m 1 4 && allV s m ll) = false) : SMakeRel s m ll = (noRel, 2) := by unfold SMakeRel; rw [h, h2]; rfl
theorem mk_0 {s m : Int} {ll : List (List Int)} (h : inB s 1 4 = true) (h2 : (inB m 1 4 && allV s m ll) = true) : SMakeRel s m ll = (SrelOf s m fun t => decide (t ∈ ll), 0) := by unfold SMakeRel; rw [h, h2]; rfl

set_option maxHeartbeats 2000000 in
set_option maxRecDepth 100000 in
theorem implMakeRel_any (s m : Int) (ll : List (List Int)) (v : Value) (w : World) (hr : RdII w v ll) (lo0 : -9223372036854775808 ≤ s) (hi0 : s ≤ 9223372036854775807) (lo1 : -9223372036854775808 ≤ m) (hi1 : m ≤ 9223372036854775807) (hz : szII ll ≤ 1048576) :
    Calls Tryz.prog 26 #[.int .i64 s, .int .i64 m, v] w (RelRes (SMakeRel s m ll) w) := by
  have hmf : ∀ (fn : Fn) (first cap : Array Value) (w : World), (Instr.makeFunc fn first cap).run Tryz.prog w = .ok (.func fn first cap) w := fun _ _ _ _ => rfl
  have hll : ll.length ≤ 1048576 := Nat.le_trans (len_szII ll) hz
  obtain ⟨va, vc, rfl⟩ := hr.form
  have hE1 : Ext w (((w.alloc (.cells #[.int .i64 s] 2)).alloc (.cells #[.int .i64 m] 2)).alloc (.cells #[.int .i64 0, .slice none 0 0] 35)) := (((Ext.refl' w).alloc (Nat.le_refl _) _).alloc (by simp) _).alloc (by simp; omega) _
  have z0 : (((w.alloc (.cells #[.int .i64 s] 2)).alloc (.cells #[.int .i64 m] 2)).alloc (.cells #[.int .i64 0, .slice none 0 0] 35)).cell? ⟨w.heap.size, 0, none⟩ = some (.int .i64 s) := by simp [go_sem]
  have z1 : (((w.alloc (.cells #[.int .i64 s] 2)).alloc (.cells #[.int .i64 m] 2)).alloc (.cells #[.int .i64 0, .slice none 0 0] 35)).cell? ⟨w.heap.size + 1, 0, none⟩ = some (.int .i64 m) := by simp [go_sem]
  have d0 : (((w.alloc (.cells #[.int .i64 s] 2)).alloc (.cells #[.int .i64 m] 2)).alloc (.cells #[.int .i64 0, .slice none 0 0] 35)).cell? ⟨w.heap.size + 1 + 1, 0, none⟩ = some (.int .i64 0) := by simp [go_sem]
  have d1 : (((w.alloc (.cells #[.int .i64 s] 2)).alloc (.cells #[.int .i64 m] 2)).alloc (.cells #[.int .i64 0, .slice none 0 0] 35)).cell? ⟨w.heap.size + 1 + 1, 1, none⟩ = some (.slice none 0 0) := by simp [go_sem]
  have f2 : (((w.alloc (.cells #[.int .i64 s] 2)).alloc (.cells #[.int .i64 m] 2)).alloc (.cells #[.int .i64 0, .slice none 0 0] 35)).frozen? ⟨w.heap.size + 1 + 1, 0, none⟩ = false := by simp [go_sem]
  have f3 : (((w.alloc (.cells #[.int .i64 s] 2)).alloc (.cells #[.int .i64 m] 2)).alloc (.cells #[.int .i64 0, .slice none 0 0] 35)).frozen? ⟨w.heap.size + 1 + 1, 1, none⟩ = false := by simp [go_sem]
  have hrr := hr.ext hE1
  cases h1 : inB s 1 4 with
  | false =>
    rw [mk_1 h1]
    have hE := hE1
    go_enter Tryz.func26, Tryz.ntmps26
    go_wp2_with fail
    refine (isSize_any _ _).mono ?_
    rintro e w' ⟨rfl, rfl⟩
    rw [h1]
    go_wp2_with fail
    exact bodyPost_ret (v := .tuple #[.agg #[.int .i64 0, .slice none 0 0], .int .i64 1]) (by simp [results, Tryz.results26, go_sem]) rfl (RelRes.no hE)
  | true =>
    have hb1 := inB_iff.1 h1
    cases h2 : inB m 1 4 with
    | false =>
      rw [mk_2 h1 (by rw [h2]; rfl)]
      have hE := hE1
      go_enter Tryz.func26, Tryz.ntmps26
      go_wp2_with fail
      refine (isSize_any _ _).mono ?_
      rintro e w' ⟨rfl, rfl⟩
      rw [h1]
      go_wp2_with fail
      refine (isArity_any _ _).mono ?_
      rintro e w' ⟨rfl, rfl⟩
      rw [h2]
      go_wp2_with fail
      exact bodyPost_ret (v := .tuple #[.agg #[.int .i64 0, .slice none 0 0], .int .i64 2]) (by simp [results, Tryz.results26, go_sem]) rfl (RelRes.no hE)
    | true =>
      have hb2 := inB_iff.1 h2
      cases h4 : allV s m ll with
      | false =>
        have h3 : ll.any (fun t => !vals s t m) = true := by
          rw [List.any_eq_true]
          unfold allV at h4
          rw [List.all_eq_false] at h4
          obtain ⟨t, ht, hn⟩ := h4
          exact ⟨t, ht, by simpa using hn⟩
        rw [mk_2 h1 (by rw [h2, h4]; rfl)]
        go_enter Tryz.func26, Tryz.ntmps26
        go_wp2_with fail
        refine (isSize_any _ _).mono ?_
        rintro e w' ⟨rfl, rfl⟩
        rw [h1]
        go_wp2_with fail
        refine (isArity_any _ _).mono ?_
        rintro e w' ⟨rfl, rfl⟩
        rw [h2]
        go_wp2_with fail
        refine (containsFuncII_any (fun t => !vals s t m) ll _ 72 #[] _ _ hrr Tryz.call72 ?_).mono ?_
        · intro t ht x w' hE hx
          simp only [List.append_toArray, List.nil_append, List.cons_append]
          have y0 := hE.cell z0
          have y1 := hE.cell z1
          obtain ⟨xa, xc, rfl⟩ := hx.form
          go_enter Tryz.func72, Tryz.ntmps72
          go_wp2_with fail
          refine (areValues_any s t _ m _ hx (by omega) (by omega)).mono ?_
          rintro e w2 ⟨rfl, hE2⟩
          go_wp2_with fail
          go_ret
          exact ⟨rfl, hE2⟩
        rintro e w1 ⟨rfl, hE⟩
        rw [h3]
        replace d0 := hE.cell d0
        replace d1 := hE.cell d1
        replace f2 : _ = false := (hE.frozen (p := ⟨w.heap.size + 1 + 1, 0, none⟩) (by simp)).trans f2
        replace f3 : _ = false := (hE.frozen (p := ⟨w.heap.size + 1 + 1, 1, none⟩) (by simp)).trans f3
        replace z1 := hE.cell z1
        replace hrr := hrr.ext hE
        replace hE := hE1.tr hE
        go_wp2_with fail
        exact bodyPost_ret (v := .tuple #[.agg #[.int .i64 0, .slice none 0 0], .int .i64 2]) (by simp [results, Tryz.results26, go_sem, d0, d1]) rfl (RelRes.no ((hE.setCell (by simp <;> omega) _).setCell (by simp <;> omega) _))
      | true =>
        have hall := allV_iff.1 h4
        have h3 : ll.any (fun t => !vals s t m) = false := by
          rw [List.any_eq_false]
          intro t ht
          rw [hall t ht]
          simp
        rw [mk_0 h1 (by rw [h2, h4]; rfl)]
        have hmk := mkRel_SrelOf (s := s) (m := m) (p := fun t => decide (t ∈ ll)) hb1.1 hb1.2 hb2.1 hb2.2
        have HALL := Lib.hid hall
        clear hall h4
        go_enter Tryz.func26, Tryz.ntmps26
        go_wp2_with fail
        refine (isSize_any _ _).mono ?_
        rintro e w' ⟨rfl, rfl⟩
        rw [h1]
        go_wp2_with fail
        refine (isArity_any _ _).mono ?_
        rintro e w' ⟨rfl, rfl⟩
        rw [h2]
        go_wp2_with fail
        refine (containsFuncII_any (fun t => !vals s t m) ll _ 72 #[] _ _ hrr Tryz.call72 ?_).mono ?_
        · intro t ht x w' hE hx
          simp only [List.append_toArray, List.nil_append, List.cons_append]
          have y0 := hE.cell z0
          have y1 := hE.cell z1
          obtain ⟨xa, xc, rfl⟩ := hx.form
          go_enter Tryz.func72, Tryz.ntmps72
          go_wp2_with fail
          refine (areValues_any s t _ m _ hx (by omega) (by omega)).mono ?_
          rintro e w2 ⟨rfl, hE2⟩
          go_wp2_with fail
          go_ret
          exact ⟨rfl, hE2⟩
        rintro e w1 ⟨rfl, hE⟩
        rw [h3]
        replace d0 := hE.cell d0
        replace d1 := hE.cell d1
        replace f2 : _ = false := (hE.frozen (p := ⟨w.heap.size + 1 + 1, 0, none⟩) (by simp)).trans f2
        replace f3 : _ = false := (hE.frozen (p := ⟨w.heap.size + 1 + 1, 1, none⟩) (by simp)).trans f3
        replace z1 := hE.cell z1
        replace hrr := hrr.ext hE
        replace hE := hE1.tr hE
        clear h1 h2 h3
        go_wp2_with fail
        refine (makeRel_any s m ll _ _ hrr hll HALL.out hb1.1 hb1.2 hb2.1 hb2.2).mono ?_
        rintro e w3 ⟨u, fp, rfl, hE3, hr3, hfr⟩
        have q0 := lt_of_cell d0
        have q0 := lt_of_cell d0
        obtain ⟨ua, uc, rfl⟩ := hr3.form
        replace f2 : _ = false := (hE3.frozen (lt_of_cell d0)).trans f2
        replace f3 : _ = false := (hE3.frozen (lt_of_cell d1)).trans f3
        replace d0 := hE3.cell d0
        replace d1 := hE3.cell d1
        go_wp2_with fail
        exact bodyPost_ret (v := .tuple #[.agg #[.int .i64 (SrelOf s m (fun t => decide (t ∈ ll))).1, .slice ua (SrelOf s m (fun t => decide (t ∈ ll))).2.length uc], .int .i64 0]) (by simp [results, Tryz.results26, go_sem, d0, d1]; try rfl) rfl
          (RelRes.of rfl (((hE.tr hE3).setCell (by simp <;> omega) _).setCell (by simp <;> omega) _) (hr3.off ((Off.set (fp := [w.heap.size + 1 + 1]) (by simp)).trans (Off.set (by simp))) (fun h hh hm => by have := hfr h hh; simp at hm; (try dsimp only at q0); omega)) (fun h hh => by have := hfr h hh; have := hE.size; omega) hmk)

end Go.Proofs.YtajkepdfemdagaaGreatDoor
