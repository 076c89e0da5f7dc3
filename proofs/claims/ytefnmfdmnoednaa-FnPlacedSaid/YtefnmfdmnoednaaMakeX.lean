
/- MakeRel, MapRel, ProjectRel: the program's and the reference's give one function's answers. -/
import Derived.Test.YtefnmfdmnoednaaMakeR
import Derived.Test.YtefnmfdmnoednaaSetOps
import Derived.Test.YtefnmfdmnoednaaFuncII
import Derived.Test.YtefnmfdmnoednaaScal
namespace Go.Proofs.Ytefnmfdmnoednaa
open Go.RowKit
set_option linter.unusedVariables false

def allV (s m : Int) (ll : List (List Int)) : Bool := ll.all fun t => vals s t m
theorem allV_iff {s m : Int} {ll : List (List Int)} : allV s m ll = true ↔ ∀ t ∈ ll, vals s t m = true := List.all_eq_true
def SMakeRel (s m : Int) (ll : List (List Int)) : (Int × List (List Int)) × Int := if inB s 1 4 then if inB m 1 4 && allV s m ll then (SrelOf s m fun t => decide (t ∈ ll), 0) else (noRel, 2) else (noRel, 1)
theorem mk_1 {s m : Int} {ll : List (List Int)} (h : inB s 1 4 = false) : SMakeRel s m ll = (noRel, 1) := by unfold SMakeRel; rw [h]; rfl
theorem mk_2 {s m : Int} {ll : List (List Int)} (h : inB s 1 4 = true) (h2 : (inB m 1 4 && allV s m ll) = false) : SMakeRel s m ll = (noRel, 2) := by unfold SMakeRel; rw [h, h2]; rfl
theorem mk_0 {s m : Int} {ll : List (List Int)} (h : inB s 1 4 = true) (h2 : (inB m 1 4 && allV s m ll) = true) : SMakeRel s m ll = (SrelOf s m fun t => decide (t ∈ ll), 0) := by unfold SMakeRel; rw [h, h2]; rfl

set_option maxHeartbeats 2000000 in
set_option maxRecDepth 100000 in
theorem implMakeRel_any (s m : Int) (ll : List (List Int)) (v : Value) (w : World) (hr : RdII w v ll) (lo0 : -9223372036854775808 ≤ s) (hi0 : s ≤ 9223372036854775807) (lo1 : -9223372036854775808 ≤ m) (hi1 : m ≤ 9223372036854775807) (hz : szII ll ≤ 1048576) :
    Calls Try.prog 13 #[.int .i64 s, .int .i64 m, v] w (RelRes (SMakeRel s m ll) w) := by
  have hmf : ∀ (fn : Fn) (first cap : Array Value) (w : World), (Instr.makeFunc fn first cap).run Try.prog w = .ok (.func fn first cap) w := fun _ _ _ _ => rfl
  have hll : ll.length ≤ 1048576 := Nat.le_trans (len_szII ll) hz
  obtain ⟨va, vc, rfl⟩ := hr.form
  have hE1 : Ext w (((w.alloc (.cells #[.int .i64 s] 2)).alloc (.cells #[.int .i64 m] 2)).alloc (.cells #[.int .i64 0, .slice none 0 0] 25)) := (((Ext.refl' w).alloc (Nat.le_refl _) _).alloc (by simp) _).alloc (by simp; omega) _
  have z0 : (((w.alloc (.cells #[.int .i64 s] 2)).alloc (.cells #[.int .i64 m] 2)).alloc (.cells #[.int .i64 0, .slice none 0 0] 25)).cell? ⟨w.heap.size, 0, none⟩ = some (.int .i64 s) := by simp [go_sem]
  have z1 : (((w.alloc (.cells #[.int .i64 s] 2)).alloc (.cells #[.int .i64 m] 2)).alloc (.cells #[.int .i64 0, .slice none 0 0] 25)).cell? ⟨w.heap.size + 1, 0, none⟩ = some (.int .i64 m) := by simp [go_sem]
  have d0 : (((w.alloc (.cells #[.int .i64 s] 2)).alloc (.cells #[.int .i64 m] 2)).alloc (.cells #[.int .i64 0, .slice none 0 0] 25)).cell? ⟨w.heap.size + 1 + 1, 0, none⟩ = some (.int .i64 0) := by simp [go_sem]
  have d1 : (((w.alloc (.cells #[.int .i64 s] 2)).alloc (.cells #[.int .i64 m] 2)).alloc (.cells #[.int .i64 0, .slice none 0 0] 25)).cell? ⟨w.heap.size + 1 + 1, 1, none⟩ = some (.slice none 0 0) := by simp [go_sem]
  have f2 : (((w.alloc (.cells #[.int .i64 s] 2)).alloc (.cells #[.int .i64 m] 2)).alloc (.cells #[.int .i64 0, .slice none 0 0] 25)).frozen? ⟨w.heap.size + 1 + 1, 0, none⟩ = false := by simp [go_sem]
  have f3 : (((w.alloc (.cells #[.int .i64 s] 2)).alloc (.cells #[.int .i64 m] 2)).alloc (.cells #[.int .i64 0, .slice none 0 0] 25)).frozen? ⟨w.heap.size + 1 + 1, 1, none⟩ = false := by simp [go_sem]
  have hrr := hr.ext hE1
  cases h1 : inB s 1 4 with
  | false =>
    rw [mk_1 h1]
    have hE := hE1
    go_enter Try.func13, Try.ntmps13
    go_wp2_with fail
    refine (isSize_any _ _).mono ?_
    rintro e w' ⟨rfl, rfl⟩
    rw [h1]
    go_wp2_with fail
    exact bodyPost_ret (v := .tuple #[.agg #[.int .i64 0, .slice none 0 0], .int .i64 1]) (by simp [results, Try.results13, go_sem]) rfl (RelRes.no hE)
  | true =>
    have hb1 := inB_iff.1 h1
    cases h2 : inB m 1 4 with
    | false =>
      rw [mk_2 h1 (by rw [h2]; rfl)]
      have hE := hE1
      go_enter Try.func13, Try.ntmps13
      go_wp2_with fail
      refine (isSize_any _ _).mono ?_
      rintro e w' ⟨rfl, rfl⟩
      rw [h1]
      go_wp2_with fail
      refine (isArity_any _ _).mono ?_
      rintro e w' ⟨rfl, rfl⟩
      rw [h2]
      go_wp2_with fail
      exact bodyPost_ret (v := .tuple #[.agg #[.int .i64 0, .slice none 0 0], .int .i64 2]) (by simp [results, Try.results13, go_sem]) rfl (RelRes.no hE)
    | true =>
      have hb2 := inB_iff.1 h2
      cases h4 : allV s m ll with
      | false =>
        have h3 : ll.any (fun t => !vals s t m) = true := by
          rw [List.any_eq_true]
          unfold allV at h4
          rw [List.all_eq_false] at h4
          obtain ⟨t, ht, hn⟩ := h4
          exact ⟨t, ht, by simpa using hn⟩
        rw [mk_2 h1 (by rw [h2, h4]; rfl)]
        go_enter Try.func13, Try.ntmps13
        go_wp2_with fail
        refine (isSize_any _ _).mono ?_
        rintro e w' ⟨rfl, rfl⟩
        rw [h1]
        go_wp2_with fail
        refine (isArity_any _ _).mono ?_
        rintro e w' ⟨rfl, rfl⟩
        rw [h2]
        go_wp2_with fail
        refine (containsFuncII_any (fun t => !vals s t m) ll _ 68 #[] _ _ hrr Try.call68 ?_).mono ?_
        · intro t ht x w' hE hx
          simp only [List.append_toArray, List.nil_append, List.cons_append]
          have y0 := hE.cell z0
          have y1 := hE.cell z1
          obtain ⟨xa, xc, rfl⟩ := hx.form
          go_enter Try.func68, Try.ntmps68
          go_wp2_with fail
          refine (areValues_any s t _ m _ hx (by omega) (by omega)).mono ?_
          rintro e w2 ⟨rfl, hE2⟩
          go_wp2_with fail
          go_ret
          exact ⟨rfl, hE2⟩
        rintro e w1 ⟨rfl, hE⟩
        rw [h3]
        replace d0 := hE.cell d0
        replace d1 := hE.cell d1
        replace f2 : _ = false := (hE.frozen (p := ⟨w.heap.size + 1 + 1, 0, none⟩) (by simp)).trans f2
        replace f3 : _ = false := (hE.frozen (p := ⟨w.heap.size + 1 + 1, 1, none⟩) (by simp)).trans f3
        replace z1 := hE.cell z1
        replace hrr := hrr.ext hE
        replace hE := hE1.tr hE
        go_wp2_with fail
        exact bodyPost_ret (v := .tuple #[.agg #[.int .i64 0, .slice none 0 0], .int .i64 2]) (by simp [results, Try.results13, go_sem, d0, d1]) rfl (RelRes.no ((hE.setCell (by simp <;> omega) _).setCell (by simp <;> omega) _))
      | true =>
        have hall := allV_iff.1 h4
        have h3 : ll.any (fun t => !vals s t m) = false := by
          rw [List.any_eq_false]
          intro t ht
          rw [hall t ht]
          simp
        rw [mk_0 h1 (by rw [h2, h4]; rfl)]
        have hmk := mkRel_SrelOf (s := s) (m := m) (p := fun t => decide (t ∈ ll)) hb1.1 hb1.2 hb2.1 hb2.2
        have HALL := Lib.hid hall
        clear hall h4
        go_enter Try.func13, Try.ntmps13
        go_wp2_with fail
        refine (isSize_any _ _).mono ?_
        rintro e w' ⟨rfl, rfl⟩
        rw [h1]
        go_wp2_with fail
        refine (isArity_any _ _).mono ?_
        rintro e w' ⟨rfl, rfl⟩
        rw [h2]
        go_wp2_with fail
        refine (containsFuncII_any (fun t => !vals s t m) ll _ 68 #[] _ _ hrr Try.call68 ?_).mono ?_
        · intro t ht x w' hE hx
          simp only [List.append_toArray, List.nil_append, List.cons_append]
          have y0 := hE.cell z0
          have y1 := hE.cell z1
          obtain ⟨xa, xc, rfl⟩ := hx.form
          go_enter Try.func68, Try.ntmps68
          go_wp2_with fail
          refine (areValues_any s t _ m _ hx (by omega) (by omega)).mono ?_
          rintro e w2 ⟨rfl, hE2⟩
          go_wp2_with fail
          go_ret
          exact ⟨rfl, hE2⟩
        rintro e w1 ⟨rfl, hE⟩
        rw [h3]
        replace d0 := hE.cell d0
        replace d1 := hE.cell d1
        replace f2 : _ = false := (hE.frozen (p := ⟨w.heap.size + 1 + 1, 0, none⟩) (by simp)).trans f2
        replace f3 : _ = false := (hE.frozen (p := ⟨w.heap.size + 1 + 1, 1, none⟩) (by simp)).trans f3
        replace z1 := hE.cell z1
        replace hrr := hrr.ext hE
        replace hE := hE1.tr hE
        clear h1 h2 h3
        go_wp2_with fail
        refine (makeRel_any s m ll _ _ hrr hll HALL.out hb1.1 hb1.2 hb2.1 hb2.2).mono ?_
        rintro e w3 ⟨u, fp, rfl, hE3, hr3, hfr⟩
        have q0 := lt_of_cell d0
        have q0 := lt_of_cell d0
        obtain ⟨ua, uc, rfl⟩ := hr3.form
        replace f2 : _ = false := (hE3.frozen (lt_of_cell d0)).trans f2
        replace f3 : _ = false := (hE3.frozen (lt_of_cell d1)).trans f3
        replace d0 := hE3.cell d0
        replace d1 := hE3.cell d1
        go_wp2_with fail
        exact bodyPost_ret (v := .tuple #[.agg #[.int .i64 (SrelOf s m (fun t => decide (t ∈ ll))).1, .slice ua (SrelOf s m (fun t => decide (t ∈ ll))).2.length uc], .int .i64 0]) (by simp [results, Try.results13, go_sem, d0, d1]; try rfl) rfl
          (RelRes.of rfl (((hE.tr hE3).setCell (by simp <;> omega) _).setCell (by simp <;> omega) _) (hr3.off ((Off.set (fp := [w.heap.size + 1 + 1]) (by simp)).trans (Off.set (by simp))) (fun h hh hm => by have := hfr h hh; simp at hm; (try dsimp only at q0); omega)) (fun h hh => by have := hfr h hh; have := hE.size; omega) hmk)

set_option maxHeartbeats 4000000 in
set_option maxRecDepth 100000 in
theorem specMakeRel_any (s m : Int) (ll : List (List Int)) (v : Value) (w : World) (hr : RdII w v ll) (lo0 : -9223372036854775808 ≤ s) (hi0 : s ≤ 9223372036854775807) (lo1 : -9223372036854775808 ≤ m) (hi1 : m ≤ 9223372036854775807) (hz : szII ll ≤ 1048576) :
    Calls Try.prog 11 #[.int .i64 s, .int .i64 m, v] w (RelRes (SMakeRel s m ll) w) := by
  have hll : ll.length ≤ 1048576 := Nat.le_trans (len_szII ll) hz
  obtain ⟨a, b, off, c, el, rfl, hlc, hcm, ha, hc⟩ := hr
  have hE1 : Ext w (w.alloc (.cells #[.int .i64 0, .slice none 0 0] 25)) := (Ext.refl' w).alloc (Nat.le_refl _) _
  have d0 : (w.alloc (.cells #[.int .i64 0, .slice none 0 0] 25)).cell? ⟨w.heap.size, 0, none⟩ = some (.int .i64 0) := by simp [go_sem]
  have d1 : (w.alloc (.cells #[.int .i64 0, .slice none 0 0] 25)).cell? ⟨w.heap.size, 1, none⟩ = some (.slice none 0 0) := by simp [go_sem]
  have f2 : (w.alloc (.cells #[.int .i64 0, .slice none 0 0] 25)).frozen? ⟨w.heap.size, 0, none⟩ = false := by simp [go_sem]
  have f3 : (w.alloc (.cells #[.int .i64 0, .slice none 0 0] 25)).frozen? ⟨w.heap.size, 1, none⟩ = false := by simp [go_sem]
  have HC := Lib.hid hc
  clear hc
  cases h1 : inB s 1 4 with
  | false =>
    rw [mk_1 h1]
    have hE := hE1
    go_enter Try.func11, Try.ntmps11
    go_wp2_with fail
    refine (l01Size_any _ _).mono ?_
    rintro e w' ⟨rfl, rfl⟩
    rw [h1]
    go_wp2_with fail
    exact bodyPost_ret (v := .tuple #[.agg #[.int .i64 0, .slice none 0 0], .int .i64 1]) (by simp [results, Try.results11, go_sem]) rfl (RelRes.no hE)
  | true =>
    have hb1 := inB_iff.1 h1
    cases h2 : (inB m 1 4 && allV s m ll) with
    | false =>
      rw [mk_2 h1 h2]
      go_enter Try.func11, Try.ntmps11
      go_wp2_with fail
      refine (l01Size_any _ _).mono ?_
      rintro e w' ⟨rfl, rfl⟩
      rw [h1]
      go_wp2_with fail
      refine (l01Arity_any _ _).mono ?_
      rintro e w' ⟨rfl, rfl⟩
      generalize hA0 : w.alloc (.cells #[.int .i64 0, .slice none 0 0] 25) = w1 at hE1 d0 d1 f2 f3 ⊢
      clear hA0
      go_wp2_with fail
      go_loopw [8, 9] (fun t i wr => ∃ (k : Nat) (ok : Bool), k ≤ ll.length ∧ t = .bool ok ∧ i = .int .i64 (k : Nat) ∧ w1 = wr ∧ Hid (ok = true → (inB m 1 4 && allV s m (ll.take k)) = true) ∧ Hid (ok = false → (inB m 1 4 && allV s m ll) = false)) (fun _ i _ => ll.length - (intOf i).toNat)
      case atStart => exact ⟨0, inB m 1 4, by omega, rfl, rfl, rfl, Lib.hid fun h => by rw [h]; rfl, Lib.hid fun h => by rw [h]; rfl⟩
      case round =>
        obtain ⟨k, ok, hk, rfl, rfl, rfl, HO, HN⟩ := hrel
        cases ok with
        | false =>
          have hno := HN.out rfl
          by_cases hkl : k < ll.length
          · skip
            have hE := hE1
            go_wp2_with fail
            exact bodyPost_ret (v := .tuple #[.agg #[.int .i64 0, .slice none 0 0], .int .i64 2]) (by simp [results, Try.results11, go_sem, d0, d1]) rfl (RelRes.no ((hE.setCell (by simp <;> omega) _).setCell (by simp <;> omega) _))
          · skip
            have hE := hE1
            go_wp2_with fail
            exact bodyPost_ret (v := .tuple #[.agg #[.int .i64 0, .slice none 0 0], .int .i64 2]) (by simp [results, Try.results11, go_sem, d0, d1]) rfl (RelRes.no ((hE.setCell (by simp <;> omega) _).setCell (by simp <;> omega) _))
        | true =>
          by_cases hkl : k < ll.length
          · obtain rfl := ha (by omega)
            obtain ⟨k1, k2⟩ := HC.out k hkl
            replace k1 := hE1.cell k1
            replace k2 := k2.ext hE1
            have HO2 := Lib.hid (show vals s ll[k] m = true → (inB m 1 4 && allV s m (ll.take (k + 1))) = true from fun h => by
              have h5 := Bool.and_eq_true_iff.1 (HO.out rfl)
              rw [h5.1, Bool.true_and]
              rw [List.take_succ_eq_append_getElem hkl]
              unfold allV
              rw [List.all_append]
              have h6 := h5.2
              unfold allV at h6
              rw [h6]
              simp [h])
            have HN2 := Lib.hid (show vals s ll[k] m = false → (inB m 1 4 && allV s m ll) = false from fun h => by
              have : allV s m ll = false := by
                unfold allV
                rw [List.all_eq_false]
                exact ⟨ll[k], List.getElem_mem hkl, by rw [h]; simp⟩
              rw [this, Bool.and_false])
            generalize el k = y at k1 k2
            obtain ⟨ya, yc, rfl⟩ := k2.form
            generalize ll[k] = X at k1 k2 HO2 HN2
            go_wp2_with fail
            refine (l01Tuple_any s m X _ _ k2 (by omega) (by omega)).mono ?_
            rintro e w' ⟨rfl, rfl⟩
            go_wp2_with fail
            go_roundw
            case rel => exact ⟨k + 1, vals s X m, by omega, rfl, by go_num, trivial, HO2, HN2⟩
            case measure => simp [intOf]; omega
          · have hyes : (inB m 1 4 && allV s m ll) = true := by
              have := HO.out rfl
              rwa [List.take_of_length_le (by omega)] at this
            exact absurd (h2.symm.trans hyes) (by decide)
    | true =>
      have hh := Bool.and_eq_true_iff.1 h2
      have hb2 := inB_iff.1 hh.1
      have HALL := Lib.hid (allV_iff.1 hh.2)
      rw [mk_0 h1 h2]
      have hmk := mkRel_SrelOf (s := s) (m := m) (p := fun t => decide (t ∈ ll)) hb1.1 hb1.2 hb2.1 hb2.2
      clear hh
      go_enter Try.func11, Try.ntmps11
      go_wp2_with fail
      refine (l01Size_any _ _).mono ?_
      rintro e w' ⟨rfl, rfl⟩
      rw [h1]
      go_wp2_with fail
      refine (l01Arity_any _ _).mono ?_
      rintro e w' ⟨rfl, rfl⟩
      generalize hA0 : w.alloc (.cells #[.int .i64 0, .slice none 0 0] 25) = w1 at hE1 d0 d1 f2 f3 ⊢
      clear hA0
      go_wp2_with fail
      go_loopw [8, 9] (fun t i wr => ∃ (k : Nat) (ok : Bool), k ≤ ll.length ∧ t = .bool ok ∧ i = .int .i64 (k : Nat) ∧ w1 = wr ∧ Hid (ok = true → (inB m 1 4 && allV s m (ll.take k)) = true) ∧ Hid (ok = false → (inB m 1 4 && allV s m ll) = false)) (fun _ i _ => ll.length - (intOf i).toNat)
      case atStart => exact ⟨0, inB m 1 4, by omega, rfl, rfl, rfl, Lib.hid fun h => by rw [h]; rfl, Lib.hid fun h => by rw [h]; rfl⟩
      case round =>
        obtain ⟨k, ok, hk, rfl, rfl, rfl, HO, HN⟩ := hrel
        cases ok with
        | false =>
          have hno := HN.out rfl
          by_cases hkl : k < ll.length
          · skip
            exact absurd (h2.symm.trans hno) (by decide)
          · skip
            exact absurd (h2.symm.trans hno) (by decide)
        | true =>
          by_cases hkl : k < ll.length
          · obtain rfl := ha (by omega)
            obtain ⟨k1, k2⟩ := HC.out k hkl
            replace k1 := hE1.cell k1
            replace k2 := k2.ext hE1
            have HO2 := Lib.hid (show vals s ll[k] m = true → (inB m 1 4 && allV s m (ll.take (k + 1))) = true from fun h => by
              have h5 := Bool.and_eq_true_iff.1 (HO.out rfl)
              rw [h5.1, Bool.true_and]
              rw [List.take_succ_eq_append_getElem hkl]
              unfold allV
              rw [List.all_append]
              have h6 := h5.2
              unfold allV at h6
              rw [h6]
              simp [h])
            have HN2 := Lib.hid (show vals s ll[k] m = false → (inB m 1 4 && allV s m ll) = false from fun h => by
              have : allV s m ll = false := by
                unfold allV
                rw [List.all_eq_false]
                exact ⟨ll[k], List.getElem_mem hkl, by rw [h]; simp⟩
              rw [this, Bool.and_false])
            generalize el k = y at k1 k2
            obtain ⟨ya, yc, rfl⟩ := k2.form
            generalize ll[k] = X at k1 k2 HO2 HN2
            go_wp2_with fail
            refine (l01Tuple_any s m X _ _ k2 (by omega) (by omega)).mono ?_
            rintro e w' ⟨rfl, rfl⟩
            go_wp2_with fail
            go_roundw
            case rel => exact ⟨k + 1, vals s X m, by omega, rfl, by go_num, trivial, HO2, HN2⟩
            case measure => simp [intOf]; omega
          · have hyes : (inB m 1 4 && allV s m ll) = true := by
              have := HO.out rfl
              rwa [List.take_of_length_le (by omega)] at this
            clear h1 h2
            go_wp2_with fail
            refine (l01Empty_any s m _ hb1.1 hb1.2 hb2.1 hb2.2).mono ?_
            rintro e w2 ⟨p, fs, rfl, hE2, ho, hf⟩
            rw [mks_none] at ho
            have hg1 := hE1.size
            go_wp2_with fail
            go_loopw [11] (fun i wr => ∃ q : Nat, q ≤ ll.length ∧ i = .int .i64 (q : Nat) ∧ Ext w1 wr ∧ OSet wr p s m (mks s m fun x => decide (x ∈ ll.take q)) fs) (fun i _ => ll.length - (intOf i).toNat)
            case atStart => exact ⟨0, by omega, rfl, hE2, by simpa using ho⟩
            case round =>
              obtain ⟨q, hq, rfl, hE3, h⟩ := hrel
              by_cases hql : q < ll.length
              · obtain rfl := ha (by omega)
                obtain ⟨k1, k2⟩ := HC.out q hql
                replace k1 := hE3.cell (hE1.cell k1)
                replace k2 := (k2.ext hE1).ext hE3
                have ht := HALL.out ll[q] (List.getElem_mem hql)
                have HM := Lib.hid (mks_take (s := s) (m := m) hql)
                generalize el q = y at k1 k2
                obtain ⟨ya, yc, rfl⟩ := k2.form
                obtain ⟨pb, -, rfl, -⟩ := id h
                generalize ll[q] = X at k1 k2 ht HM
                go_wp2_with fail
                refine (put_any s m _ _ _ X fs _ h k2 hb1.1 hb1.2 hb2.1 hb2.2 ht).mono ?_
                rintro e w4 ⟨rfl, hO, h4⟩
                rw [HM.out] at h4
                have hE4 : Ext w1 w4 := Below.trans hE3 (hO.below hE3.size hf)
                clear h hO
                go_wp2_with fail
                go_roundw
                case rel => exact ⟨q + 1, by omega, by go_num, hE4, h4⟩
                case measure => simp [intOf]; omega
              · rw [List.take_of_length_le (by omega)] at h
                obtain ⟨pb, -, rfl, -⟩ := id h
                go_wp2_with fail
                refine (setRel_any s m _ _ fs _ h hb1.1 hb1.2 hb2.1 hb2.2 (mks_length _)).mono ?_
                rintro e w3 ⟨u, fp, rfl, hE5, hr3, hfr⟩
                rw [setRel_mks] at hr3
                have hE := hE1.tr hE3
                replace f2 : _ = false := (hE3.frozen (p := ⟨w.heap.size, 0, none⟩) (lt_of_cell d0)).trans f2
                replace f3 : _ = false := (hE3.frozen (p := ⟨w.heap.size, 1, none⟩) (lt_of_cell d1)).trans f3
                replace d0 := hE3.cell d0
                replace d1 := hE3.cell d1
                have hE3 := hE5
                have q0 := lt_of_cell d0
                obtain ⟨ua, uc, rfl⟩ := hr3.form
                replace f2 : _ = false := (hE3.frozen (lt_of_cell d0)).trans f2
                replace f3 : _ = false := (hE3.frozen (lt_of_cell d1)).trans f3
                replace d0 := hE3.cell d0
                replace d1 := hE3.cell d1
                go_wp2_with fail
                exact bodyPost_ret (v := .tuple #[.agg #[.int .i64 (SrelOf s m (fun t => decide (t ∈ ll))).1, .slice ua (SrelOf s m (fun t => decide (t ∈ ll))).2.length uc], .int .i64 0]) (by simp [results, Try.results11, go_sem, d0, d1]; try rfl) rfl
                  (RelRes.of rfl (((hE.tr hE3).setCell (by simp <;> omega) _).setCell (by simp <;> omega) _) (hr3.off ((Off.set (fp := [w.heap.size]) (by simp)).trans (Off.set (by simp))) (fun h hh hm => by have := hfr h hh; simp at hm; (try dsimp only at q0); omega)) (fun h hh => by have := hfr h hh; have := hE.size; omega) hmk)
end Go.Proofs.Ytefnmfdmnoednaa
