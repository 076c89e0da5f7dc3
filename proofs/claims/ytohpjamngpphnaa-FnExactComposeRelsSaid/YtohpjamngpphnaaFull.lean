
/- FullRel: the program's and the reference's give one function's answers. -/
import Derived.Test.YtohpjamngpphnaaSet
namespace Go.Proofs.Ytohpjamngpphnaa
open Go.RowKit
set_option linter.unusedVariables false

theorem OSet.store {w : World} {p : Value} {s m : Int} {hs : List Bool} {fp : List Nat} (h : OSet w p s m hs fp) (k : Nat) (hk : k < hs.length) (x : Bool) :
    ∃ b g cap, p = .pointer (some ⟨b, 0, none⟩) ∧ w.cell? ⟨b, 0, none⟩ = some (.int .i64 s) ∧ w.cell? ⟨b, 1, none⟩ = some (.int .i64 m) ∧ w.cell? ⟨b, 2, none⟩ = some (.slice (some ⟨g, 0, none⟩) hs.length cap) ∧ w.cell? ⟨g, k, none⟩ = some (.bool hs[k]) ∧ w.frozen? ⟨g, k, none⟩ = false ∧ g ∈ fp ∧ hs.length ≤ cap ∧ cap ≤ 9223372036854775807 ∧
      OSet (w.setCell ⟨g, k, none⟩ (.bool x)) p s m (hs.set k x) fp := by
  obtain ⟨b, tv, h1, h2, h3, h4, h5, h6⟩ := h
  obtain ⟨g, cap, rfl, k1, k2, k3, k4, k5, k6⟩ := h5.at k hk
  have hne : g ≠ b := fun hh => h6 (hh ▸ k3)
  refine ⟨b, g, cap, h1, h2, h3, h4, k1, k2, k3, k4, k5, b, _, h1, cell_set h2 (.inl hne), cell_set h3 (.inl hne), cell_set h4 (.inl hne), k6 x, h6⟩

theorem allC_congr {s m : Int} {h h' : Nat → Bool} {n : Nat} (hh : ∀ k, k < n → h k = h' k) : allC s m h n = allC s m h' n := by
  unfold allC
  congr 1
  exact List.filter_congr fun k hk => hh k (List.mem_range.1 hk)
/-- a set as a relation of all tuples for which something is so -/
theorem setRel_eq {s m : Int} {hs : List Bool} {p : List Int → Bool} (hh : ∀ k, k < count s m → hs.getD k false = p (digs s m.toNat k)) : setRel s m hs = SrelOf s m p := by
  unfold setRel SrelOf
  rw [allD_eq, allC_congr hh]
def SFullRel (s m : Int) : (Int × List (List Int)) × Int := if inB s 1 4 then if inB m 1 4 then (SrelOf s m fun _ => true, 0) else (noRel, 2) else (noRel, 1)

set_option maxHeartbeats 2000000 in
theorem l01Full_any (s m : Int) (w : World) (hs1 : 1 ≤ s) (hs2 : s ≤ 4) (hm : 1 ≤ m) (hm2 : m ≤ 4) :
    Calls Try.prog 59 #[.int .i64 s, .int .i64 m] w fun e w' => ∃ u fp, e = .returned u ∧ Ext w w' ∧ OwnRel w' u (SrelOf s m fun _ => true) fp ∧ ∀ h ∈ fp, w.heap.size ≤ h := by
  have hN3 : count s m ≤ 256 := by have := count_eq s m hs1 hs2 hm hm2; have := powW_small s m hs1 hs2 hm hm2; omega
  have hE1 : Ext w (w.alloc (.cells #[.int .i64 0, .slice none 0 0] 24)) := (Ext.refl' w).alloc (Nat.le_refl _) _
  go_enter Try.func59, Try.ntmps59
  go_wp2_with fail
  refine (l01Empty_any s m _ hs1 hs2 hm hm2).mono ?_
  rintro e w1 ⟨p, fs, rfl, hE, ho, hf⟩
  have hf : ∀ g ∈ fs, w.heap.size + 1 ≤ g := fun g hg => by have := hf g hg; simpa using this
  have d0 := hE.cell (p := ⟨w.heap.size, 0, none⟩) (v := .int .i64 0) (by simp [go_sem])
  have d1 := hE.cell (p := ⟨w.heap.size, 1, none⟩) (v := .slice none 0 0) (by simp [go_sem])
  have f2 := hE.frozen (p := ⟨w.heap.size, 0, none⟩) (by simp)
  have f3 := hE.frozen (p := ⟨w.heap.size, 1, none⟩) (by simp)
  simp [go_sem] at f2 f3
  replace hE := hE1.tr hE
  go_wp2_with fail
  go_loopw [6] (fun i wr => ∃ (k : Nat), k ≤ count s m ∧ i = .int .i64 k ∧ Ext w wr ∧ OSet wr p s m (List.replicate k true ++ List.replicate (count s m - k) false) fs ∧
      wr.cell? ⟨w.heap.size, 0, none⟩ = some (.int .i64 0) ∧ wr.cell? ⟨w.heap.size, 1, none⟩ = some (.slice none 0 0) ∧ wr.frozen? ⟨w.heap.size, 0, none⟩ = false ∧ wr.frozen? ⟨w.heap.size, 1, none⟩ = false)
    (fun i _ => count s m - (intOf i).toNat)
  case atStart => exact ⟨0, by omega, rfl, hE, by simpa using ho, d0, d1, f2, f3⟩
  case round =>
    obtain ⟨k, hk, rfl, hE, ho, d0, d1, f2, f3⟩ := hrel
    have hlen : (List.replicate k true ++ List.replicate (count s m - k) false).length = count s m := by simp; omega
    have q0 : w.heap.size < wr.heap.size := lt_of_cell d0
    by_cases hkl : k < count s m
    · obtain ⟨b, g, cap, rfl, c0, c1, c2, cb, fz, hg, hcap, hcm, hst⟩ := ho.store k (by omega) true
      have hset : (List.replicate k true ++ List.replicate (count s m - k) false).set k true = List.replicate (k + 1) true ++ List.replicate (count s m - (k + 1)) false := by
        rw [List.set_append_right _ _ (by simp), List.length_replicate, Nat.sub_self, show count s m - k = (count s m - (k + 1)) + 1 by omega, List.replicate_succ, List.set_cons_zero, List.replicate_succ' (n := k), List.append_assoc]
        rfl
      rw [hset] at hst
      rw [hlen] at c2 hcap
      have hgw := hf g hg
      replace cb : ∃ old, wr.cell? ⟨g, k, none⟩ = some old := ⟨_, cb⟩
      obtain ⟨old, cb⟩ := cb
      clear hset ho
      clear hlen
      go_wp2_with fail
      go_roundw
      case rel => exact ⟨k + 1, by omega, by go_num, hE.setCell (by dsimp only; omega) _, hst, cell_set d0 (.inl (by dsimp only; omega)), cell_set d1 (.inl (by dsimp only; omega)), by
        rw [World.frozen?_setCell]; exact f2, by rw [World.frozen?_setCell]; exact f3⟩
      case measure => simp [intOf]; omega
    · have hkk : k = count s m := by omega
      subst hkk
      have ho2 := ho
      obtain ⟨b, tv, rfl, c0, c1, c2, hob, hbf⟩ := ho
      obtain ⟨ba, bc, rfl⟩ := hob.form
      rw [hlen] at c2
      go_wp2_with fail
      refine (setRel_any s m _ _ _ _ ho2 hs1 hs2 hm hm2 hlen).mono ?_
      rintro e w3 ⟨u, fp, rfl, hE3, hr, hfr⟩
      rw [setRel_eq (p := fun _ => true) (fun k hk => by
        rw [Nat.sub_self, List.replicate_zero, List.append_nil, List.getD_eq_getElem?_getD, List.getElem?_eq_getElem (by simpa using hk), List.getElem_replicate]; rfl)] at hr
      obtain ⟨ua, uc, rfl⟩ := hr.form
      replace f2 : w3.frozen? ⟨w.heap.size, 0, none⟩ = false := by rw [hE3.frozen (lt_of_cell d0)]; exact f2
      replace f3 : w3.frozen? ⟨w.heap.size, 1, none⟩ = false := by rw [hE3.frozen (lt_of_cell d1)]; exact f3
      replace d0 := hE3.cell d0
      replace d1 := hE3.cell d1
      go_wp2_with fail
      exact bodyPost_ret (v := .agg #[.int .i64 m, .slice ua (SrelOf s m fun _ => true).2.length uc]) (by simp [results, Try.results59, go_sem, d0, d1]; rfl) rfl
        ⟨_, fp, rfl, ((hE.tr hE3).setCell (by simp) _).setCell (by simp) _, hr.off ((Off.set (fp := [w.heap.size]) (by simp)).trans (Off.set (by simp))) (fun h hh hm => by have := hfr h hh; simp at hm; omega), fun h hh => by have := hfr h hh; omega⟩

set_option maxHeartbeats 1000000 in
theorem fullRel_any (s m : Int) (w : World) (hs1 : 1 ≤ s) (hs2 : s ≤ 4) (hm : 1 ≤ m) (hm2 : m ≤ 4) :
    Calls Try.prog 61 #[.int .i64 s, .int .i64 m] w fun e w' => ∃ u fp, e = .returned u ∧ Ext w w' ∧ OwnRel w' u (SrelOf s m fun _ => true) fp ∧ ∀ h ∈ fp, w.heap.size ≤ h := by
  have hE1 : Ext w (w.alloc (.cells #[.int .i64 0, .slice none 0 0] 24)) := (Ext.refl' w).alloc (Nat.le_refl _) _
  go_enter Try.func61, Try.ntmps61
  go_wp2_with fail
  refine (relOf_any s m (fun _ => true) 96 #[] #[] _ hs1 hs2 hm hm2 Try.call96 ?_).mono ?_
  · intro k u w' _ _ hr
    simp only [List.append_toArray, List.nil_append, List.append_nil]
    go_enter Try.func96, Try.ntmps96
    go_wp2_with fail
    go_ret
    exact ⟨rfl, Ext.refl' _⟩
  rintro e w3 ⟨u, fp, rfl, hE3, hr, hfr⟩
  obtain ⟨ua, uc, rfl⟩ := hr.form
  have d0 := hE3.cell (p := ⟨w.heap.size, 0, none⟩) (v := .int .i64 0) (by simp [go_sem])
  have d1 := hE3.cell (p := ⟨w.heap.size, 1, none⟩) (v := .slice none 0 0) (by simp [go_sem])
  have f2 := hE3.frozen (p := ⟨w.heap.size, 0, none⟩) (by simp)
  have f3 := hE3.frozen (p := ⟨w.heap.size, 1, none⟩) (by simp)
  simp [go_sem] at f2 f3
  have hfr : ∀ g ∈ fp, w.heap.size + 1 ≤ g := fun g hg => by have := hfr g hg; simpa using this
  go_wp2_with fail
  exact bodyPost_ret (v := .agg #[.int .i64 m, .slice ua (SrelOf s m fun _ => true).2.length uc]) (by simp [results, Try.results61, go_sem, d0, d1]; rfl) rfl
    ⟨_, fp, rfl, ((hE1.tr hE3).setCell (by simp) _).setCell (by simp) _, hr.off ((Off.set (fp := [w.heap.size]) (by simp)).trans (Off.set (by simp))) (fun h hh hm => by have := hfr h hh; simp at hm; omega), fun h hh => by have := hfr h hh; omega⟩

set_option maxHeartbeats 1000000 in
theorem specFullRel_any (s m : Int) (w : World) (lo0 : -9223372036854775808 ≤ s) (hi0 : s ≤ 9223372036854775807) (lo1 : -9223372036854775808 ≤ m) (hi1 : m ≤ 9223372036854775807) :
    Calls Try.prog 24 #[.int .i64 s, .int .i64 m] w (RelRes (SFullRel s m) w) := by
  have hE1 : Ext w (w.alloc (.cells #[.int .i64 0, .slice none 0 0] 24)) := (Ext.refl' w).alloc (Nat.le_refl _) _
  cases h1 : inB s 1 4 with
  | false =>
    rw [show SFullRel s m = (noRel, 1) from by unfold SFullRel; rw [h1]; rfl]
    go_enter Try.func24, Try.ntmps24
    go_wp2_with (go_at_call 46; refine (l01Size_any _ _).mono ?_; rintro e w' ⟨rfl, rfl⟩)
    exact bodyPost_ret (v := .tuple #[.agg #[.int .i64 0, .slice none 0 0], .int .i64 1]) (by simp [results, Try.results24, go_sem]) rfl (RelRes.no hE1)
  | true =>
    have hb1 := inB_iff.1 h1
    cases h2 : inB m 1 4 with
    | false =>
      rw [show SFullRel s m = (noRel, 2) from by unfold SFullRel; rw [h1, h2]; rfl]
      go_enter Try.func24, Try.ntmps24
      go_wp2_with (first | (go_at_call 46; refine (l01Size_any _ _).mono ?_; rintro e w' ⟨rfl, rfl⟩) | (go_at_call 58; refine (l01Arity_any _ _).mono ?_; rintro e w' ⟨rfl, rfl⟩))
      exact bodyPost_ret (v := .tuple #[.agg #[.int .i64 0, .slice none 0 0], .int .i64 2]) (by simp [results, Try.results24, go_sem]) rfl (RelRes.no hE1)
    | true =>
      have hb2 := inB_iff.1 h2
      have hmk := mkRel_SrelOf (p := fun _ => true) hb1.1 hb1.2 hb2.1 hb2.2
      rw [show SFullRel s m = (SrelOf s m fun _ => true, 0) from by unfold SFullRel; rw [h1, h2]; rfl]
      go_enter Try.func24, Try.ntmps24
      go_wp2_with (first | (go_at_call 46; refine (l01Size_any _ _).mono ?_; rintro e w' ⟨rfl, rfl⟩) | (go_at_call 58; refine (l01Arity_any _ _).mono ?_; rintro e w' ⟨rfl, rfl⟩))
      refine (l01Full_any s m _ hb1.1 hb1.2 hb2.1 hb2.2).mono ?_
      rintro e w3 ⟨u, fp, rfl, hE3, hr, hfr⟩
      obtain ⟨ua, uc, rfl⟩ := hr.form
      have d0 := hE3.cell (p := ⟨w.heap.size, 0, none⟩) (v := .int .i64 0) (by simp [go_sem])
      have d1 := hE3.cell (p := ⟨w.heap.size, 1, none⟩) (v := .slice none 0 0) (by simp [go_sem])
      have f2 := hE3.frozen (p := ⟨w.heap.size, 0, none⟩) (by simp)
      have f3 := hE3.frozen (p := ⟨w.heap.size, 1, none⟩) (by simp)
      simp [go_sem] at f2 f3
      have hfr : ∀ g ∈ fp, w.heap.size + 1 ≤ g := fun g hg => by have := hfr g hg; simpa using this
      go_wp2_with fail
      exact bodyPost_ret (v := .tuple #[.agg #[.int .i64 (SrelOf s m fun _ => true).1, .slice ua (SrelOf s m fun _ => true).2.length uc], .int .i64 0]) (by simp [results, Try.results24, go_sem, d0, d1]) rfl
        (RelRes.of rfl (((hE1.tr hE3).setCell (by simp) _).setCell (by simp) _) (hr.off ((Off.set (fp := [w.heap.size]) (by simp)).trans (Off.set (by simp))) (fun h hh hm => by have := hfr h hh; simp at hm; omega)) (fun h hh => by have := hfr h hh; omega) hmk)
set_option maxHeartbeats 1000000 in
theorem implFullRel_any (s m : Int) (w : World) (lo0 : -9223372036854775808 ≤ s) (hi0 : s ≤ 9223372036854775807) (lo1 : -9223372036854775808 ≤ m) (hi1 : m ≤ 9223372036854775807) :
    Calls Try.prog 25 #[.int .i64 s, .int .i64 m] w (RelRes (SFullRel s m) w) := by
  have hE1 : Ext w (w.alloc (.cells #[.int .i64 0, .slice none 0 0] 24)) := (Ext.refl' w).alloc (Nat.le_refl _) _
  cases h1 : inB s 1 4 with
  | false =>
    rw [show SFullRel s m = (noRel, 1) from by unfold SFullRel; rw [h1]; rfl]
    go_enter Try.func25, Try.ntmps25
    go_wp2_with (go_at_call 48; refine (isSize_any _ _).mono ?_; rintro e w' ⟨rfl, rfl⟩)
    exact bodyPost_ret (v := .tuple #[.agg #[.int .i64 0, .slice none 0 0], .int .i64 1]) (by simp [results, Try.results25, go_sem]) rfl (RelRes.no hE1)
  | true =>
    have hb1 := inB_iff.1 h1
    cases h2 : inB m 1 4 with
    | false =>
      rw [show SFullRel s m = (noRel, 2) from by unfold SFullRel; rw [h1, h2]; rfl]
      go_enter Try.func25, Try.ntmps25
      go_wp2_with (first | (go_at_call 48; refine (isSize_any _ _).mono ?_; rintro e w' ⟨rfl, rfl⟩) | (go_at_call 60; refine (isArity_any _ _).mono ?_; rintro e w' ⟨rfl, rfl⟩))
      exact bodyPost_ret (v := .tuple #[.agg #[.int .i64 0, .slice none 0 0], .int .i64 2]) (by simp [results, Try.results25, go_sem]) rfl (RelRes.no hE1)
    | true =>
      have hb2 := inB_iff.1 h2
      have hmk := mkRel_SrelOf (p := fun _ => true) hb1.1 hb1.2 hb2.1 hb2.2
      rw [show SFullRel s m = (SrelOf s m fun _ => true, 0) from by unfold SFullRel; rw [h1, h2]; rfl]
      go_enter Try.func25, Try.ntmps25
      go_wp2_with (first | (go_at_call 48; refine (isSize_any _ _).mono ?_; rintro e w' ⟨rfl, rfl⟩) | (go_at_call 60; refine (isArity_any _ _).mono ?_; rintro e w' ⟨rfl, rfl⟩))
      refine (fullRel_any s m _ hb1.1 hb1.2 hb2.1 hb2.2).mono ?_
      rintro e w3 ⟨u, fp, rfl, hE3, hr, hfr⟩
      obtain ⟨ua, uc, rfl⟩ := hr.form
      have d0 := hE3.cell (p := ⟨w.heap.size, 0, none⟩) (v := .int .i64 0) (by simp [go_sem])
      have d1 := hE3.cell (p := ⟨w.heap.size, 1, none⟩) (v := .slice none 0 0) (by simp [go_sem])
      have f2 := hE3.frozen (p := ⟨w.heap.size, 0, none⟩) (by simp)
      have f3 := hE3.frozen (p := ⟨w.heap.size, 1, none⟩) (by simp)
      simp [go_sem] at f2 f3
      have hfr : ∀ g ∈ fp, w.heap.size + 1 ≤ g := fun g hg => by have := hfr g hg; simpa using this
      go_wp2_with fail
      exact bodyPost_ret (v := .tuple #[.agg #[.int .i64 (SrelOf s m fun _ => true).1, .slice ua (SrelOf s m fun _ => true).2.length uc], .int .i64 0]) (by simp [results, Try.results25, go_sem, d0, d1]) rfl
        (RelRes.of rfl (((hE1.tr hE3).setCell (by simp) _).setCell (by simp) _) (hr.off ((Off.set (fp := [w.heap.size]) (by simp)).trans (Off.set (by simp))) (fun h hh hm => by have := hfr h hh; simp at hm; omega)) (fun h hh => by have := hfr h hh; omega) hmk)
end Go.Proofs.Ytohpjamngpphnaa
