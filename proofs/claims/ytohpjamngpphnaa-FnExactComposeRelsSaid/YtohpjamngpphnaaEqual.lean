
/- EqualRel: the program's and the reference's give one function's answers. -/
import Derived.Test.YtohpjamngpphnaaFull
namespace Go.Proofs.Ytohpjamngpphnaa
open Go.RowKit
set_option linter.unusedVariables false

def eqP (t : List Int) : Bool := t.getD 0 0 == t.getD 1 0
def SEqualRel (s : Int) : (Int × List (List Int)) × Int := if inB s 1 4 then (SrelOf s 2 eqP, 0) else (noRel, 1)
def pairsE (n : Nat) : List (List Int) := (List.range n).map fun k : Nat => [(k : Int), (k : Int)]
theorem pairsE_succ (n : Nat) : pairsE (n + 1) = pairsE n ++ [[(n : Int), (n : Int)]] := by simp [pairsE, List.range_succ]
theorem pairsE_length (n : Nat) : (pairsE n).length = n := by simp [pairsE]
theorem pairsE_eq (s : Int) (h1 : 1 ≤ s) (h2 : s ≤ 4) : (2, pairsE s.toNat) = SrelOf s 2 eqP := by
  have h : s = 1 ∨ s = 2 ∨ s = 3 ∨ s = 4 := by omega
  rcases h with rfl | rfl | rfl | rfl <;> decide +kernel

theorem len_two {α : Type} : ∀ {l : List α}, l.length = 2 → ∃ x y, l = [x, y]
  | [x, y], _ => ⟨x, y, rfl⟩
theorem len_three {α : Type} : ∀ {l : List α}, l.length = 3 → ∃ x y z, l = [x, y, z]
  | [x, y, z], _ => ⟨x, y, z, rfl⟩
theorem OI_two (w : World) (x y : Int) : OI (w.alloc (.cells #[.int .i64 x, .int .i64 y] 2)) (.slice (some ⟨w.heap.size, 0, none⟩) 2 2) [x, y] [w.heap.size] :=
  ⟨⟨by simp, .inr ⟨w.heap.size, 2, #[.int .i64 x, .int .i64 y], rfl, Nat.zero_le _, heap_alloc_new w _, Nat.le_refl _, by decide, rfl, rfl⟩⟩, rfl⟩
set_option maxHeartbeats 2000000 in
theorem l01Equal_any (s : Int) (w : World) (hs1 : 1 ≤ s) (hs2 : s ≤ 4) :
    Calls Try.prog 47 #[.int .i64 s] w fun e w' => ∃ u fp, e = .returned u ∧ Ext w w' ∧ OwnRel w' u (SrelOf s 2 eqP) fp ∧ ∀ h ∈ fp, w.heap.size ≤ h := by
  obtain ⟨i0, hi, hz0, hz1, hz2⟩ := info_parts infoIS
  have HP := Lib.hid (pairsE_eq s hs1 hs2)
  obtain ⟨n, rfl⟩ := Int.eq_ofNat_of_zero_le (show 0 ≤ s by omega)
  rw [Int.toNat_natCast] at HP
  have hn : n ≤ 4 := by omega
  go_enter Try.func47, Try.ntmps47
  go_wp2_with fail
  go_loopw [4] (fun i wr => ∃ (k : Nat) (tv : Value) (fp : List Nat), k ≤ n ∧ i = .int .i64 k ∧ Ext w wr ∧ OII wr tv (pairsE k) fp ∧ (∀ g ∈ fp, w.heap.size + 2 ≤ g) ∧
      wr.cell? ⟨w.heap.size + 1, 0, none⟩ = some (.int .i64 2) ∧ wr.cell? ⟨w.heap.size + 1, 1, none⟩ = some tv ∧ wr.frozen? ⟨w.heap.size + 1, 1, none⟩ = false ∧
      wr.cell? ⟨w.heap.size, 0, none⟩ = some (.int .i64 0) ∧ wr.cell? ⟨w.heap.size, 1, none⟩ = some (.slice none 0 0) ∧ wr.frozen? ⟨w.heap.size, 0, none⟩ = false ∧ wr.frozen? ⟨w.heap.size, 1, none⟩ = false)
    (fun i _ => n - (intOf i).toNat)
  case atStart =>
    refine ⟨0, .slice none 0 0, [], by omega, rfl, ((Ext.refl' w).alloc (Nat.le_refl _) _).alloc (by simp) _, OII_nil _, by simp, ?_, ?_, ?_, ?_, ?_, ?_, ?_⟩ <;> simp [go_sem]
  case round =>
    obtain ⟨k, tv, fp, hk, rfl, hE, ho, hfp, c0, c1, f1, d0, d1, f2, f3⟩ := hrel
    have q0 : w.heap.size < wr.heap.size := lt_of_cell d0
    have q1 : w.heap.size + 1 < wr.heap.size := lt_of_cell c0
    obtain ⟨va, vc, rfl⟩ := ho.form
    have hlen : (pairsE k).length ≤ k := by rw [pairsE_length]; omega
    by_cases hkl : k < n
    · have HD := Lib.hid (pairsE_succ k)
      have hA1 : Ext wr (wr.alloc (.cells #[.int .i64 k, .int .i64 k] 2)) := (Ext.refl' wr).alloc (Nat.le_refl _) _
      have hx0 := OI_two wr k k
      have hC : Ext wr ((wr.alloc (.cells #[.int .i64 k, .int .i64 k] 2)).alloc (.cells #[.slice (some ⟨wr.heap.size, 0, none⟩) 2 2] 38)) := hA1.alloc (by simp) _
      have hx := hx0.alloc (.cells #[.slice (some ⟨wr.heap.size, 0, none⟩) 2 2] 38)
      have hd : ∀ g ∈ [wr.heap.size], g ∉ fp := fun g hg hm => by have := ho.lt g hm; simp at hg; omega
      have q2 := hE.size
      obtain ⟨cs, hrow, hin, hpush⟩ := OwnL.row eI_ok (ho.ext hC)
      have hrow2 := own_base (base' := w.heap.size + 2) hrow fun g hg => hfp g (hin g hg)
      go_wp2_with (at_builtin; refine wpList_append_own_at _ rfl _ _ 22 rfl (w.heap.size + 2) 38 i0 (.slice none 0 0) 1 24 Try.underlying22 hi hz0 hz1 hz2 rfl (by decide) _ _ _ rfl hrow2 ⟨wr.heap.size + 1, 0, none⟩ 1 1 [.slice (some ⟨wr.heap.size, 0, none⟩) 2 2] rfl rfl (cells_one (by simp [go_sem])) (by simp [Value.oneCell']) (by unfold maxLen; omega) (by omega) (by simp; omega) ?_)
      intro v' w4 ho4 hg4 _ hat
      obtain ⟨fp', hL, hfp'⟩ := hpush ⟨_, rfl, hx⟩ rfl hd ho4 hg4 (by simpa using hat)
      rw [← HD.out] at hL
      have hf4 : ∀ g ∈ fp', w.heap.size + 2 ≤ g := fun g hg => by
        rcases hfp' g hg with h | h | h
        · exact hfp g h
        · simp at h; omega
        · rw [h]; simp; omega
      have hE4 := (hE.tr hC).grown hg4 (by simp; omega) (fun g hg => by have := hfp g (hin g hg); omega)
      obtain ⟨wa, wc, rfl⟩ := hL.form
      have n0 : some (w.heap.size + 1) ≠ Value.ownBlock (.slice va (pairsE k).length vc) := fun h => by have := hfp _ (hin _ h.symm); omega
      have n1 : some w.heap.size ≠ Value.ownBlock (.slice va (pairsE k).length vc) := fun h => by have := hfp _ (hin _ h.symm); omega
      replace c0 := hg4.cell (hC.cell c0) n0
      replace c1 := hg4.cell (hC.cell c1) n0
      replace d0 := hg4.cell (hC.cell d0) n1
      replace d1 := hg4.cell (hC.cell d1) n1
      replace f1 : w4.frozen? ⟨w.heap.size + 1, 1, none⟩ = false := by rw [grown_frozen hg4 (by simp; omega) n0, hC.frozen (by dsimp only; omega)]; exact f1
      replace f2 : w4.frozen? ⟨w.heap.size, 0, none⟩ = false := by rw [grown_frozen hg4 (by simp; omega) n1, hC.frozen (by dsimp only; omega)]; exact f2
      replace f3 : w4.frozen? ⟨w.heap.size, 1, none⟩ = false := by rw [grown_frozen hg4 (by simp; omega) n1, hC.frozen (by dsimp only; omega)]; exact f3
      have hL2 := hL
      clear ho hE hg4 hC hA1 hrow hrow2 hpush ho4 n0 n1 hx hx0 hL q0 q1
      go_wp2_with fail
      go_roundw
      case rel =>
        exact ⟨k + 1, _, fp', by omega, by go_num, hE4.setCell (by simp) _, OII.set hL2 (fun hm => by have := hf4 _ hm; dsimp only at this; omega) _, hf4,
          cell_set c0 (by simp), cell_same c1, by simpa using f1, cell_set d0 (by simp), cell_set d1 (by simp), by simpa using f2, by simpa using f3⟩
      case measure => simp [intOf]; omega
    · have hkk : k = n := by omega
      subst hkk
      go_wp2_with fail
      have b1 : (⟨w.heap.size, 0, none⟩ : Addr).block ∉ fp := fun hm => by have := hfp _ hm; dsimp only at this; omega
      have ho3 := OII.set (OII.set ho (p := ⟨w.heap.size, 0, none⟩) b1 (.int .i64 2)) (p := ⟨w.heap.size, 1, none⟩) b1 (.slice va (pairsE k).length vc)
      rw [← HP.out]
      exact bodyPost_ret (v := .agg #[.int .i64 2, .slice va (pairsE k).length vc]) (by simp [results, Try.results47, go_sem, d0, d1]) rfl
        ⟨_, fp, rfl, (hE.setCell (by simp) _).setCell (by simp) _, ⟨_, rfl, ho3⟩, fun h hh => by have := hfp h hh; omega⟩

set_option maxHeartbeats 1000000 in
theorem implEqualRel_any (s : Int) (w : World) (lo0 : -9223372036854775808 ≤ s) (hi0 : s ≤ 9223372036854775807) :
    Calls Try.prog 16 #[.int .i64 s] w (RelRes (SEqualRel s) w) := by
  have hE1 : Ext w (w.alloc (.cells #[.int .i64 0, .slice none 0 0] 24)) := (Ext.refl' w).alloc (Nat.le_refl _) _
  cases h1 : inB s 1 4 with
  | false =>
    rw [show SEqualRel s = (noRel, 1) from by unfold SEqualRel; rw [h1]; rfl]
    go_enter Try.func16, Try.ntmps16
    go_wp2_with (go_at_call 48; refine (isSize_any _ _).mono ?_; rintro e w' ⟨rfl, rfl⟩)
    exact bodyPost_ret (v := .tuple #[.agg #[.int .i64 0, .slice none 0 0], .int .i64 1]) (by simp [results, Try.results16, go_sem]) rfl (RelRes.no hE1)
  | true =>
    have hb1 := inB_iff.1 h1
    rw [show SEqualRel s = (SrelOf s 2 eqP, 0) from by unfold SEqualRel; rw [h1]; rfl]
    have hmk := mkRel_SrelOf (p := eqP) hb1.1 hb1.2 (show 1 ≤ (2 : Int) by omega) (by omega)
    go_enter Try.func16, Try.ntmps16
    go_wp2_with (go_at_call 48; refine (isSize_any _ _).mono ?_; rintro e w' ⟨rfl, rfl⟩)
    refine (relOf_any s 2 eqP 50 #[] #[] _ hb1.1 hb1.2 (by omega) (by omega) Try.call50 ?_).mono ?_
    · intro k x w' _ hE' hx
      have hl := digs_length s (2 : Int).toNat k
      have HP := Lib.hid (show eqP (digs s (2 : Int).toNat k) = ((digs s (2 : Int).toNat k).getD 0 0 == (digs s (2 : Int).toNat k).getD 1 0) from rfl)
      generalize digs s (2 : Int).toNat k = l at hx hl HP
      obtain ⟨a, b, off, c, rfl, hlc, hcm, ha, hc⟩ := hx
      obtain ⟨x0, x1, rfl⟩ : ∃ x0 x1, l = [x0, x1] := len_two hl
      obtain rfl := ha (by simp)
      have hc0 : w'.cell? ⟨b, off, none⟩ = some (.int .i64 x0) := by simpa using hc 0 (by simp)
      have hc1 : w'.cell? ⟨b, off + 1, none⟩ = some (.int .i64 x1) := by simpa using hc 1 (by simp)
      clear hc
      simp only [List.append_toArray, List.nil_append, List.append_nil]
      clear hl
      go_enter Try.func50, Try.ntmps50
      go_wp2_with fail
      go_quiet (fail)
      go_wp2_with fail
      go_ret
      exact ⟨ret_bool (by rw [HP.out]; rfl), Qt.ext ⟨_, rfl⟩⟩
    rintro e w3 ⟨u, fp, rfl, hE3, hr3, hfr⟩
    obtain ⟨ua, uc, rfl⟩ := hr3.form
    have hE := hE3
    have d0 := hE.cell (p := ⟨w.heap.size, 0, none⟩) (v := .int .i64 0) (by simp [go_sem])
    have d1 := hE.cell (p := ⟨w.heap.size, 1, none⟩) (v := .slice none 0 0) (by simp [go_sem])
    have f2 := hE.frozen (p := ⟨w.heap.size, 0, none⟩) (by simp)
    have f3 := hE.frozen (p := ⟨w.heap.size, 1, none⟩) (by simp)
    simp [go_sem] at f2 f3
    replace hE := hE1
    have q0 := hE.size
    simp at q0
    have hfr : ∀ h ∈ fp, w.heap.size + 1 ≤ h := fun g hg => by have := hfr g hg; simpa using this
    go_wp2_with fail
    exact bodyPost_ret (v := .tuple #[.agg #[.int .i64 (SrelOf s 2 eqP).1, .slice ua (SrelOf s 2 eqP).2.length uc], .int .i64 0]) (by simp [results, Try.results16, go_sem, d0, d1]; try rfl) rfl
      (RelRes.of rfl (((hE.tr hE3).setCell (by simp <;> omega) _).setCell (by simp <;> omega) _) (hr3.off ((Off.set (fp := [w.heap.size]) (by simp)).trans (Off.set (by simp))) (fun h hh hm => by have := hfr h hh; simp at hm; (try dsimp only at q0); omega)) (fun h hh => by have := hfr h hh; have := hE.size; omega) hmk)
set_option maxHeartbeats 1000000 in
theorem specEqualRel_any (s : Int) (w : World) (lo0 : -9223372036854775808 ≤ s) (hi0 : s ≤ 9223372036854775807) :
    Calls Try.prog 15 #[.int .i64 s] w (RelRes (SEqualRel s) w) := by
  have hE1 : Ext w (w.alloc (.cells #[.int .i64 0, .slice none 0 0] 24)) := (Ext.refl' w).alloc (Nat.le_refl _) _
  cases h1 : inB s 1 4 with
  | false =>
    rw [show SEqualRel s = (noRel, 1) from by unfold SEqualRel; rw [h1]; rfl]
    go_enter Try.func15, Try.ntmps15
    go_wp2_with (go_at_call 46; refine (l01Size_any _ _).mono ?_; rintro e w' ⟨rfl, rfl⟩)
    exact bodyPost_ret (v := .tuple #[.agg #[.int .i64 0, .slice none 0 0], .int .i64 1]) (by simp [results, Try.results15, go_sem]) rfl (RelRes.no hE1)
  | true =>
    have hb1 := inB_iff.1 h1
    rw [show SEqualRel s = (SrelOf s 2 eqP, 0) from by unfold SEqualRel; rw [h1]; rfl]
    have hmk := mkRel_SrelOf (p := eqP) hb1.1 hb1.2 (show 1 ≤ (2 : Int) by omega) (by omega)
    go_enter Try.func15, Try.ntmps15
    go_wp2_with (go_at_call 46; refine (l01Size_any _ _).mono ?_; rintro e w' ⟨rfl, rfl⟩)
    refine (l01Equal_any s _ hb1.1 hb1.2).mono ?_
    rintro e w3 ⟨u, fp, rfl, hE3, hr3, hfr⟩
    obtain ⟨ua, uc, rfl⟩ := hr3.form
    have hE := hE3
    have d0 := hE.cell (p := ⟨w.heap.size, 0, none⟩) (v := .int .i64 0) (by simp [go_sem])
    have d1 := hE.cell (p := ⟨w.heap.size, 1, none⟩) (v := .slice none 0 0) (by simp [go_sem])
    have f2 := hE.frozen (p := ⟨w.heap.size, 0, none⟩) (by simp)
    have f3 := hE.frozen (p := ⟨w.heap.size, 1, none⟩) (by simp)
    simp [go_sem] at f2 f3
    replace hE := hE1
    have q0 := hE.size
    simp at q0
    have hfr : ∀ h ∈ fp, w.heap.size + 1 ≤ h := fun g hg => by have := hfr g hg; simpa using this
    go_wp2_with fail
    exact bodyPost_ret (v := .tuple #[.agg #[.int .i64 (SrelOf s 2 eqP).1, .slice ua (SrelOf s 2 eqP).2.length uc], .int .i64 0]) (by simp [results, Try.results15, go_sem, d0, d1]; try rfl) rfl
      (RelRes.of rfl (((hE.tr hE3).setCell (by simp <;> omega) _).setCell (by simp <;> omega) _) (hr3.off ((Off.set (fp := [w.heap.size]) (by simp)).trans (Off.set (by simp))) (fun h hh hm => by have := hfr h hh; simp at hm; (try dsimp only at q0); omega)) (fun h hh => by have := hfr h hh; have := hE.size; omega) hmk)
end Go.Proofs.Ytohpjamngpphnaa
