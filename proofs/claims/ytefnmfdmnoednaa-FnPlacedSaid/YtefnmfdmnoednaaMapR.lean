
/- MapRel, ProjectRel: the program's and the reference's give one function's answers. -/
import Derived.Test.YtefnmfdmnoednaaMakeX
import Derived.Test.YtefnmfdmnoednaaAt
import Derived.Test.YtefnmfdmnoednaaRelFns
namespace Go.Proofs.Ytefnmfdmnoednaa
open Go.RowKit
set_option linter.unusedVariables false

abbrev RelM := Int × List (List Int)
def mapL (to : List Int) (L : List (List Int)) : List (List Int) := L.map (atP to)
def projL (places : List Int) (L : List (List Int)) : List (List Int) := L.map fun t => atP t places
def SMapRel (s : Int) (r : RelM) (to : List Int) (n : Int) : RelM × Int := if SValidRel s r then if inB n 1 4 && vals n to s then (SrelOf n r.1 fun t => decide (t ∈ mapL to r.2), 0) else (noRel, 2) else (noRel, 1)
theorem map_1 {s n : Int} {r : RelM} {to : List Int} (h : SValidRel s r = false) : SMapRel s r to n = (noRel, 1) := by unfold SMapRel; rw [h]; rfl
theorem map_2 {s n : Int} {r : RelM} {to : List Int} (h : SValidRel s r = true) (h2 : (inB n 1 4 && vals n to s) = false) : SMapRel s r to n = (noRel, 2) := by unfold SMapRel; rw [h, h2]; rfl
theorem map_0 {s n : Int} {r : RelM} {to : List Int} (h : SValidRel s r = true) (h2 : inB n 1 4 = true) (h3 : vals n to s = true) : SMapRel s r to n = (SrelOf n r.1 fun t => decide (t ∈ mapL to r.2), 0) := by unfold SMapRel; rw [h, h2, h3]; rfl
def isPl (m : Int) (places : List Int) : Bool := places.all fun a => inB a 0 (m - 1)
def SProjectRel (s : Int) (r : RelM) (places : List Int) : RelM × Int := if SValidRel s r then if inB places.length 1 4 && isPl r.1 places then (SrelOf s places.length fun t => decide (t ∈ projL places r.2), 0) else (noRel, 2) else (noRel, 1)
theorem proj_1 {s : Int} {r : RelM} {places : List Int} (h : SValidRel s r = false) : SProjectRel s r places = (noRel, 1) := by unfold SProjectRel; rw [h]; rfl
theorem proj_2 {s : Int} {r : RelM} {places : List Int} (h : SValidRel s r = true) (h2 : (inB places.length 1 4 && isPl r.1 places) = false) : SProjectRel s r places = (noRel, 2) := by unfold SProjectRel; rw [h, h2]; rfl
theorem proj_0 {s : Int} {r : RelM} {places : List Int} (h : SValidRel s r = true) (h2 : inB places.length 1 4 = true) (h3 : isPl r.1 places = true) : SProjectRel s r places = (SrelOf s places.length fun t => decide (t ∈ projL places r.2), 0) := by unfold SProjectRel; rw [h, h2, h3]; rfl
theorem vals_pl (m : Int) (places : List Int) : vals m places places.length = isPl m places := by unfold vals isPl; rw [decide_eq_true rfl, Bool.true_and]
theorem mapL_take {to : List Int} {L : List (List Int)} {k : Nat} (hk : k < L.length) : mapL to (L.take (k + 1)) = mapL to (L.take k) ++ [atP to L[k]] := by unfold mapL; rw [List.take_succ_eq_append_getElem hk, List.map_append]; rfl
theorem projL_take {p : List Int} {L : List (List Int)} {k : Nat} (hk : k < L.length) : projL p (L.take (k + 1)) = projL p (L.take k) ++ [atP L[k] p] := by unfold projL; rw [List.take_succ_eq_append_getElem hk, List.map_append]; rfl
theorem mapL_len (to : List Int) (L : List (List Int)) : (mapL to L).length = L.length := by simp [mapL]
theorem projL_len (p : List Int) (L : List (List Int)) : (projL p L).length = L.length := by simp [projL]
theorem mapL_le (to : List Int) (L : List (List Int)) (k : Nat) : (mapL to (L.take k)).length ≤ L.length := by unfold mapL; rw [List.length_map, List.length_take]; omega
theorem projL_le (p : List Int) (L : List (List Int)) (k : Nat) : (projL p (L.take k)).length ≤ L.length := by unfold projL; rw [List.length_map, List.length_take]; omega
/-- a tuple mapped is one of the other size -/
theorem map_vals {s n : Int} {r : RelM} {to : List Int} (hr : SValidRel s r = true) (hto : vals n to s = true) {t : List Int} (ht : t ∈ r.2) : vals n (atP to t) r.1 = true ∧ (∀ p ∈ t, 0 ≤ p ∧ p < to.length) ∧ t.length ≤ 1048576 := by
  obtain ⟨_, h2, h3⟩ := valid_parts hr
  obtain ⟨v1, v2⟩ := vals_iff.1 (h3 t ht)
  obtain ⟨u1, u2⟩ := vals_iff.1 hto
  have hp : ∀ p ∈ t, 0 ≤ p ∧ p < to.length := fun p hp => by have := v2 p hp; omega
  exact ⟨vals_iff.2 ⟨by rw [atP_length]; exact v1, atP_val u2 hp⟩, hp, by omega⟩
theorem proj_vals {s : Int} {r : RelM} {places : List Int} (hr : SValidRel s r = true) (hp : isPl r.1 places = true) {t : List Int} (ht : t ∈ r.2) : vals s (atP t places) places.length = true ∧ ∀ p ∈ places, 0 ≤ p ∧ p < t.length := by
  obtain ⟨_, h2, h3⟩ := valid_parts hr
  obtain ⟨v1, v2⟩ := vals_iff.1 (h3 t ht)
  have hq : ∀ p ∈ places, 0 ≤ p ∧ p < t.length := fun p hpp => by
    have := inB_iff.1 (List.all_eq_true.1 hp p hpp)
    omega
  exact ⟨vals_iff.2 ⟨by rw [atP_length], atP_val v2 hq⟩, hq⟩
theorem mem_mapL {s n : Int} {r : RelM} {to : List Int} (hr : SValidRel s r = true) (hto : vals n to s = true) : ∀ t ∈ mapL to r.2, vals n t r.1 = true := fun t ht => by
  obtain ⟨x, hx, rfl⟩ := List.mem_map.1 ht
  exact (map_vals hr hto hx).1
theorem mem_projL {s : Int} {r : RelM} {places : List Int} (hr : SValidRel s r = true) (hp : isPl r.1 places = true) : ∀ t ∈ projL places r.2, vals s t places.length = true := fun t ht => by
  obtain ⟨x, hx, rfl⟩ := List.mem_map.1 ht
  exact (proj_vals hr hp hx).1

set_option maxHeartbeats 4000000 in
set_option maxRecDepth 100000 in
theorem implMapRel_any (s : Int) (r : RelM) (v : Value) (to : List Int) (vt : Value) (n : Int) (w : World) (hr : RdRel w v r) (ht : RdI w vt to) (lo0 : -9223372036854775808 ≤ s) (hi0 : s ≤ 9223372036854775807) (lo3 : -9223372036854775808 ≤ n) (hi3 : n ≤ 9223372036854775807) (hzr : szRel r ≤ 1048576) (hzt : to.length ≤ 1048576) :
    Calls Try.prog 23 #[.int .i64 s, v, vt, .int .i64 n] w (RelRes (SMapRel s r to n) w) := by
  have hrl : r.2.length ≤ 1048576 := Nat.le_trans (len_szII r.2) hzr
  obtain ⟨tv, rfl, hr'⟩ := hr
  obtain ⟨ta, tc, rfl⟩ := hr'.form
  have hr : RdRel w _ r := ⟨_, rfl, hr'⟩
  obtain ⟨va, vc, rfl⟩ := ht.form
  have hE1 : Ext w ((w.alloc (.cells #[.int .i64 r.1, .slice ta r.2.length tc] 25)).alloc (.cells #[.int .i64 0, .slice none 0 0] 25)) := ((Ext.refl' w).alloc (Nat.le_refl _) _).alloc (by simp) _
  cases h1 : SValidRel s r with
  | false =>
    rw [map_1 h1]
    go_enter Try.func23, Try.ntmps23
    go_wp2_with fail
    refine (implValidRel_ok s r _ _ (hr.ext hE1)).mono ?_
    rintro e w1 ⟨rfl, hE⟩
    rw [h1]
    have d0 := hE.cell (p := ⟨w.heap.size + 1, 0, none⟩) (v := .int .i64 0) (by simp [go_sem])
    have d1 := hE.cell (p := ⟨w.heap.size + 1, 1, none⟩) (v := .slice none 0 0) (by simp [go_sem])
    have f2 := hE.frozen (p := ⟨w.heap.size + 1, 0, none⟩) (by simp)
    have f3 := hE.frozen (p := ⟨w.heap.size + 1, 1, none⟩) (by simp)
    simp [go_sem] at f2 f3
    have c0 := hE.cell (p := ⟨w.heap.size, 0, none⟩) (v := .int .i64 r.1) (by simp [go_sem])
    have c1 := hE.cell (p := ⟨w.heap.size, 1, none⟩) (v := .slice ta r.2.length tc) (by simp [go_sem])
    replace hE := hE1.tr hE
    go_wp2_with fail
    exact bodyPost_ret (v := .tuple #[.agg #[.int .i64 0, .slice none 0 0], .int .i64 1]) (by simp [results, Try.results23, go_sem, d0, d1]) rfl (RelRes.no ((hE.setCell (by simp <;> omega) _).setCell (by simp <;> omega) _))
  | true =>
    obtain ⟨⟨hs1, hs2⟩, ⟨hm1, hm2⟩, -⟩ := valid_parts h1
    cases h2 : inB n 1 4 with
    | false =>
      rw [map_2 h1 (by rw [h2]; rfl)]
      go_enter Try.func23, Try.ntmps23
      go_wp2_with fail
      refine (implValidRel_ok s r _ _ (hr.ext hE1)).mono ?_
      rintro e w1 ⟨rfl, hE⟩
      rw [h1]
      have d0 := hE.cell (p := ⟨w.heap.size + 1, 0, none⟩) (v := .int .i64 0) (by simp [go_sem])
      have d1 := hE.cell (p := ⟨w.heap.size + 1, 1, none⟩) (v := .slice none 0 0) (by simp [go_sem])
      have f2 := hE.frozen (p := ⟨w.heap.size + 1, 0, none⟩) (by simp)
      have f3 := hE.frozen (p := ⟨w.heap.size + 1, 1, none⟩) (by simp)
      simp [go_sem] at f2 f3
      have c0 := hE.cell (p := ⟨w.heap.size, 0, none⟩) (v := .int .i64 r.1) (by simp [go_sem])
      have c1 := hE.cell (p := ⟨w.heap.size, 1, none⟩) (v := .slice ta r.2.length tc) (by simp [go_sem])
      replace hE := hE1.tr hE
      go_wp2_with fail
      refine (isSize_any _ _).mono ?_
      rintro e w2 ⟨rfl, rfl⟩
      rw [h2]
      go_wp2_with fail
      exact bodyPost_ret (v := .tuple #[.agg #[.int .i64 0, .slice none 0 0], .int .i64 2]) (by simp [results, Try.results23, go_sem, d0, d1]) rfl (RelRes.no ((hE.setCell (by simp <;> omega) _).setCell (by simp <;> omega) _))
    | true =>
      have hb2 := inB_iff.1 h2
      cases h3 : vals n to s with
      | false =>
        rw [map_2 h1 (by rw [h2, h3]; rfl)]
        go_enter Try.func23, Try.ntmps23
        go_wp2_with fail
        refine (implValidRel_ok s r _ _ (hr.ext hE1)).mono ?_
        rintro e w1 ⟨rfl, hE⟩
        rw [h1]
        have d0 := hE.cell (p := ⟨w.heap.size + 1, 0, none⟩) (v := .int .i64 0) (by simp [go_sem])
        have d1 := hE.cell (p := ⟨w.heap.size + 1, 1, none⟩) (v := .slice none 0 0) (by simp [go_sem])
        have f2 := hE.frozen (p := ⟨w.heap.size + 1, 0, none⟩) (by simp)
        have f3 := hE.frozen (p := ⟨w.heap.size + 1, 1, none⟩) (by simp)
        simp [go_sem] at f2 f3
        have c0 := hE.cell (p := ⟨w.heap.size, 0, none⟩) (v := .int .i64 r.1) (by simp [go_sem])
        have c1 := hE.cell (p := ⟨w.heap.size, 1, none⟩) (v := .slice ta r.2.length tc) (by simp [go_sem])
        replace hE := hE1.tr hE
        go_wp2_with fail
        refine (isSize_any _ _).mono ?_
        rintro e w2 ⟨rfl, rfl⟩
        rw [h2]
        go_wp2_with fail
        refine (areValues_any n to _ s _ (ht.ext hE) (by omega) (by omega)).mono ?_
        rintro e w3 ⟨rfl, hE2⟩
        rw [h3]
        replace f2 : _ = false := (hE2.frozen (lt_of_cell d0)).trans f2
        replace f3 : _ = false := (hE2.frozen (lt_of_cell d1)).trans f3
        replace d0 := hE2.cell d0
        replace d1 := hE2.cell d1
        replace c0 := hE2.cell c0
        replace c1 := hE2.cell c1
        replace hE := hE.tr hE2
        clear hE2
        go_wp2_with fail
        exact bodyPost_ret (v := .tuple #[.agg #[.int .i64 0, .slice none 0 0], .int .i64 2]) (by simp [results, Try.results23, go_sem, d0, d1]) rfl (RelRes.no ((hE.setCell (by simp <;> omega) _).setCell (by simp <;> omega) _))
      | true =>
        rw [map_0 h1 h2 h3]
        have hmk := mkRel_SrelOf (s := n) (m := r.1) (p := fun t => decide (t ∈ mapL to r.2)) hb2.1 hb2.2 hm1 hm2
        have HMM := Lib.hid (mem_mapL h1 h3)
        have HMV := Lib.hid (fun (k : Nat) (hk : k < r.2.length) => map_vals h1 h3 (List.getElem_mem hk))
        go_enter Try.func23, Try.ntmps23
        go_wp2_with fail
        refine (implValidRel_ok s r _ _ (hr.ext hE1)).mono ?_
        rintro e w1 ⟨rfl, hE⟩
        rw [h1]
        have d0 := hE.cell (p := ⟨w.heap.size + 1, 0, none⟩) (v := .int .i64 0) (by simp [go_sem])
        have d1 := hE.cell (p := ⟨w.heap.size + 1, 1, none⟩) (v := .slice none 0 0) (by simp [go_sem])
        have f2 := hE.frozen (p := ⟨w.heap.size + 1, 0, none⟩) (by simp)
        have f3 := hE.frozen (p := ⟨w.heap.size + 1, 1, none⟩) (by simp)
        simp [go_sem] at f2 f3
        have c0 := hE.cell (p := ⟨w.heap.size, 0, none⟩) (v := .int .i64 r.1) (by simp [go_sem])
        have c1 := hE.cell (p := ⟨w.heap.size, 1, none⟩) (v := .slice ta r.2.length tc) (by simp [go_sem])
        replace hE := hE1.tr hE
        go_wp2_with fail
        refine (isSize_any _ _).mono ?_
        rintro e w2 ⟨rfl, rfl⟩
        rw [h2]
        go_wp2_with fail
        refine (areValues_any n to _ s _ (ht.ext hE) (by omega) (by omega)).mono ?_
        rintro e w3 ⟨rfl, hE2⟩
        rw [h3]
        replace f2 : _ = false := (hE2.frozen (lt_of_cell d0)).trans f2
        replace f3 : _ = false := (hE2.frozen (lt_of_cell d1)).trans f3
        replace d0 := hE2.cell d0
        replace d1 := hE2.cell d1
        replace c0 := hE2.cell c0
        replace c1 := hE2.cell c1
        replace hE := hE.tr hE2
        clear hE2
        clear h1 h2 h3
        generalize w3 = w1 at hE c0 c1 d0 d1 f2 f3 ⊢
        obtain ⟨a, b, off, c, el, hv, hlc, hcm, ha, hc⟩ := hr'
        simp only [Value.slice.injEq, true_and] at hv
        obtain ⟨rfl, rfl⟩ := hv
        have HC := Lib.hid hc
        clear hc
        have hA1 : Ext w1 (w1.alloc (.cells #[] 34)) := (Ext.refl' w1).alloc (Nat.le_refl _) _
        have c1a := hA1.cell c1
        clear hA1
        go_wp2_with fail
        go_loopw [10, 35] (fun t i wr => ∃ (k : Nat) (fp : List Nat), k ≤ r.2.length ∧ i = .int .i64 (k : Nat) ∧ Ext w1 wr ∧ OII wr t (mapL to (r.2.take k)) fp ∧ ∀ g ∈ fp, w1.heap.size ≤ g) (fun _ i _ => r.2.length - (intOf i).toNat)
        case atStart => exact ⟨0, _, by omega, rfl, (Ext.refl' w1).alloc (Nat.le_refl _) _, OwnL.made _ _ (World.ownsRow_made w1 #[] 0 (Nat.zero_le _) (by decide) rfl), by simp⟩
        case round =>
          obtain ⟨k, fp, hk, rfl, hE6, ho6, hfp6⟩ := hrel
          obtain ⟨xa6, xc6, hx6⟩ := ho6.form
          subst hx6
          by_cases hkl : k < r.2.length
          · obtain rfl := ha (by omega)
            obtain ⟨k1, k2⟩ := HC.out k hkl
            replace k1 := hE6.cell (hE.cell k1)
            replace k2 := (k2.ext hE).ext hE6
            have hlt := mapL_le to r.2 k
            have HLT := Lib.hid (show (mapL to (r.2.take k)).length ≤ 1048576 by omega)
            have HT := Lib.hid (mapL_take (to := to) hkl)
            clear hlt
            have hX := HMV.out k hkl
            generalize el k = yy at k1 k2
            obtain ⟨ya, yc, rfl⟩ := k2.form
            generalize r.2[k] = X at k1 k2 hX HT
            go_wp2_with fail
            refine (chosen_any to _ X _ _ (((ht.ext hE).ext hE6)) k2 hX.2.1 hX.2.2).mono ?_
            rintro e w7 ⟨u, fu, rfl, hE7, hu, hfu⟩
            obtain ⟨xa', xc', rfl⟩ := hu.form
            have hsz7 := hE6.size
            have hA7 : Ext w7 (w7.alloc (.cells #[.slice xa' (atP to X).length xc'] 34)) := (Ext.refl' w7).alloc (Nat.le_refl _) _
            have hd7 : ∀ g ∈ fu, g ∉ fp := fun g hg hm => by have := hfu g hg; have := ho6.lt g hm; omega
            go_wp2_with (at_builtin; (refine OII.app (ho6.ext (hE7.tr hA7)) hfp6 (by have := hE7.size; have := hA7.size; omega) (hu.ext hA7) (fun g hg => by have := hfu g hg; omega) hd7 HLT.out (b' := w7.heap.size) (u := .slice xa' (atP to X).length xc') (by simp [go_sem]) rfl (.tmp 39) (.tmp 43) rfl rfl rfl ?_))
            intro v' w8 fp' ho8 hfp8 hkeep
            have hE8 := hkeep w1 (hE6.tr (hE7.tr hA7)) (Nat.le_refl _)
            rw [← HT.out] at ho8
            clear hkeep ho6 hu hE7 hA7 hE6
            go_wp2_with fail
            go_roundw
            case rel => exact ⟨k + 1, fp', by omega, by go_num, hE8, ho8, hfp8⟩
            case measure => simp [intOf]; omega
          · have hTe : r.2.take k = r.2 := List.take_of_length_le (by omega)
            have hRd : RdII wr (.slice xa6 (mapL to (r.2.take k)).length xc6) (mapL to r.2) := by
              have := ho6.rd
              rw [hTe] at this ⊢
              exact this
            have hl6 : (mapL to r.2).length ≤ 1048576 := by rw [mapL_len to r.2]; exact hrl
            clear hTe ho6
            replace hE := hE.tr hE6
            have q6 := hE6.size
            replace c0 := hE6.cell c0
            replace f2 : _ = false := (hE6.frozen (p := ⟨w.heap.size + 1, 0, none⟩) (lt_of_cell d0)).trans f2
            replace f3 : _ = false := (hE6.frozen (p := ⟨w.heap.size + 1, 1, none⟩) (lt_of_cell d1)).trans f3
            replace d0 := hE6.cell d0
            replace d1 := hE6.cell d1
            go_wp2_with fail
            refine (makeRel_any n r.1 (mapL to r.2) _ _ hRd hl6 HMM.out hb2.1 hb2.2 hm1 hm2).mono ?_
            rintro e w3 ⟨u, fp3, rfl, hE3, hr3, hfr⟩
            have q0 := lt_of_cell d0
            obtain ⟨ua, uc, rfl⟩ := hr3.form
            replace f2 : _ = false := (hE3.frozen (lt_of_cell d0)).trans f2
            replace f3 : _ = false := (hE3.frozen (lt_of_cell d1)).trans f3
            replace d0 := hE3.cell d0
            replace d1 := hE3.cell d1
            go_wp2_with fail
            exact bodyPost_ret (v := .tuple #[.agg #[.int .i64 (SrelOf n r.1 (fun t => decide (t ∈ mapL to r.2))).1, .slice ua (SrelOf n r.1 (fun t => decide (t ∈ mapL to r.2))).2.length uc], .int .i64 0]) (by simp [results, Try.results23, go_sem, d0, d1]; try rfl) rfl
              (RelRes.of rfl (((hE.tr hE3).setCell (by simp <;> omega) _).setCell (by simp <;> omega) _) (hr3.off ((Off.set (fp := [w.heap.size + 1]) (by simp)).trans (Off.set (by simp))) (fun h hh hm => by have := hfr h hh; simp at hm; (try dsimp only at q0); omega)) (fun h hh => by have := hfr h hh; have := hE.size; omega) hmk)

theorem mks_snoc {s m : Int} (L : List (List Int)) (y : List Int) : (mks s m fun x => decide (x ∈ L) || decide (x = y)) = mks s m fun x => decide (x ∈ L ++ [y]) := by
  congr 1
  funext x
  rw [Bool.eq_iff_iff, Bool.or_eq_true, decide_eq_true_eq, decide_eq_true_eq, decide_eq_true_eq, List.mem_append, List.mem_singleton]
set_option maxHeartbeats 4000000 in
set_option maxRecDepth 100000 in
theorem specMapRel_any (s : Int) (r : RelM) (v : Value) (to : List Int) (vt : Value) (n : Int) (w : World) (hr : RdRel w v r) (ht : RdI w vt to) (lo0 : -9223372036854775808 ≤ s) (hi0 : s ≤ 9223372036854775807) (lo3 : -9223372036854775808 ≤ n) (hi3 : n ≤ 9223372036854775807) (hzr : szRel r ≤ 1048576) (hzt : to.length ≤ 1048576) :
    Calls Try.prog 20 #[.int .i64 s, v, vt, .int .i64 n] w (RelRes (SMapRel s r to n) w) := by
  have hrl : r.2.length ≤ 1048576 := Nat.le_trans (len_szII r.2) hzr
  obtain ⟨tv, rfl, hr'⟩ := hr
  obtain ⟨ta, tc, rfl⟩ := hr'.form
  have hr : RdRel w _ r := ⟨_, rfl, hr'⟩
  obtain ⟨va, vc, rfl⟩ := ht.form
  have hE1 : Ext w ((w.alloc (.cells #[.int .i64 r.1, .slice ta r.2.length tc] 25)).alloc (.cells #[.int .i64 0, .slice none 0 0] 25)) := ((Ext.refl' w).alloc (Nat.le_refl _) _).alloc (by simp) _
  have hp : PtRel ((w.alloc (.cells #[.int .i64 r.1, .slice ta r.2.length tc] 25)).alloc (.cells #[.int .i64 0, .slice none 0 0] 25)) (.pointer (some ⟨w.heap.size, 0, none⟩)) r := ⟨_, _, _, rfl, by simp [go_sem], by simp [go_sem], hr'.ext hE1⟩
  cases h1 : SValidRel s r with
  | false =>
    rw [map_1 h1]
    go_enter Try.func20, Try.ntmps20
    go_wp2_with fail
    refine (l01Ok_any s r _ _ hp).mono ?_
    rintro e w1 ⟨rfl, hQ⟩
    rw [h1]
    have hE := hQ.ext
    have d0 := hE.cell (p := ⟨w.heap.size + 1, 0, none⟩) (v := .int .i64 0) (by simp [go_sem])
    have d1 := hE.cell (p := ⟨w.heap.size + 1, 1, none⟩) (v := .slice none 0 0) (by simp [go_sem])
    have f2 := hE.frozen (p := ⟨w.heap.size + 1, 0, none⟩) (by simp)
    have f3 := hE.frozen (p := ⟨w.heap.size + 1, 1, none⟩) (by simp)
    simp [go_sem] at f2 f3
    have c0 := hE.cell (p := ⟨w.heap.size, 0, none⟩) (v := .int .i64 r.1) (by simp [go_sem])
    have c1 := hE.cell (p := ⟨w.heap.size, 1, none⟩) (v := .slice ta r.2.length tc) (by simp [go_sem])
    replace hE := hE1.tr hE
    go_wp2_with fail
    exact bodyPost_ret (v := .tuple #[.agg #[.int .i64 0, .slice none 0 0], .int .i64 1]) (by simp [results, Try.results20, go_sem, d0, d1]) rfl (RelRes.no ((hE.setCell (by simp <;> omega) _).setCell (by simp <;> omega) _))
  | true =>
    obtain ⟨⟨hs1, hs2⟩, ⟨hm1, hm2⟩, -⟩ := valid_parts h1
    cases h2 : inB n 1 4 with
    | false =>
      rw [map_2 h1 (by rw [h2]; rfl)]
      go_enter Try.func20, Try.ntmps20
      go_wp2_with fail
      refine (l01Ok_any s r _ _ hp).mono ?_
      rintro e w1 ⟨rfl, hQ⟩
      rw [h1]
      have hE := hQ.ext
      have d0 := hE.cell (p := ⟨w.heap.size + 1, 0, none⟩) (v := .int .i64 0) (by simp [go_sem])
      have d1 := hE.cell (p := ⟨w.heap.size + 1, 1, none⟩) (v := .slice none 0 0) (by simp [go_sem])
      have f2 := hE.frozen (p := ⟨w.heap.size + 1, 0, none⟩) (by simp)
      have f3 := hE.frozen (p := ⟨w.heap.size + 1, 1, none⟩) (by simp)
      simp [go_sem] at f2 f3
      have c0 := hE.cell (p := ⟨w.heap.size, 0, none⟩) (v := .int .i64 r.1) (by simp [go_sem])
      have c1 := hE.cell (p := ⟨w.heap.size, 1, none⟩) (v := .slice ta r.2.length tc) (by simp [go_sem])
      replace hE := hE1.tr hE
      go_wp2_with fail
      refine (l01Size_any _ _).mono ?_
      rintro e w2 ⟨rfl, rfl⟩
      rw [h2]
      go_wp2_with fail
      exact bodyPost_ret (v := .tuple #[.agg #[.int .i64 0, .slice none 0 0], .int .i64 2]) (by simp [results, Try.results20, go_sem, d0, d1]) rfl (RelRes.no ((hE.setCell (by simp <;> omega) _).setCell (by simp <;> omega) _))
    | true =>
      have hb2 := inB_iff.1 h2
      cases h3 : vals n to s with
      | false =>
        rw [map_2 h1 (by rw [h2, h3]; rfl)]
        go_enter Try.func20, Try.ntmps20
        go_wp2_with fail
        refine (l01Ok_any s r _ _ hp).mono ?_
        rintro e w1 ⟨rfl, hQ⟩
        rw [h1]
        have hE := hQ.ext
        have d0 := hE.cell (p := ⟨w.heap.size + 1, 0, none⟩) (v := .int .i64 0) (by simp [go_sem])
        have d1 := hE.cell (p := ⟨w.heap.size + 1, 1, none⟩) (v := .slice none 0 0) (by simp [go_sem])
        have f2 := hE.frozen (p := ⟨w.heap.size + 1, 0, none⟩) (by simp)
        have f3 := hE.frozen (p := ⟨w.heap.size + 1, 1, none⟩) (by simp)
        simp [go_sem] at f2 f3
        have c0 := hE.cell (p := ⟨w.heap.size, 0, none⟩) (v := .int .i64 r.1) (by simp [go_sem])
        have c1 := hE.cell (p := ⟨w.heap.size, 1, none⟩) (v := .slice ta r.2.length tc) (by simp [go_sem])
        replace hE := hE1.tr hE
        go_wp2_with fail
        refine (l01Size_any _ _).mono ?_
        rintro e w2 ⟨rfl, rfl⟩
        rw [h2]
        go_wp2_with fail
        refine (l01Tuple_any n s to _ _ (ht.ext hE) (by omega) (by omega)).mono ?_
        rintro e w2 ⟨rfl, rfl⟩
        rw [h3]
        go_wp2_with fail
        exact bodyPost_ret (v := .tuple #[.agg #[.int .i64 0, .slice none 0 0], .int .i64 2]) (by simp [results, Try.results20, go_sem, d0, d1]) rfl (RelRes.no ((hE.setCell (by simp <;> omega) _).setCell (by simp <;> omega) _))
      | true =>
        rw [map_0 h1 h2 h3]
        have hmk := mkRel_SrelOf (s := n) (m := r.1) (p := fun t => decide (t ∈ mapL to r.2)) hb2.1 hb2.2 hm1 hm2
        have HMV := Lib.hid (fun (k : Nat) (hk : k < r.2.length) => map_vals h1 h3 (List.getElem_mem hk))
        go_enter Try.func20, Try.ntmps20
        go_wp2_with fail
        refine (l01Ok_any s r _ _ hp).mono ?_
        rintro e w1 ⟨rfl, hQ⟩
        rw [h1]
        have hE := hQ.ext
        have d0 := hE.cell (p := ⟨w.heap.size + 1, 0, none⟩) (v := .int .i64 0) (by simp [go_sem])
        have d1 := hE.cell (p := ⟨w.heap.size + 1, 1, none⟩) (v := .slice none 0 0) (by simp [go_sem])
        have f2 := hE.frozen (p := ⟨w.heap.size + 1, 0, none⟩) (by simp)
        have f3 := hE.frozen (p := ⟨w.heap.size + 1, 1, none⟩) (by simp)
        simp [go_sem] at f2 f3
        have c0 := hE.cell (p := ⟨w.heap.size, 0, none⟩) (v := .int .i64 r.1) (by simp [go_sem])
        have c1 := hE.cell (p := ⟨w.heap.size, 1, none⟩) (v := .slice ta r.2.length tc) (by simp [go_sem])
        replace hE := hE1.tr hE
        go_wp2_with fail
        refine (l01Size_any _ _).mono ?_
        rintro e w2 ⟨rfl, rfl⟩
        rw [h2]
        go_wp2_with fail
        refine (l01Tuple_any n s to _ _ (ht.ext hE) (by omega) (by omega)).mono ?_
        rintro e w2 ⟨rfl, rfl⟩
        rw [h3]
        clear h1 h2 h3
        obtain ⟨a, b, off, c, el, hv, hlc, hcm, ha, hc⟩ := hr'.ext hE
        simp only [Value.slice.injEq, true_and] at hv
        obtain ⟨rfl, rfl⟩ := hv
        have HC := Lib.hid hc
        clear hc
        go_wp2_with fail
        refine (l01Empty_any n r.1 _ hb2.1 hb2.2 hm1 hm2).mono ?_
        rintro e w2 ⟨p, fs, rfl, hE2, ho, hf⟩
        rw [mks_none] at ho
        have c0' := hE2.cell c0
        go_wp2_with fail
        go_loopw [11] (fun i wr => ∃ q : Nat, q ≤ r.2.length ∧ i = .int .i64 (q : Nat) ∧ Ext w1 wr ∧ OSet wr p n r.1 (mks n r.1 fun x => decide (x ∈ mapL to (r.2.take q))) fs) (fun i _ => r.2.length - (intOf i).toNat)
        case atStart => exact ⟨0, by omega, rfl, hE2, by simpa [mapL] using ho⟩
        case round =>
          obtain ⟨q, hq, rfl, hE3, h⟩ := hrel
          have e0 := hE3.cell c0
          have e1 := hE3.cell c1
          obtain ⟨pb, -, rfl, -⟩ := id h
          by_cases hql : q < r.2.length
          · obtain rfl := ha (by omega)
            obtain ⟨k1, k2⟩ := HC.out q hql
            replace k1 := hE3.cell k1
            replace k2 := k2.ext hE3
            have hX := HMV.out q hql
            have HT := Lib.hid (mapL_take (to := to) hql)
            generalize el q = y at k1 k2
            obtain ⟨ya, yc, rfl⟩ := k2.form
            generalize r.2[q] = X at k1 k2 hX HT
            go_wp2_with fail
            refine (l01Mapped_any to _ X _ _ ((ht.ext hE).ext hE3) k2 hX.2.1 hX.2.2).mono ?_
            rintro e w7 ⟨u, fu, rfl, hE7, hu, hfu⟩
            obtain ⟨xa', xc', rfl⟩ := hu.form
            go_wp2_with fail
            refine (put_any n r.1 _ _ _ (atP to X) fs _ (h.ext hE7) hu.rd hb2.1 hb2.2 hm1 hm2 hX.1).mono ?_
            rintro e w4 ⟨rfl, hO, h4⟩
            rw [mks_snoc, ← HT.out] at h4
            have hE4 : Ext w1 w4 := Below.trans (hE3.tr hE7) (hO.below (hE3.tr hE7).size hf)
            clear h hO
            go_wp2_with fail
            go_roundw
            case rel => exact ⟨q + 1, by omega, by go_num, hE4, h4⟩
            case measure => simp [intOf]; omega
          · rw [List.take_of_length_le (by omega)] at h
            go_wp2_with fail
            refine (setRel_any n r.1 _ _ fs _ h hb2.1 hb2.2 hm1 hm2 (mks_length _)).mono ?_
            rintro e w3 ⟨u, fp, rfl, hE5, hr3, hfr⟩
            rw [setRel_mks] at hr3
            replace hE := hE.tr hE3
            replace f2 : _ = false := (hE3.frozen (p := ⟨w.heap.size + 1, 0, none⟩) (lt_of_cell d0)).trans f2
            replace f3 : _ = false := (hE3.frozen (p := ⟨w.heap.size + 1, 1, none⟩) (lt_of_cell d1)).trans f3
            replace d0 := hE3.cell d0
            replace d1 := hE3.cell d1
            replace hE3 := hE5
            have q0 := lt_of_cell d0
            obtain ⟨ua, uc, rfl⟩ := hr3.form
            replace f2 : _ = false := (hE3.frozen (lt_of_cell d0)).trans f2
            replace f3 : _ = false := (hE3.frozen (lt_of_cell d1)).trans f3
            replace d0 := hE3.cell d0
            replace d1 := hE3.cell d1
            go_wp2_with fail
            exact bodyPost_ret (v := .tuple #[.agg #[.int .i64 (SrelOf n r.1 (fun t => decide (t ∈ mapL to r.2))).1, .slice ua (SrelOf n r.1 (fun t => decide (t ∈ mapL to r.2))).2.length uc], .int .i64 0]) (by simp [results, Try.results20, go_sem, d0, d1]; try rfl) rfl
              (RelRes.of rfl (((hE.tr hE3).setCell (by simp <;> omega) _).setCell (by simp <;> omega) _) (hr3.off ((Off.set (fp := [w.heap.size + 1]) (by simp)).trans (Off.set (by simp))) (fun h hh hm => by have := hfr h hh; simp at hm; (try dsimp only at q0); omega)) (fun h hh => by have := hfr h hh; have := hE.size; omega) hmk)

set_option maxHeartbeats 4000000 in
set_option maxRecDepth 100000 in
theorem implProjectRel_any (s : Int) (r : RelM) (v : Value) (to : List Int) (vt : Value) (w : World) (hr : RdRel w v r) (ht : RdI w vt to) (lo0 : -9223372036854775808 ≤ s) (hi0 : s ≤ 9223372036854775807) (hzr : szRel r ≤ 1048576) (hzt : to.length ≤ 1048576) :
    Calls Try.prog 27 #[.int .i64 s, v, vt] w (RelRes (SProjectRel s r to) w) := by
  have hrl : r.2.length ≤ 1048576 := Nat.le_trans (len_szII r.2) hzr
  obtain ⟨tv, rfl, hr'⟩ := hr
  obtain ⟨ta, tc, rfl⟩ := hr'.form
  have hr : RdRel w _ r := ⟨_, rfl, hr'⟩
  obtain ⟨va, vc, rfl⟩ := ht.form
  have hE1 : Ext w ((w.alloc (.cells #[.int .i64 r.1, .slice ta r.2.length tc] 25)).alloc (.cells #[.int .i64 0, .slice none 0 0] 25)) := ((Ext.refl' w).alloc (Nat.le_refl _) _).alloc (by simp) _
  cases h1 : SValidRel s r with
  | false =>
    rw [proj_1 h1]
    go_enter Try.func27, Try.ntmps27
    go_wp2_with fail
    refine (implValidRel_ok s r _ _ (hr.ext hE1)).mono ?_
    rintro e w1 ⟨rfl, hE⟩
    rw [h1]
    have d0 := hE.cell (p := ⟨w.heap.size + 1, 0, none⟩) (v := .int .i64 0) (by simp [go_sem])
    have d1 := hE.cell (p := ⟨w.heap.size + 1, 1, none⟩) (v := .slice none 0 0) (by simp [go_sem])
    have f2 := hE.frozen (p := ⟨w.heap.size + 1, 0, none⟩) (by simp)
    have f3 := hE.frozen (p := ⟨w.heap.size + 1, 1, none⟩) (by simp)
    simp [go_sem] at f2 f3
    have c0 := hE.cell (p := ⟨w.heap.size, 0, none⟩) (v := .int .i64 r.1) (by simp [go_sem])
    have c1 := hE.cell (p := ⟨w.heap.size, 1, none⟩) (v := .slice ta r.2.length tc) (by simp [go_sem])
    replace hE := hE1.tr hE
    go_wp2_with fail
    exact bodyPost_ret (v := .tuple #[.agg #[.int .i64 0, .slice none 0 0], .int .i64 1]) (by simp [results, Try.results27, go_sem, d0, d1]) rfl (RelRes.no ((hE.setCell (by simp <;> omega) _).setCell (by simp <;> omega) _))
  | true =>
    obtain ⟨⟨hs1, hs2⟩, ⟨hm1, hm2⟩, -⟩ := valid_parts h1
    cases h2 : inB to.length 1 4 with
    | false =>
      rw [proj_2 h1 (by rw [h2]; rfl)]
      go_enter Try.func27, Try.ntmps27
      go_wp2_with fail
      refine (implValidRel_ok s r _ _ (hr.ext hE1)).mono ?_
      rintro e w1 ⟨rfl, hE⟩
      rw [h1]
      have d0 := hE.cell (p := ⟨w.heap.size + 1, 0, none⟩) (v := .int .i64 0) (by simp [go_sem])
      have d1 := hE.cell (p := ⟨w.heap.size + 1, 1, none⟩) (v := .slice none 0 0) (by simp [go_sem])
      have f2 := hE.frozen (p := ⟨w.heap.size + 1, 0, none⟩) (by simp)
      have f3 := hE.frozen (p := ⟨w.heap.size + 1, 1, none⟩) (by simp)
      simp [go_sem] at f2 f3
      have c0 := hE.cell (p := ⟨w.heap.size, 0, none⟩) (v := .int .i64 r.1) (by simp [go_sem])
      have c1 := hE.cell (p := ⟨w.heap.size, 1, none⟩) (v := .slice ta r.2.length tc) (by simp [go_sem])
      replace hE := hE1.tr hE
      go_wp2_with fail
      refine (isArity_any _ _).mono ?_
      rintro e w2 ⟨rfl, rfl⟩
      rw [h2]
      go_wp2_with fail
      exact bodyPost_ret (v := .tuple #[.agg #[.int .i64 0, .slice none 0 0], .int .i64 2]) (by simp [results, Try.results27, go_sem, d0, d1]) rfl (RelRes.no ((hE.setCell (by simp <;> omega) _).setCell (by simp <;> omega) _))
    | true =>
      have hb2 := inB_iff.1 h2
      cases h3 : isPl r.1 to with
      | false =>
        rw [proj_2 h1 (by rw [h2, h3]; rfl)]
        go_enter Try.func27, Try.ntmps27
        go_wp2_with fail
        refine (implValidRel_ok s r _ _ (hr.ext hE1)).mono ?_
        rintro e w1 ⟨rfl, hE⟩
        rw [h1]
        have d0 := hE.cell (p := ⟨w.heap.size + 1, 0, none⟩) (v := .int .i64 0) (by simp [go_sem])
        have d1 := hE.cell (p := ⟨w.heap.size + 1, 1, none⟩) (v := .slice none 0 0) (by simp [go_sem])
        have f2 := hE.frozen (p := ⟨w.heap.size + 1, 0, none⟩) (by simp)
        have f3 := hE.frozen (p := ⟨w.heap.size + 1, 1, none⟩) (by simp)
        simp [go_sem] at f2 f3
        have c0 := hE.cell (p := ⟨w.heap.size, 0, none⟩) (v := .int .i64 r.1) (by simp [go_sem])
        have c1 := hE.cell (p := ⟨w.heap.size, 1, none⟩) (v := .slice ta r.2.length tc) (by simp [go_sem])
        replace hE := hE1.tr hE
        go_wp2_with fail
        refine (isArity_any _ _).mono ?_
        rintro e w2 ⟨rfl, rfl⟩
        rw [h2]
        go_wp2_with fail
        refine (arePlaces_any to _ r.1 to.length _ (ht.ext hE) (by omega) (by omega)).mono ?_
        rintro e w3 ⟨rfl, hE2⟩
        rw [vals_pl, h3]
        replace f2 : _ = false := (hE2.frozen (lt_of_cell d0)).trans f2
        replace f3 : _ = false := (hE2.frozen (lt_of_cell d1)).trans f3
        replace d0 := hE2.cell d0
        replace d1 := hE2.cell d1
        replace c0 := hE2.cell c0
        replace c1 := hE2.cell c1
        replace hE := hE.tr hE2
        clear hE2
        go_wp2_with fail
        exact bodyPost_ret (v := .tuple #[.agg #[.int .i64 0, .slice none 0 0], .int .i64 2]) (by simp [results, Try.results27, go_sem, d0, d1]) rfl (RelRes.no ((hE.setCell (by simp <;> omega) _).setCell (by simp <;> omega) _))
      | true =>
        rw [proj_0 h1 h2 h3]
        have hmk := mkRel_SrelOf (s := s) (m := (to.length : Int)) (p := fun t => decide (t ∈ projL to r.2)) hs1 hs2 hb2.1 hb2.2
        have HMM := Lib.hid (mem_projL h1 h3)
        have HMV := Lib.hid (fun (k : Nat) (hk : k < r.2.length) => proj_vals h1 h3 (List.getElem_mem hk))
        go_enter Try.func27, Try.ntmps27
        go_wp2_with fail
        refine (implValidRel_ok s r _ _ (hr.ext hE1)).mono ?_
        rintro e w1 ⟨rfl, hE⟩
        rw [h1]
        have d0 := hE.cell (p := ⟨w.heap.size + 1, 0, none⟩) (v := .int .i64 0) (by simp [go_sem])
        have d1 := hE.cell (p := ⟨w.heap.size + 1, 1, none⟩) (v := .slice none 0 0) (by simp [go_sem])
        have f2 := hE.frozen (p := ⟨w.heap.size + 1, 0, none⟩) (by simp)
        have f3 := hE.frozen (p := ⟨w.heap.size + 1, 1, none⟩) (by simp)
        simp [go_sem] at f2 f3
        have c0 := hE.cell (p := ⟨w.heap.size, 0, none⟩) (v := .int .i64 r.1) (by simp [go_sem])
        have c1 := hE.cell (p := ⟨w.heap.size, 1, none⟩) (v := .slice ta r.2.length tc) (by simp [go_sem])
        replace hE := hE1.tr hE
        go_wp2_with fail
        refine (isArity_any _ _).mono ?_
        rintro e w2 ⟨rfl, rfl⟩
        rw [h2]
        go_wp2_with fail
        refine (arePlaces_any to _ r.1 to.length _ (ht.ext hE) (by omega) (by omega)).mono ?_
        rintro e w3 ⟨rfl, hE2⟩
        rw [vals_pl, h3]
        replace f2 : _ = false := (hE2.frozen (lt_of_cell d0)).trans f2
        replace f3 : _ = false := (hE2.frozen (lt_of_cell d1)).trans f3
        replace d0 := hE2.cell d0
        replace d1 := hE2.cell d1
        replace c0 := hE2.cell c0
        replace c1 := hE2.cell c1
        replace hE := hE.tr hE2
        clear hE2
        clear h1 h2 h3
        generalize w3 = w1 at hE c0 c1 d0 d1 f2 f3 ⊢
        obtain ⟨a, b, off, c, el, hv, hlc, hcm, ha, hc⟩ := hr'
        simp only [Value.slice.injEq, true_and] at hv
        obtain ⟨rfl, rfl⟩ := hv
        have HC := Lib.hid hc
        clear hc
        have hA1 : Ext w1 (w1.alloc (.cells #[] 34)) := (Ext.refl' w1).alloc (Nat.le_refl _) _
        have c1a := hA1.cell c1
        clear hA1
        go_wp2_with fail
        go_loopw [9, 37] (fun t i wr => ∃ (k : Nat) (fp : List Nat), k ≤ r.2.length ∧ i = .int .i64 (k : Nat) ∧ Ext w1 wr ∧ OII wr t (projL to (r.2.take k)) fp ∧ ∀ g ∈ fp, w1.heap.size ≤ g) (fun _ i _ => r.2.length - (intOf i).toNat)
        case atStart => exact ⟨0, _, by omega, rfl, (Ext.refl' w1).alloc (Nat.le_refl _) _, OwnL.made _ _ (World.ownsRow_made w1 #[] 0 (Nat.zero_le _) (by decide) rfl), by simp⟩
        case round =>
          obtain ⟨k, fp, hk, rfl, hE6, ho6, hfp6⟩ := hrel
          obtain ⟨xa6, xc6, hx6⟩ := ho6.form
          subst hx6
          by_cases hkl : k < r.2.length
          · obtain rfl := ha (by omega)
            obtain ⟨k1, k2⟩ := HC.out k hkl
            replace k1 := hE6.cell (hE.cell k1)
            replace k2 := (k2.ext hE).ext hE6
            have hlt := projL_le to r.2 k
            have HLT := Lib.hid (show (projL to (r.2.take k)).length ≤ 1048576 by omega)
            have HT := Lib.hid (projL_take (p := to) hkl)
            clear hlt
            have hX := HMV.out k hkl
            generalize el k = yy at k1 k2
            obtain ⟨ya, yc, rfl⟩ := k2.form
            generalize r.2[k] = X at k1 k2 hX HT
            go_wp2_with fail
            refine (chosen_any X _ to _ _ k2 ((ht.ext hE).ext hE6) hX.2 hzt).mono ?_
            rintro e w7 ⟨u, fu, rfl, hE7, hu, hfu⟩
            obtain ⟨xa', xc', rfl⟩ := hu.form
            have hsz7 := hE6.size
            have hA7 : Ext w7 (w7.alloc (.cells #[.slice xa' (atP X to).length xc'] 34)) := (Ext.refl' w7).alloc (Nat.le_refl _) _
            have hd7 : ∀ g ∈ fu, g ∉ fp := fun g hg hm => by have := hfu g hg; have := ho6.lt g hm; omega
            go_wp2_with (at_builtin; (refine OII.app (ho6.ext (hE7.tr hA7)) hfp6 (by have := hE7.size; have := hA7.size; omega) (hu.ext hA7) (fun g hg => by have := hfu g hg; omega) hd7 HLT.out (b' := w7.heap.size) (u := .slice xa' (atP X to).length xc') (by simp [go_sem]) rfl (.tmp 41) (.tmp 45) rfl rfl rfl ?_))
            intro v' w8 fp' ho8 hfp8 hkeep
            have hE8 := hkeep w1 (hE6.tr (hE7.tr hA7)) (Nat.le_refl _)
            rw [← HT.out] at ho8
            clear hkeep ho6 hu hE7 hA7 hE6
            go_wp2_with fail
            go_roundw
            case rel => exact ⟨k + 1, fp', by omega, by go_num, hE8, ho8, hfp8⟩
            case measure => simp [intOf]; omega
          · have hTe : r.2.take k = r.2 := List.take_of_length_le (by omega)
            have hRd : RdII wr (.slice xa6 (projL to (r.2.take k)).length xc6) (projL to r.2) := by
              have := ho6.rd
              rw [hTe] at this ⊢
              exact this
            have hl6 : (projL to r.2).length ≤ 1048576 := by rw [projL_len to r.2]; exact hrl
            clear hTe ho6
            replace hE := hE.tr hE6
            have q6 := hE6.size
            replace c0 := hE6.cell c0
            replace f2 : _ = false := (hE6.frozen (p := ⟨w.heap.size + 1, 0, none⟩) (lt_of_cell d0)).trans f2
            replace f3 : _ = false := (hE6.frozen (p := ⟨w.heap.size + 1, 1, none⟩) (lt_of_cell d1)).trans f3
            replace d0 := hE6.cell d0
            replace d1 := hE6.cell d1
            go_wp2_with fail
            refine (makeRel_any s to.length (projL to r.2) _ _ hRd hl6 HMM.out hs1 hs2 hb2.1 hb2.2).mono ?_
            rintro e w3 ⟨u, fp3, rfl, hE3, hr3, hfr⟩
            have q0 := lt_of_cell d0
            obtain ⟨ua, uc, rfl⟩ := hr3.form
            replace f2 : _ = false := (hE3.frozen (lt_of_cell d0)).trans f2
            replace f3 : _ = false := (hE3.frozen (lt_of_cell d1)).trans f3
            replace d0 := hE3.cell d0
            replace d1 := hE3.cell d1
            go_wp2_with fail
            exact bodyPost_ret (v := .tuple #[.agg #[.int .i64 (SrelOf s to.length (fun t => decide (t ∈ projL to r.2))).1, .slice ua (SrelOf s to.length (fun t => decide (t ∈ projL to r.2))).2.length uc], .int .i64 0]) (by simp [results, Try.results27, go_sem, d0, d1]; try rfl) rfl
              (RelRes.of rfl (((hE.tr hE3).setCell (by simp <;> omega) _).setCell (by simp <;> omega) _) (hr3.off ((Off.set (fp := [w.heap.size + 1]) (by simp)).trans (Off.set (by simp))) (fun h hh hm => by have := hfr h hh; simp at hm; (try dsimp only at q0); omega)) (fun h hh => by have := hfr h hh; have := hE.size; omega) hmk)
set_option maxHeartbeats 4000000 in
set_option maxRecDepth 100000 in
theorem l01Project_any (s : Int) (r : RelM) (p : Value) (to : List Int) (vt : Value) (w : World) (hp : PtRel w p r) (ht : RdI w vt to) (hv : SValidRel s r = true) (h2 : inB to.length 1 4 = true) (h3 : isPl r.1 to = true) :
    Calls Try.prog 77 #[.int .i64 s, p, vt] w fun e w' => ∃ u fp, e = .returned u ∧ Ext w w' ∧ OwnRel w' u (SrelOf s to.length fun t => decide (t ∈ projL to r.2)) fp ∧ ∀ h ∈ fp, w.heap.size ≤ h := by
  obtain ⟨⟨hs1, hs2⟩, ⟨hm1, hm2⟩, -⟩ := valid_parts hv
  have hb2 := inB_iff.1 h2
  have hzt : to.length ≤ 1048576 := by omega
  have HMV := Lib.hid (fun (k : Nat) (hk : k < r.2.length) => proj_vals hv h3 (List.getElem_mem hk))
  clear h2 h3 hv
  obtain ⟨va, vc, rfl⟩ := ht.form
  have hE1 : Ext w (w.alloc (.cells #[.int .i64 0, .slice none 0 0] 25)) := (Ext.refl' w).alloc (Nat.le_refl _) _
  obtain ⟨b0, o0, tv, rfl, c0, c1, hrr⟩ := hp.ext hE1
  obtain ⟨a, b, off, c, el, rfl, hlc, hcm, ha, hc⟩ := hrr
  have HC := Lib.hid hc
  have ht1 := ht.ext hE1
  clear hc
  have d0 : (w.alloc (.cells #[.int .i64 0, .slice none 0 0] 25)).cell? ⟨w.heap.size, 0, none⟩ = some (.int .i64 0) := by simp [go_sem]
  have d1 : (w.alloc (.cells #[.int .i64 0, .slice none 0 0] 25)).cell? ⟨w.heap.size, 1, none⟩ = some (.slice none 0 0) := by simp [go_sem]
  have f2 : (w.alloc (.cells #[.int .i64 0, .slice none 0 0] 25)).frozen? ⟨w.heap.size, 0, none⟩ = false := by simp [go_sem]
  have f3 : (w.alloc (.cells #[.int .i64 0, .slice none 0 0] 25)).frozen? ⟨w.heap.size, 1, none⟩ = false := by simp [go_sem]
  go_enter Try.func77, Try.ntmps77
  go_wp2_with fail
  generalize hA0 : w.alloc (.cells #[.int .i64 0, .slice none 0 0] 25) = w1 at hE1 c0 c1 HC ht1 d0 d1 f2 f3 ⊢
  have hsz1 : w1.heap.size = w.heap.size + 1 := by rw [← hA0]; simp
  clear hA0
  refine (l01Empty_any s to.length _ hs1 hs2 hb2.1 hb2.2).mono ?_
  rintro e w2 ⟨p, fs, rfl, hE2, ho, hf⟩
  rw [mks_none] at ho
  go_wp2_with fail
  go_loopw [8] (fun i wr => ∃ q : Nat, q ≤ r.2.length ∧ i = .int .i64 (q : Nat) ∧ Ext w1 wr ∧ OSet wr p s to.length (mks s to.length fun x => decide (x ∈ projL to (r.2.take q))) fs) (fun i _ => r.2.length - (intOf i).toNat)
  case atStart => exact ⟨0, by omega, rfl, hE2, by simpa [projL] using ho⟩
  case round =>
    obtain ⟨q, hq, rfl, hE3, h⟩ := hrel
    have e0 := hE3.cell c0
    have e1 := hE3.cell c1
    obtain ⟨pb, -, rfl, -⟩ := id h
    by_cases hql : q < r.2.length
    · obtain rfl := ha (by omega)
      obtain ⟨k1, k2⟩ := HC.out q hql
      replace k1 := hE3.cell k1
      replace k2 := k2.ext hE3
      have hX := HMV.out q hql
      have HT := Lib.hid (projL_take (p := to) hql)
      generalize el q = y at k1 k2
      obtain ⟨ya, yc, rfl⟩ := k2.form
      generalize r.2[q] = X at k1 k2 hX HT
      go_wp2_with fail
      refine (l01At_any X _ to _ _ k2 (ht1.ext hE3) hX.2 hzt).mono ?_
      rintro e w7 ⟨u, fu, rfl, hE7, hu, hfu⟩
      obtain ⟨xa', xc', rfl⟩ := hu.form
      go_wp2_with fail
      refine (put_any s to.length _ _ _ (atP X to) fs _ (h.ext hE7) hu.rd hs1 hs2 hb2.1 hb2.2 hX.1).mono ?_
      rintro e w4 ⟨rfl, hO, h4⟩
      rw [mks_snoc, ← HT.out] at h4
      have hE4 : Ext w1 w4 := Below.trans (hE3.tr hE7) (hO.below (hE3.tr hE7).size hf)
      clear h hO
      go_wp2_with fail
      go_roundw
      case rel => exact ⟨q + 1, by omega, by go_num, hE4, h4⟩
      case measure => simp [intOf]; omega
    · rw [List.take_of_length_le (by omega)] at h
      go_wp2_with fail
      refine (setRel_any s to.length _ _ fs _ h hs1 hs2 hb2.1 hb2.2 (mks_length _)).mono ?_
      rintro e w3 ⟨u, fp, rfl, hE5, hr3, hfr⟩
      rw [setRel_mks] at hr3
      have hE := hE1.tr hE3
      replace f2 : _ = false := (hE3.frozen (p := ⟨w.heap.size, 0, none⟩) (lt_of_cell d0)).trans f2
      replace f3 : _ = false := (hE3.frozen (p := ⟨w.heap.size, 1, none⟩) (lt_of_cell d1)).trans f3
      replace d0 := hE3.cell d0
      replace d1 := hE3.cell d1
      replace f2 : _ = false := (hE5.frozen (lt_of_cell d0)).trans f2
      replace f3 : _ = false := (hE5.frozen (lt_of_cell d1)).trans f3
      replace d0 := hE5.cell d0
      replace d1 := hE5.cell d1
      have hqq := hE3.size
      obtain ⟨ua, uc, rfl⟩ := hr3.form
      go_wp2_with fail
      exact bodyPost_ret (v := .agg #[.int .i64 (SrelOf s to.length fun t => decide (t ∈ projL to r.2)).1, .slice ua (SrelOf s to.length fun t => decide (t ∈ projL to r.2)).2.length uc]) (by simp [results, Try.results77, go_sem, d0, d1]) rfl
        ⟨_, fp, rfl, ((hE.tr hE5).setCell (by simp) _).setCell (by simp) _, hr3.off ((Off.set (fp := [w.heap.size]) (by simp)).trans (Off.set (by simp))) (fun h hh hm => by have := hfr h hh; simp at hm; omega), fun h hh => by have := hfr h hh; omega⟩

set_option maxHeartbeats 2000000 in
set_option maxRecDepth 100000 in
theorem specProjectRel_any (s : Int) (r : RelM) (v : Value) (to : List Int) (vt : Value) (w : World) (hr : RdRel w v r) (ht : RdI w vt to) (lo0 : -9223372036854775808 ≤ s) (hi0 : s ≤ 9223372036854775807) (hzr : szRel r ≤ 1048576) (hzt : to.length ≤ 1048576) :
    Calls Try.prog 26 #[.int .i64 s, v, vt] w (RelRes (SProjectRel s r to) w) := by
  obtain ⟨tv, rfl, hr'⟩ := hr
  obtain ⟨ta, tc, rfl⟩ := hr'.form
  have hr : RdRel w _ r := ⟨_, rfl, hr'⟩
  obtain ⟨va, vc, rfl⟩ := ht.form
  have hE1 : Ext w ((w.alloc (.cells #[.int .i64 r.1, .slice ta r.2.length tc] 25)).alloc (.cells #[.int .i64 0, .slice none 0 0] 25)) := ((Ext.refl' w).alloc (Nat.le_refl _) _).alloc (by simp) _
  have hp : PtRel ((w.alloc (.cells #[.int .i64 r.1, .slice ta r.2.length tc] 25)).alloc (.cells #[.int .i64 0, .slice none 0 0] 25)) (.pointer (some ⟨w.heap.size, 0, none⟩)) r := ⟨_, _, _, rfl, by simp [go_sem], by simp [go_sem], hr'.ext hE1⟩
  cases h1 : SValidRel s r with
  | false =>
    rw [proj_1 h1]
    go_enter Try.func26, Try.ntmps26
    go_wp2_with fail
    refine (l01Ok_any s r _ _ hp).mono ?_
    rintro e w1 ⟨rfl, hQ⟩
    rw [h1]
    have hE := hQ.ext
    have d0 := hE.cell (p := ⟨w.heap.size + 1, 0, none⟩) (v := .int .i64 0) (by simp [go_sem])
    have d1 := hE.cell (p := ⟨w.heap.size + 1, 1, none⟩) (v := .slice none 0 0) (by simp [go_sem])
    have f2 := hE.frozen (p := ⟨w.heap.size + 1, 0, none⟩) (by simp)
    have f3 := hE.frozen (p := ⟨w.heap.size + 1, 1, none⟩) (by simp)
    simp [go_sem] at f2 f3
    have c0 := hE.cell (p := ⟨w.heap.size, 0, none⟩) (v := .int .i64 r.1) (by simp [go_sem])
    have c1 := hE.cell (p := ⟨w.heap.size, 1, none⟩) (v := .slice ta r.2.length tc) (by simp [go_sem])
    replace hp := hp.ext hE
    replace hE := hE1.tr hE
    go_wp2_with fail
    exact bodyPost_ret (v := .tuple #[.agg #[.int .i64 0, .slice none 0 0], .int .i64 1]) (by simp [results, Try.results26, go_sem, d0, d1]) rfl (RelRes.no ((hE.setCell (by simp <;> omega) _).setCell (by simp <;> omega) _))
  | true =>
    obtain ⟨⟨hs1, hs2⟩, ⟨hm1, hm2⟩, -⟩ := valid_parts h1
    cases h2 : inB to.length 1 4 with
    | false =>
      rw [proj_2 h1 (by rw [h2]; rfl)]
      go_enter Try.func26, Try.ntmps26
      go_wp2_with fail
      refine (l01Ok_any s r _ _ hp).mono ?_
      rintro e w1 ⟨rfl, hQ⟩
      rw [h1]
      have hE := hQ.ext
      have d0 := hE.cell (p := ⟨w.heap.size + 1, 0, none⟩) (v := .int .i64 0) (by simp [go_sem])
      have d1 := hE.cell (p := ⟨w.heap.size + 1, 1, none⟩) (v := .slice none 0 0) (by simp [go_sem])
      have f2 := hE.frozen (p := ⟨w.heap.size + 1, 0, none⟩) (by simp)
      have f3 := hE.frozen (p := ⟨w.heap.size + 1, 1, none⟩) (by simp)
      simp [go_sem] at f2 f3
      have c0 := hE.cell (p := ⟨w.heap.size, 0, none⟩) (v := .int .i64 r.1) (by simp [go_sem])
      have c1 := hE.cell (p := ⟨w.heap.size, 1, none⟩) (v := .slice ta r.2.length tc) (by simp [go_sem])
      replace hp := hp.ext hE
      replace hE := hE1.tr hE
      go_wp2_with fail
      refine (l01Arity_any _ _).mono ?_
      rintro e w2 ⟨rfl, rfl⟩
      rw [h2]
      go_wp2_with fail
      exact bodyPost_ret (v := .tuple #[.agg #[.int .i64 0, .slice none 0 0], .int .i64 2]) (by simp [results, Try.results26, go_sem, d0, d1]) rfl (RelRes.no ((hE.setCell (by simp <;> omega) _).setCell (by simp <;> omega) _))
    | true =>
      have hb2 := inB_iff.1 h2
      cases h3 : isPl r.1 to with
      | false =>
        rw [proj_2 h1 (by rw [h2, h3]; rfl)]
        go_enter Try.func26, Try.ntmps26
        go_wp2_with fail
        refine (l01Ok_any s r _ _ hp).mono ?_
        rintro e w1 ⟨rfl, hQ⟩
        rw [h1]
        have hE := hQ.ext
        have d0 := hE.cell (p := ⟨w.heap.size + 1, 0, none⟩) (v := .int .i64 0) (by simp [go_sem])
        have d1 := hE.cell (p := ⟨w.heap.size + 1, 1, none⟩) (v := .slice none 0 0) (by simp [go_sem])
        have f2 := hE.frozen (p := ⟨w.heap.size + 1, 0, none⟩) (by simp)
        have f3 := hE.frozen (p := ⟨w.heap.size + 1, 1, none⟩) (by simp)
        simp [go_sem] at f2 f3
        have c0 := hE.cell (p := ⟨w.heap.size, 0, none⟩) (v := .int .i64 r.1) (by simp [go_sem])
        have c1 := hE.cell (p := ⟨w.heap.size, 1, none⟩) (v := .slice ta r.2.length tc) (by simp [go_sem])
        replace hp := hp.ext hE
        replace hE := hE1.tr hE
        go_wp2_with fail
        refine (l01Arity_any _ _).mono ?_
        rintro e w2 ⟨rfl, rfl⟩
        rw [h2]
        go_wp2_with fail
        refine (l01Places_any to _ r.1 _ (ht.ext hE) (by omega) (by omega)).mono ?_
        rintro e w2 ⟨rfl, rfl⟩
        rw [show (to.all fun a => inB a 0 (r.1 - 1)) = isPl r.1 to from rfl, h3]
        go_wp2_with fail
        exact bodyPost_ret (v := .tuple #[.agg #[.int .i64 0, .slice none 0 0], .int .i64 2]) (by simp [results, Try.results26, go_sem, d0, d1]) rfl (RelRes.no ((hE.setCell (by simp <;> omega) _).setCell (by simp <;> omega) _))
      | true =>
        rw [proj_0 h1 h2 h3]
        have hmk := mkRel_SrelOf (s := s) (m := (to.length : Int)) (p := fun t => decide (t ∈ projL to r.2)) hs1 hs2 hb2.1 hb2.2
        have H1 := Lib.hid h1
        have H2 := Lib.hid h2
        have H3 := Lib.hid h3
        go_enter Try.func26, Try.ntmps26
        go_wp2_with fail
        refine (l01Ok_any s r _ _ hp).mono ?_
        rintro e w1 ⟨rfl, hQ⟩
        rw [h1]
        have hE := hQ.ext
        have d0 := hE.cell (p := ⟨w.heap.size + 1, 0, none⟩) (v := .int .i64 0) (by simp [go_sem])
        have d1 := hE.cell (p := ⟨w.heap.size + 1, 1, none⟩) (v := .slice none 0 0) (by simp [go_sem])
        have f2 := hE.frozen (p := ⟨w.heap.size + 1, 0, none⟩) (by simp)
        have f3 := hE.frozen (p := ⟨w.heap.size + 1, 1, none⟩) (by simp)
        simp [go_sem] at f2 f3
        have c0 := hE.cell (p := ⟨w.heap.size, 0, none⟩) (v := .int .i64 r.1) (by simp [go_sem])
        have c1 := hE.cell (p := ⟨w.heap.size, 1, none⟩) (v := .slice ta r.2.length tc) (by simp [go_sem])
        replace hp := hp.ext hE
        replace hE := hE1.tr hE
        go_wp2_with fail
        refine (l01Arity_any _ _).mono ?_
        rintro e w2 ⟨rfl, rfl⟩
        rw [h2]
        go_wp2_with fail
        refine (l01Places_any to _ r.1 _ (ht.ext hE) (by omega) (by omega)).mono ?_
        rintro e w2 ⟨rfl, rfl⟩
        rw [show (to.all fun a => inB a 0 (r.1 - 1)) = isPl r.1 to from rfl, h3]
        clear h1 h2 h3
        go_wp2_with fail
        refine (l01Project_any s r _ to _ _ hp (ht.ext hE) H1.out H2.out H3.out).mono ?_
        rintro e w3 ⟨u, fp, rfl, hE3, hr3, hfr⟩
        have q0 := lt_of_cell d0
        obtain ⟨ua, uc, rfl⟩ := hr3.form
        replace f2 : _ = false := (hE3.frozen (lt_of_cell d0)).trans f2
        replace f3 : _ = false := (hE3.frozen (lt_of_cell d1)).trans f3
        replace d0 := hE3.cell d0
        replace d1 := hE3.cell d1
        go_wp2_with fail
        exact bodyPost_ret (v := .tuple #[.agg #[.int .i64 (SrelOf s to.length (fun t => decide (t ∈ projL to r.2))).1, .slice ua (SrelOf s to.length (fun t => decide (t ∈ projL to r.2))).2.length uc], .int .i64 0]) (by simp [results, Try.results26, go_sem, d0, d1]; try rfl) rfl
          (RelRes.of rfl (((hE.tr hE3).setCell (by simp <;> omega) _).setCell (by simp <;> omega) _) (hr3.off ((Off.set (fp := [w.heap.size + 1]) (by simp)).trans (Off.set (by simp))) (fun h hh hm => by have := hfr h hh; simp at hm; (try dsimp only at q0); omega)) (fun h hh => by have := hfr h hh; have := hE.size; omega) hmk)
end Go.Proofs.Ytefnmfdmnoednaa
