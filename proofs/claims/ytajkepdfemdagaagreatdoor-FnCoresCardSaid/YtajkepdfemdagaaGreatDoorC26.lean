/- FirstMap: the program's and the reference's give one function's answers. The plain laws of FnCores: maps of templates put together; the core lies in the template, and is its own core. -/
import Derived.Test.YtajkepdfemdagaaGreatDoorC24
import Derived.Test.YtajkepdfemdagaaGreatDoorC25
import Derived.Test.YtajkepdfemdagaaGreatDoorC20
namespace Go.Proofs.YtajkepdfemdagaaGreatDoor
open Go.RowKit
set_option linter.unusedVariables false

def mapK (t u : TmD) (k : Nat) : Bool := isMapS t u (digs u.1 t.1.toNat k)
def foundMap (t u : TmD) : Option Nat := (List.range (count u.1 t.1)).find? (mapK t u)
def SFirstMap (t u : TmD) : List Int × Int := if SMapFault t u = 0 then match foundMap t u with | some k => (digs u.1 t.1.toNat k, 0) | none => ([], 6) else ([], SMapFault t u)
theorem fmap_fault {t u : TmD} (h : ¬ SMapFault t u = 0) : SFirstMap t u = ([], SMapFault t u) := by unfold SFirstMap; rw [if_neg h]
theorem fmap_none {t u : TmD} (h : SMapFault t u = 0) (h2 : foundMap t u = none) : SFirstMap t u = ([], 6) := by unfold SFirstMap; rw [if_pos h, h2]
theorem fmap_some {t u : TmD} {k : Nat} (h : SMapFault t u = 0) (h2 : foundMap t u = some k) : SFirstMap t u = (digs u.1 t.1.toNat k, 0) := by unfold SFirstMap; rw [if_pos h, h2]
theorem map_vals {t u : TmD} (ht : SValidTemplate t = true) (hu : SValidTemplate u = true) (k : Nat) : vals u.1 (digs u.1 t.1.toNat k) t.1 = true := by
  have h1 := valid_tm_size ht
  have h2 := valid_tm_size hu
  exact vals_iff.2 ⟨by rw [digs_length]; omega, fun a ha => digs_val u.1 h2.1 _ k (by omega) a ha⟩

set_option maxHeartbeats 2000000 in
set_option maxRecDepth 100000 in
theorem implFirstMap_any (t : TmD) (v : Value) (u : TmD) (vu : Value) (w : World) (hr : RdTm w v t) (hs : RdTm w vu u) (_ : szTm t ≤ 1048576) (hz : szTm u ≤ 1048576) :
    Calls Tryz.prog 37 #[v, vu] w (IRes (SFirstMap t u) w) := by
  obtain ⟨tv, rfl, hr'⟩ := hr
  obtain ⟨ta, tc, rfl⟩ := hr'.form
  have hr : RdTm w _ t := ⟨_, rfl, hr'⟩
  obtain ⟨tu, rfl, hs'⟩ := hs
  obtain ⟨ua, uc, rfl⟩ := hs'.form
  have hs : RdTm w _ u := ⟨_, rfl, hs'⟩
  have hE1 : Ext w ((w.alloc (.cells #[.int .i64 t.1, .slice ta t.2.length tc] 24)).alloc (.cells #[.int .i64 u.1, .slice ua u.2.length uc] 24)) := ((Ext.refl' w).alloc (Nat.le_refl _) _).alloc (by simp) _
  by_cases h0 : SMapFault t u = 0
  · skip
    obtain ⟨ht, hu, hl⟩ := fault_zero h0
    have htb := valid_tm_size ht
    have hub := valid_tm_size hu
    have hb : (SMapFault t u != 0) = false := by simp [h0]
    have HL := Lib.hid hl
    have H0 := Lib.hid h0
    have HN := Lib.hid (count_eq u.1 t.1 hub.1 hub.2 htb.1 htb.2)
    have hN3 : count u.1 t.1 ≤ 256 := by have := HN.out; have := powW_small u.1 t.1 hub.1 hub.2 htb.1 htb.2; omega
    clear hl h0
    go_enter Tryz.func37, Tryz.ntmps37
    go_wp2_with fail
    refine (mapFault_any t _ u _ _ (hr.ext hE1) (hs.ext hE1)).mono ?_
    rintro e w1 ⟨rfl, hE⟩
    have b0 := hE.cell (p := ⟨w.heap.size, 0, none⟩) (v := .int .i64 t.1) (by simp [go_sem])
    have b1 := hE.cell (p := ⟨w.heap.size, 1, none⟩) (v := .slice ta t.2.length tc) (by simp [go_sem])
    have c0 := hE.cell (p := ⟨w.heap.size + 1, 0, none⟩) (v := .int .i64 u.1) (by simp [go_sem])
    have c1 := hE.cell (p := ⟨w.heap.size + 1, 1, none⟩) (v := .slice ua u.2.length uc) (by simp [go_sem])
    replace hE := hE1.tr hE
    go_wp2_with fail
    refine (power_any _ _ _ (by omega)).mono ?_
    rintro e w2 ⟨rfl, rfl⟩
    rw [← HN.out]
    go_wp2_with fail
    go_loopw [20] (fun i wr => ∃ k : Nat, k ≤ count u.1 t.1 ∧ i = .int .i64 k ∧ Ext w1 wr ∧ Hid (∀ j, j < k → mapK t u j = false)) (fun i _ => count u.1 t.1 - (intOf i).toNat)
    case atStart => exact ⟨0, by omega, rfl, Ext.refl' _, Lib.hid fun j hj => by omega⟩
    case round =>
      obtain ⟨k, hk, rfl, hE2, HT⟩ := hrel
      have hEE := hE.tr hE2
      replace b0 := hE2.cell b0
      replace b1 := hE2.cell b1
      replace c0 := hE2.cell c0
      replace c1 := hE2.cell c1
      by_cases hkl : k < count u.1 t.1
      · go_wp2_with fail
        refine (listOf_any u.1 t.1 (k : Int) _ (by omega) (by omega) (by omega) (by omega) (by omega) (by omega)).mono ?_
        rintro e w3 ⟨x, fx, rfl, hE3, hx, hfx⟩
        obtain ⟨xa, xc, rfl⟩ := hx.form
        replace b0 := hE3.cell b0
        replace b1 := hE3.cell b1
        replace c0 := hE3.cell c0
        replace c1 := hE3.cell c1
        have hEE3 := hEE.tr hE3
        have hsz := hEE.size
        cases hm : mapK t u k with
        | true =>
          have HS := Lib.hid (fmap_some H0.out (find_here hkl HT.out hm))
          have hlen : (digs u.1 t.1.toNat k).length ≤ 1048576 := by rw [digs_length]; omega
          have HLE := Lib.hid hlen
          clear hlen
          go_wp2_with fail
          refine (isMap_any t _ u _ _ _ _ (hr.ext hEE3) (hs.ext hEE3) hx.rd ht hu HL.out (map_vals ht hu k) hz).mono ?_
          rintro e w4 ⟨rfl, hE4⟩
          rw [show isMapS t u (digs u.1 t.1.toNat k) = true from hm]
          go_wp2_with fail
          go_ret2
          rw [HS.out]
          exact IRes.of rfl (hEE3.tr hE4) (hx.ext hE4) (fun g hg => Nat.le_trans hsz (hfx g hg)) HLE.out
        | false =>
          have HT2 := Lib.hid (show ∀ j, j < k + 1 → mapK t u j = false from fun j hj => by
            rcases Nat.lt_or_ge j k with h | h
            · exact HT.out j h
            · rw [show j = k by omega]; exact hm)
          go_wp2_with fail
          refine (isMap_any t _ u _ _ _ _ (hr.ext hEE3) (hs.ext hEE3) hx.rd ht hu HL.out (map_vals ht hu k) hz).mono ?_
          rintro e w4 ⟨rfl, hE4⟩
          rw [show isMapS t u (digs u.1 t.1.toNat k) = false from hm]
          clear hm
          go_wp2_with fail
          go_roundw
          case rel => exact ⟨k + 1, by omega, by go_num, hE2.tr (hE3.tr hE4), HT2⟩
          case measure => simp [intOf]; omega
      · have HS := Lib.hid (fmap_none H0.out (find_none (p := mapK t u) fun j hj => HT.out j (by omega)))
        go_wp2_with fail
        go_ret2
        rw [HS.out]
        exact IRes.no hEE
  · have hb : (SMapFault t u != 0) = true := by simp [h0]
    have HS := Lib.hid (fmap_fault h0)
    clear h0
    go_enter Tryz.func37, Tryz.ntmps37
    go_wp2_with fail
    refine (mapFault_any t _ u _ _ (hr.ext hE1) (hs.ext hE1)).mono ?_
    rintro e w1 ⟨rfl, hE⟩
    have b0 := hE.cell (p := ⟨w.heap.size, 0, none⟩) (v := .int .i64 t.1) (by simp [go_sem])
    have b1 := hE.cell (p := ⟨w.heap.size, 1, none⟩) (v := .slice ta t.2.length tc) (by simp [go_sem])
    have c0 := hE.cell (p := ⟨w.heap.size + 1, 0, none⟩) (v := .int .i64 u.1) (by simp [go_sem])
    have c1 := hE.cell (p := ⟨w.heap.size + 1, 1, none⟩) (v := .slice ua u.2.length uc) (by simp [go_sem])
    replace hE := hE1.tr hE
    go_wp2_with fail
    go_ret2
    rw [HS.out]
    exact IRes.no hE
set_option maxHeartbeats 2000000 in
set_option maxRecDepth 100000 in
theorem specFirstMap_any (t : TmD) (v : Value) (u : TmD) (vu : Value) (w : World) (hr : RdTm w v t) (hs : RdTm w vu u) (_ : szTm t ≤ 1048576) (hz : szTm u ≤ 1048576) :
    Calls Tryz.prog 38 #[v, vu] w (IRes (SFirstMap t u) w) := by
  obtain ⟨tv, rfl, hr'⟩ := hr
  obtain ⟨ta, tc, rfl⟩ := hr'.form
  have hr : RdTm w _ t := ⟨_, rfl, hr'⟩
  obtain ⟨tu, rfl, hs'⟩ := hs
  obtain ⟨ua, uc, rfl⟩ := hs'.form
  have hs : RdTm w _ u := ⟨_, rfl, hs'⟩
  have hE1 : Ext w ((w.alloc (.cells #[.int .i64 t.1, .slice ta t.2.length tc] 24)).alloc (.cells #[.int .i64 u.1, .slice ua u.2.length uc] 24)) := ((Ext.refl' w).alloc (Nat.le_refl _) _).alloc (by simp) _
  have hp : PtTm ((w.alloc (.cells #[.int .i64 t.1, .slice ta t.2.length tc] 24)).alloc (.cells #[.int .i64 u.1, .slice ua u.2.length uc] 24)) (.pointer (some ⟨w.heap.size, 0, none⟩)) t := ⟨_, _, _, rfl, by simp [go_sem], by simp [go_sem], hr'.ext hE1⟩
  have hq : PtTm ((w.alloc (.cells #[.int .i64 t.1, .slice ta t.2.length tc] 24)).alloc (.cells #[.int .i64 u.1, .slice ua u.2.length uc] 24)) (.pointer (some ⟨w.heap.size + 1, 0, none⟩)) u := ⟨_, _, _, rfl, by simp [go_sem], by simp [go_sem], hs'.ext hE1⟩
  by_cases h0 : SMapFault t u = 0
  · skip
    obtain ⟨ht, hu, hl⟩ := fault_zero h0
    have htb := valid_tm_size ht
    have hub := valid_tm_size hu
    have hb : (SMapFault t u != 0) = false := by simp [h0]
    have HL := Lib.hid hl
    have H0 := Lib.hid h0
    have HN := Lib.hid (count_eq u.1 t.1 hub.1 hub.2 htb.1 htb.2)
    have hN3 : count u.1 t.1 ≤ 256 := by have := HN.out; have := powW_small u.1 t.1 hub.1 hub.2 htb.1 htb.2; omega
    clear hl h0
    go_enter Tryz.func38, Tryz.ntmps38
    go_wp2_with fail
    refine (l01Arities_any t _ u _ _ hp hq).mono ?_
    rintro e w1 ⟨rfl, hE⟩
    have hp1 := hp.ext hE
    have hq1 := hq.ext hE
    have b0 := hE.cell (p := ⟨w.heap.size, 0, none⟩) (v := .int .i64 t.1) (by simp [go_sem])
    have b1 := hE.cell (p := ⟨w.heap.size, 1, none⟩) (v := .slice ta t.2.length tc) (by simp [go_sem])
    have c0 := hE.cell (p := ⟨w.heap.size + 1, 0, none⟩) (v := .int .i64 u.1) (by simp [go_sem])
    have c1 := hE.cell (p := ⟨w.heap.size + 1, 1, none⟩) (v := .slice ua u.2.length uc) (by simp [go_sem])
    replace hE := hE1.tr hE
    go_wp2_with fail
    go_loopw [7] (fun i wr => ∃ k : Nat, k ≤ count u.1 t.1 ∧ i = .int .i64 k ∧ Ext w1 wr ∧ Hid (∀ j, j < k → mapK t u j = false)) (fun i _ => count u.1 t.1 - (intOf i).toNat)
    case atStart => exact ⟨0, by omega, rfl, Ext.refl' _, Lib.hid fun j hj => by omega⟩
    case round =>
      obtain ⟨k, hk, rfl, hE2, HT⟩ := hrel
      have hEE := hE.tr hE2
      replace b0 := hE2.cell b0
      replace b1 := hE2.cell b1
      replace c0 := hE2.cell c0
      replace c1 := hE2.cell c1
      by_cases hkl : k < count u.1 t.1
      · go_wp2_with fail
        refine (l01Power_any _ _ _ (by omega) (by omega)).mono ?_
        rintro e w' ⟨rfl, rfl⟩
        rw [← HN.out]
        go_wp2_with fail
        refine (l01Digits_any u.1 t.1 (k : Int) _ (by omega) (by omega) (by omega) (by omega) (by omega) (by omega)).mono ?_
        rintro e w3 ⟨x, fx, rfl, hE3, hx, hfx⟩
        obtain ⟨xa, xc, rfl⟩ := hx.form
        have hEE3 := hEE.tr hE3
        have hE23 := hE2.tr hE3
        have hsz := hEE.size
        cases hm : mapK t u k with
        | true =>
          have HS := Lib.hid (fmap_some H0.out (find_here hkl HT.out hm))
          have hlen : (digs u.1 t.1.toNat k).length ≤ 1048576 := by rw [digs_length]; omega
          have HLE := Lib.hid hlen
          clear hlen
          go_wp2_with fail
          refine (l01Maps_any t _ u _ _ _ _ (hp1.ext hE23) (hq1.ext hE23) hx.rd ht HL.out (map_vals ht hu k)).mono ?_
          rintro e w4 ⟨rfl, hE4⟩
          rw [show isMapS t u (digs u.1 t.1.toNat k) = true from hm]
          go_wp2_with fail
          go_ret2
          rw [HS.out]
          exact IRes.of rfl (hEE3.tr hE4) (hx.ext hE4) (fun g hg => Nat.le_trans hsz (hfx g hg)) HLE.out
        | false =>
          have HT2 := Lib.hid (show ∀ j, j < k + 1 → mapK t u j = false from fun j hj => by
            rcases Nat.lt_or_ge j k with h | h
            · exact HT.out j h
            · rw [show j = k by omega]; exact hm)
          go_wp2_with fail
          refine (l01Maps_any t _ u _ _ _ _ (hp1.ext hE23) (hq1.ext hE23) hx.rd ht HL.out (map_vals ht hu k)).mono ?_
          rintro e w4 ⟨rfl, hE4⟩
          rw [show isMapS t u (digs u.1 t.1.toNat k) = false from hm]
          clear hm
          go_wp2_with fail
          go_roundw
          case rel => exact ⟨k + 1, by omega, by go_num, hE23.tr hE4, HT2⟩
          case measure => simp [intOf]; omega
      · have HS := Lib.hid (fmap_none H0.out (find_none (p := mapK t u) fun j hj => HT.out j (by omega)))
        have hsz := hEE.size
        have hA : Ext wr (wr.alloc (.cells #[] 2)) := (Ext.refl' wr).alloc (Nat.le_refl _) _
        have hmd : (wr.alloc (.cells #[] 2)).ownsRow 0 2 1 (.slice (some ⟨wr.heap.size, 0, none⟩) 0 0) 0 [] := World.ownsRow_made wr #[] 0 (Nat.zero_le _) (by decide) rfl
        go_wp2_with fail
        refine (l01Power_any _ _ _ (by omega) (by omega)).mono ?_
        rintro e w' ⟨rfl, rfl⟩
        rw [← HN.out]
        go_wp2_with fail
        go_ret2
        rw [HS.out]
        exact IRes.no2 (hEE.tr hA) hsz hmd
  · have hb : (SMapFault t u != 0) = true := by simp [h0]
    have HS := Lib.hid (fmap_fault h0)
    clear h0
    go_enter Tryz.func38, Tryz.ntmps38
    go_wp2_with fail
    refine (l01Arities_any t _ u _ _ hp hq).mono ?_
    rintro e w1 ⟨rfl, hE⟩
    have hp1 := hp.ext hE
    have hq1 := hq.ext hE
    have b0 := hE.cell (p := ⟨w.heap.size, 0, none⟩) (v := .int .i64 t.1) (by simp [go_sem])
    have b1 := hE.cell (p := ⟨w.heap.size, 1, none⟩) (v := .slice ta t.2.length tc) (by simp [go_sem])
    have c0 := hE.cell (p := ⟨w.heap.size + 1, 0, none⟩) (v := .int .i64 u.1) (by simp [go_sem])
    have c1 := hE.cell (p := ⟨w.heap.size + 1, 1, none⟩) (v := .slice ua u.2.length uc) (by simp [go_sem])
    replace hE := hE1.tr hE
    have hsz := hE.size
    have hA : Ext w1 (w1.alloc (.cells #[] 2)) := (Ext.refl' w1).alloc (Nat.le_refl _) _
    have hmd : (w1.alloc (.cells #[] 2)).ownsRow 0 2 1 (.slice (some ⟨w1.heap.size, 0, none⟩) 0 0) 0 [] := World.ownsRow_made w1 #[] 0 (Nat.zero_le _) (by decide) rfl
    go_wp2_with fail
    go_ret2
    rw [HS.out]
    exact IRes.no2 (hE.tr hA) hsz hmd
end Go.Proofs.YtajkepdfemdagaaGreatDoor
namespace Go.Proofs.YtajkepdfemdagaaGreatDoor
open Go.RowKit
set_option linter.unusedVariables false

theorem atP_atP {f g x : List Int} (h : ∀ p ∈ x, 0 ≤ p ∧ p < f.length) : atP g (atP f x) = atP (atP g f) x := by
  unfold atP
  rw [List.map_map]
  refine List.map_congr_left fun p hp => ?_
  obtain ⟨h0, h1⟩ := h p hp
  have hk : p.toNat < f.length := by omega
  show g.getD (f.getD p.toNat 0).toNat 0 = (f.map fun q => g.getD q.toNat 0).getD p.toNat 0
  simp [List.getD_eq_getElem?_getD, List.getElem?_eq_getElem hk]
/-- to leads the tuples of t into those of u -/
def MapP (t u : TmD) (to : List Int) : Prop := ∀ (i : Nat) (hi : i < t.2.length) (hu : i < u.2.length), ∀ x ∈ t.2[i].2, atP to x ∈ u.2[i].2
theorem isMapS_iff {t u : TmD} {to : List Int} (hl : t.2.length = u.2.length) : isMapS t u to = true ↔ MapP t u to := by
  unfold isMapS MapP
  rw [List.all_eq_true]
  constructor
  · intro h i hi hu x hx
    have h1 := h i (List.mem_range.2 hi)
    rw [mapAt_eq hi hu, Bool.not_eq_true', List.any_eq_false] at h1
    have := h1 x hx
    rw [← hasT_iff]
    simpa using this
  · intro h i hi
    have hi := List.mem_range.1 hi
    rw [mapAt_eq hi (by omega), Bool.not_eq_true', List.any_eq_false]
    intro x hx
    rw [hasT_iff.2 (h i hi (by omega) x hx)]
    simp
theorem tm_in {t : TmD} (ht : SValidTemplate t = true) {i : Nat} (hi : i < t.2.length) {x : List Int} (hx : x ∈ t.2[i].2) : vals t.1 x t.2[i].1 = true := (valid_parts (valid_tm ht _ (List.getElem_mem hi))).2.2 x hx
theorem tm_at {t : TmD} (ht : SValidTemplate t = true) {f : List Int} {b : Int} (hf : vals b f t.1 = true) {i : Nat} (hi : i < t.2.length) {x : List Int} (hx : x ∈ t.2[i].2) : ∀ p ∈ x, 0 ≤ p ∧ p < f.length := by
  have hv := (vals_iff.1 (tm_in ht hi hx)).2
  have hn := (vals_iff.1 hf).1
  exact fun p hp => by have := hv p hp; omega
theorem map_comp {t u w : TmD} {f g : List Int} (ht : SValidTemplate t = true) (hf : vals u.1 f t.1 = true) (hl : t.2.length = u.2.length) (h1 : MapP t u f) (h2 : MapP u w g) : MapP t w (atP g f) := by
  intro i hi hw x hx
  rw [← atP_atP (tm_at ht hf hi hx)]
  exact h2 i (by omega) hw _ (h1 i hi (by omega) x hx)
theorem vals_comp {a b c : Int} {f g : List Int} (hf : vals b f a = true) (hg : vals c g b = true) : vals c (atP g f) a = true := by
  obtain ⟨f1, f2⟩ := vals_iff.1 hf
  obtain ⟨g1, g2⟩ := vals_iff.1 hg
  exact vals_iff.2 ⟨by rw [atP_length]; exact f1, atP_val g2 fun p hp => by have := f2 p hp; omega⟩
theorem fault_ok {t u : TmD} (ht : SValidTemplate t = true) (hu : SValidTemplate u = true) (hl : t.2.length = u.2.length) (ha : ∀ i (hi : i < t.2.length) (hj : i < u.2.length), t.2[i].1 = u.2[i].1) : SMapFault t u = 0 := by
  unfold SMapFault
  rw [ht, hu, eqAll_yes hl fun k hk hm => by unfold sameAr; rw [beq_iff_eq]; exact ha k hk hm]
  rfl
/-- every map stands at some number -/
theorem map_code {t u : TmD} (ht : SValidTemplate t = true) (hu : SValidTemplate u = true) {f : List Int} (hv : vals u.1 f t.1 = true) : ∃ j : Nat, j < count u.1 t.1 ∧ digs u.1 t.1.toNat j = f := by
  have h1 := valid_tm_size ht
  have h2 := valid_tm_size hu
  obtain ⟨c0, c1⟩ := code_ltc h2.1 h2.2 h1.1 h1.2 hv
  exact ⟨(code u.1 f).toNat, c1, by rw [show (((code u.1 f).toNat : Nat) : Int) = code u.1 f by omega]; exact digs_of_code' h2.1 hv⟩
theorem fmap_cases {t u : TmD} (h : SMapFault t u = 0) : (∃ f, SFirstMap t u = (f, 0) ∧ vals u.1 f t.1 = true ∧ MapP t u f) ∨ (SFirstMap t u = ([], 6) ∧ ∀ f, vals u.1 f t.1 = true → ¬ MapP t u f) := by
  obtain ⟨ht, hu, hl⟩ := fault_zero h
  cases hf : foundMap t u with
  | some k => exact .inl ⟨_, fmap_some h hf, map_vals ht hu k, (isMapS_iff hl).1 (show mapK t u k = true from List.find?_some hf)⟩
  | none =>
    refine .inr ⟨fmap_none h hf, fun f hv hm => ?_⟩
    unfold foundMap at hf
    rw [List.find?_eq_none] at hf
    obtain ⟨j, hj, hd⟩ := map_code ht hu hv
    refine hf j (List.mem_range.2 hj) ?_
    unfold mapK
    rw [hd]
    exact (isMapS_iff hl).2 hm
theorem ismap_ok {t u : TmD} {f : List Int} (h : SMapFault t u = 0) (hv : vals u.1 f t.1 = true) (hm : MapP t u f) : SIsMapOf t u f = (true, 0) := by
  unfold SIsMapOf
  rw [if_pos h, if_pos hv, (isMapS_iff (fault_zero h).2.2).2 hm]

def idL (s : Int) : List Int := (List.range s.toNat).map fun k : Nat => (k : Int)
theorem idL_vals {s : Int} (hs : 0 ≤ s) : vals s (idL s) s = true := vals_iff.2 ⟨by simp [idL]; omega, fun a ha => by
  obtain ⟨k, hk, rfl⟩ := List.mem_map.1 ha
  have := List.mem_range.1 hk
  omega⟩
theorem idL_at {s : Int} {x : List Int} (h : ∀ a ∈ x, 0 ≤ a ∧ a < s) : atP (idL s) x = x := by
  unfold atP
  refine Eq.trans (List.map_congr_left fun p hp => ?_) (List.map_id x)
  obtain ⟨h0, h1⟩ := h p hp
  have hk : p.toNat < (idL s).length := by simp [idL]; omega
  rw [List.getD_eq_getElem?_getD, List.getElem?_eq_getElem hk]
  simp [idL]
  omega
theorem idL_map {t : TmD} (ht : SValidTemplate t = true) : MapP t t (idL t.1) := by
  intro i hi hu x hx
  rw [idL_at (vals_iff.1 (tm_in ht hi hx)).2]
  exact hx

/-- the core's values after so many maps -/
def CoreInv (t : TmD) (k : Nat) (b : List Int) : Prop :=
  (b = [] ∧ ∀ j : Nat, j < k → isMapS t t (digs t.1 t.1.toNat j) = false) ∨
  ((∃ j : Nat, isMapS t t (digs t.1 t.1.toNat j) = true ∧ b = riseL (digs t.1 t.1.toNat j)) ∧ ∀ j : Nat, j < k → isMapS t t (digs t.1 t.1.toNat j) = true → b.length ≤ (riseL (digs t.1 t.1.toNat j)).length)
theorem rise_pos {l : List Int} (h : 0 < l.length) : 0 < (riseL l).length :=
  List.length_pos_of_mem ((mem_riseL l _).2 (List.getElem_mem h))
theorem coreAt_inv {t : TmD} (h1 : 1 ≤ t.1) : ∀ k, CoreInv t k (coreAt t k)
  | 0 => .inl ⟨rfl, fun j hj => by omega⟩
  | k + 1 => by
    have ih := coreAt_inv h1 k
    show CoreInv t (k + 1) (coreStep t (coreAt t k) k)
    generalize coreAt t k = b at ih
    by_cases hm : isMapS t t (digs t.1 t.1.toNat k) = true
    · by_cases hb : b.length = 0 ∨ (riseL (digs t.1 t.1.toNat k)).length < b.length
      · rw [coreStep_yes hm hb]
        refine .inr ⟨⟨k, hm, rfl⟩, fun j hj hj2 => ?_⟩
        by_cases hjk : j = k
        · rw [hjk]; exact Nat.le_refl _
        · rcases ih with ⟨_, h⟩ | ⟨⟨i, hi, hbi⟩, h⟩
          · rw [h j (by omega)] at hj2; cases hj2
          · have h2 := h j (by omega) hj2
            rcases hb with hb | hb
            · have := rise_pos (l := digs t.1 t.1.toNat i) (by rw [digs_length]; omega)
              rw [hbi] at hb
              omega
            · omega
      · rw [coreStep_no (.inr hb)]
        rcases ih with ⟨h0, _⟩ | ⟨h0, h⟩
        · exact absurd (.inl (by rw [h0]; rfl)) hb
        · refine .inr ⟨h0, fun j hj hj2 => ?_⟩
          by_cases hjk : j = k
          · rw [hjk]; omega
          · exact h j (by omega) hj2
    · rw [coreStep_no (.inl (Bool.eq_false_iff.2 hm))]
      rcases ih with ⟨h0, h⟩ | ⟨h0, h⟩
      · refine .inl ⟨h0, fun j hj => ?_⟩
        by_cases hjk : j = k
        · rw [hjk]; exact Bool.eq_false_iff.2 hm
        · exact h j (by omega)
      · refine .inr ⟨h0, fun j hj hj2 => ?_⟩
        by_cases hjk : j = k
        · rw [hjk] at hj2; exact absurd hj2 hm
        · exact h j (by omega) hj2
/-- the core's values are those of a map into itself; no map has fewer -/
theorem coreV_spec {t : TmD} (ht : SValidTemplate t = true) : (∃ e, vals t.1 e t.1 = true ∧ MapP t t e ∧ coreV t = riseL e) ∧ ∀ e, vals t.1 e t.1 = true → MapP t t e → (coreV t).length ≤ (riseL e).length := by
  have h1 := valid_tm_size ht
  unfold coreV
  rcases coreAt_inv h1.1 (count t.1 t.1) with ⟨_, h⟩ | ⟨⟨j, hj, hb⟩, h⟩
  · exfalso
    obtain ⟨j, hj, hd⟩ := map_code ht ht (idL_vals (s := t.1) (by omega))
    have h2 := h j hj
    rw [hd, (isMapS_iff rfl).2 (idL_map ht)] at h2
    cases h2
  · refine ⟨⟨_, map_vals ht ht j, (isMapS_iff rfl).1 hj, hb⟩, fun e hv hm => ?_⟩
    obtain ⟨i, hi, hd⟩ := map_code ht ht hv
    rw [← hd]
    exact h i hi (by rw [hd]; exact (isMapS_iff rfl).2 hm)

/-! ### places among the values kept -/
def pos (V : List Int) (a : Int) : Int := idx (fun b => decide (b = a)) V
section
variable {V : List Int}
theorem pos_get (hV : V.Pairwise (· < ·)) {k : Nat} (hk : k < V.length) : pos V V[k] = k := by
  refine idx_here _ V k hk ?_ (by simp)
  rw [List.any_eq_false]
  intro b hb
  obtain ⟨j, hj, rfl⟩ := List.mem_take_iff_getElem.1 hb
  have := List.pairwise_iff_getElem.1 hV j k (by omega) hk (by omega)
  simp
  omega
theorem pos_no {a : Int} (h : a ∉ V) : pos V a = -1 := idx_none _ V (by
  rw [List.any_eq_false]
  intro b hb
  simp
  rintro rfl
  exact h hb)
theorem pos_in (hV : V.Pairwise (· < ·)) {a : Int} (h : a ∈ V) : 0 ≤ pos V a ∧ pos V a < V.length ∧ V.getD (pos V a).toNat 0 = a := by
  obtain ⟨k, hk, rfl⟩ := List.getElem_of_mem h
  rw [pos_get hV hk]
  refine ⟨by omega, by omega, ?_⟩
  simp [List.getD_eq_getElem?_getD, List.getElem?_eq_getElem hk]
theorem pos_at (hV : V.Pairwise (· < ·)) {p : Int} (h0 : 0 ≤ p) (h1 : p < V.length) : pos V (V.getD p.toNat 0) = p ∧ V.getD p.toNat 0 ∈ V := by
  have hk : p.toNat < V.length := by omega
  have he : V.getD p.toNat 0 = V[p.toNat] := by simp [List.getD_eq_getElem?_getD, List.getElem?_eq_getElem hk]
  rw [he, pos_get hV hk]
  exact ⟨by omega, List.getElem_mem hk⟩
theorem pos_lt (hV : V.Pairwise (· < ·)) {a b : Int} (ha : a ∈ V) (hb : b ∈ V) : (a < b ↔ pos V a < pos V b) ∧ (a = b ↔ pos V a = pos V b) := by
  obtain ⟨j, hj, rfl⟩ := List.getElem_of_mem ha
  obtain ⟨k, hk, rfl⟩ := List.getElem_of_mem hb
  rw [pos_get hV hj, pos_get hV hk]
  have hp := List.pairwise_iff_getElem.1 hV
  by_cases h1 : j < k
  · have := hp j k hj hk h1; omega
  · by_cases h2 : k < j
    · have := hp k j hk hj h2; omega
    · obtain rfl : j = k := by omega
      simp
theorem tell_at (hV : V.Pairwise (· < ·)) {x : List Int} (h : ∀ a ∈ x, a ∈ V) : atP V (tellT V x) = x := by
  unfold atP tellT
  rw [List.map_map]
  exact Eq.trans (List.map_congr_left fun a ha => (pos_in hV (h a ha)).2.2) (List.map_id x)
theorem at_tell (hV : V.Pairwise (· < ·)) {t : List Int} (h : ∀ p ∈ t, 0 ≤ p ∧ p < V.length) : tellT V (atP V t) = t := by
  unfold atP tellT
  rw [List.map_map]
  exact Eq.trans (List.map_congr_left fun p hp => (pos_at hV (h p hp).1 (h p hp).2).1) (List.map_id t)
theorem tell_ok (hV : V.Pairwise (· < ·)) {x : List Int} : (!hasI (tellT V x) (-1)) = true ↔ ∀ a ∈ x, a ∈ V := by
  rw [Bool.not_eq_true', hasI_no]
  unfold tellT
  rw [List.mem_map]
  constructor
  · intro h a ha
    by_cases hin : a ∈ V
    · exact hin
    · exact absurd ⟨a, ha, pos_no hin⟩ h
  · rintro h ⟨a, ha, he⟩
    have := (pos_in hV (h a ha)).1
    unfold pos at this
    omega
theorem tell_val (hV : V.Pairwise (· < ·)) {x : List Int} (h : ∀ a ∈ x, a ∈ V) : ∀ p ∈ tellT V x, 0 ≤ p ∧ p < (V.length : Int) := by
  intro p hp
  unfold tellT at hp
  obtain ⟨a, ha, rfl⟩ := List.mem_map.1 hp
  exact ⟨(pos_in hV (h a ha)).1, (pos_in hV (h a ha)).2.1⟩
end
theorem cmpL_map {f : Int → Int} : ∀ (x y : List Int), (∀ a ∈ x, ∀ b ∈ y, (a < b ↔ f a < f b) ∧ (a = b ↔ f a = f b)) → cmpL (x.map f) (y.map f) = cmpL x y
  | [], [], _ => rfl
  | [], _ :: _, _ => rfl
  | _ :: _, [], _ => rfl
  | a :: xs, b :: ys, h => by
    obtain ⟨h1, h2⟩ := h a List.mem_cons_self b List.mem_cons_self
    have ih := cmpL_map xs ys fun a ha b hb => h a (List.mem_cons_of_mem _ ha) b (List.mem_cons_of_mem _ hb)
    simp only [List.map_cons, cmpL]
    by_cases hab : a = b
    · rw [if_pos hab, if_pos (h2.1 hab), ih]
    · rw [if_neg hab, if_neg fun hh => hab (h2.2 hh)]
      unfold cmpI
      by_cases hlt : a < b
      · rw [if_pos hlt, if_pos (h1.1 hlt)]
      · rw [if_neg hlt, if_neg fun hh => hlt (h1.2 hh), if_pos (by omega), if_pos ?_]
        have k1 : ¬ f a < f b := fun hh => hlt (h1.2 hh)
        have k2 : ¬ f a = f b := fun hh => hab (h2.2 hh)
        omega
theorem inside_rel {V : List Int} (hV : V.Pairwise (· < ·)) (h0 : 1 ≤ V.length) (h4 : V.length ≤ 4) {s : Int} {r : RelD} (hr : SValidRel s r = true) : restrR V r = SrelOf (V.length : Int) r.1 fun t => hasT r (atP V t) := by
  obtain ⟨a1, a2, a3⟩ := valid_parts hr
  refine srel_of (by omega) (by omega) a2.1 a2.2 ?_ fun t => ?_
  · unfold Srt
    rw [List.pairwise_filter, List.pairwise_map]
    refine List.Pairwise.imp ?_ (valid_srt hr)
    intro x y hxy hx hy
    rw [tell_ok hV] at hx hy
    show cmpL (x.map (pos V)) (y.map (pos V)) < 0
    rw [cmpL_map x y fun a ha b hb => pos_lt hV (hx a ha) (hy b hb)]
    exact hxy
  · rw [List.mem_filter, List.mem_map]
    constructor
    · rintro ⟨⟨x, hx, rfl⟩, hn⟩
      rw [tell_ok hV] at hn
      exact ⟨vals_iff.2 ⟨by rw [tellT_length]; exact (vals_iff.1 (a3 x hx)).1, tell_val hV hn⟩, hasT_iff.2 (by rw [tell_at hV hn]; exact hx)⟩
    · rintro ⟨hv, hm⟩
      have hb := (vals_iff.1 hv).2
      refine ⟨⟨atP V t, hasT_iff.1 hm, at_tell hV hb⟩, ?_⟩
      rw [Bool.not_eq_true', hasI_no]
      intro hh
      have := hb _ hh
      omega
theorem inside_mem {V : List Int} (hV : V.Pairwise (· < ·)) (h0 : 1 ≤ V.length) (h4 : V.length ≤ 4) {s : Int} {r : RelD} (hr : SValidRel s r = true) {t : List Int} : t ∈ (restrR V r).2 ↔ vals (V.length : Int) t r.1 = true ∧ atP V t ∈ r.2 := by
  obtain ⟨a1, a2, a3⟩ := valid_parts hr
  rw [inside_rel hV h0 h4 hr, ← hasT_iff (r := r)]
  exact mem_allD (by omega) (by omega) a2.1 a2.2
theorem inside_valid {V : List Int} (hV : V.Pairwise (· < ·)) (h0 : 1 ≤ V.length) (h4 : V.length ≤ 4) {t : TmD} (ht : SValidTemplate t = true) : SValidTemplate (insideT V t) = true := by
  have h6 := valid_tm_len ht
  unfold SValidTemplate insideT
  rw [Bool.and_eq_true, Bool.and_eq_true, Bool.not_eq_true', List.any_eq_false, List.length_map, decide_eq_true_eq]
  refine ⟨inB_iff.2 ⟨by dsimp only; omega, by dsimp only; omega⟩, h6, fun r hr => ?_⟩
  obtain ⟨q, hq, rfl⟩ := List.mem_map.1 hr
  have hv := valid_tm ht q hq
  obtain ⟨a1, a2, a3⟩ := valid_parts hv
  rw [inside_rel hV h0 h4 hv, srel_valid (by omega) (by omega) a2.1 a2.2]
  simp
theorem inside_len (V : List Int) (t : TmD) : (insideT V t).2.length = t.2.length := by simp [insideT]
theorem inside_get (V : List Int) (t : TmD) {i : Nat} (hi : i < t.2.length) (hj : i < (insideT V t).2.length) : (insideT V t).2[i] = restrR V t.2[i] := by simp [insideT]

theorem nodup_le : ∀ {A B : List Int}, A.Nodup → (∀ a ∈ A, a ∈ B) → A.length ≤ B.length
  | [], _, _, _ => Nat.zero_le _
  | a :: A, B, hn, h => by
    obtain ⟨h1, h2⟩ := List.nodup_cons.1 hn
    have ha := h a List.mem_cons_self
    have ih := nodup_le (A := A) (B := B.erase a) h2 fun x hx => (List.mem_erase_of_ne (fun he : x = a => h1 (by rw [← he]; exact hx))).2 (h x (List.mem_cons_of_mem _ hx))
    rw [List.length_erase_of_mem ha] at ih
    have := List.length_pos_of_mem ha
    rw [List.length_cons]
    omega
theorem rise_nodup (l : List Int) : (riseL l).Nodup := (riseL_lt l).imp fun h => by omega

/-- what FnCores says of a template and its core -/
structure CoreFacts (t c : TmD) (V : List Int) : Prop where
  valid : SValidTemplate c = true
  down : SMapFault t c = 0
  up : SMapFault c t = 0
  lies : vals t.1 V c.1 = true
  map : MapP c t V
  back : ∃ g, vals c.1 g t.1 = true ∧ MapP t c g
  le : c.1 ≤ t.1
  own : (insideT (coreV c) c).1 = c.1
  ar : ∀ i (hi : i < t.2.length) (hj : i < c.2.length), t.2[i].1 = c.2[i].1
theorem core_facts {t : TmD} (ht : SValidTemplate t = true) : CoreFacts t (insideT (coreV t) t) (coreV t) := by
  obtain ⟨⟨e, ev, em, eV⟩, hmin⟩ := coreV_spec ht
  have hs := valid_tm_size ht
  have hle := coreAt_len t (count t.1 t.1)
  rw [show coreAt t (count t.1 t.1) = coreV t from rfl] at hle
  generalize coreV t = V at eV hmin hle
  have hV : V.Pairwise (· < ·) := eV ▸ riseL_lt e
  obtain ⟨e1, e2⟩ := vals_iff.1 ev
  have h0 : 1 ≤ V.length := by rw [eV]; exact rise_pos (by omega)
  have h4 : V.length ≤ 4 := by omega
  have hin : ∀ a ∈ V, 0 ≤ a ∧ a < t.1 := fun a ha => e2 a ((mem_riseL e a).1 (eV ▸ ha))
  have hee : ∀ a ∈ e, a ∈ V := fun a ha => by rw [eV]; exact (mem_riseL e a).2 ha
  have hc := inside_valid hV h0 h4 ht
  have hl := inside_len V t
  have har : ∀ i (hi : i < t.2.length) (hj : i < (insideT V t).2.length), t.2[i].1 = (insideT V t).2[i].1 := fun i hi hj => by rw [inside_get V t hi hj]; rfl
  have hmem : ∀ i (hi : i < t.2.length) (hj : i < (insideT V t).2.length) (x : List Int), x ∈ (insideT V t).2[i].2 ↔ vals (V.length : Int) x t.2[i].1 = true ∧ atP V x ∈ t.2[i].2 := fun i hi hj x => by
    rw [inside_get V t hi hj]
    exact inside_mem hV h0 h4 (valid_tm ht _ (List.getElem_mem hi))
  have hvV : vals t.1 V (V.length : Int) = true := vals_iff.2 ⟨rfl, hin⟩
  have hmV : MapP (insideT V t) t V := fun i hi hu x hx => ((hmem i hu hi x).1 hx).2
  have hvg : vals (V.length : Int) (tellT V e) t.1 = true := vals_iff.2 ⟨by rw [tellT_length]; exact e1, tell_val hV hee⟩
  have hmg : MapP t (insideT V t) (tellT V e) := by
    intro i hi hu x hx
    have hb := tm_at ht ev hi hx
    have hb2 := tm_at ht hvg hi hx
    have hx2 := tm_in ht hi hx
    refine (hmem i hi hu _).2 ⟨?_, ?_⟩
    · refine vals_iff.2 ⟨by rw [atP_length]; exact (vals_iff.1 hx2).1, atP_val (vals_iff.1 hvg).2 hb2⟩
    · rw [atP_atP hb2, tell_at hV hee]
      exact em i hi hi x hx
  refine ⟨hc, fault_ok ht hc hl.symm har, fault_ok hc ht hl fun i hi hj => (har i hj hi).symm, hvV, hmV, ⟨_, hvg, hmg⟩, by show (V.length : Int) ≤ t.1; omega, ?_, har⟩
  obtain ⟨⟨d, dv, dm, dV⟩, -⟩ := coreV_spec hc
  have hle2 := coreAt_len (insideT V t) (count (insideT V t).1 (insideT V t).1)
  rw [show coreAt (insideT V t) (count (insideT V t).1 (insideT V t).1) = coreV (insideT V t) from rfl] at hle2
  have hsz : (insideT V t).1 = (V.length : Int) := rfl
  have d2 := (vals_iff.1 dv).2
  have hdg : vals (V.length : Int) (atP d (tellT V e)) t.1 = true := vals_comp hvg dv
  have hge := hmin (atP V (atP d (tellT V e))) (vals_comp hdg hvV) (map_comp ht hdg hl.symm (map_comp ht hvg hl.symm hmg dm) hmV)
  have hsub := nodup_le (A := riseL (atP V (atP d (tellT V e)))) (B := atP V (riseL d)) (rise_nodup _) (fun a ha => by
    rw [mem_riseL] at ha
    unfold atP at ha ⊢
    obtain ⟨p, hp, rfl⟩ := List.mem_map.1 ha
    obtain ⟨q, hq, rfl⟩ := List.mem_map.1 hp
    refine List.mem_map.2 ⟨_, (mem_riseL d _).2 ?_, rfl⟩
    have hqb := (vals_iff.1 hvg).2 q hq
    have hdl := (vals_iff.1 dv).1
    rw [hsz] at hdl
    have hk : q.toNat < d.length := by omega
    rw [List.getD_eq_getElem?_getD, List.getElem?_eq_getElem hk]
    exact List.getElem_mem hk)
  rw [atP_length, ← dV] at hsub
  show ((coreV (insideT V t)).length : Int) = (V.length : Int)
  rw [hsz] at hle2
  omega
theorem own_core {t c : TmD} {V : List Int} (h : CoreFacts t c V) : SCoreOf c = (insideT (coreV c) c, coreV c, 0) := core_0 h.valid
/-- a first map down to the core -/
theorem down_ok {t c : TmD} {V : List Int} (h : CoreFacts t c V) : ∃ f, SFirstMap t c = (f, 0) ∧ vals c.1 f t.1 = true ∧ MapP t c f := by
  obtain ⟨g, hv, hm⟩ := h.back
  rcases fmap_cases h.down with h1 | ⟨_, h1⟩
  · exact h1
  · exact absurd hm (h1 g hv)
/-- the same arities as the template's -/
theorem core_to {t c u : TmD} {V : List Int} (h : CoreFacts t c V) (hu : SMapFault t u = 0) (har : ∀ i (hi : i < t.2.length) (hj : i < u.2.length), t.2[i].1 = u.2[i].1) : SMapFault c u = 0 := by
  obtain ⟨h1, h2, h3⟩ := fault_zero hu
  obtain ⟨_, _, h4⟩ := fault_zero h.down
  exact fault_ok h.valid h2 (by omega) fun i hi hj => by rw [← h.ar i (by omega) hi, har i (by omega) hj]
theorem no_map {t c u : TmD} {V : List Int} (h : CoreFacts t c V) (hu : SMapFault t u = 0) (hn : ∀ f, vals u.1 f c.1 = true → ¬ MapP c u f) : SFirstMap t u = ([], 6) := by
  rcases fmap_cases hu with ⟨f, _, hv, hm⟩ | ⟨h1, _⟩
  · obtain ⟨_, _, h4⟩ := fault_zero h.up
    exact absurd (map_comp h.valid h.lies h4 h.map hm) (hn _ (vals_comp h.lies hv))
  · exact h1
theorem whole_ok {t c u : TmD} {V f g : List Int} (h : CoreFacts t c V) (hu : SMapFault t u = 0) (hf : vals c.1 f t.1 = true) (mf : MapP t c f) (hg : vals u.1 g c.1 = true) (mg : MapP c u g) : SIsMapOf t u (atP g f) = (true, 0) := by
  obtain ⟨ht, _, h4⟩ := fault_zero h.down
  exact ismap_ok hu (vals_comp hf hg) (map_comp ht hf h4 mf mg)
end Go.Proofs.YtajkepdfemdagaaGreatDoor
