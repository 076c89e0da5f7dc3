
/- FirstMap: the program's and the reference's give one function's answers. -/
import Derived.Test.YtemhmpnnccmlmaaMaps
import Derived.Test.YtemhmpnnccmlmaaIRes
namespace Go.Proofs.Ytemhmpnnccmlmaa
open Go.RowKit
set_option linter.unusedVariables false

def mapK (t u : TmD) (k : Nat) : Bool := isMapS t u (digs u.1 t.1.toNat k)
def foundMap (t u : TmD) : Option Nat := (List.range (count u.1 t.1)).find? (mapK t u)
def SFirstMap (t u : TmD) : List Int × Int := if SMapFault t u = 0 then match foundMap t u with | some k => (digs u.1 t.1.toNat k, 0) | none => ([], 6) else ([], SMapFault t u)
theorem fmap_fault {t u : TmD} (h : ¬ SMapFault t u = 0) : SFirstMap t u = ([], SMapFault t u) := by unfold SFirstMap; rw [if_neg h]
theorem fmap_none {t u : TmD} (h : SMapFault t u = 0) (h2 : foundMap t u = none) : SFirstMap t u = ([], 6) := by unfold SFirstMap; rw [if_pos h, h2]
theorem fmap_some {t u : TmD} {k : Nat} (h : SMapFault t u = 0) (h2 : foundMap t u = some k) : SFirstMap t u = (digs u.1 t.1.toNat k, 0) := by unfold SFirstMap; rw [if_pos h, h2]
theorem map_vals {t u : TmD} (ht : SValidTemplate t = true) (hu : SValidTemplate u = true) (k : Nat) : vals u.1 (digs u.1 t.1.toNat k) t.1 = true := by
  have h1 := valid_tm_size ht
  have h2 := valid_tm_size hu
  exact vals_iff.2 ⟨by rw [digs_length]; omega, fun a ha => digs_val u.1 h2.1 _ k (by omega) a ha⟩

set_option maxHeartbeats 2000000 in
set_option maxRecDepth 100000 in
theorem implFirstMap_any (t : TmD) (v : Value) (u : TmD) (vu : Value) (w : World) (hr : RdTm w v t) (hs : RdTm w vu u) (_ : szTm t ≤ 1048576) (hz : szTm u ≤ 1048576) :
    Calls Try.prog 52 #[v, vu] w (IRes (SFirstMap t u) w) := by
  obtain ⟨tv, rfl, hr'⟩ := hr
  obtain ⟨ta, tc, rfl⟩ := hr'.form
  have hr : RdTm w _ t := ⟨_, rfl, hr'⟩
  obtain ⟨tu, rfl, hs'⟩ := hs
  obtain ⟨ua, uc, rfl⟩ := hs'.form
  have hs : RdTm w _ u := ⟨_, rfl, hs'⟩
  have hE1 : Ext w ((w.alloc (.cells #[.int .i64 t.1, .slice ta t.2.length tc] 64)).alloc (.cells #[.int .i64 u.1, .slice ua u.2.length uc] 64)) := ((Ext.refl' w).alloc (Nat.le_refl _) _).alloc (by simp) _
  by_cases h0 : SMapFault t u = 0
  · skip
    obtain ⟨ht, hu, hl⟩ := fault_zero h0
    have htb := valid_tm_size ht
    have hub := valid_tm_size hu
    have hb : (SMapFault t u != 0) = false := by simp [h0]
    have HL := Lib.hid hl
    have H0 := Lib.hid h0
    have HN := Lib.hid (count_eq u.1 t.1 hub.1 hub.2 htb.1 htb.2)
    have hN3 : count u.1 t.1 ≤ 256 := by have := HN.out; have := powW_small u.1 t.1 hub.1 hub.2 htb.1 htb.2; omega
    clear hl h0
    go_enter Try.func52, Try.ntmps52
    go_wp2_with fail
    refine (mapFault_any t _ u _ _ (hr.ext hE1) (hs.ext hE1)).mono ?_
    rintro e w1 ⟨rfl, hE⟩
    have b0 := hE.cell (p := ⟨w.heap.size, 0, none⟩) (v := .int .i64 t.1) (by simp [go_sem])
    have b1 := hE.cell (p := ⟨w.heap.size, 1, none⟩) (v := .slice ta t.2.length tc) (by simp [go_sem])
    have c0 := hE.cell (p := ⟨w.heap.size + 1, 0, none⟩) (v := .int .i64 u.1) (by simp [go_sem])
    have c1 := hE.cell (p := ⟨w.heap.size + 1, 1, none⟩) (v := .slice ua u.2.length uc) (by simp [go_sem])
    replace hE := hE1.tr hE
    go_wp2_with fail
    refine (power_any _ _ _ (by omega)).mono ?_
    rintro e w2 ⟨rfl, rfl⟩
    rw [← HN.out]
    go_wp2_with fail
    go_loopw [20] (fun i wr => ∃ k : Nat, k ≤ count u.1 t.1 ∧ i = .int .i64 k ∧ Ext w1 wr ∧ Hid (∀ j, j < k → mapK t u j = false)) (fun i _ => count u.1 t.1 - (intOf i).toNat)
    case atStart => exact ⟨0, by omega, rfl, Ext.refl' _, Lib.hid fun j hj => by omega⟩
    case round =>
      obtain ⟨k, hk, rfl, hE2, HT⟩ := hrel
      have hEE := hE.tr hE2
      replace b0 := hE2.cell b0
      replace b1 := hE2.cell b1
      replace c0 := hE2.cell c0
      replace c1 := hE2.cell c1
      by_cases hkl : k < count u.1 t.1
      · go_wp2_with fail
        refine (listOf_any u.1 t.1 (k : Int) _ (by omega) (by omega) (by omega) (by omega) (by omega) (by omega)).mono ?_
        rintro e w3 ⟨x, fx, rfl, hE3, hx, hfx⟩
        obtain ⟨xa, xc, rfl⟩ := hx.form
        replace b0 := hE3.cell b0
        replace b1 := hE3.cell b1
        replace c0 := hE3.cell c0
        replace c1 := hE3.cell c1
        have hEE3 := hEE.tr hE3
        have hsz := hEE.size
        cases hm : mapK t u k with
        | true =>
          have HS := Lib.hid (fmap_some H0.out (find_here hkl HT.out hm))
          have hlen : (digs u.1 t.1.toNat k).length ≤ 1048576 := by rw [digs_length]; omega
          have HLE := Lib.hid hlen
          clear hlen
          go_wp2_with fail
          refine (isMap_any t _ u _ _ _ _ (hr.ext hEE3) (hs.ext hEE3) hx.rd ht hu HL.out (map_vals ht hu k) hz).mono ?_
          rintro e w4 ⟨rfl, hE4⟩
          rw [show isMapS t u (digs u.1 t.1.toNat k) = true from hm]
          go_wp2_with fail
          go_ret2
          rw [HS.out]
          exact IRes.of rfl (hEE3.tr hE4) (hx.ext hE4) (fun g hg => Nat.le_trans hsz (hfx g hg)) HLE.out
        | false =>
          have HT2 := Lib.hid (show ∀ j, j < k + 1 → mapK t u j = false from fun j hj => by
            rcases Nat.lt_or_ge j k with h | h
            · exact HT.out j h
            · rw [show j = k by omega]; exact hm)
          go_wp2_with fail
          refine (isMap_any t _ u _ _ _ _ (hr.ext hEE3) (hs.ext hEE3) hx.rd ht hu HL.out (map_vals ht hu k) hz).mono ?_
          rintro e w4 ⟨rfl, hE4⟩
          rw [show isMapS t u (digs u.1 t.1.toNat k) = false from hm]
          clear hm
          go_wp2_with fail
          go_roundw
          case rel => exact ⟨k + 1, by omega, by go_num, hE2.tr (hE3.tr hE4), HT2⟩
          case measure => simp [intOf]; omega
      · have HS := Lib.hid (fmap_none H0.out (find_none (p := mapK t u) fun j hj => HT.out j (by omega)))
        go_wp2_with fail
        go_ret2
        rw [HS.out]
        exact IRes.no hEE
  · have hb : (SMapFault t u != 0) = true := by simp [h0]
    have HS := Lib.hid (fmap_fault h0)
    clear h0
    go_enter Try.func52, Try.ntmps52
    go_wp2_with fail
    refine (mapFault_any t _ u _ _ (hr.ext hE1) (hs.ext hE1)).mono ?_
    rintro e w1 ⟨rfl, hE⟩
    have b0 := hE.cell (p := ⟨w.heap.size, 0, none⟩) (v := .int .i64 t.1) (by simp [go_sem])
    have b1 := hE.cell (p := ⟨w.heap.size, 1, none⟩) (v := .slice ta t.2.length tc) (by simp [go_sem])
    have c0 := hE.cell (p := ⟨w.heap.size + 1, 0, none⟩) (v := .int .i64 u.1) (by simp [go_sem])
    have c1 := hE.cell (p := ⟨w.heap.size + 1, 1, none⟩) (v := .slice ua u.2.length uc) (by simp [go_sem])
    replace hE := hE1.tr hE
    go_wp2_with fail
    go_ret2
    rw [HS.out]
    exact IRes.no hE
set_option maxHeartbeats 2000000 in
set_option maxRecDepth 100000 in
theorem specFirstMap_any (t : TmD) (v : Value) (u : TmD) (vu : Value) (w : World) (hr : RdTm w v t) (hs : RdTm w vu u) (_ : szTm t ≤ 1048576) (hz : szTm u ≤ 1048576) :
    Calls Try.prog 51 #[v, vu] w (IRes (SFirstMap t u) w) := by
  obtain ⟨tv, rfl, hr'⟩ := hr
  obtain ⟨ta, tc, rfl⟩ := hr'.form
  have hr : RdTm w _ t := ⟨_, rfl, hr'⟩
  obtain ⟨tu, rfl, hs'⟩ := hs
  obtain ⟨ua, uc, rfl⟩ := hs'.form
  have hs : RdTm w _ u := ⟨_, rfl, hs'⟩
  have hE1 : Ext w ((w.alloc (.cells #[.int .i64 t.1, .slice ta t.2.length tc] 64)).alloc (.cells #[.int .i64 u.1, .slice ua u.2.length uc] 64)) := ((Ext.refl' w).alloc (Nat.le_refl _) _).alloc (by simp) _
  have hp : PtTm ((w.alloc (.cells #[.int .i64 t.1, .slice ta t.2.length tc] 64)).alloc (.cells #[.int .i64 u.1, .slice ua u.2.length uc] 64)) (.pointer (some ⟨w.heap.size, 0, none⟩)) t := ⟨_, _, _, rfl, by simp [go_sem], by simp [go_sem], hr'.ext hE1⟩
  have hq : PtTm ((w.alloc (.cells #[.int .i64 t.1, .slice ta t.2.length tc] 64)).alloc (.cells #[.int .i64 u.1, .slice ua u.2.length uc] 64)) (.pointer (some ⟨w.heap.size + 1, 0, none⟩)) u := ⟨_, _, _, rfl, by simp [go_sem], by simp [go_sem], hs'.ext hE1⟩
  by_cases h0 : SMapFault t u = 0
  · skip
    obtain ⟨ht, hu, hl⟩ := fault_zero h0
    have htb := valid_tm_size ht
    have hub := valid_tm_size hu
    have hb : (SMapFault t u != 0) = false := by simp [h0]
    have HL := Lib.hid hl
    have H0 := Lib.hid h0
    have HN := Lib.hid (count_eq u.1 t.1 hub.1 hub.2 htb.1 htb.2)
    have hN3 : count u.1 t.1 ≤ 256 := by have := HN.out; have := powW_small u.1 t.1 hub.1 hub.2 htb.1 htb.2; omega
    clear hl h0
    go_enter Try.func51, Try.ntmps51
    go_wp2_with fail
    refine (l01Arities_any t _ u _ _ hp hq).mono ?_
    rintro e w1 ⟨rfl, hE⟩
    have hp1 := hp.ext hE
    have hq1 := hq.ext hE
    have b0 := hE.cell (p := ⟨w.heap.size, 0, none⟩) (v := .int .i64 t.1) (by simp [go_sem])
    have b1 := hE.cell (p := ⟨w.heap.size, 1, none⟩) (v := .slice ta t.2.length tc) (by simp [go_sem])
    have c0 := hE.cell (p := ⟨w.heap.size + 1, 0, none⟩) (v := .int .i64 u.1) (by simp [go_sem])
    have c1 := hE.cell (p := ⟨w.heap.size + 1, 1, none⟩) (v := .slice ua u.2.length uc) (by simp [go_sem])
    replace hE := hE1.tr hE
    go_wp2_with fail
    go_loopw [7] (fun i wr => ∃ k : Nat, k ≤ count u.1 t.1 ∧ i = .int .i64 k ∧ Ext w1 wr ∧ Hid (∀ j, j < k → mapK t u j = false)) (fun i _ => count u.1 t.1 - (intOf i).toNat)
    case atStart => exact ⟨0, by omega, rfl, Ext.refl' _, Lib.hid fun j hj => by omega⟩
    case round =>
      obtain ⟨k, hk, rfl, hE2, HT⟩ := hrel
      have hEE := hE.tr hE2
      replace b0 := hE2.cell b0
      replace b1 := hE2.cell b1
      replace c0 := hE2.cell c0
      replace c1 := hE2.cell c1
      by_cases hkl : k < count u.1 t.1
      · go_wp2_with fail
        refine (l01Power_any _ _ _ (by omega) (by omega)).mono ?_
        rintro e w' ⟨rfl, rfl⟩
        rw [← HN.out]
        go_wp2_with fail
        refine (l01Digits_any u.1 t.1 (k : Int) _ (by omega) (by omega) (by omega) (by omega) (by omega) (by omega)).mono ?_
        rintro e w3 ⟨x, fx, rfl, hE3, hx, hfx⟩
        obtain ⟨xa, xc, rfl⟩ := hx.form
        have hEE3 := hEE.tr hE3
        have hE23 := hE2.tr hE3
        have hsz := hEE.size
        cases hm : mapK t u k with
        | true =>
          have HS := Lib.hid (fmap_some H0.out (find_here hkl HT.out hm))
          have hlen : (digs u.1 t.1.toNat k).length ≤ 1048576 := by rw [digs_length]; omega
          have HLE := Lib.hid hlen
          clear hlen
          go_wp2_with fail
          refine (l01Maps_any t _ u _ _ _ _ (hp1.ext hE23) (hq1.ext hE23) hx.rd ht HL.out (map_vals ht hu k)).mono ?_
          rintro e w4 ⟨rfl, hE4⟩
          rw [show isMapS t u (digs u.1 t.1.toNat k) = true from hm]
          go_wp2_with fail
          go_ret2
          rw [HS.out]
          exact IRes.of rfl (hEE3.tr hE4) (hx.ext hE4) (fun g hg => Nat.le_trans hsz (hfx g hg)) HLE.out
        | false =>
          have HT2 := Lib.hid (show ∀ j, j < k + 1 → mapK t u j = false from fun j hj => by
            rcases Nat.lt_or_ge j k with h | h
            · exact HT.out j h
            · rw [show j = k by omega]; exact hm)
          go_wp2_with fail
          refine (l01Maps_any t _ u _ _ _ _ (hp1.ext hE23) (hq1.ext hE23) hx.rd ht HL.out (map_vals ht hu k)).mono ?_
          rintro e w4 ⟨rfl, hE4⟩
          rw [show isMapS t u (digs u.1 t.1.toNat k) = false from hm]
          clear hm
          go_wp2_with fail
          go_roundw
          case rel => exact ⟨k + 1, by omega, by go_num, hE23.tr hE4, HT2⟩
          case measure => simp [intOf]; omega
      · have HS := Lib.hid (fmap_none H0.out (find_none (p := mapK t u) fun j hj => HT.out j (by omega)))
        have hsz := hEE.size
        have hA : Ext wr (wr.alloc (.cells #[] 2)) := (Ext.refl' wr).alloc (Nat.le_refl _) _
        have hmd : (wr.alloc (.cells #[] 2)).ownsRow 0 2 1 (.slice (some ⟨wr.heap.size, 0, none⟩) 0 0) 0 [] := World.ownsRow_made wr #[] 0 (Nat.zero_le _) (by decide) rfl
        go_wp2_with fail
        refine (l01Power_any _ _ _ (by omega) (by omega)).mono ?_
        rintro e w' ⟨rfl, rfl⟩
        rw [← HN.out]
        go_wp2_with fail
        go_ret2
        rw [HS.out]
        exact IRes.no2 (hEE.tr hA) hsz hmd
  · have hb : (SMapFault t u != 0) = true := by simp [h0]
    have HS := Lib.hid (fmap_fault h0)
    clear h0
    go_enter Try.func51, Try.ntmps51
    go_wp2_with fail
    refine (l01Arities_any t _ u _ _ hp hq).mono ?_
    rintro e w1 ⟨rfl, hE⟩
    have hp1 := hp.ext hE
    have hq1 := hq.ext hE
    have b0 := hE.cell (p := ⟨w.heap.size, 0, none⟩) (v := .int .i64 t.1) (by simp [go_sem])
    have b1 := hE.cell (p := ⟨w.heap.size, 1, none⟩) (v := .slice ta t.2.length tc) (by simp [go_sem])
    have c0 := hE.cell (p := ⟨w.heap.size + 1, 0, none⟩) (v := .int .i64 u.1) (by simp [go_sem])
    have c1 := hE.cell (p := ⟨w.heap.size + 1, 1, none⟩) (v := .slice ua u.2.length uc) (by simp [go_sem])
    replace hE := hE1.tr hE
    have hsz := hE.size
    have hA : Ext w1 (w1.alloc (.cells #[] 2)) := (Ext.refl' w1).alloc (Nat.le_refl _) _
    have hmd : (w1.alloc (.cells #[] 2)).ownsRow 0 2 1 (.slice (some ⟨w1.heap.size, 0, none⟩) 0 0) 0 [] := World.ownsRow_made w1 #[] 0 (Nat.zero_le _) (by decide) rfl
    go_wp2_with fail
    go_ret2
    rw [HS.out]
    exact IRes.no2 (hE.tr hA) hsz hmd
end Go.Proofs.Ytemhmpnnccmlmaa
