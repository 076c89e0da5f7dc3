
/- Kinds of operations: l02Kind; IsOfKind and KindsOf of both. -/
import Derived.Test.YtefnmfdmnoednaaKindV
import Derived.Test.YtefnmfdmnoednaaKindJ
namespace Go.Proofs.Ytefnmfdmnoednaa
open Go.RowKit
set_option linter.unusedVariables false

set_option maxHeartbeats 4000000 in
set_option maxRecDepth 100000 in
theorem l02Kind_any (s : Int) (f : Int × List Int) (k : Int) (p : Value) (w : World) (hp : PtOp w p f) (hf : SValidOp s f = true) (h1 : 1 ≤ k) (h10 : k ≤ 10) :
    Calls Try.prog 81 #[.int .i64 s, p, .int .i64 k] w fun e w' => e = .returned (.bool (SKind s f k)) ∧ Ext w w' := by
  obtain ⟨hv1, hv2, hv3, _⟩ := valid_iff.1 hf
  have hp0 := hp
  obtain ⟨b0, o0, tv, rfl, c0, c1, hrr⟩ := hp
  by_cases hk1 : k = 1
  · subst hk1
    have HK := Lib.hid (show SKind s f 1 = kProj s f from rfl)
    go_enter Try.func81, Try.ntmps81
    go_wp2_with fail
    refine (l02FlatP_any s f _ _ hp0 hf).mono ?_
    rintro e w2 ⟨rfl, hE⟩
    rw [← HK.out]
    go_wp2_with fail
    go_ret
    exact ⟨rfl, hE⟩
  by_cases hk2 : k = 2
  · subst hk2
    have HK := Lib.hid (show SKind s f 2 = kConst f from rfl)
    go_enter Try.func81, Try.ntmps81
    go_wp2_with fail
    refine (l02FlatC_any s f _ _ hp0 hf).mono ?_
    rintro e w2 ⟨rfl, hE⟩
    rw [← HK.out]
    go_wp2_with fail
    go_ret
    exact ⟨rfl, hE⟩
  by_cases hk3 : k = 3
  · subst hk3
    have HK := Lib.hid (show SKind s f 3 = kIdem s f from rfl)
    go_enter Try.func81, Try.ntmps81
    go_wp2_with fail
    refine (l02Idempotent_any s f _ _ hp0 hf).mono ?_
    rintro e w2 ⟨rfl, hE⟩
    rw [← HK.out]
    go_wp2_with fail
    go_ret
    exact ⟨rfl, hE⟩
  by_cases hk4 : k = 4
  · subst hk4
    have HK := Lib.hid (show SKind s f 4 = kCons s f from rfl)
    go_enter Try.func81, Try.ntmps81
    go_wp2_with fail
    refine (l02Conservative_any s f _ _ hp0 hf).mono ?_
    rintro e w2 ⟨rfl, hE⟩
    rw [← HK.out]
    go_wp2_with fail
    go_ret
    exact ⟨rfl, hE⟩
  by_cases hk7 : k = 7
  · subst hk7
    have HK := Lib.hid (show SKind s f 7 = kThird s f true false from (kTer_maj hv1.1 hv1.2 f).symm)
    go_enter Try.func81, Try.ntmps81
    go_wp2_with fail
    refine (l02Thirds_any s f _ _ _ _ hp0 hf).mono ?_
    rintro e w2 ⟨rfl, hE⟩
    rw [← HK.out]
    go_wp2_with fail
    go_ret
    exact ⟨rfl, hE⟩
  by_cases hk8 : k = 8
  · subst hk8
    have HK := Lib.hid (show SKind s f 8 = kThird s f true true from (kTer_min hv1.1 hv1.2 f).symm)
    go_enter Try.func81, Try.ntmps81
    go_wp2_with fail
    refine (l02Thirds_any s f _ _ _ _ hp0 hf).mono ?_
    rintro e w2 ⟨rfl, hE⟩
    rw [← HK.out]
    go_wp2_with fail
    go_ret
    exact ⟨rfl, hE⟩
  by_cases hk9 : k = 9
  · subst hk9
    have HK := Lib.hid (show SKind s f 9 = kThird s f false true from (kTer_mal hv1.1 hv1.2 f).symm)
    go_enter Try.func81, Try.ntmps81
    go_wp2_with fail
    refine (l02Thirds_any s f _ _ _ _ hp0 hf).mono ?_
    rintro e w2 ⟨rfl, hE⟩
    rw [← HK.out]
    go_wp2_with fail
    go_ret
    exact ⟨rfl, hE⟩
  by_cases hk10 : k = 10
  · subst hk10
    have HK := Lib.hid (show SKind s f 10 = kSym s f from rfl)
    go_enter Try.func81, Try.ntmps81
    go_wp2_with fail
    refine (l02Symmetric_any s f _ _ hp0 hf).mono ?_
    rintro e w2 ⟨rfl, hE⟩
    rw [← HK.out]
    go_wp2_with fail
    go_ret
    exact ⟨rfl, hE⟩
  by_cases h2 : f.1 = 2
  · have hb : (f.1 == 2) = true := by simp [h2]
    have H2 := Lib.hid h2
    have HC := Lib.hid (show kComm s f = kSym s f from by unfold kComm; rw [decide_eq_true h2, Bool.true_and])
    clear h2
    by_cases hk5 : k = 5
    · subst hk5
      have HK := Lib.hid (show SKind s f 5 = kSym s f from HC.out)
      go_enter Try.func81, Try.ntmps81
      go_wp2_with fail
      refine (l02Symmetric_any s f _ _ hp0 hf).mono ?_
      rintro e w2 ⟨rfl, hE⟩
      rw [← HK.out]
      go_wp2_with fail
      go_ret
      exact ⟨rfl, hE⟩
    obtain rfl : k = 6 := by omega
    cases hs : kSym s f with
    | false =>
      have HK := Lib.hid (show SKind s f 6 = false from by show (kIdem s f && kComm s f && kAss s f) = false; rw [HC.out, hs]; simp)
      go_enter Try.func81, Try.ntmps81
      go_wp2_with fail
      refine (l02Symmetric_any s f _ _ hp0 hf).mono ?_
      rintro e w1 ⟨rfl, hE⟩
      rw [hs]
      clear hs
      go_wp2_with fail
      go_ret
      exact ⟨ret_bool HK.out.symm, hE⟩
    | true =>
      cases hi : kIdem s f with
      | false =>
        have HK := Lib.hid (show SKind s f 6 = false from by show (kIdem s f && kComm s f && kAss s f) = false; rw [hi]; rfl)
        go_enter Try.func81, Try.ntmps81
        go_wp2_with fail
        refine (l02Symmetric_any s f _ _ hp0 hf).mono ?_
        rintro e w1 ⟨rfl, hE⟩
        rw [hs]
        clear hs
        go_wp2_with fail
        refine (l02Idempotent_any s f _ _ (hp0.ext hE) hf).mono ?_
        rintro e w2 ⟨rfl, hE2⟩
        rw [hi]
        replace hE2 := hE.tr hE2
        clear hi
        go_wp2_with fail
        go_ret
        exact ⟨ret_bool HK.out.symm, hE2⟩
      | true =>
        have HK := Lib.hid (show SKind s f 6 = kAss s f from by show (kIdem s f && kComm s f && kAss s f) = _; rw [hi, HC.out, hs]; rfl)
        go_enter Try.func81, Try.ntmps81
        go_wp2_with fail
        refine (l02Symmetric_any s f _ _ hp0 hf).mono ?_
        rintro e w1 ⟨rfl, hE⟩
        rw [hs]
        clear hs
        go_wp2_with fail
        refine (l02Idempotent_any s f _ _ (hp0.ext hE) hf).mono ?_
        rintro e w2 ⟨rfl, hE2⟩
        rw [hi]
        replace hE2 := hE.tr hE2
        clear hi
        go_wp2_with fail
        refine (l02Associative_any s f _ _ (hp0.ext hE2) hf H2.out).mono ?_
        rintro e w3 ⟨rfl, hE3⟩
        rw [← HK.out]
        go_wp2_with fail
        go_ret
        exact ⟨rfl, hE2.tr hE3⟩
  · have hb : (f.1 == 2) = false := by simp [h2]
    have HK5 := Lib.hid (show SKind s f 5 = false from by show kComm s f = false; unfold kComm; rw [decide_eq_false h2]; rfl)
    have HK6 := Lib.hid (show SKind s f 6 = false from by show (kIdem s f && kComm s f && kAss s f) = false; unfold kComm; rw [decide_eq_false h2]; simp)
    clear h2
    by_cases hk5 : k = 5
    · subst hk5
      go_enter Try.func81, Try.ntmps81
      go_wp2_with fail
      go_ret
      exact ⟨ret_bool HK5.out.symm, Ext.refl' _⟩
    · obtain rfl : k = 6 := by omega
      go_enter Try.func81, Try.ntmps81
      go_wp2_with fail
      go_ret
      exact ⟨ret_bool HK6.out.symm, Ext.refl' _⟩
set_option maxHeartbeats 1000000 in
set_option maxRecDepth 100000 in
theorem specIsOfKind_any (s : Int) (f : Int × List Int) (v : Value) (k : Int) (w : World) (hr : RdOp w v f) (_ : -9223372036854775808 ≤ s) (_ : s ≤ 9223372036854775807) (_ : -9223372036854775808 ≤ k) (_ : k ≤ 9223372036854775807) (_ : szOp f ≤ 1048576) :
    Calls Try.prog 29 #[.int .i64 s, v, .int .i64 k] w fun e w' => e = .returned (.tuple #[.bool (SIsOfKind s f k).1, .int .i64 (SIsOfKind s f k).2]) ∧ Ext w w' := by
  obtain ⟨tv, rfl, hr⟩ := hr
  obtain ⟨ta, tc, rfl⟩ := hr.form
  have hE1 : Ext w (w.alloc (.cells #[.int .i64 f.1, .slice ta f.2.length tc] 49)) := (Ext.refl' w).alloc (Nat.le_refl _) _
  have hp : PtOp (w.alloc (.cells #[.int .i64 f.1, .slice ta f.2.length tc] 49)) (.pointer (some ⟨w.heap.size, 0, none⟩)) f := ⟨_, _, _, rfl, by simp [go_sem], by simp [go_sem], hr.ext hE1⟩
  cases h1 : SValidOp s f with
  | false =>
    rw [sk_1 h1]
    go_enter Try.func29, Try.ntmps29
    go_wp2_with fail
    refine (l02Ok_any s f _ _ hp).mono ?_
    rintro e w1 ⟨rfl, hQ⟩
    rw [h1]
    have hE := hE1.tr hQ.ext
    replace hp := hp.ext hQ.ext
    go_wp2_with fail
    go_ret2
    exact ⟨rfl, hE⟩
  | true =>
    cases h2 : inB k 1 10 with
    | false =>
      rw [sk_2 h1 h2]
      go_enter Try.func29, Try.ntmps29
      go_wp2_with fail
      refine (l02Ok_any s f _ _ hp).mono ?_
      rintro e w1 ⟨rfl, hQ⟩
      rw [h1]
      have hE := hE1.tr hQ.ext
      replace hp := hp.ext hQ.ext
      go_wp2_with fail
      refine (l00In_any k 1 10 _).mono ?_
      rintro e w2 ⟨rfl, rfl⟩
      rw [h2]
      go_wp2_with fail
      go_ret2
      exact ⟨rfl, hE⟩
    | true =>
      rw [sk_0 h1 h2]
      have hb := inB_iff.1 h2
      go_enter Try.func29, Try.ntmps29
      go_wp2_with fail
      refine (l02Ok_any s f _ _ hp).mono ?_
      rintro e w1 ⟨rfl, hQ⟩
      rw [h1]
      have hE := hE1.tr hQ.ext
      replace hp := hp.ext hQ.ext
      go_wp2_with fail
      refine (l00In_any k 1 10 _).mono ?_
      rintro e w2 ⟨rfl, rfl⟩
      rw [h2]
      have H1 := Lib.hid h1
      clear h1 h2
      go_wp2_with fail
      refine (l02Kind_any s f k _ _ hp H1.out hb.1 hb.2).mono ?_
      rintro e w3 ⟨rfl, hE3⟩
      go_wp2_with fail
      go_ret2
      exact ⟨rfl, hE.tr hE3⟩
theorem ks_1 {s : Int} {f : Int × List Int} (h : SValidOp s f = false) : SKindsOf s f = ([], 1) := by unfold SKindsOf; rw [h]; rfl
theorem ks_0 {s : Int} {f : Int × List Int} (h : SValidOp s f = true) : SKindsOf s f = (kindList s f 10, 0) := by unfold SKindsOf; rw [h]; rfl
set_option maxHeartbeats 2000000 in
set_option maxRecDepth 100000 in
theorem specKindsOf_any (s : Int) (f : Int × List Int) (v : Value) (w : World) (hr : RdOp w v f) (lo0 : -9223372036854775808 ≤ s) (hi0 : s ≤ 9223372036854775807) (hz : szOp f ≤ 1048576) :
    Calls Try.prog 33 #[.int .i64 s, v] w (IRes (SKindsOf s f) w) := by
  obtain ⟨i0, hi, hz0, hz1, hz2⟩ := info_parts infoI
  obtain ⟨tv, rfl, hr⟩ := hr
  obtain ⟨ta, tc, rfl⟩ := hr.form
  have hE1 : Ext w (w.alloc (.cells #[.int .i64 f.1, .slice ta f.2.length tc] 49)) := (Ext.refl' w).alloc (Nat.le_refl _) _
  have hp : PtOp (w.alloc (.cells #[.int .i64 f.1, .slice ta f.2.length tc] 49)) (.pointer (some ⟨w.heap.size, 0, none⟩)) f := ⟨_, _, _, rfl, by simp [go_sem], by simp [go_sem], hr.ext hE1⟩
  cases h1 : SValidOp s f with
  | false =>
    rw [ks_1 h1]
    go_enter Try.func33, Try.ntmps33
    go_wp2_with fail
    refine (l02Ok_any s f _ _ hp).mono ?_
    rintro e w1 ⟨rfl, hQ⟩
    rw [h1]
    have hE := hE1.tr hQ.ext
    replace hp := hp.ext hQ.ext
    go_wp2_with fail
    go_ret2
    exact IRes.no2 (hE.alloc (by have := hE.size; omega) _) (by have := hE.size; omega) (World.ownsRow_made w1 #[] 0 (Nat.zero_le _) (by decide) rfl)
  | true =>
    rw [ks_0 h1]
    go_enter Try.func33, Try.ntmps33
    go_wp2_with fail
    refine (l02Ok_any s f _ _ hp).mono ?_
    rintro e w1 ⟨rfl, hQ⟩
    rw [h1]
    have hE := hE1.tr hQ.ext
    replace hp := hp.ext hQ.ext
    have H1 := Lib.hid h1
    clear h1
    go_wp2_with fail
    go_loopw [6, 7] (fun t i wr => ∃ k : Nat, k ≤ 10 ∧ i = .int .i64 ((k + 1 : Nat) : Int) ∧ Ext w1 wr ∧ wr.ownsRow w1.heap.size 2 1 t (kindList s f k).length ((kindList s f k).map (Value.int .i64)))
      (fun _ i _ => 11 - (intOf i).toNat)
    case atStart => exact ⟨0, by omega, rfl, (Ext.refl' w1).alloc (Nat.le_refl _) _, World.ownsRow_made w1 #[] 0 (Nat.le_refl _) (by decide) rfl⟩
    case round =>
      obtain ⟨k, hk, rfl, hE2, ho⟩ := hrel
      have hlen := kindList_length s f k
      obtain ⟨oa, ob, oc, rfl, -⟩ := own_parts ho
      have q2 := hE2.size
      by_cases hkl : k < 10
      · have hkk : (k : Int) + 1 ≤ 10 := by omega
        go_wp2_with fail
        refine (l02Kind_any s f _ _ _ (hp.ext hE2) H1.out (by omega) (by omega)).mono ?_
        rintro e w3 ⟨rfl, hE3⟩
        have hE4 := hE2.tr hE3
        have q3 := hE4.size
        have ho3 := own_ext ho hE3
        cases hd : SKind s f ((k : Int) + 1) with
        | false =>
          have HD := Lib.hid (kindList_no (n := k) rfl hd)
          clear ho hE2 hE3
          go_wp2_with fail
          go_roundw
          case rel => exact ⟨k + 1, by omega, by go_num, hE4, by rw [HD.out]; exact ho3⟩
          case measure => simp [intOf]; omega
        | true =>
          have HD := Lib.hid (kindList_yes (n := k) rfl hd)
          clear ho hE2 hE3
          go_wp2_with (at_builtin; refine wpList_append_own _ rfl _ _ 34 rfl w1.heap.size 2 i0 (.int .i64 0) 1 8 Try.underlying34 hi hz0 hz1 hz2 rfl (by decide) _ _ _ rfl (own_ext ho3 ((Ext.refl' w3).alloc (Nat.le_refl _) _)) ⟨w3.heap.size, 0, none⟩ 1 1 [.int .i64 ((k : Int) + 1)] rfl rfl (cells_one (by simp [go_sem])) (by simp [Value.oneCell']) (by unfold maxLen; omega) (by omega) (by simp; omega) ?_)
          intro v' w5 ho5 hg5 _
          have hA : Ext w3 (w3.alloc (.cells #[.int .i64 ((k : Int) + 1)] 2)) := (Ext.refl' w3).alloc (Nat.le_refl _) _
          have hE5 : Ext w1 w5 := (hE4.tr hA).grown hg5 (by simp; omega) (fun h hh => (ho3.lt h hh).1)
          have ho6 : w5.ownsRow w1.heap.size 2 1 v' (kindList s f (k + 1)).length ((kindList s f (k + 1)).map (Value.int .i64)) := by rw [HD.out, List.map_append, List.length_append]; exact ho5
          clear ho3 hE4 hg5 hA ho5 HD
          go_wp2_with fail
          go_roundw
          case rel => exact ⟨k + 1, by omega, by go_num, hE5, ho6⟩
          case measure => simp [intOf]; omega
      · obtain rfl : k = 10 := by omega
        go_wp2_with fail
        go_ret2
        exact IRes.of rfl (hE.tr hE2) ⟨own_base ho (fun _ _ => Nat.zero_le _), rfl⟩ (fun h hh => by have := (ho.lt h (by simpa using hh)).1; have := hE.size; omega) (by show (kindList s f 10).length ≤ _; omega)

set_option maxHeartbeats 2000000 in
set_option maxRecDepth 100000 in
theorem implKindsOf_any (s : Int) (f : Int × List Int) (v : Value) (w : World) (hr : RdOp w v f) (lo0 : -9223372036854775808 ≤ s) (hi0 : s ≤ 9223372036854775807) (hz : szOp f ≤ 1048576) :
    Calls Try.prog 34 #[.int .i64 s, v] w (IRes (SKindsOf s f) w) := by
  obtain ⟨i0, hi, hz0, hz1, hz2⟩ := info_parts infoI
  obtain ⟨tv, rfl, hr'⟩ := hr
  obtain ⟨ta, tc, rfl⟩ := hr'.form
  have hr : RdOp w _ f := ⟨_, rfl, hr'⟩
  clear hr'
  have hE1 : Ext w (w.alloc (.cells #[.int .i64 f.1, .slice ta f.2.length tc] 49)) := (Ext.refl' w).alloc (Nat.le_refl _) _
  cases h1 : SValidOp s f with
  | false =>
    rw [ks_1 h1]
    go_enter Try.func34, Try.ntmps34
    go_wp2_with fail
    refine (implValidOp_ok s f _ _ (hr.ext hE1)).mono ?_
    rintro e w1 ⟨rfl, hE⟩
    rw [h1]
    have b0 := hE.cell (p := ⟨w.heap.size, 0, none⟩) (v := .int .i64 f.1) (by simp [go_sem])
    have b1 := hE.cell (p := ⟨w.heap.size, 1, none⟩) (v := .slice ta f.2.length tc) (by simp [go_sem])
    replace hE := hE1.tr hE
    go_wp2_with fail
    go_ret2
    exact IRes.no hE
  | true =>
    rw [ks_0 h1]
    go_enter Try.func34, Try.ntmps34
    go_wp2_with fail
    refine (implValidOp_ok s f _ _ (hr.ext hE1)).mono ?_
    rintro e w1 ⟨rfl, hE⟩
    rw [h1]
    have b0 := hE.cell (p := ⟨w.heap.size, 0, none⟩) (v := .int .i64 f.1) (by simp [go_sem])
    have b1 := hE.cell (p := ⟨w.heap.size, 1, none⟩) (v := .slice ta f.2.length tc) (by simp [go_sem])
    replace hE := hE1.tr hE
    have H1 := Lib.hid h1
    clear h1
    have hrE := hr.ext hE
    have q1 : w.heap.size < w1.heap.size := lt_of_cell b0
    go_wp2_with fail
    go_loopw [6, 7] (fun t i wr => ∃ k : Nat, k ≤ 10 ∧ i = .int .i64 ((k + 1 : Nat) : Int) ∧ Ext w1 wr ∧ wr.ownsRow w1.heap.size 2 1 t (kindList s f k).length ((kindList s f k).map (Value.int .i64)))
      (fun _ i _ => 11 - (intOf i).toNat)
    case atStart => exact ⟨0, by omega, rfl, (Ext.refl' w1).alloc (Nat.le_refl _) _, World.ownsRow_made w1 #[] 0 (Nat.le_refl _) (by decide) rfl⟩
    case round =>
      obtain ⟨k, hk, rfl, hE2, ho⟩ := hrel
      have hlen := kindList_length s f k
      obtain ⟨oa, ob, oc, rfl, -⟩ := own_parts ho
      have q2 := hE2.size
      have c0 := hE2.cell b0
      have c1 := hE2.cell b1
      by_cases hkl : k < 10
      · have hb : inB ((k : Int) + 1) 1 10 = true := inB_iff.2 (by omega)
        go_wp2_with fail
        refine (isKd_any _ _).mono ?_
        rintro e w' ⟨rfl, rfl⟩
        rw [hb]
        go_wp2_with fail
        refine (isKind_any s f _ _ _ (hrE.ext hE2) H1.out (by omega) (by omega)).mono ?_
        rintro e w3 ⟨rfl, hE3⟩
        have hE4 := hE2.tr hE3
        have q3 := hE4.size
        have ho3 := own_ext ho hE3
        cases hd : SKind s f ((k : Int) + 1) with
        | false =>
          have HD := Lib.hid (kindList_no (n := k) rfl hd)
          clear ho hE2 hE3
          go_wp2_with fail
          go_roundw
          case rel => exact ⟨k + 1, by omega, by go_num, hE4, by rw [HD.out]; exact ho3⟩
          case measure => simp [intOf]; omega
        | true =>
          have HD := Lib.hid (kindList_yes (n := k) rfl hd)
          clear ho hE2 hE3
          go_wp2_with (at_builtin; refine wpList_append_own _ rfl _ _ 34 rfl w1.heap.size 2 i0 (.int .i64 0) 1 8 Try.underlying34 hi hz0 hz1 hz2 rfl (by decide) _ _ _ rfl (own_ext ho3 ((Ext.refl' w3).alloc (Nat.le_refl _) _)) ⟨w3.heap.size, 0, none⟩ 1 1 [.int .i64 ((k : Int) + 1)] rfl rfl (cells_one (by simp [go_sem])) (by simp [Value.oneCell']) (by unfold maxLen; omega) (by omega) (by simp; omega) ?_)
          intro v' w5 ho5 hg5 _
          have hA : Ext w3 (w3.alloc (.cells #[.int .i64 ((k : Int) + 1)] 2)) := (Ext.refl' w3).alloc (Nat.le_refl _) _
          have hE5 : Ext w1 w5 := (hE4.tr hA).grown hg5 (by simp; omega) (fun h hh => (ho3.lt h hh).1)
          have ho6 : w5.ownsRow w1.heap.size 2 1 v' (kindList s f (k + 1)).length ((kindList s f (k + 1)).map (Value.int .i64)) := by rw [HD.out, List.map_append, List.length_append]; exact ho5
          clear ho3 hE4 hg5 hA ho5 HD
          go_wp2_with fail
          go_roundw
          case rel => exact ⟨k + 1, by omega, by go_num, hE5, ho6⟩
          case measure => simp [intOf]; omega
      · obtain rfl : k = 10 := by omega
        have hb : inB ((10 : Nat) + 1 : Int) 1 10 = false := by decide
        go_wp2_with fail
        refine (isKd_any _ _).mono ?_
        rintro e w' ⟨rfl, rfl⟩
        rw [show inB 11 1 10 = false from by decide]
        go_wp2_with fail
        go_ret2
        exact IRes.of rfl (hE.tr hE2) ⟨own_base ho (fun _ _ => Nat.zero_le _), rfl⟩ (fun h hh => by have := (ho.lt h (by simpa using hh)).1; have := hE.size; omega) (by show (kindList s f 10).length ≤ _; omega)
end Go.Proofs.Ytefnmfdmnoednaa
