
/- HasTuple, IsPartOf: the program's and the reference's give one function's answers. -/
import Derived.Test.YtohpjamngpphnaaHas
namespace Go.Proofs.Ytohpjamngpphnaa
open Go.RowKit
set_option linter.unusedVariables false

set_option maxHeartbeats 400000 in
theorem indexFuncII_any (p : List Int → Bool) (l : List (List Int)) (v : Value) (f : FuncId) (first cap : Array Value) (w : World) (hr : RdII w v l)
    (hcall : ∀ xs w, (callFunc f xs).run Try.prog w = .ok (.enter f xs) w)
    (hf : ∀ a ∈ l, ∀ va w', Ext w w' → RdI w' va a → Calls Try.prog f (first ++ #[va] ++ cap) w' fun e w'' => e = .returned (.bool (p a)) ∧ Ext w' w'') :
    Calls Try.prog 104 #[v, .func (.func f) first cap] w fun e w' => e = .returned (.int .i64 (idx p l)) ∧ Ext w w' := by
  obtain ⟨a, b, off, c, vs, rfl, hlc, hcm, ha, hc⟩ := hr
  have HF := Lib.hid hf
  clear hf
  go_enter Try.func104, Try.ntmps104
  go_wp2_with fail
  go_loopw [8] (fun i wr => ∃ k : Nat, k ≤ l.length ∧ i = .int .i64 k ∧ Ext w wr ∧ (l.take k).any p = false) (fun i _ => l.length - (intOf i).toNat)
  case atStart => exact ⟨0, by omega, rfl, Ext.refl' _, rfl⟩
  case round =>
    obtain ⟨k, hk, rfl, hE, ht⟩ := hrel
    have HT := Lib.hid ht
    clear ht
    by_cases hkl : k < l.length
    · obtain rfl := ha (by omega)
      obtain ⟨k1, k2⟩ := hc k hkl
      have hck := hE.cell k1
      have hcc := HF.out l[k] (List.getElem_mem hkl) _ wr hE (k2.ext hE)
      generalize vs k = y at k1 k2 hck hcc
      go_wp2_with fail
      cases hp : p l[k] with
      | true =>
        rw [hp] at hcc
        refine (by simpa using hcc : Calls _ _ _ _ _).mono ?_
        rintro e w2 ⟨rfl, hE2⟩
        have HI := Lib.hid (idx_here p l k hkl HT.out hp)
        clear hp
        go_wp2_with fail
        go_ret
        exact ⟨ret_int HI.out.symm, hE.tr hE2⟩
      | false =>
        rw [hp] at hcc
        refine (by simpa using hcc : Calls _ _ _ _ _).mono ?_
        rintro e w2 ⟨rfl, hE2⟩
        have HI := Lib.hid (show (l.take (k + 1)).any p = false from by rw [any_take_succ p l k hkl, HT.out, hp]; rfl)
        clear hp
        have hE3 := hE.tr hE2
        go_wp2_with fail
        go_roundw
        case rel => exact ⟨k + 1, by omega, by go_num, hE3, HI.out⟩
        case measure => simp [intOf]; omega
    · have HI := Lib.hid (idx_none p l (by have := HT.out; rwa [show k = l.length by omega, List.take_length] at this))
      go_wp2_with fail
      go_ret
      exact ⟨ret_int HI.out.symm, hE⟩
set_option maxHeartbeats 400000 in
theorem containsFuncII_any (p : List Int → Bool) (l : List (List Int)) (v : Value) (f : FuncId) (first cap : Array Value) (w : World) (hr : RdII w v l)
    (hcall : ∀ xs w, (callFunc f xs).run Try.prog w = .ok (.enter f xs) w)
    (hf : ∀ a ∈ l, ∀ va w', Ext w w' → RdI w' va a → Calls Try.prog f (first ++ #[va] ++ cap) w' fun e w'' => e = .returned (.bool (p a)) ∧ Ext w' w'') :
    Calls Try.prog 70 #[v, .func (.func f) first cap] w fun e w' => e = .returned (.bool (l.any p)) ∧ Ext w w' := by
  have HC := Lib.hid (idx_any p l)
  have HF := Lib.hid hf
  clear hf
  go_enter Try.func70, Try.ntmps70
  go_wp2_with (go_at_call 104; refine (indexFuncII_any p l _ _ _ _ _ hr hcall HF.out).mono ?_; rintro e w' ⟨rfl, hE⟩)
  go_ret
  exact ⟨ret_bool HC.out, hE⟩

set_option maxHeartbeats 1000000 in
theorem l01Part_any (r q : Int × List (List Int)) (p u : Value) (w : World) (hr : PtRel w p r) (hs : PtRel w u q) :
    Calls Try.prog 68 #[p, u] w fun e w' => e = .returned (.bool (partOf r q)) ∧ Qt w w' := by
  obtain ⟨b0, off0, tv, rfl, c0, c1, hr⟩ := hr
  obtain ⟨a, b, off, cap, vs, rfl, hlc, hcm, ha, hc⟩ := hr
  go_enter Try.func68, Try.ntmps68
  go_wp2_with fail
  go_loopw [5] (fun i wr => ∃ k : Nat, k ≤ r.2.length ∧ i = .int .i64 k ∧ Qt w wr ∧ (r.2.take k).any (fun t => !hasT q t) = false) (fun i _ => r.2.length - (intOf i).toNat)
  case atStart => exact ⟨0, by omega, rfl, Qt.refl _, rfl⟩
  case round =>
    obtain ⟨k, hk, rfl, hE, ht⟩ := hrel
    have HT := Lib.hid ht
    clear ht
    replace c1 := hE.ext.cell c1
    by_cases hkl : k < r.2.length
    · obtain rfl := ha (by omega)
      obtain ⟨k1, k2⟩ := hc k hkl
      replace k1 := hE.ext.cell k1
      have hC := l01Has_any q _ _ _ _ (hs.ext hE.ext) (k2.ext hE.ext)
      cases hp : hasT q r.2[k] with
      | true =>
        have HK := Lib.hid (show (r.2.take (k + 1)).any (fun t => !hasT q t) = false from by rw [any_take_succ _ r.2 k hkl, HT.out, hp]; rfl)
        rw [hp] at hC
        go_wp2_with fail
        refine hC.mono ?_
        rintro e w2 ⟨rfl, hQ⟩
        go_wp2_with fail
        go_roundw
        case rel => exact ⟨k + 1, by omega, by go_num, Qt.trans hE hQ, HK.out⟩
        case measure => simp [intOf]; omega
      | false =>
        have HN := Lib.hid (show partOf r q = false from by unfold partOf; rw [List.all_eq_false]; exact ⟨_, List.getElem_mem hkl, by simp [hp]⟩)
        rw [hp] at hC
        go_wp2_with fail
        refine hC.mono ?_
        rintro e w2 ⟨rfl, hQ⟩
        go_wp2_with fail
        go_ret
        exact ⟨ret_bool HN.out.symm, Qt.trans hE hQ⟩
    · have HN := Lib.hid (show partOf r q = true from by
        have hkk : k = r.2.length := by omega
        have := HT.out
        rw [hkk, List.take_length] at this
        unfold partOf
        rw [List.all_eq_true]
        intro x hx
        rw [List.any_eq_false] at this
        simpa using this x hx)
      go_wp2_with fail
      go_ret
      exact ⟨ret_bool HN.out.symm, hE⟩

set_option maxHeartbeats 400000 in
theorem specHasTuple_any (s : Int) (r : Int × List (List Int)) (v : Value) (t : List Int) (u : Value) (w : World) (hr : RdRel w v r) (hs : RdI w u t) (_ : -9223372036854775808 ≤ s) (_ : s ≤ 9223372036854775807) (hz : szRel r ≤ 1048576) (_ : t.length ≤ 1048576) :
    Calls Try.prog 28 #[.int .i64 s, v, u] w fun e w' => e = .returned (.tuple #[.bool (SHasTuple s r t).1, .int .i64 (SHasTuple s r t).2]) ∧ Ext w w' := by
  obtain ⟨tv, rfl, hr⟩ := hr
  obtain ⟨ta, tc, rfl⟩ := hr.form
  have hE1 : Ext w (w.alloc (.cells #[.int .i64 r.1, .slice ta r.2.length tc] 24)) := (Ext.refl' w).alloc (Nat.le_refl _) _
  have hp : PtRel (w.alloc (.cells #[.int .i64 r.1, .slice ta r.2.length tc] 24)) (.pointer (some ⟨w.heap.size, 0, none⟩)) r := ⟨_, _, _, rfl, by simp [go_sem], by simp [go_sem], hr.ext hE1⟩
  cases h1 : SValidRel s r with
  | false =>
    rw [show SHasTuple s r t = (false, 1) from by unfold SHasTuple; rw [h1]; rfl]
    go_enter Try.func28, Try.ntmps28
    go_wp2_with (go_at_call 62; refine (l01Ok_any _ _ _ _ hp).mono ?_; rintro e w1 ⟨rfl, hE⟩; rw [h1])
    go_ret2
    exact ⟨rfl, hE1.tr hE.ext⟩
  | true =>
    rw [show SHasTuple s r t = (hasT r t, 0) from by unfold SHasTuple; rw [h1]; rfl]
    go_enter Try.func28, Try.ntmps28
    go_wp2_with fail
    refine (l01Ok_any _ _ _ _ hp).mono ?_
    rintro e w1 ⟨rfl, hE⟩
    rw [h1]
    go_wp2_with fail
    refine (l01Has_any r _ t _ _ (hp.ext hE.ext) ((hs.ext hE1).ext hE.ext)).mono ?_
    rintro e w2 ⟨rfl, hE2⟩
    go_wp2_with fail
    go_ret2
    exact ⟨rfl, (hE1.tr hE.ext).tr hE2.ext⟩
set_option maxHeartbeats 400000 in
theorem implHasTuple_any (s : Int) (r : Int × List (List Int)) (v : Value) (t : List Int) (u : Value) (w : World) (hr : RdRel w v r) (hs : RdI w u t) (_ : -9223372036854775808 ≤ s) (_ : s ≤ 9223372036854775807) (hz : szRel r ≤ 1048576) (_ : t.length ≤ 1048576) :
    Calls Try.prog 30 #[.int .i64 s, v, u] w fun e w' => e = .returned (.tuple #[.bool (SHasTuple s r t).1, .int .i64 (SHasTuple s r t).2]) ∧ Ext w w' := by
  obtain ⟨tv, rfl, hr'⟩ := hr
  obtain ⟨ta, tc, rfl⟩ := hr'.form
  have hr : RdRel w _ r := ⟨_, rfl, hr'⟩
  have hE1 : Ext w (w.alloc (.cells #[.int .i64 r.1, .slice ta r.2.length tc] 24)) := (Ext.refl' w).alloc (Nat.le_refl _) _
  cases h1 : SValidRel s r with
  | false =>
    rw [show SHasTuple s r t = (false, 1) from by unfold SHasTuple; rw [h1]; rfl]
    go_enter Try.func30, Try.ntmps30
    go_wp2_with (go_at_call 27; refine (implValidRel_ok s r _ _ (hr.ext hE1)).mono ?_; rintro e w1 ⟨rfl, hE⟩; rw [h1])
    go_ret2
    exact ⟨rfl, hE1.tr hE⟩
  | true =>
    rw [show SHasTuple s r t = (hasT r t, 0) from by unfold SHasTuple; rw [h1]; rfl]
    go_enter Try.func30, Try.ntmps30
    go_wp2_with fail
    refine (implValidRel_ok s r _ _ (hr.ext hE1)).mono ?_
    rintro e w1 ⟨rfl, hE⟩
    rw [h1]
    have c0 := hE.cell (p := ⟨w.heap.size, 0, none⟩) (v := .int .i64 r.1) (by simp [go_sem])
    have c1 := hE.cell (p := ⟨w.heap.size, 1, none⟩) (v := .slice ta r.2.length tc) (by simp [go_sem])
    go_wp2_with fail
    refine (has_any s r _ t _ _ ((hr.ext hE1).ext hE) ((hs.ext hE1).ext hE) h1 hz).mono ?_
    rintro e w2 ⟨rfl, hE2⟩
    go_wp2_with fail
    go_ret2
    exact ⟨rfl, (hE1.tr hE).tr hE2⟩
end Go.Proofs.Ytohpjamngpphnaa
