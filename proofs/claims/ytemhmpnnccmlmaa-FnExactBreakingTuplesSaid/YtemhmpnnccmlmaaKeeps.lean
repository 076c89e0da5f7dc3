
/- Keeps, KeepsAll: the program's and the reference's give one function's answers. -/
import Derived.Test.YtemhmpnnccmlmaaBreakS
import Derived.Test.YtemhmpnnccmlmaaTmpl
namespace Go.Proofs.Ytemhmpnnccmlmaa
open Go.RowKit
set_option linter.unusedVariables false

theorem SKeep_some {s : Int} {f : OpD} {r : RelD} {k : Nat} (h : SFirst s f r = some k) : SKeep s f r = false := by unfold SKeep; rw [h]; rfl
theorem SKeep_none {s : Int} {f : OpD} {r : RelD} (h : SFirst s f r = none) : SKeep s f r = true := by unfold SKeep; rw [h]; rfl
def SKeeps (s : Int) (f : OpD) (r : RelD) : Bool × Int := if SValidOp s f && SValidRel s r then (SKeep s f r, 0) else (false, 1)
theorem keeps_1 {s : Int} {f : OpD} {r : RelD} (h : (SValidOp s f && SValidRel s r) = false) : SKeeps s f r = (false, 1) := by unfold SKeeps; rw [h]; rfl
theorem keeps_0 {s : Int} {f : OpD} {r : RelD} (h1 : SValidOp s f = true) (h2 : SValidRel s r = true) : SKeeps s f r = (SKeep s f r, 0) := by unfold SKeeps; rw [h1, h2]; rfl
/-- the first relation of a template that is not kept -/
def SFirstNot (t : Int × List RelD) (f : OpD) : Int := idx (fun r => !SKeep t.1 f r) t.2
def SKeepsAll (t : Int × List RelD) (f : OpD) : Int × Int := if SValidTemplate t && SValidOp t.1 f then (SFirstNot t f, 0) else (0, 1)
theorem kall_1 {t : Int × List RelD} {f : OpD} (h : (SValidTemplate t && SValidOp t.1 f) = false) : SKeepsAll t f = (0, 1) := by unfold SKeepsAll; rw [h]; rfl
theorem kall_0 {t : Int × List RelD} {f : OpD} (h1 : SValidTemplate t = true) (h2 : SValidOp t.1 f = true) : SKeepsAll t f = (SFirstNot t f, 0) := by unfold SKeepsAll; rw [h1, h2]; rfl
theorem valid_tm {t : Int × List RelD} (h : SValidTemplate t = true) : ∀ r ∈ t.2, SValidRel t.1 r = true := by
  intro r hr
  unfold SValidTemplate at h
  rw [Bool.and_eq_true, Bool.and_eq_true, Bool.not_eq_true', List.any_eq_false] at h
  have := h.2.2 r hr
  simpa using this
theorem valid_tm_len {t : Int × List RelD} (h : SValidTemplate t = true) : t.2.length ≤ 6 := by
  unfold SValidTemplate at h
  rw [Bool.and_eq_true, Bool.and_eq_true, decide_eq_true_eq] at h
  exact h.2.1

theorem eqlNil_some (w : World) (a : Addr) (n c n' c' : Nat) : (binOp .eql 25 (.slice (some a) n c) (.slice none n' c')).run Try.prog w = .ok (.bool false) w := by kernel_rfl
theorem eqlNil_none (w : World) (n c n' c' : Nat) : (binOp .eql 25 (.slice none n c) (.slice none n' c')).run Try.prog w = .ok (.bool true) w := by kernel_rfl
set_option maxHeartbeats 1000000 in
set_option maxRecDepth 100000 in
theorem keeps_any (s : Int) (f : OpD) (v : Value) (r : RelD) (u : Value) (w : World) (hr : RdOp w v f) (hs : RdRel w u r) (hf : SValidOp s f = true) (hv : SValidRel s r = true) :
    Calls Try.prog 78 #[.int .i64 s, v, u] w fun e w' => e = .returned (.bool (SKeep s f r)) ∧ Ext w w' := by
  have q1 := eqlNil_some
  have q2 := eqlNil_none
  obtain ⟨tv, rfl, hr'⟩ := hr
  obtain ⟨fa, fc, rfl⟩ := hr'.form
  have hr : RdOp w _ f := ⟨_, rfl, hr'⟩
  obtain ⟨tu, rfl, hs'⟩ := hs
  obtain ⟨ra, rc, rfl⟩ := hs'.form
  have hs : RdRel w _ r := ⟨_, rfl, hs'⟩
  have hE1 : Ext w ((w.alloc (.cells #[.int .i64 f.1, .slice fa f.2.length fc] 41)).alloc (.cells #[.int .i64 r.1, .slice ra r.2.length rc] 27)) := ((Ext.refl' w).alloc (Nat.le_refl _) _).alloc (by simp) _
  go_enter Try.func78, Try.ntmps78
  go_wp2_with fail
  refine (broken_any s f _ r _ _ (hr.ext hE1) (hs.ext hE1) hf hv).mono ?_
  intro e w2 hB
  unfold BrokenRes at hB
  cases hF : SFirst s f r with
  | none =>
    rw [hF] at hB
    obtain ⟨rfl, hE⟩ := hB
    have HK := Lib.hid (SKeep_none hF)
    clear hF
    go_wp2_with fail
    go_ret
    exact ⟨ret_bool HK.out.symm, hE1.tr hE⟩
  | some k =>
    rw [hF] at hB
    obtain ⟨lv, x, fp, rfl, hE, hl, hx, -, hv4, -⟩ := hB
    obtain ⟨la, lc, rfl⟩ := hl.form
    have hlen := vals_len hv4
    have hm := (valid_parts hv).2.1
    obtain ⟨xa, xb, xoff, xc, rfl, -, -, hxa, -⟩ := hx.rd
    obtain rfl := hxa (by omega)
    have HK := Lib.hid (SKeep_some hF)
    clear hF hl hx hv4 hlen
    go_wp2_with fail
    go_ret
    exact ⟨ret_bool HK.out.symm, hE1.tr hE⟩
set_option maxHeartbeats 1000000 in
theorem implKeeps_any (s : Int) (f : OpD) (v : Value) (r : RelD) (u : Value) (w : World) (hr : RdOp w v f) (hs : RdRel w u r) (_ : -9223372036854775808 ≤ s) (_ : s ≤ 9223372036854775807) (_ : szOp f ≤ 1048576) (_ : szRel r ≤ 1048576) :
    Calls Try.prog 33 #[.int .i64 s, v, u] w fun e w' => e = .returned (.tuple #[.bool (SKeeps s f r).1, .int .i64 (SKeeps s f r).2]) ∧ Ext w w' := by
  obtain ⟨tv, rfl, hr'⟩ := hr
  obtain ⟨fa, fc, rfl⟩ := hr'.form
  have hr : RdOp w _ f := ⟨_, rfl, hr'⟩
  obtain ⟨tu, rfl, hs'⟩ := hs
  obtain ⟨ra, rc, rfl⟩ := hs'.form
  have hs : RdRel w _ r := ⟨_, rfl, hs'⟩
  have hE1 : Ext w ((w.alloc (.cells #[.int .i64 f.1, .slice fa f.2.length fc] 41)).alloc (.cells #[.int .i64 r.1, .slice ra r.2.length rc] 27)) := ((Ext.refl' w).alloc (Nat.le_refl _) _).alloc (by simp) _
  cases h1 : SValidOp s f with
  | false =>
    rw [keeps_1 (by rw [h1]; rfl)]
    go_enter Try.func33, Try.ntmps33
    go_wp2_with fail
    refine (implValidOp_ok s f _ _ (hr.ext hE1)).mono ?_
    rintro e w1 ⟨rfl, hE⟩
    rw [h1]
    have b0 := hE.cell (p := ⟨w.heap.size, 0, none⟩) (v := .int .i64 f.1) (by simp [go_sem])
    have b1 := hE.cell (p := ⟨w.heap.size, 1, none⟩) (v := .slice fa f.2.length fc) (by simp [go_sem])
    have c0 := hE.cell (p := ⟨w.heap.size + 1, 0, none⟩) (v := .int .i64 r.1) (by simp [go_sem])
    have c1 := hE.cell (p := ⟨w.heap.size + 1, 1, none⟩) (v := .slice ra r.2.length rc) (by simp [go_sem])
    replace hE := hE1.tr hE
    go_wp2_with fail
    go_ret2
    exact ⟨rfl, hE⟩
  | true =>
    cases h2 : SValidRel s r with
    | false =>
      rw [keeps_1 (by rw [h1, h2]; rfl)]
      go_enter Try.func33, Try.ntmps33
      go_wp2_with fail
      refine (implValidOp_ok s f _ _ (hr.ext hE1)).mono ?_
      rintro e w1 ⟨rfl, hE⟩
      rw [h1]
      have b0 := hE.cell (p := ⟨w.heap.size, 0, none⟩) (v := .int .i64 f.1) (by simp [go_sem])
      have b1 := hE.cell (p := ⟨w.heap.size, 1, none⟩) (v := .slice fa f.2.length fc) (by simp [go_sem])
      have c0 := hE.cell (p := ⟨w.heap.size + 1, 0, none⟩) (v := .int .i64 r.1) (by simp [go_sem])
      have c1 := hE.cell (p := ⟨w.heap.size + 1, 1, none⟩) (v := .slice ra r.2.length rc) (by simp [go_sem])
      replace hE := hE1.tr hE
      go_wp2_with fail
      refine (implValidRel_ok s r _ _ (hs.ext hE)).mono ?_
      rintro e w2 ⟨rfl, hE2⟩
      rw [h2]
      replace b0 := hE2.cell b0
      replace b1 := hE2.cell b1
      replace c0 := hE2.cell c0
      replace c1 := hE2.cell c1
      replace hE := hE.tr hE2
      clear hE2
      go_wp2_with fail
      go_ret2
      exact ⟨rfl, hE⟩
    | true =>
      rw [keeps_0 h1 h2]
      go_enter Try.func33, Try.ntmps33
      go_wp2_with fail
      refine (implValidOp_ok s f _ _ (hr.ext hE1)).mono ?_
      rintro e w1 ⟨rfl, hE⟩
      rw [h1]
      have b0 := hE.cell (p := ⟨w.heap.size, 0, none⟩) (v := .int .i64 f.1) (by simp [go_sem])
      have b1 := hE.cell (p := ⟨w.heap.size, 1, none⟩) (v := .slice fa f.2.length fc) (by simp [go_sem])
      have c0 := hE.cell (p := ⟨w.heap.size + 1, 0, none⟩) (v := .int .i64 r.1) (by simp [go_sem])
      have c1 := hE.cell (p := ⟨w.heap.size + 1, 1, none⟩) (v := .slice ra r.2.length rc) (by simp [go_sem])
      replace hE := hE1.tr hE
      go_wp2_with fail
      refine (implValidRel_ok s r _ _ (hs.ext hE)).mono ?_
      rintro e w2 ⟨rfl, hE2⟩
      rw [h2]
      replace b0 := hE2.cell b0
      replace b1 := hE2.cell b1
      replace c0 := hE2.cell c0
      replace c1 := hE2.cell c1
      replace hE := hE.tr hE2
      clear hE2
      go_wp2_with fail
      refine (keeps_any s f _ r _ _ (hr.ext hE) (hs.ext hE) h1 h2).mono ?_
      rintro e w3 ⟨rfl, hE3⟩
      go_wp2_with fail
      go_ret2
      exact ⟨rfl, hE.tr hE3⟩
set_option maxHeartbeats 1000000 in
theorem l02Keeps_any (s : Int) (f : OpD) (v : Value) (r : RelD) (u : Value) (w : World) (hr : PtOp w v f) (hs : PtRel w u r) (hf : SValidOp s f = true) (hv : SValidRel s r = true) :
    Calls Try.prog 77 #[.int .i64 s, v, u] w fun e w' => e = .returned (.bool (SKeep s f r)) ∧ Ext w w' := by
  have hr0 := hr
  have hs0 := hs
  obtain ⟨fb, fo, fv, rfl, -⟩ := hr
  obtain ⟨rb, ro, rv, rfl, -⟩ := hs
  go_enter Try.func77, Try.ntmps77
  go_wp2_with fail
  refine (l02Breaks_any s f _ r _ _ hr0 hs0 hf hv).mono ?_
  intro e w2 hB
  unfold BreaksRes at hB
  cases hF : SFirst s f r with
  | none =>
    rw [hF] at hB
    obtain ⟨p, q, rfl, hE, -⟩ := hB
    have HK := Lib.hid (SKeep_none hF)
    clear hF
    go_wp2_with fail
    go_ret
    exact ⟨ret_bool HK.out.symm, hE⟩
  | some k =>
    rw [hF] at hB
    obtain ⟨lv, x, fp, fx, rfl, hE, hl, hx, -⟩ := hB
    obtain ⟨la, lc, rfl⟩ := hl.form
    obtain ⟨xa, xc, rfl⟩ := hx.form
    have HK := Lib.hid (SKeep_some hF)
    clear hF hl hx
    go_wp2_with fail
    go_ret
    exact ⟨ret_bool HK.out.symm, hE⟩
set_option maxHeartbeats 400000 in
theorem l02Both_any (s : Int) (f : OpD) (v : Value) (r : RelD) (u : Value) (w : World) (hr : PtOp w v f) (hs : PtRel w u r) :
    Calls Try.prog 76 #[.int .i64 s, v, u] w fun e w' => e = .returned (.int .i64 (if SValidOp s f && SValidRel s r then 0 else 1)) ∧ Ext w w' := by
  have hr0 := hr
  have hs0 := hs
  obtain ⟨fb, fo, fv, rfl, -⟩ := hr
  obtain ⟨rb, ro, rv, rfl, -⟩ := hs
  cases h1 : SValidOp s f with
  | false =>
    go_enter Try.func76, Try.ntmps76
    go_wp2_with fail
    refine (l02Ok_any s f _ _ hr0).mono ?_
    rintro e w1 ⟨rfl, hQ⟩
    rw [h1]
    have hE := hQ.ext
    go_wp2_with fail
    go_ret
    exact ⟨rfl, hE⟩
  | true =>
    cases h2 : SValidRel s r with
    | false =>
      go_enter Try.func76, Try.ntmps76
      go_wp2_with fail
      refine (l02Ok_any s f _ _ hr0).mono ?_
      rintro e w1 ⟨rfl, hQ⟩
      rw [h1]
      have hE := hQ.ext
      go_wp2_with fail
      refine (l01Ok_any s r _ _ (hs0.ext hE)).mono ?_
      rintro e w2 ⟨rfl, hQ2⟩
      rw [h2]
      have hE2 := hQ2.ext
      go_wp2_with fail
      go_ret
      exact ⟨rfl, hE.tr hE2⟩
    | true =>
      go_enter Try.func76, Try.ntmps76
      go_wp2_with fail
      refine (l02Ok_any s f _ _ hr0).mono ?_
      rintro e w1 ⟨rfl, hQ⟩
      rw [h1]
      have hE := hQ.ext
      go_wp2_with fail
      refine (l01Ok_any s r _ _ (hs0.ext hE)).mono ?_
      rintro e w2 ⟨rfl, hQ2⟩
      rw [h2]
      have hE2 := hQ2.ext
      go_wp2_with fail
      go_ret
      exact ⟨rfl, hE.tr hE2⟩
set_option maxHeartbeats 1000000 in
theorem specKeeps_any (s : Int) (f : OpD) (v : Value) (r : RelD) (u : Value) (w : World) (hr : RdOp w v f) (hs : RdRel w u r) (_ : -9223372036854775808 ≤ s) (_ : s ≤ 9223372036854775807) (_ : szOp f ≤ 1048576) (_ : szRel r ≤ 1048576) :
    Calls Try.prog 32 #[.int .i64 s, v, u] w fun e w' => e = .returned (.tuple #[.bool (SKeeps s f r).1, .int .i64 (SKeeps s f r).2]) ∧ Ext w w' := by
  obtain ⟨tv, rfl, hr'⟩ := hr
  obtain ⟨fa, fc, rfl⟩ := hr'.form
  have hr : RdOp w _ f := ⟨_, rfl, hr'⟩
  obtain ⟨tu, rfl, hs'⟩ := hs
  obtain ⟨ra, rc, rfl⟩ := hs'.form
  have hs : RdRel w _ r := ⟨_, rfl, hs'⟩
  have hE1 : Ext w ((w.alloc (.cells #[.int .i64 f.1, .slice fa f.2.length fc] 41)).alloc (.cells #[.int .i64 r.1, .slice ra r.2.length rc] 27)) := ((Ext.refl' w).alloc (Nat.le_refl _) _).alloc (by simp) _
  have hp : PtOp ((w.alloc (.cells #[.int .i64 f.1, .slice fa f.2.length fc] 41)).alloc (.cells #[.int .i64 r.1, .slice ra r.2.length rc] 27)) (.pointer (some ⟨w.heap.size, 0, none⟩)) f := ⟨_, _, _, rfl, by simp [go_sem], by simp [go_sem], hr'.ext hE1⟩
  have hq : PtRel ((w.alloc (.cells #[.int .i64 f.1, .slice fa f.2.length fc] 41)).alloc (.cells #[.int .i64 r.1, .slice ra r.2.length rc] 27)) (.pointer (some ⟨w.heap.size + 1, 0, none⟩)) r := ⟨_, _, _, rfl, by simp [go_sem], by simp [go_sem], hs'.ext hE1⟩
  cases h : SValidOp s f && SValidRel s r with
  | false =>
    rw [keeps_1 h]
    go_enter Try.func32, Try.ntmps32
    go_wp2_with fail
    refine (l02Both_any s f _ r _ _ hp hq).mono ?_
    rintro e w1 ⟨rfl, hE⟩
    rw [h, if_neg (by decide)]
    go_wp2_with fail
    go_ret2
    exact ⟨rfl, hE1.tr hE⟩
  | true =>
    have hh := Bool.and_eq_true_iff.1 h
    rw [keeps_0 hh.1 hh.2]
    go_enter Try.func32, Try.ntmps32
    go_wp2_with fail
    refine (l02Both_any s f _ r _ _ hp hq).mono ?_
    rintro e w1 ⟨rfl, hE⟩
    rw [h, if_pos rfl]
    go_wp2_with fail
    refine (l02Keeps_any s f _ r _ _ (hp.ext hE) (hq.ext hE) hh.1 hh.2).mono ?_
    rintro e w2 ⟨rfl, hE2⟩
    go_wp2_with fail
    go_ret2
    exact ⟨rfl, hE1.tr (hE.tr hE2)⟩
set_option maxHeartbeats 1000000 in
theorem firstBroken_any (t : Int × List RelD) (v : Value) (f : OpD) (u : Value) (w : World) (hr : RdTm w v t) (hs : RdOp w u f) (ht : SValidTemplate t = true) (hf : SValidOp t.1 f = true) :
    Calls Try.prog 86 #[v, u] w fun e w' => e = .returned (.int .i64 (SFirstNot t f)) ∧ Ext w w' := by
  have hmf : ∀ (fn : Fn) (first cap : Array Value) (w : World), (Instr.makeFunc fn first cap).run Try.prog w = .ok (.func fn first cap) w := fun _ _ _ _ => rfl
  obtain ⟨tv, rfl, hr'⟩ := hr
  obtain ⟨ta, tc, rfl⟩ := hr'.form
  have hr : RdTm w _ t := ⟨_, rfl, hr'⟩
  obtain ⟨tu, rfl, hs'⟩ := hs
  obtain ⟨fa, fc, rfl⟩ := hs'.form
  have hs : RdOp w _ f := ⟨_, rfl, hs'⟩
  have hE1 : Ext w ((w.alloc (.cells #[.int .i64 t.1, .slice ta t.2.length tc] 64)).alloc (.cells #[.int .i64 f.1, .slice fa f.2.length fc] 41)) := ((Ext.refl' w).alloc (Nat.le_refl _) _).alloc (by simp) _
  have c0 : ((w.alloc (.cells #[.int .i64 t.1, .slice ta t.2.length tc] 64)).alloc (.cells #[.int .i64 f.1, .slice fa f.2.length fc] 41)).cell? ⟨w.heap.size, 0, none⟩ = some (.int .i64 t.1) := by simp [go_sem]
  have e0 : ((w.alloc (.cells #[.int .i64 t.1, .slice ta t.2.length tc] 64)).alloc (.cells #[.int .i64 f.1, .slice fa f.2.length fc] 41)).cell? ⟨w.heap.size + 1, 0, none⟩ = some (.int .i64 f.1) := by simp [go_sem]
  have e1 : ((w.alloc (.cells #[.int .i64 t.1, .slice ta t.2.length tc] 64)).alloc (.cells #[.int .i64 f.1, .slice fa f.2.length fc] 41)).cell? ⟨w.heap.size + 1, 1, none⟩ = some (.slice fa f.2.length fc) := by simp [go_sem]
  go_enter Try.func86, Try.ntmps86
  go_wp2_with fail
  refine (indexFuncRelS_any (fun r => !SKeep t.1 f r) t.2 _ _ _ _ _ (hr'.ext hE1) Try.call120 ?_).mono ?_
  · intro r hm vr w' hEc hg
    have c0 := hEc.cell c0
    have e0 := hEc.cell e0
    have e1 := hEc.cell e1
    have hs2 := (hs.ext hE1).ext hEc
    obtain ⟨tv, rfl, hg'⟩ := hg
    obtain ⟨ga, gc, rfl⟩ := hg'.form
    have hE2 : Ext w' (w'.alloc (.cells #[.int .i64 r.1, .slice ga r.2.length gc] 27)) := (Ext.refl' w').alloc (Nat.le_refl _) _
    have hb := lt_of_cell c0
    have hb2 := lt_of_cell e0
    dsimp only at hb hb2
    have hrv := valid_tm ht r hm
    simp only [List.append_toArray, List.nil_append, List.cons_append]
    go_enter Try.func120, Try.ntmps120
    go_wp2_with fail
    refine (keeps_any t.1 f _ r _ _ (hs2.ext hE2) ⟨_, rfl, hg'.ext hE2⟩ hf hrv).mono ?_
    rintro e w3 ⟨rfl, hE3⟩
    go_wp2_with fail
    go_ret
    exact ⟨rfl, hE2.tr hE3⟩
  rintro e w2 ⟨rfl, hE2⟩
  go_wp2_with fail
  go_ret
  exact ⟨rfl, hE1.tr hE2⟩
set_option maxHeartbeats 1000000 in
theorem implKeepsAll_any (t : Int × List RelD) (v : Value) (f : OpD) (u : Value) (w : World) (hr : RdTm w v t) (hs : RdOp w u f) (_ : szTm t ≤ 1048576) (_ : szOp f ≤ 1048576) :
    Calls Try.prog 43 #[v, u] w fun e w' => e = .returned (.tuple #[.int .i64 (SKeepsAll t f).1, .int .i64 (SKeepsAll t f).2]) ∧ Ext w w' := by
  obtain ⟨tv, rfl, hr'⟩ := hr
  obtain ⟨ta, tc, rfl⟩ := hr'.form
  have hr : RdTm w _ t := ⟨_, rfl, hr'⟩
  obtain ⟨tu, rfl, hs'⟩ := hs
  obtain ⟨fa, fc, rfl⟩ := hs'.form
  have hs : RdOp w _ f := ⟨_, rfl, hs'⟩
  have hE1 : Ext w ((w.alloc (.cells #[.int .i64 t.1, .slice ta t.2.length tc] 64)).alloc (.cells #[.int .i64 f.1, .slice fa f.2.length fc] 41)) := ((Ext.refl' w).alloc (Nat.le_refl _) _).alloc (by simp) _
  cases h1 : SValidTemplate t with
  | false =>
    rw [kall_1 (by rw [h1]; rfl)]
    go_enter Try.func43, Try.ntmps43
    go_wp2_with fail
    refine (implValidTemplate_ok t _ _ (hr.ext hE1)).mono ?_
    rintro e w1 ⟨rfl, hE⟩
    rw [h1]
    have b0 := hE.cell (p := ⟨w.heap.size, 0, none⟩) (v := .int .i64 t.1) (by simp [go_sem])
    have b1 := hE.cell (p := ⟨w.heap.size, 1, none⟩) (v := .slice ta t.2.length tc) (by simp [go_sem])
    have c0 := hE.cell (p := ⟨w.heap.size + 1, 0, none⟩) (v := .int .i64 f.1) (by simp [go_sem])
    have c1 := hE.cell (p := ⟨w.heap.size + 1, 1, none⟩) (v := .slice fa f.2.length fc) (by simp [go_sem])
    replace hE := hE1.tr hE
    go_wp2_with fail
    go_ret2
    exact ⟨rfl, hE⟩
  | true =>
    cases h2 : SValidOp t.1 f with
    | false =>
      rw [kall_1 (by rw [h1, h2]; rfl)]
      go_enter Try.func43, Try.ntmps43
      go_wp2_with fail
      refine (implValidTemplate_ok t _ _ (hr.ext hE1)).mono ?_
      rintro e w1 ⟨rfl, hE⟩
      rw [h1]
      have b0 := hE.cell (p := ⟨w.heap.size, 0, none⟩) (v := .int .i64 t.1) (by simp [go_sem])
      have b1 := hE.cell (p := ⟨w.heap.size, 1, none⟩) (v := .slice ta t.2.length tc) (by simp [go_sem])
      have c0 := hE.cell (p := ⟨w.heap.size + 1, 0, none⟩) (v := .int .i64 f.1) (by simp [go_sem])
      have c1 := hE.cell (p := ⟨w.heap.size + 1, 1, none⟩) (v := .slice fa f.2.length fc) (by simp [go_sem])
      replace hE := hE1.tr hE
      go_wp2_with fail
      refine (implValidOp_ok t.1 f _ _ (hs.ext hE)).mono ?_
      rintro e w2 ⟨rfl, hE2⟩
      rw [h2]
      replace b0 := hE2.cell b0
      replace b1 := hE2.cell b1
      replace c0 := hE2.cell c0
      replace c1 := hE2.cell c1
      replace hE := hE.tr hE2
      clear hE2
      go_wp2_with fail
      go_ret2
      exact ⟨rfl, hE⟩
    | true =>
      rw [kall_0 h1 h2]
      go_enter Try.func43, Try.ntmps43
      go_wp2_with fail
      refine (implValidTemplate_ok t _ _ (hr.ext hE1)).mono ?_
      rintro e w1 ⟨rfl, hE⟩
      rw [h1]
      have b0 := hE.cell (p := ⟨w.heap.size, 0, none⟩) (v := .int .i64 t.1) (by simp [go_sem])
      have b1 := hE.cell (p := ⟨w.heap.size, 1, none⟩) (v := .slice ta t.2.length tc) (by simp [go_sem])
      have c0 := hE.cell (p := ⟨w.heap.size + 1, 0, none⟩) (v := .int .i64 f.1) (by simp [go_sem])
      have c1 := hE.cell (p := ⟨w.heap.size + 1, 1, none⟩) (v := .slice fa f.2.length fc) (by simp [go_sem])
      replace hE := hE1.tr hE
      go_wp2_with fail
      refine (implValidOp_ok t.1 f _ _ (hs.ext hE)).mono ?_
      rintro e w2 ⟨rfl, hE2⟩
      rw [h2]
      replace b0 := hE2.cell b0
      replace b1 := hE2.cell b1
      replace c0 := hE2.cell c0
      replace c1 := hE2.cell c1
      replace hE := hE.tr hE2
      clear hE2
      go_wp2_with fail
      refine (firstBroken_any t _ f _ _ (hr.ext hE) (hs.ext hE) h1 h2).mono ?_
      rintro e w3 ⟨rfl, hE3⟩
      go_wp2_with fail
      go_ret2
      exact ⟨rfl, hE.tr hE3⟩
set_option maxHeartbeats 1000000 in
set_option maxRecDepth 100000 in
theorem l02First_any (t : Int × List RelD) (v : Value) (f : OpD) (u : Value) (w : World) (hr : PtTm w v t) (hs : PtOp w u f) (ht : SValidTemplate t = true) (hf : SValidOp t.1 f = true) :
    Calls Try.prog 84 #[v, u] w fun e w' => e = .returned (.int .i64 (SFirstNot t f)) ∧ Ext w w' := by
  have hs0 := hs
  obtain ⟨b0, off0, tv, rfl, c0, c1, hr'⟩ := hr
  obtain ⟨fb, fo, fv, rfl, -⟩ := hs
  obtain ⟨a, b, off, c, ts, rfl, hlc, hcm, ha, hc⟩ := hr'
  have hlen := valid_tm_len ht
  go_enter Try.func84, Try.ntmps84
  go_wp2_with fail
  go_loopw [5] (fun i wr => ∃ k : Nat, k ≤ t.2.length ∧ i = .int .i64 k ∧ Ext w wr ∧ Hid ((t.2.take k).any (fun r => !SKeep t.1 f r) = false)) (fun i _ => t.2.length - (intOf i).toNat)
  case atStart => exact ⟨0, by omega, rfl, Ext.refl' _, Lib.hid rfl⟩
  case round =>
    obtain ⟨k, hk, rfl, hE, HT⟩ := hrel
    replace c0 := hE.cell c0
    replace c1 := hE.cell c1
    by_cases hkl : k < t.2.length
    · obtain rfl := ha (by omega)
      obtain ⟨k0, k1, k2⟩ := hc k hkl
      have hp : PtRel wr (.pointer (some ⟨b, off + k * 2, none⟩)) t.2[k] := ⟨_, _, _, rfl, hE.cell k0, hE.cell k1, k2.ext hE⟩
      have hrv := valid_tm ht _ (List.getElem_mem hkl)
      cases hT : SKeep t.1 f t.2[k] with
      | true =>
        have HK := Lib.hid (show (t.2.take (k + 1)).any (fun r => !SKeep t.1 f r) = false from by rw [any_take_succ _ t.2 k hkl, HT.out, hT]; rfl)
        go_wp2_with fail
        go_wp2_with fail
        refine region_sp [] [] [SP.val (.pointer (some ⟨b0, off0, none⟩)), SP.val (.pointer (some ⟨b0, off0, none⟩)), SP.val (.pointer (some ⟨b0, off0, none⟩)), SP.val (.int .i64 t.1), SP.val (.pointer (some ⟨fb, fo, none⟩)), SP.val (.pointer (some ⟨b0, off0, none⟩)), SP.val (.pointer (some ⟨b0, off0, none⟩)), SP.val (.pointer (some ⟨b0, off0 + 1, none⟩)), SP.val (.slice (some ⟨b, off, none⟩) t.2.length c), SP.val (.int .i64 (k : Nat)), SP.val (.pointer (some ⟨b, off + k * 2, none⟩)), SP.val (.bool true), SP.val (.bool false)] (by kernel_rfl) (fun _ d _ _ _ h => by cases d <;> exact h) (by kernel_rfl) (by kernel_rfl)
          (.cons (fun vs y hY => Step.move rfl rfl rfl rfl) <|
           .cons (fun vs y hY g0_0 => Step.nilCheck rfl rfl g0_0 rfl) <|
           .cons (fun vs y hY g1_0 => Step.fieldAddr ⟨b0, off0, none⟩ rfl rfl g1_0 (by simp [go_sem]) rfl) <|
           .cons (fun vs y hY g2_0 => Step.load ⟨b0, off0, none⟩ rfl rfl g2_0 (by simp [go_sem, hY.cell c0]) rfl) <|
           .cons (fun vs y hY => Step.move rfl rfl rfl rfl) <|
           .cons (fun vs y hY => Step.move rfl rfl rfl rfl) <|
           .cons (fun vs y hY g5_0 => Step.nilCheck rfl rfl g5_0 rfl) <|
           .cons (fun vs y hY g6_0 => Step.fieldAddr ⟨b0, off0, none⟩ rfl rfl g6_0 (by simp [go_sem]) rfl) <|
           .cons (fun vs y hY g7_0 => Step.load ⟨b0, off0 + 1, none⟩ rfl rfl g7_0 (by simp [go_sem, hY.cell c1]) rfl) <|
           .cons (fun vs y hY => Step.move rfl rfl rfl rfl) <|
           .cons (fun vs y hY g8_0 g9_1 => Step.indexAtP (n := .int .i64 (k : Nat)) ⟨b, off + k * 2, none⟩ rfl rfl g8_0 g9_1 (by simp [go_sem, Instr.indexAt, Addr.add, hkl] <;> omega) rfl) <|
           .cons (fun vs y hY g3_0 g4_1 g10_2 => Step.call Try.call77 rfl rfl [vs 3, vs 4, vs 10] rfl rfl (by rw [show vs 3 = _ from g3_0, show vs 4 = _ from g4_1, show vs 10 = _ from g10_2]; exact (Calls.spe (l02Keeps_any _ _ _ _ _ _ ((hs0.ext hE).ext hY) (hp.ext hY) hf hrv) (by rw [hT])))) <|
           .cons (fun vs y hY g11_0 => Step.not rfl rfl g11_0 rfl) <|
           .nil) ?_
        intro vs w2 hC hL
        have r0 : vs 0 = _ := hL 0 (by decide) rfl
        have r1 : vs 1 = _ := hL 1 (by decide) rfl
        have r2 : vs 2 = _ := hL 2 (by decide) rfl
        have r3 : vs 3 = _ := hL 3 (by decide) rfl
        have r4 : vs 4 = _ := hL 4 (by decide) rfl
        have r5 : vs 5 = _ := hL 5 (by decide) rfl
        have r6 : vs 6 = _ := hL 6 (by decide) rfl
        have r7 : vs 7 = _ := hL 7 (by decide) rfl
        have r8 : vs 8 = _ := hL 8 (by decide) rfl
        have r9 : vs 9 = _ := hL 9 (by decide) rfl
        have r10 : vs 10 = _ := hL 10 (by decide) rfl
        have r11 : vs 11 = _ := hL 11 (by decide) rfl
        have r12 : vs 12 = _ := hL 12 (by decide) rfl
        clear hL
        simp only [putAll, Act.put, List.contains_nil, cond_false, List.setIfInBounds_toArray, List.set_cons_succ, List.set_cons_zero, List.filterMap_nil, r0, r1, r2, r3, r4, r5, r6, r7, r8, r9, r10, r11, r12]
        clear r0 r1 r2 r3 r4 r5 r6 r7 r8 r9 r10 r11 r12
        go_wp2_with fail
        go_roundw
        case rel => exact ⟨k + 1, by omega, by go_num, hE.tr hC, HK⟩
        case measure => simp [intOf]; omega
      | false =>
        have HN := Lib.hid (idx_here (fun r => !SKeep t.1 f r) t.2 k hkl HT.out (by rw [hT]; rfl))
        go_wp2_with fail
        go_wp2_with fail
        refine region_sp [] [] [SP.val (.pointer (some ⟨b0, off0, none⟩)), SP.val (.pointer (some ⟨b0, off0, none⟩)), SP.val (.pointer (some ⟨b0, off0, none⟩)), SP.val (.int .i64 t.1), SP.val (.pointer (some ⟨fb, fo, none⟩)), SP.val (.pointer (some ⟨b0, off0, none⟩)), SP.val (.pointer (some ⟨b0, off0, none⟩)), SP.val (.pointer (some ⟨b0, off0 + 1, none⟩)), SP.val (.slice (some ⟨b, off, none⟩) t.2.length c), SP.val (.int .i64 (k : Nat)), SP.val (.pointer (some ⟨b, off + k * 2, none⟩)), SP.val (.bool false), SP.val (.bool true)] (by kernel_rfl) (fun _ d _ _ _ h => by cases d <;> exact h) (by kernel_rfl) (by kernel_rfl)
          (.cons (fun vs y hY => Step.move rfl rfl rfl rfl) <|
           .cons (fun vs y hY g0_0 => Step.nilCheck rfl rfl g0_0 rfl) <|
           .cons (fun vs y hY g1_0 => Step.fieldAddr ⟨b0, off0, none⟩ rfl rfl g1_0 (by simp [go_sem]) rfl) <|
           .cons (fun vs y hY g2_0 => Step.load ⟨b0, off0, none⟩ rfl rfl g2_0 (by simp [go_sem, hY.cell c0]) rfl) <|
           .cons (fun vs y hY => Step.move rfl rfl rfl rfl) <|
           .cons (fun vs y hY => Step.move rfl rfl rfl rfl) <|
           .cons (fun vs y hY g5_0 => Step.nilCheck rfl rfl g5_0 rfl) <|
           .cons (fun vs y hY g6_0 => Step.fieldAddr ⟨b0, off0, none⟩ rfl rfl g6_0 (by simp [go_sem]) rfl) <|
           .cons (fun vs y hY g7_0 => Step.load ⟨b0, off0 + 1, none⟩ rfl rfl g7_0 (by simp [go_sem, hY.cell c1]) rfl) <|
           .cons (fun vs y hY => Step.move rfl rfl rfl rfl) <|
           .cons (fun vs y hY g8_0 g9_1 => Step.indexAtP (n := .int .i64 (k : Nat)) ⟨b, off + k * 2, none⟩ rfl rfl g8_0 g9_1 (by simp [go_sem, Instr.indexAt, Addr.add, hkl] <;> omega) rfl) <|
           .cons (fun vs y hY g3_0 g4_1 g10_2 => Step.call Try.call77 rfl rfl [vs 3, vs 4, vs 10] rfl rfl (by rw [show vs 3 = _ from g3_0, show vs 4 = _ from g4_1, show vs 10 = _ from g10_2]; exact (Calls.spe (l02Keeps_any _ _ _ _ _ _ ((hs0.ext hE).ext hY) (hp.ext hY) hf hrv) (by rw [hT])))) <|
           .cons (fun vs y hY g11_0 => Step.not rfl rfl g11_0 rfl) <|
           .nil) ?_
        intro vs w2 hC hL
        have r0 : vs 0 = _ := hL 0 (by decide) rfl
        have r1 : vs 1 = _ := hL 1 (by decide) rfl
        have r2 : vs 2 = _ := hL 2 (by decide) rfl
        have r3 : vs 3 = _ := hL 3 (by decide) rfl
        have r4 : vs 4 = _ := hL 4 (by decide) rfl
        have r5 : vs 5 = _ := hL 5 (by decide) rfl
        have r6 : vs 6 = _ := hL 6 (by decide) rfl
        have r7 : vs 7 = _ := hL 7 (by decide) rfl
        have r8 : vs 8 = _ := hL 8 (by decide) rfl
        have r9 : vs 9 = _ := hL 9 (by decide) rfl
        have r10 : vs 10 = _ := hL 10 (by decide) rfl
        have r11 : vs 11 = _ := hL 11 (by decide) rfl
        have r12 : vs 12 = _ := hL 12 (by decide) rfl
        clear hL
        simp only [putAll, Act.put, List.contains_nil, cond_false, List.setIfInBounds_toArray, List.set_cons_succ, List.set_cons_zero, List.filterMap_nil, r0, r1, r2, r3, r4, r5, r6, r7, r8, r9, r10, r11, r12]
        clear r0 r1 r2 r3 r4 r5 r6 r7 r8 r9 r10 r11 r12
        go_wp2_with fail
        go_ret
        exact ⟨ret_int HN.out.symm, hE.tr hC⟩
    · have HN := Lib.hid (idx_none (fun r => !SKeep t.1 f r) t.2 (by have := HT.out; rwa [show k = t.2.length by omega, List.take_length] at this))
      go_wp2_with fail
      go_ret
      exact ⟨ret_int HN.out.symm, hE⟩
set_option maxHeartbeats 1000000 in
theorem specKeepsAll_any (t : Int × List RelD) (v : Value) (f : OpD) (u : Value) (w : World) (hr : RdTm w v t) (hs : RdOp w u f) (_ : szTm t ≤ 1048576) (_ : szOp f ≤ 1048576) :
    Calls Try.prog 41 #[v, u] w fun e w' => e = .returned (.tuple #[.int .i64 (SKeepsAll t f).1, .int .i64 (SKeepsAll t f).2]) ∧ Ext w w' := by
  obtain ⟨tv, rfl, hr'⟩ := hr
  obtain ⟨ta, tc, rfl⟩ := hr'.form
  have hr : RdTm w _ t := ⟨_, rfl, hr'⟩
  obtain ⟨tu, rfl, hs'⟩ := hs
  obtain ⟨fa, fc, rfl⟩ := hs'.form
  have hs : RdOp w _ f := ⟨_, rfl, hs'⟩
  have hE1 : Ext w ((w.alloc (.cells #[.int .i64 t.1, .slice ta t.2.length tc] 64)).alloc (.cells #[.int .i64 f.1, .slice fa f.2.length fc] 41)) := ((Ext.refl' w).alloc (Nat.le_refl _) _).alloc (by simp) _
  have hp : PtTm ((w.alloc (.cells #[.int .i64 t.1, .slice ta t.2.length tc] 64)).alloc (.cells #[.int .i64 f.1, .slice fa f.2.length fc] 41)) (.pointer (some ⟨w.heap.size, 0, none⟩)) t := ⟨_, _, _, rfl, by simp [go_sem], by simp [go_sem], hr'.ext hE1⟩
  have hq : PtOp ((w.alloc (.cells #[.int .i64 t.1, .slice ta t.2.length tc] 64)).alloc (.cells #[.int .i64 f.1, .slice fa f.2.length fc] 41)) (.pointer (some ⟨w.heap.size + 1, 0, none⟩)) f := ⟨_, _, _, rfl, by simp [go_sem], by simp [go_sem], hs'.ext hE1⟩
  cases h1 : SValidTemplate t with
  | false =>
    rw [kall_1 (by rw [h1]; rfl)]
    go_enter Try.func41, Try.ntmps41
    go_wp2_with fail
    refine (l01Template_any t _ _ hp).mono ?_
    rintro e w1 ⟨rfl, hE⟩
    rw [h1]
    have b0 := hE.cell (p := ⟨w.heap.size, 0, none⟩) (v := .int .i64 t.1) (by simp [go_sem])
    have b1 := hE.cell (p := ⟨w.heap.size, 1, none⟩) (v := .slice ta t.2.length tc) (by simp [go_sem])
    replace hp := hp.ext hE
    replace hq := hq.ext hE
    replace hE := hE1.tr hE
    go_wp2_with fail
    go_ret2
    exact ⟨rfl, hE⟩
  | true =>
    cases h2 : SValidOp t.1 f with
    | false =>
      rw [kall_1 (by rw [h1, h2]; rfl)]
      go_enter Try.func41, Try.ntmps41
      go_wp2_with fail
      refine (l01Template_any t _ _ hp).mono ?_
      rintro e w1 ⟨rfl, hE⟩
      rw [h1]
      have b0 := hE.cell (p := ⟨w.heap.size, 0, none⟩) (v := .int .i64 t.1) (by simp [go_sem])
      have b1 := hE.cell (p := ⟨w.heap.size, 1, none⟩) (v := .slice ta t.2.length tc) (by simp [go_sem])
      replace hp := hp.ext hE
      replace hq := hq.ext hE
      replace hE := hE1.tr hE
      go_wp2_with fail
      refine (l02Ok_any t.1 f _ _ hq).mono ?_
      rintro e w2 ⟨rfl, hQ2⟩
      rw [h2]
      have hE2 := hQ2.ext
      replace hp := hp.ext hE2
      replace hq := hq.ext hE2
      replace hE := hE.tr hE2
      clear hE2 hQ2
      go_wp2_with fail
      go_ret2
      exact ⟨rfl, hE⟩
    | true =>
      rw [kall_0 h1 h2]
      go_enter Try.func41, Try.ntmps41
      go_wp2_with fail
      refine (l01Template_any t _ _ hp).mono ?_
      rintro e w1 ⟨rfl, hE⟩
      rw [h1]
      have b0 := hE.cell (p := ⟨w.heap.size, 0, none⟩) (v := .int .i64 t.1) (by simp [go_sem])
      have b1 := hE.cell (p := ⟨w.heap.size, 1, none⟩) (v := .slice ta t.2.length tc) (by simp [go_sem])
      replace hp := hp.ext hE
      replace hq := hq.ext hE
      replace hE := hE1.tr hE
      go_wp2_with fail
      refine (l02Ok_any t.1 f _ _ hq).mono ?_
      rintro e w2 ⟨rfl, hQ2⟩
      rw [h2]
      have hE2 := hQ2.ext
      replace hp := hp.ext hE2
      replace hq := hq.ext hE2
      replace hE := hE.tr hE2
      clear hE2 hQ2
      go_wp2_with fail
      refine (l02First_any t _ f _ _ hp hq h1 h2).mono ?_
      rintro e w3 ⟨rfl, hE3⟩
      go_wp2_with fail
      go_ret2
      exact ⟨rfl, hE.tr hE3⟩
end Go.Proofs.Ytemhmpnnccmlmaa
