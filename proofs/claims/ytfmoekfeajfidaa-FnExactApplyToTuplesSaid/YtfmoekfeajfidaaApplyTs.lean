
/- ApplyToTuples: the program's and the reference's give one function's answers. -/
import Derived.Test.YtfmoekfeajfidaaMade
import Derived.Test.YtfmoekfeajfidaaFuncII
import Derived.Test.YtfmoekfeajfidaaSteps
namespace Go.Proofs.Ytfmoekfeajfidaa
open Go.RowKit
set_option linter.unusedVariables false

def tsOk (s : Int) (ts : List (List Int)) : Bool := !(ts.any fun t => !vals s t (ts.getD 0 []).length)
def SApplyToTuples (s : Int) (f : Int × List Int) (ts : List (List Int)) : List Int × Int :=
  if SValidOp s f then if (ts.length : Int) = f.1 ∧ tsOk s ts = true then (SMake s f ts, 0) else ([], 2) else ([], 1)
theorem ats_1 {s : Int} {f : Int × List Int} {ts : List (List Int)} (h : SValidOp s f = false) : SApplyToTuples s f ts = ([], 1) := by unfold SApplyToTuples; rw [h]; rfl
theorem ats_2 {s : Int} {f : Int × List Int} {ts : List (List Int)} (h : SValidOp s f = true) (h2 : ¬ ((ts.length : Int) = f.1 ∧ tsOk s ts = true)) : SApplyToTuples s f ts = ([], 2) := by unfold SApplyToTuples; rw [h, if_neg h2]; rfl
theorem ats_0 {s : Int} {f : Int × List Int} {ts : List (List Int)} (h : SValidOp s f = true) (h2 : (ts.length : Int) = f.1) (h3 : tsOk s ts = true) : SApplyToTuples s f ts = (SMake s f ts, 0) := by unfold SApplyToTuples; rw [h, if_pos (show (ts.length : Int) = f.1 ∧ tsOk s ts = true from ⟨h2, h3⟩)]; rfl
theorem tsOk_all {s : Int} {ts : List (List Int)} (h : tsOk s ts = true) : ∀ t ∈ ts, vals s t (ts.getD 0 []).length = true := by
  unfold tsOk at h
  rw [Bool.not_eq_true', List.any_eq_false] at h
  exact fun t ht => by simpa using h t ht
theorem first_le {ts : List (List Int)} (hz : szII ts ≤ 1048576) : (ts.getD 0 []).length ≤ 1048576 := by
  by_cases h : 0 < ts.length
  · rw [first_eq h]; exact Nat.le_trans (elem_le_szII h) hz
  · rw [List.getD_eq_getElem?_getD, List.getElem?_eq_none (by omega)]; simp

set_option maxHeartbeats 4000000 in
set_option maxRecDepth 100000 in
theorem implApplyToTuples_any (s : Int) (f : Int × List Int) (v : Value) (ts : List (List Int)) (u : Value) (w : World) (hr : RdOp w v f) (hs : RdII w u ts) (lo0 : -9223372036854775808 ≤ s) (hi0 : s ≤ 9223372036854775807) (hz1 : szOp f ≤ 1048576) (hz2 : szII ts ≤ 1048576) :
    Calls Try.prog 48 #[.int .i64 s, v, u] w (IRes (SApplyToTuples s f ts) w) := by
  have hmf : ∀ (fn : Fn) (first cap : Array Value) (w : World), (Instr.makeFunc fn first cap).run Try.prog w = .ok (.func fn first cap) w := fun _ _ _ _ => rfl
  obtain ⟨tv, rfl, hr'⟩ := hr
  obtain ⟨ta, tc, rfl⟩ := hr'.form
  have hr : RdOp w _ f := ⟨_, rfl, hr'⟩
  obtain ⟨ua, uc, rfl⟩ := hs.form
  have hlen : ts.length ≤ 1048576 := Nat.le_trans (len_le_szII _) hz2
  have hE1 : Ext w (((w.alloc (.cells #[.int .i64 s] 2)).alloc (.cells #[.int .i64 f.1, .slice ta f.2.length tc] 30)).alloc (.cells #[.slice ua ts.length uc] 57)) := (((Ext.refl' w).alloc (Nat.le_refl _) _).alloc (by simp) _).alloc (by simp; omega) _
  cases h1 : SValidOp s f with
  | false =>
    rw [ats_1 h1]
    go_enter Try.func48, Try.ntmps48
    go_wp2_with fail
    refine (implValidOp_ok _ _ _ _ (hr.ext hE1)).mono ?_
    rintro e w1 ⟨rfl, hE⟩
    rw [h1]
    have b0 := hE.cell (p := ⟨w.heap.size, 0, none⟩) (v := .int .i64 s) (by simp [go_sem])
    have b1 := hE.cell (p := ⟨w.heap.size + 1, 0, none⟩) (v := .int .i64 f.1) (by simp [go_sem])
    have b2 := hE.cell (p := ⟨w.heap.size + 1, 1, none⟩) (v := .slice ta f.2.length tc) (by simp [go_sem])
    have b3 := hE.cell (p := ⟨w.heap.size + 1 + 1, 0, none⟩) (v := .slice ua ts.length uc) (by simp [go_sem])
    replace hE := hE1.tr hE
    go_wp2_with fail
    go_ret2
    exact IRes.no hE
  | true =>
    obtain ⟨⟨hs1, hs2⟩, ⟨hf1, hf2⟩, -, -⟩ := valid_iff.1 h1
    by_cases h2 : (ts.length : Int) = f.1
    · have hb : ((ts.length : Int) != f.1) = false := by simp [h2]
      have h0 : 0 < ts.length := by omega
      have H2 := Lib.hid h2
      have hmb : mkOp f ≤ 1048576 := hz1
      cases h3 : tsOk s ts with
      | false =>
        rw [ats_2 h1 (by rw [h3]; simp)]
        have h3' : (ts.any fun t => !vals s t (ts.getD 0 []).length) = true := by unfold tsOk at h3; simpa using h3
        go_enter Try.func48, Try.ntmps48
        go_wp2_with fail
        refine (implValidOp_ok _ _ _ _ (hr.ext hE1)).mono ?_
        rintro e w1 ⟨rfl, hE⟩
        rw [h1]
        have b0 := hE.cell (p := ⟨w.heap.size, 0, none⟩) (v := .int .i64 s) (by simp [go_sem])
        have b1 := hE.cell (p := ⟨w.heap.size + 1, 0, none⟩) (v := .int .i64 f.1) (by simp [go_sem])
        have b2 := hE.cell (p := ⟨w.heap.size + 1, 1, none⟩) (v := .slice ta f.2.length tc) (by simp [go_sem])
        have b3 := hE.cell (p := ⟨w.heap.size + 1 + 1, 0, none⟩) (v := .slice ua ts.length uc) (by simp [go_sem])
        replace hE := hE1.tr hE
        have H1 := Lib.hid h1
        clear h1 h2
        go_wp2_with fail
        refine (containsFuncII_any (fun t => !vals s t (ts.getD 0 []).length) ts _ _ _ _ _ (hs.ext hE) Try.call88 ?_).mono ?_
        · intro t _ vt w' hEc ht
          have b0 := hEc.cell b0
          have b3 := hEc.cell b3
          obtain ⟨a, b, off, cap, vs, hsl, hlc, hcm, ha, hc⟩ := hs
          simp only [Value.slice.injEq] at hsl
          obtain ⟨rfl, -, rfl⟩ := hsl
          obtain rfl := ha h0
          obtain ⟨k1, k2⟩ := hc 0 h0
          rw [Nat.add_zero] at k1
          replace k1 := hEc.cell (hE.cell k1)
          obtain ⟨xa, xc, hx0⟩ := k2.form
          rw [hx0, ← first_eq h0] at k1
          obtain ⟨za, zc, rfl⟩ := ht.form
          generalize ts.getD 0 [] = t0 at k1 ⊢
          clear hx0 hc
          simp only [List.append_toArray, List.nil_append, List.cons_append]
          go_enter Try.func88, Try.ntmps88
          go_wp2_with fail
          refine region_sp [] [8] [SP.val (.int .i64 s), SP.val (.slice za t.length zc), SP.val (.slice (some ⟨b, off, none⟩) ts.length uc), SP.val (.pointer (some ⟨b, off, none⟩)), SP.val (.slice xa t0.length xc), SP.val (.int .i64 (t0.length : Nat)), SP.val (.bool (vals s t t0.length)), SP.val (.bool (!(vals s t t0.length))), SP.any] (by kernel_rfl) (fun _ d _ _ _ h => by cases d <;> exact h) (by kernel_rfl) (by kernel_rfl)
            (.cons (fun vs y hY => Step.load ⟨w.heap.size, 0, none⟩ rfl rfl rfl (by simp [go_sem, hY.cell b0]) rfl) <|
             .cons (fun vs y hY => Step.move rfl rfl rfl rfl) <|
             .cons (fun vs y hY => Step.load ⟨(w.heap.size + 1 + 1), 0, none⟩ rfl rfl rfl (by simp [go_sem, hY.cell b3]) rfl) <|
             .cons (fun vs y hY g2_0 => Step.indexAtP (n := .int .i64 0) ⟨b, off, none⟩ rfl rfl g2_0 rfl (by simp [go_sem, Instr.indexAt, Addr.add, h0] <;> omega) rfl) <|
             .cons (fun vs y hY g3_0 => Step.load ⟨b, off, none⟩ rfl rfl g3_0 (by simp [go_sem, hY.cell k1]) rfl) <|
             .cons (fun vs y hY g4_0 => Step.len Try.underlying25 rfl rfl g4_0 rfl) <|
             .cons (fun vs y hY g0_0 g1_1 g5_2 => Step.call Try.call59 rfl rfl [vs 0, vs 1, vs 5] rfl rfl (by rw [show vs 0 = _ from g0_0, show vs 1 = _ from g1_1, show vs 5 = _ from g5_2]; exact (Calls.spe (areValues_any s t _ _ _ (ht.ext hY) (by omega) (by omega))))) <|
             .cons (fun vs y hY g6_0 => Step.not rfl rfl g6_0 rfl) <|
             .skip rfl <|
             .nil) ?_
          intro vs w3 hC hL
          have r0 : vs 0 = _ := hL 0 (by decide) rfl
          have r1 : vs 1 = _ := hL 1 (by decide) rfl
          have r2 : vs 2 = _ := hL 2 (by decide) rfl
          have r3 : vs 3 = _ := hL 3 (by decide) rfl
          have r4 : vs 4 = _ := hL 4 (by decide) rfl
          have r5 : vs 5 = _ := hL 5 (by decide) rfl
          have r6 : vs 6 = _ := hL 6 (by decide) rfl
          have r7 : vs 7 = _ := hL 7 (by decide) rfl
          clear hL
          simp only [putAll, Act.put, List.contains_cons, List.contains_nil, Nat.reduceBEq, Nat.reduceAdd, Bool.or_false, cond_true, cond_false, List.setIfInBounds_toArray, List.set_cons_succ, List.set_cons_zero, List.filterMap_cons, List.filterMap_nil, List.getElem?_cons_succ, List.getElem?_cons_zero, r0, r1, r2, r3, r4, r5, r6, r7]
          clear r0 r1 r2 r3 r4 r5 r6 r7
          go_wp2_with fail
          go_ret
          exact ⟨rfl, hC⟩
        rintro e w2 ⟨rfl, hE2⟩
        replace b0 := hE2.cell b0
        replace b1 := hE2.cell b1
        replace b2 := hE2.cell b2
        replace b3 := hE2.cell b3
        replace hE := hE.tr hE2
        rw [h3']
        go_wp2_with fail
        go_ret2
        exact IRes.no hE
      | true =>
        rw [ats_0 h1 h2 h3]
        have h3' : (ts.any fun t => !vals s t (ts.getD 0 []).length) = false := by unfold tsOk at h3; simpa using h3
        have HV := Lib.hid (tsOk_all h3)
        clear h3
        go_enter Try.func48, Try.ntmps48
        go_wp2_with fail
        refine (implValidOp_ok _ _ _ _ (hr.ext hE1)).mono ?_
        rintro e w1 ⟨rfl, hE⟩
        rw [h1]
        have b0 := hE.cell (p := ⟨w.heap.size, 0, none⟩) (v := .int .i64 s) (by simp [go_sem])
        have b1 := hE.cell (p := ⟨w.heap.size + 1, 0, none⟩) (v := .int .i64 f.1) (by simp [go_sem])
        have b2 := hE.cell (p := ⟨w.heap.size + 1, 1, none⟩) (v := .slice ta f.2.length tc) (by simp [go_sem])
        have b3 := hE.cell (p := ⟨w.heap.size + 1 + 1, 0, none⟩) (v := .slice ua ts.length uc) (by simp [go_sem])
        replace hE := hE1.tr hE
        have H1 := Lib.hid h1
        clear h1 h2
        go_wp2_with fail
        refine (containsFuncII_any (fun t => !vals s t (ts.getD 0 []).length) ts _ _ _ _ _ (hs.ext hE) Try.call88 ?_).mono ?_
        · intro t _ vt w' hEc ht
          have b0 := hEc.cell b0
          have b3 := hEc.cell b3
          obtain ⟨a, b, off, cap, vs, hsl, hlc, hcm, ha, hc⟩ := hs
          simp only [Value.slice.injEq] at hsl
          obtain ⟨rfl, -, rfl⟩ := hsl
          obtain rfl := ha h0
          obtain ⟨k1, k2⟩ := hc 0 h0
          rw [Nat.add_zero] at k1
          replace k1 := hEc.cell (hE.cell k1)
          obtain ⟨xa, xc, hx0⟩ := k2.form
          rw [hx0, ← first_eq h0] at k1
          obtain ⟨za, zc, rfl⟩ := ht.form
          generalize ts.getD 0 [] = t0 at k1 ⊢
          clear hx0 hc
          simp only [List.append_toArray, List.nil_append, List.cons_append]
          go_enter Try.func88, Try.ntmps88
          go_wp2_with fail
          refine region_sp [] [8] [SP.val (.int .i64 s), SP.val (.slice za t.length zc), SP.val (.slice (some ⟨b, off, none⟩) ts.length uc), SP.val (.pointer (some ⟨b, off, none⟩)), SP.val (.slice xa t0.length xc), SP.val (.int .i64 (t0.length : Nat)), SP.val (.bool (vals s t t0.length)), SP.val (.bool (!(vals s t t0.length))), SP.any] (by kernel_rfl) (fun _ d _ _ _ h => by cases d <;> exact h) (by kernel_rfl) (by kernel_rfl)
            (.cons (fun vs y hY => Step.load ⟨w.heap.size, 0, none⟩ rfl rfl rfl (by simp [go_sem, hY.cell b0]) rfl) <|
             .cons (fun vs y hY => Step.move rfl rfl rfl rfl) <|
             .cons (fun vs y hY => Step.load ⟨(w.heap.size + 1 + 1), 0, none⟩ rfl rfl rfl (by simp [go_sem, hY.cell b3]) rfl) <|
             .cons (fun vs y hY g2_0 => Step.indexAtP (n := .int .i64 0) ⟨b, off, none⟩ rfl rfl g2_0 rfl (by simp [go_sem, Instr.indexAt, Addr.add, h0] <;> omega) rfl) <|
             .cons (fun vs y hY g3_0 => Step.load ⟨b, off, none⟩ rfl rfl g3_0 (by simp [go_sem, hY.cell k1]) rfl) <|
             .cons (fun vs y hY g4_0 => Step.len Try.underlying25 rfl rfl g4_0 rfl) <|
             .cons (fun vs y hY g0_0 g1_1 g5_2 => Step.call Try.call59 rfl rfl [vs 0, vs 1, vs 5] rfl rfl (by rw [show vs 0 = _ from g0_0, show vs 1 = _ from g1_1, show vs 5 = _ from g5_2]; exact (Calls.spe (areValues_any s t _ _ _ (ht.ext hY) (by omega) (by omega))))) <|
             .cons (fun vs y hY g6_0 => Step.not rfl rfl g6_0 rfl) <|
             .skip rfl <|
             .nil) ?_
          intro vs w3 hC hL
          have r0 : vs 0 = _ := hL 0 (by decide) rfl
          have r1 : vs 1 = _ := hL 1 (by decide) rfl
          have r2 : vs 2 = _ := hL 2 (by decide) rfl
          have r3 : vs 3 = _ := hL 3 (by decide) rfl
          have r4 : vs 4 = _ := hL 4 (by decide) rfl
          have r5 : vs 5 = _ := hL 5 (by decide) rfl
          have r6 : vs 6 = _ := hL 6 (by decide) rfl
          have r7 : vs 7 = _ := hL 7 (by decide) rfl
          clear hL
          simp only [putAll, Act.put, List.contains_cons, List.contains_nil, Nat.reduceBEq, Nat.reduceAdd, Bool.or_false, cond_true, cond_false, List.setIfInBounds_toArray, List.set_cons_succ, List.set_cons_zero, List.filterMap_cons, List.filterMap_nil, List.getElem?_cons_succ, List.getElem?_cons_zero, r0, r1, r2, r3, r4, r5, r6, r7]
          clear r0 r1 r2 r3 r4 r5 r6 r7
          go_wp2_with fail
          go_ret
          exact ⟨rfl, hC⟩
        rintro e w2 ⟨rfl, hE2⟩
        replace b0 := hE2.cell b0
        replace b1 := hE2.cell b1
        replace b2 := hE2.cell b2
        replace b3 := hE2.cell b3
        replace hE := hE.tr hE2
        rw [h3']
        go_wp2_with fail
        refine (made_any s f _ ts _ _ (hr.ext hE) (hs.ext hE) H1.out H2.out HV.out (first_le hz2)).mono ?_
        rintro e w3 ⟨x, fp, rfl, hE3, ho, hfr⟩
        go_wp2_with fail
        go_ret2
        exact IRes.of rfl (hE.tr hE3) ho (fun g hg => by have := hfr g hg; have := hE.size; omega) (by rw [SMake_length]; exact first_le hz2)
    · have hb : ((ts.length : Int) != f.1) = true := by simp [h2]
      rw [ats_2 h1 (fun h => h2 h.1)]
      clear h2
      go_enter Try.func48, Try.ntmps48
      go_wp2_with fail
      refine (implValidOp_ok _ _ _ _ (hr.ext hE1)).mono ?_
      rintro e w1 ⟨rfl, hE⟩
      rw [h1]
      have b0 := hE.cell (p := ⟨w.heap.size, 0, none⟩) (v := .int .i64 s) (by simp [go_sem])
      have b1 := hE.cell (p := ⟨w.heap.size + 1, 0, none⟩) (v := .int .i64 f.1) (by simp [go_sem])
      have b2 := hE.cell (p := ⟨w.heap.size + 1, 1, none⟩) (v := .slice ta f.2.length tc) (by simp [go_sem])
      have b3 := hE.cell (p := ⟨w.heap.size + 1 + 1, 0, none⟩) (v := .slice ua ts.length uc) (by simp [go_sem])
      replace hE := hE1.tr hE
      go_wp2_with fail
      go_ret2
      exact IRes.no hE

set_option maxHeartbeats 4000000 in
set_option maxRecDepth 100000 in
theorem specApplyToTuples_any (s : Int) (f : Int × List Int) (v : Value) (ts : List (List Int)) (u : Value) (w : World) (hr : RdOp w v f) (hs : RdII w u ts) (lo0 : -9223372036854775808 ≤ s) (hi0 : s ≤ 9223372036854775807) (hz1 : szOp f ≤ 1048576) (hz2 : szII ts ≤ 1048576) :
    Calls Try.prog 46 #[.int .i64 s, v, u] w (IRes (SApplyToTuples s f ts) w) := by
  obtain ⟨tv, rfl, hr⟩ := hr
  obtain ⟨ta, tc, rfl⟩ := hr.form
  obtain ⟨ua, uc, rfl⟩ := hs.form
  have hlen : ts.length ≤ 1048576 := Nat.le_trans (len_le_szII _) hz2
  have hE1 : Ext w (w.alloc (.cells #[.int .i64 f.1, .slice ta f.2.length tc] 30)) := (Ext.refl' w).alloc (Nat.le_refl _) _
  have hp : PtOp (w.alloc (.cells #[.int .i64 f.1, .slice ta f.2.length tc] 30)) (.pointer (some ⟨w.heap.size, 0, none⟩)) f := ⟨_, _, _, rfl, by simp [go_sem], by simp [go_sem], hr.ext hE1⟩
  cases h1 : SValidOp s f with
  | false =>
    rw [ats_1 h1]
    go_enter Try.func46, Try.ntmps46
    go_wp2_with fail
    refine (l02Ok_any _ _ _ _ hp).mono ?_
    rintro e w1 ⟨rfl, hE⟩
    rw [h1]
    replace hE := hE.ext
    have b1 := hE.cell (p := ⟨w.heap.size, 0, none⟩) (v := .int .i64 f.1) (by simp [go_sem])
    have b2 := hE.cell (p := ⟨w.heap.size, 1, none⟩) (v := .slice ta f.2.length tc) (by simp [go_sem])
    replace hp := hp.ext hE
    replace hE := hE1.tr hE
    go_wp2_with fail
    go_ret2
    exact IRes.no2 (hE.alloc (by have := hE.size; omega) _) (by have := hE.size; omega) (World.ownsRow_made w1 #[] 0 (Nat.zero_le _) (by decide) rfl)
  | true =>
    obtain ⟨⟨hs1, hs2⟩, ⟨hf1, hf2⟩, -, -⟩ := valid_iff.1 h1
    by_cases h2 : (ts.length : Int) = f.1
    · have hb : ((ts.length : Int) != f.1) = false := by simp [h2]
      have h0 : 0 < ts.length := by omega
      go_enter Try.func46, Try.ntmps46
      go_wp2_with fail
      refine (l02Ok_any _ _ _ _ hp).mono ?_
      rintro e w1 ⟨rfl, hE⟩
      rw [h1]
      replace hE := hE.ext
      have b1 := hE.cell (p := ⟨w.heap.size, 0, none⟩) (v := .int .i64 f.1) (by simp [go_sem])
      have b2 := hE.cell (p := ⟨w.heap.size, 1, none⟩) (v := .slice ta f.2.length tc) (by simp [go_sem])
      replace hp := hp.ext hE
      replace hE := hE1.tr hE
      have H1 := Lib.hid h1
      have H2 := Lib.hid h2
      have hs' := hs
      obtain ⟨a, b, off, cap, vs, hsl, hlc, hcm, ha, hc⟩ := hs
      simp only [Value.slice.injEq] at hsl
      obtain ⟨rfl, -, rfl⟩ := hsl
      obtain rfl := ha h0
      obtain ⟨k1, k2⟩ := hc 0 h0
      rw [Nat.add_zero] at k1
      obtain ⟨xa, xc, hx0⟩ := k2.form
      obtain ⟨L, hL⟩ : ∃ L, L = (ts.getD 0 []).length := ⟨_, rfl⟩
      rw [hx0, ← first_eq h0, ← hL] at k1
      have hLb : L ≤ 1048576 := hL ▸ first_le hz2
      have HL := Lib.hid hL
      have HC := Lib.hid hc
      have K1 := Lib.hid k1
      clear h1 h2 hx0 hc k1 k2 hL
      go_wp2_with fail
      go_loopw [8] (fun i wr => ∃ k : Nat, k ≤ ts.length ∧ i = .int .i64 k ∧ Qt w1 wr ∧ (ts.take k).any (fun t => !vals s t L) = false) (fun i _ => ts.length - (intOf i).toNat)
      case atStart => exact ⟨0, by omega, rfl, Qt.refl _, rfl⟩
      case round =>
        obtain ⟨k, hk, rfl, hQ, ht⟩ := hrel
        have HT := Lib.hid ht
        clear ht
        have hEE := hE.tr hQ.ext
        have k1 := hEE.cell K1.out
        by_cases hkl : k < ts.length
        · obtain ⟨m1, m2⟩ := HC.out k hkl
          replace m1 := hEE.cell m1
          replace m2 := m2.ext hEE
          have HK := Lib.hid (any_take_succ (fun t => !vals s t L) ts k hkl)
          have hnx : ∀ b, vals s ts[k] L = b → (ts.take (k + 1)).any (fun t => !vals s t L) = !b := fun b hb => by rw [HK.out, HT.out, hb]; rfl
          have HNX := Lib.hid hnx
          generalize vs k = y at m1 m2
          obtain ⟨ya, yc, rfl⟩ := m2.form
          cases hv : vals s ts[k] L with
          | true =>
            have HI := Lib.hid (HNX.out true hv)
            clear hnx
            go_wp2_with fail
            go_quiet ((go_at_call 68; exact Calls.qsv (.bool true) (l01Tuple_any s _ _ _ _ (m2.ext (Qt.ext ⟨_, rfl⟩)) (by omega) (by omega)) (by rw [hv])))
            have hQ2 : Qt w1 (wr.drewN nq) := hQ.drewN _
            go_wp2_with fail
            go_roundw
            case rel => exact ⟨k + 1, by omega, by go_num, hQ2, HI.out⟩
            case measure => simp [intOf]; omega
          | false =>
            have HA := Lib.hid (ats_2 (ts := ts) H1.out (by
              rintro ⟨_, h⟩
              have := tsOk_all h ts[k] (List.getElem_mem hkl)
              rw [← HL.out, hv] at this
              cases this))
            clear hnx
            go_wp2_with fail
            go_quiet ((go_at_call 68; exact Calls.qsv (.bool false) (l01Tuple_any s _ _ _ _ (m2.ext (Qt.ext ⟨_, rfl⟩)) (by omega) (by omega)) (by rw [hv])))
            have hE := hEE.tr (Qt.ext (w := wr) (w' := wr.drewN nq) ⟨_, rfl⟩)
            generalize wr.drewN nq = w5 at hE ⊢
            go_wp2_with fail
            go_ret2
            rw [HA.out]
            exact IRes.no2 (hE.alloc (by have := hE.size; omega) _) (by have := hE.size; omega) (World.ownsRow_made w5 #[] 0 (Nat.zero_le _) (by decide) rfl)
        · have hkk : k = ts.length := by omega
          have h3 : tsOk s ts = true := by
            have := HT.out
            rw [hkk, List.take_length] at this
            unfold tsOk
            rw [← HL.out, this]
            rfl
          have HA := Lib.hid (ats_0 H1.out H2.out h3)
          have HV := Lib.hid (tsOk_all h3)
          replace hp := hp.ext hQ.ext
          clear h3
          go_wp2_with fail
          refine (l02Make_any s f _ ts _ _ hp (hs'.ext hEE) H1.out H2.out HV.out (first_le hz2)).mono ?_
          rintro e w3 ⟨x, fp, rfl, hE3, ho, hfr⟩
          go_wp2_with fail
          go_ret2
          rw [HA.out]
          exact IRes.of rfl (hEE.tr hE3) ho (fun g hg => by have := hfr g hg; have := hEE.size; omega) (by rw [SMake_length]; exact first_le hz2)
    · have hb : ((ts.length : Int) != f.1) = true := by simp [h2]
      rw [ats_2 h1 (fun h => h2 h.1)]
      clear h2
      go_enter Try.func46, Try.ntmps46
      go_wp2_with fail
      refine (l02Ok_any _ _ _ _ hp).mono ?_
      rintro e w1 ⟨rfl, hE⟩
      rw [h1]
      replace hE := hE.ext
      have b1 := hE.cell (p := ⟨w.heap.size, 0, none⟩) (v := .int .i64 f.1) (by simp [go_sem])
      have b2 := hE.cell (p := ⟨w.heap.size, 1, none⟩) (v := .slice ta f.2.length tc) (by simp [go_sem])
      replace hp := hp.ext hE
      replace hE := hE1.tr hE
      go_wp2_with fail
      go_ret2
      exact IRes.no2 (hE.alloc (by have := hE.size; omega) _) (by have := hE.size; omega) (World.ownsRow_made w1 #[] 0 (Nat.zero_le _) (by decide) rfl)
end Go.Proofs.Ytfmoekfeajfidaa
