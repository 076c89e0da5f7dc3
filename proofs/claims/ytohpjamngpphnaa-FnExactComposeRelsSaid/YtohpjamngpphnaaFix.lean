
/- FixPlace: the program's and the reference's give one function's answers. -/
import Derived.Test.YtohpjamngpphnaaRelSp
namespace Go.Proofs.Ytohpjamngpphnaa
open Go.RowKit
set_option linter.unusedVariables false

def fixP (r : Int × List (List Int)) (p x : Int) (t : List Int) : Bool := decide (t.getD p.toNat 0 = x) && hasT r t
def SFixPlace (s : Int) (r : Int × List (List Int)) (p x : Int) : (Int × List (List Int)) × Int :=
  if SValidRel s r then if inB p 0 (r.1 - 1) && inB x 0 (s - 1) then (SrelOf s r.1 (fixP r p x), 0) else (noRel, 2) else (noRel, 1)
theorem fix_1 {s : Int} {r : Int × List (List Int)} {p x : Int} (h : SValidRel s r = false) : SFixPlace s r p x = (noRel, 1) := by unfold SFixPlace; rw [h]; rfl
theorem fix_2 {s : Int} {r : Int × List (List Int)} {p x : Int} (h : SValidRel s r = true) (h2 : (inB p 0 (r.1 - 1) && inB x 0 (s - 1)) = false) : SFixPlace s r p x = (noRel, 2) := by unfold SFixPlace; rw [h, h2]; rfl
theorem fix_0 {s : Int} {r : Int × List (List Int)} {p x : Int} (h : SValidRel s r = true) (h2 : inB p 0 (r.1 - 1) = true) (h3 : inB x 0 (s - 1) = true) : SFixPlace s r p x = (SrelOf s r.1 (fixP r p x), 0) := by unfold SFixPlace; rw [h, h2, h3]; rfl

set_option maxHeartbeats 1000000 in
set_option maxRecDepth 100000 in
theorem implFixPlace_any (s : Int) (r : Int × List (List Int)) (v : Value) (p x : Int) (w : World) (hr : RdRel w v r) (_ : -9223372036854775808 ≤ s) (_ : s ≤ 9223372036854775807) (lo2 : -9223372036854775808 ≤ p) (hi2 : p ≤ 9223372036854775807) (lo3 : -9223372036854775808 ≤ x) (hi3 : x ≤ 9223372036854775807) (hz : szRel r ≤ 1048576) :
    Calls Try.prog 35 #[.int .i64 s, v, .int .i64 p, .int .i64 x] w (RelRes (SFixPlace s r p x) w) := by
  have hmf : ∀ (fn : Fn) (first cap : Array Value) (w : World), (Instr.makeFunc fn first cap).run Try.prog w = .ok (.func fn first cap) w := fun _ _ _ _ => rfl
  obtain ⟨tv, rfl, hr'⟩ := hr
  obtain ⟨ta, tc, rfl⟩ := hr'.form
  have hr : RdRel w _ r := ⟨_, rfl, hr'⟩
  have hE1 : Ext w ((((w.alloc (.cells #[.int .i64 r.1, .slice ta r.2.length tc] 24)).alloc (.cells #[.int .i64 p] 2)).alloc (.cells #[.int .i64 x] 2)).alloc (.cells #[.int .i64 0, .slice none 0 0] 24)) := ((((Ext.refl' w).alloc (Nat.le_refl _) _).alloc (by simp) _).alloc (by simp; omega) _).alloc (by simp; omega) _
  cases h1 : SValidRel s r with
  | false =>
    rw [fix_1 h1]
    go_enter Try.func35, Try.ntmps35
    go_wp2_with fail
    refine (implValidRel_ok s r _ _ (hr.ext hE1)).mono ?_
    rintro e w1 ⟨rfl, hE⟩
    rw [h1]
    have d0 := hE.cell (p := ⟨w.heap.size + 1 + 1 + 1, 0, none⟩) (v := .int .i64 0) (by simp [go_sem])
    have d1 := hE.cell (p := ⟨w.heap.size + 1 + 1 + 1, 1, none⟩) (v := .slice none 0 0) (by simp [go_sem])
    have f2 := hE.frozen (p := ⟨w.heap.size + 1 + 1 + 1, 0, none⟩) (by simp)
    have f3 := hE.frozen (p := ⟨w.heap.size + 1 + 1 + 1, 1, none⟩) (by simp)
    simp [go_sem] at f2 f3
    replace hE := hE1.tr hE
    go_wp2_with fail
    exact bodyPost_ret (v := .tuple #[.agg #[.int .i64 0, .slice none 0 0], .int .i64 1]) (by simp [results, Try.results35, go_sem, d0, d1]) rfl (RelRes.no ((hE.setCell (by simp <;> omega) _).setCell (by simp <;> omega) _))
  | true =>
    obtain ⟨⟨hs1, hs2⟩, ⟨hm1, hm2⟩, -⟩ := valid_parts h1
    cases h2 : inB p 0 (r.1 - 1) with
    | false =>
      rw [fix_2 h1 (by rw [h2]; rfl)]
      go_enter Try.func35, Try.ntmps35
      go_wp2_with fail
      refine (implValidRel_ok s r _ _ (hr.ext hE1)).mono ?_
      rintro e w1 ⟨rfl, hE⟩
      rw [h1]
      have c0 := hE.cell (p := ⟨w.heap.size, 0, none⟩) (v := .int .i64 r.1) (by simp [go_sem])
      have c1 := hE.cell (p := ⟨w.heap.size, 1, none⟩) (v := .slice ta r.2.length tc) (by simp [go_sem])
      have cp := hE.cell (p := ⟨w.heap.size + 1, 0, none⟩) (v := .int .i64 p) (by simp [go_sem])
      have cx := hE.cell (p := ⟨w.heap.size + 1 + 1, 0, none⟩) (v := .int .i64 x) (by simp [go_sem])
      have d0 := hE.cell (p := ⟨w.heap.size + 1 + 1 + 1, 0, none⟩) (v := .int .i64 0) (by simp [go_sem])
      have d1 := hE.cell (p := ⟨w.heap.size + 1 + 1 + 1, 1, none⟩) (v := .slice none 0 0) (by simp [go_sem])
      have f2 := hE.frozen (p := ⟨w.heap.size + 1 + 1 + 1, 0, none⟩) (by simp)
      have f3 := hE.frozen (p := ⟨w.heap.size + 1 + 1 + 1, 1, none⟩) (by simp)
      simp [go_sem] at f2 f3
      replace hE := hE1.tr hE
      go_wp2_with fail
      refine (within_any _ _ _ _).mono ?_
      rintro e w2 ⟨rfl, rfl⟩
      rw [h2]
      go_wp2_with fail
      exact bodyPost_ret (v := .tuple #[.agg #[.int .i64 0, .slice none 0 0], .int .i64 2]) (by simp [results, Try.results35, go_sem, d0, d1]) rfl (RelRes.no ((hE.setCell (by simp <;> omega) _).setCell (by simp <;> omega) _))
    | true =>
      cases h3 : inB x 0 (s - 1) with
      | false =>
        rw [fix_2 h1 (by rw [h2, h3]; rfl)]
        go_enter Try.func35, Try.ntmps35
        go_wp2_with fail
        refine (implValidRel_ok s r _ _ (hr.ext hE1)).mono ?_
        rintro e w1 ⟨rfl, hE⟩
        rw [h1]
        have c0 := hE.cell (p := ⟨w.heap.size, 0, none⟩) (v := .int .i64 r.1) (by simp [go_sem])
        have c1 := hE.cell (p := ⟨w.heap.size, 1, none⟩) (v := .slice ta r.2.length tc) (by simp [go_sem])
        have cp := hE.cell (p := ⟨w.heap.size + 1, 0, none⟩) (v := .int .i64 p) (by simp [go_sem])
        have cx := hE.cell (p := ⟨w.heap.size + 1 + 1, 0, none⟩) (v := .int .i64 x) (by simp [go_sem])
        have d0 := hE.cell (p := ⟨w.heap.size + 1 + 1 + 1, 0, none⟩) (v := .int .i64 0) (by simp [go_sem])
        have d1 := hE.cell (p := ⟨w.heap.size + 1 + 1 + 1, 1, none⟩) (v := .slice none 0 0) (by simp [go_sem])
        have f2 := hE.frozen (p := ⟨w.heap.size + 1 + 1 + 1, 0, none⟩) (by simp)
        have f3 := hE.frozen (p := ⟨w.heap.size + 1 + 1 + 1, 1, none⟩) (by simp)
        simp [go_sem] at f2 f3
        replace hE := hE1.tr hE
        go_wp2_with fail
        refine (within_any _ _ _ _).mono ?_
        rintro e w2 ⟨rfl, rfl⟩
        rw [h2]
        go_wp2_with fail
        refine (isValue_any _ _ _ (by omega) (by omega)).mono ?_
        rintro e w2 ⟨rfl, rfl⟩
        rw [h3]
        go_wp2_with fail
        exact bodyPost_ret (v := .tuple #[.agg #[.int .i64 0, .slice none 0 0], .int .i64 2]) (by simp [results, Try.results35, go_sem, d0, d1]) rfl (RelRes.no ((hE.setCell (by simp <;> omega) _).setCell (by simp <;> omega) _))
      | true =>
        rw [fix_0 h1 h2 h3]
        have hmk := mkRel_SrelOf (p := fixP r p x) hs1 hs2 hm1 hm2
        have hbp := inB_iff.1 h2
        obtain ⟨pn, hpn⟩ := Int.eq_ofNat_of_zero_le hbp.1
        have hpl : (pn : Int) < r.1 := by omega
        have HPN := Lib.hid hpn
        clear hpn
        go_enter Try.func35, Try.ntmps35
        go_wp2_with fail
        refine (implValidRel_ok s r _ _ (hr.ext hE1)).mono ?_
        rintro e w1 ⟨rfl, hE⟩
        rw [h1]
        have c0 := hE.cell (p := ⟨w.heap.size, 0, none⟩) (v := .int .i64 r.1) (by simp [go_sem])
        have c1 := hE.cell (p := ⟨w.heap.size, 1, none⟩) (v := .slice ta r.2.length tc) (by simp [go_sem])
        have cp := hE.cell (p := ⟨w.heap.size + 1, 0, none⟩) (v := .int .i64 p) (by simp [go_sem])
        have cx := hE.cell (p := ⟨w.heap.size + 1 + 1, 0, none⟩) (v := .int .i64 x) (by simp [go_sem])
        have d0 := hE.cell (p := ⟨w.heap.size + 1 + 1 + 1, 0, none⟩) (v := .int .i64 0) (by simp [go_sem])
        have d1 := hE.cell (p := ⟨w.heap.size + 1 + 1 + 1, 1, none⟩) (v := .slice none 0 0) (by simp [go_sem])
        have f2 := hE.frozen (p := ⟨w.heap.size + 1 + 1 + 1, 0, none⟩) (by simp)
        have f3 := hE.frozen (p := ⟨w.heap.size + 1 + 1 + 1, 1, none⟩) (by simp)
        simp [go_sem] at f2 f3
        replace hE := hE1.tr hE
        go_wp2_with fail
        refine (within_any _ _ _ _).mono ?_
        rintro e w2 ⟨rfl, rfl⟩
        rw [h2]
        go_wp2_with fail
        refine (isValue_any _ _ _ (by omega) (by omega)).mono ?_
        rintro e w2 ⟨rfl, rfl⟩
        rw [h3]
        have H1 := Lib.hid h1
        clear h1 h2 h3
        go_wp2_with fail
        refine (relOf_any s r.1 (fixP r p x) 76 #[] _ _ hs1 hs2 hm1 hm2 Try.call76 ?_).mono ?_
        · intro k u w' _ hEc hx
          have c0 := hEc.cell c0
          have c1 := hEc.cell c1
          have cp := hEc.cell cp
          have cx := hEc.cell cx
          have hl := digs_length s r.1.toNat k
          generalize digs s r.1.toNat k = l at hx hl ⊢
          have hpl2 : pn < l.length := by omega
          have hlp : l.getD p.toNat 0 = l[pn] := by rw [HPN.out, Int.toNat_natCast, List.getD_eq_getElem?_getD, List.getElem?_eq_getElem hpl2]; rfl
          have hx0 := hx
          obtain ⟨a, b, off, c, rfl, hlc, hcm, ha, hc⟩ := hx
          obtain rfl := ha (by omega)
          have hck := hc pn hpl2
          clear hc
          simp only [List.append_toArray, List.nil_append, List.cons_append]
          rw [HPN.out] at cp
          by_cases hq : l[pn] = x
          · have hb : (l[pn] == x) = true := by simp [hq]
            have HF := Lib.hid (show fixP r p x l = hasT r l from by unfold fixP; rw [hlp, hq]; simp)
            clear hq hlp hl
            go_enter Try.func76, Try.ntmps76
            go_wp2_with fail
            refine region_sp [] [11] [SP.val (.slice (some ⟨b, off, none⟩) l.length c), SP.val (.int .i64 (pn : Nat)), SP.val (.pointer (some ⟨b, off + pn, none⟩)), SP.val (.int .i64 l[pn]), SP.val (.int .i64 x), SP.val (.bool true), SP.val (.bool true), SP.val (.agg #[.int .i64 r.1, .slice ta r.2.length tc]), SP.val (.slice (some ⟨b, off, none⟩) l.length c), SP.val (.bool (hasT r l)), SP.val (.bool (hasT r l)), SP.any] (by kernel_rfl) (fun _ d _ _ _ h => by cases d <;> exact h) (by kernel_rfl) (by kernel_rfl)
              (.cons (fun vs y hY => Step.move rfl rfl rfl rfl) <|
               .cons (fun vs y hY => Step.load ⟨(w.heap.size + 1), 0, none⟩ rfl rfl rfl (by simp [go_sem, hY.cell cp]) rfl) <|
               .cons (fun vs y hY g0_0 g1_1 => Step.indexAtP (n := .int .i64 (pn : Nat)) ⟨b, off + pn, none⟩ rfl rfl g0_0 g1_1 (by simp [go_sem, Instr.indexAt, Addr.add, hpl2] <;> omega) rfl) <|
               .cons (fun vs y hY g2_0 => Step.load ⟨b, off + pn, none⟩ rfl rfl g2_0 (by simp [go_sem, hY.cell hck]) rfl) <|
               .cons (fun vs y hY => Step.load ⟨(w.heap.size + 1 + 1), 0, none⟩ rfl rfl rfl (by simp [go_sem, hY.cell cx]) rfl) <|
               .cons (fun vs y hY g3_0 g4_1 => Step.bin (u := .int .i64 l[pn]) (v := .int .i64 x) rfl rfl g3_0 g4_1 (by simp [go_sem, hb]) rfl) <|
               .cons (fun vs y hY g5_0 => Step.move rfl rfl g5_0 rfl) <|
               .cons (fun vs y hY g6_0 => Step.on rfl rfl g6_0 (GivesR.load ⟨w.heap.size, 0, none⟩ rfl rfl (by simp [go_sem, hY.cell c0, hY.cell c1]) ⟨Ext.refl_ _, rfl⟩)) <|
               .cons (fun vs y hY g6_0 => Step.on rfl rfl g6_0 (GivesR.move rfl rfl ⟨Ext.refl_ _, rfl⟩)) <|
               .cons (fun vs y hY g7_0 g8_1 g6_2 g6_3 => Step.on rfl rfl g6_2 (GivesR.call rfl [vs 7, vs 8] rfl rfl Try.call66 (by rw [show vs 7 = _ from g7_0, show vs 8 = _ from g8_1]; exact (Calls.spe (has_any s r _ _ _ _ (((hr.ext hE).ext hEc).ext hY) (hx0.ext hY) H1.out hz))))) <|
               .cons (fun vs y hY g6_0 g9_1 => Step.pick rfl rfl g6_0 g9_1 rfl rfl) <|
               .skip rfl <|
               .nil) ?_
            intro vs w3 hC hL
            have r0 : vs 0 = _ := hL 0 (by decide) rfl
            have r1 : vs 1 = _ := hL 1 (by decide) rfl
            have r2 : vs 2 = _ := hL 2 (by decide) rfl
            have r3 : vs 3 = _ := hL 3 (by decide) rfl
            have r4 : vs 4 = _ := hL 4 (by decide) rfl
            have r5 : vs 5 = _ := hL 5 (by decide) rfl
            have r6 : vs 6 = _ := hL 6 (by decide) rfl
            have r7 : vs 7 = _ := hL 7 (by decide) rfl
            have r8 : vs 8 = _ := hL 8 (by decide) rfl
            have r9 : vs 9 = _ := hL 9 (by decide) rfl
            have r10 : vs 10 = _ := hL 10 (by decide) rfl
            clear hL
            simp only [putAll, Act.put, List.contains_cons, List.contains_nil, Nat.reduceBEq, Nat.reduceAdd, Bool.or_false, cond_true, cond_false, List.setIfInBounds_toArray, List.set_cons_succ, List.set_cons_zero, List.filterMap_cons, List.filterMap_nil, List.getElem?_cons_succ, List.getElem?_cons_zero, r0, r1, r2, r3, r4, r5, r6, r7, r8, r9, r10]
            clear r0 r1 r2 r3 r4 r5 r6 r7 r8 r9 r10
            go_wp2_with fail
            go_ret
            exact ⟨ret_bool HF.out.symm, hC⟩
          · have hb : (l[pn] == x) = false := by simp [hq]
            have HF := Lib.hid (show fixP r p x l = false from by unfold fixP; rw [hlp]; simp [hq])
            clear hq hlp hl
            go_enter Try.func76, Try.ntmps76
            go_wp2_with fail
            refine region_sp [] [11] [SP.val (.slice (some ⟨b, off, none⟩) l.length c), SP.val (.int .i64 (pn : Nat)), SP.val (.pointer (some ⟨b, off + pn, none⟩)), SP.val (.int .i64 l[pn]), SP.val (.int .i64 x), SP.val (.bool false), SP.val (.bool false), SP.val undef, SP.val undef, SP.val undef, SP.val (.bool false), SP.any] (by kernel_rfl) (fun _ d _ _ _ h => by cases d <;> exact h) (by kernel_rfl) (by kernel_rfl)
              (.cons (fun vs y hY => Step.move rfl rfl rfl rfl) <|
               .cons (fun vs y hY => Step.load ⟨(w.heap.size + 1), 0, none⟩ rfl rfl rfl (by simp [go_sem, hY.cell cp]) rfl) <|
               .cons (fun vs y hY g0_0 g1_1 => Step.indexAtP (n := .int .i64 (pn : Nat)) ⟨b, off + pn, none⟩ rfl rfl g0_0 g1_1 (by simp [go_sem, Instr.indexAt, Addr.add, hpl2] <;> omega) rfl) <|
               .cons (fun vs y hY g2_0 => Step.load ⟨b, off + pn, none⟩ rfl rfl g2_0 (by simp [go_sem, hY.cell hck]) rfl) <|
               .cons (fun vs y hY => Step.load ⟨(w.heap.size + 1 + 1), 0, none⟩ rfl rfl rfl (by simp [go_sem, hY.cell cx]) rfl) <|
               .cons (fun vs y hY g3_0 g4_1 => Step.bin (u := .int .i64 l[pn]) (v := .int .i64 x) rfl rfl g3_0 g4_1 (by simp [go_sem, hb]) rfl) <|
               .cons (fun vs y hY g5_0 => Step.move rfl rfl g5_0 rfl) <|
               .cons (fun vs y hY g6_0 => Step.off rfl rfl g6_0 (by decide) rfl) <|
               .cons (fun vs y hY g6_0 => Step.off rfl rfl g6_0 (by decide) rfl) <|
               .cons (fun vs y hY g7_0 g8_1 g6_2 g6_3 => Step.off rfl rfl g6_2 (by decide) rfl) <|
               .cons (fun vs y hY g6_0 g9_1 => Step.pick rfl rfl g6_0 g9_1 rfl rfl) <|
               .skip rfl <|
               .nil) ?_
            intro vs w3 hC hL
            have r0 : vs 0 = _ := hL 0 (by decide) rfl
            have r1 : vs 1 = _ := hL 1 (by decide) rfl
            have r2 : vs 2 = _ := hL 2 (by decide) rfl
            have r3 : vs 3 = _ := hL 3 (by decide) rfl
            have r4 : vs 4 = _ := hL 4 (by decide) rfl
            have r5 : vs 5 = _ := hL 5 (by decide) rfl
            have r6 : vs 6 = _ := hL 6 (by decide) rfl
            have r7 : vs 7 = _ := hL 7 (by decide) rfl
            have r8 : vs 8 = _ := hL 8 (by decide) rfl
            have r9 : vs 9 = _ := hL 9 (by decide) rfl
            have r10 : vs 10 = _ := hL 10 (by decide) rfl
            clear hL
            simp only [putAll, Act.put, List.contains_cons, List.contains_nil, Nat.reduceBEq, Nat.reduceAdd, Bool.or_false, cond_true, cond_false, List.setIfInBounds_toArray, List.set_cons_succ, List.set_cons_zero, List.filterMap_cons, List.filterMap_nil, List.getElem?_cons_succ, List.getElem?_cons_zero, r0, r1, r2, r3, r4, r5, r6, r7, r8, r9, r10]
            clear r0 r1 r2 r3 r4 r5 r6 r7 r8 r9 r10
            go_wp2_with fail
            go_ret
            exact ⟨ret_bool HF.out.symm, hC⟩
        rintro e w3 ⟨u, fp, rfl, hE3, hr3, hfr⟩
        have q0 := lt_of_cell d0
        obtain ⟨ua, uc, rfl⟩ := hr3.form
        replace f2 : _ = false := (hE3.frozen (lt_of_cell d0)).trans f2
        replace f3 : _ = false := (hE3.frozen (lt_of_cell d1)).trans f3
        replace d0 := hE3.cell d0
        replace d1 := hE3.cell d1
        go_wp2_with fail
        exact bodyPost_ret (v := .tuple #[.agg #[.int .i64 (SrelOf s r.1 (fixP r p x)).1, .slice ua (SrelOf s r.1 (fixP r p x)).2.length uc], .int .i64 0]) (by simp [results, Try.results35, go_sem, d0, d1]; try rfl) rfl
          (RelRes.of rfl (((hE.tr hE3).setCell (by simp <;> omega) _).setCell (by simp <;> omega) _) (hr3.off ((Off.set (fp := [w.heap.size + 1 + 1 + 1]) (by simp)).trans (Off.set (by simp))) (fun h hh hm => by have := hfr h hh; simp at hm; (try dsimp only at q0); omega)) (fun h hh => by have := hfr h hh; have := hE.size; omega) hmk)
set_option maxHeartbeats 2000000 in
set_option maxRecDepth 100000 in
theorem specFixPlace_any (s : Int) (r : Int × List (List Int)) (v : Value) (p x : Int) (w : World) (hr : RdRel w v r) (_ : -9223372036854775808 ≤ s) (_ : s ≤ 9223372036854775807) (lo2 : -9223372036854775808 ≤ p) (hi2 : p ≤ 9223372036854775807) (lo3 : -9223372036854775808 ≤ x) (hi3 : x ≤ 9223372036854775807) (hz : szRel r ≤ 1048576) :
    Calls Try.prog 34 #[.int .i64 s, v, .int .i64 p, .int .i64 x] w (RelRes (SFixPlace s r p x) w) := by
  obtain ⟨tv, rfl, hr'⟩ := hr
  obtain ⟨ta, tc, rfl⟩ := hr'.form
  have hr : RdRel w _ r := ⟨_, rfl, hr'⟩
  have hE1 : Ext w ((w.alloc (.cells #[.int .i64 r.1, .slice ta r.2.length tc] 24)).alloc (.cells #[.int .i64 0, .slice none 0 0] 24)) := ((Ext.refl' w).alloc (Nat.le_refl _) _).alloc (by simp) _
  have hp : PtRel ((w.alloc (.cells #[.int .i64 r.1, .slice ta r.2.length tc] 24)).alloc (.cells #[.int .i64 0, .slice none 0 0] 24)) (.pointer (some ⟨w.heap.size, 0, none⟩)) r := ⟨_, _, _, rfl, by simp [go_sem], by simp [go_sem], hr'.ext hE1⟩
  cases h1 : SValidRel s r with
  | false =>
    rw [fix_1 h1]
    go_enter Try.func34, Try.ntmps34
    go_wp2_with fail
    refine (l01Ok_any s r _ _ hp).mono ?_
    rintro e w1 ⟨rfl, hQ⟩
    rw [h1]
    have hE := hQ.ext
    have d0 := hE.cell (p := ⟨w.heap.size + 1, 0, none⟩) (v := .int .i64 0) (by simp [go_sem])
    have d1 := hE.cell (p := ⟨w.heap.size + 1, 1, none⟩) (v := .slice none 0 0) (by simp [go_sem])
    have f2 := hE.frozen (p := ⟨w.heap.size + 1, 0, none⟩) (by simp)
    have f3 := hE.frozen (p := ⟨w.heap.size + 1, 1, none⟩) (by simp)
    simp [go_sem] at f2 f3
    have c0 := hE.cell (p := ⟨w.heap.size, 0, none⟩) (v := .int .i64 r.1) (by simp [go_sem])
    have c1 := hE.cell (p := ⟨w.heap.size, 1, none⟩) (v := .slice ta r.2.length tc) (by simp [go_sem])
    replace hE := hE1.tr hE
    go_wp2_with fail
    exact bodyPost_ret (v := .tuple #[.agg #[.int .i64 0, .slice none 0 0], .int .i64 1]) (by simp [results, Try.results34, go_sem, d0, d1]) rfl (RelRes.no ((hE.setCell (by simp <;> omega) _).setCell (by simp <;> omega) _))
  | true =>
    obtain ⟨⟨hs1, hs2⟩, ⟨hm1, hm2⟩, hall⟩ := valid_parts h1
    have HALL := Lib.hid hall
    clear hall
    cases h2 : inB p 0 (r.1 - 1) with
    | false =>
      rw [fix_2 h1 (by rw [h2]; rfl)]
      go_enter Try.func34, Try.ntmps34
      go_wp2_with fail
      refine (l01Ok_any s r _ _ hp).mono ?_
      rintro e w1 ⟨rfl, hQ⟩
      rw [h1]
      have hE := hQ.ext
      have d0 := hE.cell (p := ⟨w.heap.size + 1, 0, none⟩) (v := .int .i64 0) (by simp [go_sem])
      have d1 := hE.cell (p := ⟨w.heap.size + 1, 1, none⟩) (v := .slice none 0 0) (by simp [go_sem])
      have f2 := hE.frozen (p := ⟨w.heap.size + 1, 0, none⟩) (by simp)
      have f3 := hE.frozen (p := ⟨w.heap.size + 1, 1, none⟩) (by simp)
      simp [go_sem] at f2 f3
      have c0 := hE.cell (p := ⟨w.heap.size, 0, none⟩) (v := .int .i64 r.1) (by simp [go_sem])
      have c1 := hE.cell (p := ⟨w.heap.size, 1, none⟩) (v := .slice ta r.2.length tc) (by simp [go_sem])
      replace hE := hE1.tr hE
      go_wp2_with fail
      refine (l00In_any _ _ _ _).mono ?_
      rintro e w2 ⟨rfl, rfl⟩
      rw [h2]
      go_wp2_with fail
      exact bodyPost_ret (v := .tuple #[.agg #[.int .i64 0, .slice none 0 0], .int .i64 2]) (by simp [results, Try.results34, go_sem, d0, d1]) rfl (RelRes.no ((hE.setCell (by simp <;> omega) _).setCell (by simp <;> omega) _))
    | true =>
      cases h3 : inB x 0 (s - 1) with
      | false =>
        rw [fix_2 h1 (by rw [h2, h3]; rfl)]
        go_enter Try.func34, Try.ntmps34
        go_wp2_with fail
        refine (l01Ok_any s r _ _ hp).mono ?_
        rintro e w1 ⟨rfl, hQ⟩
        rw [h1]
        have hE := hQ.ext
        have d0 := hE.cell (p := ⟨w.heap.size + 1, 0, none⟩) (v := .int .i64 0) (by simp [go_sem])
        have d1 := hE.cell (p := ⟨w.heap.size + 1, 1, none⟩) (v := .slice none 0 0) (by simp [go_sem])
        have f2 := hE.frozen (p := ⟨w.heap.size + 1, 0, none⟩) (by simp)
        have f3 := hE.frozen (p := ⟨w.heap.size + 1, 1, none⟩) (by simp)
        simp [go_sem] at f2 f3
        have c0 := hE.cell (p := ⟨w.heap.size, 0, none⟩) (v := .int .i64 r.1) (by simp [go_sem])
        have c1 := hE.cell (p := ⟨w.heap.size, 1, none⟩) (v := .slice ta r.2.length tc) (by simp [go_sem])
        replace hE := hE1.tr hE
        go_wp2_with fail
        refine (l00In_any _ _ _ _).mono ?_
        rintro e w2 ⟨rfl, rfl⟩
        rw [h2]
        go_wp2_with fail
        refine (l00In_any _ _ _ _).mono ?_
        rintro e w2 ⟨rfl, rfl⟩
        rw [h3]
        go_wp2_with fail
        exact bodyPost_ret (v := .tuple #[.agg #[.int .i64 0, .slice none 0 0], .int .i64 2]) (by simp [results, Try.results34, go_sem, d0, d1]) rfl (RelRes.no ((hE.setCell (by simp <;> omega) _).setCell (by simp <;> omega) _))
      | true =>
        have hbp := inB_iff.1 h2
        have hsp : (r.1, r.2.filter fun t => decide (t.getD p.toNat 0 = x)) = SrelOf s r.1 (fixP r p x) := by
          rw [srel_filter h1]
          refine srel_congr hs1 hs2 hm1 hm2 fun t _ => ?_
          unfold fixP
          rw [Bool.and_comm]
        have hmk := mkRel_SrelOf (p := fixP r p x) hs1 hs2 hm1 hm2
        rw [fix_0 h1 h2 h3, ← hsp]
        rw [← hsp] at hmk
        clear hsp
        obtain ⟨pn, rfl⟩ := Int.eq_ofNat_of_zero_le hbp.1
        rw [Int.toNat_natCast] at hmk ⊢
        generalize hF : (fun t : List Int => decide (t.getD pn 0 = x)) = F at hmk ⊢
        have HF := Lib.hid hF
        clear hF
        have hpl : (pn : Int) < r.1 := by omega
        have hlen : r.2.length ≤ 1048576 := Nat.le_trans (len_le_szII _) hz
        go_enter Try.func34, Try.ntmps34
        go_wp2_with fail
        refine (l01Ok_any s r _ _ hp).mono ?_
        rintro e w1 ⟨rfl, hQ⟩
        rw [h1]
        have hE := hQ.ext
        have d0 := hE.cell (p := ⟨w.heap.size + 1, 0, none⟩) (v := .int .i64 0) (by simp [go_sem])
        have d1 := hE.cell (p := ⟨w.heap.size + 1, 1, none⟩) (v := .slice none 0 0) (by simp [go_sem])
        have f2 := hE.frozen (p := ⟨w.heap.size + 1, 0, none⟩) (by simp)
        have f3 := hE.frozen (p := ⟨w.heap.size + 1, 1, none⟩) (by simp)
        simp [go_sem] at f2 f3
        have c0 := hE.cell (p := ⟨w.heap.size, 0, none⟩) (v := .int .i64 r.1) (by simp [go_sem])
        have c1 := hE.cell (p := ⟨w.heap.size, 1, none⟩) (v := .slice ta r.2.length tc) (by simp [go_sem])
        replace hE := hE1.tr hE
        go_wp2_with fail
        refine (l00In_any _ _ _ _).mono ?_
        rintro e w2 ⟨rfl, rfl⟩
        rw [h2]
        go_wp2_with fail
        refine (l00In_any _ _ _ _).mono ?_
        rintro e w2 ⟨rfl, rfl⟩
        rw [h3]
        clear h1 h2 h3
        obtain ⟨a, b, off, cap, vs, hsl, hlc, hcm, ha, hc⟩ := hr'
        simp only [Value.slice.injEq] at hsl
        obtain ⟨rfl, -, rfl⟩ := hsl
        have hq1 := lt_of_cell d0
        go_wp2_with fail
        go_loopw [11] (fun i wr => ∃ (k : Nat) (tv : Value) (fp : List Nat), k ≤ r.2.length ∧ i = .int .i64 k ∧ Acc w wr (w.heap.size + 1) w1.heap.size (w1.heap.size + 1) r.1 ((r.2.take k).filter F) tv fp ∧ wr.cell? ⟨w.heap.size, 0, none⟩ = some (.int .i64 r.1) ∧ wr.cell? ⟨w.heap.size, 1, none⟩ = some (.slice ta r.2.length tc))
          (fun i _ => r.2.length - (intOf i).toNat)
        case atStart =>
          have hA1 : Ext w1 (w1.alloc (.cells #[.int .i64 r.1, .slice none 0 0] 24)) := (Ext.refl' w1).alloc (Nat.le_refl _) _
          refine ⟨0, .slice none 0 0, [], by omega, rfl, ⟨hE.tr hA1, OII_nil _, by simp, by simp, by omega, hq1, by omega, by simp [go_sem], by simp [go_sem], by simp [go_sem], hA1.cell d0, hA1.cell d1, (hA1.frozen (lt_of_cell d0)).trans f2, (hA1.frozen (lt_of_cell d1)).trans f3⟩, hA1.cell c0, hA1.cell c1⟩
        case round =>
          obtain ⟨k, tv, fp, hk, rfl, hA, c0, c1⟩ := hrel
          have hE := hA.hE
          obtain ⟨va, vc, rfl⟩ := hA.ho.form
          by_cases hkl : k < r.2.length
          · obtain rfl := ha (by omega)
            obtain ⟨k1, k2⟩ := hc k hkl
            replace k1 := hE.cell k1
            replace k2 := k2.ext hE
            have ht := HALL.out r.2[k] (List.getElem_mem hkl)
            have hl0 : 0 < r.2[k].length ∧ r.2[k].length ≤ 1048576 ∧ pn < r.2[k].length := by have := vals_len ht; omega
            generalize vs k = y at k1 k2
            have k20 := k2
            obtain ⟨ea, eb, eoff, ec, rfl, elc, ecm, eha, ehc⟩ := k2
            obtain rfl := eha (by omega)
            have hck := ehc pn hl0.2.2
            have HG := Lib.hid (show F r.2[k] = decide ((r.2[k])[pn]'hl0.2.2 = x) from by rw [← HF.out]; simp only [List.getD_eq_getElem?_getD, List.getElem?_eq_getElem hl0.2.2]; rfl)
            clear ehc
            by_cases hp : (r.2[k])[pn]'hl0.2.2 = x
            · have hb : ((r.2[k])[pn]'hl0.2.2 == x) = true := by simp [hp]
              have HD := Lib.hid (filter_take_yes (p := F) hkl (by rw [HG.out]; simp [hp]))
              have a0 := hA.c0
              have a1 := hA.c1
              clear hp
              go_wp2_with fail
              go_wp2_with fail
              refine region_sp [] [9, 10, 11] [SP.val (.pointer (some ⟨w1.heap.size, 1, none⟩)), SP.val (.slice va ((r.2.take k).filter F).length vc), SP.val (.pointer (some ⟨w.heap.size, 1, none⟩)), SP.val (.slice (some ⟨b, off, none⟩) r.2.length tc), SP.val (.int .i64 (k : Nat)), SP.val (.pointer (some ⟨b, off + k, none⟩)), SP.val (.slice (some ⟨eb, eoff, none⟩) r.2[k].length ec), SP.ownIb wr.heap.size r.2[k], SP.rowIb wr.heap.size r.2[k], SP.any, SP.any, SP.any] (by kernel_rfl) (fun _ d _ _ _ h => by cases d <;> exact h) (by kernel_rfl) (by kernel_rfl)
                (.cons (fun vs y hY => Step.fieldAddr ⟨w1.heap.size, 0, none⟩ rfl rfl rfl (by simp [go_sem]) rfl) <|
                 .cons (fun vs y hY g0_0 => Step.load ⟨w1.heap.size, 1, none⟩ rfl rfl g0_0 (by simp [go_sem, hY.cell a1]) rfl) <|
                 .cons (fun vs y hY => Step.fieldAddr ⟨w.heap.size, 0, none⟩ rfl rfl rfl (by simp [go_sem]) rfl) <|
                 .cons (fun vs y hY g2_0 => Step.load ⟨w.heap.size, 1, none⟩ rfl rfl g2_0 (by simp [go_sem, hY.cell c1]) rfl) <|
                 .cons (fun vs y hY => Step.move rfl rfl rfl rfl) <|
                 .cons (fun vs y hY g3_0 g4_1 => Step.indexAtP (n := .int .i64 (k : Nat)) ⟨b, off + k, none⟩ rfl rfl g3_0 g4_1 (by simp [go_sem, Instr.indexAt, Addr.add, hkl] <;> omega) rfl) <|
                 .cons (fun vs y hY g5_0 => Step.load ⟨b, off + k, none⟩ rfl rfl g5_0 (by simp [go_sem, hY.cell k1]) rfl) <|
                 .cons (fun vs y hY g6_0 => Step.call Try.call73 rfl rfl [vs 6] rfl rfl (by rw [show vs 6 = _ from g6_0]; exact ((l00Own_any _ _ _ (k20.ext hY) hl0.1 hl0.2.1).mono fun _ _ ⟨u, fp, he, hE, ho, hg⟩ => ⟨u, he, hE, fp, ho, fun g h => Nat.le_trans hY.size (hg g h)⟩))) <|
                 .cons (fun vs y hY g7_0 => Step.rowIb (e := 38) rfl rfl g7_0 (by simp [go_sem])) <|
                 .skip rfl <|
                 .skip rfl <|
                 .skip rfl <|
                 .nil) ?_
              intro vs w3 hC hL
              have r0 : vs 0 = _ := hL 0 (by decide) rfl
              have r1 : vs 1 = _ := hL 1 (by decide) rfl
              have r2 : vs 2 = _ := hL 2 (by decide) rfl
              have r3 : vs 3 = _ := hL 3 (by decide) rfl
              have r4 : vs 4 = _ := hL 4 (by decide) rfl
              have r5 : vs 5 = _ := hL 5 (by decide) rfl
              have r6 : vs 6 = _ := hL 6 (by decide) rfl
              have r7 := hL 7 (by decide) rfl
              have r8 := hL 8 (by decide) rfl
              clear hL
              simp only [putAll, Act.put, List.contains_cons, List.contains_nil, Nat.reduceBEq, Nat.reduceAdd, Bool.or_false, Bool.or_true, cond_true, cond_false, List.setIfInBounds_toArray, List.set_cons_succ, List.set_cons_zero, List.filterMap_cons, List.filterMap_nil, List.getElem?_cons_succ, List.getElem?_cons_zero, r0, r1, r2, r3, r4, r5, r6]
              clear r0 r1 r2 r3 r4 r5 r6
              obtain ⟨b', u, fx, rb, cb, hx, hfx⟩ := r8
              rw [rb]
              have q5 := hA.hB
              have hd : ∀ g ∈ fx, g ∉ fp := fun g hg hm => by have := hfx g hg; have := hA.ho.lt g hm; omega
              replace hA := hA.ext hC
              replace c0 := hC.cell c0
              replace c1 := hC.cell c1
              refine hA.append hx (fun g hg => Nat.le_trans q5 (hfx g hg)) hd (Nat.le_trans (filter_take_length _ _ _) hlen) cb rfl (.tmp 51) (.tmp 58) rfl rfl rfl ?_
              intro v' w4 fp' k3 k4 hA' hK ⟨xa, xc, hxe⟩
              subst hxe
              rw [← HD.out] at hA'
              replace c0 := hK.cell c0 (by dsimp only; omega) (by dsimp only; omega)
              replace c1 := hK.cell c1 (by dsimp only; omega) (by dsimp only; omega)
              go_wp2_with fail
              go_roundw
              case rel => exact ⟨k + 1, _, fp', by omega, by go_num, hA', c0, c1⟩
              case measure => simp [intOf]; omega
            · have hb : ((r.2[k])[pn]'hl0.2.2 == x) = false := by simp [hp]
              have HD := Lib.hid (filter_take_no (p := F) hkl (by rw [HG.out]; simp [hp]))
              clear hp
              go_wp2_with fail
              go_roundw
              case rel => exact ⟨k + 1, _, fp, by omega, by go_num, by rw [HD.out]; exact hA, c0, c1⟩
              case measure => simp [intOf]; omega
          · have hkk : k = r.2.length := by omega
            subst hkk
            rw [List.take_length] at hA
            have hdone := hA.done
            have c0 := hA.c0
            have c1 := hA.c1
            have d0 := hA.d0
            have d1 := hA.d1
            have f2 := hA.f2
            have f3 := hA.f3
            go_wp2_with fail
            obtain ⟨g1, g2, g3⟩ := hdone (.int .i64 r.1) (.slice va (r.2.filter F).length vc)
            exact bodyPost_ret (v := .tuple #[.agg #[.int .i64 r.1, .slice va (r.2.filter F).length vc], .int .i64 0]) (by simp [results, Try.results34, go_sem, d0, d1]) rfl (RelRes.of rfl g1 g2 g3 hmk)
end Go.Proofs.Ytohpjamngpphnaa
