
/- FixPlace: the program's and the reference's give one function's answers. -/
import Derived.Test.YtefnmfdmnoednaaRelSp
namespace Go.Proofs.Ytefnmfdmnoednaa
open Go.RowKit
set_option linter.unusedVariables false

def fixP (r : Int × List (List Int)) (p x : Int) (t : List Int) : Bool := decide (t.getD p.toNat 0 = x) && hasT r t
def SFixPlace (s : Int) (r : Int × List (List Int)) (p x : Int) : (Int × List (List Int)) × Int :=
  if SValidRel s r then if inB p 0 (r.1 - 1) && inB x 0 (s - 1) then (SrelOf s r.1 (fixP r p x), 0) else (noRel, 2) else (noRel, 1)
theorem fix_1 {s : Int} {r : Int × List (List Int)} {p x : Int} (h : SValidRel s r = false) : SFixPlace s r p x = (noRel, 1) := by unfold SFixPlace; rw [h]; rfl
theorem fix_2 {s : Int} {r : Int × List (List Int)} {p x : Int} (h : SValidRel s r = true) (h2 : (inB p 0 (r.1 - 1) && inB x 0 (s - 1)) = false) : SFixPlace s r p x = (noRel, 2) := by unfold SFixPlace; rw [h, h2]; rfl
theorem fix_0 {s : Int} {r : Int × List (List Int)} {p x : Int} (h : SValidRel s r = true) (h2 : inB p 0 (r.1 - 1) = true) (h3 : inB x 0 (s - 1) = true) : SFixPlace s r p x = (SrelOf s r.1 (fixP r p x), 0) := by unfold SFixPlace; rw [h, h2, h3]; rfl

set_option maxHeartbeats 1000000 in
set_option maxRecDepth 100000 in
theorem implFixPlace_any (s : Int) (r : Int × List (List Int)) (v : Value) (p x : Int) (w : World) (hr : RdRel w v r) (_ : -9223372036854775808 ≤ s) (_ : s ≤ 9223372036854775807) (lo2 : -9223372036854775808 ≤ p) (hi2 : p ≤ 9223372036854775807) (lo3 : -9223372036854775808 ≤ x) (hi3 : x ≤ 9223372036854775807) (hz : szRel r ≤ 1048576) :
    Calls Try.prog 55 #[.int .i64 s, v, .int .i64 p, .int .i64 x] w (RelRes (SFixPlace s r p x) w) := by
  have hmf : ∀ (fn : Fn) (first cap : Array Value) (w : World), (Instr.makeFunc fn first cap).run Try.prog w = .ok (.func fn first cap) w := fun _ _ _ _ => rfl
  obtain ⟨tv, rfl, hr'⟩ := hr
  obtain ⟨ta, tc, rfl⟩ := hr'.form
  have hr : RdRel w _ r := ⟨_, rfl, hr'⟩
  have hE1 : Ext w ((((w.alloc (.cells #[.int .i64 r.1, .slice ta r.2.length tc] 25)).alloc (.cells #[.int .i64 p] 2)).alloc (.cells #[.int .i64 x] 2)).alloc (.cells #[.int .i64 0, .slice none 0 0] 25)) := ((((Ext.refl' w).alloc (Nat.le_refl _) _).alloc (by simp) _).alloc (by simp; omega) _).alloc (by simp; omega) _
  cases h1 : SValidRel s r with
  | false =>
    rw [fix_1 h1]
    go_enter Try.func55, Try.ntmps55
    go_wp2_with fail
    refine (implValidRel_ok s r _ _ (hr.ext hE1)).mono ?_
    rintro e w1 ⟨rfl, hE⟩
    rw [h1]
    have d0 := hE.cell (p := ⟨w.heap.size + 1 + 1 + 1, 0, none⟩) (v := .int .i64 0) (by simp [go_sem])
    have d1 := hE.cell (p := ⟨w.heap.size + 1 + 1 + 1, 1, none⟩) (v := .slice none 0 0) (by simp [go_sem])
    have f2 := hE.frozen (p := ⟨w.heap.size + 1 + 1 + 1, 0, none⟩) (by simp)
    have f3 := hE.frozen (p := ⟨w.heap.size + 1 + 1 + 1, 1, none⟩) (by simp)
    simp [go_sem] at f2 f3
    replace hE := hE1.tr hE
    go_wp2_with fail
    exact bodyPost_ret (v := .tuple #[.agg #[.int .i64 0, .slice none 0 0], .int .i64 1]) (by simp [results, Try.results55, go_sem, d0, d1]) rfl (RelRes.no ((hE.setCell (by simp <;> omega) _).setCell (by simp <;> omega) _))
  | true =>
    obtain ⟨⟨hs1, hs2⟩, ⟨hm1, hm2⟩, -⟩ := valid_parts h1
    cases h2 : inB p 0 (r.1 - 1) with
    | false =>
      rw [fix_2 h1 (by rw [h2]; rfl)]
      go_enter Try.func55, Try.ntmps55
      go_wp2_with fail
      refine (implValidRel_ok s r _ _ (hr.ext hE1)).mono ?_
      rintro e w1 ⟨rfl, hE⟩
      rw [h1]
      have c0 := hE.cell (p := ⟨w.heap.size, 0, none⟩) (v := .int .i64 r.1) (by simp [go_sem])
      have c1 := hE.cell (p := ⟨w.heap.size, 1, none⟩) (v := .slice ta r.2.length tc) (by simp [go_sem])
      have cp := hE.cell (p := ⟨w.heap.size + 1, 0, none⟩) (v := .int .i64 p) (by simp [go_sem])
      have cx := hE.cell (p := ⟨w.heap.size + 1 + 1, 0, none⟩) (v := .int .i64 x) (by simp [go_sem])
      have d0 := hE.cell (p := ⟨w.heap.size + 1 + 1 + 1, 0, none⟩) (v := .int .i64 0) (by simp [go_sem])
      have d1 := hE.cell (p := ⟨w.heap.size + 1 + 1 + 1, 1, none⟩) (v := .slice none 0 0) (by simp [go_sem])
      have f2 := hE.frozen (p := ⟨w.heap.size + 1 + 1 + 1, 0, none⟩) (by simp)
      have f3 := hE.frozen (p := ⟨w.heap.size + 1 + 1 + 1, 1, none⟩) (by simp)
      simp [go_sem] at f2 f3
      replace hE := hE1.tr hE
      go_wp2_with fail
      refine (within_any _ _ _ _).mono ?_
      rintro e w2 ⟨rfl, rfl⟩
      rw [h2]
      go_wp2_with fail
      exact bodyPost_ret (v := .tuple #[.agg #[.int .i64 0, .slice none 0 0], .int .i64 2]) (by simp [results, Try.results55, go_sem, d0, d1]) rfl (RelRes.no ((hE.setCell (by simp <;> omega) _).setCell (by simp <;> omega) _))
    | true =>
      cases h3 : inB x 0 (s - 1) with
      | false =>
        rw [fix_2 h1 (by rw [h2, h3]; rfl)]
        go_enter Try.func55, Try.ntmps55
        go_wp2_with fail
        refine (implValidRel_ok s r _ _ (hr.ext hE1)).mono ?_
        rintro e w1 ⟨rfl, hE⟩
        rw [h1]
        have c0 := hE.cell (p := ⟨w.heap.size, 0, none⟩) (v := .int .i64 r.1) (by simp [go_sem])
        have c1 := hE.cell (p := ⟨w.heap.size, 1, none⟩) (v := .slice ta r.2.length tc) (by simp [go_sem])
        have cp := hE.cell (p := ⟨w.heap.size + 1, 0, none⟩) (v := .int .i64 p) (by simp [go_sem])
        have cx := hE.cell (p := ⟨w.heap.size + 1 + 1, 0, none⟩) (v := .int .i64 x) (by simp [go_sem])
        have d0 := hE.cell (p := ⟨w.heap.size + 1 + 1 + 1, 0, none⟩) (v := .int .i64 0) (by simp [go_sem])
        have d1 := hE.cell (p := ⟨w.heap.size + 1 + 1 + 1, 1, none⟩) (v := .slice none 0 0) (by simp [go_sem])
        have f2 := hE.frozen (p := ⟨w.heap.size + 1 + 1 + 1, 0, none⟩) (by simp)
        have f3 := hE.frozen (p := ⟨w.heap.size + 1 + 1 + 1, 1, none⟩) (by simp)
        simp [go_sem] at f2 f3
        replace hE := hE1.tr hE
        go_wp2_with fail
        refine (within_any _ _ _ _).mono ?_
        rintro e w2 ⟨rfl, rfl⟩
        rw [h2]
        go_wp2_with fail
        refine (isValue_any _ _ _ (by omega) (by omega)).mono ?_
        rintro e w2 ⟨rfl, rfl⟩
        rw [h3]
        go_wp2_with fail
        exact bodyPost_ret (v := .tuple #[.agg #[.int .i64 0, .slice none 0 0], .int .i64 2]) (by simp [results, Try.results55, go_sem, d0, d1]) rfl (RelRes.no ((hE.setCell (by simp <;> omega) _).setCell (by simp <;> omega) _))
      | true =>
        rw [fix_0 h1 h2 h3]
        have hmk := mkRel_SrelOf (p := fixP r p x) hs1 hs2 hm1 hm2
        have hbp := inB_iff.1 h2
        obtain ⟨pn, hpn⟩ := Int.eq_ofNat_of_zero_le hbp.1
        have hpl : (pn : Int) < r.1 := by omega
        have HPN := Lib.hid hpn
        clear hpn
        go_enter Try.func55, Try.ntmps55
        go_wp2_with fail
        refine (implValidRel_ok s r _ _ (hr.ext hE1)).mono ?_
        rintro e w1 ⟨rfl, hE⟩
        rw [h1]
        have c0 := hE.cell (p := ⟨w.heap.size, 0, none⟩) (v := .int .i64 r.1) (by simp [go_sem])
        have c1 := hE.cell (p := ⟨w.heap.size, 1, none⟩) (v := .slice ta r.2.length tc) (by simp [go_sem])
        have cp := hE.cell (p := ⟨w.heap.size + 1, 0, none⟩) (v := .int .i64 p) (by simp [go_sem])
        have cx := hE.cell (p := ⟨w.heap.size + 1 + 1, 0, none⟩) (v := .int .i64 x) (by simp [go_sem])
        have d0 := hE.cell (p := ⟨w.heap.size + 1 + 1 + 1, 0, none⟩) (v := .int .i64 0) (by simp [go_sem])
        have d1 := hE.cell (p := ⟨w.heap.size + 1 + 1 + 1, 1, none⟩) (v := .slice none 0 0) (by simp [go_sem])
        have f2 := hE.frozen (p := ⟨w.heap.size + 1 + 1 + 1, 0, none⟩) (by simp)
        have f3 := hE.frozen (p := ⟨w.heap.size + 1 + 1 + 1, 1, none⟩) (by simp)
        simp [go_sem] at f2 f3
        replace hE := hE1.tr hE
        go_wp2_with fail
        refine (within_any _ _ _ _).mono ?_
        rintro e w2 ⟨rfl, rfl⟩
        rw [h2]
        go_wp2_with fail
        refine (isValue_any _ _ _ (by omega) (by omega)).mono ?_
        rintro e w2 ⟨rfl, rfl⟩
        rw [h3]
        have H1 := Lib.hid h1
        clear h1 h2 h3
        go_wp2_with fail
        refine (relOf_any s r.1 (fixP r p x) 111 #[] _ _ hs1 hs2 hm1 hm2 Try.call111 ?_).mono ?_
        · intro k u w' _ hEc hx
          have c0 := hEc.cell c0
          have c1 := hEc.cell c1
          have cp := hEc.cell cp
          have cx := hEc.cell cx
          have hl := digs_length s r.1.toNat k
          generalize digs s r.1.toNat k = l at hx hl ⊢
          have hpl2 : pn < l.length := by omega
          have hlp : l.getD p.toNat 0 = l[pn] := by rw [HPN.out, Int.toNat_natCast, List.getD_eq_getElem?_getD, List.getElem?_eq_getElem hpl2]; rfl
          have hx0 := hx
          obtain ⟨a, b, off, c, rfl, hlc, hcm, ha, hc⟩ := hx
          obtain rfl := ha (by omega)
          have hck := hc pn hpl2
          clear hc
          simp only [List.append_toArray, List.nil_append, List.cons_append]
          rw [HPN.out] at cp
          by_cases hq : l[pn] = x
          · have hb : (l[pn] == x) = true := by simp [hq]
            have HF := Lib.hid (show fixP r p x l = hasT r l from by unfold fixP; rw [hlp, hq]; simp)
            clear hq hlp hl
            go_enter Try.func111, Try.ntmps111
            go_wp2_with fail
            refine region_sp [] [11] [SP.val (.slice (some ⟨b, off, none⟩) l.length c), SP.val (.int .i64 (pn : Nat)), SP.val (.pointer (some ⟨b, off + pn, none⟩)), SP.val (.int .i64 l[pn]), SP.val (.int .i64 x), SP.val (.bool true), SP.val (.bool true), SP.val (.agg #[.int .i64 r.1, .slice ta r.2.length tc]), SP.val (.slice (some ⟨b, off, none⟩) l.length c), SP.val (.bool (hasT r l)), SP.val (.bool (hasT r l)), SP.any] (by kernel_rfl) (fun _ d _ _ _ h => by cases d <;> exact h) (by kernel_rfl) (by kernel_rfl)
              (.cons (fun vs y hY => Step.move rfl rfl rfl rfl) <|
               .cons (fun vs y hY => Step.load ⟨(w.heap.size + 1), 0, none⟩ rfl rfl rfl (by simp [go_sem, hY.cell cp]) rfl) <|
               .cons (fun vs y hY g0_0 g1_1 => Step.indexAtP (n := .int .i64 (pn : Nat)) ⟨b, off + pn, none⟩ rfl rfl g0_0 g1_1 (by simp [go_sem, Instr.indexAt, Addr.add, hpl2] <;> omega) rfl) <|
               .cons (fun vs y hY g2_0 => Step.load ⟨b, off + pn, none⟩ rfl rfl g2_0 (by simp [go_sem, hY.cell hck]) rfl) <|
               .cons (fun vs y hY => Step.load ⟨(w.heap.size + 1 + 1), 0, none⟩ rfl rfl rfl (by simp [go_sem, hY.cell cx]) rfl) <|
               .cons (fun vs y hY g3_0 g4_1 => Step.bin (u := .int .i64 l[pn]) (v := .int .i64 x) rfl rfl g3_0 g4_1 (by simp [go_sem, hb]) rfl) <|
               .cons (fun vs y hY g5_0 => Step.move rfl rfl g5_0 rfl) <|
               .cons (fun vs y hY g6_0 => Step.on rfl rfl g6_0 (GivesR.load ⟨w.heap.size, 0, none⟩ rfl rfl (by simp [go_sem, hY.cell c0, hY.cell c1]) ⟨Ext.refl_ _, rfl⟩)) <|
               .cons (fun vs y hY g6_0 => Step.on rfl rfl g6_0 (GivesR.move rfl rfl ⟨Ext.refl_ _, rfl⟩)) <|
               .cons (fun vs y hY g7_0 g8_1 g6_2 g6_3 => Step.on rfl rfl g6_2 (GivesR.call rfl [vs 7, vs 8] rfl rfl Try.call104 (by rw [show vs 7 = _ from g7_0, show vs 8 = _ from g8_1]; exact (Calls.spe (has_any s r _ _ _ _ (((hr.ext hE).ext hEc).ext hY) (hx0.ext hY) H1.out hz))))) <|
               .cons (fun vs y hY g6_0 g9_1 => Step.pick rfl rfl g6_0 g9_1 rfl rfl) <|
               .skip rfl <|
               .nil) ?_
            intro vs w3 hC hL
            have r0 : vs 0 = _ := hL 0 (by decide) rfl
            have r1 : vs 1 = _ := hL 1 (by decide) rfl
            have r2 : vs 2 = _ := hL 2 (by decide) rfl
            have r3 : vs 3 = _ := hL 3 (by decide) rfl
            have r4 : vs 4 = _ := hL 4 (by decide) rfl
            have r5 : vs 5 = _ := hL 5 (by decide) rfl
            have r6 : vs 6 = _ := hL 6 (by decide) rfl
            have r7 : vs 7 = _ := hL 7 (by decide) rfl
            have r8 : vs 8 = _ := hL 8 (by decide) rfl
            have r9 : vs 9 = _ := hL 9 (by decide) rfl
            have r10 : vs 10 = _ := hL 10 (by decide) rfl
            clear hL
            simp only [putAll, Act.put, List.contains_cons, List.contains_nil, Nat.reduceBEq, Nat.reduceAdd, Bool.or_false, cond_true, cond_false, List.setIfInBounds_toArray, List.set_cons_succ, List.set_cons_zero, List.filterMap_cons, List.filterMap_nil, List.getElem?_cons_succ, List.getElem?_cons_zero, r0, r1, r2, r3, r4, r5, r6, r7, r8, r9, r10]
            clear r0 r1 r2 r3 r4 r5 r6 r7 r8 r9 r10
            go_wp2_with fail
            go_ret
            exact ⟨ret_bool HF.out.symm, hC⟩
          · have hb : (l[pn] == x) = false := by simp [hq]
            have HF := Lib.hid (show fixP r p x l = false from by unfold fixP; rw [hlp]; simp [hq])
            clear hq hlp hl
            go_enter Try.func111, Try.ntmps111
            go_wp2_with fail
            refine region_sp [] [11] [SP.val (.slice (some ⟨b, off, none⟩) l.length c), SP.val (.int .i64 (pn : Nat)), SP.val (.pointer (some ⟨b, off + pn, none⟩)), SP.val (.int .i64 l[pn]), SP.val (.int .i64 x), SP.val (.bool false), SP.val (.bool false), SP.val undef, SP.val undef, SP.val undef, SP.val (.bool false), SP.any] (by kernel_rfl) (fun _ d _ _ _ h => by cases d <;> exact h) (by kernel_rfl) (by kernel_rfl)
              (.cons (fun vs y hY => Step.move rfl rfl rfl rfl) <|
               .cons (fun vs y hY => Step.load ⟨(w.heap.size + 1), 0, none⟩ rfl rfl rfl (by simp [go_sem, hY.cell cp]) rfl) <|
               .cons (fun vs y hY g0_0 g1_1 => Step.indexAtP (n := .int .i64 (pn : Nat)) ⟨b, off + pn, none⟩ rfl rfl g0_0 g1_1 (by simp [go_sem, Instr.indexAt, Addr.add, hpl2] <;> omega) rfl) <|
               .cons (fun vs y hY g2_0 => Step.load ⟨b, off + pn, none⟩ rfl rfl g2_0 (by simp [go_sem, hY.cell hck]) rfl) <|
               .cons (fun vs y hY => Step.load ⟨(w.heap.size + 1 + 1), 0, none⟩ rfl rfl rfl (by simp [go_sem, hY.cell cx]) rfl) <|
               .cons (fun vs y hY g3_0 g4_1 => Step.bin (u := .int .i64 l[pn]) (v := .int .i64 x) rfl rfl g3_0 g4_1 (by simp [go_sem, hb]) rfl) <|
               .cons (fun vs y hY g5_0 => Step.move rfl rfl g5_0 rfl) <|
               .cons (fun vs y hY g6_0 => Step.off rfl rfl g6_0 (by decide) rfl) <|
               .cons (fun vs y hY g6_0 => Step.off rfl rfl g6_0 (by decide) rfl) <|
               .cons (fun vs y hY g7_0 g8_1 g6_2 g6_3 => Step.off rfl rfl g6_2 (by decide) rfl) <|
               .cons (fun vs y hY g6_0 g9_1 => Step.pick rfl rfl g6_0 g9_1 rfl rfl) <|
               .skip rfl <|
               .nil) ?_
            intro vs w3 hC hL
            have r0 : vs 0 = _ := hL 0 (by decide) rfl
            have r1 : vs 1 = _ := hL 1 (by decide) rfl
            have r2 : vs 2 = _ := hL 2 (by decide) rfl
            have r3 : vs 3 = _ := hL 3 (by decide) rfl
            have r4 : vs 4 = _ := hL 4 (by decide) rfl
            have r5 : vs 5 = _ := hL 5 (by decide) rfl
            have r6 : vs 6 = _ := hL 6 (by decide) rfl
            have r7 : vs 7 = _ := hL 7 (by decide) rfl
            have r8 : vs 8 = _ := hL 8 (by decide) rfl
            have r9 : vs 9 = _ := hL 9 (by decide) rfl
            have r10 : vs 10 = _ := hL 10 (by decide) rfl
            clear hL
            simp only [putAll, Act.put, List.contains_cons, List.contains_nil, Nat.reduceBEq, Nat.reduceAdd, Bool.or_false, cond_true, cond_false, List.setIfInBounds_toArray, List.set_cons_succ, List.set_cons_zero, List.filterMap_cons, List.filterMap_nil, List.getElem?_cons_succ, List.getElem?_cons_zero, r0, r1, r2, r3, r4, r5, r6, r7, r8, r9, r10]
            clear r0 r1 r2 r3 r4 r5 r6 r7 r8 r9 r10
            go_wp2_with fail
            go_ret
            exact ⟨ret_bool HF.out.symm, hC⟩
        rintro e w3 ⟨u, fp, rfl, hE3, hr3, hfr⟩
        have q0 := lt_of_cell d0
        obtain ⟨ua, uc, rfl⟩ := hr3.form
        replace f2 : _ = false := (hE3.frozen (lt_of_cell d0)).trans f2
        replace f3 : _ = false := (hE3.frozen (lt_of_cell d1)).trans f3
        replace d0 := hE3.cell d0
        replace d1 := hE3.cell d1
        go_wp2_with fail
        exact bodyPost_ret (v := .tuple #[.agg #[.int .i64 (SrelOf s r.1 (fixP r p x)).1, .slice ua (SrelOf s r.1 (fixP r p x)).2.length uc], .int .i64 0]) (by simp [results, Try.results55, go_sem, d0, d1]; try rfl) rfl
          (RelRes.of rfl (((hE.tr hE3).setCell (by simp <;> omega) _).setCell (by simp <;> omega) _) (hr3.off ((Off.set (fp := [w.heap.size + 1 + 1 + 1]) (by simp)).trans (Off.set (by simp))) (fun h hh hm => by have := hfr h hh; simp at hm; (try dsimp only at q0); omega)) (fun h hh => by have := hfr h hh; have := hE.size; omega) hmk)
end Go.Proofs.Ytefnmfdmnoednaa
