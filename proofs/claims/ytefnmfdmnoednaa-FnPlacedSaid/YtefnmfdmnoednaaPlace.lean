
/- PlaceRel: the program's and the reference's give one function's answers. -/
import Derived.Test.YtefnmfdmnoednaaFix
import Derived.Test.YtefnmfdmnoednaaAt
namespace Go.Proofs.Ytefnmfdmnoednaa
open Go.RowKit
set_option linter.unusedVariables false

def placeP (r : Int × List (List Int)) (places t : List Int) : Bool := hasT r (atP t places)
def SPlaceRel (s : Int) (r : Int × List (List Int)) (m : Int) (l : List Int) : (Int × List (List Int)) × Int :=
  if SValidRel s r then if inB m 1 4 && vals m l r.1 then (SrelOf s m (placeP r l), 0) else (noRel, 2) else (noRel, 1)
theorem place_1 {s : Int} {r : Int × List (List Int)} {m : Int} {l : List Int} (h : SValidRel s r = false) : SPlaceRel s r m l = (noRel, 1) := by unfold SPlaceRel; rw [h]; rfl
theorem place_2 {s : Int} {r : Int × List (List Int)} {m : Int} {l : List Int} (h : SValidRel s r = true) (h2 : (inB m 1 4 && vals m l r.1) = false) : SPlaceRel s r m l = (noRel, 2) := by unfold SPlaceRel; rw [h, h2]; rfl
theorem place_0 {s : Int} {r : Int × List (List Int)} {m : Int} {l : List Int} (h : SValidRel s r = true) (h2 : inB m 1 4 = true) (h3 : vals m l r.1 = true) : SPlaceRel s r m l = (SrelOf s m (placeP r l), 0) := by unfold SPlaceRel; rw [h, h2, h3]; rfl
theorem place_digs {s m : Int} {l : List Int} (h : ∀ a ∈ l, 0 ≤ a ∧ a < m) (k : Int) : ∀ p ∈ l, 0 ≤ p ∧ p < (digs s m.toNat k).length := by
  intro p hp
  have := h p hp
  rw [digs_length]
  omega

set_option maxHeartbeats 1000000 in
set_option maxRecDepth 100000 in
theorem implPlaceRel_any (s : Int) (r : Int × List (List Int)) (v : Value) (m : Int) (l : List Int) (u : Value) (w : World) (hr : RdRel w v r) (hs : RdI w u l) (_ : -9223372036854775808 ≤ s) (_ : s ≤ 9223372036854775807) (_ : -9223372036854775808 ≤ m) (_ : m ≤ 9223372036854775807) (hz : szRel r ≤ 1048576) (hz2 : l.length ≤ 1048576) :
    Calls Try.prog 49 #[.int .i64 s, v, .int .i64 m, u] w (RelRes (SPlaceRel s r m l) w) := by
  have hmf : ∀ (fn : Fn) (first cap : Array Value) (w : World), (Instr.makeFunc fn first cap).run Try.prog w = .ok (.func fn first cap) w := fun _ _ _ _ => rfl
  obtain ⟨tv, rfl, hr'⟩ := hr
  obtain ⟨ta, tc, rfl⟩ := hr'.form
  have hr : RdRel w _ r := ⟨_, rfl, hr'⟩
  obtain ⟨ua, uc, rfl⟩ := hs.form
  have hE1 : Ext w (((w.alloc (.cells #[.int .i64 r.1, .slice ta r.2.length tc] 25)).alloc (.cells #[.slice ua l.length uc] 34)).alloc (.cells #[.int .i64 0, .slice none 0 0] 25)) := (((Ext.refl' w).alloc (Nat.le_refl _) _).alloc (by simp) _).alloc (by simp; omega) _
  cases h1 : SValidRel s r with
  | false =>
    rw [place_1 h1]
    go_enter Try.func49, Try.ntmps49
    go_wp2_with fail
    refine (implValidRel_ok s r _ _ (hr.ext hE1)).mono ?_
    rintro e w1 ⟨rfl, hE⟩
    rw [h1]
    have c0 := hE.cell (p := ⟨w.heap.size, 0, none⟩) (v := .int .i64 r.1) (by simp [go_sem])
    have c1 := hE.cell (p := ⟨w.heap.size, 1, none⟩) (v := .slice ta r.2.length tc) (by simp [go_sem])
    have cp := hE.cell (p := ⟨w.heap.size + 1, 0, none⟩) (v := .slice ua l.length uc) (by simp [go_sem])
    have d0 := hE.cell (p := ⟨w.heap.size + 1 + 1, 0, none⟩) (v := .int .i64 0) (by simp [go_sem])
    have d1 := hE.cell (p := ⟨w.heap.size + 1 + 1, 1, none⟩) (v := .slice none 0 0) (by simp [go_sem])
    have f2 := hE.frozen (p := ⟨w.heap.size + 1 + 1, 0, none⟩) (by simp)
    have f3 := hE.frozen (p := ⟨w.heap.size + 1 + 1, 1, none⟩) (by simp)
    simp [go_sem] at f2 f3
    replace hE := hE1.tr hE
    go_wp2_with fail
    exact bodyPost_ret (v := .tuple #[.agg #[.int .i64 0, .slice none 0 0], .int .i64 1]) (by simp [results, Try.results49, go_sem, d0, d1]) rfl (RelRes.no ((hE.setCell (by simp <;> omega) _).setCell (by simp <;> omega) _))
  | true =>
    obtain ⟨⟨hs1, hs2⟩, ⟨hm1, hm2⟩, -⟩ := valid_parts h1
    cases h2 : inB m 1 4 with
    | false =>
      rw [place_2 h1 (by rw [h2]; rfl)]
      go_enter Try.func49, Try.ntmps49
      go_wp2_with fail
      refine (implValidRel_ok s r _ _ (hr.ext hE1)).mono ?_
      rintro e w1 ⟨rfl, hE⟩
      rw [h1]
      have c0 := hE.cell (p := ⟨w.heap.size, 0, none⟩) (v := .int .i64 r.1) (by simp [go_sem])
      have c1 := hE.cell (p := ⟨w.heap.size, 1, none⟩) (v := .slice ta r.2.length tc) (by simp [go_sem])
      have cp := hE.cell (p := ⟨w.heap.size + 1, 0, none⟩) (v := .slice ua l.length uc) (by simp [go_sem])
      have d0 := hE.cell (p := ⟨w.heap.size + 1 + 1, 0, none⟩) (v := .int .i64 0) (by simp [go_sem])
      have d1 := hE.cell (p := ⟨w.heap.size + 1 + 1, 1, none⟩) (v := .slice none 0 0) (by simp [go_sem])
      have f2 := hE.frozen (p := ⟨w.heap.size + 1 + 1, 0, none⟩) (by simp)
      have f3 := hE.frozen (p := ⟨w.heap.size + 1 + 1, 1, none⟩) (by simp)
      simp [go_sem] at f2 f3
      replace hE := hE1.tr hE
      go_wp2_with fail
      refine (isArity_any _ _).mono ?_
      rintro e w2 ⟨rfl, rfl⟩
      rw [h2]
      go_wp2_with fail
      exact bodyPost_ret (v := .tuple #[.agg #[.int .i64 0, .slice none 0 0], .int .i64 2]) (by simp [results, Try.results49, go_sem, d0, d1]) rfl (RelRes.no ((hE.setCell (by simp <;> omega) _).setCell (by simp <;> omega) _))
    | true =>
      have hbm := inB_iff.1 h2
      cases h3 : vals m l r.1 with
      | false =>
        rw [place_2 h1 (by rw [h2, h3]; rfl)]
        go_enter Try.func49, Try.ntmps49
        go_wp2_with fail
        refine (implValidRel_ok s r _ _ (hr.ext hE1)).mono ?_
        rintro e w1 ⟨rfl, hE⟩
        rw [h1]
        have c0 := hE.cell (p := ⟨w.heap.size, 0, none⟩) (v := .int .i64 r.1) (by simp [go_sem])
        have c1 := hE.cell (p := ⟨w.heap.size, 1, none⟩) (v := .slice ta r.2.length tc) (by simp [go_sem])
        have cp := hE.cell (p := ⟨w.heap.size + 1, 0, none⟩) (v := .slice ua l.length uc) (by simp [go_sem])
        have d0 := hE.cell (p := ⟨w.heap.size + 1 + 1, 0, none⟩) (v := .int .i64 0) (by simp [go_sem])
        have d1 := hE.cell (p := ⟨w.heap.size + 1 + 1, 1, none⟩) (v := .slice none 0 0) (by simp [go_sem])
        have f2 := hE.frozen (p := ⟨w.heap.size + 1 + 1, 0, none⟩) (by simp)
        have f3 := hE.frozen (p := ⟨w.heap.size + 1 + 1, 1, none⟩) (by simp)
        simp [go_sem] at f2 f3
        replace hE := hE1.tr hE
        go_wp2_with fail
        refine (isArity_any _ _).mono ?_
        rintro e w2 ⟨rfl, rfl⟩
        rw [h2]
        go_wp2_with fail
        refine (arePlaces_any _ _ _ _ _ (hs.ext hE) (by omega) (by omega)).mono ?_
        rintro e w2 ⟨rfl, hE2⟩
        rw [h3]
        replace f2 : _ = false := (hE2.frozen (lt_of_cell d0)).trans f2
        replace f3 : _ = false := (hE2.frozen (lt_of_cell d1)).trans f3
        replace d0 := hE2.cell d0
        replace d1 := hE2.cell d1
        replace c0 := hE2.cell c0
        replace c1 := hE2.cell c1
        replace cp := hE2.cell cp
        replace hE := hE.tr hE2
        clear hE2
        go_wp2_with fail
        exact bodyPost_ret (v := .tuple #[.agg #[.int .i64 0, .slice none 0 0], .int .i64 2]) (by simp [results, Try.results49, go_sem, d0, d1]) rfl (RelRes.no ((hE.setCell (by simp <;> omega) _).setCell (by simp <;> omega) _))
      | true =>
        rw [place_0 h1 h2 h3]
        have hmk := mkRel_SrelOf (s := s) (m := m) (p := placeP r l) hs1 hs2 hbm.1 hbm.2
        have HP := Lib.hid (vals_iff.1 h3)
        go_enter Try.func49, Try.ntmps49
        go_wp2_with fail
        refine (implValidRel_ok s r _ _ (hr.ext hE1)).mono ?_
        rintro e w1 ⟨rfl, hE⟩
        rw [h1]
        have c0 := hE.cell (p := ⟨w.heap.size, 0, none⟩) (v := .int .i64 r.1) (by simp [go_sem])
        have c1 := hE.cell (p := ⟨w.heap.size, 1, none⟩) (v := .slice ta r.2.length tc) (by simp [go_sem])
        have cp := hE.cell (p := ⟨w.heap.size + 1, 0, none⟩) (v := .slice ua l.length uc) (by simp [go_sem])
        have d0 := hE.cell (p := ⟨w.heap.size + 1 + 1, 0, none⟩) (v := .int .i64 0) (by simp [go_sem])
        have d1 := hE.cell (p := ⟨w.heap.size + 1 + 1, 1, none⟩) (v := .slice none 0 0) (by simp [go_sem])
        have f2 := hE.frozen (p := ⟨w.heap.size + 1 + 1, 0, none⟩) (by simp)
        have f3 := hE.frozen (p := ⟨w.heap.size + 1 + 1, 1, none⟩) (by simp)
        simp [go_sem] at f2 f3
        replace hE := hE1.tr hE
        go_wp2_with fail
        refine (isArity_any _ _).mono ?_
        rintro e w2 ⟨rfl, rfl⟩
        rw [h2]
        go_wp2_with fail
        refine (arePlaces_any _ _ _ _ _ (hs.ext hE) (by omega) (by omega)).mono ?_
        rintro e w2 ⟨rfl, hE2⟩
        rw [h3]
        replace f2 : _ = false := (hE2.frozen (lt_of_cell d0)).trans f2
        replace f3 : _ = false := (hE2.frozen (lt_of_cell d1)).trans f3
        replace d0 := hE2.cell d0
        replace d1 := hE2.cell d1
        replace c0 := hE2.cell c0
        replace c1 := hE2.cell c1
        replace cp := hE2.cell cp
        replace hE := hE.tr hE2
        clear hE2
        have H1 := Lib.hid h1
        clear h1 h2 h3
        go_wp2_with fail
        refine (relOf_any s m (placeP r l) 103 #[] _ _ hs1 hs2 hbm.1 hbm.2 Try.call103 ?_).mono ?_
        · intro k u w' _ hEc hx
          have c0 := hEc.cell c0
          have c1 := hEc.cell c1
          have cp := hEc.cell cp
          have hpl := place_digs (s := s) HP.out.2 k
          have hdl := digs_length s m.toNat k
          generalize digs s m.toNat k = t at hx hpl hdl ⊢
          simp only [List.append_toArray, List.nil_append, List.cons_append]
          go_enter Try.func103, Try.ntmps103
          go_wp2_with fail
          refine region_sp [] [5] [SP.val (.agg #[.int .i64 r.1, .slice ta r.2.length tc]), SP.val (u), SP.val (.slice ua l.length uc), SP.ownI (atP t l), SP.val (.bool (placeP r l t)), SP.any] (by kernel_rfl) (fun _ d _ _ _ h => by cases d <;> exact h) (by kernel_rfl) (by kernel_rfl)
            (.cons (fun vs y hY => Step.load ⟨w.heap.size, 0, none⟩ rfl rfl rfl (by simp [go_sem, hY.cell c0, hY.cell c1]) rfl) <|
             .cons (fun vs y hY => Step.move rfl rfl rfl rfl) <|
             .cons (fun vs y hY => Step.load ⟨(w.heap.size + 1), 0, none⟩ rfl rfl rfl (by simp [go_sem, hY.cell cp]) rfl) <|
             .cons (fun vs y hY g1_0 g2_1 => Step.call Try.call75 rfl rfl [vs 1, vs 2] rfl rfl (by rw [show vs 1 = _ from g1_0, show vs 2 = _ from g2_1]; exact ((chosen_any _ _ _ _ _ (hx.ext hY) (((hs.ext hE).ext hEc).ext hY) hpl hz2).mono fun _ _ ⟨u, fp, he, hE, ho, _⟩ => ⟨u, he, hE, fp, ho⟩))) <|
             .cons (fun vs y hY g0_0 g3_1 g3_2 => Step.call Try.call104 rfl rfl [vs 0, vs 3] rfl rfl (by rw [show vs 0 = _ from g0_0]; exact (Calls.spe (has_any s r _ _ _ _ (((hr.ext hE).ext hEc).ext hY) (rdI_of_sp g3_1) H1.out hz)))) <|
             .skip rfl <|
             .nil) ?_
          intro vs w3 hC hL
          have r0 : vs 0 = _ := hL 0 (by decide) rfl
          have r1 : vs 1 = _ := hL 1 (by decide) rfl
          have r2 : vs 2 = _ := hL 2 (by decide) rfl
          have r3 := hL 3 (by decide) rfl
          have r4 : vs 4 = _ := hL 4 (by decide) rfl
          clear hL
          simp only [putAll, Act.put, List.contains_cons, List.contains_nil, Nat.reduceBEq, Nat.reduceAdd, Bool.or_false, cond_true, cond_false, List.setIfInBounds_toArray, List.set_cons_succ, List.set_cons_zero, List.filterMap_cons, List.filterMap_nil, List.getElem?_cons_succ, List.getElem?_cons_zero, r0, r1, r2, r4]
          clear r0 r1 r2 r4
          go_wp2_with fail
          go_ret
          exact ⟨rfl, hC⟩
        rintro e w3 ⟨u, fp, rfl, hE3, hr3, hfr⟩
        have q0 := lt_of_cell d0
        obtain ⟨ua, uc, rfl⟩ := hr3.form
        replace f2 : _ = false := (hE3.frozen (lt_of_cell d0)).trans f2
        replace f3 : _ = false := (hE3.frozen (lt_of_cell d1)).trans f3
        replace d0 := hE3.cell d0
        replace d1 := hE3.cell d1
        go_wp2_with fail
        exact bodyPost_ret (v := .tuple #[.agg #[.int .i64 (SrelOf s m (placeP r l)).1, .slice ua (SrelOf s m (placeP r l)).2.length uc], .int .i64 0]) (by simp [results, Try.results49, go_sem, d0, d1]; try rfl) rfl
          (RelRes.of rfl (((hE.tr hE3).setCell (by simp <;> omega) _).setCell (by simp <;> omega) _) (hr3.off ((Off.set (fp := [w.heap.size + 1 + 1]) (by simp)).trans (Off.set (by simp))) (fun h hh hm => by have := hfr h hh; simp at hm; (try dsimp only at q0); omega)) (fun h hh => by have := hfr h hh; have := hE.size; omega) hmk)
end Go.Proofs.Ytefnmfdmnoednaa
