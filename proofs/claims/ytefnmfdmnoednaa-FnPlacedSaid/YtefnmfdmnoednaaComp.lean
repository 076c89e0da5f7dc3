
/- ComposeRels: the program's and the reference's give one function's answers. -/
import Derived.Test.YtefnmfdmnoednaaPair
import Derived.Test.YtefnmfdmnoednaaEqual
namespace Go.Proofs.Ytefnmfdmnoednaa
open Go.RowKit
set_option linter.unusedVariables false

def compP (s : Int) (r q : Int × List (List Int)) (t : List Int) : Bool := (List.range s.toNat).any fun b : Nat => hasT r [t.getD 0 0, (b : Int)] && hasT q [(b : Int), t.getD 1 0]
def SComposeRels (s : Int) (r q : Int × List (List Int)) : (Int × List (List Int)) × Int :=
  if SValidRel s r && SValidRel s q then if r.1 = 2 ∧ q.1 = 2 then (SrelOf s 2 (compP s r q), 0) else (noRel, 2) else (noRel, 1)
theorem comp_1 {s : Int} {r q : Int × List (List Int)} (h : (SValidRel s r && SValidRel s q) = false) : SComposeRels s r q = (noRel, 1) := by unfold SComposeRels; rw [h]; rfl
theorem comp_2 {s : Int} {r q : Int × List (List Int)} (h1 : SValidRel s r = true) (h2 : SValidRel s q = true) (h : ¬ (r.1 = 2 ∧ q.1 = 2)) : SComposeRels s r q = (noRel, 2) := by unfold SComposeRels; rw [h1, h2, if_neg h]; rfl
theorem comp_0 {s : Int} {r q : Int × List (List Int)} (h1 : SValidRel s r = true) (h2 : SValidRel s q = true) (h : r.1 = 2) (h3 : q.1 = 2) : SComposeRels s r q = (SrelOf s 2 (compP s r q), 0) := by unfold SComposeRels; rw [h1, h2, if_pos (show r.1 = 2 ∧ q.1 = 2 from ⟨h, h3⟩)]; rfl

def joinL (A B : List (List Int)) : List (List Int) := A.flatMap fun a => B.flatMap fun b => if a.getD 1 0 = b.getD 0 0 then [[a.getD 0 0, b.getD 1 0]] else []
def joinUp (A B : List (List Int)) (k j : Nat) : List (List Int) := joinL (A.take k) B ++ joinL [A.getD k []] (B.take j)
theorem joinUp_zero (A B : List (List Int)) (k : Nat) : joinUp A B k 0 = joinL (A.take k) B := by simp [joinUp, joinL]
theorem joinUp_end {A B : List (List Int)} {k : Nat} (hk : k < A.length) : joinUp A B k B.length = joinL (A.take (k + 1)) B := by
  unfold joinUp joinL
  rw [List.take_length, List.take_succ_eq_append_getElem hk, List.flatMap_append, List.getD_eq_getElem?_getD, List.getElem?_eq_getElem hk]
  simp
theorem joinUp_succ {A B : List (List Int)} {k j : Nat} (hk : k < A.length) (hj : j < B.length) : joinUp A B k (j + 1) = joinUp A B k j ++ if (A[k]).getD 1 0 = (B[j]).getD 0 0 then [[(A[k]).getD 0 0, (B[j]).getD 1 0]] else [] := by
  unfold joinUp joinL
  rw [List.take_succ_eq_append_getElem hj, List.getD_eq_getElem?_getD, List.getElem?_eq_getElem hk]
  simp only [List.flatMap_append, List.flatMap_cons, List.flatMap_nil, List.append_nil, List.append_assoc, Option.getD_some]
theorem mks_snocC {s m : Int} {L : List (List Int)} {t : List Int} : (mks s m fun x => decide (x ∈ L) || decide (x = t)) = mks s m fun x => decide (x ∈ L ++ [t]) := by
  congr 1
  funext x
  rw [Bool.eq_iff_iff, Bool.or_eq_true, decide_eq_true_eq, decide_eq_true_eq, decide_eq_true_eq, List.mem_append, List.mem_singleton]
theorem vals_two {s : Int} {t : List Int} (h : vals s t 2 = true) : ∃ x y, t = [x, y] ∧ 0 ≤ x ∧ x < s ∧ 0 ≤ y ∧ y < s := by
  obtain ⟨h1, h2⟩ := vals_iff.1 h
  obtain ⟨x, y, rfl⟩ := len_two (l := t) (by omega)
  have hx := h2 x (by simp)
  have hy := h2 y (by simp)
  exact ⟨x, y, rfl, hx.1, hx.2, hy.1, hy.2⟩
theorem comp_eq {s : Int} {r q : Int × List (List Int)} (hr : SValidRel s r = true) (hq : SValidRel s q = true) (h1 : r.1 = 2) (h2 : q.1 = 2) : (SrelOf s 2 fun x => decide (x ∈ joinL r.2 q.2)) = SrelOf s 2 (compP s r q) := by
  obtain ⟨k1, k2, k3⟩ := valid_parts hr
  obtain ⟨-, -, k4⟩ := valid_parts hq
  rw [h1] at k3
  rw [h2] at k4
  refine srel_congr k1.1 k1.2 (by omega) (by omega) fun t ht => ?_
  obtain ⟨x, y, rfl, hx0, hx1, hy0, hy1⟩ := vals_two ht
  rw [Bool.eq_iff_iff, decide_eq_true_eq]
  unfold joinL compP hasT
  simp only [List.mem_flatMap, List.any_eq_true, Bool.and_eq_true, decide_eq_true_eq, List.mem_range]
  constructor
  · rintro ⟨a, ha, b, hb, hm⟩
    obtain ⟨a0, a1, rfl, ha0, ha1, ha2, ha3⟩ := vals_two (k3 a ha)
    obtain ⟨b0, b1, rfl, hb0, hb1, hb2, hb3⟩ := vals_two (k4 b hb)
    simp only [List.getD_cons_zero, List.getD_cons_succ] at hm
    by_cases he : a1 = b0
    · rw [if_pos he] at hm
      simp only [List.mem_singleton, List.cons.injEq, and_true] at hm
      obtain ⟨rfl, rfl⟩ := hm
      subst he
      refine ⟨a1.toNat, by omega, ?_, ?_⟩
      · rw [show ((a1.toNat : Nat) : Int) = a1 by omega]; exact ha
      · rw [show ((a1.toNat : Nat) : Int) = a1 by omega]; exact hb
    · rw [if_neg he] at hm
      simp at hm
  · rintro ⟨b, hb, h3, h4⟩
    exact ⟨_, h3, _, h4, by simp⟩

theorem any_range_no {p : Nat → Bool} {k : Nat} (h : (List.range k).any p = false) (hk : p k = false) : (List.range (k + 1)).any p = false := by
  rw [List.range_succ, List.any_append, h]; simp [hk]
theorem any_range_yes {p : Nat → Bool} {k n : Nat} (hk : k < n) (h : p k = true) : (List.range n).any p = true := List.any_eq_true.2 ⟨k, List.mem_range.2 hk, h⟩
set_option maxHeartbeats 4000000 in
set_option maxRecDepth 100000 in
theorem implComposeRels_any (s : Int) (r : Int × List (List Int)) (v : Value) (q : Int × List (List Int)) (u : Value) (w : World) (hr : RdRel w v r) (hs : RdRel w u q) (_ : -9223372036854775808 ≤ s) (_ : s ≤ 9223372036854775807) (hz : szRel r ≤ 1048576) (hz2 : szRel q ≤ 1048576) :
    Calls Try.prog 57 #[.int .i64 s, v, u] w (RelRes (SComposeRels s r q) w) := by
  have hmf : ∀ (fn : Fn) (first cap : Array Value) (w : World), (Instr.makeFunc fn first cap).run Try.prog w = .ok (.func fn first cap) w := fun _ _ _ _ => rfl
  obtain ⟨tv, rfl, hr'⟩ := hr
  obtain ⟨ta, tc, rfl⟩ := hr'.form
  have hr : RdRel w _ r := ⟨_, rfl, hr'⟩
  obtain ⟨tu, rfl, hs'⟩ := hs
  obtain ⟨ua', uc', rfl⟩ := hs'.form
  have hs : RdRel w _ q := ⟨_, rfl, hs'⟩
  have hE1 : Ext w ((((w.alloc (.cells #[.int .i64 s] 2)).alloc (.cells #[.int .i64 r.1, .slice ta r.2.length tc] 25)).alloc (.cells #[.int .i64 q.1, .slice ua' q.2.length uc'] 25)).alloc (.cells #[.int .i64 0, .slice none 0 0] 25)) := ((((Ext.refl' w).alloc (Nat.le_refl _) _).alloc (by simp) _).alloc (by simp; omega) _).alloc (by simp; omega) _
  cases h1 : SValidRel s r with
  | false =>
    rw [comp_1 (by rw [h1]; rfl)]
    go_enter Try.func57, Try.ntmps57
    go_wp2_with fail
    refine (implValidRel_ok s r _ _ (hr.ext hE1)).mono ?_
    rintro e w1 ⟨rfl, hE⟩
    rw [h1]
    have z0 := hE.cell (p := ⟨w.heap.size, 0, none⟩) (v := .int .i64 s) (by simp [go_sem])
    have c0 := hE.cell (p := ⟨w.heap.size + 1, 0, none⟩) (v := .int .i64 r.1) (by simp [go_sem])
    have c1 := hE.cell (p := ⟨w.heap.size + 1, 1, none⟩) (v := .slice ta r.2.length tc) (by simp [go_sem])
    have e0 := hE.cell (p := ⟨w.heap.size + 1 + 1, 0, none⟩) (v := .int .i64 q.1) (by simp [go_sem])
    have e1 := hE.cell (p := ⟨w.heap.size + 1 + 1, 1, none⟩) (v := .slice ua' q.2.length uc') (by simp [go_sem])
    have d0 := hE.cell (p := ⟨w.heap.size + 1 + 1 + 1, 0, none⟩) (v := .int .i64 0) (by simp [go_sem])
    have d1 := hE.cell (p := ⟨w.heap.size + 1 + 1 + 1, 1, none⟩) (v := .slice none 0 0) (by simp [go_sem])
    have f2 := hE.frozen (p := ⟨w.heap.size + 1 + 1 + 1, 0, none⟩) (by simp)
    have f3 := hE.frozen (p := ⟨w.heap.size + 1 + 1 + 1, 1, none⟩) (by simp)
    simp [go_sem] at f2 f3
    replace hE := hE1.tr hE
    go_wp2_with fail
    exact bodyPost_ret (v := .tuple #[.agg #[.int .i64 0, .slice none 0 0], .int .i64 1]) (by simp [results, Try.results57, go_sem, d0, d1]) rfl (RelRes.no ((hE.setCell (by simp <;> omega) _).setCell (by simp <;> omega) _))
  | true =>
    obtain ⟨⟨hs1, hs2⟩, ⟨hm1, hm2⟩, -⟩ := valid_parts h1
    cases h2 : SValidRel s q with
    | false =>
      rw [comp_1 (by rw [h1, h2]; rfl)]
      go_enter Try.func57, Try.ntmps57
      go_wp2_with fail
      refine (implValidRel_ok s r _ _ (hr.ext hE1)).mono ?_
      rintro e w1 ⟨rfl, hE⟩
      rw [h1]
      have z0 := hE.cell (p := ⟨w.heap.size, 0, none⟩) (v := .int .i64 s) (by simp [go_sem])
      have c0 := hE.cell (p := ⟨w.heap.size + 1, 0, none⟩) (v := .int .i64 r.1) (by simp [go_sem])
      have c1 := hE.cell (p := ⟨w.heap.size + 1, 1, none⟩) (v := .slice ta r.2.length tc) (by simp [go_sem])
      have e0 := hE.cell (p := ⟨w.heap.size + 1 + 1, 0, none⟩) (v := .int .i64 q.1) (by simp [go_sem])
      have e1 := hE.cell (p := ⟨w.heap.size + 1 + 1, 1, none⟩) (v := .slice ua' q.2.length uc') (by simp [go_sem])
      have d0 := hE.cell (p := ⟨w.heap.size + 1 + 1 + 1, 0, none⟩) (v := .int .i64 0) (by simp [go_sem])
      have d1 := hE.cell (p := ⟨w.heap.size + 1 + 1 + 1, 1, none⟩) (v := .slice none 0 0) (by simp [go_sem])
      have f2 := hE.frozen (p := ⟨w.heap.size + 1 + 1 + 1, 0, none⟩) (by simp)
      have f3 := hE.frozen (p := ⟨w.heap.size + 1 + 1 + 1, 1, none⟩) (by simp)
      simp [go_sem] at f2 f3
      replace hE := hE1.tr hE
      go_wp2_with fail
      refine (implValidRel_ok s q _ _ (hs.ext hE)).mono ?_
      rintro e w2 ⟨rfl, hE2⟩
      rw [h2]
      replace f2 : _ = false := (hE2.frozen (lt_of_cell d0)).trans f2
      replace f3 : _ = false := (hE2.frozen (lt_of_cell d1)).trans f3
      replace d0 := hE2.cell d0
      replace d1 := hE2.cell d1
      replace z0 := hE2.cell z0
      replace c0 := hE2.cell c0
      replace c1 := hE2.cell c1
      replace e0 := hE2.cell e0
      replace e1 := hE2.cell e1
      replace hE := hE.tr hE2
      clear hE2
      go_wp2_with fail
      exact bodyPost_ret (v := .tuple #[.agg #[.int .i64 0, .slice none 0 0], .int .i64 1]) (by simp [results, Try.results57, go_sem, d0, d1]) rfl (RelRes.no ((hE.setCell (by simp <;> omega) _).setCell (by simp <;> omega) _))
    | true =>
      by_cases h3 : r.1 = 2
      · by_cases h4 : q.1 = 2
        · have hb3 : (r.1 != 2) = false := by simp [h3]
          have hb4 : (q.1 != 2) = false := by simp [h4]
          rw [comp_0 h1 h2 h3 h4]
          have hmk := mkRel_SrelOf (s := s) (m := 2) (p := compP s r q) hs1 hs2 (by omega) (by omega)
          clear h3 h4
          go_enter Try.func57, Try.ntmps57
          go_wp2_with fail
          refine (implValidRel_ok s r _ _ (hr.ext hE1)).mono ?_
          rintro e w1 ⟨rfl, hE⟩
          rw [h1]
          have z0 := hE.cell (p := ⟨w.heap.size, 0, none⟩) (v := .int .i64 s) (by simp [go_sem])
          have c0 := hE.cell (p := ⟨w.heap.size + 1, 0, none⟩) (v := .int .i64 r.1) (by simp [go_sem])
          have c1 := hE.cell (p := ⟨w.heap.size + 1, 1, none⟩) (v := .slice ta r.2.length tc) (by simp [go_sem])
          have e0 := hE.cell (p := ⟨w.heap.size + 1 + 1, 0, none⟩) (v := .int .i64 q.1) (by simp [go_sem])
          have e1 := hE.cell (p := ⟨w.heap.size + 1 + 1, 1, none⟩) (v := .slice ua' q.2.length uc') (by simp [go_sem])
          have d0 := hE.cell (p := ⟨w.heap.size + 1 + 1 + 1, 0, none⟩) (v := .int .i64 0) (by simp [go_sem])
          have d1 := hE.cell (p := ⟨w.heap.size + 1 + 1 + 1, 1, none⟩) (v := .slice none 0 0) (by simp [go_sem])
          have f2 := hE.frozen (p := ⟨w.heap.size + 1 + 1 + 1, 0, none⟩) (by simp)
          have f3 := hE.frozen (p := ⟨w.heap.size + 1 + 1 + 1, 1, none⟩) (by simp)
          simp [go_sem] at f2 f3
          replace hE := hE1.tr hE
          go_wp2_with fail
          refine (implValidRel_ok s q _ _ (hs.ext hE)).mono ?_
          rintro e w2 ⟨rfl, hE2⟩
          rw [h2]
          replace f2 : _ = false := (hE2.frozen (lt_of_cell d0)).trans f2
          replace f3 : _ = false := (hE2.frozen (lt_of_cell d1)).trans f3
          replace d0 := hE2.cell d0
          replace d1 := hE2.cell d1
          replace z0 := hE2.cell z0
          replace c0 := hE2.cell c0
          replace c1 := hE2.cell c1
          replace e0 := hE2.cell e0
          replace e1 := hE2.cell e1
          replace hE := hE.tr hE2
          clear hE2
          have H1 := Lib.hid h1
          have H2 := Lib.hid h2
          clear h1 h2
          go_wp2_with fail
          refine (relOf_any s 2 (compP s r q) 113 #[] _ _ hs1 hs2 (by omega) (by omega) Try.call113 ?_).mono ?_
          · intro k u w' _ hEc hx
            have z0 := hEc.cell z0
            have c0 := hEc.cell c0
            have c1 := hEc.cell c1
            have e0 := hEc.cell e0
            have e1 := hEc.cell e1
            have hl := digs_length s (2 : Int).toNat k
            generalize digs s (2 : Int).toNat k = l at hx hl ⊢
            obtain ⟨a, b, off, c, rfl, hlc, hcm, ha, hc⟩ := hx
            obtain ⟨x0, x1, rfl⟩ := len_two hl
            obtain rfl := ha (by simp)
            have hc0 : w'.cell? ⟨b, off, none⟩ = some (.int .i64 x0) := by simpa using hc 0 (by simp)
            have hc1 : w'.cell? ⟨b, off + 1, none⟩ = some (.int .i64 x1) := by simpa using hc 1 (by simp)
            obtain ⟨sn, rfl⟩ := Int.eq_ofNat_of_zero_le (show 0 ≤ s by omega)
            have HP := Lib.hid (show compP (sn : Int) r q [x0, x1] = (List.range sn).any fun b : Nat => hasT r [x0, (b : Int)] && hasT q [(b : Int), x1] from rfl)
            clear hc hl hlc
            simp only [List.append_toArray, List.nil_append, List.cons_append]
            have hrN := (hr.ext hE).ext hEc
            have hsN := (hs.ext hE).ext hEc
            go_enter Try.func113, Try.ntmps113
            go_wp2_with fail
            go_loopw [8] (fun i wr => ∃ d : Nat, d ≤ sn ∧ i = .int .i64 d ∧ Ext w' wr ∧ Hid (((List.range d).any fun b : Nat => hasT r [x0, (b : Int)] && hasT q [(b : Int), x1]) = false)) (fun i _ => sn - (intOf i).toNat)
            case atStart => exact ⟨0, by omega, rfl, Ext.refl' _, Lib.hid rfl⟩
            case round =>
              obtain ⟨d, hd, rfl, hEl, HN⟩ := hrel
              by_cases hdl : d < sn
              · have c0 := hEl.cell c0
                have c1 := hEl.cell c1
                have e0 := hEl.cell e0
                have e1 := hEl.cell e1
                have hc0 := hEl.cell hc0
                have hc1 := hEl.cell hc1
                have hrN := hrN.ext hEl
                have hsN := hsN.ext hEl
                cases ht : hasT r [x0, (d : Int)] with
                | false =>
                  cases ht2 : hasT q [(d : Int), x1] with
                  | false =>
                    have HK := Lib.hid (any_range_no HN.out (show (hasT r [x0, (d : Int)] && hasT q [(d : Int), x1]) = false from by rw [ht, ht2]; rfl))
                    go_wp2_with fail
                    go_wp2_with fail
                    refine region_sp [] [] [SP.val (.agg #[.int .i64 r.1, .slice ta r.2.length tc]), SP.val (.slice (some ⟨b, off, none⟩) 2 c), SP.val (.pointer (some ⟨b, off, none⟩)), SP.val (.int .i64 x0), SP.val (.int .i64 (d : Nat)), SP.ownIb wr.heap.size [x0, (d : Nat)], SP.val (.bool false), SP.val (.bool false), SP.val undef, SP.val undef, SP.val undef, SP.val undef, SP.val undef, SP.val undef, SP.val undef, SP.val (.bool false)] (by kernel_rfl) (fun _ d _ _ _ h => by cases d <;> exact h) (by kernel_rfl) (by kernel_rfl)
                      (.cons (fun vs y hY => Step.load ⟨(w.heap.size + 1), 0, none⟩ rfl rfl rfl (by simp [go_sem, hY.cell c0, hY.cell c1]) rfl) <|
                       .cons (fun vs y hY => Step.move rfl rfl rfl rfl) <|
                       .cons (fun vs y hY g1_0 => Step.indexAtP (n := .int .i64 0) ⟨b, off, none⟩ rfl rfl g1_0 rfl (by simp [go_sem, Instr.indexAt, Addr.add] <;> omega) rfl) <|
                       .cons (fun vs y hY g2_0 => Step.load ⟨b, off, none⟩ rfl rfl g2_0 (by simp [go_sem, hY.cell hc0]) rfl) <|
                       .cons (fun vs y hY => Step.move rfl rfl rfl rfl) <|
                       .cons (fun vs y hY g3_0 g4_1 => Step.buildSlice2 (e := 2) rfl rfl g3_0 g4_1 (by simp [go_sem]) ⟨_, OI_pair _ _ _, by simp; exact hY.size⟩) <|
                       .cons (fun vs y hY g0_0 g5_1 => Step.call Try.call104 rfl rfl [vs 0, vs 5] rfl rfl (by rw [show vs 0 = _ from g0_0]; exact (Calls.spe (has_any (sn : Int) r _ _ _ _ (hrN.ext hY) (rdI_of_spb g5_1) H1.out hz) (by rw [ht])))) <|
                       .cons (fun vs y hY g6_0 g6_1 => Step.move rfl rfl g6_0 rfl) <|
                       .cons (fun vs y hY g7_0 => Step.off rfl rfl g7_0 (by decide) rfl) <|
                       .cons (fun vs y hY g7_0 => Step.off rfl rfl g7_0 (by decide) rfl) <|
                       .cons (fun vs y hY g7_0 => Step.off rfl rfl g7_0 (by decide) rfl) <|
                       .cons (fun vs y hY g10_0 g7_1 => Step.off rfl rfl g7_1 (by decide) rfl) <|
                       .cons (fun vs y hY g11_0 g7_1 => Step.off rfl rfl g7_1 (by decide) rfl) <|
                       .cons (fun vs y hY g9_0 g12_1 g7_2 => Step.off rfl rfl g7_2 (by decide) rfl) <|
                       .cons (fun vs y hY g8_0 g13_1 g7_2 g7_3 => Step.off rfl rfl g7_2 (by decide) rfl) <|
                       .cons (fun vs y hY g7_0 g14_1 => Step.pick rfl rfl g7_0 g14_1 rfl rfl) <|
                       .nil) ?_
                    intro vs w3 hC hL
                    have r0 : vs 0 = _ := hL 0 (by decide) rfl
                    have r1 : vs 1 = _ := hL 1 (by decide) rfl
                    have r2 : vs 2 = _ := hL 2 (by decide) rfl
                    have r3 : vs 3 = _ := hL 3 (by decide) rfl
                    have r4 : vs 4 = _ := hL 4 (by decide) rfl
                    have r5 := hL 5 (by decide) rfl
                    have r6 : vs 6 = _ := hL 6 (by decide) rfl
                    have r7 : vs 7 = _ := hL 7 (by decide) rfl
                    have r8 : vs 8 = _ := hL 8 (by decide) rfl
                    have r9 : vs 9 = _ := hL 9 (by decide) rfl
                    have r10 : vs 10 = _ := hL 10 (by decide) rfl
                    have r11 : vs 11 = _ := hL 11 (by decide) rfl
                    have r12 : vs 12 = _ := hL 12 (by decide) rfl
                    have r13 : vs 13 = _ := hL 13 (by decide) rfl
                    have r14 : vs 14 = _ := hL 14 (by decide) rfl
                    have r15 : vs 15 = _ := hL 15 (by decide) rfl
                    clear hL
                    simp only [putAll, Act.put, List.contains_nil, cond_false, List.setIfInBounds_toArray, List.set_cons_succ, List.set_cons_zero, List.filterMap_nil, r0, r1, r2, r3, r4, r6, r7, r8, r9, r10, r11, r12, r13, r14, r15]
                    clear r0 r1 r2 r3 r4 r6 r7 r8 r9 r10 r11 r12 r13 r14 r15
                    go_wp2_with fail
                    go_roundw
                    case rel => exact ⟨d + 1, by omega, by go_num, hEl.tr hC, HK⟩
                    case measure => simp [intOf]; omega
                  | true =>
                    have HK := Lib.hid (any_range_no HN.out (show (hasT r [x0, (d : Int)] && hasT q [(d : Int), x1]) = false from by rw [ht, ht2]; rfl))
                    go_wp2_with fail
                    go_wp2_with fail
                    refine region_sp [] [] [SP.val (.agg #[.int .i64 r.1, .slice ta r.2.length tc]), SP.val (.slice (some ⟨b, off, none⟩) 2 c), SP.val (.pointer (some ⟨b, off, none⟩)), SP.val (.int .i64 x0), SP.val (.int .i64 (d : Nat)), SP.ownIb wr.heap.size [x0, (d : Nat)], SP.val (.bool false), SP.val (.bool false), SP.val undef, SP.val undef, SP.val undef, SP.val undef, SP.val undef, SP.val undef, SP.val undef, SP.val (.bool false)] (by kernel_rfl) (fun _ d _ _ _ h => by cases d <;> exact h) (by kernel_rfl) (by kernel_rfl)
                      (.cons (fun vs y hY => Step.load ⟨(w.heap.size + 1), 0, none⟩ rfl rfl rfl (by simp [go_sem, hY.cell c0, hY.cell c1]) rfl) <|
                       .cons (fun vs y hY => Step.move rfl rfl rfl rfl) <|
                       .cons (fun vs y hY g1_0 => Step.indexAtP (n := .int .i64 0) ⟨b, off, none⟩ rfl rfl g1_0 rfl (by simp [go_sem, Instr.indexAt, Addr.add] <;> omega) rfl) <|
                       .cons (fun vs y hY g2_0 => Step.load ⟨b, off, none⟩ rfl rfl g2_0 (by simp [go_sem, hY.cell hc0]) rfl) <|
                       .cons (fun vs y hY => Step.move rfl rfl rfl rfl) <|
                       .cons (fun vs y hY g3_0 g4_1 => Step.buildSlice2 (e := 2) rfl rfl g3_0 g4_1 (by simp [go_sem]) ⟨_, OI_pair _ _ _, by simp; exact hY.size⟩) <|
                       .cons (fun vs y hY g0_0 g5_1 => Step.call Try.call104 rfl rfl [vs 0, vs 5] rfl rfl (by rw [show vs 0 = _ from g0_0]; exact (Calls.spe (has_any (sn : Int) r _ _ _ _ (hrN.ext hY) (rdI_of_spb g5_1) H1.out hz) (by rw [ht])))) <|
                       .cons (fun vs y hY g6_0 g6_1 => Step.move rfl rfl g6_0 rfl) <|
                       .cons (fun vs y hY g7_0 => Step.off rfl rfl g7_0 (by decide) rfl) <|
                       .cons (fun vs y hY g7_0 => Step.off rfl rfl g7_0 (by decide) rfl) <|
                       .cons (fun vs y hY g7_0 => Step.off rfl rfl g7_0 (by decide) rfl) <|
                       .cons (fun vs y hY g10_0 g7_1 => Step.off rfl rfl g7_1 (by decide) rfl) <|
                       .cons (fun vs y hY g11_0 g7_1 => Step.off rfl rfl g7_1 (by decide) rfl) <|
                       .cons (fun vs y hY g9_0 g12_1 g7_2 => Step.off rfl rfl g7_2 (by decide) rfl) <|
                       .cons (fun vs y hY g8_0 g13_1 g7_2 g7_3 => Step.off rfl rfl g7_2 (by decide) rfl) <|
                       .cons (fun vs y hY g7_0 g14_1 => Step.pick rfl rfl g7_0 g14_1 rfl rfl) <|
                       .nil) ?_
                    intro vs w3 hC hL
                    have r0 : vs 0 = _ := hL 0 (by decide) rfl
                    have r1 : vs 1 = _ := hL 1 (by decide) rfl
                    have r2 : vs 2 = _ := hL 2 (by decide) rfl
                    have r3 : vs 3 = _ := hL 3 (by decide) rfl
                    have r4 : vs 4 = _ := hL 4 (by decide) rfl
                    have r5 := hL 5 (by decide) rfl
                    have r6 : vs 6 = _ := hL 6 (by decide) rfl
                    have r7 : vs 7 = _ := hL 7 (by decide) rfl
                    have r8 : vs 8 = _ := hL 8 (by decide) rfl
                    have r9 : vs 9 = _ := hL 9 (by decide) rfl
                    have r10 : vs 10 = _ := hL 10 (by decide) rfl
                    have r11 : vs 11 = _ := hL 11 (by decide) rfl
                    have r12 : vs 12 = _ := hL 12 (by decide) rfl
                    have r13 : vs 13 = _ := hL 13 (by decide) rfl
                    have r14 : vs 14 = _ := hL 14 (by decide) rfl
                    have r15 : vs 15 = _ := hL 15 (by decide) rfl
                    clear hL
                    simp only [putAll, Act.put, List.contains_nil, cond_false, List.setIfInBounds_toArray, List.set_cons_succ, List.set_cons_zero, List.filterMap_nil, r0, r1, r2, r3, r4, r6, r7, r8, r9, r10, r11, r12, r13, r14, r15]
                    clear r0 r1 r2 r3 r4 r6 r7 r8 r9 r10 r11 r12 r13 r14 r15
                    go_wp2_with fail
                    go_roundw
                    case rel => exact ⟨d + 1, by omega, by go_num, hEl.tr hC, HK⟩
                    case measure => simp [intOf]; omega
                | true =>
                  cases ht2 : hasT q [(d : Int), x1] with
                  | false =>
                    have HK := Lib.hid (any_range_no HN.out (show (hasT r [x0, (d : Int)] && hasT q [(d : Int), x1]) = false from by rw [ht, ht2]; rfl))
                    go_wp2_with fail
                    go_wp2_with fail
                    refine region_sp [] [] [SP.val (.agg #[.int .i64 r.1, .slice ta r.2.length tc]), SP.val (.slice (some ⟨b, off, none⟩) 2 c), SP.val (.pointer (some ⟨b, off, none⟩)), SP.val (.int .i64 x0), SP.val (.int .i64 (d : Nat)), SP.ownIb wr.heap.size [x0, (d : Nat)], SP.val (.bool true), SP.val (.bool true), SP.val (.agg #[.int .i64 q.1, .slice ua' q.2.length uc']), SP.val (.int .i64 (d : Nat)), SP.val (.slice (some ⟨b, off, none⟩) 2 c), SP.val (.pointer (some ⟨b, off + 1, none⟩)), SP.val (.int .i64 x1), SP.ownIb wr.heap.size [(d : Nat), x1], SP.val (.bool false), SP.val (.bool false)] (by kernel_rfl) (fun _ d _ _ _ h => by cases d <;> exact h) (by kernel_rfl) (by kernel_rfl)
                      (.cons (fun vs y hY => Step.load ⟨(w.heap.size + 1), 0, none⟩ rfl rfl rfl (by simp [go_sem, hY.cell c0, hY.cell c1]) rfl) <|
                       .cons (fun vs y hY => Step.move rfl rfl rfl rfl) <|
                       .cons (fun vs y hY g1_0 => Step.indexAtP (n := .int .i64 0) ⟨b, off, none⟩ rfl rfl g1_0 rfl (by simp [go_sem, Instr.indexAt, Addr.add] <;> omega) rfl) <|
                       .cons (fun vs y hY g2_0 => Step.load ⟨b, off, none⟩ rfl rfl g2_0 (by simp [go_sem, hY.cell hc0]) rfl) <|
                       .cons (fun vs y hY => Step.move rfl rfl rfl rfl) <|
                       .cons (fun vs y hY g3_0 g4_1 => Step.buildSlice2 (e := 2) rfl rfl g3_0 g4_1 (by simp [go_sem]) ⟨_, OI_pair _ _ _, by simp; exact hY.size⟩) <|
                       .cons (fun vs y hY g0_0 g5_1 => Step.call Try.call104 rfl rfl [vs 0, vs 5] rfl rfl (by rw [show vs 0 = _ from g0_0]; exact (Calls.spe (has_any (sn : Int) r _ _ _ _ (hrN.ext hY) (rdI_of_spb g5_1) H1.out hz) (by rw [ht])))) <|
                       .cons (fun vs y hY g6_0 g6_1 => Step.move rfl rfl g6_0 rfl) <|
                       .cons (fun vs y hY g7_0 => Step.on rfl rfl g7_0 (GivesR.load ⟨(w.heap.size + 1 + 1), 0, none⟩ rfl rfl (by simp [go_sem, hY.cell e0, hY.cell e1]) ⟨Ext.refl_ _, rfl⟩)) <|
                       .cons (fun vs y hY g7_0 => Step.on rfl rfl g7_0 (GivesR.move rfl rfl ⟨Ext.refl_ _, rfl⟩)) <|
                       .cons (fun vs y hY g7_0 => Step.on rfl rfl g7_0 (GivesR.move rfl rfl ⟨Ext.refl_ _, rfl⟩)) <|
                       .cons (fun vs y hY g10_0 g7_1 => Step.on rfl rfl g7_1 (GivesR.indexAtP (n := .int .i64 1) ⟨b, off + 1, none⟩ rfl g10_0 rfl (by simp [go_sem, Instr.indexAt, Addr.add] <;> omega) ⟨Ext.refl_ _, rfl⟩)) <|
                       .cons (fun vs y hY g11_0 g7_1 => Step.on rfl rfl g7_1 (GivesR.load ⟨b, off + 1, none⟩ rfl g11_0 (by simp [go_sem, hY.cell hc1]) ⟨Ext.refl_ _, rfl⟩)) <|
                       .cons (fun vs y hY g9_0 g12_1 g7_2 => Step.on rfl rfl g7_2 (GivesR.buildSlice2 (e := 2) rfl g9_0 g12_1 (by simp [go_sem]) ⟨(Ext.refl_ _).alloc (Nat.le_refl _) _, _, OI_pair _ _ _, by simp; exact hY.size⟩)) <|
                       .cons (fun vs y hY g8_0 g13_1 g7_2 g7_3 => Step.on rfl rfl g7_2 (GivesR.call rfl [vs 8, vs 13] rfl rfl Try.call104 (by rw [show vs 8 = _ from g8_0]; exact (Calls.spe (has_any (sn : Int) q _ _ _ _ (hsN.ext hY) (rdI_of_spb g13_1) H2.out hz2) (by rw [ht2]))))) <|
                       .cons (fun vs y hY g7_0 g14_1 => Step.pick rfl rfl g7_0 g14_1 rfl rfl) <|
                       .nil) ?_
                    intro vs w3 hC hL
                    have r0 : vs 0 = _ := hL 0 (by decide) rfl
                    have r1 : vs 1 = _ := hL 1 (by decide) rfl
                    have r2 : vs 2 = _ := hL 2 (by decide) rfl
                    have r3 : vs 3 = _ := hL 3 (by decide) rfl
                    have r4 : vs 4 = _ := hL 4 (by decide) rfl
                    have r5 := hL 5 (by decide) rfl
                    have r6 : vs 6 = _ := hL 6 (by decide) rfl
                    have r7 : vs 7 = _ := hL 7 (by decide) rfl
                    have r8 : vs 8 = _ := hL 8 (by decide) rfl
                    have r9 : vs 9 = _ := hL 9 (by decide) rfl
                    have r10 : vs 10 = _ := hL 10 (by decide) rfl
                    have r11 : vs 11 = _ := hL 11 (by decide) rfl
                    have r12 : vs 12 = _ := hL 12 (by decide) rfl
                    have r13 := hL 13 (by decide) rfl
                    have r14 : vs 14 = _ := hL 14 (by decide) rfl
                    have r15 : vs 15 = _ := hL 15 (by decide) rfl
                    clear hL
                    simp only [putAll, Act.put, List.contains_nil, cond_false, List.setIfInBounds_toArray, List.set_cons_succ, List.set_cons_zero, List.filterMap_nil, r0, r1, r2, r3, r4, r6, r7, r8, r9, r10, r11, r12, r14, r15]
                    clear r0 r1 r2 r3 r4 r6 r7 r8 r9 r10 r11 r12 r14 r15
                    go_wp2_with fail
                    go_roundw
                    case rel => exact ⟨d + 1, by omega, by go_num, hEl.tr hC, HK⟩
                    case measure => simp [intOf]; omega
                  | true =>
                    have HK := Lib.hid (any_range_yes (p := fun b : Nat => hasT r [x0, (b : Int)] && hasT q [(b : Int), x1]) hdl (show (hasT r [x0, (d : Int)] && hasT q [(d : Int), x1]) = true from by rw [ht, ht2]; rfl))
                    go_wp2_with fail
                    go_wp2_with fail
                    refine region_sp [] [] [SP.val (.agg #[.int .i64 r.1, .slice ta r.2.length tc]), SP.val (.slice (some ⟨b, off, none⟩) 2 c), SP.val (.pointer (some ⟨b, off, none⟩)), SP.val (.int .i64 x0), SP.val (.int .i64 (d : Nat)), SP.ownIb wr.heap.size [x0, (d : Nat)], SP.val (.bool true), SP.val (.bool true), SP.val (.agg #[.int .i64 q.1, .slice ua' q.2.length uc']), SP.val (.int .i64 (d : Nat)), SP.val (.slice (some ⟨b, off, none⟩) 2 c), SP.val (.pointer (some ⟨b, off + 1, none⟩)), SP.val (.int .i64 x1), SP.ownIb wr.heap.size [(d : Nat), x1], SP.val (.bool true), SP.val (.bool true)] (by kernel_rfl) (fun _ d _ _ _ h => by cases d <;> exact h) (by kernel_rfl) (by kernel_rfl)
                      (.cons (fun vs y hY => Step.load ⟨(w.heap.size + 1), 0, none⟩ rfl rfl rfl (by simp [go_sem, hY.cell c0, hY.cell c1]) rfl) <|
                       .cons (fun vs y hY => Step.move rfl rfl rfl rfl) <|
                       .cons (fun vs y hY g1_0 => Step.indexAtP (n := .int .i64 0) ⟨b, off, none⟩ rfl rfl g1_0 rfl (by simp [go_sem, Instr.indexAt, Addr.add] <;> omega) rfl) <|
                       .cons (fun vs y hY g2_0 => Step.load ⟨b, off, none⟩ rfl rfl g2_0 (by simp [go_sem, hY.cell hc0]) rfl) <|
                       .cons (fun vs y hY => Step.move rfl rfl rfl rfl) <|
                       .cons (fun vs y hY g3_0 g4_1 => Step.buildSlice2 (e := 2) rfl rfl g3_0 g4_1 (by simp [go_sem]) ⟨_, OI_pair _ _ _, by simp; exact hY.size⟩) <|
                       .cons (fun vs y hY g0_0 g5_1 => Step.call Try.call104 rfl rfl [vs 0, vs 5] rfl rfl (by rw [show vs 0 = _ from g0_0]; exact (Calls.spe (has_any (sn : Int) r _ _ _ _ (hrN.ext hY) (rdI_of_spb g5_1) H1.out hz) (by rw [ht])))) <|
                       .cons (fun vs y hY g6_0 g6_1 => Step.move rfl rfl g6_0 rfl) <|
                       .cons (fun vs y hY g7_0 => Step.on rfl rfl g7_0 (GivesR.load ⟨(w.heap.size + 1 + 1), 0, none⟩ rfl rfl (by simp [go_sem, hY.cell e0, hY.cell e1]) ⟨Ext.refl_ _, rfl⟩)) <|
                       .cons (fun vs y hY g7_0 => Step.on rfl rfl g7_0 (GivesR.move rfl rfl ⟨Ext.refl_ _, rfl⟩)) <|
                       .cons (fun vs y hY g7_0 => Step.on rfl rfl g7_0 (GivesR.move rfl rfl ⟨Ext.refl_ _, rfl⟩)) <|
                       .cons (fun vs y hY g10_0 g7_1 => Step.on rfl rfl g7_1 (GivesR.indexAtP (n := .int .i64 1) ⟨b, off + 1, none⟩ rfl g10_0 rfl (by simp [go_sem, Instr.indexAt, Addr.add] <;> omega) ⟨Ext.refl_ _, rfl⟩)) <|
                       .cons (fun vs y hY g11_0 g7_1 => Step.on rfl rfl g7_1 (GivesR.load ⟨b, off + 1, none⟩ rfl g11_0 (by simp [go_sem, hY.cell hc1]) ⟨Ext.refl_ _, rfl⟩)) <|
                       .cons (fun vs y hY g9_0 g12_1 g7_2 => Step.on rfl rfl g7_2 (GivesR.buildSlice2 (e := 2) rfl g9_0 g12_1 (by simp [go_sem]) ⟨(Ext.refl_ _).alloc (Nat.le_refl _) _, _, OI_pair _ _ _, by simp; exact hY.size⟩)) <|
                       .cons (fun vs y hY g8_0 g13_1 g7_2 g7_3 => Step.on rfl rfl g7_2 (GivesR.call rfl [vs 8, vs 13] rfl rfl Try.call104 (by rw [show vs 8 = _ from g8_0]; exact (Calls.spe (has_any (sn : Int) q _ _ _ _ (hsN.ext hY) (rdI_of_spb g13_1) H2.out hz2) (by rw [ht2]))))) <|
                       .cons (fun vs y hY g7_0 g14_1 => Step.pick rfl rfl g7_0 g14_1 rfl rfl) <|
                       .nil) ?_
                    intro vs w3 hC hL
                    have r0 : vs 0 = _ := hL 0 (by decide) rfl
                    have r1 : vs 1 = _ := hL 1 (by decide) rfl
                    have r2 : vs 2 = _ := hL 2 (by decide) rfl
                    have r3 : vs 3 = _ := hL 3 (by decide) rfl
                    have r4 : vs 4 = _ := hL 4 (by decide) rfl
                    have r5 := hL 5 (by decide) rfl
                    have r6 : vs 6 = _ := hL 6 (by decide) rfl
                    have r7 : vs 7 = _ := hL 7 (by decide) rfl
                    have r8 : vs 8 = _ := hL 8 (by decide) rfl
                    have r9 : vs 9 = _ := hL 9 (by decide) rfl
                    have r10 : vs 10 = _ := hL 10 (by decide) rfl
                    have r11 : vs 11 = _ := hL 11 (by decide) rfl
                    have r12 : vs 12 = _ := hL 12 (by decide) rfl
                    have r13 := hL 13 (by decide) rfl
                    have r14 : vs 14 = _ := hL 14 (by decide) rfl
                    have r15 : vs 15 = _ := hL 15 (by decide) rfl
                    clear hL
                    simp only [putAll, Act.put, List.contains_nil, cond_false, List.setIfInBounds_toArray, List.set_cons_succ, List.set_cons_zero, List.filterMap_nil, r0, r1, r2, r3, r4, r6, r7, r8, r9, r10, r11, r12, r14, r15]
                    clear r0 r1 r2 r3 r4 r6 r7 r8 r9 r10 r11 r12 r14 r15
                    go_wp2_with fail
                    go_ret
                    exact ⟨ret_bool (by rw [HP.out, HK.out]), hEl.tr hC⟩
              · have hdd : d = sn := by omega
                subst hdd
                go_wp2_with fail
                go_ret
                exact ⟨ret_bool (by rw [HP.out, HN.out]), hEl⟩
          rintro e w3 ⟨u, fp, rfl, hE3, hr3, hfr⟩
          have q0 := lt_of_cell d0
          obtain ⟨ua, uc, rfl⟩ := hr3.form
          replace f2 : _ = false := (hE3.frozen (lt_of_cell d0)).trans f2
          replace f3 : _ = false := (hE3.frozen (lt_of_cell d1)).trans f3
          replace d0 := hE3.cell d0
          replace d1 := hE3.cell d1
          go_wp2_with fail
          exact bodyPost_ret (v := .tuple #[.agg #[.int .i64 (SrelOf s 2 (compP s r q)).1, .slice ua (SrelOf s 2 (compP s r q)).2.length uc], .int .i64 0]) (by simp [results, Try.results57, go_sem, d0, d1]; try rfl) rfl
            (RelRes.of rfl (((hE.tr hE3).setCell (by simp <;> omega) _).setCell (by simp <;> omega) _) (hr3.off ((Off.set (fp := [w.heap.size + 1 + 1 + 1]) (by simp)).trans (Off.set (by simp))) (fun h hh hm => by have := hfr h hh; simp at hm; (try dsimp only at q0); omega)) (fun h hh => by have := hfr h hh; have := hE.size; omega) hmk)
        · have hb3 : (r.1 != 2) = false := by simp [h3]
          have hb4 : (q.1 != 2) = true := by simp [h4]
          rw [comp_2 h1 h2 (fun h => h4 h.2)]
          clear h3 h4
          go_enter Try.func57, Try.ntmps57
          go_wp2_with fail
          refine (implValidRel_ok s r _ _ (hr.ext hE1)).mono ?_
          rintro e w1 ⟨rfl, hE⟩
          rw [h1]
          have z0 := hE.cell (p := ⟨w.heap.size, 0, none⟩) (v := .int .i64 s) (by simp [go_sem])
          have c0 := hE.cell (p := ⟨w.heap.size + 1, 0, none⟩) (v := .int .i64 r.1) (by simp [go_sem])
          have c1 := hE.cell (p := ⟨w.heap.size + 1, 1, none⟩) (v := .slice ta r.2.length tc) (by simp [go_sem])
          have e0 := hE.cell (p := ⟨w.heap.size + 1 + 1, 0, none⟩) (v := .int .i64 q.1) (by simp [go_sem])
          have e1 := hE.cell (p := ⟨w.heap.size + 1 + 1, 1, none⟩) (v := .slice ua' q.2.length uc') (by simp [go_sem])
          have d0 := hE.cell (p := ⟨w.heap.size + 1 + 1 + 1, 0, none⟩) (v := .int .i64 0) (by simp [go_sem])
          have d1 := hE.cell (p := ⟨w.heap.size + 1 + 1 + 1, 1, none⟩) (v := .slice none 0 0) (by simp [go_sem])
          have f2 := hE.frozen (p := ⟨w.heap.size + 1 + 1 + 1, 0, none⟩) (by simp)
          have f3 := hE.frozen (p := ⟨w.heap.size + 1 + 1 + 1, 1, none⟩) (by simp)
          simp [go_sem] at f2 f3
          replace hE := hE1.tr hE
          go_wp2_with fail
          refine (implValidRel_ok s q _ _ (hs.ext hE)).mono ?_
          rintro e w2 ⟨rfl, hE2⟩
          rw [h2]
          replace f2 : _ = false := (hE2.frozen (lt_of_cell d0)).trans f2
          replace f3 : _ = false := (hE2.frozen (lt_of_cell d1)).trans f3
          replace d0 := hE2.cell d0
          replace d1 := hE2.cell d1
          replace z0 := hE2.cell z0
          replace c0 := hE2.cell c0
          replace c1 := hE2.cell c1
          replace e0 := hE2.cell e0
          replace e1 := hE2.cell e1
          replace hE := hE.tr hE2
          clear hE2
          go_wp2_with fail
          exact bodyPost_ret (v := .tuple #[.agg #[.int .i64 0, .slice none 0 0], .int .i64 2]) (by simp [results, Try.results57, go_sem, d0, d1]) rfl (RelRes.no ((hE.setCell (by simp <;> omega) _).setCell (by simp <;> omega) _))
      · have hb3 : (r.1 != 2) = true := by simp [h3]
        rw [comp_2 h1 h2 (fun h => h3 h.1)]
        clear h3
        go_enter Try.func57, Try.ntmps57
        go_wp2_with fail
        refine (implValidRel_ok s r _ _ (hr.ext hE1)).mono ?_
        rintro e w1 ⟨rfl, hE⟩
        rw [h1]
        have z0 := hE.cell (p := ⟨w.heap.size, 0, none⟩) (v := .int .i64 s) (by simp [go_sem])
        have c0 := hE.cell (p := ⟨w.heap.size + 1, 0, none⟩) (v := .int .i64 r.1) (by simp [go_sem])
        have c1 := hE.cell (p := ⟨w.heap.size + 1, 1, none⟩) (v := .slice ta r.2.length tc) (by simp [go_sem])
        have e0 := hE.cell (p := ⟨w.heap.size + 1 + 1, 0, none⟩) (v := .int .i64 q.1) (by simp [go_sem])
        have e1 := hE.cell (p := ⟨w.heap.size + 1 + 1, 1, none⟩) (v := .slice ua' q.2.length uc') (by simp [go_sem])
        have d0 := hE.cell (p := ⟨w.heap.size + 1 + 1 + 1, 0, none⟩) (v := .int .i64 0) (by simp [go_sem])
        have d1 := hE.cell (p := ⟨w.heap.size + 1 + 1 + 1, 1, none⟩) (v := .slice none 0 0) (by simp [go_sem])
        have f2 := hE.frozen (p := ⟨w.heap.size + 1 + 1 + 1, 0, none⟩) (by simp)
        have f3 := hE.frozen (p := ⟨w.heap.size + 1 + 1 + 1, 1, none⟩) (by simp)
        simp [go_sem] at f2 f3
        replace hE := hE1.tr hE
        go_wp2_with fail
        refine (implValidRel_ok s q _ _ (hs.ext hE)).mono ?_
        rintro e w2 ⟨rfl, hE2⟩
        rw [h2]
        replace f2 : _ = false := (hE2.frozen (lt_of_cell d0)).trans f2
        replace f3 : _ = false := (hE2.frozen (lt_of_cell d1)).trans f3
        replace d0 := hE2.cell d0
        replace d1 := hE2.cell d1
        replace z0 := hE2.cell z0
        replace c0 := hE2.cell c0
        replace c1 := hE2.cell c1
        replace e0 := hE2.cell e0
        replace e1 := hE2.cell e1
        replace hE := hE.tr hE2
        clear hE2
        go_wp2_with fail
        exact bodyPost_ret (v := .tuple #[.agg #[.int .i64 0, .slice none 0 0], .int .i64 2]) (by simp [results, Try.results57, go_sem, d0, d1]) rfl (RelRes.no ((hE.setCell (by simp <;> omega) _).setCell (by simp <;> omega) _))
end Go.Proofs.Ytefnmfdmnoednaa
