
/- PairRels: the program's and the reference's give one function's answers. -/
import Derived.Test.YtefnmfdmnoednaaFix
import Derived.Test.YtefnmfdmnoednaaAppK
namespace Go.Proofs.Ytefnmfdmnoednaa
open Go.RowKit
set_option linter.unusedVariables false

def pairP (r q : Int × List (List Int)) (t : List Int) : Bool := hasT r (t.take r.1.toNat) && hasT q (t.drop r.1.toNat)
def SPairRels (s : Int) (r q : Int × List (List Int)) : (Int × List (List Int)) × Int :=
  if SValidRel s r && SValidRel s q then if 4 < r.1 + q.1 then (noRel, 2) else (SrelOf s (r.1 + q.1) (pairP r q), 0) else (noRel, 1)
theorem pair_1 {s : Int} {r q : Int × List (List Int)} (h : (SValidRel s r && SValidRel s q) = false) : SPairRels s r q = (noRel, 1) := by unfold SPairRels; rw [h]; rfl
theorem pair_2 {s : Int} {r q : Int × List (List Int)} (h1 : SValidRel s r = true) (h2 : SValidRel s q = true) (h : 4 < r.1 + q.1) : SPairRels s r q = (noRel, 2) := by unfold SPairRels; rw [h1, h2, if_pos h]; rfl
theorem pair_0 {s : Int} {r q : Int × List (List Int)} (h1 : SValidRel s r = true) (h2 : SValidRel s q = true) (h : ¬ 4 < r.1 + q.1) : SPairRels s r q = (SrelOf s (r.1 + q.1) (pairP r q), 0) := by unfold SPairRels; rw [h1, h2, if_neg h]; rfl

theorem cmpL_append (b b' : List Int) : ∀ (a a' : List Int), a.length = a'.length → cmpL (a ++ b) (a' ++ b') = if cmpL a a' = 0 then cmpL b b' else cmpL a a'
  | [], [], _ => by simp [cmpL]
  | [], _ :: _, h => by simp at h
  | _ :: _, [], h => by simp at h
  | x :: xs, y :: ys, h => by
    have e : ∀ (us vs : List Int), cmpL (x :: us) (y :: vs) = if x = y then cmpL us vs else cmpI x y := fun _ _ => rfl
    simp only [List.cons_append]
    rw [e, e]
    by_cases hab : x = y
    · rw [if_pos hab, if_pos hab, cmpL_append b b' xs ys (by simpa using h)]
    · rw [if_neg hab, if_neg hab, if_neg]
      unfold cmpI
      split
      · omega
      · split <;> omega
/-- the pairs in their order: up to the place k of the first list, and of that one up to the place j of the second -/
def pairUp (A B : List (List Int)) (k : Nat) : List (List Int) := (A.take k).flatMap fun a => B.map (a ++ ·)
def pairUp2 (A B : List (List Int)) (k j : Nat) : List (List Int) := pairUp A B k ++ (B.take j).map ((A.getD k []) ++ ·)
theorem pairUp_succ {A B : List (List Int)} {k : Nat} (hk : k < A.length) : pairUp A B (k + 1) = pairUp2 A B k B.length := by
  unfold pairUp2 pairUp
  rw [List.take_length, List.take_succ_eq_append_getElem hk, List.flatMap_append, List.getD_eq_getElem?_getD, List.getElem?_eq_getElem hk]
  simp
theorem pairUp2_succ {A B : List (List Int)} {k j : Nat} (hk : k < A.length) (hj : j < B.length) : pairUp2 A B k (j + 1) = pairUp2 A B k j ++ [A[k] ++ B[j]] := by
  unfold pairUp2
  rw [List.take_succ_eq_append_getElem hj, List.map_append, List.append_assoc, List.getD_eq_getElem?_getD, List.getElem?_eq_getElem hk]
  rfl
theorem pairUp_length (A B : List (List Int)) : ∀ k, (pairUp A B k).length ≤ k * B.length := by
  intro k
  induction k with
  | zero => simp [pairUp]
  | succ k ih =>
    by_cases hk : k < A.length
    · rw [pairUp_succ hk, pairUp2, List.length_append, List.length_map, List.take_length, Nat.add_mul]
      omega
    · unfold pairUp at ih ⊢
      rw [List.take_of_length_le (by omega)] at ih ⊢
      rw [Nat.add_mul]
      omega
theorem pairUp2_length (A B : List (List Int)) (k j : Nat) : (pairUp2 A B k j).length ≤ k * B.length + B.length := by
  have := pairUp_length A B k
  unfold pairUp2
  rw [List.length_append, List.length_map, List.length_take]
  have : min j B.length ≤ B.length := Nat.min_le_right _ _
  omega
theorem vals_append {s m n : Int} {a b : List Int} (ha : vals s a m = true) (hb : vals s b n = true) : vals s (a ++ b) (m + n) = true := by
  obtain ⟨h1, h2⟩ := vals_iff.1 ha
  obtain ⟨h3, h4⟩ := vals_iff.1 hb
  refine vals_iff.2 ⟨by rw [List.length_append]; omega, fun x hx => ?_⟩
  rcases List.mem_append.1 hx with h | h
  · exact h2 x h
  · exact h4 x h
theorem pair_eq {s : Int} {r q : Int × List (List Int)} (hr : SValidRel s r = true) (hq : SValidRel s q = true) (h : ¬ 4 < r.1 + q.1) : (r.1 + q.1, pairUp r.2 q.2 r.2.length) = SrelOf s (r.1 + q.1) (pairP r q) := by
  obtain ⟨h1, h2, h3⟩ := valid_parts hr
  obtain ⟨_, k2, k3⟩ := valid_parts hq
  have hl : ∀ a ∈ r.2, a.length = r.1.toNat := fun a ha => by have := (vals_iff.1 (h3 a ha)).1; omega
  unfold pairUp
  rw [List.take_length]
  refine srel_of h1.1 h1.2 (by omega) (by omega) ?_ fun t => ?_
  · unfold Srt
    rw [List.pairwise_flatMap]
    refine ⟨fun a ha => ?_, ?_⟩
    · rw [List.pairwise_map]
      refine List.Pairwise.imp (fun {x y} hxy => ?_) (valid_srt hq)
      rw [cmpL_append _ _ _ _ rfl, if_pos (cmpL_self _)]
      exact hxy
    · refine List.Pairwise.imp_of_mem (fun {a a'} ha ha' haa x hx y hy => ?_) (valid_srt hr)
      obtain ⟨b, hb, rfl⟩ := List.mem_map.1 hx
      obtain ⟨b', hb', rfl⟩ := List.mem_map.1 hy
      rw [cmpL_append _ _ _ _ (by rw [hl a ha, hl a' ha']), if_neg (by omega)]
      exact haa
  · rw [List.mem_flatMap]
    unfold pairP hasT
    rw [Bool.and_eq_true, decide_eq_true_eq, decide_eq_true_eq]
    constructor
    · rintro ⟨a, ha, hx⟩
      obtain ⟨b, hb, rfl⟩ := List.mem_map.1 hx
      refine ⟨vals_append (h3 a ha) (k3 b hb), ?_, ?_⟩
      · rw [← hl a ha, List.take_left]; exact ha
      · rw [← hl a ha, List.drop_left]; exact hb
    · rintro ⟨_, ha, hb⟩
      exact ⟨_, ha, List.mem_map.2 ⟨_, hb, List.take_append_drop _ _⟩⟩

set_option maxHeartbeats 2000000 in
set_option maxRecDepth 100000 in
theorem implPairRels_any (s : Int) (r : Int × List (List Int)) (v : Value) (q : Int × List (List Int)) (u : Value) (w : World) (hr : RdRel w v r) (hs : RdRel w u q) (_ : -9223372036854775808 ≤ s) (_ : s ≤ 9223372036854775807) (hz : szRel r ≤ 1048576) (hz2 : szRel q ≤ 1048576) :
    Calls Try.prog 53 #[.int .i64 s, v, u] w (RelRes (SPairRels s r q) w) := by
  have hmf : ∀ (fn : Fn) (first cap : Array Value) (w : World), (Instr.makeFunc fn first cap).run Try.prog w = .ok (.func fn first cap) w := fun _ _ _ _ => rfl
  obtain ⟨tv, rfl, hr'⟩ := hr
  obtain ⟨ta, tc, rfl⟩ := hr'.form
  have hr : RdRel w _ r := ⟨_, rfl, hr'⟩
  obtain ⟨tu, rfl, hs'⟩ := hs
  obtain ⟨ua', uc', rfl⟩ := hs'.form
  have hs : RdRel w _ q := ⟨_, rfl, hs'⟩
  have hE1 : Ext w (((w.alloc (.cells #[.int .i64 r.1, .slice ta r.2.length tc] 25)).alloc (.cells #[.int .i64 q.1, .slice ua' q.2.length uc'] 25)).alloc (.cells #[.int .i64 0, .slice none 0 0] 25)) := (((Ext.refl' w).alloc (Nat.le_refl _) _).alloc (by simp) _).alloc (by simp; omega) _
  cases h1 : SValidRel s r with
  | false =>
    rw [pair_1 (by rw [h1]; rfl)]
    go_enter Try.func53, Try.ntmps53
    go_wp2_with fail
    refine (implValidRel_ok s r _ _ (hr.ext hE1)).mono ?_
    rintro e w1 ⟨rfl, hE⟩
    rw [h1]
    have c0 := hE.cell (p := ⟨w.heap.size, 0, none⟩) (v := .int .i64 r.1) (by simp [go_sem])
    have c1 := hE.cell (p := ⟨w.heap.size, 1, none⟩) (v := .slice ta r.2.length tc) (by simp [go_sem])
    have e0 := hE.cell (p := ⟨w.heap.size + 1, 0, none⟩) (v := .int .i64 q.1) (by simp [go_sem])
    have e1 := hE.cell (p := ⟨w.heap.size + 1, 1, none⟩) (v := .slice ua' q.2.length uc') (by simp [go_sem])
    have d0 := hE.cell (p := ⟨w.heap.size + 1 + 1, 0, none⟩) (v := .int .i64 0) (by simp [go_sem])
    have d1 := hE.cell (p := ⟨w.heap.size + 1 + 1, 1, none⟩) (v := .slice none 0 0) (by simp [go_sem])
    have f2 := hE.frozen (p := ⟨w.heap.size + 1 + 1, 0, none⟩) (by simp)
    have f3 := hE.frozen (p := ⟨w.heap.size + 1 + 1, 1, none⟩) (by simp)
    simp [go_sem] at f2 f3
    replace hE := hE1.tr hE
    go_wp2_with fail
    exact bodyPost_ret (v := .tuple #[.agg #[.int .i64 0, .slice none 0 0], .int .i64 1]) (by simp [results, Try.results53, go_sem, d0, d1]) rfl (RelRes.no ((hE.setCell (by simp <;> omega) _).setCell (by simp <;> omega) _))
  | true =>
    obtain ⟨⟨hs1, hs2⟩, ⟨hm1, hm2⟩, -⟩ := valid_parts h1
    cases h2 : SValidRel s q with
    | false =>
      rw [pair_1 (by rw [h1, h2]; rfl)]
      go_enter Try.func53, Try.ntmps53
      go_wp2_with fail
      refine (implValidRel_ok s r _ _ (hr.ext hE1)).mono ?_
      rintro e w1 ⟨rfl, hE⟩
      rw [h1]
      have c0 := hE.cell (p := ⟨w.heap.size, 0, none⟩) (v := .int .i64 r.1) (by simp [go_sem])
      have c1 := hE.cell (p := ⟨w.heap.size, 1, none⟩) (v := .slice ta r.2.length tc) (by simp [go_sem])
      have e0 := hE.cell (p := ⟨w.heap.size + 1, 0, none⟩) (v := .int .i64 q.1) (by simp [go_sem])
      have e1 := hE.cell (p := ⟨w.heap.size + 1, 1, none⟩) (v := .slice ua' q.2.length uc') (by simp [go_sem])
      have d0 := hE.cell (p := ⟨w.heap.size + 1 + 1, 0, none⟩) (v := .int .i64 0) (by simp [go_sem])
      have d1 := hE.cell (p := ⟨w.heap.size + 1 + 1, 1, none⟩) (v := .slice none 0 0) (by simp [go_sem])
      have f2 := hE.frozen (p := ⟨w.heap.size + 1 + 1, 0, none⟩) (by simp)
      have f3 := hE.frozen (p := ⟨w.heap.size + 1 + 1, 1, none⟩) (by simp)
      simp [go_sem] at f2 f3
      replace hE := hE1.tr hE
      go_wp2_with fail
      refine (implValidRel_ok s q _ _ (hs.ext hE)).mono ?_
      rintro e w2 ⟨rfl, hE2⟩
      rw [h2]
      replace f2 : _ = false := (hE2.frozen (lt_of_cell d0)).trans f2
      replace f3 : _ = false := (hE2.frozen (lt_of_cell d1)).trans f3
      replace d0 := hE2.cell d0
      replace d1 := hE2.cell d1
      replace c0 := hE2.cell c0
      replace c1 := hE2.cell c1
      replace e0 := hE2.cell e0
      replace e1 := hE2.cell e1
      replace hE := hE.tr hE2
      clear hE2
      go_wp2_with fail
      exact bodyPost_ret (v := .tuple #[.agg #[.int .i64 0, .slice none 0 0], .int .i64 1]) (by simp [results, Try.results53, go_sem, d0, d1]) rfl (RelRes.no ((hE.setCell (by simp <;> omega) _).setCell (by simp <;> omega) _))
    | true =>
      obtain ⟨-, ⟨hn1, hn2⟩, -⟩ := valid_parts h2
      by_cases h3 : 4 < r.1 + q.1
      · rw [pair_2 h1 h2 h3]
        go_enter Try.func53, Try.ntmps53
        go_wp2_with fail
        refine (implValidRel_ok s r _ _ (hr.ext hE1)).mono ?_
        rintro e w1 ⟨rfl, hE⟩
        rw [h1]
        have c0 := hE.cell (p := ⟨w.heap.size, 0, none⟩) (v := .int .i64 r.1) (by simp [go_sem])
        have c1 := hE.cell (p := ⟨w.heap.size, 1, none⟩) (v := .slice ta r.2.length tc) (by simp [go_sem])
        have e0 := hE.cell (p := ⟨w.heap.size + 1, 0, none⟩) (v := .int .i64 q.1) (by simp [go_sem])
        have e1 := hE.cell (p := ⟨w.heap.size + 1, 1, none⟩) (v := .slice ua' q.2.length uc') (by simp [go_sem])
        have d0 := hE.cell (p := ⟨w.heap.size + 1 + 1, 0, none⟩) (v := .int .i64 0) (by simp [go_sem])
        have d1 := hE.cell (p := ⟨w.heap.size + 1 + 1, 1, none⟩) (v := .slice none 0 0) (by simp [go_sem])
        have f2 := hE.frozen (p := ⟨w.heap.size + 1 + 1, 0, none⟩) (by simp)
        have f3 := hE.frozen (p := ⟨w.heap.size + 1 + 1, 1, none⟩) (by simp)
        simp [go_sem] at f2 f3
        replace hE := hE1.tr hE
        go_wp2_with fail
        refine (implValidRel_ok s q _ _ (hs.ext hE)).mono ?_
        rintro e w2 ⟨rfl, hE2⟩
        rw [h2]
        replace f2 : _ = false := (hE2.frozen (lt_of_cell d0)).trans f2
        replace f3 : _ = false := (hE2.frozen (lt_of_cell d1)).trans f3
        replace d0 := hE2.cell d0
        replace d1 := hE2.cell d1
        replace c0 := hE2.cell c0
        replace c1 := hE2.cell c1
        replace e0 := hE2.cell e0
        replace e1 := hE2.cell e1
        replace hE := hE.tr hE2
        clear hE2
        go_wp2_with fail
        exact bodyPost_ret (v := .tuple #[.agg #[.int .i64 0, .slice none 0 0], .int .i64 2]) (by simp [results, Try.results53, go_sem, d0, d1]) rfl (RelRes.no ((hE.setCell (by simp <;> omega) _).setCell (by simp <;> omega) _))
      · rw [pair_0 h1 h2 h3]
        have hmk := mkRel_SrelOf (s := s) (m := r.1 + q.1) (p := pairP r q) hs1 hs2 (by omega) (by omega)
        go_enter Try.func53, Try.ntmps53
        go_wp2_with fail
        refine (implValidRel_ok s r _ _ (hr.ext hE1)).mono ?_
        rintro e w1 ⟨rfl, hE⟩
        rw [h1]
        have c0 := hE.cell (p := ⟨w.heap.size, 0, none⟩) (v := .int .i64 r.1) (by simp [go_sem])
        have c1 := hE.cell (p := ⟨w.heap.size, 1, none⟩) (v := .slice ta r.2.length tc) (by simp [go_sem])
        have e0 := hE.cell (p := ⟨w.heap.size + 1, 0, none⟩) (v := .int .i64 q.1) (by simp [go_sem])
        have e1 := hE.cell (p := ⟨w.heap.size + 1, 1, none⟩) (v := .slice ua' q.2.length uc') (by simp [go_sem])
        have d0 := hE.cell (p := ⟨w.heap.size + 1 + 1, 0, none⟩) (v := .int .i64 0) (by simp [go_sem])
        have d1 := hE.cell (p := ⟨w.heap.size + 1 + 1, 1, none⟩) (v := .slice none 0 0) (by simp [go_sem])
        have f2 := hE.frozen (p := ⟨w.heap.size + 1 + 1, 0, none⟩) (by simp)
        have f3 := hE.frozen (p := ⟨w.heap.size + 1 + 1, 1, none⟩) (by simp)
        simp [go_sem] at f2 f3
        replace hE := hE1.tr hE
        go_wp2_with fail
        refine (implValidRel_ok s q _ _ (hs.ext hE)).mono ?_
        rintro e w2 ⟨rfl, hE2⟩
        rw [h2]
        replace f2 : _ = false := (hE2.frozen (lt_of_cell d0)).trans f2
        replace f3 : _ = false := (hE2.frozen (lt_of_cell d1)).trans f3
        replace d0 := hE2.cell d0
        replace d1 := hE2.cell d1
        replace c0 := hE2.cell c0
        replace c1 := hE2.cell c1
        replace e0 := hE2.cell e0
        replace e1 := hE2.cell e1
        replace hE := hE.tr hE2
        clear hE2
        have H1 := Lib.hid h1
        have H2 := Lib.hid h2
        clear h1 h2
        go_wp2_with fail
        refine (relOf_any s (r.1 + q.1) (pairP r q) 107 #[] _ _ hs1 hs2 (by omega) (by omega) Try.call107 ?_).mono ?_
        · intro k u w' _ hEc hx
          have c0 := hEc.cell c0
          have c1 := hEc.cell c1
          have e0 := hEc.cell e0
          have e1 := hEc.cell e1
          obtain ⟨n, hn⟩ := Int.eq_ofNat_of_zero_le (show 0 ≤ r.1 by omega)
          have hl := digs_length s (r.1 + q.1).toNat k
          generalize digs s (r.1 + q.1).toNat k = l at hx hl ⊢
          obtain ⟨a, b, off, c, rfl, hlc, hcm, ha, hc⟩ := hx
          obtain rfl := ha (by omega)
          have hrt := RdI.take hc hlc hcm n (by omega)
          have hrd := RdI.drop hc hlc hcm n (by omega)
          have hnl : n < l.length ∧ n < c ∧ n ≤ c := by omega
          obtain ⟨hnl1, hnl2, hnl3⟩ := hnl
          have hnc : c ≠ n := by omega
          have HP := Lib.hid (show pairP r q l = (hasT r (l.take n) && hasT q (l.drop n)) from by unfold pairP; rw [hn, Int.toNat_natCast])
          have hNr : RdRel w' (.agg #[.int .i64 (n : Nat), .slice ta r.2.length tc]) r := hn ▸ (hr.ext hE).ext hEc
          rw [hn] at c0
          have HN := Lib.hid hn
          have hneg : ¬ ((n : Int) < 0) := by omega
          clear hc hl hn
          simp only [List.append_toArray, List.nil_append, List.cons_append]
          cases ht : hasT r (l.take n) with
          | false =>
            go_enter Try.func107, Try.ntmps107
            go_wp2_with fail
            refine region_sp [] [14] [SP.val (.agg #[.int .i64 (n : Nat), .slice ta r.2.length tc]), SP.val (.slice (some ⟨b, off, none⟩) l.length c), SP.val (.pointer (some ⟨w.heap.size, 0, none⟩)), SP.val (.int .i64 (n : Nat)), SP.val (.slice (some ⟨b, off, none⟩) n c), SP.val (.bool false), SP.val (.bool false), SP.val undef, SP.val undef, SP.val undef, SP.val undef, SP.val undef, SP.val undef, SP.val (.bool false), SP.any] (by kernel_rfl) (fun _ d _ _ _ h => by cases d <;> exact h) (by kernel_rfl) (by kernel_rfl)
              (.cons (fun vs y hY => Step.load ⟨w.heap.size, 0, none⟩ rfl rfl rfl (by simp [go_sem, hY.cell c0, hY.cell c1]) rfl) <|
               .cons (fun vs y hY => Step.move rfl rfl rfl rfl) <|
               .cons (fun vs y hY => Step.fieldAddr ⟨w.heap.size, 0, none⟩ rfl rfl rfl (by simp [go_sem]) rfl) <|
               .cons (fun vs y hY g2_0 => Step.load ⟨w.heap.size, 0, none⟩ rfl rfl g2_0 (by simp [go_sem, hY.cell c0]) rfl) <|
               .cons (fun vs y hY g1_0 g3_1 => Step.slice rfl rfl g1_0 rfl (congrArg some g3_1) rfl (by simp [go_sem, Instr.sliceAt, hnl3]) rfl) <|
               .cons (fun vs y hY g0_0 g4_1 => Step.call Try.call104 rfl rfl [vs 0, vs 4] rfl rfl (by rw [show vs 0 = _ from g0_0, show vs 4 = _ from g4_1]; exact (Calls.spe (has_any s r _ _ _ _ (hNr.ext hY) (hrt.ext hY) H1.out hz) (by rw [ht])))) <|
               .cons (fun vs y hY g5_0 g5_1 => Step.move rfl rfl g5_0 rfl) <|
               .cons (fun vs y hY g6_0 => Step.off rfl rfl g6_0 (by decide) rfl) <|
               .cons (fun vs y hY g6_0 => Step.off rfl rfl g6_0 (by decide) rfl) <|
               .cons (fun vs y hY g6_0 => Step.off rfl rfl g6_0 (by decide) rfl) <|
               .cons (fun vs y hY g9_0 g6_1 => Step.off rfl rfl g6_1 (by decide) rfl) <|
               .cons (fun vs y hY g8_0 g10_1 g6_2 => Step.off rfl rfl g6_2 (by decide) rfl) <|
               .cons (fun vs y hY g7_0 g11_1 g6_2 g6_3 => Step.off rfl rfl g6_2 (by decide) rfl) <|
               .cons (fun vs y hY g6_0 g12_1 => Step.pick rfl rfl g6_0 g12_1 rfl rfl) <|
               .skip rfl <|
               .nil) ?_
            intro vs w3 hC hL
            have r0 : vs 0 = _ := hL 0 (by decide) rfl
            have r1 : vs 1 = _ := hL 1 (by decide) rfl
            have r2 : vs 2 = _ := hL 2 (by decide) rfl
            have r3 : vs 3 = _ := hL 3 (by decide) rfl
            have r4 : vs 4 = _ := hL 4 (by decide) rfl
            have r5 : vs 5 = _ := hL 5 (by decide) rfl
            have r6 : vs 6 = _ := hL 6 (by decide) rfl
            have r7 : vs 7 = _ := hL 7 (by decide) rfl
            have r8 : vs 8 = _ := hL 8 (by decide) rfl
            have r9 : vs 9 = _ := hL 9 (by decide) rfl
            have r10 : vs 10 = _ := hL 10 (by decide) rfl
            have r11 : vs 11 = _ := hL 11 (by decide) rfl
            have r12 : vs 12 = _ := hL 12 (by decide) rfl
            have r13 : vs 13 = _ := hL 13 (by decide) rfl
            clear hL
            simp only [putAll, Act.put, List.contains_cons, List.contains_nil, Nat.reduceBEq, Nat.reduceAdd, Bool.or_false, cond_true, cond_false, List.setIfInBounds_toArray, List.set_cons_succ, List.set_cons_zero, List.filterMap_cons, List.filterMap_nil, List.getElem?_cons_succ, List.getElem?_cons_zero, r0, r1, r2, r3, r4, r5, r6, r7, r8, r9, r10, r11, r12, r13]
            clear r0 r1 r2 r3 r4 r5 r6 r7 r8 r9 r10 r11 r12 r13
            go_wp2_with fail
            go_ret
            exact ⟨ret_bool (by rw [HP.out, ht]; simp), hC⟩
          | true =>
            go_enter Try.func107, Try.ntmps107
            go_wp2_with fail
            refine region_sp [] [14] [SP.val (.agg #[.int .i64 (n : Nat), .slice ta r.2.length tc]), SP.val (.slice (some ⟨b, off, none⟩) l.length c), SP.val (.pointer (some ⟨w.heap.size, 0, none⟩)), SP.val (.int .i64 (n : Nat)), SP.val (.slice (some ⟨b, off, none⟩) n c), SP.val (.bool true), SP.val (.bool true), SP.val (.agg #[.int .i64 q.1, .slice ua' q.2.length uc']), SP.val (.slice (some ⟨b, off, none⟩) l.length c), SP.val (.pointer (some ⟨w.heap.size, 0, none⟩)), SP.val (.int .i64 (n : Nat)), SP.val (.slice (some ⟨b, off + n, none⟩) (l.length - n) (c - n)), SP.val (.bool (hasT q (l.drop n))), SP.val (.bool (hasT q (l.drop n))), SP.any] (by kernel_rfl) (fun _ d _ _ _ h => by cases d <;> exact h) (by kernel_rfl) (by kernel_rfl)
              (.cons (fun vs y hY => Step.load ⟨w.heap.size, 0, none⟩ rfl rfl rfl (by simp [go_sem, hY.cell c0, hY.cell c1]) rfl) <|
               .cons (fun vs y hY => Step.move rfl rfl rfl rfl) <|
               .cons (fun vs y hY => Step.fieldAddr ⟨w.heap.size, 0, none⟩ rfl rfl rfl (by simp [go_sem]) rfl) <|
               .cons (fun vs y hY g2_0 => Step.load ⟨w.heap.size, 0, none⟩ rfl rfl g2_0 (by simp [go_sem, hY.cell c0]) rfl) <|
               .cons (fun vs y hY g1_0 g3_1 => Step.slice rfl rfl g1_0 rfl (congrArg some g3_1) rfl (by simp [go_sem, Instr.sliceAt, hnl3]) rfl) <|
               .cons (fun vs y hY g0_0 g4_1 => Step.call Try.call104 rfl rfl [vs 0, vs 4] rfl rfl (by rw [show vs 0 = _ from g0_0, show vs 4 = _ from g4_1]; exact (Calls.spe (has_any s r _ _ _ _ (hNr.ext hY) (hrt.ext hY) H1.out hz) (by rw [ht])))) <|
               .cons (fun vs y hY g5_0 g5_1 => Step.move rfl rfl g5_0 rfl) <|
               .cons (fun vs y hY g6_0 => Step.on rfl rfl g6_0 (GivesR.load ⟨(w.heap.size + 1), 0, none⟩ rfl rfl (by simp [go_sem, hY.cell e0, hY.cell e1]) ⟨Ext.refl_ _, rfl⟩)) <|
               .cons (fun vs y hY g6_0 => Step.on rfl rfl g6_0 (GivesR.move rfl rfl ⟨Ext.refl_ _, rfl⟩)) <|
               .cons (fun vs y hY g6_0 => Step.on rfl rfl g6_0 (GivesR.fieldAddr ⟨w.heap.size, 0, none⟩ rfl rfl (by simp [go_sem]) ⟨Ext.refl_ _, rfl⟩)) <|
               .cons (fun vs y hY g9_0 g6_1 => Step.on rfl rfl g6_1 (GivesR.load ⟨w.heap.size, 0, none⟩ rfl g9_0 (by simp [go_sem, hY.cell c0]) ⟨Ext.refl_ _, rfl⟩)) <|
               .cons (fun vs y hY g8_0 g10_1 g6_2 => Step.on rfl rfl g6_2 (GivesR.slice rfl g8_0 (congrArg some g10_1) rfl rfl (by simp [go_sem, Instr.sliceAt, Nat.le_of_lt hnl1, hnc]) ⟨Ext.refl_ _, rfl⟩)) <|
               .cons (fun vs y hY g7_0 g11_1 g6_2 g6_3 => Step.on rfl rfl g6_2 (GivesR.call rfl [vs 7, vs 11] rfl rfl Try.call104 (by rw [show vs 7 = _ from g7_0, show vs 11 = _ from g11_1]; exact (Calls.spe (has_any s q _ _ _ _ (((hs.ext hE).ext hEc).ext hY) (hrd.ext hY) H2.out hz2))))) <|
               .cons (fun vs y hY g6_0 g12_1 => Step.pick rfl rfl g6_0 g12_1 rfl rfl) <|
               .skip rfl <|
               .nil) ?_
            intro vs w3 hC hL
            have r0 : vs 0 = _ := hL 0 (by decide) rfl
            have r1 : vs 1 = _ := hL 1 (by decide) rfl
            have r2 : vs 2 = _ := hL 2 (by decide) rfl
            have r3 : vs 3 = _ := hL 3 (by decide) rfl
            have r4 : vs 4 = _ := hL 4 (by decide) rfl
            have r5 : vs 5 = _ := hL 5 (by decide) rfl
            have r6 : vs 6 = _ := hL 6 (by decide) rfl
            have r7 : vs 7 = _ := hL 7 (by decide) rfl
            have r8 : vs 8 = _ := hL 8 (by decide) rfl
            have r9 : vs 9 = _ := hL 9 (by decide) rfl
            have r10 : vs 10 = _ := hL 10 (by decide) rfl
            have r11 : vs 11 = _ := hL 11 (by decide) rfl
            have r12 : vs 12 = _ := hL 12 (by decide) rfl
            have r13 : vs 13 = _ := hL 13 (by decide) rfl
            clear hL
            simp only [putAll, Act.put, List.contains_cons, List.contains_nil, Nat.reduceBEq, Nat.reduceAdd, Bool.or_false, cond_true, cond_false, List.setIfInBounds_toArray, List.set_cons_succ, List.set_cons_zero, List.filterMap_cons, List.filterMap_nil, List.getElem?_cons_succ, List.getElem?_cons_zero, r0, r1, r2, r3, r4, r5, r6, r7, r8, r9, r10, r11, r12, r13]
            clear r0 r1 r2 r3 r4 r5 r6 r7 r8 r9 r10 r11 r12 r13
            go_wp2_with fail
            go_ret
            exact ⟨ret_bool (by rw [HP.out, ht]; simp), hC⟩
        rintro e w3 ⟨u, fp, rfl, hE3, hr3, hfr⟩
        have q0 := lt_of_cell d0
        obtain ⟨ua, uc, rfl⟩ := hr3.form
        replace f2 : _ = false := (hE3.frozen (lt_of_cell d0)).trans f2
        replace f3 : _ = false := (hE3.frozen (lt_of_cell d1)).trans f3
        replace d0 := hE3.cell d0
        replace d1 := hE3.cell d1
        go_wp2_with fail
        exact bodyPost_ret (v := .tuple #[.agg #[.int .i64 (SrelOf s (r.1 + q.1) (pairP r q)).1, .slice ua (SrelOf s (r.1 + q.1) (pairP r q)).2.length uc], .int .i64 0]) (by simp [results, Try.results53, go_sem, d0, d1]; try rfl) rfl
          (RelRes.of rfl (((hE.tr hE3).setCell (by simp <;> omega) _).setCell (by simp <;> omega) _) (hr3.off ((Off.set (fp := [w.heap.size + 1 + 1]) (by simp)).trans (Off.set (by simp))) (fun h hh hm => by have := hfr h hh; simp at hm; (try dsimp only at q0); omega)) (fun h hh => by have := hfr h hh; have := hE.size; omega) hmk)
end Go.Proofs.Ytefnmfdmnoednaa
