
/- PairRels: the program's and the reference's give one function's answers. -/
import Derived.Test.YtohpjamngpphnaaFix
import Derived.Test.YtohpjamngpphnaaAppK
namespace Go.Proofs.Ytohpjamngpphnaa
open Go.RowKit
set_option linter.unusedVariables false

def pairP (r q : Int × List (List Int)) (t : List Int) : Bool := hasT r (t.take r.1.toNat) && hasT q (t.drop r.1.toNat)
def SPairRels (s : Int) (r q : Int × List (List Int)) : (Int × List (List Int)) × Int :=
  if SValidRel s r && SValidRel s q then if 4 < r.1 + q.1 then (noRel, 2) else (SrelOf s (r.1 + q.1) (pairP r q), 0) else (noRel, 1)
theorem pair_1 {s : Int} {r q : Int × List (List Int)} (h : (SValidRel s r && SValidRel s q) = false) : SPairRels s r q = (noRel, 1) := by unfold SPairRels; rw [h]; rfl
theorem pair_2 {s : Int} {r q : Int × List (List Int)} (h1 : SValidRel s r = true) (h2 : SValidRel s q = true) (h : 4 < r.1 + q.1) : SPairRels s r q = (noRel, 2) := by unfold SPairRels; rw [h1, h2, if_pos h]; rfl
theorem pair_0 {s : Int} {r q : Int × List (List Int)} (h1 : SValidRel s r = true) (h2 : SValidRel s q = true) (h : ¬ 4 < r.1 + q.1) : SPairRels s r q = (SrelOf s (r.1 + q.1) (pairP r q), 0) := by unfold SPairRels; rw [h1, h2, if_neg h]; rfl

theorem cmpL_append (b b' : List Int) : ∀ (a a' : List Int), a.length = a'.length → cmpL (a ++ b) (a' ++ b') = if cmpL a a' = 0 then cmpL b b' else cmpL a a'
  | [], [], _ => by simp [cmpL]
  | [], _ :: _, h => by simp at h
  | _ :: _, [], h => by simp at h
  | x :: xs, y :: ys, h => by
    have e : ∀ (us vs : List Int), cmpL (x :: us) (y :: vs) = if x = y then cmpL us vs else cmpI x y := fun _ _ => rfl
    simp only [List.cons_append]
    rw [e, e]
    by_cases hab : x = y
    · rw [if_pos hab, if_pos hab, cmpL_append b b' xs ys (by simpa using h)]
    · rw [if_neg hab, if_neg hab, if_neg]
      unfold cmpI
      split
      · omega
      · split <;> omega
/-- the pairs in their order: up to the place k of the first list, and of that one up to the place j of the second -/
def pairUp (A B : List (List Int)) (k : Nat) : List (List Int) := (A.take k).flatMap fun a => B.map (a ++ ·)
def pairUp2 (A B : List (List Int)) (k j : Nat) : List (List Int) := pairUp A B k ++ (B.take j).map ((A.getD k []) ++ ·)
theorem pairUp_succ {A B : List (List Int)} {k : Nat} (hk : k < A.length) : pairUp A B (k + 1) = pairUp2 A B k B.length := by
  unfold pairUp2 pairUp
  rw [List.take_length, List.take_succ_eq_append_getElem hk, List.flatMap_append, List.getD_eq_getElem?_getD, List.getElem?_eq_getElem hk]
  simp
theorem pairUp2_succ {A B : List (List Int)} {k j : Nat} (hk : k < A.length) (hj : j < B.length) : pairUp2 A B k (j + 1) = pairUp2 A B k j ++ [A[k] ++ B[j]] := by
  unfold pairUp2
  rw [List.take_succ_eq_append_getElem hj, List.map_append, List.append_assoc, List.getD_eq_getElem?_getD, List.getElem?_eq_getElem hk]
  rfl
theorem pairUp_length (A B : List (List Int)) : ∀ k, (pairUp A B k).length ≤ k * B.length := by
  intro k
  induction k with
  | zero => simp [pairUp]
  | succ k ih =>
    by_cases hk : k < A.length
    · rw [pairUp_succ hk, pairUp2, List.length_append, List.length_map, List.take_length, Nat.add_mul]
      omega
    · unfold pairUp at ih ⊢
      rw [List.take_of_length_le (by omega)] at ih ⊢
      rw [Nat.add_mul]
      omega
theorem pairUp2_length (A B : List (List Int)) (k j : Nat) : (pairUp2 A B k j).length ≤ k * B.length + B.length := by
  have := pairUp_length A B k
  unfold pairUp2
  rw [List.length_append, List.length_map, List.length_take]
  have : min j B.length ≤ B.length := Nat.min_le_right _ _
  omega
theorem vals_append {s m n : Int} {a b : List Int} (ha : vals s a m = true) (hb : vals s b n = true) : vals s (a ++ b) (m + n) = true := by
  obtain ⟨h1, h2⟩ := vals_iff.1 ha
  obtain ⟨h3, h4⟩ := vals_iff.1 hb
  refine vals_iff.2 ⟨by rw [List.length_append]; omega, fun x hx => ?_⟩
  rcases List.mem_append.1 hx with h | h
  · exact h2 x h
  · exact h4 x h
theorem pair_eq {s : Int} {r q : Int × List (List Int)} (hr : SValidRel s r = true) (hq : SValidRel s q = true) (h : ¬ 4 < r.1 + q.1) : (r.1 + q.1, pairUp r.2 q.2 r.2.length) = SrelOf s (r.1 + q.1) (pairP r q) := by
  obtain ⟨h1, h2, h3⟩ := valid_parts hr
  obtain ⟨_, k2, k3⟩ := valid_parts hq
  have hl : ∀ a ∈ r.2, a.length = r.1.toNat := fun a ha => by have := (vals_iff.1 (h3 a ha)).1; omega
  unfold pairUp
  rw [List.take_length]
  refine srel_of h1.1 h1.2 (by omega) (by omega) ?_ fun t => ?_
  · unfold Srt
    rw [List.pairwise_flatMap]
    refine ⟨fun a ha => ?_, ?_⟩
    · rw [List.pairwise_map]
      refine List.Pairwise.imp (fun {x y} hxy => ?_) (valid_srt hq)
      rw [cmpL_append _ _ _ _ rfl, if_pos (cmpL_self _)]
      exact hxy
    · refine List.Pairwise.imp_of_mem (fun {a a'} ha ha' haa x hx y hy => ?_) (valid_srt hr)
      obtain ⟨b, hb, rfl⟩ := List.mem_map.1 hx
      obtain ⟨b', hb', rfl⟩ := List.mem_map.1 hy
      rw [cmpL_append _ _ _ _ (by rw [hl a ha, hl a' ha']), if_neg (by omega)]
      exact haa
  · rw [List.mem_flatMap]
    unfold pairP hasT
    rw [Bool.and_eq_true, decide_eq_true_eq, decide_eq_true_eq]
    constructor
    · rintro ⟨a, ha, hx⟩
      obtain ⟨b, hb, rfl⟩ := List.mem_map.1 hx
      refine ⟨vals_append (h3 a ha) (k3 b hb), ?_, ?_⟩
      · rw [← hl a ha, List.take_left]; exact ha
      · rw [← hl a ha, List.drop_left]; exact hb
    · rintro ⟨_, ha, hb⟩
      exact ⟨_, ha, List.mem_map.2 ⟨_, hb, List.take_append_drop _ _⟩⟩

theorem valid_length {s : Int} {r : Int × List (List Int)} (hv : SValidRel s r = true) : r.2.length ≤ 256 := by
  obtain ⟨h1, h2, h3⟩ := valid_parts hv
  have h := srel_self hv
  have := congrArg (fun x => x.2.length) h
  rw [this]
  have k1 := allD_length s r.1 (hasT r) (count s r.1)
  have k2 := powW_small s r.1 h1.1 h1.2 h2.1 h2.2
  have k3 := count_eq s r.1 h1.1 h1.2 h2.1 h2.2
  show (allD s r.1 (hasT r) (count s r.1)).length ≤ 256
  omega
set_option maxHeartbeats 2000000 in
set_option maxRecDepth 100000 in
theorem implPairRels_any (s : Int) (r : Int × List (List Int)) (v : Value) (q : Int × List (List Int)) (u : Value) (w : World) (hr : RdRel w v r) (hs : RdRel w u q) (_ : -9223372036854775808 ≤ s) (_ : s ≤ 9223372036854775807) (hz : szRel r ≤ 1048576) (hz2 : szRel q ≤ 1048576) :
    Calls Try.prog 37 #[.int .i64 s, v, u] w (RelRes (SPairRels s r q) w) := by
  have hmf : ∀ (fn : Fn) (first cap : Array Value) (w : World), (Instr.makeFunc fn first cap).run Try.prog w = .ok (.func fn first cap) w := fun _ _ _ _ => rfl
  obtain ⟨tv, rfl, hr'⟩ := hr
  obtain ⟨ta, tc, rfl⟩ := hr'.form
  have hr : RdRel w _ r := ⟨_, rfl, hr'⟩
  obtain ⟨tu, rfl, hs'⟩ := hs
  obtain ⟨ua', uc', rfl⟩ := hs'.form
  have hs : RdRel w _ q := ⟨_, rfl, hs'⟩
  have hE1 : Ext w (((w.alloc (.cells #[.int .i64 r.1, .slice ta r.2.length tc] 24)).alloc (.cells #[.int .i64 q.1, .slice ua' q.2.length uc'] 24)).alloc (.cells #[.int .i64 0, .slice none 0 0] 24)) := (((Ext.refl' w).alloc (Nat.le_refl _) _).alloc (by simp) _).alloc (by simp; omega) _
  cases h1 : SValidRel s r with
  | false =>
    rw [pair_1 (by rw [h1]; rfl)]
    go_enter Try.func37, Try.ntmps37
    go_wp2_with fail
    refine (implValidRel_ok s r _ _ (hr.ext hE1)).mono ?_
    rintro e w1 ⟨rfl, hE⟩
    rw [h1]
    have c0 := hE.cell (p := ⟨w.heap.size, 0, none⟩) (v := .int .i64 r.1) (by simp [go_sem])
    have c1 := hE.cell (p := ⟨w.heap.size, 1, none⟩) (v := .slice ta r.2.length tc) (by simp [go_sem])
    have e0 := hE.cell (p := ⟨w.heap.size + 1, 0, none⟩) (v := .int .i64 q.1) (by simp [go_sem])
    have e1 := hE.cell (p := ⟨w.heap.size + 1, 1, none⟩) (v := .slice ua' q.2.length uc') (by simp [go_sem])
    have d0 := hE.cell (p := ⟨w.heap.size + 1 + 1, 0, none⟩) (v := .int .i64 0) (by simp [go_sem])
    have d1 := hE.cell (p := ⟨w.heap.size + 1 + 1, 1, none⟩) (v := .slice none 0 0) (by simp [go_sem])
    have f2 := hE.frozen (p := ⟨w.heap.size + 1 + 1, 0, none⟩) (by simp)
    have f3 := hE.frozen (p := ⟨w.heap.size + 1 + 1, 1, none⟩) (by simp)
    simp [go_sem] at f2 f3
    replace hE := hE1.tr hE
    go_wp2_with fail
    exact bodyPost_ret (v := .tuple #[.agg #[.int .i64 0, .slice none 0 0], .int .i64 1]) (by simp [results, Try.results37, go_sem, d0, d1]) rfl (RelRes.no ((hE.setCell (by simp <;> omega) _).setCell (by simp <;> omega) _))
  | true =>
    obtain ⟨⟨hs1, hs2⟩, ⟨hm1, hm2⟩, -⟩ := valid_parts h1
    cases h2 : SValidRel s q with
    | false =>
      rw [pair_1 (by rw [h1, h2]; rfl)]
      go_enter Try.func37, Try.ntmps37
      go_wp2_with fail
      refine (implValidRel_ok s r _ _ (hr.ext hE1)).mono ?_
      rintro e w1 ⟨rfl, hE⟩
      rw [h1]
      have c0 := hE.cell (p := ⟨w.heap.size, 0, none⟩) (v := .int .i64 r.1) (by simp [go_sem])
      have c1 := hE.cell (p := ⟨w.heap.size, 1, none⟩) (v := .slice ta r.2.length tc) (by simp [go_sem])
      have e0 := hE.cell (p := ⟨w.heap.size + 1, 0, none⟩) (v := .int .i64 q.1) (by simp [go_sem])
      have e1 := hE.cell (p := ⟨w.heap.size + 1, 1, none⟩) (v := .slice ua' q.2.length uc') (by simp [go_sem])
      have d0 := hE.cell (p := ⟨w.heap.size + 1 + 1, 0, none⟩) (v := .int .i64 0) (by simp [go_sem])
      have d1 := hE.cell (p := ⟨w.heap.size + 1 + 1, 1, none⟩) (v := .slice none 0 0) (by simp [go_sem])
      have f2 := hE.frozen (p := ⟨w.heap.size + 1 + 1, 0, none⟩) (by simp)
      have f3 := hE.frozen (p := ⟨w.heap.size + 1 + 1, 1, none⟩) (by simp)
      simp [go_sem] at f2 f3
      replace hE := hE1.tr hE
      go_wp2_with fail
      refine (implValidRel_ok s q _ _ (hs.ext hE)).mono ?_
      rintro e w2 ⟨rfl, hE2⟩
      rw [h2]
      replace f2 : _ = false := (hE2.frozen (lt_of_cell d0)).trans f2
      replace f3 : _ = false := (hE2.frozen (lt_of_cell d1)).trans f3
      replace d0 := hE2.cell d0
      replace d1 := hE2.cell d1
      replace c0 := hE2.cell c0
      replace c1 := hE2.cell c1
      replace e0 := hE2.cell e0
      replace e1 := hE2.cell e1
      replace hE := hE.tr hE2
      clear hE2
      go_wp2_with fail
      exact bodyPost_ret (v := .tuple #[.agg #[.int .i64 0, .slice none 0 0], .int .i64 1]) (by simp [results, Try.results37, go_sem, d0, d1]) rfl (RelRes.no ((hE.setCell (by simp <;> omega) _).setCell (by simp <;> omega) _))
    | true =>
      obtain ⟨-, ⟨hn1, hn2⟩, -⟩ := valid_parts h2
      by_cases h3 : 4 < r.1 + q.1
      · rw [pair_2 h1 h2 h3]
        go_enter Try.func37, Try.ntmps37
        go_wp2_with fail
        refine (implValidRel_ok s r _ _ (hr.ext hE1)).mono ?_
        rintro e w1 ⟨rfl, hE⟩
        rw [h1]
        have c0 := hE.cell (p := ⟨w.heap.size, 0, none⟩) (v := .int .i64 r.1) (by simp [go_sem])
        have c1 := hE.cell (p := ⟨w.heap.size, 1, none⟩) (v := .slice ta r.2.length tc) (by simp [go_sem])
        have e0 := hE.cell (p := ⟨w.heap.size + 1, 0, none⟩) (v := .int .i64 q.1) (by simp [go_sem])
        have e1 := hE.cell (p := ⟨w.heap.size + 1, 1, none⟩) (v := .slice ua' q.2.length uc') (by simp [go_sem])
        have d0 := hE.cell (p := ⟨w.heap.size + 1 + 1, 0, none⟩) (v := .int .i64 0) (by simp [go_sem])
        have d1 := hE.cell (p := ⟨w.heap.size + 1 + 1, 1, none⟩) (v := .slice none 0 0) (by simp [go_sem])
        have f2 := hE.frozen (p := ⟨w.heap.size + 1 + 1, 0, none⟩) (by simp)
        have f3 := hE.frozen (p := ⟨w.heap.size + 1 + 1, 1, none⟩) (by simp)
        simp [go_sem] at f2 f3
        replace hE := hE1.tr hE
        go_wp2_with fail
        refine (implValidRel_ok s q _ _ (hs.ext hE)).mono ?_
        rintro e w2 ⟨rfl, hE2⟩
        rw [h2]
        replace f2 : _ = false := (hE2.frozen (lt_of_cell d0)).trans f2
        replace f3 : _ = false := (hE2.frozen (lt_of_cell d1)).trans f3
        replace d0 := hE2.cell d0
        replace d1 := hE2.cell d1
        replace c0 := hE2.cell c0
        replace c1 := hE2.cell c1
        replace e0 := hE2.cell e0
        replace e1 := hE2.cell e1
        replace hE := hE.tr hE2
        clear hE2
        go_wp2_with fail
        exact bodyPost_ret (v := .tuple #[.agg #[.int .i64 0, .slice none 0 0], .int .i64 2]) (by simp [results, Try.results37, go_sem, d0, d1]) rfl (RelRes.no ((hE.setCell (by simp <;> omega) _).setCell (by simp <;> omega) _))
      · rw [pair_0 h1 h2 h3]
        have hmk := mkRel_SrelOf (s := s) (m := r.1 + q.1) (p := pairP r q) hs1 hs2 (by omega) (by omega)
        go_enter Try.func37, Try.ntmps37
        go_wp2_with fail
        refine (implValidRel_ok s r _ _ (hr.ext hE1)).mono ?_
        rintro e w1 ⟨rfl, hE⟩
        rw [h1]
        have c0 := hE.cell (p := ⟨w.heap.size, 0, none⟩) (v := .int .i64 r.1) (by simp [go_sem])
        have c1 := hE.cell (p := ⟨w.heap.size, 1, none⟩) (v := .slice ta r.2.length tc) (by simp [go_sem])
        have e0 := hE.cell (p := ⟨w.heap.size + 1, 0, none⟩) (v := .int .i64 q.1) (by simp [go_sem])
        have e1 := hE.cell (p := ⟨w.heap.size + 1, 1, none⟩) (v := .slice ua' q.2.length uc') (by simp [go_sem])
        have d0 := hE.cell (p := ⟨w.heap.size + 1 + 1, 0, none⟩) (v := .int .i64 0) (by simp [go_sem])
        have d1 := hE.cell (p := ⟨w.heap.size + 1 + 1, 1, none⟩) (v := .slice none 0 0) (by simp [go_sem])
        have f2 := hE.frozen (p := ⟨w.heap.size + 1 + 1, 0, none⟩) (by simp)
        have f3 := hE.frozen (p := ⟨w.heap.size + 1 + 1, 1, none⟩) (by simp)
        simp [go_sem] at f2 f3
        replace hE := hE1.tr hE
        go_wp2_with fail
        refine (implValidRel_ok s q _ _ (hs.ext hE)).mono ?_
        rintro e w2 ⟨rfl, hE2⟩
        rw [h2]
        replace f2 : _ = false := (hE2.frozen (lt_of_cell d0)).trans f2
        replace f3 : _ = false := (hE2.frozen (lt_of_cell d1)).trans f3
        replace d0 := hE2.cell d0
        replace d1 := hE2.cell d1
        replace c0 := hE2.cell c0
        replace c1 := hE2.cell c1
        replace e0 := hE2.cell e0
        replace e1 := hE2.cell e1
        replace hE := hE.tr hE2
        clear hE2
        have H1 := Lib.hid h1
        have H2 := Lib.hid h2
        clear h1 h2
        go_wp2_with fail
        refine (relOf_any s (r.1 + q.1) (pairP r q) 77 #[] _ _ hs1 hs2 (by omega) (by omega) Try.call77 ?_).mono ?_
        · intro k u w' _ hEc hx
          have c0 := hEc.cell c0
          have c1 := hEc.cell c1
          have e0 := hEc.cell e0
          have e1 := hEc.cell e1
          obtain ⟨n, hn⟩ := Int.eq_ofNat_of_zero_le (show 0 ≤ r.1 by omega)
          have hl := digs_length s (r.1 + q.1).toNat k
          generalize digs s (r.1 + q.1).toNat k = l at hx hl ⊢
          obtain ⟨a, b, off, c, rfl, hlc, hcm, ha, hc⟩ := hx
          obtain rfl := ha (by omega)
          have hrt := RdI.take hc hlc hcm n (by omega)
          have hrd := RdI.drop hc hlc hcm n (by omega)
          have hnl : n < l.length ∧ n < c ∧ n ≤ c := by omega
          obtain ⟨hnl1, hnl2, hnl3⟩ := hnl
          have hnc : c ≠ n := by omega
          have HP := Lib.hid (show pairP r q l = (hasT r (l.take n) && hasT q (l.drop n)) from by unfold pairP; rw [hn, Int.toNat_natCast])
          have hNr : RdRel w' (.agg #[.int .i64 (n : Nat), .slice ta r.2.length tc]) r := hn ▸ (hr.ext hE).ext hEc
          rw [hn] at c0
          have HN := Lib.hid hn
          have hneg : ¬ ((n : Int) < 0) := by omega
          clear hc hl hn
          simp only [List.append_toArray, List.nil_append, List.cons_append]
          cases ht : hasT r (l.take n) with
          | false =>
            go_enter Try.func77, Try.ntmps77
            go_wp2_with fail
            refine region_sp [] [14] [SP.val (.agg #[.int .i64 (n : Nat), .slice ta r.2.length tc]), SP.val (.slice (some ⟨b, off, none⟩) l.length c), SP.val (.pointer (some ⟨w.heap.size, 0, none⟩)), SP.val (.int .i64 (n : Nat)), SP.val (.slice (some ⟨b, off, none⟩) n c), SP.val (.bool false), SP.val (.bool false), SP.val undef, SP.val undef, SP.val undef, SP.val undef, SP.val undef, SP.val undef, SP.val (.bool false), SP.any] (by kernel_rfl) (fun _ d _ _ _ h => by cases d <;> exact h) (by kernel_rfl) (by kernel_rfl)
              (.cons (fun vs y hY => Step.load ⟨w.heap.size, 0, none⟩ rfl rfl rfl (by simp [go_sem, hY.cell c0, hY.cell c1]) rfl) <|
               .cons (fun vs y hY => Step.move rfl rfl rfl rfl) <|
               .cons (fun vs y hY => Step.fieldAddr ⟨w.heap.size, 0, none⟩ rfl rfl rfl (by simp [go_sem]) rfl) <|
               .cons (fun vs y hY g2_0 => Step.load ⟨w.heap.size, 0, none⟩ rfl rfl g2_0 (by simp [go_sem, hY.cell c0]) rfl) <|
               .cons (fun vs y hY g1_0 g3_1 => Step.slice rfl rfl g1_0 rfl (congrArg some g3_1) rfl (by simp [go_sem, Instr.sliceAt, hnl3]) rfl) <|
               .cons (fun vs y hY g0_0 g4_1 => Step.call Try.call66 rfl rfl [vs 0, vs 4] rfl rfl (by rw [show vs 0 = _ from g0_0, show vs 4 = _ from g4_1]; exact (Calls.spe (has_any s r _ _ _ _ (hNr.ext hY) (hrt.ext hY) H1.out hz) (by rw [ht])))) <|
               .cons (fun vs y hY g5_0 g5_1 => Step.move rfl rfl g5_0 rfl) <|
               .cons (fun vs y hY g6_0 => Step.off rfl rfl g6_0 (by decide) rfl) <|
               .cons (fun vs y hY g6_0 => Step.off rfl rfl g6_0 (by decide) rfl) <|
               .cons (fun vs y hY g6_0 => Step.off rfl rfl g6_0 (by decide) rfl) <|
               .cons (fun vs y hY g9_0 g6_1 => Step.off rfl rfl g6_1 (by decide) rfl) <|
               .cons (fun vs y hY g8_0 g10_1 g6_2 => Step.off rfl rfl g6_2 (by decide) rfl) <|
               .cons (fun vs y hY g7_0 g11_1 g6_2 g6_3 => Step.off rfl rfl g6_2 (by decide) rfl) <|
               .cons (fun vs y hY g6_0 g12_1 => Step.pick rfl rfl g6_0 g12_1 rfl rfl) <|
               .skip rfl <|
               .nil) ?_
            intro vs w3 hC hL
            have r0 : vs 0 = _ := hL 0 (by decide) rfl
            have r1 : vs 1 = _ := hL 1 (by decide) rfl
            have r2 : vs 2 = _ := hL 2 (by decide) rfl
            have r3 : vs 3 = _ := hL 3 (by decide) rfl
            have r4 : vs 4 = _ := hL 4 (by decide) rfl
            have r5 : vs 5 = _ := hL 5 (by decide) rfl
            have r6 : vs 6 = _ := hL 6 (by decide) rfl
            have r7 : vs 7 = _ := hL 7 (by decide) rfl
            have r8 : vs 8 = _ := hL 8 (by decide) rfl
            have r9 : vs 9 = _ := hL 9 (by decide) rfl
            have r10 : vs 10 = _ := hL 10 (by decide) rfl
            have r11 : vs 11 = _ := hL 11 (by decide) rfl
            have r12 : vs 12 = _ := hL 12 (by decide) rfl
            have r13 : vs 13 = _ := hL 13 (by decide) rfl
            clear hL
            simp only [putAll, Act.put, List.contains_cons, List.contains_nil, Nat.reduceBEq, Nat.reduceAdd, Bool.or_false, cond_true, cond_false, List.setIfInBounds_toArray, List.set_cons_succ, List.set_cons_zero, List.filterMap_cons, List.filterMap_nil, List.getElem?_cons_succ, List.getElem?_cons_zero, r0, r1, r2, r3, r4, r5, r6, r7, r8, r9, r10, r11, r12, r13]
            clear r0 r1 r2 r3 r4 r5 r6 r7 r8 r9 r10 r11 r12 r13
            go_wp2_with fail
            go_ret
            exact ⟨ret_bool (by rw [HP.out, ht]; simp), hC⟩
          | true =>
            go_enter Try.func77, Try.ntmps77
            go_wp2_with fail
            refine region_sp [] [14] [SP.val (.agg #[.int .i64 (n : Nat), .slice ta r.2.length tc]), SP.val (.slice (some ⟨b, off, none⟩) l.length c), SP.val (.pointer (some ⟨w.heap.size, 0, none⟩)), SP.val (.int .i64 (n : Nat)), SP.val (.slice (some ⟨b, off, none⟩) n c), SP.val (.bool true), SP.val (.bool true), SP.val (.agg #[.int .i64 q.1, .slice ua' q.2.length uc']), SP.val (.slice (some ⟨b, off, none⟩) l.length c), SP.val (.pointer (some ⟨w.heap.size, 0, none⟩)), SP.val (.int .i64 (n : Nat)), SP.val (.slice (some ⟨b, off + n, none⟩) (l.length - n) (c - n)), SP.val (.bool (hasT q (l.drop n))), SP.val (.bool (hasT q (l.drop n))), SP.any] (by kernel_rfl) (fun _ d _ _ _ h => by cases d <;> exact h) (by kernel_rfl) (by kernel_rfl)
              (.cons (fun vs y hY => Step.load ⟨w.heap.size, 0, none⟩ rfl rfl rfl (by simp [go_sem, hY.cell c0, hY.cell c1]) rfl) <|
               .cons (fun vs y hY => Step.move rfl rfl rfl rfl) <|
               .cons (fun vs y hY => Step.fieldAddr ⟨w.heap.size, 0, none⟩ rfl rfl rfl (by simp [go_sem]) rfl) <|
               .cons (fun vs y hY g2_0 => Step.load ⟨w.heap.size, 0, none⟩ rfl rfl g2_0 (by simp [go_sem, hY.cell c0]) rfl) <|
               .cons (fun vs y hY g1_0 g3_1 => Step.slice rfl rfl g1_0 rfl (congrArg some g3_1) rfl (by simp [go_sem, Instr.sliceAt, hnl3]) rfl) <|
               .cons (fun vs y hY g0_0 g4_1 => Step.call Try.call66 rfl rfl [vs 0, vs 4] rfl rfl (by rw [show vs 0 = _ from g0_0, show vs 4 = _ from g4_1]; exact (Calls.spe (has_any s r _ _ _ _ (hNr.ext hY) (hrt.ext hY) H1.out hz) (by rw [ht])))) <|
               .cons (fun vs y hY g5_0 g5_1 => Step.move rfl rfl g5_0 rfl) <|
               .cons (fun vs y hY g6_0 => Step.on rfl rfl g6_0 (GivesR.load ⟨(w.heap.size + 1), 0, none⟩ rfl rfl (by simp [go_sem, hY.cell e0, hY.cell e1]) ⟨Ext.refl_ _, rfl⟩)) <|
               .cons (fun vs y hY g6_0 => Step.on rfl rfl g6_0 (GivesR.move rfl rfl ⟨Ext.refl_ _, rfl⟩)) <|
               .cons (fun vs y hY g6_0 => Step.on rfl rfl g6_0 (GivesR.fieldAddr ⟨w.heap.size, 0, none⟩ rfl rfl (by simp [go_sem]) ⟨Ext.refl_ _, rfl⟩)) <|
               .cons (fun vs y hY g9_0 g6_1 => Step.on rfl rfl g6_1 (GivesR.load ⟨w.heap.size, 0, none⟩ rfl g9_0 (by simp [go_sem, hY.cell c0]) ⟨Ext.refl_ _, rfl⟩)) <|
               .cons (fun vs y hY g8_0 g10_1 g6_2 => Step.on rfl rfl g6_2 (GivesR.slice rfl g8_0 (congrArg some g10_1) rfl rfl (by simp [go_sem, Instr.sliceAt, Nat.le_of_lt hnl1, hnc]) ⟨Ext.refl_ _, rfl⟩)) <|
               .cons (fun vs y hY g7_0 g11_1 g6_2 g6_3 => Step.on rfl rfl g6_2 (GivesR.call rfl [vs 7, vs 11] rfl rfl Try.call66 (by rw [show vs 7 = _ from g7_0, show vs 11 = _ from g11_1]; exact (Calls.spe (has_any s q _ _ _ _ (((hs.ext hE).ext hEc).ext hY) (hrd.ext hY) H2.out hz2))))) <|
               .cons (fun vs y hY g6_0 g12_1 => Step.pick rfl rfl g6_0 g12_1 rfl rfl) <|
               .skip rfl <|
               .nil) ?_
            intro vs w3 hC hL
            have r0 : vs 0 = _ := hL 0 (by decide) rfl
            have r1 : vs 1 = _ := hL 1 (by decide) rfl
            have r2 : vs 2 = _ := hL 2 (by decide) rfl
            have r3 : vs 3 = _ := hL 3 (by decide) rfl
            have r4 : vs 4 = _ := hL 4 (by decide) rfl
            have r5 : vs 5 = _ := hL 5 (by decide) rfl
            have r6 : vs 6 = _ := hL 6 (by decide) rfl
            have r7 : vs 7 = _ := hL 7 (by decide) rfl
            have r8 : vs 8 = _ := hL 8 (by decide) rfl
            have r9 : vs 9 = _ := hL 9 (by decide) rfl
            have r10 : vs 10 = _ := hL 10 (by decide) rfl
            have r11 : vs 11 = _ := hL 11 (by decide) rfl
            have r12 : vs 12 = _ := hL 12 (by decide) rfl
            have r13 : vs 13 = _ := hL 13 (by decide) rfl
            clear hL
            simp only [putAll, Act.put, List.contains_cons, List.contains_nil, Nat.reduceBEq, Nat.reduceAdd, Bool.or_false, cond_true, cond_false, List.setIfInBounds_toArray, List.set_cons_succ, List.set_cons_zero, List.filterMap_cons, List.filterMap_nil, List.getElem?_cons_succ, List.getElem?_cons_zero, r0, r1, r2, r3, r4, r5, r6, r7, r8, r9, r10, r11, r12, r13]
            clear r0 r1 r2 r3 r4 r5 r6 r7 r8 r9 r10 r11 r12 r13
            go_wp2_with fail
            go_ret
            exact ⟨ret_bool (by rw [HP.out, ht]; simp), hC⟩
        rintro e w3 ⟨u, fp, rfl, hE3, hr3, hfr⟩
        have q0 := lt_of_cell d0
        obtain ⟨ua, uc, rfl⟩ := hr3.form
        replace f2 : _ = false := (hE3.frozen (lt_of_cell d0)).trans f2
        replace f3 : _ = false := (hE3.frozen (lt_of_cell d1)).trans f3
        replace d0 := hE3.cell d0
        replace d1 := hE3.cell d1
        go_wp2_with fail
        exact bodyPost_ret (v := .tuple #[.agg #[.int .i64 (SrelOf s (r.1 + q.1) (pairP r q)).1, .slice ua (SrelOf s (r.1 + q.1) (pairP r q)).2.length uc], .int .i64 0]) (by simp [results, Try.results37, go_sem, d0, d1]; try rfl) rfl
          (RelRes.of rfl (((hE.tr hE3).setCell (by simp <;> omega) _).setCell (by simp <;> omega) _) (hr3.off ((Off.set (fp := [w.heap.size + 1 + 1]) (by simp)).trans (Off.set (by simp))) (fun h hh hm => by have := hfr h hh; simp at hm; (try dsimp only at q0); omega)) (fun h hh => by have := hfr h hh; have := hE.size; omega) hmk)
set_option maxHeartbeats 4000000 in
set_option maxRecDepth 100000 in
theorem specPairRels_any (s : Int) (r : Int × List (List Int)) (v : Value) (q : Int × List (List Int)) (u : Value) (w : World) (hr : RdRel w v r) (hs : RdRel w u q) (_ : -9223372036854775808 ≤ s) (_ : s ≤ 9223372036854775807) (hz : szRel r ≤ 1048576) (hz2 : szRel q ≤ 1048576) :
    Calls Try.prog 36 #[.int .i64 s, v, u] w (RelRes (SPairRels s r q) w) := by
  obtain ⟨tv, rfl, hr'⟩ := hr
  obtain ⟨ta, tc, rfl⟩ := hr'.form
  have hr : RdRel w _ r := ⟨_, rfl, hr'⟩
  obtain ⟨tu, rfl, hs'⟩ := hs
  obtain ⟨ua', uc', rfl⟩ := hs'.form
  have hs : RdRel w _ q := ⟨_, rfl, hs'⟩
  have hE1 : Ext w (((w.alloc (.cells #[.int .i64 r.1, .slice ta r.2.length tc] 24)).alloc (.cells #[.int .i64 q.1, .slice ua' q.2.length uc'] 24)).alloc (.cells #[.int .i64 0, .slice none 0 0] 24)) := (((Ext.refl' w).alloc (Nat.le_refl _) _).alloc (by simp) _).alloc (by simp; omega) _
  have hp : PtRel (((w.alloc (.cells #[.int .i64 r.1, .slice ta r.2.length tc] 24)).alloc (.cells #[.int .i64 q.1, .slice ua' q.2.length uc'] 24)).alloc (.cells #[.int .i64 0, .slice none 0 0] 24)) (.pointer (some ⟨w.heap.size, 0, none⟩)) r := ⟨_, _, _, rfl, by simp [go_sem], by simp [go_sem], hr'.ext hE1⟩
  have hq : PtRel (((w.alloc (.cells #[.int .i64 r.1, .slice ta r.2.length tc] 24)).alloc (.cells #[.int .i64 q.1, .slice ua' q.2.length uc'] 24)).alloc (.cells #[.int .i64 0, .slice none 0 0] 24)) (.pointer (some ⟨w.heap.size + 1, 0, none⟩)) q := ⟨_, _, _, rfl, by simp [go_sem], by simp [go_sem], hs'.ext hE1⟩
  cases h1 : SValidRel s r with
  | false =>
    rw [pair_1 (by rw [h1]; rfl)]
    go_enter Try.func36, Try.ntmps36
    go_wp2_with fail
    refine (l01Ok_any s r _ _ hp).mono ?_
    rintro e w1 ⟨rfl, hQ⟩
    rw [h1]
    have hE := hQ.ext
    have c0 := hE.cell (p := ⟨w.heap.size, 0, none⟩) (v := .int .i64 r.1) (by simp [go_sem])
    have c1 := hE.cell (p := ⟨w.heap.size, 1, none⟩) (v := .slice ta r.2.length tc) (by simp [go_sem])
    have e0 := hE.cell (p := ⟨w.heap.size + 1, 0, none⟩) (v := .int .i64 q.1) (by simp [go_sem])
    have e1 := hE.cell (p := ⟨w.heap.size + 1, 1, none⟩) (v := .slice ua' q.2.length uc') (by simp [go_sem])
    have d0 := hE.cell (p := ⟨w.heap.size + 1 + 1, 0, none⟩) (v := .int .i64 0) (by simp [go_sem])
    have d1 := hE.cell (p := ⟨w.heap.size + 1 + 1, 1, none⟩) (v := .slice none 0 0) (by simp [go_sem])
    have f2 := hE.frozen (p := ⟨w.heap.size + 1 + 1, 0, none⟩) (by simp)
    have f3 := hE.frozen (p := ⟨w.heap.size + 1 + 1, 1, none⟩) (by simp)
    simp [go_sem] at f2 f3
    replace hq := hq.ext hE
    replace hE := hE1.tr hE
    go_wp2_with fail
    exact bodyPost_ret (v := .tuple #[.agg #[.int .i64 0, .slice none 0 0], .int .i64 1]) (by simp [results, Try.results36, go_sem, d0, d1]) rfl (RelRes.no ((hE.setCell (by simp <;> omega) _).setCell (by simp <;> omega) _))
  | true =>
    obtain ⟨⟨hs1, hs2⟩, ⟨hm1, hm2⟩, hall⟩ := valid_parts h1
    cases h2 : SValidRel s q with
    | false =>
      rw [pair_1 (by rw [h1, h2]; rfl)]
      go_enter Try.func36, Try.ntmps36
      go_wp2_with fail
      refine (l01Ok_any s r _ _ hp).mono ?_
      rintro e w1 ⟨rfl, hQ⟩
      rw [h1]
      have hE := hQ.ext
      have c0 := hE.cell (p := ⟨w.heap.size, 0, none⟩) (v := .int .i64 r.1) (by simp [go_sem])
      have c1 := hE.cell (p := ⟨w.heap.size, 1, none⟩) (v := .slice ta r.2.length tc) (by simp [go_sem])
      have e0 := hE.cell (p := ⟨w.heap.size + 1, 0, none⟩) (v := .int .i64 q.1) (by simp [go_sem])
      have e1 := hE.cell (p := ⟨w.heap.size + 1, 1, none⟩) (v := .slice ua' q.2.length uc') (by simp [go_sem])
      have d0 := hE.cell (p := ⟨w.heap.size + 1 + 1, 0, none⟩) (v := .int .i64 0) (by simp [go_sem])
      have d1 := hE.cell (p := ⟨w.heap.size + 1 + 1, 1, none⟩) (v := .slice none 0 0) (by simp [go_sem])
      have f2 := hE.frozen (p := ⟨w.heap.size + 1 + 1, 0, none⟩) (by simp)
      have f3 := hE.frozen (p := ⟨w.heap.size + 1 + 1, 1, none⟩) (by simp)
      simp [go_sem] at f2 f3
      replace hq := hq.ext hE
      replace hE := hE1.tr hE
      go_wp2_with fail
      refine (l01Ok_any s q _ _ hq).mono ?_
      rintro e w2 ⟨rfl, hQ2⟩
      rw [h2]
      have hE2 := hQ2.ext
      replace f2 : _ = false := (hE2.frozen (lt_of_cell d0)).trans f2
      replace f3 : _ = false := (hE2.frozen (lt_of_cell d1)).trans f3
      replace d0 := hE2.cell d0
      replace d1 := hE2.cell d1
      replace c0 := hE2.cell c0
      replace c1 := hE2.cell c1
      replace e0 := hE2.cell e0
      replace e1 := hE2.cell e1
      replace hE := hE.tr hE2
      clear hE2
      go_wp2_with fail
      exact bodyPost_ret (v := .tuple #[.agg #[.int .i64 0, .slice none 0 0], .int .i64 1]) (by simp [results, Try.results36, go_sem, d0, d1]) rfl (RelRes.no ((hE.setCell (by simp <;> omega) _).setCell (by simp <;> omega) _))
    | true =>
      obtain ⟨-, ⟨hn1, hn2⟩, hall2⟩ := valid_parts h2
      by_cases h3 : 4 < r.1 + q.1
      · rw [pair_2 h1 h2 h3]
        go_enter Try.func36, Try.ntmps36
        go_wp2_with fail
        refine (l01Ok_any s r _ _ hp).mono ?_
        rintro e w1 ⟨rfl, hQ⟩
        rw [h1]
        have hE := hQ.ext
        have c0 := hE.cell (p := ⟨w.heap.size, 0, none⟩) (v := .int .i64 r.1) (by simp [go_sem])
        have c1 := hE.cell (p := ⟨w.heap.size, 1, none⟩) (v := .slice ta r.2.length tc) (by simp [go_sem])
        have e0 := hE.cell (p := ⟨w.heap.size + 1, 0, none⟩) (v := .int .i64 q.1) (by simp [go_sem])
        have e1 := hE.cell (p := ⟨w.heap.size + 1, 1, none⟩) (v := .slice ua' q.2.length uc') (by simp [go_sem])
        have d0 := hE.cell (p := ⟨w.heap.size + 1 + 1, 0, none⟩) (v := .int .i64 0) (by simp [go_sem])
        have d1 := hE.cell (p := ⟨w.heap.size + 1 + 1, 1, none⟩) (v := .slice none 0 0) (by simp [go_sem])
        have f2 := hE.frozen (p := ⟨w.heap.size + 1 + 1, 0, none⟩) (by simp)
        have f3 := hE.frozen (p := ⟨w.heap.size + 1 + 1, 1, none⟩) (by simp)
        simp [go_sem] at f2 f3
        replace hq := hq.ext hE
        replace hE := hE1.tr hE
        go_wp2_with fail
        refine (l01Ok_any s q _ _ hq).mono ?_
        rintro e w2 ⟨rfl, hQ2⟩
        rw [h2]
        have hE2 := hQ2.ext
        replace f2 : _ = false := (hE2.frozen (lt_of_cell d0)).trans f2
        replace f3 : _ = false := (hE2.frozen (lt_of_cell d1)).trans f3
        replace d0 := hE2.cell d0
        replace d1 := hE2.cell d1
        replace c0 := hE2.cell c0
        replace c1 := hE2.cell c1
        replace e0 := hE2.cell e0
        replace e1 := hE2.cell e1
        replace hE := hE.tr hE2
        clear hE2
        go_wp2_with fail
        exact bodyPost_ret (v := .tuple #[.agg #[.int .i64 0, .slice none 0 0], .int .i64 2]) (by simp [results, Try.results36, go_sem, d0, d1]) rfl (RelRes.no ((hE.setCell (by simp <;> omega) _).setCell (by simp <;> omega) _))
      · have hmk := mkRel_SrelOf (s := s) (m := r.1 + q.1) (p := pairP r q) hs1 hs2 (by omega) (by omega)
        rw [pair_0 h1 h2 h3, ← pair_eq h1 h2 h3]
        rw [← pair_eq h1 h2 h3] at hmk
        have hlr : r.2.length ≤ 256 := valid_length h1
        have hlq : q.2.length ≤ 256 := valid_length h2
        have HALL := Lib.hid hall
        have HALL2 := Lib.hid hall2
        clear hall hall2
        go_enter Try.func36, Try.ntmps36
        go_wp2_with fail
        refine (l01Ok_any s r _ _ hp).mono ?_
        rintro e w1 ⟨rfl, hQ⟩
        rw [h1]
        have hE := hQ.ext
        have c0 := hE.cell (p := ⟨w.heap.size, 0, none⟩) (v := .int .i64 r.1) (by simp [go_sem])
        have c1 := hE.cell (p := ⟨w.heap.size, 1, none⟩) (v := .slice ta r.2.length tc) (by simp [go_sem])
        have e0 := hE.cell (p := ⟨w.heap.size + 1, 0, none⟩) (v := .int .i64 q.1) (by simp [go_sem])
        have e1 := hE.cell (p := ⟨w.heap.size + 1, 1, none⟩) (v := .slice ua' q.2.length uc') (by simp [go_sem])
        have d0 := hE.cell (p := ⟨w.heap.size + 1 + 1, 0, none⟩) (v := .int .i64 0) (by simp [go_sem])
        have d1 := hE.cell (p := ⟨w.heap.size + 1 + 1, 1, none⟩) (v := .slice none 0 0) (by simp [go_sem])
        have f2 := hE.frozen (p := ⟨w.heap.size + 1 + 1, 0, none⟩) (by simp)
        have f3 := hE.frozen (p := ⟨w.heap.size + 1 + 1, 1, none⟩) (by simp)
        simp [go_sem] at f2 f3
        replace hq := hq.ext hE
        replace hE := hE1.tr hE
        go_wp2_with fail
        refine (l01Ok_any s q _ _ hq).mono ?_
        rintro e w2 ⟨rfl, hQ2⟩
        rw [h2]
        have hE2 := hQ2.ext
        replace f2 : _ = false := (hE2.frozen (lt_of_cell d0)).trans f2
        replace f3 : _ = false := (hE2.frozen (lt_of_cell d1)).trans f3
        replace d0 := hE2.cell d0
        replace d1 := hE2.cell d1
        replace c0 := hE2.cell c0
        replace c1 := hE2.cell c1
        replace e0 := hE2.cell e0
        replace e1 := hE2.cell e1
        replace hE := hE.tr hE2
        clear hE2
        clear h1 h2
        obtain ⟨a, b, off, cap, vs, hsl, hlc, hcm, ha, hc⟩ := hr'
        simp only [Value.slice.injEq] at hsl
        obtain ⟨rfl, -, rfl⟩ := hsl
        obtain ⟨a2, b2, off2, cap2, vs2, hsl, hlc2, hcm2, ha2, hc2⟩ := hs'
        simp only [Value.slice.injEq] at hsl
        obtain ⟨rfl, -, rfl⟩ := hsl
        have hq1 := lt_of_cell d0
        have hA1 : Ext w2 (w2.alloc (.cells #[.int .i64 (r.1 + q.1), .slice none 0 0] 24)) := (Ext.refl' w2).alloc (Nat.le_refl _) _
        have hAcc : Acc w (w2.alloc (.cells #[.int .i64 (r.1 + q.1), .slice none 0 0] 24)) (w.heap.size + 1 + 1) w2.heap.size (w2.heap.size + 1) (r.1 + q.1) [] (.slice none 0 0) [] :=
          ⟨hE.tr hA1, OII_nil _, by simp, by simp, by omega, hq1, by omega, by simp [go_sem], by simp [go_sem], by simp [go_sem], hA1.cell d0, hA1.cell d1, (hA1.frozen (lt_of_cell d0)).trans f2, (hA1.frozen (lt_of_cell d1)).trans f3⟩
        go_wp2_with fail
        go_loopw [9] (fun i wr => ∃ (k : Nat) (tv : Value) (fp : List Nat), k ≤ r.2.length ∧ i = .int .i64 k ∧ Acc w wr (w.heap.size + 1 + 1) w2.heap.size (w2.heap.size + 1) (r.1 + q.1) (pairUp r.2 q.2 k) tv fp ∧
            wr.cell? ⟨w.heap.size, 0, none⟩ = some (.int .i64 r.1) ∧ wr.cell? ⟨w.heap.size, 1, none⟩ = some (.slice ta r.2.length tc) ∧ wr.cell? ⟨w.heap.size + 1, 0, none⟩ = some (.int .i64 q.1) ∧ wr.cell? ⟨w.heap.size + 1, 1, none⟩ = some (.slice ua' q.2.length uc'))
          (fun i _ => r.2.length - (intOf i).toNat)
        case atStart =>
          exact ⟨0, .slice none 0 0, [], by omega, rfl, hAcc, hA1.cell c0, hA1.cell c1, hA1.cell e0, hA1.cell e1⟩
        case round =>
          obtain ⟨k, tv, fp, hk, rfl, hA, c0, c1, e0, e1⟩ := hrel
          obtain ⟨va, vc, rfl⟩ := hA.ho.form
          by_cases hkl : k < r.2.length
          · obtain rfl := ha (by omega)
            have HK := Lib.hid (pairUp_succ (A := r.2) (B := q.2) hkl)
            have h20 : Acc w wr (w.heap.size + 1 + 1) w2.heap.size (w2.heap.size + 1) (r.1 + q.1) (pairUp2 r.2 q.2 k 0) (.slice va (pairUp r.2 q.2 k).length vc) fp := by
              have : pairUp2 r.2 q.2 k 0 = pairUp r.2 q.2 k := by simp [pairUp2]
              rw [this]; exact hA
            go_wp2_with fail
            go_loopw [10] (fun i wr => ∃ (j : Nat) (tv : Value) (fp : List Nat), j ≤ q.2.length ∧ i = .int .i64 j ∧ Acc w wr (w.heap.size + 1 + 1) w2.heap.size (w2.heap.size + 1) (r.1 + q.1) (pairUp2 r.2 q.2 k j) tv fp ∧
                wr.cell? ⟨w.heap.size, 0, none⟩ = some (.int .i64 r.1) ∧ wr.cell? ⟨w.heap.size, 1, none⟩ = some (.slice (some ⟨b, off, none⟩) r.2.length tc) ∧ wr.cell? ⟨w.heap.size + 1, 0, none⟩ = some (.int .i64 q.1) ∧ wr.cell? ⟨w.heap.size + 1, 1, none⟩ = some (.slice ua' q.2.length uc'))
              (fun i _ => q.2.length - (intOf i).toNat)
            case atStart => exact ⟨0, _, fp, by omega, rfl, h20, c0, c1, e0, e1⟩
            case round =>
              obtain ⟨j, tv, fp, hj, rfl, hA, c0, c1, e0, e1⟩ := hrel
              obtain ⟨va, vc, rfl⟩ := hA.ho.form
              have hE := hA.hE
              by_cases hjl : j < q.2.length
              · obtain rfl := ha2 (by omega)
                obtain ⟨k1, k2⟩ := hc k hkl
                replace k1 := hE.cell k1
                replace k2 := k2.ext hE
                obtain ⟨k3, k4⟩ := hc2 j hjl
                replace k3 := hE.cell k3
                replace k4 := k4.ext hE
                have ht := HALL.out r.2[k] (List.getElem_mem hkl)
                have ht2 := HALL2.out q.2[j] (List.getElem_mem hjl)
                have hl0 : 0 < r.2[k].length ∧ r.2[k].length ≤ 4 ∧ 0 < q.2[j].length ∧ q.2[j].length ≤ 4 := by have := vals_len ht; have := vals_len ht2; omega
                obtain ⟨hl1, hl2, hl3, hl4⟩ := hl0
                generalize vs k = y at k1 k2
                generalize vs2 j = y2 at k3 k4
                obtain ⟨ya, yc, rfl⟩ := k2.form
                obtain ⟨za, zc, rfl⟩ := k4.form
                have HD := Lib.hid (pairUp2_succ hkl hjl)
                have hlen := pairUp2_length r.2 q.2 k j
                have hlen2 : (pairUp2 r.2 q.2 k j).length ≤ 1048576 := Nat.le_trans hlen (by have : k * q.2.length ≤ 256 * 256 := Nat.mul_le_mul (by omega) hlq; omega)
                have a0 := hA.c0
                have a1 := hA.c1
                clear hlen
                go_wp2_with fail
                go_wp2_with fail
                refine region_spC [] [15, 16, 17] [SP.val (.pointer (some ⟨w2.heap.size, 1, none⟩)), SP.val (.slice va (pairUp2 r.2 q.2 k j).length vc), SP.val (.pointer (some ⟨w.heap.size, 1, none⟩)), SP.val (.slice (some ⟨b, off, none⟩) r.2.length tc), SP.val (.int .i64 (k : Nat)), SP.val (.pointer (some ⟨b, off + k, none⟩)), SP.val (.slice ya r.2[k].length yc), SP.ownIb wr.heap.size r.2[k], SP.val (.pointer (some ⟨(w.heap.size + 1), 1, none⟩)), SP.val (.slice (some ⟨b2, off2, none⟩) q.2.length uc'), SP.val (.int .i64 (j : Nat)), SP.val (.pointer (some ⟨b2, off2 + j, none⟩)), SP.val (.slice za q.2[j].length zc), SP.ownIb wr.heap.size (r.2[k] ++ q.2[j]), SP.rowIb wr.heap.size (r.2[k] ++ q.2[j]), SP.any, SP.any, SP.any] (by kernel_rfl) (fun _ d _ _ _ h => by cases d <;> exact h) (by kernel_rfl) (by kernel_rfl)
                  (.cons (fun vs y hY => Step.fieldAddr ⟨w2.heap.size, 0, none⟩ rfl rfl rfl (by simp [go_sem]) rfl) <|
                   .cons (fun vs y hY g0_0 => Step.load ⟨w2.heap.size, 1, none⟩ rfl rfl g0_0 (by simp [go_sem, hY.cell a1]) rfl) <|
                   .cons (fun vs y hY => Step.fieldAddr ⟨w.heap.size, 0, none⟩ rfl rfl rfl (by simp [go_sem]) rfl) <|
                   .cons (fun vs y hY g2_0 => Step.load ⟨w.heap.size, 1, none⟩ rfl rfl g2_0 (by simp [go_sem, hY.cell c1]) rfl) <|
                   .cons (fun vs y hY => Step.move rfl rfl rfl rfl) <|
                   .cons (fun vs y hY g3_0 g4_1 => Step.indexAtP (n := .int .i64 (k : Nat)) ⟨b, off + k, none⟩ rfl rfl g3_0 g4_1 (by simp [go_sem, Instr.indexAt, Addr.add, hkl] <;> omega) rfl) <|
                   .cons (fun vs y hY g5_0 => Step.load ⟨b, off + k, none⟩ rfl rfl g5_0 (by simp [go_sem, hY.cell k1]) rfl) <|
                   .cons (fun vs y hY g6_0 => Step.call Try.call73 rfl rfl [vs 6] rfl rfl (by rw [show vs 6 = _ from g6_0]; exact ((l00Own_any _ _ _ (k2.ext hY) hl1 (by omega)).mono fun _ _ ⟨u, fp, he, hE, ho, hg⟩ => ⟨u, he, hE, fp, ho, fun g h => Nat.le_trans hY.size (hg g h)⟩))) <|
                   .cons (fun vs y hY => Step.fieldAddr ⟨(w.heap.size + 1), 0, none⟩ rfl rfl rfl (by simp [go_sem]) rfl) <|
                   .cons (fun vs y hY g8_0 => Step.load ⟨(w.heap.size + 1), 1, none⟩ rfl rfl g8_0 (by simp [go_sem, hY.cell e1]) rfl) <|
                   .cons (fun vs y hY => Step.move rfl rfl rfl rfl) <|
                   .cons (fun vs y hY g9_0 g10_1 => Step.indexAtP (n := .int .i64 (j : Nat)) ⟨b2, off2 + j, none⟩ rfl rfl g9_0 g10_1 (by simp [go_sem, Instr.indexAt, Addr.add, hjl] <;> omega) rfl) <|
                   .cons (fun vs y hY g11_0 => Step.load ⟨b2, off2 + j, none⟩ rfl rfl g11_0 (by simp [go_sem, hY.cell k3]) rfl) <|
                   .keep ⟨rfl, fun vs y hY g7_0 g12_1 g7_2 => GivesR.appendK (l := r.2[k]) (m := q.2[j]) (xv := vs 7) (yv := .slice za q.2[j].length zc) hY rfl (by exact rfl) g7_0 (by exact g12_1) (k4.ext hY) hl3 (by omega) (fun v' w' k1 k2 k3 => ⟨k1, k2, by intro j o' u hj hd hne hR; have hlt := (List.getElem?_eq_some_iff.1 hj).1; simp only [List.length_cons, List.length_nil] at hlt; rcases (show j = 0 ∨ j = 1 ∨ j = 2 ∨ j = 3 ∨ j = 4 ∨ j = 5 ∨ j = 6 ∨ j = 7 ∨ j = 8 ∨ j = 9 ∨ j = 10 ∨ j = 11 ∨ j = 12 ∨ j = 13 ∨ j = 14 ∨ j = 15 ∨ j = 16 ∨ j = 17 by omega) with rfl | rfl | rfl | rfl | rfl | rfl | rfl | rfl | rfl | rfl | rfl | rfl | rfl | rfl | rfl | rfl | rfl | rfl <;> first | exact hR | exact k3 u hR | exact absurd rfl hne | (obtain rfl := Option.some.inj hj; exact absurd hd (by decide))⟩)⟩ <|
                   .cons (fun vs y hY g13_0 => Step.rowIb (e := 38) rfl rfl g13_0 (by simp [go_sem])) <|
                   .skip rfl <|
                   .skip rfl <|
                   .skip rfl <|
                   .nil) ?_
                intro vs w3 hC hL
                have r0 : vs 0 = _ := hL 0 (by decide) rfl
                have r1 : vs 1 = _ := hL 1 (by decide) rfl
                have r2 : vs 2 = _ := hL 2 (by decide) rfl
                have r3 : vs 3 = _ := hL 3 (by decide) rfl
                have r4 : vs 4 = _ := hL 4 (by decide) rfl
                have r5 : vs 5 = _ := hL 5 (by decide) rfl
                have r6 : vs 6 = _ := hL 6 (by decide) rfl
                have r7 := hL 7 (by decide) rfl
                have r8 : vs 8 = _ := hL 8 (by decide) rfl
                have r9 : vs 9 = _ := hL 9 (by decide) rfl
                have r10 : vs 10 = _ := hL 10 (by decide) rfl
                have r11 : vs 11 = _ := hL 11 (by decide) rfl
                have r12 : vs 12 = _ := hL 12 (by decide) rfl
                have r13 := hL 13 (by decide) rfl
                have r14 := hL 14 (by decide) rfl
                clear hL
                simp only [putAll, Act.put, List.contains_cons, List.contains_nil, Nat.reduceBEq, Nat.reduceAdd, Bool.or_false, Bool.or_true, cond_true, cond_false, List.setIfInBounds_toArray, List.set_cons_succ, List.set_cons_zero, List.filterMap_cons, List.filterMap_nil, List.getElem?_cons_succ, List.getElem?_cons_zero, r0, r1, r2, r3, r4, r5, r6, r8, r9, r10, r11, r12]
                clear r0 r1 r2 r3 r4 r5 r6 r8 r9 r10 r11 r12
                obtain ⟨b', u, fx, rb, cb, hx, hfx⟩ := r14
                rw [rb]
                have q5 := hA.hB
                have hd : ∀ g ∈ fx, g ∉ fp := fun g hg hm => by have := hfx g hg; have := hA.ho.lt g hm; omega
                replace hA := hA.ext hC
                replace c0 := hC.cell c0
                replace c1 := hC.cell c1
                replace e0 := hC.cell e0
                replace e1 := hC.cell e1
                refine hA.append hx (fun g hg => Nat.le_trans q5 (hfx g hg)) hd hlen2 cb rfl (.tmp 48) (.tmp 61) rfl rfl rfl ?_
                intro v' w4 fp' k3 k4 hA' hK ⟨xa, xc, hxe⟩
                subst hxe
                rw [← HD.out] at hA'
                replace c0 := hK.cell c0 (by dsimp only; omega) (by dsimp only; omega)
                replace c1 := hK.cell c1 (by dsimp only; omega) (by dsimp only; omega)
                replace e0 := hK.cell e0 (by dsimp only; omega) (by dsimp only; omega)
                replace e1 := hK.cell e1 (by dsimp only; omega) (by dsimp only; omega)
                go_wp2_with fail
                go_roundw
                case rel => exact ⟨j + 1, _, fp', by omega, by go_num, hA', c0, c1, e0, e1⟩
                case measure => simp [intOf]; omega
              · have hjj : j = q.2.length := by omega
                subst hjj
                rw [← HK.out] at hA
                go_wp2_with fail
                go_roundw
                case rel => exact ⟨k + 1, _, fp, by omega, by go_num, hA, c0, c1, e0, e1⟩
                case measure => simp [intOf]; omega
          · have hkk : k = r.2.length := by omega
            subst hkk
            have hdone := hA.done
            have c0 := hA.c0
            have c1 := hA.c1
            have d0 := hA.d0
            have d1 := hA.d1
            have f2 := hA.f2
            have f3 := hA.f3
            go_wp2_with fail
            obtain ⟨g1, g2, g3⟩ := hdone (.int .i64 (r.1 + q.1)) (.slice va (pairUp r.2 q.2 r.2.length).length vc)
            exact bodyPost_ret (v := .tuple #[.agg #[.int .i64 (r.1 + q.1), .slice va (pairUp r.2 q.2 r.2.length).length vc], .int .i64 0]) (by simp [results, Try.results36, go_sem, d0, d1]) rfl (RelRes.of rfl g1 g2 g3 hmk)
end Go.Proofs.Ytohpjamngpphnaa
