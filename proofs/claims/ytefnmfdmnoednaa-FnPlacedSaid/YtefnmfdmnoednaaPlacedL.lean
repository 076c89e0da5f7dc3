
/- The plain laws of FnPlaced: placed, paired, fixed, composed and mapped relations. -/
import Derived.Test.YtefnmfdmnoednaaPlace
import Derived.Test.YtefnmfdmnoednaaPair
import Derived.Test.YtefnmfdmnoednaaComp
import Derived.Test.YtefnmfdmnoednaaMapR
namespace Go.Proofs.Ytefnmfdmnoednaa
open Go.RowKit
set_option linter.unusedVariables false

section
variable {s m : Int}
theorem srel_valid (hs : 1 ≤ s) (hs2 : s ≤ 4) (hm : 1 ≤ m) (hm2 : m ≤ 4) (p : List Int → Bool) : SValidRel s (SrelOf s m p) = true := by
  unfold SValidRel
  rw [Bool.and_eq_true, Bool.and_eq_true]
  refine ⟨⟨inB_iff.2 ⟨hs, hs2⟩, inB_iff.2 ⟨hm, hm2⟩⟩, ?_⟩
  rw [List.all_eq_true]
  intro k hk
  have hk := List.mem_range.1 hk
  have hmem : ∀ j (hj : j < (SrelOf s m p).2.length), vals s ((SrelOf s m p).2.getD j []) m = true := by
    intro j hj
    rw [List.getD_eq_getElem?_getD, List.getElem?_eq_getElem hj]
    exact ((mem_allD hs hs2 hm hm2).1 (List.getElem_mem hj)).1
  unfold okT
  rw [Bool.and_eq_true, Bool.or_eq_true]
  refine ⟨hmem k hk, ?_⟩
  by_cases h0 : k = 0
  · exact .inl (by simp [h0])
  · refine .inr ?_
    unfold before
    have hk1 : k - 1 < (SrelOf s m p).2.length := by omega
    have hg : ∀ j (hj : j < (SrelOf s m p).2.length), (SrelOf s m p).2.getD j [] = (SrelOf s m p).2[j] := fun j hj => by rw [List.getD_eq_getElem?_getD, List.getElem?_eq_getElem hj]; rfl
    rw [decide_eq_true_eq, hg _ hk, hg _ hk1]
    exact (List.pairwise_iff_getElem.1 (allD_srt hs hs2 hm hm2 p)) (k - 1) k _ _ (by omega)
theorem hasT_srel (hs : 1 ≤ s) (hs2 : s ≤ 4) (hm : 1 ≤ m) (hm2 : m ≤ 4) (p : List Int → Bool) (t : List Int) : hasT (SrelOf s m p) t = (vals s t m && p t) := by
  unfold hasT
  rw [Bool.eq_iff_iff, decide_eq_true_eq, Bool.and_eq_true]
  exact mem_allD hs hs2 hm hm2
theorem hasT_iff {r : Int × List (List Int)} {t : List Int} : hasT r t = true ↔ t ∈ r.2 := by unfold hasT; rw [decide_eq_true_eq]

/-- what is placed holds just for the values at its places -/
theorem placed_has (hs : 1 ≤ s) (hs2 : s ≤ 4) (r : Int × List (List Int)) (l u : List Int) (hu : vals s u 3 = true) : hasT (SrelOf s 3 (placeP r l)) u = hasT r (atP u l) := by
  rw [hasT_srel hs hs2 (by omega) (by omega), hu, Bool.true_and]
  rfl

theorem pairUp_len (A B : List (List Int)) : ∀ k, k ≤ A.length → (pairUp A B k).length = k * B.length
  | 0, _ => by simp [pairUp]
  | k + 1, hk => by
    have ih := pairUp_len A B k (by omega)
    unfold pairUp at ih ⊢
    rw [List.take_succ_eq_append_getElem (by omega), List.flatMap_append, List.length_append, ih, Nat.succ_mul]
    simp
theorem pairs_len {r q : Int × List (List Int)} (hr : SValidRel s r = true) (hq : SValidRel s q = true) (h : ¬ 4 < r.1 + q.1) : (SrelOf s (r.1 + q.1) (pairP r q)).2.length = r.2.length * q.2.length := by
  rw [← pair_eq hr hq h]
  exact pairUp_len _ _ _ (Nat.le_refl _)
/-- the first part of pairs -/
theorem pairs_first {r q : Int × List (List Int)} (hr : SValidRel s r = true) (hq : SValidRel s q = true) (h1 : r.1 = 1) (h : ¬ 4 < r.1 + q.1) (hne : 0 < q.2.length) :
    (SrelOf s 1 fun t => decide (t ∈ projL [0] (SrelOf s (r.1 + q.1) (pairP r q)).2)) = r := by
  obtain ⟨a1, a2, a3⟩ := valid_parts hr
  have hpe := pair_eq hr hq h
  refine Eq.trans ?_ (srel_self hr).symm
  rw [← hpe]
  clear hpe
  rw [h1] at a3 ⊢
  refine srel_congr a1.1 a1.2 (by omega) (by omega) fun t ht => ?_
  unfold hasT projL pairUp
  rw [Bool.eq_iff_iff, decide_eq_true_eq, decide_eq_true_eq, List.take_length, List.mem_map]
  have one : ∀ a ∈ r.2, ∀ b, atP (a ++ b) [0] = a := by
    intro a ha b
    have hl := (vals_iff.1 (a3 a ha)).1
    match a, hl with
    | [x], _ => rfl
    | [], hl => simp at hl
    | _ :: _ :: _, hl => simp at hl; omega
  constructor
  · rintro ⟨x, hx, rfl⟩
    obtain ⟨a, ha, hx⟩ := List.mem_flatMap.1 hx
    obtain ⟨b, hb, rfl⟩ := List.mem_map.1 hx
    rw [one a ha b]
    exact ha
  · intro hm
    exact ⟨t ++ q.2[0], List.mem_flatMap.2 ⟨t, hm, List.mem_map.2 ⟨q.2[0], List.getElem_mem hne, rfl⟩⟩, one t hm _⟩

/-- a fixed place -/
theorem fixed_at (hs : 1 ≤ s) (hs2 : s ≤ 4) (hm : 1 ≤ m) (hm2 : m ≤ 4) (r : Int × List (List Int)) (p x : Int) : ∀ t ∈ (SrelOf s m (fixP r p x)).2, (t.length : Int) = m ∧ t.getD p.toNat 0 = x := by
  intro t ht
  obtain ⟨h1, h2⟩ := (mem_allD hs hs2 hm hm2).1 ht
  unfold fixP at h2
  rw [Bool.and_eq_true, decide_eq_true_eq] at h2
  exact ⟨(vals_iff.1 h1).1, h2.1⟩

theorem compP_iff {r q : Int × List (List Int)} {x y : Int} : compP s r q [x, y] = true ↔ ∃ b : Nat, b < s.toNat ∧ [x, (b : Int)] ∈ r.2 ∧ [(b : Int), y] ∈ q.2 := by
  unfold compP
  rw [List.any_eq_true]
  constructor
  · rintro ⟨b, hb, h⟩
    rw [Bool.and_eq_true, hasT_iff, hasT_iff] at h
    exact ⟨b, List.mem_range.1 hb, h.1, h.2⟩
  · rintro ⟨b, hb, h1, h2⟩
    refine ⟨b, List.mem_range.2 hb, ?_⟩
    rw [Bool.and_eq_true, hasT_iff, hasT_iff]
    exact ⟨h1, h2⟩
theorem vals2 {x y : Int} : vals s [x, y] 2 = true ↔ (0 ≤ x ∧ x < s) ∧ 0 ≤ y ∧ y < s := by
  rw [vals_iff]
  simp
theorem mem_comp (hs : 1 ≤ s) (hs2 : s ≤ 4) {r q : Int × List (List Int)} {x y : Int} : [x, y] ∈ (SrelOf s 2 (compP s r q)).2 ↔ ((0 ≤ x ∧ x < s) ∧ 0 ≤ y ∧ y < s) ∧ ∃ b : Nat, b < s.toNat ∧ [x, (b : Int)] ∈ r.2 ∧ [(b : Int), y] ∈ q.2 := by
  rw [show ([x, y] ∈ (SrelOf s 2 (compP s r q)).2) = ([x, y] ∈ allD s 2 (compP s r q) (count s 2)) from rfl, mem_allD hs hs2 (by omega) (by omega), vals2, compP_iff]
theorem mem_two {a : Int × List (List Int)} (ha : SValidRel s a = true) (h : a.1 = 2) {x y : Int} (hm : [x, y] ∈ a.2) : (0 ≤ x ∧ x < s) ∧ 0 ≤ y ∧ y < s := by
  obtain ⟨_, _, a3⟩ := valid_parts ha
  have := a3 _ hm
  rw [h, vals2] at this
  exact this
/-- compositions are associative -/
theorem comp_assoc {a b c : Int × List (List Int)} (ha : SValidRel s a = true) (hb : SValidRel s b = true) (hc : SValidRel s c = true) (h1 : a.1 = 2) (h2 : b.1 = 2) (h3 : c.1 = 2) :
    SrelOf s 2 (compP s (SrelOf s 2 (compP s a b)) c) = SrelOf s 2 (compP s a (SrelOf s 2 (compP s b c))) := by
  obtain ⟨a1, _, _⟩ := valid_parts ha
  refine srel_congr a1.1 a1.2 (by omega) (by omega) fun t ht => ?_
  obtain ⟨x, y, rfl, x0, x1, y0, y1⟩ := vals_two ht
  rw [Bool.eq_iff_iff, compP_iff, compP_iff]
  constructor
  · rintro ⟨k, hk, hm, hy⟩
    obtain ⟨_, j, hj, p1, p2⟩ := (mem_comp a1.1 a1.2).1 hm
    exact ⟨j, hj, p1, (mem_comp a1.1 a1.2).2 ⟨⟨by omega, by omega⟩, k, hk, p2, hy⟩⟩
  · rintro ⟨k, hk, hx, hm⟩
    obtain ⟨_, j, hj, p1, p2⟩ := (mem_comp a1.1 a1.2).1 hm
    exact ⟨j, hj, (mem_comp a1.1 a1.2).2 ⟨⟨by omega, by omega⟩, k, hk, hx, p1⟩, p2⟩
/-- equality changes nothing -/
theorem comp_equal {a : Int × List (List Int)} (ha : SValidRel s a = true) (h1 : a.1 = 2) : SrelOf s 2 (compP s a (SrelOf s 2 eqP)) = a := by
  obtain ⟨a1, _, _⟩ := valid_parts ha
  refine Eq.trans ?_ (srel_self ha).symm
  rw [h1]
  refine srel_congr a1.1 a1.2 (by omega) (by omega) fun t ht => ?_
  obtain ⟨x, y, rfl, x0, x1, y0, y1⟩ := vals_two ht
  rw [Bool.eq_iff_iff, compP_iff, hasT_iff]
  have he : ∀ b : Nat, [(b : Int), y] ∈ (SrelOf s 2 eqP).2 ↔ b < s.toNat ∧ (b : Int) = y := by
    intro b
    rw [show ([(b : Int), y] ∈ (SrelOf s 2 eqP).2) = ([(b : Int), y] ∈ allD s 2 eqP (count s 2)) from rfl, mem_allD a1.1 a1.2 (by omega) (by omega), vals2]
    show _ ∧ ((b : Int) == y) = true ↔ _
    rw [beq_iff_eq]
    omega
  constructor
  · rintro ⟨b, hb, hm, hy⟩
    rw [he] at hy
    rw [← hy.2]
    exact hm
  · intro hm
    refine ⟨y.toNat, by omega, ?_, (he _).2 ⟨by omega, by omega⟩⟩
    rw [show ((y.toNat : Nat) : Int) = y by omega]
    exact hm

/-- there and back -/
theorem map_back {a : Int × List (List Int)} {to inv : List Int} (ha : SValidRel s a = true) (ht : vals s to s = true) (hi : ∀ v, 0 ≤ v → v < s → inv.getD (to.getD v.toNat 0).toNat 0 = v) :
    (SrelOf s a.1 fun t => decide (t ∈ mapL inv (SrelOf s a.1 fun t => decide (t ∈ mapL to a.2)).2)) = a := by
  obtain ⟨a1, a2, a3⟩ := valid_parts ha
  refine Eq.trans ?_ (srel_self ha).symm
  refine srel_congr a1.1 a1.2 a2.1 a2.2 fun t htv => ?_
  have back : ∀ y ∈ a.2, atP inv (atP to y) = y := by
    intro y hy
    have hv := (vals_iff.1 (a3 y hy)).2
    unfold atP
    rw [List.map_map]
    refine Eq.trans (List.map_congr_left fun v hvm => ?_) (List.map_id y)
    exact hi v (hv v hvm).1 (hv v hvm).2
  rw [Bool.eq_iff_iff, decide_eq_true_eq, hasT_iff]
  unfold mapL
  rw [List.mem_map]
  constructor
  · rintro ⟨x, hx, rfl⟩
    obtain ⟨_, hx2⟩ := (mem_allD a1.1 a1.2 a2.1 a2.2).1 hx
    rw [decide_eq_true_eq, List.mem_map] at hx2
    obtain ⟨y, hy, rfl⟩ := hx2
    rw [back y hy]
    exact hy
  · intro hm
    refine ⟨atP to t, (mem_allD a1.1 a1.2 a2.1 a2.2).2 ⟨(map_vals ha ht hm).1, ?_⟩, back t hm⟩
    rw [decide_eq_true_eq, List.mem_map]
    exact ⟨t, hm, rfl⟩
end
end Go.Proofs.Ytefnmfdmnoednaa
