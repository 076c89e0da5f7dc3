
/- PairRels: the program's and the reference's give one function's answers. -/
import Derived.Test.YtemhmpnnccmlmaaFix
import Derived.Test.YtemhmpnnccmlmaaAppK
namespace Go.Proofs.Ytemhmpnnccmlmaa
open Go.RowKit
set_option linter.unusedVariables false

def pairP (r q : Int × List (List Int)) (t : List Int) : Bool := hasT r (t.take r.1.toNat) && hasT q (t.drop r.1.toNat)
def SPairRels (s : Int) (r q : Int × List (List Int)) : (Int × List (List Int)) × Int :=
  if SValidRel s r && SValidRel s q then if 4 < r.1 + q.1 then (noRel, 2) else (SrelOf s (r.1 + q.1) (pairP r q), 0) else (noRel, 1)
theorem pair_1 {s : Int} {r q : Int × List (List Int)} (h : (SValidRel s r && SValidRel s q) = false) : SPairRels s r q = (noRel, 1) := by unfold SPairRels; rw [h]; rfl
theorem pair_2 {s : Int} {r q : Int × List (List Int)} (h1 : SValidRel s r = true) (h2 : SValidRel s q = true) (h : 4 < r.1 + q.1) : SPairRels s r q = (noRel, 2) := by unfold SPairRels; rw [h1, h2, if_pos h]; rfl
theorem pair_0 {s : Int} {r q : Int × List (List Int)} (h1 : SValidRel s r = true) (h2 : SValidRel s q = true) (h : ¬ 4 < r.1 + q.1) : SPairRels s r q = (SrelOf s (r.1 + q.1) (pairP r q), 0) := by unfold SPairRels; rw [h1, h2, if_neg h]; rfl

theorem cmpL_append (b b' : List Int) : ∀ (a a' : List Int), a.length = a'.length → cmpL (a ++ b) (a' ++ b') = if cmpL a a' = 0 then cmpL b b' else cmpL a a'
  | [], [], _ => by simp [cmpL]
  | [], _ :: _, h => by simp at h
  | _ :: _, [], h => by simp at h
  | x :: xs, y :: ys, h => by
    have e : ∀ (us vs : List Int), cmpL (x :: us) (y :: vs) = if x = y then cmpL us vs else cmpI x y := fun _ _ => rfl
    simp only [List.cons_append]
    rw [e, e]
    by_cases hab : x = y
    · rw [if_pos hab, if_pos hab, cmpL_append b b' xs ys (by simpa using h)]
    · rw [if_neg hab, if_neg hab, if_neg]
      unfold cmpI
      split
      · omega
      · split <;> omega
/-- the pairs in their order: up to the place k of the first list, and of that one up to the place j of the second -/
def pairUp (A B : List (List Int)) (k : Nat) : List (List Int) := (A.take k).flatMap fun a => B.map (a ++ ·)
def pairUp2 (A B : List (List Int)) (k j : Nat) : List (List Int) := pairUp A B k ++ (B.take j).map ((A.getD k []) ++ ·)
theorem pairUp_succ {A B : List (List Int)} {k : Nat} (hk : k < A.length) : pairUp A B (k + 1) = pairUp2 A B k B.length := by
  unfold pairUp2 pairUp
  rw [List.take_length, List.take_succ_eq_append_getElem hk, List.flatMap_append, List.getD_eq_getElem?_getD, List.getElem?_eq_getElem hk]
  simp
theorem pairUp2_succ {A B : List (List Int)} {k j : Nat} (hk : k < A.length) (hj : j < B.length) : pairUp2 A B k (j + 1) = pairUp2 A B k j ++ [A[k] ++ B[j]] := by
  unfold pairUp2
  rw [List.take_succ_eq_append_getElem hj, List.map_append, List.append_assoc, List.getD_eq_getElem?_getD, List.getElem?_eq_getElem hk]
  rfl
theorem pairUp_length (A B : List (List Int)) : ∀ k, (pairUp A B k).length ≤ k * B.length := by
  intro k
  induction k with
  | zero => simp [pairUp]
  | succ k ih =>
    by_cases hk : k < A.length
    · rw [pairUp_succ hk, pairUp2, List.length_append, List.length_map, List.take_length, Nat.add_mul]
      omega
    · unfold pairUp at ih ⊢
      rw [List.take_of_length_le (by omega)] at ih ⊢
      rw [Nat.add_mul]
      omega
theorem pairUp2_length (A B : List (List Int)) (k j : Nat) : (pairUp2 A B k j).length ≤ k * B.length + B.length := by
  have := pairUp_length A B k
  unfold pairUp2
  rw [List.length_append, List.length_map, List.length_take]
  have : min j B.length ≤ B.length := Nat.min_le_right _ _
  omega
theorem vals_append {s m n : Int} {a b : List Int} (ha : vals s a m = true) (hb : vals s b n = true) : vals s (a ++ b) (m + n) = true := by
  obtain ⟨h1, h2⟩ := vals_iff.1 ha
  obtain ⟨h3, h4⟩ := vals_iff.1 hb
  refine vals_iff.2 ⟨by rw [List.length_append]; omega, fun x hx => ?_⟩
  rcases List.mem_append.1 hx with h | h
  · exact h2 x h
  · exact h4 x h
theorem pair_eq {s : Int} {r q : Int × List (List Int)} (hr : SValidRel s r = true) (hq : SValidRel s q = true) (h : ¬ 4 < r.1 + q.1) : (r.1 + q.1, pairUp r.2 q.2 r.2.length) = SrelOf s (r.1 + q.1) (pairP r q) := by
  obtain ⟨h1, h2, h3⟩ := valid_parts hr
  obtain ⟨_, k2, k3⟩ := valid_parts hq
  have hl : ∀ a ∈ r.2, a.length = r.1.toNat := fun a ha => by have := (vals_iff.1 (h3 a ha)).1; omega
  unfold pairUp
  rw [List.take_length]
  refine srel_of h1.1 h1.2 (by omega) (by omega) ?_ fun t => ?_
  · unfold Srt
    rw [List.pairwise_flatMap]
    refine ⟨fun a ha => ?_, ?_⟩
    · rw [List.pairwise_map]
      refine List.Pairwise.imp (fun {x y} hxy => ?_) (valid_srt hq)
      rw [cmpL_append _ _ _ _ rfl, if_pos (cmpL_self _)]
      exact hxy
    · refine List.Pairwise.imp_of_mem (fun {a a'} ha ha' haa x hx y hy => ?_) (valid_srt hr)
      obtain ⟨b, hb, rfl⟩ := List.mem_map.1 hx
      obtain ⟨b', hb', rfl⟩ := List.mem_map.1 hy
      rw [cmpL_append _ _ _ _ (by rw [hl a ha, hl a' ha']), if_neg (by omega)]
      exact haa
  · rw [List.mem_flatMap]
    unfold pairP hasT
    rw [Bool.and_eq_true, decide_eq_true_eq, decide_eq_true_eq]
    constructor
    · rintro ⟨a, ha, hx⟩
      obtain ⟨b, hb, rfl⟩ := List.mem_map.1 hx
      refine ⟨vals_append (h3 a ha) (k3 b hb), ?_, ?_⟩
      · rw [← hl a ha, List.take_left]; exact ha
      · rw [← hl a ha, List.drop_left]; exact hb
    · rintro ⟨_, ha, hb⟩
      exact ⟨_, ha, List.mem_map.2 ⟨_, hb, List.take_append_drop _ _⟩⟩

theorem valid_length {s : Int} {r : Int × List (List Int)} (hv : SValidRel s r = true) : r.2.length ≤ 256 := by
  obtain ⟨h1, h2, h3⟩ := valid_parts hv
  have h := srel_self hv
  have := congrArg (fun x => x.2.length) h
  rw [this]
  have k1 := allD_length s r.1 (hasT r) (count s r.1)
  have k2 := powW_small s r.1 h1.1 h1.2 h2.1 h2.2
  have k3 := count_eq s r.1 h1.1 h1.2 h2.1 h2.2
  show (allD s r.1 (hasT r) (count s r.1)).length ≤ 256
  omega
end Go.Proofs.Ytemhmpnnccmlmaa
