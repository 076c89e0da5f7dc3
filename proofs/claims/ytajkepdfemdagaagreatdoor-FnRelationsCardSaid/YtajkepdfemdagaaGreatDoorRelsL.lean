
/- The plain laws of FnRelations: opposites, meets and joins of relations. -/
import Derived.Test.YtajkepdfemdagaaGreatDoorGots
import Derived.Test.YtajkepdfemdagaaGreatDoorRelFns
import Derived.Test.YtajkepdfemdagaaGreatDoorIsPart
import Derived.Test.YtajkepdfemdagaaGreatDoorMakeX
import Derived.Test.YtajkepdfemdagaaGreatDoorReadRel
namespace Go.Proofs.YtajkepdfemdagaaGreatDoor
open Go.RowKit
set_option linter.unusedVariables false

section
variable {s m : Int}
def oppP (r : Int × List (List Int)) (t : List Int) : Bool := !hasT r t
def meetP (r q : Int × List (List Int)) (t : List Int) : Bool := hasT r t && hasT q t
def joinP (r q : Int × List (List Int)) (t : List Int) : Bool := hasT r t || hasT q t
theorem opp_opp {r : Int × List (List Int)} (h : IsRel s m r) : SrelOf s m (oppP (SrelOf s m (oppP r))) = r := by
  obtain ⟨a1, a2, a3⟩ := valid_parts h.valid
  refine Eq.trans ?_ (srel_self h.valid).symm
  rw [h.ar] at a2 ⊢
  refine srel_congr a1.1 a1.2 a2.1 a2.2 fun t ht => ?_
  unfold oppP
  rw [hasT_srel a1.1 a1.2 a2.1 a2.2, ht]
  simp
theorem hasT_opp (hs : 1 ≤ s) (hs2 : s ≤ 4) (hm : 1 ≤ m) (hm2 : m ≤ 4) {r : Int × List (List Int)} {u : List Int} (hu : vals s u m = true) : hasT (SrelOf s m (oppP r)) u = !hasT r u := by
  rw [hasT_srel hs hs2 hm hm2, hu]
  rfl
theorem hasT_meet (hs : 1 ≤ s) (hs2 : s ≤ 4) (hm : 1 ≤ m) (hm2 : m ≤ 4) {r q : Int × List (List Int)} {u : List Int} (hu : vals s u m = true) : hasT (SrelOf s m (meetP r q)) u = (hasT r u && hasT q u) := by
  rw [hasT_srel hs hs2 hm hm2, hu]
  rfl
theorem hasT_join (hs : 1 ≤ s) (hs2 : s ≤ 4) (hm : 1 ≤ m) (hm2 : m ≤ 4) {r q : Int × List (List Int)} {u : List Int} (hu : vals s u m = true) : hasT (SrelOf s m (joinP r q)) u = (hasT r u || hasT q u) := by
  rw [hasT_srel hs hs2 hm hm2, hu]
  rfl
theorem filter_and_or {α : Type} (p q : α → Bool) : ∀ l : List α, (l.filter fun t => p t && q t).length + (l.filter fun t => p t || q t).length = (l.filter p).length + (l.filter q).length
  | [] => rfl
  | a :: l => by
    have ih := filter_and_or p q l
    cases hp : p a <;> cases hq : q a <;> simp [hp, hq] <;> omega
/-- as many tuples in a meet and a join as in the two relations -/
theorem meet_join_len {r q : Int × List (List Int)} (h : IsRel s m r) (k : IsRel s m q) : (SrelOf s m (meetP r q)).2.length + (SrelOf s m (joinP r q)).2.length = r.2.length + q.2.length := by
  have h1 := srel_self h.valid
  have h2 := srel_self k.valid
  rw [h.ar] at h1
  rw [k.ar] at h2
  have e1 : r.2.length = (SrelOf s m (hasT r)).2.length := by rw [← h1]
  have e2 : q.2.length = (SrelOf s m (hasT q)).2.length := by rw [← h2]
  rw [e1, e2]
  show (allD s m _ _).length + (allD s m _ _).length = (allD s m _ _).length + (allD s m _ _).length
  unfold allD
  exact filter_and_or _ _ _
theorem partOf_iff {r q : Int × List (List Int)} : partOf r q = true ↔ ∀ t ∈ r.2, t ∈ q.2 := by
  unfold partOf
  rw [List.all_eq_true]
  exact ⟨fun h t ht => hasT_iff.1 (h t ht), fun h t ht => hasT_iff.2 (h t ht)⟩
theorem meet_part (hs : 1 ≤ s) (hs2 : s ≤ 4) (hm : 1 ≤ m) (hm2 : m ≤ 4) {r q : Int × List (List Int)} : partOf (SrelOf s m (meetP r q)) r = true := by
  rw [partOf_iff]
  intro t ht
  obtain ⟨_, h2⟩ := (mem_allD hs hs2 hm hm2).1 ht
  unfold meetP at h2
  rw [Bool.and_eq_true, hasT_iff] at h2
  exact h2.1
/-- a part of another: their meet is the first -/
theorem part_meet {r q : Int × List (List Int)} (h : IsRel s m r) : partOf r q = decide (SrelOf s m (meetP r q) = r) := by
  obtain ⟨a1, a2, a3⟩ := valid_parts h.valid
  rw [h.ar] at a2 a3
  rw [Bool.eq_iff_iff, decide_eq_true_eq, partOf_iff]
  constructor
  · intro hp
    refine Eq.trans ?_ (srel_self h.valid).symm
    rw [h.ar]
    refine srel_congr a1.1 a1.2 a2.1 a2.2 fun t ht => ?_
    unfold meetP
    cases hr : hasT r t with
    | false => rfl
    | true => rw [hasT_iff.2 (hp t (hasT_iff.1 hr))]; rfl
  · intro he t ht
    rw [← he] at ht
    obtain ⟨_, h2⟩ := (mem_allD a1.1 a1.2 a2.1 a2.2).1 ht
    unfold meetP at h2
    rw [Bool.and_eq_true, hasT_iff, hasT_iff] at h2
    exact h2.2
theorem part_full {r : Int × List (List Int)} (h : IsRel s m r) : partOf r (SrelOf s m fun _ => true) = true := by
  obtain ⟨a1, a2, a3⟩ := valid_parts h.valid
  rw [h.ar] at a2 a3
  rw [partOf_iff]
  intro t ht
  exact (mem_allD a1.1 a1.2 a2.1 a2.2).2 ⟨a3 t ht, rfl⟩
/-- each tuple twice, from the last to the first -/
def turnL (L : List (List Int)) : List (List Int) := L.reverse.flatMap fun t => [t, t]
theorem mem_turnL {L : List (List Int)} {t : List Int} : t ∈ turnL L ↔ t ∈ L := by
  unfold turnL
  rw [List.mem_flatMap]
  constructor
  · rintro ⟨x, hx, ht⟩
    have : t = x := by simpa using ht
    subst this
    simpa using hx
  · intro h
    exact ⟨t, by simpa using h, by simp⟩
theorem turn_back {r : Int × List (List Int)} (h : IsRel s m r) : (SrelOf s m fun t => decide (t ∈ turnL r.2)) = r := by
  obtain ⟨a1, a2, a3⟩ := valid_parts h.valid
  refine Eq.trans ?_ (srel_self h.valid).symm
  rw [h.ar] at a2 ⊢
  refine srel_congr a1.1 a1.2 a2.1 a2.2 fun t ht => ?_
  rw [Bool.eq_iff_iff, decide_eq_true_eq, mem_turnL, hasT_iff]
theorem turn_made {r : Int × List (List Int)} (h : IsRel s m r) : SMakeRel s m (turnL r.2) = (r, 0) := by
  obtain ⟨a1, a2, a3⟩ := valid_parts h.valid
  rw [h.ar] at a2 a3
  rw [mk_0 (inB_iff.2 a1) ?_, turn_back h]
  rw [Bool.and_eq_true]
  refine ⟨inB_iff.2 a2, ?_⟩
  unfold allV
  rw [List.all_eq_true]
  intro t ht
  exact a3 t (mem_turnL.1 ht)
theorem no_two {r q : Int × List (List Int)} (h : IsRel s m r) (k : IsRel s m q) : twoFault s r q = 0 := by
  unfold twoFault
  rw [h.valid, k.valid, h.ar, k.ar]
  simp
end
end Go.Proofs.YtajkepdfemdagaaGreatDoor
