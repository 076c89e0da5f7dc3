
/- Lists of tuples in order: weakly sorted, without what is alike beside it. Plain law for makeRel. -/
import Derived.Test.YtajkepdfemdagaaGreatDoorCanon
namespace Go.Proofs.YtajkepdfemdagaaGreatDoor
open Go.RowKit
set_option linter.unusedVariables false

/-- nothing later is less than what is earlier -/
def SrtW (L : List (List Int)) : Prop := L.Pairwise fun a b => ¬ cmpL b a < 0
theorem cmpL_next {a b : List Int} (h : ¬ cmpL b a < 0) (hne : a ≠ b) : cmpL a b < 0 := by
  by_cases h0 : cmpL b a = 0
  · exact absurd (cmpL_zero _ _ h0).symm hne
  · exact cmpL_flip _ _ (by omega)
/-- each once, of what stands alike side by side -/
def dedup : List (List Int) → List (List Int)
  | [] => []
  | [x] => [x]
  | x :: y :: r => if x = y then dedup (y :: r) else x :: dedup (y :: r)
theorem mem_dedup (t : List Int) : ∀ L : List (List Int), t ∈ dedup L ↔ t ∈ L
  | [] => Iff.rfl
  | [x] => Iff.rfl
  | x :: y :: r => by
    have ih := mem_dedup t (y :: r)
    unfold dedup
    by_cases h : x = y
    · rw [if_pos h, ih, h]
      simp
    · rw [if_neg h, List.mem_cons, ih, List.mem_cons (a := t) (b := x)]
theorem dedup_srt : ∀ L : List (List Int), SrtW L → Srt (dedup L)
  | [], _ => List.Pairwise.nil
  | [x], _ => by unfold dedup Srt; simp
  | x :: y :: r, h => by
    obtain ⟨h1, h2⟩ := List.pairwise_cons.1 h
    have ih := dedup_srt (y :: r) h2
    unfold dedup
    by_cases hxy : x = y
    · rw [if_pos hxy]; exact ih
    · rw [if_neg hxy]
      refine List.pairwise_cons.2 ⟨fun t ht => ?_, ih⟩
      have ht := (mem_dedup t (y :: r)).1 ht
      have hy := cmpL_next (h1 y (List.mem_cons_self ..)) hxy
      rcases List.mem_cons.1 ht with rfl | ht
      · exact hy
      · by_cases hyt : y = t
        · rw [← hyt]; exact hy
        · exact cmpL_trans _ _ _ hy (cmpL_next ((List.pairwise_cons.1 h2).1 t ht) hyt)
theorem dedup_snoc (x y : List Int) : ∀ l : List (List Int), dedup (l ++ [x, y]) = if x = y then dedup (l ++ [x]) else dedup (l ++ [x]) ++ [y]
  | [] => by by_cases h : x = y <;> simp [dedup, h]
  | [a] => by
    by_cases h : x = y
    · subst h
      by_cases h2 : a = x <;> simp [dedup, h2]
    · by_cases h2 : a = x <;> simp [dedup, h, h2]
  | a :: b :: r => by
    have ih := dedup_snoc x y (b :: r)
    have e1 : dedup (a :: b :: r ++ [x, y]) = if a = b then dedup (b :: r ++ [x, y]) else a :: dedup (b :: r ++ [x, y]) := rfl
    have e2 : dedup (a :: b :: r ++ [x]) = if a = b then dedup (b :: r ++ [x]) else a :: dedup (b :: r ++ [x]) := rfl
    rw [e1, e2, ih]
    by_cases h : x = y <;> by_cases h2 : a = b <;> simp [h, h2]
/-- what a sorted list of tuples is without its repetitions: the relation of its members -/
theorem made_rel {s m : Int} (hs : 1 ≤ s) (hs2 : s ≤ 4) (hm : 1 ≤ m) (hm2 : m ≤ 4) {L T : List (List Int)} (hT : ∀ t, t ∈ T ↔ t ∈ L) (hS : SrtW T) (hv : ∀ t ∈ L, vals s t m = true) : (m, dedup T) = SrelOf s m (fun t => decide (t ∈ L)) := by
  refine srel_of hs hs2 hm hm2 (dedup_srt T hS) fun t => ?_
  rw [mem_dedup, hT, decide_eq_true_eq]
  exact ⟨fun h => ⟨hv t h, h⟩, fun h => h.2⟩
end Go.Proofs.YtajkepdfemdagaaGreatDoor
