
/- Whether a relation has a tuple; the relations that are parts of others. -/
import Derived.Test.YtajkepdfemdagaaDoorValidR
import Derived.Test.YtajkepdfemdagaaDoorRelEq
namespace Go.Proofs.YtajkepdfemdagaaDoor
open Go.RowKit
set_option linter.unusedVariables false

/-! ### the order of lists -/
theorem cmpL_self : ∀ a, cmpL a a = 0
  | [] => rfl
  | a :: xs => by rw [cmpL, if_pos rfl, cmpL_self xs]
theorem cmpL_zero : ∀ a b, cmpL a b = 0 → a = b
  | [], [], _ => rfl
  | [], b :: ys, h => by simp [cmpL] at h
  | a :: xs, [], h => by simp [cmpL] at h
  | a :: xs, b :: ys, h => by
    rw [cmpL] at h
    by_cases hab : a = b
    · rw [if_pos hab] at h
      rw [hab, cmpL_zero xs ys h]
    · rw [if_neg hab] at h
      unfold cmpI at h
      split at h
      · omega
      · split at h
        · omega
        · omega
theorem cmpL_trans : ∀ a b c, cmpL a b < 0 → cmpL b c < 0 → cmpL a c < 0
  | [], [], _, h, _ => by simp [cmpL] at h
  | [], b :: ys, [], _, h => by simp [cmpL] at h
  | [], b :: ys, c :: zs, _, _ => by simp [cmpL]
  | a :: xs, [], _, h, _ => by simp [cmpL] at h
  | a :: xs, b :: ys, [], _, h => by simp [cmpL] at h
  | a :: xs, b :: ys, c :: zs, h1, h2 => by
    rw [cmpL] at h1 h2 ⊢
    by_cases hab : a = b
    · rw [if_pos hab] at h1
      subst hab
      by_cases hbc : a = c
      · rw [if_pos hbc] at h2 ⊢
        exact cmpL_trans xs ys zs h1 h2
      · rw [if_neg hbc] at h2 ⊢
        exact h2
    · rw [if_neg hab] at h1
      have k1 : a < b := by
        unfold cmpI at h1
        split at h1
        · assumption
        · split at h1 <;> omega
      have k2 : b ≤ c := by
        by_cases hbc : b = c
        · omega
        · rw [if_neg hbc] at h2
          unfold cmpI at h2
          split at h2
          · omega
          · split at h2 <;> omega
      rw [if_neg (by omega)]
      unfold cmpI
      rw [if_pos (by omega)]
      omega
theorem cmpL_flip : ∀ a b, 0 < cmpL a b → cmpL b a < 0
  | [], [], h => by simp [cmpL] at h
  | [], b :: ys, h => by simp [cmpL] at h
  | a :: xs, [], _ => by simp [cmpL]
  | a :: xs, b :: ys, h => by
    rw [cmpL] at h ⊢
    by_cases hab : a = b
    · rw [if_pos hab] at h
      rw [if_pos hab.symm]
      exact cmpL_flip xs ys h
    · rw [if_neg hab] at h
      rw [if_neg fun hh => hab hh.symm]
      unfold cmpI at h ⊢
      split at h
      · omega
      · split at h
        · rename_i h1 h2; rw [if_pos h2]; omega
        · omega

/-- the tuples of a valid relation go up -/
theorem valid_up {s : Int} {r : Int × List (List Int)} (hv : SValidRel s r = true) : ∀ i j (hi : i < r.2.length) (hj : j < r.2.length), i < j → cmpL r.2[i] r.2[j] < 0 := by
  have hall : ∀ k, k < r.2.length → okT s r.1 r.2 k = true := by
    unfold SValidRel at hv
    rw [Bool.and_eq_true, List.all_eq_true] at hv
    exact fun k hk => hv.2 k (List.mem_range.2 hk)
  intro i j hi hj hij
  induction j with
  | zero => omega
  | succ j ih =>
    have h1 := hall (j + 1) hj
    rw [okT_succ hj, Bool.and_eq_true] at h1
    have h2 : cmpL r.2[j] r.2[j + 1] < 0 := by
      have := h1.2
      unfold before at this
      simpa using this
    rcases Nat.lt_or_ge i j with h | h
    · exact cmpL_trans _ _ _ (ih (by omega) h) h2
    · have : i = j := by omega
      subst this
      exact h2
theorem valid_parts {s : Int} {r : Int × List (List Int)} (hv : SValidRel s r = true) : (1 ≤ s ∧ s ≤ 4) ∧ (1 ≤ r.1 ∧ r.1 ≤ 4) ∧ ∀ t ∈ r.2, vals s t r.1 = true := by
  unfold SValidRel at hv
  rw [Bool.and_eq_true, Bool.and_eq_true, inB_iff, inB_iff, List.all_eq_true] at hv
  refine ⟨hv.1.1, hv.1.2, fun t ht => ?_⟩
  obtain ⟨k, hk, rfl⟩ := List.getElem_of_mem ht
  exact okT_vals hk (hv.2 k (List.mem_range.2 hk))

def hasT (r : Int × List (List Int)) (t : List Int) : Bool := decide (t ∈ r.2)
def SHasTuple (s : Int) (r : Int × List (List Int)) (t : List Int) : Bool × Int := if SValidRel s r then (hasT r t, 0) else (false, 1)
def twoFault (s : Int) (r q : Int × List (List Int)) : Int := if SValidRel s r && SValidRel s q then if r.1 = q.1 then 0 else 2 else 1
def partOf (r q : Int × List (List Int)) : Bool := r.2.all fun t => hasT q t
def SIsPartOf (s : Int) (r q : Int × List (List Int)) : Bool × Int := if twoFault s r q = 0 then (partOf r q, 0) else (false, twoFault s r q)




end Go.Proofs.YtajkepdfemdagaaDoor
