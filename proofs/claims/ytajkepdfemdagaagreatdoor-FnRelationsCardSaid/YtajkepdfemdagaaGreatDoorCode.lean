
/- The number of a list, as the program and the reference reckon it. -/
import Derived.Test.YtajkepdfemdagaaGreatDoorDigs
namespace Go.Proofs.YtajkepdfemdagaaGreatDoor
open Go.RowKit
set_option linter.unusedVariables false

theorem vals_iff {s m : Int} {t : List Int} : vals s t m = true ↔ (t.length : Int) = m ∧ ∀ a ∈ t, 0 ≤ a ∧ a < s := by
  unfold vals
  rw [Bool.and_eq_true, decide_eq_true_eq, List.all_eq_true]
  constructor
  · rintro ⟨h1, h2⟩
    exact ⟨h1, fun a ha => by have := inB_iff.1 (h2 a ha); omega⟩
  · rintro ⟨h1, h2⟩
    exact ⟨h1, fun a ha => inB_iff.2 (by have := h2 a ha; omega)⟩
theorem code_nil (s : Int) : code s [] = 0 := rfl
theorem code_take (s : Int) (l : List Int) (k : Nat) (hk : k < l.length) : code s (l.take (k + 1)) = code s (l.take k) * s + l[k] := by
  rw [List.take_succ_eq_append_getElem hk, code_snoc]
theorem code_bd (s : Int) (l : List Int) (hs : 0 ≤ s) (hv : ∀ a ∈ l, 0 ≤ a ∧ a < s) : ∀ k, k ≤ l.length → 0 ≤ code s (l.take k) ∧ code s (l.take k) < s ^ k
  | 0, _ => by simp [code]
  | k + 1, hk => by
    obtain ⟨h1, h2⟩ := code_bd s l hs hv k (by omega)
    have ha := hv l[k] (List.getElem_mem _)
    rw [code_take s l k (by omega)]
    have h3 : 0 ≤ code s (l.take k) * s := Int.mul_nonneg h1 hs
    have h4 : (code s (l.take k) + 1) * s ≤ s ^ k * s := Int.mul_le_mul_of_nonneg_right (by omega) hs
    rw [Int.add_mul, Int.one_mul] at h4
    rw [Int.pow_succ]
    omega
theorem pow_bd (s : Int) (hs : 0 ≤ s) (hs2 : s ≤ 256) : ∀ k : Nat, 0 ≤ s ^ k ∧ s ^ k ≤ 256 ^ k
  | 0 => by simp
  | k + 1 => by
    obtain ⟨h1, h2⟩ := pow_bd s hs hs2 k
    rw [Int.pow_succ, Int.pow_succ]
    have h3 : s ^ k * s ≤ 256 ^ k * 256 := Int.mul_le_mul h2 hs2 hs (by omega)
    exact ⟨Int.mul_nonneg h1 hs, h3⟩
theorem code_small (s : Int) (l : List Int) (hs : 0 ≤ s) (hs2 : s ≤ 256) (hl : l.length ≤ 4) (hv : ∀ a ∈ l, 0 ≤ a ∧ a < s) (k : Nat) (hk : k ≤ l.length) : 0 ≤ code s (l.take k) ∧ code s (l.take k) ≤ 4294967296 := by
  have h1 := code_bd s l hs hv k hk
  have h2 := (pow_bd s hs hs2 k).2
  have h3 : k = 0 ∨ k = 1 ∨ k = 2 ∨ k = 3 ∨ k = 4 := by omega
  have h4 : (256 : Int) ^ k ≤ 4294967296 := by rcases h3 with rfl | rfl | rfl | rfl | rfl <;> decide
  exact ⟨h1.1, Int.le_of_lt (Int.lt_of_lt_of_le h1.2 (Int.le_trans h2 h4))⟩
theorem code_mul (s : Int) (l : List Int) (hs : 0 ≤ s) (hs2 : s ≤ 256) (hl : l.length ≤ 4) (hv : ∀ a ∈ l, 0 ≤ a ∧ a < s) (k : Nat) (hk : k ≤ l.length) : 0 ≤ code s (l.take k) * s ∧ code s (l.take k) * s ≤ 4294967296 * 256 := by
  have h1 := code_small s l hs hs2 hl hv k hk
  exact ⟨Int.mul_nonneg h1.1 hs, Int.mul_le_mul h1.2 hs2 hs (by omega)⟩

end Go.Proofs.YtajkepdfemdagaaGreatDoor
