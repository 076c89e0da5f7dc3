
/- What is so of all lists of values: the program's allLists, with what its function value says of each. -/
import Derived.Test.YtemhmpnnccmlmaaOpAt
import Derived.Test.YtemhmpnnccmlmaaAt
namespace Go.Proofs.Ytemhmpnnccmlmaa
open Go.RowKit
set_option linter.unusedVariables false

/-- a store into an owned row of numbers -/
theorem OI_store {w : World} {v : Value} {l : List Int} {fp : List Nat} (h : OI w v l fp) (k : Nat) (hk : k < l.length) (x : Int) :
    ∃ b cap, v = .slice (some ⟨b, 0, none⟩) l.length cap ∧ (∃ u, w.cell? ⟨b, k, none⟩ = some u) ∧ w.frozen? ⟨b, k, none⟩ = false ∧ b ∈ fp ∧ l.length ≤ cap ∧ cap ≤ 9223372036854775807 ∧ OI (w.setCell ⟨b, k, none⟩ (.int .i64 x)) v (l.set k x) fp := by
  obtain ⟨ho, hfp⟩ := h
  obtain ⟨a, b, cap, rfl, h1, h2, h3, h4, h5, -, -⟩ := own_parts ho
  obtain rfl := h4 (by omega)
  obtain ⟨u, hu⟩ := own_cell ho k hk
  refine ⟨b, cap, rfl, ⟨u, hu⟩, ho.frozenAt k, by rw [hfp]; simp [Value.ownBlock], h2, h3, ?_, hfp⟩
  have := (ho.stored k (.int .i64 x)).1
  rw [← List.map_set] at this
  rw [List.length_set]
  exact this

theorem digs_code (s : Int) (hs : 1 ≤ s) : ∀ (k : Nat) (n : Int), 0 ≤ n → n < s ^ k → code s (digs s k n) = n
  | 0, n, h0, h1 => by simp at h1; simp [digs, code]; omega
  | k + 1, n, h0, h1 => by
    have hq : n / s < s ^ k := Int.ediv_lt_of_lt_mul (by omega) (by rw [← Int.pow_succ]; exact h1)
    have hq0 : 0 ≤ n / s := Int.ediv_nonneg h0 (by omega)
    rw [digs, code_snoc, digs_code s hs k _ hq0 hq, Int.mul_comm]
    exact Int.mul_ediv_add_emod n s

def allL (s m : Int) (g : List Int → Bool) : Bool := (List.range (count s m)).all fun k : Nat => g (digs s m.toNat k)
theorem allL_false {s m : Int} {g : List Int → Bool} {k : Nat} (hk : k < count s m) (h : g (digs s m.toNat k) = false) : allL s m g = false := by
  unfold allL
  rw [List.all_eq_false]
  exact ⟨k, List.mem_range.2 hk, by simp [h]⟩
theorem allL_true {s m : Int} {g : List Int → Bool} (h : ∀ k : Nat, k < count s m → g (digs s m.toNat k) = true) : allL s m g = true := by
  unfold allL
  rw [List.all_eq_true]
  exact fun k hk => h k (List.mem_range.1 hk)

end Go.Proofs.Ytemhmpnnccmlmaa
