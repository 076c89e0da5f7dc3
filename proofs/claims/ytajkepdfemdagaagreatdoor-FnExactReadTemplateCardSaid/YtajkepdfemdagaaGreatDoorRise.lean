
/- Numbers in order, each once: the plain law of the program's rising. -/
import Derived.Test.YtajkepdfemdagaaGreatDoorCanon
import Derived.Lib.SlicesCompact
namespace Go.Proofs.YtajkepdfemdagaaGreatDoor
open Go.RowKit
set_option linter.unusedVariables false

/-- x is one of l -/
def hasI (l : List Int) (x : Int) : Bool := l.any fun a => decide (a = x)
theorem hasI_iff {l : List Int} {x : Int} : hasI l x = true ↔ x ∈ l := by simp [hasI]
theorem hasI_no {l : List Int} {x : Int} : hasI l x = false ↔ x ∉ l := by rw [← Bool.not_eq_true, hasI_iff]
/-- one of so many -/
def anyR (n : Nat) (p : Nat → Bool) : Bool := (List.range n).any p
theorem anyR_yes {n k : Nat} {p : Nat → Bool} (hk : k < n) (h : p k = true) : anyR n p = true := List.any_eq_true.2 ⟨k, List.mem_range.2 hk, h⟩
theorem anyR_no {n : Nat} {p : Nat → Bool} (h : ∀ k, k < n → p k = false) : anyR n p = false := by
  unfold anyR
  rw [List.any_eq_false]
  exact fun k hk => by rw [h k (List.mem_range.1 hk)]; simp

def sortI (l : List Int) : List Int := l.mergeSort fun x y => decide (x ≤ y)
theorem sortI_perm (l : List Int) : (sortI l).Perm l := List.mergeSort_perm _ _
theorem sortI_length (l : List Int) : (sortI l).length = l.length := (sortI_perm l).length_eq
theorem sortI_le (l : List Int) : (sortI l).Pairwise (· ≤ ·) := by
  have h := List.pairwise_mergeSort (le := fun x y : Int => decide (x ≤ y)) (fun a b c h1 h2 => by simp only [decide_eq_true_eq] at *; exact Int.le_trans h1 h2)
    (fun a b => by simp only [Bool.or_eq_true, decide_eq_true_eq]; exact Int.le_total a b) l
  exact h.imp fun h => by simpa using h
theorem sortI_congr {l l' : List Int} (h : l.Perm l') : sortI l = sortI l' :=
  List.Perm.eq_of_pairwise (le := fun a b : Int => a ≤ b) (fun a b _ _ h1 h2 => Int.le_antisymm h1 h2) (sortI_le l) (sortI_le l') (((sortI_perm l).trans h).trans (sortI_perm l').symm)

/-- strictly rising lists of the same members are alike -/
theorem lt_ext : ∀ {A B : List Int}, A.Pairwise (· < ·) → B.Pairwise (· < ·) → (∀ t, t ∈ A ↔ t ∈ B) → A = B
  | [], [], _, _, _ => rfl
  | [], b :: B, _, _, h => absurd ((h b).2 (List.mem_cons_self ..)) (by simp)
  | a :: A, [], _, _, h => absurd ((h a).1 (List.mem_cons_self ..)) (by simp)
  | a :: A, b :: B, hA, hB, h => by
    obtain ⟨ha, hA'⟩ := List.pairwise_cons.1 hA
    obtain ⟨hb, hB'⟩ := List.pairwise_cons.1 hB
    have hab : a = b := by
      rcases List.mem_cons.1 ((h a).1 (List.mem_cons_self ..)) with e | m
      · exact e
      · rcases List.mem_cons.1 ((h b).2 (List.mem_cons_self ..)) with e | m'
        · exact e.symm
        · have := hb a m; have := ha b m'; omega
    subst hab
    rw [lt_ext hA' hB' fun t => ⟨fun ht => ?_, fun ht => ?_⟩]
    · rcases List.mem_cons.1 ((h t).1 (List.mem_cons_of_mem _ ht)) with e | m
      · have := ha t ht; omega
      · exact m
    · rcases List.mem_cons.1 ((h t).2 (List.mem_cons_of_mem _ ht)) with e | m
      · have := hb t ht; omega
      · exact m

theorem mem_compact (zs : List Int) (x : Int) : x ∈ Lib.compact zs ↔ x ∈ zs := by
  constructor
  · intro h
    unfold Lib.compact Lib.compactUpTo at h
    obtain ⟨i, hi, rfl⟩ := List.mem_map.1 h
    have hi' : i < zs.length := List.mem_range.1 (List.mem_filter.1 hi).1
    simp [getElem!_pos, hi']
  · intro h
    obtain ⟨j, hj, rfl⟩ := List.getElem_of_mem h
    clear h
    have main : ∀ j (hj : j < zs.length), zs[j] ∈ Lib.compact zs := by
      intro j
      induction j with
      | zero =>
        intro hj
        refine List.mem_map.2 ⟨0, List.mem_filter.2 ⟨List.mem_range.2 hj, by simp [Lib.keeps]⟩, by simp [getElem!_pos, hj]⟩
      | succ j ih =>
        intro hj
        by_cases he : zs[j + 1] = zs[j]
        · rw [he]; exact ih (by omega)
        · refine List.mem_map.2 ⟨j + 1, List.mem_filter.2 ⟨List.mem_range.2 hj, ?_⟩, by simp [getElem!_pos, hj]⟩
          have h2 : j < zs.length := by omega
          simp [Lib.keeps, hj, h2, he]
    exact main j hj
theorem compact_lt {zs : List Int} (h : zs.Pairwise (· ≤ ·)) : (Lib.compact zs).Pairwise (· < ·) := by
  have hle := List.pairwise_iff_getElem.1 h
  unfold Lib.compact Lib.compactUpTo
  refine List.pairwise_map.2 ?_
  have hr : (List.range zs.length).Pairwise (· < ·) := List.pairwise_lt_range
  refine (List.Pairwise.filter (Lib.keeps zs.toArray) hr).imp_of_mem ?_
  intro i j hi hj hij
  have hi' : i < zs.length := List.mem_range.1 (List.mem_filter.1 hi).1
  have hj' : j < zs.length := List.mem_range.1 (List.mem_filter.1 hj).1
  have hk := (List.mem_filter.1 hj).2
  have hj2 : j - 1 < zs.length := by omega
  simp only [Lib.keeps, decide_eq_true_eq] at hk
  rcases hk with h0 | hne
  · omega
  · simp [hj', hj2] at hne
    simp [hi', hj']
    have h1 : zs[i] ≤ zs[j - 1] := by
      by_cases e : i = j - 1
      · subst e; exact Int.le_refl _
      · exact hle i (j - 1) hi' hj2 (by omega)
    have h2 := hle (j - 1) j hj2 hj' (by omega)
    omega

/-- the members of a list in order, each once -/
def riseL (l : List Int) : List Int := Lib.compact (sortI l)
theorem riseL_lt (l : List Int) : (riseL l).Pairwise (· < ·) := compact_lt (sortI_le l)
theorem mem_riseL (l : List Int) (x : Int) : x ∈ riseL l ↔ x ∈ l := by unfold riseL; rw [mem_compact, (sortI_perm l).mem_iff]
theorem riseL_length (l : List Int) : (riseL l).length ≤ l.length := by
  unfold riseL Lib.compact Lib.compactUpTo
  rw [List.length_map, ← sortI_length l]
  exact Nat.le_trans (List.length_filter_le _ _) (by simp)
theorem riseL_ext {l A : List Int} (hA : A.Pairwise (· < ·)) (h : ∀ t, t ∈ A ↔ t ∈ l) : riseL l = A := lt_ext (riseL_lt l) hA fun t => (mem_riseL l t).trans (h t).symm
/-- one member alone -/
theorem riseL_one {l : List Int} {a : Int} (hl : a ∈ l) : (riseL l).length = 1 ↔ ∀ x ∈ l, x = a := by
  constructor
  · intro h x hx
    obtain ⟨b, hb⟩ := List.length_eq_one_iff.1 h
    have h1 := (mem_riseL l a).2 hl
    have h2 := (mem_riseL l x).2 hx
    rw [hb] at h1 h2
    simp at h1 h2
    omega
  · intro h
    have : riseL l = [a] := riseL_ext (by simp) fun t => by
      simp
      exact ⟨fun e => e ▸ hl, fun ht => h t ht⟩
    rw [this]; rfl
end Go.Proofs.YtajkepdfemdagaaGreatDoor
