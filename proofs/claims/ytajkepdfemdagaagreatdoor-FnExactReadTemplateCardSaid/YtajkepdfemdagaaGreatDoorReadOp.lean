
/- ReadOp: the program's and the reference's read one operation. -/
import Derived.Test.YtajkepdfemdagaaGreatDoorReadOpL
import Derived.Test.YtajkepdfemdagaaGreatDoorBox
import Derived.Test.YtajkepdfemdagaaGreatDoorRelLoop
import Derived.Test.YtajkepdfemdagaaGreatDoorAccT
namespace Go.Proofs.YtajkepdfemdagaaGreatDoor
open Go.RowKit
set_option linter.unusedVariables false

theorem cells_of {w : World} {v : Value} {xs : List ByteArray} (h : RdS w v xs) : ∃ b off cap, v = .slice (some ⟨b, off, none⟩) xs.length cap ∧ (∀ (h : 0 < xs.length), w.cell? ⟨b, off, none⟩ = some (.string xs[0])) ∧ (∀ (h : 1 < xs.length), w.cell? ⟨b, off + 1, none⟩ = some (.string xs[1])) ∧ (∀ (h : 2 < xs.length), w.cell? ⟨b, off + 2, none⟩ = some (.string xs[2])) := by
  obtain ⟨b, off, cap, h1, _, _, h4⟩ := h
  exact ⟨b, off, cap, h1, fun h => h4 0 h, fun h => h4 1 h, fun h => h4 2 h⟩

theorem anyOp_64 {f : Int × List Int} (h : SAnyOp f = true) : f.2.length ≤ 64 := by
  unfold SAnyOp at h
  rw [List.any_eq_true] at h
  obtain ⟨k, hk, h⟩ := h
  have hk4 := List.mem_range.1 hk
  unfold SValidOp at h
  rw [Bool.and_eq_true, Bool.and_eq_true] at h
  obtain ⟨_, h2, h3⟩ := h
  have h2 := inB_iff.1 h2
  obtain ⟨h4, _⟩ := vals_iff.1 h3
  have hp : powW ((k : Int) + 1) f.1.toNat ≤ 64 := by
    have hm : f.1 = 1 ∨ f.1 = 2 ∨ f.1 = 3 := by omega
    have hk5 : k = 0 ∨ k = 1 ∨ k = 2 ∨ k = 3 := by omega
    rcases hm with h | h | h <;> rw [h] <;> rcases hk5 with rfl | rfl | rfl | rfl <;> decide +kernel
  omega
theorem rdg_len (s : ByteArray) : (rdg s).length ≤ s.size := by
  unfold rdg
  split
  · rw [List.length_map, Lib.size_eq]
    exact Nat.le_refl _
  · simp
/-- the bytes of a text less 48 -/
def subK (s : ByteArray) (k : Nat) : List Int := (s.data.toList.take k).map fun b => (b.toNat : Int) - 48
theorem subK_succ {s : ByteArray} {k : Nat} (hk : k < s.size) : subK s (k + 1) = subK s k ++ [((s[k].toNat : Nat) : Int) - 48] := by
  unfold subK
  have hkd : k < s.data.toList.length := by rw [← Lib.size_eq]; exact hk
  rw [List.take_succ_eq_append_getElem hkd, List.map_append]
  rfl
theorem subK_length {s : ByteArray} {k : Nat} (hk : k ≤ s.size) : (subK s k).length = k := by
  unfold subK
  rw [List.length_map, List.length_take, ← Lib.size_eq]
  omega
theorem subK_all (s : ByteArray) : subK s s.size = s.data.toList.map fun b => (b.toNat : Int) - 48 := by
  unfold subK
  rw [List.take_of_length_le (by rw [← Lib.size_eq]; exact Nat.le_refl _)]
end Go.Proofs.YtajkepdfemdagaaGreatDoor
