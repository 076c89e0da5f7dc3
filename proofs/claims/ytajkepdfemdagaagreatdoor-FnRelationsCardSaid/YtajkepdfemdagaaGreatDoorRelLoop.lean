
/- What the reference's loops over relations lean on: a fresh owned value through a region that draws; sets of tuples told by their numbers. -/
import Derived.Test.YtajkepdfemdagaaGreatDoorRelOf
import Derived.Test.YtajkepdfemdagaaGreatDoorRelEq
namespace Go.Proofs.YtajkepdfemdagaaGreatDoor
open Go.RowKit
set_option linter.unusedVariables false

def SP.ownIb (B : Nat) (l : List Int) : SP := ⟨fun v w => ∃ fp, OI w v l fp ∧ ∀ g ∈ fp, B ≤ g, fun _ _ _ ⟨fp, h, hb⟩ hE => ⟨fp, h.ext hE, hb⟩⟩
theorem rdI_of_spb {w : World} {v : Value} {l : List Int} {B : Nat} (h : ∃ fp, OI w v l fp ∧ ∀ g ∈ fp, B ≤ g) : RdI w v l := let ⟨_, h, _⟩ := h; h.rd
def SP.rowIb (B : Nat) (l : List Int) : SP := ⟨fun v w => ∃ b u fp, v = .slice (some ⟨b, 0, none⟩) 1 1 ∧ w.cell? ⟨b, 0, none⟩ = some u ∧ OI w u l fp ∧ ∀ g ∈ fp, B ≤ g,
  fun _ w _ ⟨b, u, fp, h1, h2, h3, h4⟩ hE => ⟨b, u, fp, h1, Ext.cell hE h2, h3.ext hE, h4⟩⟩
theorem rowIb_new {B : Nat} {l : List Int} {w : World} {x : Value} {e : TypeId} (h : ∃ fp, OI w x l fp ∧ ∀ g ∈ fp, B ≤ g) :
    ∃ b u fp, (Value.slice (some ⟨w.heap.size, 0, none⟩) 1 1) = .slice (some ⟨b, 0, none⟩) 1 1 ∧ (w.alloc (.cells #[x] e)).cell? ⟨b, 0, none⟩ = some u ∧ OI (w.alloc (.cells #[x] e)) u l fp ∧ ∀ g ∈ fp, B ≤ g := by
  obtain ⟨fp, h1, h2⟩ := h
  exact ⟨_, x, fp, rfl, by simp [go_sem], h1.alloc _, h2⟩

theorem Step.rowIb {ops : List Oper} {o : Oper} {ρ : Operand → Value} {w : World} {B : Nat} {l : List Int} {t e : TypeId} {y : Operand} (hg : o.guard = none) (hop : o.op = .buildSlice t 1 #[(0, y)]) (hy : ∃ fp, OI w (ρ y) l fp ∧ ∀ g ∈ fp, B ≤ g)
    (hr : ∀ (a : Option Addr) (n c : Nat) (w : World), (Instr.buildSlice t 1 #[(0, .slice a n c)]).run Tryz.prog w = .ok (.slice (some ⟨w.heap.size, 0, none⟩) 1 1) (w.alloc (.cells #[.slice a n c] e))) :
    Step Tryz.prog ops o ρ w (SP.rowIb B l).R := by
  obtain ⟨fp, h1, h2⟩ := hy
  obtain ⟨a, c, hv⟩ := h1.form
  rw [hv] at h1
  exact Step.buildSlice1 hg hop hv (hr a _ c w) (rowIb_new ⟨fp, h1, h2⟩)

/-- the tuples with the numbers that h says, in order -/
def allC (s m : Int) (h : Nat → Bool) (n : Nat) : List (List Int) := ((List.range n).filter h).map fun k : Nat => digs s m.toNat k
theorem allC_yes {s m : Int} {h : Nat → Bool} {k : Nat} (hk : h k = true) : allC s m h (k + 1) = allC s m h k ++ [digs s m.toNat k] := by simp [allC, List.range_succ, List.filter_append, hk]
theorem allC_no {s m : Int} {h : Nat → Bool} {k : Nat} (hk : h k = false) : allC s m h (k + 1) = allC s m h k := by simp [allC, List.range_succ, List.filter_append, hk]
theorem allC_length (s m : Int) (h : Nat → Bool) (n : Nat) : (allC s m h n).length ≤ n := by
  unfold allC
  rw [List.length_map]
  exact Nat.le_trans (List.length_filter_le _ _) (by simp)
theorem allD_eq (s m : Int) (p : List Int → Bool) (n : Nat) : allD s m p n = allC s m (fun k => p (digs s m.toNat k)) n := by
  unfold allD allC
  rw [List.filter_map]
  rfl
end Go.Proofs.YtajkepdfemdagaaGreatDoor
