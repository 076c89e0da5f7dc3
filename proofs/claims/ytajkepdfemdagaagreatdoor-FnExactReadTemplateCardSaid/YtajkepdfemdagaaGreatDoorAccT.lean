
/- An operation whose table a loop gathers: a variable (block C) to which numbers are appended, and the result's own cells (block D). -/
import Derived.Test.YtajkepdfemdagaaGreatDoorOpT
import Derived.Test.YtajkepdfemdagaaGreatDoorSteps
namespace Go.Proofs.YtajkepdfemdagaaGreatDoor
open Go.RowKit
set_option linter.unusedVariables false

structure AccT (w wr : World) (D C B : Nat) (m : Int) (l : List Int) (tv : Value) : Prop where
  hE : Ext w wr
  ho : wr.ownsRow B 2 1 tv l.length (l.map (Value.int .i64))
  hB : B ≤ wr.heap.size
  hC : C < B
  hD : D < C
  hw : w.heap.size ≤ D
  c0 : wr.cell? ⟨C, 0, none⟩ = some (.int .i64 m)
  c1 : wr.cell? ⟨C, 1, none⟩ = some tv
  f1 : wr.frozen? ⟨C, 1, none⟩ = false
  d0 : wr.cell? ⟨D, 0, none⟩ = some (.int .i64 0)
  d1 : wr.cell? ⟨D, 1, none⟩ = some (.slice none 0 0)
  f2 : wr.frozen? ⟨D, 0, none⟩ = false
  f3 : wr.frozen? ⟨D, 1, none⟩ = false
theorem AccT.ext {w wr w' : World} {D C B : Nat} {m : Int} {l : List Int} {tv : Value} (h : AccT w wr D C B m l tv) (hE : Ext wr w') : AccT w w' D C B m l tv :=
  ⟨h.hE.tr hE, own_ext h.ho hE, Nat.le_trans h.hB hE.size, h.hC, h.hD, h.hw, hE.cell h.c0, hE.cell h.c1, (hE.frozen (lt_of_cell h.c1)).trans h.f1, hE.cell h.d0, hE.cell h.d1, (hE.frozen (lt_of_cell h.d0)).trans h.f2, (hE.frozen (lt_of_cell h.d1)).trans h.f3⟩
def KeepT (B C : Nat) (w w' : World) : Prop := ∀ p v, p.block < B → p.block ≠ C → w.cell? p = some v → w'.cell? p = some v
theorem KeepT.cell {B C : Nat} {w w' : World} (h : KeepT B C w w') {p : Addr} {v : Value} (hc : w.cell? p = some v) (h1 : p.block < B) (h2 : p.block ≠ C) : w'.cell? p = some v := h p v h1 h2 hc
theorem infoT : (Tryz.prog.info? 2).map (fun i => (i.zero, i.size, i.bytes)) = some (some (.int .i64 0), 1, 8) := by kernel_rfl
theorem AccT.form {w wr : World} {D C B : Nat} {m : Int} {l : List Int} {tv : Value} (h : AccT w wr D C B m l tv) : ∃ a c, tv = .slice a l.length c := by
  obtain ⟨a, b, cap, hv, _⟩ := own_parts h.ho
  exact ⟨a, cap, hv⟩
theorem AccT.append {w w1 : World} {D C B : Nat} {m : Int} {l : List Int} {tv : Value} {x : Int} {ops : Array Oper} {rest : List Oper} {o : Oper} {a : Act} {Q : Exit → Act → World → Prop}
    (h : AccT w w1 D C B m l tv) (hlen : l.length ≤ 1048576) {b' : Nat} (cb : w1.cell? ⟨b', 0, none⟩ = some (.int .i64 x))
    (hgd : o.guard = none) (s y : Operand) (ho : o.op = .call { callee := .builtin .append, args := #[s, y], argTypes := #[37, 37] }) (hs : a.eval s = tv) (hy : a.eval y = .slice (some ⟨b', 0, none⟩) 1 1)
    (hk : ∀ v' w4, w4.cell? ⟨C, 1, none⟩ = some tv → w4.frozen? ⟨C, 1, none⟩ = false → AccT w (w4.setCell ⟨C, 1, none⟩ v') D C B m (l ++ [x]) v' → KeepT B C w1 (w4.setCell ⟨C, 1, none⟩ v') → (∃ xa xc, v' = .slice xa (l.length + 1) xc) → wpList Tryz.prog ops Q rest (a.put o.dst v') w4) :
    wpList Tryz.prog ops Q (o :: rest) a w1 := by
  obtain ⟨i0, hi, hz0, hz1, hz2⟩ := info_parts infoT
  have hown := h.ho
  refine wpList_append_own _ hgd s y 37 ho B 2 i0 (.int .i64 0) 1 8 Tryz.underlying37 hi hz0 hz1 hz2 rfl (by decide) tv _ _ hs hown ⟨b', 0, none⟩ 1 1 [.int .i64 x] hy rfl (cells_one cb) (by simp [Value.oneCell']) (by unfold maxLen; omega) (by omega) h.hB ?_
  intro v' w4 ho4 hg4 _
  have q1 := h.hC
  have q2 := h.hD
  have q3 := h.hB
  have q4 := h.hw
  have hE4 := h.hE.grown hg4 (by omega) (fun g hg => by have := (hown.lt g hg).1; omega)
  have c0 := hg4.cell h.c0 (own_ne hown (by dsimp only; omega))
  have c1 := hg4.cell h.c1 (own_ne hown (by dsimp only; omega))
  have d0 := hg4.cell h.d0 (own_ne hown (by dsimp only; omega))
  have d1 := hg4.cell h.d1 (own_ne hown (by dsimp only; omega))
  have f1 : w4.frozen? ⟨C, 1, none⟩ = false := by rw [grown_frozen hg4 (by dsimp only; omega) (own_ne hown (by dsimp only; omega))]; exact h.f1
  have f2 : w4.frozen? ⟨D, 0, none⟩ = false := by rw [grown_frozen hg4 (by dsimp only; omega) (own_ne hown (by dsimp only; omega))]; exact h.f2
  have f3 : w4.frozen? ⟨D, 1, none⟩ = false := by rw [grown_frozen hg4 (by dsimp only; omega) (own_ne hown (by dsimp only; omega))]; exact h.f3
  obtain ⟨xa, xb, xc, hv, -⟩ := own_parts ho4
  refine hk v' w4 c1 f1 ⟨hE4.setCell (by dsimp only; omega) _, own_set (by rw [List.length_append, List.map_append]; exact ho4) (by dsimp only; omega) _, ?_, h.hC, h.hD, h.hw, cell_set c0 (.inr (by simp)), cell_same c1, by simpa using f1, cell_set d0 (.inl (by dsimp only; omega)), cell_set d1 (.inl (by dsimp only; omega)), by simpa using f2, by simpa using f3⟩ ?_ ⟨xa, xc, hv⟩
  · have := hg4.size; simp; omega
  · exact fun p v h1 h2 hp => cell_set (hg4.cell hp (own_ne hown h1)) (.inl fun hh => h2 hh.symm)
theorem AccT.done {w wr : World} {D C B : Nat} {m : Int} {l : List Int} {tv : Value} (h : AccT w wr D C B m l tv) (x y : Value) :
    ∃ fp, Ext w ((wr.setCell ⟨D, 0, none⟩ x).setCell ⟨D, 1, none⟩ y) ∧ OwnOp ((wr.setCell ⟨D, 0, none⟩ x).setCell ⟨D, 1, none⟩ y) (.agg #[.int .i64 m, tv]) (m, l) fp ∧ ∀ g ∈ fp, w.heap.size ≤ g := by
  have q1 := h.hC
  have q2 := h.hD
  have q4 := h.hw
  have ho := own_set (own_set h.ho (p := ⟨D, 0, none⟩) (by dsimp only; omega) x) (p := ⟨D, 1, none⟩) (by dsimp only; omega) y
  exact ⟨_, (h.hE.setCell (by dsimp only; omega) _).setCell (by dsimp only; omega) _, ⟨tv, rfl, own_base ho (fun _ _ => Nat.zero_le _), rfl⟩, fun g hg => by have := (h.ho.lt g (by simpa using hg)).1; omega⟩
end Go.Proofs.YtajkepdfemdagaaGreatDoor
