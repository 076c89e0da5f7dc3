
/- A relation that a loop gathers: a variable (block C) to which tuples are appended, and the result's own cells (block D). -/
import Derived.Test.YtajkepdfemdagaaGreatDoorRelLoop
import Derived.Test.YtajkepdfemdagaaGreatDoorSteps
namespace Go.Proofs.YtajkepdfemdagaaGreatDoor
open Go.RowKit
set_option linter.unusedVariables false

structure Acc (w wr : World) (D C B : Nat) (m : Int) (L : List (List Int)) (tv : Value) (fp : List Nat) : Prop where
  hE : Ext w wr
  ho : OII wr tv L fp
  hfp : ∀ g ∈ fp, B ≤ g
  hB : B ≤ wr.heap.size
  hC : C < B
  hD : D < C
  hw : w.heap.size ≤ D
  c0 : wr.cell? ⟨C, 0, none⟩ = some (.int .i64 m)
  c1 : wr.cell? ⟨C, 1, none⟩ = some tv
  f1 : wr.frozen? ⟨C, 1, none⟩ = false
  d0 : wr.cell? ⟨D, 0, none⟩ = some (.int .i64 0)
  d1 : wr.cell? ⟨D, 1, none⟩ = some (.slice none 0 0)
  f2 : wr.frozen? ⟨D, 0, none⟩ = false
  f3 : wr.frozen? ⟨D, 1, none⟩ = false

theorem Acc.ext {w wr w' : World} {D C B : Nat} {m : Int} {L : List (List Int)} {tv : Value} {fp : List Nat} (h : Acc w wr D C B m L tv fp) (hE : Ext wr w') : Acc w w' D C B m L tv fp :=
  ⟨h.hE.tr hE, h.ho.ext hE, h.hfp, Nat.le_trans h.hB hE.size, h.hC, h.hD, h.hw, hE.cell h.c0, hE.cell h.c1, (hE.frozen (lt_of_cell h.c1)).trans h.f1, hE.cell h.d0, hE.cell h.d1, (hE.frozen (lt_of_cell h.d0)).trans h.f2, (hE.frozen (lt_of_cell h.d1)).trans h.f3⟩

/-- the cells below B that are not C's are as before -/
def KeepB (B C : Nat) (w w' : World) : Prop := ∀ p v, p.block < B → p.block ≠ C → w.cell? p = some v → w'.cell? p = some v
theorem KeepB.cell {B C : Nat} {w w' : World} (h : KeepB B C w w') {p : Addr} {v : Value} (hc : w.cell? p = some v) (h1 : p.block < B) (h2 : p.block ≠ C) : w'.cell? p = some v := h p v h1 h2 hc

/-- what an append and the store behind it leave -/
theorem Acc.push {w w1 w4 : World} {D C B : Nat} {m : Int} {L : List (List Int)} {tv v' : Value} {fp : List Nat} {x : List Int} {u : Value} {fx : List Nat} {cs : List Value} (h : Acc w w1 D C B m L tv fp)
    (hx : OI w1 u x fx) (hfx : ∀ g ∈ fx, B ≤ g) (hd : ∀ g ∈ fx, g ∉ fp) (hrow : w1.ownsRow 0 37 1 tv L.length cs) (hin : ∀ g, tv.ownBlock = some g → g ∈ fp)
    (hpush : ∀ {w4 : World} {v' : Value} {c : List Value} {x : List Int} {f : List Nat} {base : Nat}, eI w1 c x f → c.length = 1 → (∀ g ∈ f, g ∉ fp) → w4.ownsRow base 37 1 v' (L.length + 1) (cs ++ c) → w1.grownBy w4 tv.ownBlock → (v'.ownBlock = tv.ownBlock ∨ v'.ownBlock = some w1.heap.size) →
      ∃ fp', OII w4 v' (L ++ [x]) fp' ∧ ∀ g ∈ fp', g ∈ fp ∨ g ∈ f ∨ g = w1.heap.size)
    {base : Nat} (ho4 : w4.ownsRow base 37 1 v' (L.length + 1) (cs ++ [u])) (hg4 : w1.grownBy w4 tv.ownBlock) (hat : v'.ownBlock = tv.ownBlock ∨ v'.ownBlock = some w1.heap.size) :
    w4.cell? ⟨C, 1, none⟩ = some tv ∧ w4.frozen? ⟨C, 1, none⟩ = false ∧ KeepB B C w1 (w4.setCell ⟨C, 1, none⟩ v') ∧ ∃ fp', Acc w (w4.setCell ⟨C, 1, none⟩ v') D C B m (L ++ [x]) v' fp' := by
  obtain ⟨fp', hL, hfp'⟩ := hpush ⟨u, rfl, hx⟩ rfl hd ho4 hg4 hat
  have hf4 : ∀ g ∈ fp', B ≤ g := fun g hg => by
    rcases hfp' g hg with h' | h' | h'
    · exact h.hfp g h'
    · exact hfx g h'
    · rw [h']; exact h.hB
  have q1 := h.hC
  have q2 := h.hD
  have q3 := h.hB
  have q4 := h.hw
  have hE4 := h.hE.grown hg4 (by omega) (fun g hg => by have := h.hfp g (hin g hg); omega)
  have n0 : some C ≠ tv.ownBlock := fun hh => by have := h.hfp _ (hin _ hh.symm); omega
  have n1 : some D ≠ tv.ownBlock := fun hh => by have := h.hfp _ (hin _ hh.symm); omega
  have c0 := hg4.cell h.c0 n0
  have c1 := hg4.cell h.c1 n0
  have d0 := hg4.cell h.d0 n1
  have d1 := hg4.cell h.d1 n1
  have f1 : w4.frozen? ⟨C, 1, none⟩ = false := by rw [grown_frozen hg4 (by dsimp only; omega) n0]; exact h.f1
  have f2 : w4.frozen? ⟨D, 0, none⟩ = false := by rw [grown_frozen hg4 (by dsimp only; omega) n1]; exact h.f2
  have f3 : w4.frozen? ⟨D, 1, none⟩ = false := by rw [grown_frozen hg4 (by dsimp only; omega) n1]; exact h.f3
  refine ⟨c1, f1, fun p v h1 h2 hp => cell_set (hg4.cell hp fun hh => by have := h.hfp _ (hin _ hh.symm); omega) (.inl fun hh => h2 hh.symm), fp', ⟨hE4.setCell (by dsimp only; omega) _, ?_, hf4, ?_, h.hC, h.hD, h.hw, cell_set c0 (.inr (by simp)), cell_same c1, by simpa using f1, cell_set d0 (.inl (by dsimp only; omega)), cell_set d1 (.inl (by dsimp only; omega)), by simpa using f2, by simpa using f3⟩⟩
  · exact OII.off hL (Off.set (fp := [C]) (by simp)) fun g hg hm => by have := hf4 g hg; simp at hm; omega
  · have := hg4.size; simp; omega

theorem infoIS' : (Tryz.prog.info? 37).map (fun i => (i.zero, i.size, i.bytes)) = some (some (.slice none 0 0), 1, 24) := by kernel_rfl
/-- the append, one list at its end -/
theorem Acc.append {w w1 : World} {D C B : Nat} {m : Int} {L : List (List Int)} {tv : Value} {fp : List Nat} {x : List Int} {u : Value} {fx : List Nat} {ops : Array Oper} {rest : List Oper} {o : Oper} {a : Act} {Q : Exit → Act → World → Prop}
    (h : Acc w w1 D C B m L tv fp) (hx : OI w1 u x fx) (hfx : ∀ g ∈ fx, B ≤ g) (hd : ∀ g ∈ fx, g ∉ fp) (hlen : L.length ≤ 1048576) {b' : Nat} (cb : w1.cell? ⟨b', 0, none⟩ = some u)
    (hgd : o.guard = none) (s y : Operand) (ho : o.op = .call { callee := .builtin .append, args := #[s, y], argTypes := #[33, 33] }) (hs : a.eval s = tv) (hy : a.eval y = .slice (some ⟨b', 0, none⟩) 1 1)
    (hk : ∀ v' w4 fp', w4.cell? ⟨C, 1, none⟩ = some tv → w4.frozen? ⟨C, 1, none⟩ = false → Acc w (w4.setCell ⟨C, 1, none⟩ v') D C B m (L ++ [x]) v' fp' → KeepB B C w1 (w4.setCell ⟨C, 1, none⟩ v') → (∃ xa xc, v' = .slice xa (L.length + 1) xc) → wpList Tryz.prog ops Q rest (a.put o.dst v') w4) :
    wpList Tryz.prog ops Q (o :: rest) a w1 := by
  obtain ⟨i0, hi, hz0, hz1, hz2⟩ := info_parts infoIS'
  obtain ⟨cs, hrow, hin, hpush⟩ := OwnL.row eI_ok h.ho
  have hrow2 := own_base (base' := B) hrow fun g hg => h.hfp g (hin g hg)
  refine wpList_append_own_at _ hgd s y 33 ho B 37 i0 (.slice none 0 0) 1 24 Tryz.underlying33 hi hz0 hz1 hz2 rfl (by decide) tv _ _ hs hrow2 ⟨b', 0, none⟩ 1 1 [u] hy rfl (cells_one cb) (by obtain ⟨xa, xc, rfl⟩ := hx.form; simp [Value.oneCell']) (by unfold maxLen; omega) (by omega) h.hB ?_
  intro v' w4 ho4 hg4 _ hat
  obtain ⟨k1, k2, kb, fp', k3⟩ := h.push hx hfx hd hrow hin hpush ho4 hg4 hat
  obtain ⟨xa, xc, hxf⟩ := k3.ho.form
  exact hk v' w4 fp' k1 k2 k3 kb ⟨xa, xc, by rw [hxf, List.length_append]; rfl⟩

theorem Acc.done {w wr : World} {D C B : Nat} {m : Int} {L : List (List Int)} {tv : Value} {fp : List Nat} (h : Acc w wr D C B m L tv fp) (x y : Value) :
    Ext w ((wr.setCell ⟨D, 0, none⟩ x).setCell ⟨D, 1, none⟩ y) ∧ OwnRel ((wr.setCell ⟨D, 0, none⟩ x).setCell ⟨D, 1, none⟩ y) (.agg #[.int .i64 m, tv]) (m, L) fp ∧ ∀ g ∈ fp, w.heap.size ≤ g := by
  have q1 := h.hC
  have q2 := h.hD
  have q4 := h.hw
  refine ⟨(h.hE.setCell (by dsimp only; omega) _).setCell (by dsimp only; omega) _, ⟨tv, rfl, OII.off h.ho ((Off.set (fp := [D]) (by simp)).trans (Off.set (by simp))) fun g hg hm => ?_⟩, fun g hg => ?_⟩
  · have := h.hfp g hg; simp at hm; omega
  · have := h.hfp g hg; omega
end Go.Proofs.YtajkepdfemdagaaGreatDoor
