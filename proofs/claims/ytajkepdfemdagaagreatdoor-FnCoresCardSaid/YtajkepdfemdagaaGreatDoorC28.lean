/- A relation appended to an owned list of relations. An accumulating template: a number and an owned list of relations. -/
import Derived.Test.YtajkepdfemdagaaGreatDoorC22
import Derived.Test.YtajkepdfemdagaaGreatDoorC07
import Derived.Test.YtajkepdfemdagaaGreatDoorC08
namespace Go.Proofs.YtajkepdfemdagaaGreatDoor
open Go.RowKit
set_option linter.unusedVariables false

/-- the blocks of an owned list of lists, each named once -/
theorem OII.canon {w : World} {v : Value} {ll : List (List Int)} {fp : List Nat} (h : OII w v ll fp) : ∃ fq, OII w v ll fq ∧ fq.Nodup ∧ ∀ g, g ∈ fq ↔ g ∈ fp := by
  obtain ⟨zs, h1, h2, h3, h4, h5⟩ := h
  exact ⟨_, ⟨zs, h1, h2, fun _ => Iff.rfl, h4, h5⟩, h4, fun g => (h3 g).symm⟩
theorem cells_two {w : World} {b : Nat} {x y : Value} (h : w.cell? ⟨b, 0, none⟩ = some x) (h1 : w.cell? ⟨b, 1, none⟩ = some y) : ∀ (j : Nat) u, ([x, y] : List Value)[j]? = some u → w.cell? ((⟨b, 0, none⟩ : Addr).add j) = some u := by
  intro j u hj
  match j, hj with
  | 0, hj =>
    simp at hj
    subst hj
    simpa [Addr.add] using h
  | 1, hj =>
    simp at hj
    subst hj
    simpa [Addr.add] using h1
theorem OwnRelS.app {w1 : World} {B : Nat} {L : List (Int × List (List Int))} {tv : Value} {fp : List Nat} {r : Int × List (List Int)} {u : Value} {fx : List Nat} {ops : Array Oper} {rest : List Oper} {o : Oper} {a : Act} {Q : Exit → Act → World → Prop}
    (h : OwnRelS w1 tv L fp) (hfp : ∀ g ∈ fp, B ≤ g) (hB : B ≤ w1.heap.size) (hx : OII w1 u r.2 fx) (hfx : ∀ g ∈ fx, B ≤ g) (hd : ∀ g ∈ fx, g ∉ fp) (hlen : L.length ≤ 1048576) {b' : Nat} (cb : w1.cell? ⟨b', 0, none⟩ = some (.int .i64 r.1)) (cb1 : w1.cell? ⟨b', 1, none⟩ = some u)
    (hgd : o.guard = none) (s y : Operand) (ho : o.op = .call { callee := .builtin .append, args := #[s, y], argTypes := #[22, 22] }) (hs : a.eval s = tv) (hy : a.eval y = .slice (some ⟨b', 0, none⟩) 1 1)
    (hk : ∀ v' w4 fp', OwnRelS w4 v' (L ++ [r]) fp' → (∀ g ∈ fp', B ≤ g) → w1.grownBy w4 tv.ownBlock → (∀ g, tv.ownBlock = some g → B ≤ g) → (∀ w0, Ext w0 w1 → w0.heap.size ≤ B → Ext w0 w4) → wpList Tryz.prog ops Q rest (a.put o.dst v') w4) :
    wpList Tryz.prog ops Q (o :: rest) a w1 := by
  obtain ⟨fq, hx, hnd, hq⟩ := hx.canon
  replace hfx : ∀ g ∈ fq, B ≤ g := fun g hg => hfx g ((hq g).1 hg)
  replace hd : ∀ g ∈ fq, g ∉ fp := fun g hg => hd g ((hq g).1 hg)
  obtain ⟨i0, hi, hz0, hz1, hz2⟩ := info_parts infoRel
  obtain ⟨cs, hrow, hin, hpush⟩ := OwnL.row eRel_ok h
  have hrow2 := own_base (base' := B) hrow fun g hg => hfp g (hin g hg)
  refine wpList_append_own_at _ hgd s y 22 ho B 35 i0 (.agg #[.int .i64 0, .slice none 0 0]) 2 32 Tryz.underlying22 hi hz0 hz1 hz2 rfl (by decide) tv _ _ hs hrow2 ⟨b', 0, none⟩ 1 1 [.int .i64 r.1, u] hy rfl (cells_two cb cb1) (by obtain ⟨xa, xc, rfl⟩ := hx.form; simp [Value.oneCell']) (by unfold maxLen; omega) (by omega) hB ?_
  intro v' w4 ho4 hg4 _ hat
  obtain ⟨fp', hL, hfp'⟩ := hpush ⟨u, rfl, hx, hnd⟩ rfl hd ho4 hg4 hat
  refine hk v' w4 fp' hL (fun g hg => ?_) hg4 (fun g hg => hfp g (hin g hg)) fun w0 hE0 hw0 => hE0.grown hg4 (by omega) (fun g hg => Nat.le_trans hw0 (hfp g (hin g hg)))
  rcases hfp' g hg with h' | h' | h'
  · exact hfp g h'
  · exact hfx g h'
  · rw [h']; exact hB
def SP.relF (B : Nat) (r : Int × List (List Int)) : SP := ⟨fun v w => ∃ fp, OwnRel w v r fp ∧ ∀ g ∈ fp, B ≤ g, fun _ _ _ ⟨fp, h1, h2⟩ hE => ⟨fp, h1.ext hE, h2⟩⟩
def SP.rowRelF (B : Nat) (r : Int × List (List Int)) : SP := ⟨fun v w => ∃ b u fp, v = .slice (some ⟨b, 0, none⟩) 1 1 ∧ w.cell? ⟨b, 0, none⟩ = some (.int .i64 r.1) ∧ w.cell? ⟨b, 1, none⟩ = some u ∧ OII w u r.2 fp ∧ ∀ g ∈ fp, B ≤ g,
  fun _ w _ ⟨b, u, fp, h1, h2, h3, h4, h5⟩ hE => ⟨b, u, fp, h1, Ext.cell hE h2, Ext.cell hE h3, h4.ext hE, h5⟩⟩
theorem Step.rowRelF {ops : List Oper} {o : Oper} {ρ : Operand → Value} {w : World} {B : Nat} {r : Int × List (List Int)} {t e : TypeId} {y : Operand} (hg : o.guard = none) (hop : o.op = .buildSlice t 1 #[(0, y)]) (hy : ∃ fp, OwnRel w (ρ y) r fp ∧ ∀ g ∈ fp, B ≤ g)
    (hr : ∀ (n : Int) (a : Option Addr) (l c : Nat) (w : World), (Instr.buildSlice t 1 #[(0, .agg #[.int .i64 n, .slice a l c])]).run Tryz.prog w = .ok (.slice (some ⟨w.heap.size, 0, none⟩) 1 1) (w.alloc (.cells #[.int .i64 n, .slice a l c] e))) :
    Step Tryz.prog ops o ρ w (SP.rowRelF B r).R := by
  obtain ⟨fp, ⟨tv, h0, h1⟩, h2⟩ := hy
  obtain ⟨a, c, rfl⟩ := h1.form
  obtain ⟨dst, op, type, pos, after, guard⟩ := o
  subst hop
  have hE : Ext w (w.alloc (.cells #[.int .i64 r.1, .slice a r.2.length c] e)) := (Ext.refl' w).alloc (Nat.le_refl _) _
  refine Step.run hg (w' := w.alloc (.cells #[.int .i64 r.1, .slice a r.2.length c] e)) (v := .slice (some ⟨w.heap.size, 0, none⟩) 1 1) ?_ hE ⟨_, _, fp, rfl, by simp [go_sem], by simp [go_sem], h1.ext hE, h2⟩
  have hrr := hr r.1 a r.2.length c w
  simp [execOp, h0, hrr]
end Go.Proofs.YtajkepdfemdagaaGreatDoor
namespace Go.Proofs.YtajkepdfemdagaaGreatDoor
open Go.RowKit
set_option linter.unusedVariables false

structure AccR (w wr : World) (C B : Nat) (m : Int) (L : List (Int × List (List Int))) (tv : Value) (fp : List Nat) : Prop where
  hE : Ext w wr
  ho : OwnRelS wr tv L fp
  hfp : ∀ g ∈ fp, B ≤ g
  hB : B ≤ wr.heap.size
  hC : C < B
  hw : w.heap.size ≤ C
  c0 : wr.cell? ⟨C, 0, none⟩ = some (.int .i64 m)
  c1 : wr.cell? ⟨C, 1, none⟩ = some tv
  f1 : wr.frozen? ⟨C, 1, none⟩ = false
theorem AccR.ext {w wr w' : World} {C B : Nat} {m : Int} {L : List (Int × List (List Int))} {tv : Value} {fp : List Nat} (h : AccR w wr C B m L tv fp) (hE : Ext wr w') : AccR w w' C B m L tv fp :=
  ⟨h.hE.tr hE, h.ho.ext hE, h.hfp, Nat.le_trans h.hB hE.size, h.hC, h.hw, hE.cell h.c0, hE.cell h.c1, (hE.frozen (lt_of_cell h.c1)).trans h.f1⟩
theorem AccR.append {w w1 : World} {C B : Nat} {m : Int} {L : List (Int × List (List Int))} {tv : Value} {fp : List Nat} {r : Int × List (List Int)} {u : Value} {fx : List Nat} {ops : Array Oper} {rest : List Oper} {o : Oper} {a : Act} {Q : Exit → Act → World → Prop}
    (h : AccR w w1 C B m L tv fp) (hx : OII w1 u r.2 fx) (hfx : ∀ g ∈ fx, B ≤ g) (hd : ∀ g ∈ fx, g ∉ fp) (hlen : L.length ≤ 1048576) {b' : Nat} (cb : w1.cell? ⟨b', 0, none⟩ = some (.int .i64 r.1)) (cb1 : w1.cell? ⟨b', 1, none⟩ = some u)
    (hgd : o.guard = none) (s y : Operand) (ho : o.op = .call { callee := .builtin .append, args := #[s, y], argTypes := #[22, 22] }) (hs : a.eval s = tv) (hy : a.eval y = .slice (some ⟨b', 0, none⟩) 1 1)
    (hk : ∀ v' w4 fp', w4.cell? ⟨C, 1, none⟩ = some tv → w4.frozen? ⟨C, 1, none⟩ = false → AccR w (w4.setCell ⟨C, 1, none⟩ v') C B m (L ++ [r]) v' fp' → (∃ xa xc, v' = .slice xa (L.length + 1) xc) → wpList Tryz.prog ops Q rest (a.put o.dst v') w4) :
    wpList Tryz.prog ops Q (o :: rest) a w1 := by
  refine OwnRelS.app h.ho h.hfp h.hB hx hfx hd hlen cb cb1 hgd s y ho hs hy ?_
  intro v' w4 fp' k1 k2 k3 k4 k5
  have q1 := h.hC
  have q2 := h.hw
  have q3 := h.hB
  have q4 := k3.size
  have n0 : some C ≠ tv.ownBlock := fun hh => by have := k4 _ hh.symm; omega
  have c0 := k3.cell h.c0 n0
  have c1 := k3.cell h.c1 n0
  have f1 : w4.frozen? ⟨C, 1, none⟩ = false := by rw [grown_frozen k3 (by dsimp only; omega) n0]; exact h.f1
  obtain ⟨xa, xc, hxf⟩ := k1.form
  refine hk v' w4 fp' c1 f1 ⟨(k5 w h.hE (by omega)).setCell (by dsimp only; omega) _, ?_, k2, by simp; omega, q1, q2, cell_set c0 (.inr (by simp)), cell_same c1, by simpa using f1⟩ ⟨xa, xc, by rw [hxf, List.length_append]; rfl⟩
  exact OwnRelS.off k1 (Off.set (fp := [C]) (by simp)) fun g hg hm => by have := k2 g hg; simp at hm; omega

/-- an accumulating relation: a number and an owned list of tuples -/
structure AccL (w wr : World) (C B : Nat) (m : Int) (L : List (List Int)) (tv : Value) (fp : List Nat) : Prop where
  hE : Ext w wr
  ho : OII wr tv L fp
  hfp : ∀ g ∈ fp, B ≤ g
  hB : B ≤ wr.heap.size
  hC : C < B
  hw : w.heap.size ≤ C
  c0 : wr.cell? ⟨C, 0, none⟩ = some (.int .i64 m)
  c1 : wr.cell? ⟨C, 1, none⟩ = some tv
  f1 : wr.frozen? ⟨C, 1, none⟩ = false
theorem AccL.ext {w wr w' : World} {C B : Nat} {m : Int} {L : List (List Int)} {tv : Value} {fp : List Nat} (h : AccL w wr C B m L tv fp) (hE : Ext wr w') : AccL w w' C B m L tv fp :=
  ⟨h.hE.tr hE, h.ho.ext hE, h.hfp, Nat.le_trans h.hB hE.size, h.hC, h.hw, hE.cell h.c0, hE.cell h.c1, (hE.frozen (lt_of_cell h.c1)).trans h.f1⟩
theorem AccL.append {w w1 : World} {C B : Nat} {m : Int} {L : List (List Int)} {tv : Value} {fp : List Nat} {x : List Int} {u : Value} {fx : List Nat} {ops : Array Oper} {rest : List Oper} {o : Oper} {a : Act} {Q : Exit → Act → World → Prop}
    (h : AccL w w1 C B m L tv fp) (hx : OI w1 u x fx) (hfx : ∀ g ∈ fx, B ≤ g) (hd : ∀ g ∈ fx, g ∉ fp) (hlen : L.length ≤ 1048576) {b' : Nat} (cb : w1.cell? ⟨b', 0, none⟩ = some u)
    (hgd : o.guard = none) (s y : Operand) (ho : o.op = .call { callee := .builtin .append, args := #[s, y], argTypes := #[33, 33] }) (hs : a.eval s = tv) (hy : a.eval y = .slice (some ⟨b', 0, none⟩) 1 1)
    (hk : ∀ v' w4 fp', w4.cell? ⟨C, 1, none⟩ = some tv → w4.frozen? ⟨C, 1, none⟩ = false → AccL w (w4.setCell ⟨C, 1, none⟩ v') C B m (L ++ [x]) v' fp' → (∃ xa xc, v' = .slice xa (L.length + 1) xc) → wpList Tryz.prog ops Q rest (a.put o.dst v') w4) :
    wpList Tryz.prog ops Q (o :: rest) a w1 := by
  obtain ⟨i0, hi, hz0, hz1, hz2⟩ := info_parts infoIS'
  obtain ⟨cs, hrow, hin, hpush⟩ := OwnL.row eI_ok h.ho
  have hrow2 := own_base (base' := B) hrow fun g hg => h.hfp g (hin g hg)
  refine wpList_append_own_at _ hgd s y 33 ho B 37 i0 (.slice none 0 0) 1 24 Tryz.underlying33 hi hz0 hz1 hz2 rfl (by decide) tv _ _ hs hrow2 ⟨b', 0, none⟩ 1 1 [u] hy rfl (cells_one cb) (by obtain ⟨xa, xc, rfl⟩ := hx.form; simp [Value.oneCell']) (by unfold maxLen; omega) (by omega) h.hB ?_
  intro v' w4 ho4 hg4 _ hat
  obtain ⟨fp', hL, hfp'⟩ := hpush ⟨u, rfl, hx⟩ rfl hd ho4 hg4 hat
  have q1 := h.hC
  have q2 := h.hw
  have q3 := h.hB
  have q4 := hg4.size
  have k4 : ∀ g, tv.ownBlock = some g → B ≤ g := fun g hg => h.hfp g (hin g hg)
  have hf4 : ∀ g ∈ fp', B ≤ g := fun g hg => by
    rcases hfp' g hg with h' | h' | h'
    · exact h.hfp g h'
    · exact hfx g h'
    · rw [h']; exact q3
  have n0 : some C ≠ tv.ownBlock := fun hh => by have := k4 _ hh.symm; omega
  have c0 := hg4.cell h.c0 n0
  have c1 := hg4.cell h.c1 n0
  have f1 : w4.frozen? ⟨C, 1, none⟩ = false := by rw [grown_frozen hg4 (by dsimp only; omega) n0]; exact h.f1
  obtain ⟨xa, xc, hxf⟩ := hL.form
  refine hk v' w4 fp' c1 f1 ⟨(h.hE.grown hg4 (by omega) (fun g hg => by have := k4 g hg; omega)).setCell (by dsimp only; omega) _, ?_, hf4, by simp; omega, q1, q2, cell_set c0 (.inr (by simp)), cell_same c1, by simpa using f1⟩ ⟨xa, xc, by rw [hxf, List.length_append]; rfl⟩
  exact OII.off hL (Off.set (fp := [C]) (by simp)) fun g hg hm => by have := hf4 g hg; simp at hm; omega
end Go.Proofs.YtajkepdfemdagaaGreatDoor
