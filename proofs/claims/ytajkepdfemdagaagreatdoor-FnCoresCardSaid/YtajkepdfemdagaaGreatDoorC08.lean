/- Further steps of regions that draw their order. A relation that a loop gathers: a variable (block C) to which tuples are appended, and the result's own cells (block D). -/
import Derived.Test.YtajkepdfemdagaaGreatDoorC02
import Derived.Test.YtajkepdfemdagaaGreatDoorC07
namespace Go.Proofs.YtajkepdfemdagaaGreatDoor
open Go.RowKit
set_option linter.unusedVariables false
section
variable {P : Program} {ops : List Oper} {o : Oper} {ρ : Operand → Value} {w : World} {R : Value → World → Prop}
theorem Step.indexAtP {t : TypeId} {x i : Operand} {v n : Value} (p : Addr) (hg : o.guard = none) (hop : o.op = .indexAddr t x i) (hx : ρ x = v) (hi : ρ i = n) (hr : (Instr.indexAt t v n).run P w = .ok (.pointer (some p)) w) (h : R (.pointer (some p)) w) : Step P ops o ρ w R := by
  obtain ⟨dst, op, type, pos, after, guard⟩ := o
  subst hop
  exact Step.run hg (w' := w) (by simp [execOp, hx, hi, hr]) (Ext.refl' w) h
theorem GivesR.bin {b : BinOp} {x y : Operand} {u v z : Value} {t : TypeId} {t2 : TypeId} {S : Value → World → Prop} (hop : o.op = .binOp b t x y t2) (hx : ρ x = u) (hy : ρ y = v) (hr : (do eqGuard b t x y u v; binOp b t u v : Sem Value).run P w = .ok z w) (h : S z w) : GivesR P o ρ w S := by
  obtain ⟨dst, op, type, pos, after, guard⟩ := o
  subst hop
  subst hx hy
  exact GivesR.run (w' := w) (by simp only [execOp]; rw [Sem.run_bind, hr]; rfl) h
theorem Step.bin {b : BinOp} {x y : Operand} {u v z : Value} {t : TypeId} {t2 : TypeId} (hg : o.guard = none) (hop : o.op = .binOp b t x y t2) (hx : ρ x = u) (hy : ρ y = v) (hr : (do eqGuard b t x y u v; binOp b t u v : Sem Value).run P w = .ok z w) (h : R z w) : Step P ops o ρ w R :=
  Step.of hg (GivesR.bin hop hx hy hr ⟨Ext.refl' w, h⟩)
theorem GivesR.slice {t : TypeId} {x : Operand} {lo hi mx : Option Operand} {u z : Value} {lo' hi' mx' : Option Value} {S : Value → World → Prop} (hop : o.op = .slice t x lo hi mx) (hx : ρ x = u) (hlo : lo.map ρ = lo') (hhi : hi.map ρ = hi') (hmx : mx.map ρ = mx') (hr : (Instr.sliceAt t u lo' hi' mx').run P w = .ok z w) (h : S z w) : GivesR P o ρ w S := by
  obtain ⟨dst, op, type, pos, after, guard⟩ := o
  subst hop
  subst hx hlo hhi hmx
  exact GivesR.run (w' := w) (by simp only [execOp]; rw [Sem.run_bind, hr]; rfl) h
theorem Step.slice {t : TypeId} {x : Operand} {lo hi mx : Option Operand} {u z : Value} {lo' hi' mx' : Option Value} (hg : o.guard = none) (hop : o.op = .slice t x lo hi mx) (hx : ρ x = u) (hlo : lo.map ρ = lo') (hhi : hi.map ρ = hi') (hmx : mx.map ρ = mx') (hr : (Instr.sliceAt t u lo' hi' mx').run P w = .ok z w) (h : R z w) : Step P ops o ρ w R :=
  Step.of hg (GivesR.slice hop hx hlo hhi hmx hr ⟨Ext.refl' w, h⟩)
theorem GivesR.indexAtP {t : TypeId} {x i : Operand} {v n : Value} {S : Value → World → Prop} (p : Addr) (hop : o.op = .indexAddr t x i) (hx : ρ x = v) (hi : ρ i = n) (hr : (Instr.indexAt t v n).run P w = .ok (.pointer (some p)) w) (h : S (.pointer (some p)) w) : GivesR P o ρ w S := by
  obtain ⟨dst, op, type, pos, after, guard⟩ := o
  subst hop
  exact GivesR.run (w' := w) (by simp [execOp, hx, hi, hr]) h
theorem GivesR.buildSlice2 {t e : TypeId} {y z : Operand} {a b : Value} {S : Value → World → Prop} (hop : o.op = .buildSlice t 2 #[(0, y), (1, z)]) (hy : ρ y = a) (hz : ρ z = b) (hr : (Instr.buildSlice t 2 #[(0, a), (1, b)]).run P w = .ok (.slice (some ⟨w.heap.size, 0, none⟩) 2 2) (w.alloc (.cells #[a, b] e)))
    (h : S (.slice (some ⟨w.heap.size, 0, none⟩) 2 2) (w.alloc (.cells #[a, b] e))) : GivesR P o ρ w S := by
  obtain ⟨dst, op, type, pos, after, guard⟩ := o
  subst hop
  subst hy hz
  exact GivesR.run (w' := w.alloc (.cells #[ρ y, ρ z] e)) (by simp only [execOp]; rw [Sem.run_bind]; simp only [List.map_toArray, List.map_cons, List.map_nil]; rw [hr]; rfl) h
theorem Step.buildSlice2 {t e : TypeId} {y z : Operand} {a b : Value} (hg : o.guard = none) (hop : o.op = .buildSlice t 2 #[(0, y), (1, z)]) (hy : ρ y = a) (hz : ρ z = b) (hr : (Instr.buildSlice t 2 #[(0, a), (1, b)]).run P w = .ok (.slice (some ⟨w.heap.size, 0, none⟩) 2 2) (w.alloc (.cells #[a, b] e)))
    (h : R (.slice (some ⟨w.heap.size, 0, none⟩) 2 2) (w.alloc (.cells #[a, b] e))) : Step P ops o ρ w R :=
  Step.of hg (GivesR.buildSlice2 hop hy hz hr ⟨(Ext.refl' w).alloc (Nat.le_refl _) _, h⟩)
theorem GivesR.buildSlice3 {t e : TypeId} {y z x : Operand} {a b c : Value} {S : Value → World → Prop} (hop : o.op = .buildSlice t 3 #[(0, y), (1, z), (2, x)]) (hy : ρ y = a) (hz : ρ z = b) (hx : ρ x = c) (hr : (Instr.buildSlice t 3 #[(0, a), (1, b), (2, c)]).run P w = .ok (.slice (some ⟨w.heap.size, 0, none⟩) 3 3) (w.alloc (.cells #[a, b, c] e)))
    (h : S (.slice (some ⟨w.heap.size, 0, none⟩) 3 3) (w.alloc (.cells #[a, b, c] e))) : GivesR P o ρ w S := by
  obtain ⟨dst, op, type, pos, after, guard⟩ := o
  subst hop
  subst hy hz hx
  exact GivesR.run (w' := w.alloc (.cells #[ρ y, ρ z, ρ x] e)) (by simp only [execOp]; rw [Sem.run_bind]; simp only [List.map_toArray, List.map_cons, List.map_nil]; rw [hr]; rfl) h
theorem Step.buildSlice3 {t e : TypeId} {y z x : Operand} {a b c : Value} (hg : o.guard = none) (hop : o.op = .buildSlice t 3 #[(0, y), (1, z), (2, x)]) (hy : ρ y = a) (hz : ρ z = b) (hx : ρ x = c) (hr : (Instr.buildSlice t 3 #[(0, a), (1, b), (2, c)]).run P w = .ok (.slice (some ⟨w.heap.size, 0, none⟩) 3 3) (w.alloc (.cells #[a, b, c] e)))
    (h : R (.slice (some ⟨w.heap.size, 0, none⟩) 3 3) (w.alloc (.cells #[a, b, c] e))) : Step P ops o ρ w R :=
  Step.of hg (GivesR.buildSlice3 hop hy hz hx hr ⟨(Ext.refl' w).alloc (Nat.le_refl _) _, h⟩)
theorem Step.index {t : TypeId} {x i : Operand} {a b v : Value} (hg : o.guard = none) (hop : o.op = .index t x i) (hx : ρ x = a) (hi : ρ i = b) (hr : (Instr.index t a b).run P w = .ok v w) (h : R v w) : Step P ops o ρ w R := by
  obtain ⟨dst, op, type, pos, after, guard⟩ := o
  subst hop
  exact Step.run hg (w' := w) (by simp [execOp, hx, hi, hr]) (Ext.refl' w) h
theorem Step.convert {src dst : TypeId} {x : Operand} {a v : Value} (hg : o.guard = none) (hop : o.op = .convert src dst x) (hx : ρ x = a) (hr : (Go.convert src dst a).run P w = .ok v w) (h : R v w) : Step P ops o ρ w R := by
  obtain ⟨dst', op, type, pos, after, guard⟩ := o
  subst hop
  exact Step.run hg (w' := w) (by simp [execOp, hx, hr]) (Ext.refl' w) h
/-- a struct's value of two fields -/
theorem Step.build2 {t : TypeId} {y z : Operand} {a b v : Value} (hg : o.guard = none) (hop : o.op = .build t #[(0, y), (1, z)]) (hy : ρ y = a) (hz : ρ z = b) (hr : (Instr.build t #[(0, a), (1, b)]).run P w = .ok v w) (h : R v w) : Step P ops o ρ w R := by
  obtain ⟨dst, op, type, pos, after, guard⟩ := o
  subst hop
  subst hy hz
  refine Step.run hg (w' := w) ?_ (Ext.refl' w) h
  simp only [execOp]
  rw [Sem.run_bind]
  simp only [List.map_toArray, List.map_cons, List.map_nil]
  rw [hr]
  rfl
/-- an array's value -/
theorem Step.build3 {t : TypeId} {y z x : Operand} {a b c v : Value} (hg : o.guard = none) (hop : o.op = .build t #[(0, y), (1, z), (2, x)]) (hy : ρ y = a) (hz : ρ z = b) (hx : ρ x = c) (hr : (Instr.build t #[(0, a), (1, b), (2, c)]).run P w = .ok v w) (h : R v w) : Step P ops o ρ w R := by
  obtain ⟨dst, op, type, pos, after, guard⟩ := o
  subst hop
  subst hy hz hx
  refine Step.run hg (w' := w) ?_ (Ext.refl' w) h
  simp only [execOp]
  rw [Sem.run_bind]
  simp only [List.map_toArray, List.map_cons, List.map_nil]
  rw [hr]
  rfl
theorem Step.makeFunc {fn : Fn} {captured : Array Operand} {cap : List Value} (hg : o.guard = none) (hop : o.op = .makeFunc fn #[] captured) (hc : captured.toList.map ρ = cap) (hr : (Instr.makeFunc fn #[] cap.toArray).run P w = .ok (.func fn #[] cap.toArray) w) (h : R (.func fn #[] cap.toArray) w) : Step P ops o ρ w R := by
  obtain ⟨dst, op, type, pos, after, guard⟩ := o
  subst hop
  subst hc
  refine Step.run hg (w' := w) ?_ (Ext.refl' w) h
  have e : (captured.toList.map ρ).toArray = captured.map ρ := by apply Array.toList_inj.1; simp
  rw [e] at hr ⊢
  simp only [execOp, List.map_toArray, List.map_nil]
  rw [Sem.run_bind, hr]
  rfl
end
theorem OI_pair (w : World) (x y : Int) : OI (w.alloc (.cells #[.int .i64 x, .int .i64 y] 2)) (.slice (some ⟨w.heap.size, 0, none⟩) 2 2) [x, y] [w.heap.size] :=
  ⟨⟨by simp, .inr ⟨w.heap.size, 2, #[.int .i64 x, .int .i64 y], rfl, Nat.zero_le _, heap_alloc_new w _, Nat.le_refl _, by decide, rfl, rfl⟩⟩, rfl⟩
theorem OI_three (w : World) (x y z : Int) : OI (w.alloc (.cells #[.int .i64 x, .int .i64 y, .int .i64 z] 2)) (.slice (some ⟨w.heap.size, 0, none⟩) 3 3) [x, y, z] [w.heap.size] :=
  ⟨⟨by simp, .inr ⟨w.heap.size, 3, #[.int .i64 x, .int .i64 y, .int .i64 z], rfl, Nat.zero_le _, heap_alloc_new w _, Nat.le_refl _, by decide, rfl, rfl⟩⟩, rfl⟩
/-- parts of a list that is read -/
theorem RdI.take {w : World} {b off c : Nat} {l : List Int} (h : ∀ j (hj : j < l.length), w.cell? ⟨b, off + j, none⟩ = some (.int .i64 l[j])) (hlc : l.length ≤ c) (hc : c ≤ 9223372036854775807) (k : Nat) (hk : k ≤ l.length) : RdI w (.slice (some ⟨b, off, none⟩) k c) (l.take k) := by
  have hl : (l.take k).length = k := by simp; omega
  refine ⟨_, b, off, c, by rw [hl], by omega, hc, fun _ => rfl, fun j hj => ?_⟩
  rw [List.getElem_take]
  exact h j (by omega)
theorem RdI.drop {w : World} {b off c : Nat} {l : List Int} (h : ∀ j (hj : j < l.length), w.cell? ⟨b, off + j, none⟩ = some (.int .i64 l[j])) (hlc : l.length ≤ c) (hc : c ≤ 9223372036854775807) (k : Nat) (hk : k ≤ l.length) : RdI w (.slice (some ⟨b, off + k, none⟩) (l.length - k) (c - k)) (l.drop k) := by
  have hl : (l.drop k).length = l.length - k := by simp
  refine ⟨_, b, off + k, c - k, by rw [hl], by omega, by omega, fun _ => rfl, fun j hj => ?_⟩
  rw [List.getElem_drop, Nat.add_assoc]
  exact h (k + j) (by omega)
theorem RdI.at {w : World} {v : Value} {l : List Int} (h : RdI w v l) : ∃ a b off c, v = .slice a l.length c ∧ l.length ≤ c ∧ c ≤ 9223372036854775807 ∧ (0 < l.length → a = some ⟨b, off, none⟩) ∧ ∀ j (hj : j < l.length), w.cell? ⟨b, off + j, none⟩ = some (.int .i64 l[j]) := h
/-- a contract whose value is spelled another way -/
theorem Calls.spq {P : Program} {w : World} {f : FuncId} {args : Array Value} {u v : Value} (h : Calls P f args w fun e w' => e = .returned u ∧ Qt w w') (hu : u = v := by rfl) : Calls P f args w fun e w' => ∃ x, e = .returned x ∧ Ext w w' ∧ x = v :=
  h.mono fun _ _ ⟨he, hw⟩ => ⟨u, he, hw.ext, hu⟩
end Go.Proofs.YtajkepdfemdagaaGreatDoor
namespace Go.Proofs.YtajkepdfemdagaaGreatDoor
open Go.RowKit
set_option linter.unusedVariables false

structure Acc (w wr : World) (D C B : Nat) (m : Int) (L : List (List Int)) (tv : Value) (fp : List Nat) : Prop where
  hE : Ext w wr
  ho : OII wr tv L fp
  hfp : ∀ g ∈ fp, B ≤ g
  hB : B ≤ wr.heap.size
  hC : C < B
  hD : D < C
  hw : w.heap.size ≤ D
  c0 : wr.cell? ⟨C, 0, none⟩ = some (.int .i64 m)
  c1 : wr.cell? ⟨C, 1, none⟩ = some tv
  f1 : wr.frozen? ⟨C, 1, none⟩ = false
  d0 : wr.cell? ⟨D, 0, none⟩ = some (.int .i64 0)
  d1 : wr.cell? ⟨D, 1, none⟩ = some (.slice none 0 0)
  f2 : wr.frozen? ⟨D, 0, none⟩ = false
  f3 : wr.frozen? ⟨D, 1, none⟩ = false

theorem Acc.ext {w wr w' : World} {D C B : Nat} {m : Int} {L : List (List Int)} {tv : Value} {fp : List Nat} (h : Acc w wr D C B m L tv fp) (hE : Ext wr w') : Acc w w' D C B m L tv fp :=
  ⟨h.hE.tr hE, h.ho.ext hE, h.hfp, Nat.le_trans h.hB hE.size, h.hC, h.hD, h.hw, hE.cell h.c0, hE.cell h.c1, (hE.frozen (lt_of_cell h.c1)).trans h.f1, hE.cell h.d0, hE.cell h.d1, (hE.frozen (lt_of_cell h.d0)).trans h.f2, (hE.frozen (lt_of_cell h.d1)).trans h.f3⟩

/-- the cells below B that are not C's are as before -/
def KeepB (B C : Nat) (w w' : World) : Prop := ∀ p v, p.block < B → p.block ≠ C → w.cell? p = some v → w'.cell? p = some v
theorem KeepB.cell {B C : Nat} {w w' : World} (h : KeepB B C w w') {p : Addr} {v : Value} (hc : w.cell? p = some v) (h1 : p.block < B) (h2 : p.block ≠ C) : w'.cell? p = some v := h p v h1 h2 hc

/-- what an append and the store behind it leave -/
theorem Acc.push {w w1 w4 : World} {D C B : Nat} {m : Int} {L : List (List Int)} {tv v' : Value} {fp : List Nat} {x : List Int} {u : Value} {fx : List Nat} {cs : List Value} (h : Acc w w1 D C B m L tv fp)
    (hx : OI w1 u x fx) (hfx : ∀ g ∈ fx, B ≤ g) (hd : ∀ g ∈ fx, g ∉ fp) (hrow : w1.ownsRow 0 37 1 tv L.length cs) (hin : ∀ g, tv.ownBlock = some g → g ∈ fp)
    (hpush : ∀ {w4 : World} {v' : Value} {c : List Value} {x : List Int} {f : List Nat} {base : Nat}, eI w1 c x f → c.length = 1 → (∀ g ∈ f, g ∉ fp) → w4.ownsRow base 37 1 v' (L.length + 1) (cs ++ c) → w1.grownBy w4 tv.ownBlock → (v'.ownBlock = tv.ownBlock ∨ v'.ownBlock = some w1.heap.size) →
      ∃ fp', OII w4 v' (L ++ [x]) fp' ∧ ∀ g ∈ fp', g ∈ fp ∨ g ∈ f ∨ g = w1.heap.size)
    {base : Nat} (ho4 : w4.ownsRow base 37 1 v' (L.length + 1) (cs ++ [u])) (hg4 : w1.grownBy w4 tv.ownBlock) (hat : v'.ownBlock = tv.ownBlock ∨ v'.ownBlock = some w1.heap.size) :
    w4.cell? ⟨C, 1, none⟩ = some tv ∧ w4.frozen? ⟨C, 1, none⟩ = false ∧ KeepB B C w1 (w4.setCell ⟨C, 1, none⟩ v') ∧ ∃ fp', Acc w (w4.setCell ⟨C, 1, none⟩ v') D C B m (L ++ [x]) v' fp' := by
  obtain ⟨fp', hL, hfp'⟩ := hpush ⟨u, rfl, hx⟩ rfl hd ho4 hg4 hat
  have hf4 : ∀ g ∈ fp', B ≤ g := fun g hg => by
    rcases hfp' g hg with h' | h' | h'
    · exact h.hfp g h'
    · exact hfx g h'
    · rw [h']; exact h.hB
  have q1 := h.hC
  have q2 := h.hD
  have q3 := h.hB
  have q4 := h.hw
  have hE4 := h.hE.grown hg4 (by omega) (fun g hg => by have := h.hfp g (hin g hg); omega)
  have n0 : some C ≠ tv.ownBlock := fun hh => by have := h.hfp _ (hin _ hh.symm); omega
  have n1 : some D ≠ tv.ownBlock := fun hh => by have := h.hfp _ (hin _ hh.symm); omega
  have c0 := hg4.cell h.c0 n0
  have c1 := hg4.cell h.c1 n0
  have d0 := hg4.cell h.d0 n1
  have d1 := hg4.cell h.d1 n1
  have f1 : w4.frozen? ⟨C, 1, none⟩ = false := by rw [grown_frozen hg4 (by dsimp only; omega) n0]; exact h.f1
  have f2 : w4.frozen? ⟨D, 0, none⟩ = false := by rw [grown_frozen hg4 (by dsimp only; omega) n1]; exact h.f2
  have f3 : w4.frozen? ⟨D, 1, none⟩ = false := by rw [grown_frozen hg4 (by dsimp only; omega) n1]; exact h.f3
  refine ⟨c1, f1, fun p v h1 h2 hp => cell_set (hg4.cell hp fun hh => by have := h.hfp _ (hin _ hh.symm); omega) (.inl fun hh => h2 hh.symm), fp', ⟨hE4.setCell (by dsimp only; omega) _, ?_, hf4, ?_, h.hC, h.hD, h.hw, cell_set c0 (.inr (by simp)), cell_same c1, by simpa using f1, cell_set d0 (.inl (by dsimp only; omega)), cell_set d1 (.inl (by dsimp only; omega)), by simpa using f2, by simpa using f3⟩⟩
  · exact OII.off hL (Off.set (fp := [C]) (by simp)) fun g hg hm => by have := hf4 g hg; simp at hm; omega
  · have := hg4.size; simp; omega

theorem infoIS' : (Tryz.prog.info? 37).map (fun i => (i.zero, i.size, i.bytes)) = some (some (.slice none 0 0), 1, 24) := by kernel_rfl
/-- the append, one list at its end -/
theorem Acc.append {w w1 : World} {D C B : Nat} {m : Int} {L : List (List Int)} {tv : Value} {fp : List Nat} {x : List Int} {u : Value} {fx : List Nat} {ops : Array Oper} {rest : List Oper} {o : Oper} {a : Act} {Q : Exit → Act → World → Prop}
    (h : Acc w w1 D C B m L tv fp) (hx : OI w1 u x fx) (hfx : ∀ g ∈ fx, B ≤ g) (hd : ∀ g ∈ fx, g ∉ fp) (hlen : L.length ≤ 1048576) {b' : Nat} (cb : w1.cell? ⟨b', 0, none⟩ = some u)
    (hgd : o.guard = none) (s y : Operand) (ho : o.op = .call { callee := .builtin .append, args := #[s, y], argTypes := #[33, 33] }) (hs : a.eval s = tv) (hy : a.eval y = .slice (some ⟨b', 0, none⟩) 1 1)
    (hk : ∀ v' w4 fp', w4.cell? ⟨C, 1, none⟩ = some tv → w4.frozen? ⟨C, 1, none⟩ = false → Acc w (w4.setCell ⟨C, 1, none⟩ v') D C B m (L ++ [x]) v' fp' → KeepB B C w1 (w4.setCell ⟨C, 1, none⟩ v') → (∃ xa xc, v' = .slice xa (L.length + 1) xc) → wpList Tryz.prog ops Q rest (a.put o.dst v') w4) :
    wpList Tryz.prog ops Q (o :: rest) a w1 := by
  obtain ⟨i0, hi, hz0, hz1, hz2⟩ := info_parts infoIS'
  obtain ⟨cs, hrow, hin, hpush⟩ := OwnL.row eI_ok h.ho
  have hrow2 := own_base (base' := B) hrow fun g hg => h.hfp g (hin g hg)
  refine wpList_append_own_at _ hgd s y 33 ho B 37 i0 (.slice none 0 0) 1 24 Tryz.underlying33 hi hz0 hz1 hz2 rfl (by decide) tv _ _ hs hrow2 ⟨b', 0, none⟩ 1 1 [u] hy rfl (cells_one cb) (by obtain ⟨xa, xc, rfl⟩ := hx.form; simp [Value.oneCell']) (by unfold maxLen; omega) (by omega) h.hB ?_
  intro v' w4 ho4 hg4 _ hat
  obtain ⟨k1, k2, kb, fp', k3⟩ := h.push hx hfx hd hrow hin hpush ho4 hg4 hat
  obtain ⟨xa, xc, hxf⟩ := k3.ho.form
  exact hk v' w4 fp' k1 k2 k3 kb ⟨xa, xc, by rw [hxf, List.length_append]; rfl⟩

theorem Acc.done {w wr : World} {D C B : Nat} {m : Int} {L : List (List Int)} {tv : Value} {fp : List Nat} (h : Acc w wr D C B m L tv fp) (x y : Value) :
    Ext w ((wr.setCell ⟨D, 0, none⟩ x).setCell ⟨D, 1, none⟩ y) ∧ OwnRel ((wr.setCell ⟨D, 0, none⟩ x).setCell ⟨D, 1, none⟩ y) (.agg #[.int .i64 m, tv]) (m, L) fp ∧ ∀ g ∈ fp, w.heap.size ≤ g := by
  have q1 := h.hC
  have q2 := h.hD
  have q4 := h.hw
  refine ⟨(h.hE.setCell (by dsimp only; omega) _).setCell (by dsimp only; omega) _, ⟨tv, rfl, OII.off h.ho ((Off.set (fp := [D]) (by simp)).trans (Off.set (by simp))) fun g hg hm => ?_⟩, fun g hg => ?_⟩
  · have := h.hfp g hg; simp at hm; omega
  · have := h.hfp g hg; omega
end Go.Proofs.YtajkepdfemdagaaGreatDoor
