
/- Further steps of regions that draw their order. -/
import Derived.Test.YtajkepdfemdagaaDoorInts
namespace Go.Proofs.YtajkepdfemdagaaDoor
open Go.RowKit
set_option linter.unusedVariables false
section
variable {P : Program} {ops : List Oper} {o : Oper} {ρ : Operand → Value} {w : World} {R : Value → World → Prop}
theorem Step.indexAtP {t : TypeId} {x i : Operand} {v n : Value} (p : Addr) (hg : o.guard = none) (hop : o.op = .indexAddr t x i) (hx : ρ x = v) (hi : ρ i = n) (hr : (Instr.indexAt t v n).run P w = .ok (.pointer (some p)) w) (h : R (.pointer (some p)) w) : Step P ops o ρ w R := by
  obtain ⟨dst, op, type, pos, after, guard⟩ := o
  subst hop
  exact Step.run hg (w' := w) (by simp [execOp, hx, hi, hr]) (Ext.refl' w) h
theorem GivesR.bin {b : BinOp} {x y : Operand} {u v z : Value} {t : TypeId} {t2 : TypeId} {S : Value → World → Prop} (hop : o.op = .binOp b t x y t2) (hx : ρ x = u) (hy : ρ y = v) (hr : (do eqGuard b t x y u v; binOp b t u v : Sem Value).run P w = .ok z w) (h : S z w) : GivesR P o ρ w S := by
  obtain ⟨dst, op, type, pos, after, guard⟩ := o
  subst hop
  subst hx hy
  exact GivesR.run (w' := w) (by simp only [execOp]; rw [Sem.run_bind, hr]; rfl) h
theorem Step.bin {b : BinOp} {x y : Operand} {u v z : Value} {t : TypeId} {t2 : TypeId} (hg : o.guard = none) (hop : o.op = .binOp b t x y t2) (hx : ρ x = u) (hy : ρ y = v) (hr : (do eqGuard b t x y u v; binOp b t u v : Sem Value).run P w = .ok z w) (h : R z w) : Step P ops o ρ w R :=
  Step.of hg (GivesR.bin hop hx hy hr ⟨Ext.refl' w, h⟩)
theorem GivesR.slice {t : TypeId} {x : Operand} {lo hi mx : Option Operand} {u z : Value} {lo' hi' mx' : Option Value} {S : Value → World → Prop} (hop : o.op = .slice t x lo hi mx) (hx : ρ x = u) (hlo : lo.map ρ = lo') (hhi : hi.map ρ = hi') (hmx : mx.map ρ = mx') (hr : (Instr.sliceAt t u lo' hi' mx').run P w = .ok z w) (h : S z w) : GivesR P o ρ w S := by
  obtain ⟨dst, op, type, pos, after, guard⟩ := o
  subst hop
  subst hx hlo hhi hmx
  exact GivesR.run (w' := w) (by simp only [execOp]; rw [Sem.run_bind, hr]; rfl) h
theorem Step.slice {t : TypeId} {x : Operand} {lo hi mx : Option Operand} {u z : Value} {lo' hi' mx' : Option Value} (hg : o.guard = none) (hop : o.op = .slice t x lo hi mx) (hx : ρ x = u) (hlo : lo.map ρ = lo') (hhi : hi.map ρ = hi') (hmx : mx.map ρ = mx') (hr : (Instr.sliceAt t u lo' hi' mx').run P w = .ok z w) (h : R z w) : Step P ops o ρ w R :=
  Step.of hg (GivesR.slice hop hx hlo hhi hmx hr ⟨Ext.refl' w, h⟩)
theorem GivesR.indexAtP {t : TypeId} {x i : Operand} {v n : Value} {S : Value → World → Prop} (p : Addr) (hop : o.op = .indexAddr t x i) (hx : ρ x = v) (hi : ρ i = n) (hr : (Instr.indexAt t v n).run P w = .ok (.pointer (some p)) w) (h : S (.pointer (some p)) w) : GivesR P o ρ w S := by
  obtain ⟨dst, op, type, pos, after, guard⟩ := o
  subst hop
  exact GivesR.run (w' := w) (by simp [execOp, hx, hi, hr]) h
theorem GivesR.buildSlice2 {t e : TypeId} {y z : Operand} {a b : Value} {S : Value → World → Prop} (hop : o.op = .buildSlice t 2 #[(0, y), (1, z)]) (hy : ρ y = a) (hz : ρ z = b) (hr : (Instr.buildSlice t 2 #[(0, a), (1, b)]).run P w = .ok (.slice (some ⟨w.heap.size, 0, none⟩) 2 2) (w.alloc (.cells #[a, b] e)))
    (h : S (.slice (some ⟨w.heap.size, 0, none⟩) 2 2) (w.alloc (.cells #[a, b] e))) : GivesR P o ρ w S := by
  obtain ⟨dst, op, type, pos, after, guard⟩ := o
  subst hop
  subst hy hz
  exact GivesR.run (w' := w.alloc (.cells #[ρ y, ρ z] e)) (by simp only [execOp]; rw [Sem.run_bind]; simp only [List.map_toArray, List.map_cons, List.map_nil]; rw [hr]; rfl) h
theorem Step.buildSlice2 {t e : TypeId} {y z : Operand} {a b : Value} (hg : o.guard = none) (hop : o.op = .buildSlice t 2 #[(0, y), (1, z)]) (hy : ρ y = a) (hz : ρ z = b) (hr : (Instr.buildSlice t 2 #[(0, a), (1, b)]).run P w = .ok (.slice (some ⟨w.heap.size, 0, none⟩) 2 2) (w.alloc (.cells #[a, b] e)))
    (h : R (.slice (some ⟨w.heap.size, 0, none⟩) 2 2) (w.alloc (.cells #[a, b] e))) : Step P ops o ρ w R :=
  Step.of hg (GivesR.buildSlice2 hop hy hz hr ⟨(Ext.refl' w).alloc (Nat.le_refl _) _, h⟩)
theorem GivesR.buildSlice3 {t e : TypeId} {y z x : Operand} {a b c : Value} {S : Value → World → Prop} (hop : o.op = .buildSlice t 3 #[(0, y), (1, z), (2, x)]) (hy : ρ y = a) (hz : ρ z = b) (hx : ρ x = c) (hr : (Instr.buildSlice t 3 #[(0, a), (1, b), (2, c)]).run P w = .ok (.slice (some ⟨w.heap.size, 0, none⟩) 3 3) (w.alloc (.cells #[a, b, c] e)))
    (h : S (.slice (some ⟨w.heap.size, 0, none⟩) 3 3) (w.alloc (.cells #[a, b, c] e))) : GivesR P o ρ w S := by
  obtain ⟨dst, op, type, pos, after, guard⟩ := o
  subst hop
  subst hy hz hx
  exact GivesR.run (w' := w.alloc (.cells #[ρ y, ρ z, ρ x] e)) (by simp only [execOp]; rw [Sem.run_bind]; simp only [List.map_toArray, List.map_cons, List.map_nil]; rw [hr]; rfl) h
theorem Step.buildSlice3 {t e : TypeId} {y z x : Operand} {a b c : Value} (hg : o.guard = none) (hop : o.op = .buildSlice t 3 #[(0, y), (1, z), (2, x)]) (hy : ρ y = a) (hz : ρ z = b) (hx : ρ x = c) (hr : (Instr.buildSlice t 3 #[(0, a), (1, b), (2, c)]).run P w = .ok (.slice (some ⟨w.heap.size, 0, none⟩) 3 3) (w.alloc (.cells #[a, b, c] e)))
    (h : R (.slice (some ⟨w.heap.size, 0, none⟩) 3 3) (w.alloc (.cells #[a, b, c] e))) : Step P ops o ρ w R :=
  Step.of hg (GivesR.buildSlice3 hop hy hz hx hr ⟨(Ext.refl' w).alloc (Nat.le_refl _) _, h⟩)
theorem Step.index {t : TypeId} {x i : Operand} {a b v : Value} (hg : o.guard = none) (hop : o.op = .index t x i) (hx : ρ x = a) (hi : ρ i = b) (hr : (Instr.index t a b).run P w = .ok v w) (h : R v w) : Step P ops o ρ w R := by
  obtain ⟨dst, op, type, pos, after, guard⟩ := o
  subst hop
  exact Step.run hg (w' := w) (by simp [execOp, hx, hi, hr]) (Ext.refl' w) h
theorem Step.convert {src dst : TypeId} {x : Operand} {a v : Value} (hg : o.guard = none) (hop : o.op = .convert src dst x) (hx : ρ x = a) (hr : (Go.convert src dst a).run P w = .ok v w) (h : R v w) : Step P ops o ρ w R := by
  obtain ⟨dst', op, type, pos, after, guard⟩ := o
  subst hop
  exact Step.run hg (w' := w) (by simp [execOp, hx, hr]) (Ext.refl' w) h
/-- a struct's value of two fields -/
theorem Step.build2 {t : TypeId} {y z : Operand} {a b v : Value} (hg : o.guard = none) (hop : o.op = .build t #[(0, y), (1, z)]) (hy : ρ y = a) (hz : ρ z = b) (hr : (Instr.build t #[(0, a), (1, b)]).run P w = .ok v w) (h : R v w) : Step P ops o ρ w R := by
  obtain ⟨dst, op, type, pos, after, guard⟩ := o
  subst hop
  subst hy hz
  refine Step.run hg (w' := w) ?_ (Ext.refl' w) h
  simp only [execOp]
  rw [Sem.run_bind]
  simp only [List.map_toArray, List.map_cons, List.map_nil]
  rw [hr]
  rfl
/-- an array's value -/
theorem Step.build3 {t : TypeId} {y z x : Operand} {a b c v : Value} (hg : o.guard = none) (hop : o.op = .build t #[(0, y), (1, z), (2, x)]) (hy : ρ y = a) (hz : ρ z = b) (hx : ρ x = c) (hr : (Instr.build t #[(0, a), (1, b), (2, c)]).run P w = .ok v w) (h : R v w) : Step P ops o ρ w R := by
  obtain ⟨dst, op, type, pos, after, guard⟩ := o
  subst hop
  subst hy hz hx
  refine Step.run hg (w' := w) ?_ (Ext.refl' w) h
  simp only [execOp]
  rw [Sem.run_bind]
  simp only [List.map_toArray, List.map_cons, List.map_nil]
  rw [hr]
  rfl
theorem Step.makeFunc {fn : Fn} {captured : Array Operand} {cap : List Value} (hg : o.guard = none) (hop : o.op = .makeFunc fn #[] captured) (hc : captured.toList.map ρ = cap) (hr : (Instr.makeFunc fn #[] cap.toArray).run P w = .ok (.func fn #[] cap.toArray) w) (h : R (.func fn #[] cap.toArray) w) : Step P ops o ρ w R := by
  obtain ⟨dst, op, type, pos, after, guard⟩ := o
  subst hop
  subst hc
  refine Step.run hg (w' := w) ?_ (Ext.refl' w) h
  have e : (captured.toList.map ρ).toArray = captured.map ρ := by apply Array.toList_inj.1; simp
  rw [e] at hr ⊢
  simp only [execOp, List.map_toArray, List.map_nil]
  rw [Sem.run_bind, hr]
  rfl
end
theorem OI_pair (w : World) (x y : Int) : OI (w.alloc (.cells #[.int .i64 x, .int .i64 y] 2)) (.slice (some ⟨w.heap.size, 0, none⟩) 2 2) [x, y] [w.heap.size] :=
  ⟨⟨by simp, .inr ⟨w.heap.size, 2, #[.int .i64 x, .int .i64 y], rfl, Nat.zero_le _, heap_alloc_new w _, Nat.le_refl _, by decide, rfl, rfl⟩⟩, rfl⟩
theorem OI_three (w : World) (x y z : Int) : OI (w.alloc (.cells #[.int .i64 x, .int .i64 y, .int .i64 z] 2)) (.slice (some ⟨w.heap.size, 0, none⟩) 3 3) [x, y, z] [w.heap.size] :=
  ⟨⟨by simp, .inr ⟨w.heap.size, 3, #[.int .i64 x, .int .i64 y, .int .i64 z], rfl, Nat.zero_le _, heap_alloc_new w _, Nat.le_refl _, by decide, rfl, rfl⟩⟩, rfl⟩
/-- parts of a list that is read -/
theorem RdI.take {w : World} {b off c : Nat} {l : List Int} (h : ∀ j (hj : j < l.length), w.cell? ⟨b, off + j, none⟩ = some (.int .i64 l[j])) (hlc : l.length ≤ c) (hc : c ≤ 9223372036854775807) (k : Nat) (hk : k ≤ l.length) : RdI w (.slice (some ⟨b, off, none⟩) k c) (l.take k) := by
  have hl : (l.take k).length = k := by simp; omega
  refine ⟨_, b, off, c, by rw [hl], by omega, hc, fun _ => rfl, fun j hj => ?_⟩
  rw [List.getElem_take]
  exact h j (by omega)
theorem RdI.drop {w : World} {b off c : Nat} {l : List Int} (h : ∀ j (hj : j < l.length), w.cell? ⟨b, off + j, none⟩ = some (.int .i64 l[j])) (hlc : l.length ≤ c) (hc : c ≤ 9223372036854775807) (k : Nat) (hk : k ≤ l.length) : RdI w (.slice (some ⟨b, off + k, none⟩) (l.length - k) (c - k)) (l.drop k) := by
  have hl : (l.drop k).length = l.length - k := by simp
  refine ⟨_, b, off + k, c - k, by rw [hl], by omega, by omega, fun _ => rfl, fun j hj => ?_⟩
  rw [List.getElem_drop, Nat.add_assoc]
  exact h (k + j) (by omega)
theorem RdI.at {w : World} {v : Value} {l : List Int} (h : RdI w v l) : ∃ a b off c, v = .slice a l.length c ∧ l.length ≤ c ∧ c ≤ 9223372036854775807 ∧ (0 < l.length → a = some ⟨b, off, none⟩) ∧ ∀ j (hj : j < l.length), w.cell? ⟨b, off + j, none⟩ = some (.int .i64 l[j]) := h
/-- a contract whose value is spelled another way -/
theorem Calls.spq {P : Program} {w : World} {f : FuncId} {args : Array Value} {u v : Value} (h : Calls P f args w fun e w' => e = .returned u ∧ Qt w w') (hu : u = v := by rfl) : Calls P f args w fun e w' => ∃ x, e = .returned x ∧ Ext w w' ∧ x = v :=
  h.mono fun _ _ ⟨he, hw⟩ => ⟨u, he, hw.ext, hu⟩
end Go.Proofs.YtajkepdfemdagaaDoor
