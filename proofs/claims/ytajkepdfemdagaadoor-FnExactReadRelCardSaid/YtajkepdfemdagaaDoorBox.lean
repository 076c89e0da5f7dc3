
/- A region that draws its order and calls a function whose result holds references: the result's parts, the variable's new block. -/
import Derived.Test.YtajkepdfemdagaaDoorSteps
import Derived.Test.YtajkepdfemdagaaDoorRelT
import Derived.Test.YtajkepdfemdagaaDoorOpT
import Derived.Great.BuildSlice
namespace Go.Proofs.YtajkepdfemdagaaDoor
open Go.RowKit
set_option linter.unusedVariables false

/-- a new block of two cells -/
def SP.box2 (B : Nat) (t : TypeId) : SP := ⟨fun v w => ∃ b, v = .pointer (some ⟨b, 0, none⟩) ∧ B ≤ b ∧ w.heap[b]? = some (.cells #[.int .i64 0, .slice none 0 0] t (0, 0)),
  fun v w w' ⟨b, h1, h2, h3⟩ hE => ⟨b, h1, h2, by rw [hE.block b (Array.getElem?_eq_some_iff.1 h3).1]; exact h3⟩⟩
theorem box2_new {B : Nat} {t : TypeId} {w : World} (hB : B ≤ w.heap.size) : (SP.box2 B t).R (.pointer (some ⟨w.heap.size, 0, none⟩)) (w.alloc (.cells #[.int .i64 0, .slice none 0 0] t)) := ⟨_, rfl, hB, heap_alloc_new w _⟩

theorem wpList_store_box {P : Program} {ops : Array Oper} {rest : List Oper} {o : Oper} {a : Act} {w : World} {Q : Exit → Act → World → Prop} (hgd : o.guard = none) (ty : TypeId) (x y : Operand) (ho : o.op = .store ty x y) (hd : o.dst = none)
    (b : Nat) (u v : Value) (hx : a.eval x = .pointer (some ⟨b, 0, none⟩)) (hy : a.eval y = .agg #[u, v]) (t : TypeId) (old : Array Value) (hg : w.heap[b]? = some (.cells old t (0, 0))) (hi : (P.info? ty).map (·.size) = some 2) (hold : old.size = 2) (h1 : u.oneCell' = true) (h2 : v.oneCell' = true)
    (h : ∀ W, Off [b] w W → W.cell? ⟨b, 0, none⟩ = some u → W.cell? ⟨b, 1, none⟩ = some v → wpList P ops Q rest a W) : wpList P ops Q (o :: rest) a w := by
  have hb : b < w.heap.size := (Array.getElem?_eq_some_iff.1 hg).1
  have hh := setRow_heap w b old #[u, v] t (0, 0) hg
  refine wpList_store_rowTo hgd ty x y ho hd b #[u, v] hx hy t old hg hi hold (by simp [h1, h2]) (h _ ⟨rfl, rfl, rfl, by simp [World.setRow], fun k _ hk => setRow_other w b k _ (by simpa using hk)⟩ ?_ ?_)
  · simp [World.cell?, hh]
  · simp [World.cell?, hh]

theorem own_tag {w : World} {e base size n : Nat} {v : Value} {xs : List Value} (h : w.ownsRow base e size v n xs) {g : Nat} (hg : v.ownBlock = some g) : ∃ cs, w.heap[g]? = some (.cells cs e (0, 0)) := by
  rcases h.2 with ⟨rfl, _⟩ | ⟨g', cap, cur, rfl, _, hh, _⟩
  · simp [Value.ownBlock] at hg
  · simp [Value.ownBlock] at hg
    subst hg
    exact ⟨_, hh⟩
theorem OI.tag {w : World} {v : Value} {l : List Int} {fp : List Nat} (h : OI w v l fp) : ∀ g ∈ fp, ∃ cs, w.heap[g]? = some (.cells cs 2 (0, 0)) := fun g hg => own_tag h.1 (by rw [h.2] at hg; simpa using hg)
theorem tag_ne {w : World} {fp : List Nat} {b : Nat} {cs : Array Value} {t : TypeId} (hb : w.heap[b]? = some (.cells cs t (0, 0))) (h : ∀ g ∈ fp, ∃ cs e, w.heap[g]? = some (.cells cs e (0, 0)) ∧ e ≠ t) : b ∉ fp := fun hm => by
  obtain ⟨cs', e, h1, h2⟩ := h b hm
  rw [hb] at h1
  simp only [Option.some.injEq, Obj.cells.injEq] at h1
  exact h2 h1.2.1.symm

theorem Step.free {P : Program} {ops : List Oper} {T : List Nat} {L : List SP} {a0 : Act} {w0 : World} {i : Nat} {o : Oper} (hg : o.guard = none) (h : ∀ vs w, Ext w0 w → Deps [] (SP.at L) vs w o.after.toList (∃ v, (∀ w', (execOp (look T ops vs a0) o).run P w' = .ok (.value v) w') ∧ SP.at L i v w)) : FreeL P ops T L a0 w0 i o := ⟨hg, h⟩
theorem free_extract {P : Program} {o : Oper} {ρ : Operand → Value} {x : Operand} {n : Nat} {vals : Array Value} {u : Value} {R : Value → World → Prop} {w : World} (hop : o.op = .extract x n) (hx : ρ x = .tuple vals) (hu : vals[n]? = some u) (h : R u w) : ∃ v, (∀ w', (execOp ρ o).run P w' = .ok (.value v) w') ∧ R v w := by
  obtain ⟨dst, op, type, pos, after, guard⟩ := o
  subst hop
  exact ⟨u, fun w' => extract_run hx hu, h⟩

theorem OII.tag {w : World} {v : Value} {l : List (List Int)} {fp : List Nat} (h : OII w v l fp) : ∀ g ∈ fp, ∃ cs e, w.heap[g]? = some (.cells cs e (0, 0)) ∧ (e = 22 ∨ e = 2) := by
  obtain ⟨zs, h1, h2, h3, h4, h5⟩ := h
  intro g hg
  rcases List.mem_append.1 ((h3 g).1 hg) with h | h
  · obtain ⟨cs, hc⟩ := own_tag h2 (g := g) (by simpa using h)
    exact ⟨cs, _, hc, .inl rfl⟩
  · obtain ⟨z, hz, hgz⟩ := List.mem_flatMap.1 h
    obtain ⟨u, _, ho⟩ := (h5 z hz).2
    obtain ⟨cs, hc⟩ := ho.tag g hgz
    exact ⟨cs, _, hc, .inr rfl⟩
theorem OwnRel.apart {w : World} {v : Value} {f : Int × List (List Int)} {fp : List Nat} (h : OwnRel w v f fp) {b : Nat} {cs : Array Value} (hb : w.heap[b]? = some (.cells cs 36 (0, 0))) : b ∉ fp := by
  obtain ⟨tv, rfl, h⟩ := h
  refine tag_ne hb fun g hg => ?_
  obtain ⟨cs, e, h1, h2 | h2⟩ := h.tag g hg
  · exact ⟨cs, e, h1, by rw [h2]; decide⟩
  · exact ⟨cs, e, h1, by rw [h2]; decide⟩
def SP.resRel (B : Nat) (R : (Int × List (List Int)) × Int) : SP := ⟨fun v w => ∃ u fp, v = .tuple #[u, .int .i64 R.2] ∧ OwnRel w u R.1 fp ∧ (∀ g ∈ fp, B ≤ g) ∧ mkRel R.1 ≤ 1048576,
  fun _ _ _ ⟨u, fp, h1, h2, h3, h4⟩ hE => ⟨u, fp, h1, h2.ext hE, h3, h4⟩⟩
def SP.ownRelB (B : Nat) (f : Int × List (List Int)) : SP := ⟨fun v w => ∃ fp, OwnRel w v f fp ∧ (∀ g ∈ fp, B ≤ g) ∧ mkRel f ≤ 1048576, fun _ _ _ ⟨fp, h1, h2, h3⟩ hE => ⟨fp, h1.ext hE, h2, h3⟩⟩
theorem RelRes.sp {R : (Int × List (List Int)) × Int} {B : Nat} {P : Program} {f : FuncId} {args : Array Value} {w : World} (h : Calls P f args w (RelRes R w)) (hB : B ≤ w.heap.size) : Calls P f args w fun e w' => ∃ x, e = .returned x ∧ Ext w w' ∧ (SP.resRel B R).R x w' :=
  h.mono fun _ _ ⟨u, fp, h1, h2, h3, h4, h5⟩ => ⟨_, h1, h2, u, fp, rfl, h3, fun g hg => Nat.le_trans hB (h4 g hg), h5⟩
theorem Step.resRel0 {P : Program} {ops : List Oper} {o : Oper} {ρ : Operand → Value} {w : World} {B : Nat} {R : (Int × List (List Int)) × Int} {x : Operand} (hg : o.guard = none) (hop : o.op = .extract x 0) (h : (SP.resRel B R).R (ρ x) w) : Step P ops o ρ w (SP.ownRelB B R.1).R := by
  obtain ⟨u, fp, h1, h2, h3, h4⟩ := h
  exact Step.extract hg hop h1 (by simp) ⟨fp, h2, h3, h4⟩
theorem free_resRel1 {P : Program} {o : Oper} {ρ : Operand → Value} {w : World} {B : Nat} {R : (Int × List (List Int)) × Int} {x : Operand} (hop : o.op = .extract x 1) (h : (SP.resRel B R).R (ρ x) w) : ∃ v, (∀ w', (execOp ρ o).run P w' = .ok (.value v) w') ∧ (SP.val (.int .i64 R.2)).R v w := by
  obtain ⟨u, fp, h1, h2, h3, h4⟩ := h
  exact free_extract hop h1 (by simp) rfl
theorem OwnOp.apart {w : World} {v : Value} {f : Int × List Int} {fp : List Nat} (h : OwnOp w v f fp) {b : Nat} {cs : Array Value} (hb : w.heap[b]? = some (.cells cs 27 (0, 0))) : b ∉ fp := by
  obtain ⟨tv, rfl, h⟩ := h
  refine tag_ne hb fun g hg => ?_
  obtain ⟨cs, h1⟩ := h.tag g hg
  exact ⟨cs, _, h1, by decide⟩
def SP.resOp (B : Nat) (R : (Int × List Int) × Int) : SP := ⟨fun v w => ∃ u fp, v = .tuple #[u, .int .i64 R.2] ∧ OwnOp w u R.1 fp ∧ (∀ g ∈ fp, B ≤ g) ∧ mkOp R.1 ≤ 1048576,
  fun _ _ _ ⟨u, fp, h1, h2, h3, h4⟩ hE => ⟨u, fp, h1, h2.ext hE, h3, h4⟩⟩
def SP.ownOpB (B : Nat) (f : Int × List Int) : SP := ⟨fun v w => ∃ fp, OwnOp w v f fp ∧ (∀ g ∈ fp, B ≤ g) ∧ mkOp f ≤ 1048576, fun _ _ _ ⟨fp, h1, h2, h3⟩ hE => ⟨fp, h1.ext hE, h2, h3⟩⟩
theorem OpRes.sp {R : (Int × List Int) × Int} {B : Nat} {P : Program} {f : FuncId} {args : Array Value} {w : World} (h : Calls P f args w (OpRes R w)) (hB : B ≤ w.heap.size) : Calls P f args w fun e w' => ∃ x, e = .returned x ∧ Ext w w' ∧ (SP.resOp B R).R x w' :=
  h.mono fun _ _ ⟨u, fp, h1, h2, h3, h4, h5⟩ => ⟨_, h1, h2, u, fp, rfl, h3, fun g hg => Nat.le_trans hB (h4 g hg), h5⟩
theorem Step.resOp0 {P : Program} {ops : List Oper} {o : Oper} {ρ : Operand → Value} {w : World} {B : Nat} {R : (Int × List Int) × Int} {x : Operand} (hg : o.guard = none) (hop : o.op = .extract x 0) (h : (SP.resOp B R).R (ρ x) w) : Step P ops o ρ w (SP.ownOpB B R.1).R := by
  obtain ⟨u, fp, h1, h2, h3, h4⟩ := h
  exact Step.extract hg hop h1 (by simp) ⟨fp, h2, h3, h4⟩
theorem free_resOp1 {P : Program} {o : Oper} {ρ : Operand → Value} {w : World} {B : Nat} {R : (Int × List Int) × Int} {x : Operand} (hop : o.op = .extract x 1) (h : (SP.resOp B R).R (ρ x) w) : ∃ v, (∀ w', (execOp ρ o).run P w' = .ok (.value v) w') ∧ (SP.val (.int .i64 R.2)).R v w := by
  obtain ⟨u, fp, h1, h2, h3, h4⟩ := h
  exact free_extract hop h1 (by simp) rfl
end Go.Proofs.YtajkepdfemdagaaDoor
