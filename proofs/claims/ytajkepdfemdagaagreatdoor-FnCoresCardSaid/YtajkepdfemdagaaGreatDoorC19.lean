/- HasTuple, IsPartOf: the program's and the reference's give one function's answers. A region that draws its order and calls a function whose result holds references: the result's parts, the variable's new block. -/
import Derived.Test.YtajkepdfemdagaaGreatDoorC10
import Derived.Test.YtajkepdfemdagaaGreatDoorC18
import Derived.Test.YtajkepdfemdagaaGreatDoorC08
import Derived.Great.BuildSlice
namespace Go.Proofs.YtajkepdfemdagaaGreatDoor
open Go.RowKit
set_option linter.unusedVariables false


set_option maxHeartbeats 400000 in
theorem specHasTuple_any (s : Int) (r : Int × List (List Int)) (v : Value) (t : List Int) (u : Value) (w : World) (hr : RdRel w v r) (hs : RdI w u t) (_ : -9223372036854775808 ≤ s) (_ : s ≤ 9223372036854775807) (hz : szRel r ≤ 1048576) (_ : t.length ≤ 1048576) :
    Calls Tryz.prog 21 #[.int .i64 s, v, u] w fun e w' => e = .returned (.tuple #[.bool (SHasTuple s r t).1, .int .i64 (SHasTuple s r t).2]) ∧ Ext w w' := by
  obtain ⟨tv, rfl, hr⟩ := hr
  obtain ⟨ta, tc, rfl⟩ := hr.form
  have hE1 : Ext w (w.alloc (.cells #[.int .i64 r.1, .slice ta r.2.length tc] 35)) := (Ext.refl' w).alloc (Nat.le_refl _) _
  have hp : PtRel (w.alloc (.cells #[.int .i64 r.1, .slice ta r.2.length tc] 35)) (.pointer (some ⟨w.heap.size, 0, none⟩)) r := ⟨_, _, _, rfl, by simp [go_sem], by simp [go_sem], hr.ext hE1⟩
  cases h1 : SValidRel s r with
  | false =>
    rw [show SHasTuple s r t = (false, 1) from by unfold SHasTuple; rw [h1]; rfl]
    go_enter Tryz.func21, Tryz.ntmps21
    go_wp2_with (go_at_call 67; refine (l01Ok_any _ _ _ _ hp).mono ?_; rintro e w1 ⟨rfl, hE⟩; rw [h1])
    go_ret2
    exact ⟨rfl, hE1.tr hE.ext⟩
  | true =>
    rw [show SHasTuple s r t = (hasT r t, 0) from by unfold SHasTuple; rw [h1]; rfl]
    go_enter Tryz.func21, Tryz.ntmps21
    go_wp2_with fail
    refine (l01Ok_any _ _ _ _ hp).mono ?_
    rintro e w1 ⟨rfl, hE⟩
    rw [h1]
    go_wp2_with fail
    refine (l01Has_any r _ t _ _ (hp.ext hE.ext) ((hs.ext hE1).ext hE.ext)).mono ?_
    rintro e w2 ⟨rfl, hE2⟩
    go_wp2_with fail
    go_ret2
    exact ⟨rfl, (hE1.tr hE.ext).tr hE2.ext⟩
set_option maxHeartbeats 400000 in
theorem implHasTuple_any (s : Int) (r : Int × List (List Int)) (v : Value) (t : List Int) (u : Value) (w : World) (hr : RdRel w v r) (hs : RdI w u t) (_ : -9223372036854775808 ≤ s) (_ : s ≤ 9223372036854775807) (hz : szRel r ≤ 1048576) (_ : t.length ≤ 1048576) :
    Calls Tryz.prog 22 #[.int .i64 s, v, u] w fun e w' => e = .returned (.tuple #[.bool (SHasTuple s r t).1, .int .i64 (SHasTuple s r t).2]) ∧ Ext w w' := by
  obtain ⟨tv, rfl, hr'⟩ := hr
  obtain ⟨ta, tc, rfl⟩ := hr'.form
  have hr : RdRel w _ r := ⟨_, rfl, hr'⟩
  have hE1 : Ext w (w.alloc (.cells #[.int .i64 r.1, .slice ta r.2.length tc] 35)) := (Ext.refl' w).alloc (Nat.le_refl _) _
  cases h1 : SValidRel s r with
  | false =>
    rw [show SHasTuple s r t = (false, 1) from by unfold SHasTuple; rw [h1]; rfl]
    go_enter Tryz.func22, Tryz.ntmps22
    go_wp2_with (go_at_call 20; refine (implValidRel_ok s r _ _ (hr.ext hE1)).mono ?_; rintro e w1 ⟨rfl, hE⟩; rw [h1])
    go_ret2
    exact ⟨rfl, hE1.tr hE⟩
  | true =>
    rw [show SHasTuple s r t = (hasT r t, 0) from by unfold SHasTuple; rw [h1]; rfl]
    go_enter Tryz.func22, Tryz.ntmps22
    go_wp2_with fail
    refine (implValidRel_ok s r _ _ (hr.ext hE1)).mono ?_
    rintro e w1 ⟨rfl, hE⟩
    rw [h1]
    have c0 := hE.cell (p := ⟨w.heap.size, 0, none⟩) (v := .int .i64 r.1) (by simp [go_sem])
    have c1 := hE.cell (p := ⟨w.heap.size, 1, none⟩) (v := .slice ta r.2.length tc) (by simp [go_sem])
    go_wp2_with fail
    refine (has_any s r _ t _ _ ((hr.ext hE1).ext hE) ((hs.ext hE1).ext hE) h1 hz).mono ?_
    rintro e w2 ⟨rfl, hE2⟩
    go_wp2_with fail
    go_ret2
    exact ⟨rfl, (hE1.tr hE).tr hE2⟩
end Go.Proofs.YtajkepdfemdagaaGreatDoor
namespace Go.Proofs.YtajkepdfemdagaaGreatDoor
open Go.RowKit
set_option linter.unusedVariables false

/-- a new block of two cells -/
def SP.box2 (B : Nat) (t : TypeId) : SP := ⟨fun v w => ∃ b, v = .pointer (some ⟨b, 0, none⟩) ∧ B ≤ b ∧ w.heap[b]? = some (.cells #[.int .i64 0, .slice none 0 0] t (0, 0)),
  fun v w w' ⟨b, h1, h2, h3⟩ hE => ⟨b, h1, h2, by rw [hE.block b (Array.getElem?_eq_some_iff.1 h3).1]; exact h3⟩⟩
theorem box2_new {B : Nat} {t : TypeId} {w : World} (hB : B ≤ w.heap.size) : (SP.box2 B t).R (.pointer (some ⟨w.heap.size, 0, none⟩)) (w.alloc (.cells #[.int .i64 0, .slice none 0 0] t)) := ⟨_, rfl, hB, heap_alloc_new w _⟩

theorem wpList_store_box {P : Program} {ops : Array Oper} {rest : List Oper} {o : Oper} {a : Act} {w : World} {Q : Exit → Act → World → Prop} (hgd : o.guard = none) (ty : TypeId) (x y : Operand) (ho : o.op = .store ty x y) (hd : o.dst = none)
    (b : Nat) (u v : Value) (hx : a.eval x = .pointer (some ⟨b, 0, none⟩)) (hy : a.eval y = .agg #[u, v]) (t : TypeId) (old : Array Value) (hg : w.heap[b]? = some (.cells old t (0, 0))) (hi : (P.info? ty).map (·.size) = some 2) (hold : old.size = 2) (h1 : u.oneCell' = true) (h2 : v.oneCell' = true)
    (h : ∀ W, Off [b] w W → W.cell? ⟨b, 0, none⟩ = some u → W.cell? ⟨b, 1, none⟩ = some v → wpList P ops Q rest a W) : wpList P ops Q (o :: rest) a w := by
  have hb : b < w.heap.size := (Array.getElem?_eq_some_iff.1 hg).1
  have hh := setRow_heap w b old #[u, v] t (0, 0) hg
  refine wpList_store_rowTo hgd ty x y ho hd b #[u, v] hx hy t old hg hi hold (by simp [h1, h2]) (h _ ⟨rfl, rfl, rfl, by simp [World.setRow], fun k _ hk => setRow_other w b k _ (by simpa using hk)⟩ ?_ ?_)
  · simp [World.cell?, hh]
  · simp [World.cell?, hh]

theorem own_tag {w : World} {e base size n : Nat} {v : Value} {xs : List Value} (h : w.ownsRow base e size v n xs) {g : Nat} (hg : v.ownBlock = some g) : ∃ cs, w.heap[g]? = some (.cells cs e (0, 0)) := by
  rcases h.2 with ⟨rfl, _⟩ | ⟨g', cap, cur, rfl, _, hh, _⟩
  · simp [Value.ownBlock] at hg
  · simp [Value.ownBlock] at hg
    subst hg
    exact ⟨_, hh⟩
theorem OI.tag {w : World} {v : Value} {l : List Int} {fp : List Nat} (h : OI w v l fp) : ∀ g ∈ fp, ∃ cs, w.heap[g]? = some (.cells cs 2 (0, 0)) := fun g hg => own_tag h.1 (by rw [h.2] at hg; simpa using hg)
theorem tag_ne {w : World} {fp : List Nat} {b : Nat} {cs : Array Value} {t : TypeId} (hb : w.heap[b]? = some (.cells cs t (0, 0))) (h : ∀ g ∈ fp, ∃ cs e, w.heap[g]? = some (.cells cs e (0, 0)) ∧ e ≠ t) : b ∉ fp := fun hm => by
  obtain ⟨cs', e, h1, h2⟩ := h b hm
  rw [hb] at h1
  simp only [Option.some.injEq, Obj.cells.injEq] at h1
  exact h2 h1.2.1.symm

theorem Step.free {P : Program} {ops : List Oper} {T : List Nat} {L : List SP} {a0 : Act} {w0 : World} {i : Nat} {o : Oper} (hg : o.guard = none) (h : ∀ vs w, Ext w0 w → Deps [] (SP.at L) vs w o.after.toList (∃ v, (∀ w', (execOp (look T ops vs a0) o).run P w' = .ok (.value v) w') ∧ SP.at L i v w)) : FreeL P ops T L a0 w0 i o := ⟨hg, h⟩
theorem free_extract {P : Program} {o : Oper} {ρ : Operand → Value} {x : Operand} {n : Nat} {vals : Array Value} {u : Value} {R : Value → World → Prop} {w : World} (hop : o.op = .extract x n) (hx : ρ x = .tuple vals) (hu : vals[n]? = some u) (h : R u w) : ∃ v, (∀ w', (execOp ρ o).run P w' = .ok (.value v) w') ∧ R v w := by
  obtain ⟨dst, op, type, pos, after, guard⟩ := o
  subst hop
  exact ⟨u, fun w' => extract_run hx hu, h⟩

end Go.Proofs.YtajkepdfemdagaaGreatDoor
