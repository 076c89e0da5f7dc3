
/- How this seat's data lie in memory: lists of integers, lists of such lists, and what becomes of them as memory grows or is written. -/
import Derived.Test.YtajkepdfemdagaaGreatDoorMono
namespace Go.Proofs.YtajkepdfemdagaaGreatDoor
open Go.RowKit
set_option linter.unusedVariables false

theorem ret_int {k : IntKind} {a b : Int} (h : a = b) : Ending.returned (.int k a) = .returned (.int k b) := by rw [h]
theorem ret_bool {a b : Bool} (h : a = b) : Ending.returned (.bool a) = .returned (.bool b) := by rw [h]

theorem lt_of_cell {w : World} {p : Addr} {v : Value} (h : w.cell? p = some v) : p.block < w.heap.size := World.block_lt_of_cell? w p h

theorem Ext.cell {w w' : World} (h : Ext w w') {p : Addr} {v : Value} (hc : w.cell? p = some v) : w'.cell? p = some v := by
  rw [Below.cell h (lt_of_cell hc)]; exact hc

/-- w' is w but for draws -/
def Qt (w w' : World) : Prop := ∃ n, w' = w.drewN n
theorem Qt.refl (w : World) : Qt w w := ⟨0, rfl⟩
theorem Qt.ext {w w' : World} (h : Qt w w') : Ext w w' := by
  obtain ⟨n, rfl⟩ := h
  exact ⟨rfl, rfl, rfl, Nat.le_refl _, fun _ _ => rfl⟩
theorem Qt.drewN {w w' : World} (h : Qt w w') (n : Nat) : Qt w (w'.drewN n) := by
  obtain ⟨m, rfl⟩ := h
  exact ⟨m + n, by rw [World.drewN_drewN]⟩

/-- v reads as the integers l (shared or not, nil or not) -/
def RdI (w : World) (v : Value) (l : List Int) : Prop :=
  ∃ a b off cap, v = .slice a l.length cap ∧ l.length ≤ cap ∧ cap ≤ 9223372036854775807 ∧ (0 < l.length → a = some ⟨b, off, none⟩) ∧ ∀ j (h : j < l.length), w.cell? ⟨b, off + j, none⟩ = some (.int .i64 l[j])

theorem RdI.ext {w w' : World} {v : Value} {l : List Int} (h : RdI w v l) (hE : Ext w w') : RdI w' v l := by
  obtain ⟨a, b, off, cap, hv, h1, h2, h3, h4⟩ := h
  exact ⟨a, b, off, cap, hv, h1, h2, h3, fun j hj => hE.cell (h4 j hj)⟩

theorem RdI.form {w : World} {v : Value} {l : List Int} (h : RdI w v l) : ∃ a c, v = .slice a l.length c := by
  obtain ⟨a, _, _, cap, hv, _⟩ := h
  exact ⟨a, cap, hv⟩

theorem RdI.nil (w : World) : RdI w (.slice none 0 0) [] := ⟨none, 0, 0, 0, rfl, by simp, by omega, by simp, by simp⟩

/-- v reads as the lists ll -/
def RdII (w : World) (v : Value) (ll : List (List Int)) : Prop :=
  ∃ a b off cap, ∃ vs : Nat → Value, v = .slice a ll.length cap ∧ ll.length ≤ cap ∧ cap ≤ 9223372036854775807 ∧ (0 < ll.length → a = some ⟨b, off, none⟩) ∧
    ∀ j (h : j < ll.length), w.cell? ⟨b, off + j, none⟩ = some (vs j) ∧ RdI w (vs j) ll[j]

theorem RdII.ext {w w' : World} {v : Value} {ll : List (List Int)} (h : RdII w v ll) (hE : Ext w w') : RdII w' v ll := by
  obtain ⟨a, b, off, cap, vs, hv, h1, h2, h3, h4⟩ := h
  exact ⟨a, b, off, cap, vs, hv, h1, h2, h3, fun j hj => ⟨hE.cell (h4 j hj).1, (h4 j hj).2.ext hE⟩⟩

theorem RdII.nil (w : World) : RdII w (.slice none 0 0) [] := ⟨none, 0, 0, 0, fun _ => undef, rfl, by simp, by omega, by simp, by simp⟩

/-! ### owned rows -/

/-- w' is w but for new blocks and the blocks fp -/
structure Off (fp : List Nat) (w w' : World) : Prop where
  os : w'.os = w.os
  tape : w'.tape = w.tape
  output : w'.output = w.output
  size : w.heap.size ≤ w'.heap.size
  block : ∀ k, k < w.heap.size → k ∉ fp → w'.heap[k]? = w.heap[k]?

theorem Off.refl (fp : List Nat) (w : World) : Off fp w w := ⟨rfl, rfl, rfl, Nat.le_refl _, fun _ _ _ => rfl⟩
theorem Off.trans {fp : List Nat} {a b c : World} (h : Off fp a b) (k : Off fp b c) : Off fp a c :=
  ⟨k.os.trans h.os, k.tape.trans h.tape, k.output.trans h.output, Nat.le_trans h.size k.size, fun i hi hn => (k.block i (Nat.lt_of_lt_of_le hi h.size) hn).trans (h.block i hi hn)⟩
theorem Off.mono {fp fp' : List Nat} {w w' : World} (h : Off fp w w') (hs : ∀ k ∈ fp, k ∈ fp') : Off fp' w w' :=
  ⟨h.os, h.tape, h.output, h.size, fun k hk hn => h.block k hk fun hm => hn (hs k hm)⟩
theorem Off.of_ext {fp : List Nat} {w w' : World} (h : Ext w w') : Off fp w w' := ⟨h.os, h.tape, h.output, h.size, fun k hk _ => h.block k hk⟩
theorem Off.below {fp : List Nat} {w w' : World} {B : Nat} (h : Off fp w w') (hB : B ≤ w.heap.size) (hf : ∀ k ∈ fp, B ≤ k) : Below B w w' :=
  ⟨h.os, h.tape, h.output, h.size, fun k hk => h.block k (by omega) fun hm => by have := hf k hm; omega⟩
theorem Off.cell {fp : List Nat} {w w' : World} (h : Off fp w w') {p : Addr} {v : Value} (hc : w.cell? p = some v) (hn : p.block ∉ fp) : w'.cell? p = some v := by
  rw [World.cell?_of_block (h.block _ (lt_of_cell hc) hn)]; exact hc

/-- v owns the row xs of one-cell elements of type e, in block g (none: nil) -/
def Own1 (e : TypeId) (w : World) (v : Value) (xs : List Value) (g : Option Nat) : Prop := w.ownsRow 0 e 1 v xs.length xs ∧ v.ownBlock = g

theorem own_kept {e : TypeId} {base size n : Nat} {w w' : World} {v : Value} {xs : List Value} (h : w.ownsRow base e size v n xs) (hb : ∀ g, v.ownBlock = some g → w'.heap[g]? = w.heap[g]?) : w'.ownsRow base e size v n xs := by
  refine ⟨h.1, ?_⟩
  rcases h.2 with hn | ⟨g, cap, cur, rfl, hbg, hg, rest⟩
  · exact .inl hn
  · exact .inr ⟨g, cap, cur, rfl, hbg, by rw [hb g rfl]; exact hg, rest⟩

theorem own_base {e : TypeId} {base base' size n : Nat} {w : World} {v : Value} {xs : List Value} (h : w.ownsRow base e size v n xs) (hb : ∀ g, v.ownBlock = some g → base' ≤ g) : w.ownsRow base' e size v n xs := by
  refine ⟨h.1, ?_⟩
  rcases h.2 with hn | ⟨g, cap, cur, rfl, hbg, hg, rest⟩
  · exact .inl hn
  · exact .inr ⟨g, cap, cur, rfl, hb g rfl, hg, rest⟩

theorem own_lt {e : TypeId} {base size n : Nat} {w : World} {v : Value} {xs : List Value} (h : w.ownsRow base e size v n xs) : ∀ g, v.ownBlock = some g → g < w.heap.size := fun g hg => (h.lt g hg).2

theorem own_ext {e : TypeId} {base size n : Nat} {w w' : World} {v : Value} {xs : List Value} (h : w.ownsRow base e size v n xs) (hE : Ext w w') : w'.ownsRow base e size v n xs :=
  own_kept h fun g hg => hE.block g (own_lt h g hg)

theorem set_fill {α : Type} (l : List α) (z : α) (k : Nat) (hk : k < l.length) :
    (l.take k ++ List.replicate (l.length - k) z).set k l[k] = l.take (k + 1) ++ List.replicate (l.length - (k + 1)) z := by
  rw [List.set_append, if_neg (by simp; omega)]
  have h1 : k - (l.take k).length = 0 := by simp; omega
  have h2 : l.length - k = (l.length - (k + 1)) + 1 := by omega
  rw [h1, h2, List.replicate_succ, List.set_cons_zero, List.take_succ_eq_append_getElem hk, List.append_assoc]
  rfl

/-- one store of a filling loop -/
theorem own_fill {w : World} {e : TypeId} {g cap : Nat} {l : List Value} {z : Value} {k : Nat} {x : Value} (hk : k < l.length) (hx : l[k] = x)
    (h : w.ownsRow 0 e 1 (.slice (some ⟨g, 0, none⟩) l.length cap) l.length (l.take k ++ List.replicate (l.length - k) z)) :
    (w.setCell ⟨g, k, none⟩ x).ownsRow 0 e 1 (.slice (some ⟨g, 0, none⟩) l.length cap) l.length (l.take (k + 1) ++ List.replicate (l.length - (k + 1)) z) := by
  have := (h.stored k x).1
  rw [← hx, set_fill l z k hk] at this
  rwa [← hx]

theorem own_cell {w : World} {e : TypeId} {g cap n : Nat} {xs : List Value} (h : w.ownsRow 0 e 1 (.slice (some ⟨g, 0, none⟩) n cap) n xs) (k : Nat) (hk : k < n) :
    ∃ u, w.cell? ⟨g, k, none⟩ = some u := by
  have := h.cellAt k (by omega)
  have hl := h.1
  rw [this]
  exact ⟨xs[k]'(by omega), by simp⟩

/-- v owns the integers l: their one block is fp's (nil: no block) -/
def OwnI (e : TypeId) (w : World) (v : Value) (l : List Int) (fp : List Nat) : Prop := w.ownsRow 0 e 1 v l.length (l.map (Value.int .i64)) ∧ fp = v.ownBlock.toList

theorem OwnI.kept {e : TypeId} {w w' : World} {v : Value} {l : List Int} {fp : List Nat} (h : OwnI e w v l fp) (hb : ∀ g ∈ fp, w'.heap[g]? = w.heap[g]?) : OwnI e w' v l fp :=
  ⟨own_kept h.1 fun g hg => hb g (by rw [h.2, hg]; simp), h.2⟩
theorem OwnI.lt {e : TypeId} {w : World} {v : Value} {l : List Int} {fp : List Nat} (h : OwnI e w v l fp) : ∀ g ∈ fp, g < w.heap.size := by
  intro g hg
  rw [h.2] at hg
  exact own_lt h.1 g (by simpa using hg)
theorem OwnI.ext {e : TypeId} {w w' : World} {v : Value} {l : List Int} {fp : List Nat} (h : OwnI e w v l fp) (hE : Ext w w') : OwnI e w' v l fp := h.kept fun g hg => hE.block g (h.lt g hg)
theorem OwnI.off {e : TypeId} {w w' : World} {v : Value} {l : List Int} {fp fp' : List Nat} (h : OwnI e w v l fp) (hO : Off fp' w w') (hd : ∀ g ∈ fp, g ∉ fp') : OwnI e w' v l fp := h.kept fun g hg => hO.block g (h.lt g hg) (hd g hg)

theorem OwnI.set {e : TypeId} {w : World} {v : Value} {l : List Int} {fp : List Nat} (h : OwnI e w v l fp) {p : Addr} (hp : p.block ∉ fp) (u : Value) : OwnI e (w.setCell p u) v l fp :=
  h.kept fun _ hg => Below.heap_setCell _ _ _ _ fun hh => hp (hh ▸ hg)
theorem OwnI.alloc {e : TypeId} {w : World} {v : Value} {l : List Int} {fp : List Nat} (h : OwnI e w v l fp) (o : Obj) : OwnI e (w.alloc o) v l fp := h.ext ((Ext.refl' w).alloc (Nat.le_refl _) o)

theorem own_parts {w : World} {base e n : Nat} {v : Value} {xs : List Value} (h : w.ownsRow base e 1 v n xs) :
    ∃ a b cap, v = .slice a n cap ∧ xs.length = n ∧ n ≤ cap ∧ cap ≤ 9223372036854775807 ∧ (0 < n → a = some ⟨b, 0, none⟩) ∧ (0 < n → v.ownBlock = some b) ∧ (∀ j (hj : j < xs.length), w.cell? ⟨b, 0 + j, none⟩ = some xs[j]) ∧ ∀ j, 0 < n → w.frozen? ⟨b, 0 + j, none⟩ = false := by
  have hl : xs.length = n := by simpa using h.1
  rcases h.2 with ⟨rfl, rfl⟩ | ⟨g, cap, cur, rfl, hbg, hg, hn, hm, hs, ht⟩
  · exact ⟨none, 0, 0, rfl, hl, by omega, by omega, by simp, by simp, fun j hj => by omega, fun j hj => by omega⟩
  · refine ⟨_, g, cap, rfl, hl, hn, by unfold maxLen at hm; omega, fun _ => rfl, fun _ => rfl, fun j hj => ?_, fun j _ => ?_⟩
    · have := h.cellAt j (by omega)
      rw [Nat.zero_add, this]
      simp
    · exact h.frozenAt _

theorem OwnI.rd {e : TypeId} {w : World} {v : Value} {l : List Int} {fp : List Nat} (h : OwnI e w v l fp) : RdI w v l := by
  obtain ⟨a, b, cap, hv, hl, h1, h2, h3, _, h4, _⟩ := own_parts h.1
  exact ⟨a, b, 0, cap, hv, h1, h2, h3, fun j hj => by rw [h4 j (by simpa using hj)]; simp⟩

theorem OwnI.form {e : TypeId} {w : World} {v : Value} {l : List Int} {fp : List Nat} (h : OwnI e w v l fp) : ∃ a c, v = .slice a l.length c := by
  obtain ⟨a, b, cap, hv, _⟩ := own_parts h.1
  exact ⟨a, cap, hv⟩

/-- v owns the lists ll: fp: all their blocks, no two alike -/
def OwnII (e e2 : TypeId) (w : World) (v : Value) (ll : List (List Int)) (fp : List Nat) : Prop :=
  ∃ (vs : List Value) (fs : List (List Nat)), vs.length = ll.length ∧ fs.length = ll.length ∧ w.ownsRow 0 e2 1 v ll.length vs ∧ fp = v.ownBlock.toList ++ fs.flatten ∧ fp.Nodup ∧
    ∀ j (hj : j < ll.length) (hv : j < vs.length) (hf : j < fs.length), OwnI e w vs[j] ll[j] fs[j]

/-! ### stores, rows of one cell, what an append leaves -/
theorem Off.set {fp : List Nat} {w : World} {p : Addr} {u : Value} (hp : p.block ∈ fp) : Off fp w (w.setCell p u) :=
  ⟨rfl, rfl, rfl, by simp [World.setCell], fun _ _ hj => Below.heap_setCell _ _ _ _ (by rintro rfl; exact hj hp)⟩
theorem cell_set {w : World} {p q : Addr} {u v : Value} (h : w.cell? p = some v) (hn : q.block ≠ p.block ∨ q.off ≠ p.off) : (w.setCell q u).cell? p = some v := by
  rw [World.cell?_setCell_other]
  · exact h
  · rintro rfl
    rcases hn with hn | hn <;> exact hn rfl
theorem cell_same {w : World} {p : Addr} {u v : Value} (h : w.cell? p = some u) : (w.setCell p v).cell? p = some v := World.cell?_setCell_same _ _ _ h
theorem cells_one {w : World} {b : Nat} {x : Value} (h : w.cell? ⟨b, 0, none⟩ = some x) : ∀ (j : Nat) u, ([x] : List Value)[j]? = some u → w.cell? ((⟨b, 0, none⟩ : Addr).add j) = some u := by
  intro j u hj
  match j, hj with
  | 0, hj =>
    simp at hj
    subst hj
    simpa [Addr.add] using h
theorem own_ne {e : TypeId} {base n : Nat} {w : World} {v : Value} {xs : List Value} (h : w.ownsRow base e 1 v n xs) {b : Nat} (hb : b < base) : some b ≠ v.ownBlock := by
  intro hh
  have := (h.lt b hh.symm).1
  omega
theorem grown_frozen {w w' : World} {row : Option Nat} (hg : w.grownBy w' row) {p : Addr} (hp : p.block < w.heap.size) (hne : some p.block ≠ row) : w'.frozen? p = w.frozen? p :=
  World.frozen?_of_block (hg.block _ hp hne)
theorem own_set {e : TypeId} {base n : Nat} {w : World} {v : Value} {xs : List Value} (h : w.ownsRow base e 1 v n xs) {p : Addr} (hp : p.block < base) (u : Value) : (w.setCell p u).ownsRow base e 1 v n xs :=
  own_kept h fun g hg => Below.heap_setCell _ _ _ _ (by have := (h.lt g hg).1; omega)

end Go.Proofs.YtajkepdfemdagaaGreatDoor
