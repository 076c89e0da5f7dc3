
/- The reference's sets of tuples, told by their numbers. -/
import Derived.Test.YtemhmpnnccmlmaaRelLoop
import Derived.Test.YtemhmpnnccmlmaaCode
namespace Go.Proofs.Ytemhmpnnccmlmaa
open Go.RowKit
set_option linter.unusedVariables false

def setRel (s m : Int) (hs : List Bool) : Int × List (List Int) := (m, allC s m (fun k => hs.getD k false) (count s m))
def OB (w : World) (v : Value) (hs : List Bool) (fp : List Nat) : Prop := w.ownsRow 0 4 1 v hs.length (hs.map Value.bool) ∧ fp = v.ownBlock.toList
theorem OB.lt {w : World} {v : Value} {hs : List Bool} {fp : List Nat} (h : OB w v hs fp) : ∀ g ∈ fp, g < w.heap.size := fun g hg => own_lt h.1 g (by rw [h.2] at hg; simpa using hg)
theorem OB.ext {w w' : World} {v : Value} {hs : List Bool} {fp : List Nat} (h : OB w v hs fp) (hE : Ext w w') : OB w' v hs fp := ⟨own_ext h.1 hE, h.2⟩
theorem OB.form {w : World} {v : Value} {hs : List Bool} {fp : List Nat} (h : OB w v hs fp) : ∃ a c, v = .slice a hs.length c := by
  obtain ⟨a, b, cap, hv, _⟩ := own_parts h.1
  exact ⟨a, cap, hv⟩
/-- one place: its cell, and what a store there leaves -/
theorem OB.at {w : World} {v : Value} {hs : List Bool} {fp : List Nat} (h : OB w v hs fp) (k : Nat) (hk : k < hs.length) :
    ∃ b cap, v = .slice (some ⟨b, 0, none⟩) hs.length cap ∧ w.cell? ⟨b, k, none⟩ = some (.bool hs[k]) ∧ w.frozen? ⟨b, k, none⟩ = false ∧ b ∈ fp ∧ hs.length ≤ cap ∧ cap ≤ 9223372036854775807 ∧ ∀ x, OB (w.setCell ⟨b, k, none⟩ (.bool x)) v (hs.set k x) fp := by
  obtain ⟨ho, hfp⟩ := h
  obtain ⟨a, b, cap, rfl, h1, h2, h3, h4, h5, h6, -⟩ := own_parts ho
  obtain rfl := h4 (by omega)
  have hc := h6 k (by simpa using hk)
  rw [Nat.zero_add] at hc
  refine ⟨b, cap, rfl, by simpa using hc, ho.frozenAt k, by rw [hfp]; simp [Value.ownBlock], h2, h3, fun x => ⟨?_, hfp⟩⟩
  have := (ho.stored k (.bool x)).1
  rw [← List.map_set] at this
  rw [List.length_set]
  exact this

/-- a pointer at a set: its size, its arity, its marks (in the blocks fp) -/
def OSet (w : World) (p : Value) (s m : Int) (hs : List Bool) (fp : List Nat) : Prop :=
  ∃ b tv, p = .pointer (some ⟨b, 0, none⟩) ∧ w.cell? ⟨b, 0, none⟩ = some (.int .i64 s) ∧ w.cell? ⟨b, 1, none⟩ = some (.int .i64 m) ∧ w.cell? ⟨b, 2, none⟩ = some tv ∧ OB w tv hs fp ∧ b ∉ fp
theorem OSet.ext {w w' : World} {p : Value} {s m : Int} {hs : List Bool} {fp : List Nat} (h : OSet w p s m hs fp) (hE : Ext w w') : OSet w' p s m hs fp := by
  obtain ⟨b, tv, h1, h2, h3, h4, h5, h6⟩ := h
  exact ⟨b, tv, h1, hE.cell h2, hE.cell h3, hE.cell h4, h5.ext hE, h6⟩

theorem infoB : (Try.prog.info? 4).map (fun i => (i.zero, i.size, i.bytes)) = some (some (.bool false), 1, 1) := by kernel_rfl

set_option maxHeartbeats 1000000 in
theorem l01Empty_any (s m : Int) (w : World) (hs : 1 ≤ s) (hs2 : s ≤ 4) (hm : 1 ≤ m) (hm2 : m ≤ 4) :
    Calls Try.prog 131 #[.int .i64 s, .int .i64 m] w fun e w' => ∃ p fp, e = .returned p ∧ Ext w w' ∧ OSet w' p s m (List.replicate (count s m) false) fp ∧ ∀ g ∈ fp, w.heap.size ≤ g := by
  obtain ⟨i0, hi, hz0, hz1, hz2⟩ := info_parts infoB
  have hN := count_eq s m hs hs2 hm hm2
  have hN2 := powW_small s m hs hs2 hm hm2
  have hN3 : count s m ≤ 256 := by omega
  have HN := Lib.hid hN
  clear hN
  go_enter Try.func131, Try.ntmps131
  go_wp2_with fail
  refine (l01Power_any _ _ _ (by omega) (by omega)).mono ?_
  rintro e w' ⟨rfl, rfl⟩
  rw [← HN.out]
  go_wp2_with (at_make; refine wpList_make_full _ rfl _ _ 127 rfl 0 4 i0 (.bool false) 1 Try.underlying127 hi hz0 hz1 _ _ _ _ (count s m) rfl rfl rfl rfl (by rw [hz2]; omega) (by unfold maxLen; omega) (by omega) ?_)
  intro w1 hown hgr
  have hE1 : Ext w w1 := (Ext.refl' w).grown hgr (Nat.le_refl _) (by simp)
  have hlt := (hown.lt _ rfl).2
  have ho : OB w1 (.slice (some ⟨w.heap.size, 0, none⟩) (count s m) (count s m)) (List.replicate (count s m) false) [w.heap.size] := by
    refine ⟨?_, rfl⟩
    rw [List.length_replicate, List.map_replicate]
    simpa [Value.cells, toList_madeCells_one] using hown
  have hA : Ext w1 (w1.alloc (.cells #[.int .i64 s, .int .i64 m, .slice (some ⟨w.heap.size, 0, none⟩) (count s m) (count s m)] 129)) := (Ext.refl' w1).alloc (Nat.le_refl _) _
  clear hown hgr
  go_wp2_with fail
  go_ret
  refine ⟨_, rfl, hE1.tr hA, [w.heap.size], ⟨w1.heap.size, _, rfl, by simp [go_sem], by simp [go_sem], by simp [go_sem], ho.ext hA, ?_⟩, by simp⟩
  simp
  omega

end Go.Proofs.Ytemhmpnnccmlmaa
