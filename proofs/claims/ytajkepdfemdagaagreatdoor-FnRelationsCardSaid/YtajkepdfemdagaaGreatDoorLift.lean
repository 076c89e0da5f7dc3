
/- From a walk that ends in true, with new blocks alone, to what a row says; and how the row's readings open into this seat's data. -/
import Derived.Test.YtajkepdfemdagaaGreatDoorInts
import Derived.Test.YtajkepdfemdagaaGreatDoorRows
import Derived.Deep.Slices
import Derived.Lib.SmallJoins
namespace Go.Proofs.YtajkepdfemdagaaGreatDoor
open Go.ChangeShapes Go.WideShapes Go.ChangeAt Go.RowKit Go.Joins Go.Deep

theorem own_knob : ownKnob Tryz.prog.godebug = none := by kernel_rfl
theorem laid_out : laidOutB Tryz.prog = true := by kernel_rfl
theorem cellsI : Tryz.prog.cellsOf 2 = 1 := by kernel_rfl

/-- the reading of all arguments stays as memory grows -/
theorem trodAll_ext {P : Program} (hl : laidOutB P = true) {H : Type} {enc : TypeId × Value → H} {W W' : World} (hE : Ext W W') : ∀ {ts : List TypeId} {vs : List Value} {ds : List (DataW H)} {ps : List MemPlace}, (ts.all fun t => P.readableRec t && decide (t < P.types.size)) = true →
    DataW.TrodAll enc P W 0 (fun _ => true) true ts vs ds ps → (∀ x ∈ ps, x.block < W.heap.size) → DataW.TrodAll enc P W' 0 (fun b => decide (b < W.heap.size)) true ts vs ds ps
  | [], vs, ds, ps, _, h, _ => by
    obtain ⟨rfl, rfl, rfl⟩ := trodAll_nil h
    exact trodAll_mk0
  | t :: ts, vs, ds, ps, hr, h, hlt => by
    obtain ⟨v, vs', d, ds', p, q, rfl, rfl, rfl, h0, h1⟩ := trodAll_cons h
    simp only [List.all_cons, Bool.and_eq_true, decide_eq_true_eq] at hr
    exact trodAll_cons_mk (Below.trod hl hr.1.1 hr.1.2 h0 hE fun x hx => hlt x (by simp [hx])) (trodAll_ext hl hE hr.2 h1 fun x hx => hlt x (by simp [hx]))

theorem law_post {H : Type} {enc : TypeId × Value → H} {f : Func} {s : ChangeSpec} {W W' : World} {args : Array Value} {ds : List (DataW H)} {before : List MemPlace}
    (hv : s.vars = []) (hrt : f.resultTypes = #[4]) (hread : (f.params.toList.all fun t => Tryz.prog.readableRec t && decide (t < Tryz.prog.types.size)) = true)
    (hW : DataW.Whole enc Tryz.prog f.params.toList s.vars false W args.toList ds [] before) (hE : Ext W W')
    (hs1 : (s.fn H ds).results = [.lit (.bool true)]) (hs2 : (s.fn H ds).args = ds) (hs3 : (s.fn H ds).vars = []) :
    s.post enc Tryz.prog f false true false false W args (.bool true) W' := by
  have hlt : ∀ x ∈ before, x.block < W.heap.size := fun x hx => by simpa using hW.lt x hx
  obtain ⟨p, q, hA, hV, hpq, hrest⟩ := id hW
  have hq : q = [] := by
    rw [hv] at hV
    exact hV
  subst hq
  rw [List.append_nil] at hpq
  subst hpq
  refine ⟨ds, [], before, [], before, [], hW, ?_, ?_, ?_, hE.frame _, fun h => by cases h⟩
  · rw [List.append_nil, hs1, hrt]
    exact trodAll_cons_mk (shut_bool Tryz.underlying4 _) trodAll_mk0
  · rw [List.append_nil, hs2]
    exact trodAll_ext laid_out hE hread hA hlt
  · rw [List.append_nil, hs3, hv]
    exact rfl

/-! ### readings opened -/
section
variable {H : Type} {enc : TypeId × Value → H} {W : World}

set_option maxRecDepth 100000 in
theorem rdI_of {fuel : Nat} {v : Value} {x : DataW H × List MemPlace} (h : DataW.trod enc Tryz.prog W 0 (fun _ => true) true fuel 37 [v] = some x) : ∃ l, RdI W v l := by
  rcases open_ints Tryz.underlying37 Tryz.underlying2 cellsI h with ⟨hcs, _⟩ | ⟨a, len, cap, zs, hcs, _, hl, hm, hz, _, hcell, _⟩
  · simp at hcs
    subst hcs
    exact ⟨[], RdI.nil W⟩
  · simp at hcs
    subst hcs
    simp only [if_true] at hz
    refine ⟨zs.take len, ?_⟩
    have hlen : (zs.take len).length = len := by simp; omega
    by_cases hp : 0 < zs.length
    · obtain ⟨b, off, rfl, hc⟩ := ints_at hcell hp
      refine ⟨some ⟨b, off, none⟩, b, off, cap, by rw [hlen], by omega, by unfold maxLen at hm; omega, fun _ => rfl, fun j hj => ?_⟩
      rw [hc j (by omega)]
      simp
      rw [List.getElem?_eq_getElem (by omega)]
      rfl
    · refine ⟨some a, 0, 0, cap, by rw [hlen], by omega, by unfold maxLen at hm; omega, fun h => by omega, fun j hj => by omega⟩

set_option maxRecDepth 100000 in
theorem int_of {v : Value} {d : DataW H} {p : List MemPlace} {b : Nat} (h : DataW.Trod enc Tryz.prog W 0 (fun _ => true) true 2 v d p) (hv : Value.okWide Tryz.prog W .any b 2 v) : ∃ n : Int, v = .int .i64 n ∧ -9223372036854775808 ≤ n ∧ n ≤ 9223372036854775807 := by
  obtain ⟨x, rfl, _, _, wx⟩ := open_int Tryz.underlying2 hv h
  have := wx
  simp [Lit.wf, IntKind.min, IntKind.max, IntKind.signed, IntKind.bits] at this
  exact ⟨x, rfl, by omega, by omega⟩

set_option maxRecDepth 100000 in
theorem dI_of {v : Value} {d : DataW H} {p : List MemPlace} {b : Nat} (h : DataW.Trod enc Tryz.prog W 0 (fun _ => true) true 37 v d p) (hv : Value.okWide Tryz.prog W .any b 37 v) : ∃ l, RdI W v l := by
  obtain ⟨a0, len, cap, rfl⟩ := okWide_slice Tryz.underlying37 hv
  obtain ⟨fuel, hf⟩ := h
  exact rdI_of hf
end

end Go.Proofs.YtajkepdfemdagaaGreatDoor
