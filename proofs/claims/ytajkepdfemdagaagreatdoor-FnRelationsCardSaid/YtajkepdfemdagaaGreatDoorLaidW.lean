
/- What a row with laid variables gives a walk: the table, the sentinels' cells, some number in the library's own variable; the wrap that keeps the world's shape. -/
import Derived.Test.YtajkepdfemdagaaGreatDoorLift
import Derived.Test.YtajkepdfemdagaaGreatDoorNum
import Derived.Lib.LaidU8
import Derived.LaidLaws
import Derived.LaidMore
import Derived.Lay
import Derived.Shelf.Vars
import Derived.ChangeMaps5
import Derived.SizedLaws
namespace Go.Proofs.YtajkepdfemdagaaGreatDoor
open Go.ChangeShapes Go.WideShapes Go.ChangeAt Go.RowKit Go.Joins Go.Deep
set_option linter.unusedVariables false

theorem gTab : Tryz.prog.globalNamed "internal/strconv.uint64pow10" = some 5 := by kernel_rfl
theorem tTab : (Tryz.prog.globals[5]?).map (·.type) = some 219 := by kernel_rfl
theorem gSyn : Tryz.prog.globalNamed "strconv.ErrSyntax" = some 1 := by kernel_rfl
theorem tSyn : (Tryz.prog.globals[1]?).map (·.type) = some 111 := by kernel_rfl
theorem gRng : Tryz.prog.globalNamed "strconv.ErrRange" = some 2 := by kernel_rfl
theorem tRng : (Tryz.prog.globals[2]?).map (·.type) = some 111 := by kernel_rfl
theorem sentinel_cell {W : World} {n nm : String} {d : DataW Unit} {g : Nat} (h : Lib.VarReads Tryz.prog W n (.iface nm d)) (hg : Tryz.prog.globalNamed n = some g) (ht : (Tryz.prog.globals[g]?).map (·.type) = some 111) :
    ∃ ev, W.cell? ⟨g, 0, none⟩ = some ev ∧ (ev = .nilIface ∨ ∃ te pe, ev = .iface te pe) := by
  obtain ⟨g', t', cs, fuel, p, hg', ht', hv, hd⟩ := h
  obtain rfl := Option.some.inj (hg.symm.trans hg')
  obtain rfl := Option.some.inj (ht.symm.trans ht')
  obtain ⟨_, u, v, hcs, _, _⟩ := iface_of_trod Tryz.underlying111 hd
  have hc := World.var?_cell hg hv 0
  refine ⟨.iface u v, ?_, .inr ⟨u, v, rfl⟩⟩
  obtain ⟨l⟩ := cs
  simp at hcs
  subst hcs
  simpa using hc
theorem laidW_of {W : World} {l : List (String × DataW Unit)} (hL : laidMet Tryz.prog l W) (h1 : ("internal/strconv.uint64pow10", Rows.laid_internal_strconv_uint64pow10) ∈ l) (h2 : ("strconv.ErrSyntax", Rows.laid_strconv_ErrSyntax) ∈ l) (h3 : ("strconv.ErrRange", Rows.laid_strconv_ErrRange) ∈ l) (hsh : W.ShapedOpen Tryz.prog) : LaidW W := by
  refine ⟨?_, ?_, sentinel_cell (Lib.laidMet.reads hL h2) gSyn tSyn, sentinel_cell (Lib.laidMet.reads hL h3) gRng tRng⟩
  · obtain ⟨g', t', cs, fuel, p, hg', ht', hv, hd⟩ := Lib.laidMet.reads hL h1
    obtain rfl := Option.some.inj (gTab.symm.trans hg')
    obtain rfl := Option.some.inj (tTab.symm.trans ht')
    unfold Lib.TabIs
    rw [hv, ← Lib.cells_of_tab (zs := Lib.pow10Tab) Tryz.underlying219 Tryz.underlying117 (by kernel_rfl) (by kernel_rfl) (show DataW.trod (fun _ => ()) Tryz.prog W 0 (fun _ => true) false fuel 219 cs.toList = some (Lib.tabData .u64 Lib.pow10Tab, p) from hd)]
  · exact cell_of_shapedOpen_int (t := 3) (zero := #[.int .i64 0]) (k := .i64) hsh (by decide +kernel) (by kernel_rfl) rfl (by kernel_rfl) (by kernel_rfl) Tryz.underlying3

set_option maxRecDepth 100000 in
theorem string_of {H : Type} {enc : TypeId × Value → H} {W : World} {v : Value} {d : DataW H} {p : List MemPlace} {b : Nat} (h : DataW.Trod enc Tryz.prog W 0 (fun _ => true) true 9 v d p) (hv : Value.okWide Tryz.prog W .any b 9 v) : ∃ s : ByteArray, v = .string s ∧ s.size ≤ 9223372036854775807 := by
  obtain ⟨s, rfl, _, _, hs⟩ := Go.ChangeMaps.open_string Tryz.underlying9 hv h
  exact ⟨s, rfl, by unfold maxLen at hs; omega⟩

/-- the wrap: what is laid, and the world's shape, handed on -/
theorem handed_sh {H : Type} {enc : TypeId × Value → H} {a : Assume} {C : Checked} {os : Os} {f : FuncId} {fn : Func} {s : ChangeSpec} {conds : List PathCond} {apart fresh handsOn again : Bool} {X : World → Array Value → Prop}
    (hX : ∀ (w w' : World) (args : Array Value), w.heap = w'.heap → X w args → X w' args)
    (own : ownKnob C.prog.godebug = none) (started : os.Started) (noInit : C.prog.inits.idxOf? f = none) (hfn : C.prog.funcs[f]? = some fn)
    (witness : ∃ (w : World) (tape : Tape) (i : Input), w.os = os ∧ (w.forCall tape i).Shaped C.prog ∧ i.vars = [] ∧ Input.okWide C.prog (w.forCall tape i) .any w.heap.size f i ∧
      ((s.pre enc C.prog fn conds apart (w.forCall tape i).memory i.args ∧ X (w.forCall tape i).memory i.args) ∧ sizedMet enc C.prog fn (OpenSpec.ofChange s) apart (w.forCall tape i).memory i.args) ∧ a.holds C.prog (lone (Frame.enter C.prog f i.args .normal) [] (w.forCall tape i)))
    (contract : ∀ (W : World) (base : Nat) (args : Array Value) (ds gs : List (DataW H)) (before : List MemPlace),
      (∀ (j : Nat) t v, fn.params[j]? = some t → args[j]? = some v → Value.okWide C.prog W .any base t v) →
      DataW.Whole enc C.prog fn.params.toList s.vars apart W args.toList ds gs before → X W args → W.ShapedOpen C.prog →
      Calls C.prog f args W fun e W' => ∃ v, e = .returned v ∧ s.post enc C.prog fn apart fresh handsOn again W args v W') :
    ReturnsInHanded a C os f .any (fun w args => (s.pre enc C.prog fn conds apart w args ∧ X w args) ∧ sizedMet enc C.prog fn (OpenSpec.ofChange s) apart w args) (s.post enc C.prog fn apart fresh handsOn again) := by
  refine returnsInHanded_of_calls own started noInit witness ?_
  intro w tape i _ hsh _ hok hpre _
  obtain ⟨_, _, _, fn', hfn', _, _, _, _, hval⟩ := hok
  obtain rfl : fn' = fn := Option.some.inj (hfn'.symm.trans hfn)
  obtain ⟨⟨⟨ds, gs, before, hw, _⟩, hx⟩, _⟩ := hpre
  refine (contract (w.forCall tape i) w.heap.size i.args ds gs before hval (DataW.Whole.of_heap (w' := w.forCall tape i) (by rfl) hw) (hX _ _ _ (by rfl) hx) hsh).mono fun e W' ⟨v, he, hp⟩ => ?_
  subst he
  exact ChangeSpec.post_blind hp
end Go.Proofs.YtajkepdfemdagaaGreatDoor
