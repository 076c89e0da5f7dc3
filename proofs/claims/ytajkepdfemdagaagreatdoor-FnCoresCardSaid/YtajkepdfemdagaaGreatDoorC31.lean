/- The laws' own functions over one operation. Which operations are valid: the program's answer and the reference's are one function's. -/
import Derived.Test.YtajkepdfemdagaaGreatDoorC02
import Derived.Test.YtajkepdfemdagaaGreatDoorC05
namespace Go.Proofs.YtajkepdfemdagaaGreatDoor
open Go.RowKit
set_option linter.unusedVariables false

theorem heldI_neg {l : List Int} {k : Int} (h : heldI l k < 0) (hk : 0 ≤ k) : heldI l k = -1 := by
  unfold heldI at *
  split at h
  · omega
  · rename_i hh; rw [if_neg hh]

/-- v reads as the operation f: its arity, its table -/
def RdOp (w : World) (v : Value) (f : Int × List Int) : Prop := ∃ tv, v = .agg #[.int .i64 f.1, tv] ∧ RdI w tv f.2
theorem RdOp.ext {w w' : World} {v : Value} {f : Int × List Int} (h : RdOp w v f) (hE : Ext w w') : RdOp w' v f := let ⟨tv, h1, h2⟩ := h; ⟨tv, h1, h2.ext hE⟩
def OwnOp (w : World) (v : Value) (f : Int × List Int) (fp : List Nat) : Prop := ∃ tv, v = .agg #[.int .i64 f.1, tv] ∧ OI w tv f.2 fp
theorem OwnOp.rd {w : World} {v : Value} {f : Int × List Int} {fp : List Nat} (h : OwnOp w v f fp) : RdOp w v f := let ⟨tv, h1, h2⟩ := h; ⟨tv, h1, h2.rd⟩
theorem OwnOp.ext {w w' : World} {v : Value} {f : Int × List Int} {fp : List Nat} (h : OwnOp w v f fp) (hE : Ext w w') : OwnOp w' v f fp := let ⟨tv, h1, h2⟩ := h; ⟨tv, h1, h2.ext hE⟩
theorem OwnOp.lt {w : World} {v : Value} {f : Int × List Int} {fp : List Nat} (h : OwnOp w v f fp) : ∀ g ∈ fp, g < w.heap.size := let ⟨_, _, h2⟩ := h; h2.lt
theorem OwnOp.off {w w' : World} {v : Value} {f : Int × List Int} {fp fp' : List Nat} (h : OwnOp w v f fp) (hO : Off fp' w w') (hd : ∀ g ∈ fp, g ∉ fp') : OwnOp w' v f fp := let ⟨tv, h1, h2⟩ := h; ⟨tv, h1, h2.off hO hd⟩

theorem RdOp.form {w : World} {v : Value} {f : Int × List Int} (h : RdOp w v f) : ∃ tv, v = .agg #[.int .i64 f.1, tv] := let ⟨tv, h1, _⟩ := h; ⟨tv, h1⟩
theorem OwnOp.form {w : World} {v : Value} {f : Int × List Int} {fp : List Nat} (h : OwnOp w v f fp) : ∃ a c, v = .agg #[.int .i64 f.1, .slice a f.2.length c] := by
  obtain ⟨tv, rfl, h⟩ := h
  obtain ⟨a, c, rfl⟩ := h.form
  exact ⟨a, c, rfl⟩
/-- an operation's size, its marks, what is held of them -/
def szOp (f : Int × List Int) : Nat := f.2.length
def mkOp (f : Int × List Int) : Nat := f.2.length
def marksOp (k : Int) (f : Int × List Int) : Int × List Int := (f.1, marksI k f.2.length)
def heldOp (f : Int × List Int) (k : Int) : Int := heldI f.2 k
theorem heldOp_marks (k : Int) (f : Int × List Int) : heldOp (marksOp k f) k = k + mkOp f := heldI_marks k _
theorem mkOp_le (f : Int × List Int) : mkOp f ≤ szOp f := Nat.le_refl _
theorem mkOp_marks (k : Int) (f : Int × List Int) : mkOp (marksOp k f) = mkOp f := marksI_length _ _

def SP.ownOp (f : Int × List Int) : SP := ⟨fun v w => ∃ fp, OwnOp w v f fp, fun _ _ _ ⟨fp, h⟩ hE => ⟨fp, h.ext hE⟩⟩
theorem rdOp_of_sp {w : World} {v : Value} {f : Int × List Int} (h : ∃ fp, OwnOp w v f fp) : RdOp w v f := let ⟨_, h⟩ := h; h.rd
def SSameOp (f g : Int × List Int) : Bool := decide (f = g)

/-- what a function leaves that answers an operation and a code -/
def OpRes (R : (Int × List Int) × Int) (w : World) (e : Ending) (w' : World) : Prop :=
  ∃ u fp, e = .returned (.tuple #[u, .int .i64 R.2]) ∧ Ext w w' ∧ OwnOp w' u R.1 fp ∧ (∀ h ∈ fp, w.heap.size ≤ h) ∧ mkOp R.1 ≤ 1048576
theorem OpRes.of {R : (Int × List Int) × Int} {w w' : World} {u : Value} {c : Int} {fp : List Nat} (hc : c = R.2) (hE : Ext w w') (ho : OwnOp w' u R.1 fp) (hf : ∀ h ∈ fp, w.heap.size ≤ h) (hb : mkOp R.1 ≤ 1048576) : OpRes R w (.returned (.tuple #[u, .int .i64 c])) w' := by
  subst hc
  exact ⟨u, fp, rfl, hE, ho, hf, hb⟩
def noOp : Int × List Int := (0, [])
theorem noOp_own (w : World) : OwnOp w (.agg #[.int .i64 0, .slice none 0 0]) noOp [] := ⟨_, rfl, World.ownsRow_nil _ _ _ _, rfl⟩
theorem OpRes.no {c : Int} {w w' : World} (hE : Ext w w') : OpRes (noOp, c) w (.returned (.tuple #[.agg #[.int .i64 0, .slice none 0 0], .int .i64 c])) w' := OpRes.of rfl hE (noOp_own _) (by simp) (show (0 : Nat) ≤ 1048576 by omega)



theorem op_ne1 {f g : Int × List Int} (h : ¬ f.1 = g.1) : decide (f = g) = false := by simp; intro hh; exact h (by rw [hh])
theorem op_ne2 {f g : Int × List Int} (h : ¬ f.2 = g.2) : decide (f = g) = false := by simp; intro hh; exact h (by rw [hh])
theorem op_eq {f g : Int × List Int} (h1 : f.1 = g.1) (h2 : f.2 = g.2) : decide (f = g) = true := by simp; exact Prod.ext h1 h2




/-- a pointer at an operation's two cells -/
def PtOp (w : World) (p : Value) (f : Int × List Int) : Prop := ∃ b off tv, p = .pointer (some ⟨b, off, none⟩) ∧ w.cell? ⟨b, off, none⟩ = some (.int .i64 f.1) ∧ w.cell? ⟨b, off + 1, none⟩ = some tv ∧ RdI w tv f.2
theorem PtOp.ext {w w' : World} {p : Value} {f : Int × List Int} (h : PtOp w p f) (hE : Ext w w') : PtOp w' p f := let ⟨b, off, tv, h1, h2, h3, h4⟩ := h; ⟨b, off, tv, h1, hE.cell h2, hE.cell h3, h4.ext hE⟩




end Go.Proofs.YtajkepdfemdagaaGreatDoor
namespace Go.Proofs.YtajkepdfemdagaaGreatDoor
open Go.RowKit
set_option linter.unusedVariables false

def SValidOp (s : Int) (f : Int × List Int) : Bool := inB s 1 4 && (inB f.1 1 3 && vals s f.2 (powW s f.1.toNat))
theorem SValidOp_size {s : Int} {f : Int × List Int} (h : inB s 1 4 = false) : SValidOp s f = false := by unfold SValidOp; rw [h]; rfl
theorem SValidOp_arity {s : Int} {f : Int × List Int} (h : inB f.1 1 3 = false) : SValidOp s f = false := by unfold SValidOp; rw [h]; simp
theorem SValidOp_rest {s : Int} {f : Int × List Int} (h : inB s 1 4 = true) (h2 : inB f.1 1 3 = true) : SValidOp s f = vals s f.2 (powW s f.1.toNat) := by unfold SValidOp; rw [h, h2]; simp




end Go.Proofs.YtajkepdfemdagaaGreatDoor
