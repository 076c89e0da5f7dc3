
/- The laws' own functions over one operation. -/
import Derived.Test.YtajkepdfemdagaaDoorInts
namespace Go.Proofs.YtajkepdfemdagaaDoor
open Go.RowKit
set_option linter.unusedVariables false

theorem heldI_neg {l : List Int} {k : Int} (h : heldI l k < 0) (hk : 0 ≤ k) : heldI l k = -1 := by
  unfold heldI at *
  split at h
  · omega
  · rename_i hh; rw [if_neg hh]

/-- v reads as the operation f: its arity, its table -/
def RdOp (w : World) (v : Value) (f : Int × List Int) : Prop := ∃ tv, v = .agg #[.int .i64 f.1, tv] ∧ RdI w tv f.2
theorem RdOp.ext {w w' : World} {v : Value} {f : Int × List Int} (h : RdOp w v f) (hE : Ext w w') : RdOp w' v f := let ⟨tv, h1, h2⟩ := h; ⟨tv, h1, h2.ext hE⟩
def OwnOp (w : World) (v : Value) (f : Int × List Int) (fp : List Nat) : Prop := ∃ tv, v = .agg #[.int .i64 f.1, tv] ∧ OI w tv f.2 fp
theorem OwnOp.rd {w : World} {v : Value} {f : Int × List Int} {fp : List Nat} (h : OwnOp w v f fp) : RdOp w v f := let ⟨tv, h1, h2⟩ := h; ⟨tv, h1, h2.rd⟩
theorem OwnOp.ext {w w' : World} {v : Value} {f : Int × List Int} {fp : List Nat} (h : OwnOp w v f fp) (hE : Ext w w') : OwnOp w' v f fp := let ⟨tv, h1, h2⟩ := h; ⟨tv, h1, h2.ext hE⟩
theorem OwnOp.lt {w : World} {v : Value} {f : Int × List Int} {fp : List Nat} (h : OwnOp w v f fp) : ∀ g ∈ fp, g < w.heap.size := let ⟨_, _, h2⟩ := h; h2.lt
theorem OwnOp.off {w w' : World} {v : Value} {f : Int × List Int} {fp fp' : List Nat} (h : OwnOp w v f fp) (hO : Off fp' w w') (hd : ∀ g ∈ fp, g ∉ fp') : OwnOp w' v f fp := let ⟨tv, h1, h2⟩ := h; ⟨tv, h1, h2.off hO hd⟩

theorem RdOp.form {w : World} {v : Value} {f : Int × List Int} (h : RdOp w v f) : ∃ tv, v = .agg #[.int .i64 f.1, tv] := let ⟨tv, h1, _⟩ := h; ⟨tv, h1⟩
theorem OwnOp.form {w : World} {v : Value} {f : Int × List Int} {fp : List Nat} (h : OwnOp w v f fp) : ∃ a c, v = .agg #[.int .i64 f.1, .slice a f.2.length c] := by
  obtain ⟨tv, rfl, h⟩ := h
  obtain ⟨a, c, rfl⟩ := h.form
  exact ⟨a, c, rfl⟩
/-- an operation's size, its marks, what is held of them -/
def szOp (f : Int × List Int) : Nat := f.2.length
def mkOp (f : Int × List Int) : Nat := f.2.length
def marksOp (k : Int) (f : Int × List Int) : Int × List Int := (f.1, marksI k f.2.length)
def heldOp (f : Int × List Int) (k : Int) : Int := heldI f.2 k
theorem heldOp_marks (k : Int) (f : Int × List Int) : heldOp (marksOp k f) k = k + mkOp f := heldI_marks k _
theorem mkOp_le (f : Int × List Int) : mkOp f ≤ szOp f := Nat.le_refl _
theorem mkOp_marks (k : Int) (f : Int × List Int) : mkOp (marksOp k f) = mkOp f := marksI_length _ _

def SP.ownOp (f : Int × List Int) : SP := ⟨fun v w => ∃ fp, OwnOp w v f fp, fun _ _ _ ⟨fp, h⟩ hE => ⟨fp, h.ext hE⟩⟩
theorem rdOp_of_sp {w : World} {v : Value} {f : Int × List Int} (h : ∃ fp, OwnOp w v f fp) : RdOp w v f := let ⟨_, h⟩ := h; h.rd
def SSameOp (f g : Int × List Int) : Bool := decide (f = g)

/-- what a function leaves that answers an operation and a code -/
def OpRes (R : (Int × List Int) × Int) (w : World) (e : Ending) (w' : World) : Prop :=
  ∃ u fp, e = .returned (.tuple #[u, .int .i64 R.2]) ∧ Ext w w' ∧ OwnOp w' u R.1 fp ∧ (∀ h ∈ fp, w.heap.size ≤ h) ∧ mkOp R.1 ≤ 1048576
theorem OpRes.of {R : (Int × List Int) × Int} {w w' : World} {u : Value} {c : Int} {fp : List Nat} (hc : c = R.2) (hE : Ext w w') (ho : OwnOp w' u R.1 fp) (hf : ∀ h ∈ fp, w.heap.size ≤ h) (hb : mkOp R.1 ≤ 1048576) : OpRes R w (.returned (.tuple #[u, .int .i64 c])) w' := by
  subst hc
  exact ⟨u, fp, rfl, hE, ho, hf, hb⟩
def noOp : Int × List Int := (0, [])
theorem noOp_own (w : World) : OwnOp w (.agg #[.int .i64 0, .slice none 0 0]) noOp [] := ⟨_, rfl, World.ownsRow_nil _ _ _ _, rfl⟩
theorem OpRes.no {c : Int} {w w' : World} (hE : Ext w w') : OpRes (noOp, c) w (.returned (.tuple #[.agg #[.int .i64 0, .slice none 0 0], .int .i64 c])) w' := OpRes.of rfl hE (noOp_own _) (by simp) (show (0 : Nat) ≤ 1048576 by omega)

set_option maxHeartbeats 400000 in
theorem szOp_any (f : Int × List Int) (v : Value) (left : Int) (w : World) (hr : RdOp w v f) (h0 : 0 ≤ left) (h1 : left ≤ 1048576) :
    Calls Tryd.prog 8 #[v, .int .i64 left] w fun e w' => e = .returned (.int .i64 (szL left (szOp f))) ∧ Ext w w' := by
  obtain ⟨tv, rfl, hr⟩ := hr
  have hE1 : Ext w (w.alloc (.cells #[.int .i64 f.1, tv] 24)) := (Ext.refl' w).alloc (Nat.le_refl _) _
  have hr1 := hr.ext hE1
  unfold szOp
  by_cases hlt : szL left f.2.length < 0
  · go_enter Tryd.func8, Tryd.ntmps8
    go_wp2_with (go_at_call 31; refine (szInt64S_any _ _ _ _ hr1 h0 h1).mono ?_; rintro e w' ⟨rfl, rfl⟩)
    go_ret
    exact ⟨ret_int (by unfold szL at *; split at hlt <;> split <;> omega), hE1⟩
  · go_enter Tryd.func8, Tryd.ntmps8
    go_wp2_with (go_at_call 31; refine (szInt64S_any _ _ _ _ hr1 h0 h1).mono ?_; rintro e w' ⟨rfl, rfl⟩)
    go_ret
    exact ⟨rfl, hE1⟩

set_option maxHeartbeats 400000 in
theorem toOp_any (f : Int × List Int) (v : Value) (w : World) (hr : RdOp w v f) (hl : szOp f ≤ 1048576) :
    Calls Tryd.prog 10 #[v] w fun e w' => ∃ u fp, e = .returned u ∧ Ext w w' ∧ OwnOp w' u f fp ∧ (∀ g ∈ fp, w.heap.size ≤ g) := by
  unfold szOp at hl
  obtain ⟨tv, rfl, hr⟩ := hr
  go_enter Tryd.func10, Tryd.ntmps10
  go_wp2_with fail
  have hE1 : Ext w (((w.alloc (.cells #[.int .i64 f.1, tv] 24)).alloc (.cells #[.int .i64 0, .slice none 0 0] 27)).alloc (.cells #[.int .i64 f.1, .slice none 0 0] 27)) :=
    (((Ext.refl' w).alloc (Nat.le_refl _) _).alloc (by simp) _).alloc (by simp; omega) _
  refine (toInt64S_any f.2 tv _ (hr.ext hE1) hl).mono ?_
  rintro e w2 ⟨tu, fpu, rfl, hE, hown, hfr⟩
  simp only [World.size_alloc] at hfr
  obtain ⟨ta, tb, tc, rfl, -⟩ := own_parts hown.1
  have c0 := hE.cell (p := ⟨w.heap.size + 1 + 1, 0, none⟩) (v := .int .i64 f.1) (by simp [go_sem])
  have c1 := hE.cell (p := ⟨w.heap.size + 1 + 1, 1, none⟩) (v := .slice none 0 0) (by simp [go_sem])
  have f1 := hE.frozen (p := ⟨w.heap.size + 1 + 1, 1, none⟩) (by simp)
  have d0 := hE.cell (p := ⟨w.heap.size + 1, 0, none⟩) (v := .int .i64 0) (by simp [go_sem])
  have d1 := hE.cell (p := ⟨w.heap.size + 1, 1, none⟩) (v := .slice none 0 0) (by simp [go_sem])
  have f0 := hE.frozen (p := ⟨w.heap.size + 1, 0, none⟩) (by simp)
  have f2 := hE.frozen (p := ⟨w.heap.size + 1, 1, none⟩) (by simp)
  simp [go_sem] at f1 f0 f2
  go_wp2
  exact bodyPost_ret (v := .agg #[.int .i64 f.1, .slice ta f.2.length tc]) (by simp [results, Tryd.results10, go_sem, d0, d1]) rfl
    ⟨_, _, rfl, (((hE1.tr hE).setCell (by dsimp only; omega) _).setCell (by dsimp only; omega) _).setCell (by dsimp only; omega) _, ⟨_, rfl, ((hown.set (fun hm => by have := hfr _ hm; dsimp only at this; omega) _).set (fun hm => by have := hfr _ hm; dsimp only at this; omega) _).set (fun hm => by have := hfr _ hm; dsimp only at this; omega) _⟩, fun g hg => by have := hfr g hg; omega⟩

theorem op_ne1 {f g : Int × List Int} (h : ¬ f.1 = g.1) : decide (f = g) = false := by simp; intro hh; exact h (by rw [hh])
theorem op_ne2 {f g : Int × List Int} (h : ¬ f.2 = g.2) : decide (f = g) = false := by simp; intro hh; exact h (by rw [hh])
theorem op_eq {f g : Int × List Int} (h1 : f.1 = g.1) (h2 : f.2 = g.2) : decide (f = g) = true := by simp; exact Prod.ext h1 h2

set_option maxHeartbeats 400000 in
theorem eqOp_any (f g : Int × List Int) (v u : Value) (w : World) (hr : RdOp w v f) (hs : RdOp w u g) :
    Calls Tryd.prog 12 #[v, u] w fun e w' => e = .returned (.bool (decide (f = g))) ∧ Ext w w' := by
  obtain ⟨tv, rfl, hr⟩ := hr
  obtain ⟨tu, rfl, hs⟩ := hs
  have hE1 : Ext w ((w.alloc (.cells #[.int .i64 f.1, tv] 27)).alloc (.cells #[.int .i64 g.1, tu] 27)) := ((Ext.refl' w).alloc (Nat.le_refl _) _).alloc (by simp) _
  by_cases h1 : f.1 = g.1
  · have hb : (f.1 != g.1) = false := by simp [h1]
    by_cases h2 : f.2 = g.2
    · have hd : decide (f.2 = g.2) = true := by simp [h2]
      have HF := Lib.hid (op_eq h1 h2)
      clear h1 h2
      go_enter Tryd.func12, Tryd.ntmps12
      go_wp2_with (go_at_call 38; refine (eqInt64S_any _ _ _ _ _ (hr.ext hE1) (hs.ext hE1)).mono ?_; rintro e w2 ⟨rfl, hE⟩)
      go_ret
      exact ⟨ret_bool HF.out.symm, hE1.tr hE⟩
    · have hd : decide (f.2 = g.2) = false := by simp [h2]
      have HF := Lib.hid (op_ne2 h2)
      clear h1 h2
      go_enter Tryd.func12, Tryd.ntmps12
      go_wp2_with (go_at_call 38; refine (eqInt64S_any _ _ _ _ _ (hr.ext hE1) (hs.ext hE1)).mono ?_; rintro e w2 ⟨rfl, hE⟩)
      go_ret
      exact ⟨ret_bool HF.out.symm, hE1.tr hE⟩
  · have hb : (f.1 != g.1) = true := by simp [h1]
    have HF := Lib.hid (op_ne1 h1)
    clear h1
    go_enter Tryd.func12, Tryd.ntmps12
    go_wp2_with fail
    go_ret
    exact ⟨ret_bool HF.out.symm, hE1⟩

set_option maxHeartbeats 400000 in
theorem markOp_any (f : Int × List Int) (v : Value) (fp : List Nat) (k0 : Int) (w : World) (ho : OwnOp w v f fp) (hk0 : 0 ≤ k0) (hb : k0 + mkOp f ≤ 4611686018427387904) :
    Calls Tryd.prog 25 #[v, .int .i64 k0] w fun e w' => e = .returned (.int .i64 (k0 + mkOp f)) ∧ Off fp w w' ∧ OwnOp w' v (marksOp k0 f) fp := by
  unfold mkOp at hb ⊢
  obtain ⟨tv, rfl, ho⟩ := ho
  have hE1 : Ext w (w.alloc (.cells #[.int .i64 f.1, tv] 27)) := (Ext.refl' w).alloc (Nat.le_refl _) _
  go_enter Tryd.func25, Tryd.ntmps25
  go_wp2_with (go_at_call 58; refine (markInt64S_any _ _ _ _ _ (ho.ext hE1) hk0 hb).mono ?_; rintro e w2 ⟨rfl, hO, ho2⟩)
  go_ret
  exact ⟨rfl, (Off.of_ext hE1).trans hO, _, rfl, ho2⟩

set_option maxHeartbeats 400000 in
theorem heldOp_any (f : Int × List Int) (v : Value) (k0 : Int) (w : World) (hr : RdOp w v f) (hk0 : 0 ≤ k0) (hb : k0 + mkOp f ≤ 4611686018427387904) :
    Calls Tryd.prog 26 #[v, .int .i64 k0] w fun e w' => e = .returned (.int .i64 (heldOp f k0)) ∧ Ext w w' := by
  unfold mkOp at hb
  unfold heldOp
  obtain ⟨tv, rfl, hr⟩ := hr
  have hE1 : Ext w (w.alloc (.cells #[.int .i64 f.1, tv] 27)) := (Ext.refl' w).alloc (Nat.le_refl _) _
  by_cases hlt : heldI f.2 k0 < 0
  · go_enter Tryd.func26, Tryd.ntmps26
    go_wp2_with (go_at_call 59; refine (heldInt64S_any _ _ _ _ (hr.ext hE1) hk0 hb).mono ?_; rintro e w2 ⟨rfl, hE⟩)
    go_ret
    exact ⟨ret_int (by rw [heldI_neg hlt hk0]), hE1.tr hE⟩
  · go_enter Tryd.func26, Tryd.ntmps26
    go_wp2_with (go_at_call 59; refine (heldInt64S_any _ _ _ _ (hr.ext hE1) hk0 hb).mono ?_; rintro e w2 ⟨rfl, hE⟩)
    go_ret
    exact ⟨rfl, hE1.tr hE⟩

/-- a pointer at an operation's two cells -/
def PtOp (w : World) (p : Value) (f : Int × List Int) : Prop := ∃ b off tv, p = .pointer (some ⟨b, off, none⟩) ∧ w.cell? ⟨b, off, none⟩ = some (.int .i64 f.1) ∧ w.cell? ⟨b, off + 1, none⟩ = some tv ∧ RdI w tv f.2
theorem PtOp.ext {w w' : World} {p : Value} {f : Int × List Int} (h : PtOp w p f) (hE : Ext w w') : PtOp w' p f := let ⟨b, off, tv, h1, h2, h3, h4⟩ := h; ⟨b, off, tv, h1, hE.cell h2, hE.cell h3, h4.ext hE⟩




end Go.Proofs.YtajkepdfemdagaaDoor
