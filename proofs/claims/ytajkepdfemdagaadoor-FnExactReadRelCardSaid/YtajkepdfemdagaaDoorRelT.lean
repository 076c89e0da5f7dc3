
/- The laws' own functions over one rel. -/
import Derived.Test.YtajkepdfemdagaaDoorII
namespace Go.Proofs.YtajkepdfemdagaaDoor
open Go.RowKit
set_option linter.unusedVariables false

theorem heldII_neg : ∀ {l : List (List Int)} {k : Int}, heldII l k < 0 → 0 ≤ k → heldII l k = -1
  | [], k, h, hk => by simp [heldII] at h; omega
  | l :: ls, k, h, hk => by
    simp only [heldII] at *
    by_cases hh : heldI l k < 0
    · rw [if_pos hh]
    · rw [if_neg hh] at h ⊢
      exact heldII_neg h (by omega)
theorem OII.set {w : World} {v : Value} {ll : List (List Int)} {fp : List Nat} (h : OII w v ll fp) {p : Addr} (hp : p.block ∉ fp) (u : Value) : OII (w.setCell p u) v ll fp :=
  OII.off h (Off.set (fp := [p.block]) (by simp)) fun g hg hm => hp (by rw [List.mem_singleton] at hm; exact hm ▸ hg)

/-- v reads as the rel f: its arity, its table -/
def RdRel (w : World) (v : Value) (f : Int × List (List Int)) : Prop := ∃ tv, v = .agg #[.int .i64 f.1, tv] ∧ RdII w tv f.2
theorem RdRel.ext {w w' : World} {v : Value} {f : Int × List (List Int)} (h : RdRel w v f) (hE : Ext w w') : RdRel w' v f := let ⟨tv, h1, h2⟩ := h; ⟨tv, h1, h2.ext hE⟩
def OwnRel (w : World) (v : Value) (f : Int × List (List Int)) (fp : List Nat) : Prop := ∃ tv, v = .agg #[.int .i64 f.1, tv] ∧ OII w tv f.2 fp
theorem OwnRel.rd {w : World} {v : Value} {f : Int × List (List Int)} {fp : List Nat} (h : OwnRel w v f fp) : RdRel w v f := let ⟨tv, h1, h2⟩ := h; ⟨tv, h1, h2.rd⟩
theorem OwnRel.ext {w w' : World} {v : Value} {f : Int × List (List Int)} {fp : List Nat} (h : OwnRel w v f fp) (hE : Ext w w') : OwnRel w' v f fp := let ⟨tv, h1, h2⟩ := h; ⟨tv, h1, h2.ext hE⟩
theorem OwnRel.lt {w : World} {v : Value} {f : Int × List (List Int)} {fp : List Nat} (h : OwnRel w v f fp) : ∀ g ∈ fp, g < w.heap.size := let ⟨_, _, h2⟩ := h; h2.lt
theorem OwnRel.off {w w' : World} {v : Value} {f : Int × List (List Int)} {fp fp' : List Nat} (h : OwnRel w v f fp) (hO : Off fp' w w') (hd : ∀ g ∈ fp, g ∉ fp') : OwnRel w' v f fp := let ⟨tv, h1, h2⟩ := h; ⟨tv, h1, h2.off hO hd⟩

theorem RdRel.form {w : World} {v : Value} {f : Int × List (List Int)} (h : RdRel w v f) : ∃ tv, v = .agg #[.int .i64 f.1, tv] := let ⟨tv, h1, _⟩ := h; ⟨tv, h1⟩
theorem OwnRel.form {w : World} {v : Value} {f : Int × List (List Int)} {fp : List Nat} (h : OwnRel w v f fp) : ∃ a c, v = .agg #[.int .i64 f.1, .slice a f.2.length c] := by
  obtain ⟨tv, rfl, h⟩ := h
  obtain ⟨a, c, rfl⟩ := h.form
  exact ⟨a, c, rfl⟩
/-- a rel's size, its marks, what is held of them -/
def szRel (f : Int × List (List Int)) : Nat := szII f.2
def mkRel (f : Int × List (List Int)) : Nat := mkII f.2
def marksRel (k : Int) (f : Int × List (List Int)) : Int × List (List Int) := (f.1, marksII k f.2)
def heldRel (f : Int × List (List Int)) (k : Int) : Int := heldII f.2 k
theorem heldRel_marks (k : Int) (f : Int × List (List Int)) (hk : 0 ≤ k) : heldRel (marksRel k f) k = k + mkRel f := heldII_marks k _ hk
theorem mkRel_le (f : Int × List (List Int)) : mkRel f ≤ szRel f := mkII_le _
theorem mkRel_marks (k : Int) (f : Int × List (List Int)) : mkRel (marksRel k f) = mkRel f := mkII_marks _ _

def SP.ownRel (f : Int × List (List Int)) : SP := ⟨fun v w => ∃ fp, OwnRel w v f fp, fun _ _ _ ⟨fp, h⟩ hE => ⟨fp, h.ext hE⟩⟩
theorem rdRel_of_sp {w : World} {v : Value} {f : Int × List (List Int)} (h : ∃ fp, OwnRel w v f fp) : RdRel w v f := let ⟨_, h⟩ := h; h.rd

/-- what a function leaves that answers a rel and a code -/
def RelRes (R : (Int × List (List Int)) × Int) (w : World) (e : Ending) (w' : World) : Prop :=
  ∃ u fp, e = .returned (.tuple #[u, .int .i64 R.2]) ∧ Ext w w' ∧ OwnRel w' u R.1 fp ∧ (∀ h ∈ fp, w.heap.size ≤ h) ∧ mkRel R.1 ≤ 1048576
theorem RelRes.of {R : (Int × List (List Int)) × Int} {w w' : World} {u : Value} {c : Int} {fp : List Nat} (hc : c = R.2) (hE : Ext w w') (ho : OwnRel w' u R.1 fp) (hf : ∀ h ∈ fp, w.heap.size ≤ h) (hb : mkRel R.1 ≤ 1048576) : RelRes R w (.returned (.tuple #[u, .int .i64 c])) w' := by
  subst hc
  exact ⟨u, fp, rfl, hE, ho, hf, hb⟩
def noRel : Int × List (List Int) := (0, [])
theorem noRel_own (w : World) : OwnRel w (.agg #[.int .i64 0, .slice none 0 0]) noRel [] := ⟨_, rfl, OwnL.nil _⟩
theorem RelRes.no {c : Int} {w w' : World} (hE : Ext w w') : RelRes (noRel, c) w (.returned (.tuple #[.agg #[.int .i64 0, .slice none 0 0], .int .i64 c])) w' := RelRes.of rfl hE (noRel_own _) (by simp) (show (0 : Nat) ≤ 1048576 by omega)

set_option maxHeartbeats 400000 in
theorem szRel_any (f : Int × List (List Int)) (v : Value) (left : Int) (w : World) (hr : RdRel w v f) (h0 : 0 ≤ left) (h1 : left ≤ 1048576) :
    Calls Tryd.prog 13 #[v, .int .i64 left] w fun e w' => e = .returned (.int .i64 (szL left (szRel f))) ∧ Ext w w' := by
  obtain ⟨tv, rfl, hr⟩ := hr
  have hE1 : Ext w (w.alloc (.cells #[.int .i64 f.1, tv] 33)) := (Ext.refl' w).alloc (Nat.le_refl _) _
  have hr1 := hr.ext hE1
  unfold szRel
  by_cases hlt : szL left (szII f.2) < 0
  · go_enter Tryd.func13, Tryd.ntmps13
    go_wp2_with (go_at_call 39; refine (szInt64SS_any _ _ _ _ hr1 h0 h1).mono ?_; rintro e w' ⟨rfl, rfl⟩)
    go_ret
    exact ⟨ret_int (by unfold szL at *; split at hlt <;> split <;> omega), hE1⟩
  · go_enter Tryd.func13, Tryd.ntmps13
    go_wp2_with (go_at_call 39; refine (szInt64SS_any _ _ _ _ hr1 h0 h1).mono ?_; rintro e w' ⟨rfl, rfl⟩)
    go_ret
    exact ⟨rfl, hE1⟩

set_option maxHeartbeats 400000 in
theorem toRel_any (f : Int × List (List Int)) (v : Value) (w : World) (hr : RdRel w v f) (hl : szRel f ≤ 1048576) :
    Calls Tryd.prog 15 #[v] w fun e w' => ∃ u fp, e = .returned u ∧ Ext w w' ∧ OwnRel w' u f fp ∧ (∀ g ∈ fp, w.heap.size ≤ g) := by
  unfold szRel at hl
  obtain ⟨tv, rfl, hr⟩ := hr
  go_enter Tryd.func15, Tryd.ntmps15
  go_wp2_with fail
  have hE1 : Ext w (((w.alloc (.cells #[.int .i64 f.1, tv] 33)).alloc (.cells #[.int .i64 0, .slice none 0 0] 36)).alloc (.cells #[.int .i64 f.1, .slice none 0 0] 36)) :=
    (((Ext.refl' w).alloc (Nat.le_refl _) _).alloc (by simp) _).alloc (by simp; omega) _
  refine (toInt64SS_any f.2 tv _ (hr.ext hE1) hl).mono ?_
  rintro e w2 ⟨tu, fpu, rfl, hE, hown, hfr⟩
  simp only [World.size_alloc] at hfr
  obtain ⟨ta, tc, rfl⟩ := hown.form
  have c0 := hE.cell (p := ⟨w.heap.size + 1 + 1, 0, none⟩) (v := .int .i64 f.1) (by simp [go_sem])
  have c1 := hE.cell (p := ⟨w.heap.size + 1 + 1, 1, none⟩) (v := .slice none 0 0) (by simp [go_sem])
  have f1 := hE.frozen (p := ⟨w.heap.size + 1 + 1, 1, none⟩) (by simp)
  have d0 := hE.cell (p := ⟨w.heap.size + 1, 0, none⟩) (v := .int .i64 0) (by simp [go_sem])
  have d1 := hE.cell (p := ⟨w.heap.size + 1, 1, none⟩) (v := .slice none 0 0) (by simp [go_sem])
  have f0 := hE.frozen (p := ⟨w.heap.size + 1, 0, none⟩) (by simp)
  have f2 := hE.frozen (p := ⟨w.heap.size + 1, 1, none⟩) (by simp)
  simp [go_sem] at f1 f0 f2
  go_wp2
  exact bodyPost_ret (v := .agg #[.int .i64 f.1, .slice ta f.2.length tc]) (by simp [results, Tryd.results15, go_sem, d0, d1]) rfl
    ⟨_, _, rfl, (((hE1.tr hE).setCell (by dsimp only; omega) _).setCell (by dsimp only; omega) _).setCell (by dsimp only; omega) _, ⟨_, rfl, ((hown.set (fun hm => by have := hfr _ hm; dsimp only at this; omega) _).set (fun hm => by have := hfr _ hm; dsimp only at this; omega) _).set (fun hm => by have := hfr _ hm; dsimp only at this; omega) _⟩, fun g hg => by have := hfr g hg; omega⟩

theorem rel_ne1 {f g : Int × List (List Int)} (h : ¬ f.1 = g.1) : decide (f = g) = false := by simp; intro hh; exact h (by rw [hh])
theorem rel_ne2 {f g : Int × List (List Int)} (h : ¬ f.2 = g.2) : decide (f = g) = false := by simp; intro hh; exact h (by rw [hh])
theorem rel_eq {f g : Int × List (List Int)} (h1 : f.1 = g.1) (h2 : f.2 = g.2) : decide (f = g) = true := by simp; exact Prod.ext h1 h2

set_option maxHeartbeats 400000 in
theorem eqRel_any (f g : Int × List (List Int)) (v u : Value) (w : World) (hr : RdRel w v f) (hs : RdRel w u g) :
    Calls Tryd.prog 17 #[v, u] w fun e w' => e = .returned (.bool (decide (f = g))) ∧ Ext w w' := by
  obtain ⟨tv, rfl, hr⟩ := hr
  obtain ⟨tu, rfl, hs⟩ := hs
  have hE1 : Ext w ((w.alloc (.cells #[.int .i64 f.1, tv] 36)).alloc (.cells #[.int .i64 g.1, tu] 36)) := ((Ext.refl' w).alloc (Nat.le_refl _) _).alloc (by simp) _
  by_cases h1 : f.1 = g.1
  · have hb : (f.1 != g.1) = false := by simp [h1]
    by_cases h2 : f.2 = g.2
    · have hd : decide (f.2 = g.2) = true := by simp [h2]
      have HF := Lib.hid (rel_eq h1 h2)
      clear h1 h2
      go_enter Tryd.func17, Tryd.ntmps17
      go_wp2_with (go_at_call 45; refine (eqInt64SS_any _ _ _ _ _ (hr.ext hE1) (hs.ext hE1)).mono ?_; rintro e w2 ⟨rfl, hE⟩)
      go_ret
      exact ⟨ret_bool HF.out.symm, hE1.tr hE⟩
    · have hd : decide (f.2 = g.2) = false := by simp [h2]
      have HF := Lib.hid (rel_ne2 h2)
      clear h1 h2
      go_enter Tryd.func17, Tryd.ntmps17
      go_wp2_with (go_at_call 45; refine (eqInt64SS_any _ _ _ _ _ (hr.ext hE1) (hs.ext hE1)).mono ?_; rintro e w2 ⟨rfl, hE⟩)
      go_ret
      exact ⟨ret_bool HF.out.symm, hE1.tr hE⟩
  · have hb : (f.1 != g.1) = true := by simp [h1]
    have HF := Lib.hid (rel_ne1 h1)
    clear h1
    go_enter Tryd.func17, Tryd.ntmps17
    go_wp2_with fail
    go_ret
    exact ⟨ret_bool HF.out.symm, hE1⟩

set_option maxHeartbeats 400000 in
theorem markRel_any (f : Int × List (List Int)) (v : Value) (fp : List Nat) (k0 : Int) (w : World) (ho : OwnRel w v f fp) (hk0 : 0 ≤ k0) (hb : k0 + mkRel f ≤ 4611686018427387904) :
    Calls Tryd.prog 29 #[v, .int .i64 k0] w fun e w' => e = .returned (.int .i64 (k0 + mkRel f)) ∧ Off fp w w' ∧ OwnRel w' v (marksRel k0 f) fp := by
  unfold mkRel at hb ⊢
  obtain ⟨tv, rfl, ho⟩ := ho
  have hE1 : Ext w (w.alloc (.cells #[.int .i64 f.1, tv] 36)) := (Ext.refl' w).alloc (Nat.le_refl _) _
  go_enter Tryd.func29, Tryd.ntmps29
  go_wp2_with (go_at_call 62; refine (markInt64SS_any _ _ _ _ _ (ho.ext hE1) hk0 hb).mono ?_; rintro e w2 ⟨rfl, hO, ho2⟩)
  go_ret
  exact ⟨rfl, (Off.of_ext hE1).trans hO, _, rfl, ho2⟩

set_option maxHeartbeats 400000 in
theorem heldRel_any (f : Int × List (List Int)) (v : Value) (k0 : Int) (w : World) (hr : RdRel w v f) (hk0 : 0 ≤ k0) (hb : k0 + mkRel f ≤ 4611686018427387904) :
    Calls Tryd.prog 30 #[v, .int .i64 k0] w fun e w' => e = .returned (.int .i64 (heldRel f k0)) ∧ Ext w w' := by
  unfold mkRel at hb
  unfold heldRel
  obtain ⟨tv, rfl, hr⟩ := hr
  have hE1 : Ext w (w.alloc (.cells #[.int .i64 f.1, tv] 36)) := (Ext.refl' w).alloc (Nat.le_refl _) _
  by_cases hlt : heldII f.2 k0 < 0
  · go_enter Tryd.func30, Tryd.ntmps30
    go_wp2_with (go_at_call 63; refine (heldInt64SS_any _ _ _ _ (hr.ext hE1) hk0 hb).mono ?_; rintro e w2 ⟨rfl, hE⟩)
    go_ret
    exact ⟨ret_int (by rw [heldII_neg hlt hk0]), hE1.tr hE⟩
  · go_enter Tryd.func30, Tryd.ntmps30
    go_wp2_with (go_at_call 63; refine (heldInt64SS_any _ _ _ _ (hr.ext hE1) hk0 hb).mono ?_; rintro e w2 ⟨rfl, hE⟩)
    go_ret
    exact ⟨rfl, hE1.tr hE⟩

/-- a pointer at a rel's two cells -/
def PtRel (w : World) (p : Value) (f : Int × List (List Int)) : Prop := ∃ b off tv, p = .pointer (some ⟨b, off, none⟩) ∧ w.cell? ⟨b, off, none⟩ = some (.int .i64 f.1) ∧ w.cell? ⟨b, off + 1, none⟩ = some tv ∧ RdII w tv f.2
theorem PtRel.ext {w w' : World} {p : Value} {f : Int × List (List Int)} (h : PtRel w p f) (hE : Ext w w') : PtRel w' p f := let ⟨b, off, tv, h1, h2, h3, h4⟩ := h; ⟨b, off, tv, h1, hE.cell h2, hE.cell h3, h4.ext hE⟩

end Go.Proofs.YtajkepdfemdagaaDoor
