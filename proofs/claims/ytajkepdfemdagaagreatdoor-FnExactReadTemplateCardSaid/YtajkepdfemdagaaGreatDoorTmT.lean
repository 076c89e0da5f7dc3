
/- The laws' own functions over one template. -/
import Derived.Test.YtajkepdfemdagaaGreatDoorRelS
namespace Go.Proofs.YtajkepdfemdagaaGreatDoor
open Go.RowKit
set_option linter.unusedVariables false

theorem heldRelS_neg : ∀ {l : List (Int × List (List Int))} {k : Int}, heldRelS l k < 0 → 0 ≤ k → heldRelS l k = -1
  | [], k, h, hk => by simp [heldRelS] at h; omega
  | f :: fs, k, h, hk => by
    simp only [heldRelS] at *
    by_cases h1 : f.1 = k
    · rw [if_pos h1] at h ⊢
      by_cases hh : heldRel f (k + 1) < 0
      · rw [if_pos hh]
      · rw [if_neg hh] at h ⊢
        have := heldRel_ge (by omega) hh
        exact heldRelS_neg h (by omega)
    · rw [if_neg h1]
theorem OwnRelS.set {w : World} {v : Value} {ll : List (Int × List (List Int))} {fp : List Nat} (h : OwnRelS w v ll fp) {p : Addr} (hp : p.block ∉ fp) (u : Value) : OwnRelS (w.setCell p u) v ll fp :=
  OwnRelS.off h (Off.set (fp := [p.block]) (by simp)) fun g hg hm => hp (by rw [List.mem_singleton] at hm; exact hm ▸ hg)

/-- v reads as the template f: its arity, its table -/
def RdTm (w : World) (v : Value) (f : Int × List (Int × List (List Int))) : Prop := ∃ tv, v = .agg #[.int .i64 f.1, tv] ∧ RdRelS w tv f.2
theorem RdTm.ext {w w' : World} {v : Value} {f : Int × List (Int × List (List Int))} (h : RdTm w v f) (hE : Ext w w') : RdTm w' v f := let ⟨tv, h1, h2⟩ := h; ⟨tv, h1, h2.ext hE⟩
def OwnTm (w : World) (v : Value) (f : Int × List (Int × List (List Int))) (fp : List Nat) : Prop := ∃ tv, v = .agg #[.int .i64 f.1, tv] ∧ OwnRelS w tv f.2 fp
theorem OwnTm.rd {w : World} {v : Value} {f : Int × List (Int × List (List Int))} {fp : List Nat} (h : OwnTm w v f fp) : RdTm w v f := let ⟨tv, h1, h2⟩ := h; ⟨tv, h1, h2.rd⟩
theorem OwnTm.ext {w w' : World} {v : Value} {f : Int × List (Int × List (List Int))} {fp : List Nat} (h : OwnTm w v f fp) (hE : Ext w w') : OwnTm w' v f fp := let ⟨tv, h1, h2⟩ := h; ⟨tv, h1, h2.ext hE⟩
theorem OwnTm.lt {w : World} {v : Value} {f : Int × List (Int × List (List Int))} {fp : List Nat} (h : OwnTm w v f fp) : ∀ g ∈ fp, g < w.heap.size := let ⟨_, _, h2⟩ := h; h2.lt
theorem OwnTm.off {w w' : World} {v : Value} {f : Int × List (Int × List (List Int))} {fp fp' : List Nat} (h : OwnTm w v f fp) (hO : Off fp' w w') (hd : ∀ g ∈ fp, g ∉ fp') : OwnTm w' v f fp := let ⟨tv, h1, h2⟩ := h; ⟨tv, h1, h2.off hO hd⟩

theorem RdTm.form {w : World} {v : Value} {f : Int × List (Int × List (List Int))} (h : RdTm w v f) : ∃ tv, v = .agg #[.int .i64 f.1, tv] := let ⟨tv, h1, _⟩ := h; ⟨tv, h1⟩
theorem OwnTm.form {w : World} {v : Value} {f : Int × List (Int × List (List Int))} {fp : List Nat} (h : OwnTm w v f fp) : ∃ a c, v = .agg #[.int .i64 f.1, .slice a f.2.length c] := by
  obtain ⟨tv, rfl, h⟩ := h
  obtain ⟨a, c, rfl⟩ := h.form
  exact ⟨a, c, rfl⟩
/-- a template's size, its marks, what is held of them -/
def szTm (f : Int × List (Int × List (List Int))) : Nat := szRelS f.2
def mkTm (f : Int × List (Int × List (List Int))) : Nat := mkRelS f.2
def marksTm (k : Int) (f : Int × List (Int × List (List Int))) : Int × List (Int × List (List Int)) := (f.1, marksRelS k f.2)
def heldTm (f : Int × List (Int × List (List Int))) (k : Int) : Int := heldRelS f.2 k
theorem heldTm_marks (k : Int) (f : Int × List (Int × List (List Int))) (hk : 0 ≤ k) : heldTm (marksTm k f) k = k + mkTm f := heldRelS_marks k _ hk
theorem mkTm_le (f : Int × List (Int × List (List Int))) : mkTm f ≤ szTm f := mkRelS_le _
theorem mkTm_marks (k : Int) (f : Int × List (Int × List (List Int))) : mkTm (marksTm k f) = mkTm f := mkRelS_marks _ _

def SP.ownTm (f : Int × List (Int × List (List Int))) : SP := ⟨fun v w => ∃ fp, OwnTm w v f fp, fun _ _ _ ⟨fp, h⟩ hE => ⟨fp, h.ext hE⟩⟩
theorem rdTm_of_sp {w : World} {v : Value} {f : Int × List (Int × List (List Int))} (h : ∃ fp, OwnTm w v f fp) : RdTm w v f := let ⟨_, h⟩ := h; h.rd

/-- what a function leaves that answers a template and a code -/
def TmRes (R : (Int × List (Int × List (List Int))) × Int) (w : World) (e : Ending) (w' : World) : Prop :=
  ∃ u fp, e = .returned (.tuple #[u, .int .i64 R.2]) ∧ Ext w w' ∧ OwnTm w' u R.1 fp ∧ (∀ h ∈ fp, w.heap.size ≤ h) ∧ mkTm R.1 ≤ 1048576
theorem TmRes.of {R : (Int × List (Int × List (List Int))) × Int} {w w' : World} {u : Value} {c : Int} {fp : List Nat} (hc : c = R.2) (hE : Ext w w') (ho : OwnTm w' u R.1 fp) (hf : ∀ h ∈ fp, w.heap.size ≤ h) (hb : mkTm R.1 ≤ 1048576) : TmRes R w (.returned (.tuple #[u, .int .i64 c])) w' := by
  subst hc
  exact ⟨u, fp, rfl, hE, ho, hf, hb⟩
def noTm : Int × List (Int × List (List Int)) := (0, [])
theorem noTm_own (w : World) : OwnTm w (.agg #[.int .i64 0, .slice none 0 0]) noTm [] := ⟨_, rfl, OwnL.nil _⟩
theorem TmRes.no {c : Int} {w w' : World} (hE : Ext w w') : TmRes (noTm, c) w (.returned (.tuple #[.agg #[.int .i64 0, .slice none 0 0], .int .i64 c])) w' := TmRes.of rfl hE (noTm_own _) (by simp) (show (0 : Nat) ≤ 1048576 by omega)



theorem tm_ne1 {f g : Int × List (Int × List (List Int))} (h : ¬ f.1 = g.1) : decide (f = g) = false := by simp; intro hh; exact h (by rw [hh])
theorem tm_ne2 {f g : Int × List (Int × List (List Int))} (h : ¬ f.2 = g.2) : decide (f = g) = false := by simp; intro hh; exact h (by rw [hh])
theorem tm_eq {f g : Int × List (Int × List (List Int))} (h1 : f.1 = g.1) (h2 : f.2 = g.2) : decide (f = g) = true := by simp; exact Prod.ext h1 h2

set_option maxHeartbeats 400000 in
theorem eqTemplate_any (f g : Int × List (Int × List (List Int))) (v u : Value) (w : World) (hr : RdTm w v f) (hs : RdTm w u g) :
    Calls Tryz.prog 8 #[v, u] w fun e w' => e = .returned (.bool (decide (f = g))) ∧ Ext w w' := by
  obtain ⟨tv, rfl, hr⟩ := hr
  obtain ⟨tu, rfl, hs⟩ := hs
  have hE1 : Ext w ((w.alloc (.cells #[.int .i64 f.1, tv] 24)).alloc (.cells #[.int .i64 g.1, tu] 24)) := ((Ext.refl' w).alloc (Nat.le_refl _) _).alloc (by simp) _
  by_cases h1 : f.1 = g.1
  · have hb : (f.1 != g.1) = false := by simp [h1]
    by_cases h2 : f.2 = g.2
    · have hd : decide (f.2 = g.2) = true := by simp [h2]
      have HF := Lib.hid (tm_eq h1 h2)
      clear h1 h2
      go_enter Tryz.func8, Tryz.ntmps8
      go_wp2_with (go_at_call 49; refine (eqRelS_any _ _ _ _ _ (hr.ext hE1) (hs.ext hE1)).mono ?_; rintro e w2 ⟨rfl, hE⟩)
      go_ret
      exact ⟨ret_bool HF.out.symm, hE1.tr hE⟩
    · have hd : decide (f.2 = g.2) = false := by simp [h2]
      have HF := Lib.hid (tm_ne2 h2)
      clear h1 h2
      go_enter Tryz.func8, Tryz.ntmps8
      go_wp2_with (go_at_call 49; refine (eqRelS_any _ _ _ _ _ (hr.ext hE1) (hs.ext hE1)).mono ?_; rintro e w2 ⟨rfl, hE⟩)
      go_ret
      exact ⟨ret_bool HF.out.symm, hE1.tr hE⟩
  · have hb : (f.1 != g.1) = true := by simp [h1]
    have HF := Lib.hid (tm_ne1 h1)
    clear h1
    go_enter Tryz.func8, Tryz.ntmps8
    go_wp2_with fail
    go_ret
    exact ⟨ret_bool HF.out.symm, hE1⟩

set_option maxHeartbeats 400000 in
theorem markTemplate_any (f : Int × List (Int × List (List Int))) (v : Value) (fp : List Nat) (k0 : Int) (w : World) (ho : OwnTm w v f fp) (hk0 : 0 ≤ k0) (hb : k0 + mkTm f ≤ 4611686018427387904) :
    Calls Tryz.prog 9 #[v, .int .i64 k0] w fun e w' => e = .returned (.int .i64 (k0 + mkTm f)) ∧ Off fp w w' ∧ OwnTm w' v (marksTm k0 f) fp := by
  unfold mkTm at hb ⊢
  obtain ⟨tv, rfl, ho⟩ := ho
  have hE1 : Ext w (w.alloc (.cells #[.int .i64 f.1, tv] 24)) := (Ext.refl' w).alloc (Nat.le_refl _) _
  go_enter Tryz.func9, Tryz.ntmps9
  go_wp2_with (go_at_call 50; refine (markRelS_any _ _ _ _ _ (ho.ext hE1) hk0 hb).mono ?_; rintro e w2 ⟨rfl, hO, ho2⟩)
  go_ret
  exact ⟨rfl, (Off.of_ext hE1).trans hO, _, rfl, ho2⟩

set_option maxHeartbeats 400000 in
theorem heldTemplate_any (f : Int × List (Int × List (List Int))) (v : Value) (k0 : Int) (w : World) (hr : RdTm w v f) (hk0 : 0 ≤ k0) (hb : k0 + mkTm f ≤ 4611686018427387904) :
    Calls Tryz.prog 10 #[v, .int .i64 k0] w fun e w' => e = .returned (.int .i64 (heldTm f k0)) ∧ Ext w w' := by
  unfold mkTm at hb
  unfold heldTm
  obtain ⟨tv, rfl, hr⟩ := hr
  have hE1 : Ext w (w.alloc (.cells #[.int .i64 f.1, tv] 24)) := (Ext.refl' w).alloc (Nat.le_refl _) _
  by_cases hlt : heldRelS f.2 k0 < 0
  · go_enter Tryz.func10, Tryz.ntmps10
    go_wp2_with (go_at_call 51; refine (heldRelS_any _ _ _ _ (hr.ext hE1) hk0 hb).mono ?_; rintro e w2 ⟨rfl, hE⟩)
    go_ret
    exact ⟨ret_int (by rw [heldRelS_neg hlt hk0]), hE1.tr hE⟩
  · go_enter Tryz.func10, Tryz.ntmps10
    go_wp2_with (go_at_call 51; refine (heldRelS_any _ _ _ _ (hr.ext hE1) hk0 hb).mono ?_; rintro e w2 ⟨rfl, hE⟩)
    go_ret
    exact ⟨rfl, hE1.tr hE⟩

/-- a pointer at a template's two cells -/
def PtTm (w : World) (p : Value) (f : Int × List (Int × List (List Int))) : Prop := ∃ b off tv, p = .pointer (some ⟨b, off, none⟩) ∧ w.cell? ⟨b, off, none⟩ = some (.int .i64 f.1) ∧ w.cell? ⟨b, off + 1, none⟩ = some tv ∧ RdRelS w tv f.2
theorem PtTm.ext {w w' : World} {p : Value} {f : Int × List (Int × List (List Int))} (h : PtTm w p f) (hE : Ext w w') : PtTm w' p f := let ⟨b, off, tv, h1, h2, h3, h4⟩ := h; ⟨b, off, tv, h1, hE.cell h2, hE.cell h3, h4.ext hE⟩

end Go.Proofs.YtajkepdfemdagaaGreatDoor
