
/- Relations that are drawn or answered, without a fault: what they are; a variable that holds a relation. -/
import Derived.Test.YtajkepdfemdagaaGreatDoorDrawn
import Derived.Test.YtajkepdfemdagaaGreatDoorPart
import Derived.Test.YtajkepdfemdagaaGreatDoorBox
namespace Go.Proofs.YtajkepdfemdagaaGreatDoor
open Go.RowKit
set_option linter.unusedVariables false

section
variable {s m : Int}
theorem srel_valid (hs : 1 ≤ s) (hs2 : s ≤ 4) (hm : 1 ≤ m) (hm2 : m ≤ 4) (p : List Int → Bool) : SValidRel s (SrelOf s m p) = true := by
  unfold SValidRel
  rw [Bool.and_eq_true, Bool.and_eq_true]
  refine ⟨⟨inB_iff.2 ⟨hs, hs2⟩, inB_iff.2 ⟨hm, hm2⟩⟩, ?_⟩
  rw [List.all_eq_true]
  intro k hk
  have hk := List.mem_range.1 hk
  have hmem : ∀ j (hj : j < (SrelOf s m p).2.length), vals s ((SrelOf s m p).2.getD j []) m = true := by
    intro j hj
    rw [List.getD_eq_getElem?_getD, List.getElem?_eq_getElem hj]
    exact ((mem_allD hs hs2 hm hm2).1 (List.getElem_mem hj)).1
  unfold okT
  rw [Bool.and_eq_true, Bool.or_eq_true]
  refine ⟨hmem k hk, ?_⟩
  by_cases h0 : k = 0
  · exact .inl (by simp [h0])
  · refine .inr ?_
    unfold before
    have hk1 : k - 1 < (SrelOf s m p).2.length := by omega
    have hg : ∀ j (hj : j < (SrelOf s m p).2.length), (SrelOf s m p).2.getD j [] = (SrelOf s m p).2[j] := fun j hj => by rw [List.getD_eq_getElem?_getD, List.getElem?_eq_getElem hj]; rfl
    rw [decide_eq_true_eq, hg _ hk, hg _ hk1]
    exact (List.pairwise_iff_getElem.1 (allD_srt hs hs2 hm hm2 p)) (k - 1) k _ _ (by omega)
theorem hasT_srel (hs : 1 ≤ s) (hs2 : s ≤ 4) (hm : 1 ≤ m) (hm2 : m ≤ 4) (p : List Int → Bool) (t : List Int) : hasT (SrelOf s m p) t = (vals s t m && p t) := by
  unfold hasT
  rw [Bool.eq_iff_iff, decide_eq_true_eq, Bool.and_eq_true]
  exact mem_allD hs hs2 hm hm2
theorem hasT_iff {r : Int × List (List Int)} {t : List Int} : hasT r t = true ↔ t ∈ r.2 := by unfold hasT; rw [decide_eq_true_eq]
end

structure IsRel (s m : Int) (R : Int × List (List Int)) : Prop where
  valid : SValidRel s R = true
  ar : R.1 = m
  sz : szRel R ≤ 1048576
  len : R.2.length ≤ 256
theorem mkII_small : ∀ (l : List (List Int)), (∀ t ∈ l, t.length ≤ 4) → szII l ≤ 5 * l.length
  | [], _ => by simp [szII]
  | t :: l, h => by
    have h1 := mkII_small l fun x hx => h x (List.mem_cons_of_mem _ hx)
    have h2 := h t List.mem_cons_self
    simp only [szII, List.length_cons]
    omega
theorem IsRel.of {s m : Int} {R : Int × List (List Int)} (hv : SValidRel s R = true) (h : R.1 = m) : IsRel s m R := by
  have hl := valid_length hv
  refine ⟨hv, h, ?_, hl⟩
  obtain ⟨_, a2, a3⟩ := valid_parts hv
  have := mkII_small R.2 fun t ht => by have := (vals_iff.1 (a3 t ht)).1; omega
  unfold szRel
  omega
theorem IsRel.srel {s m : Int} (hs : 1 ≤ s) (hs2 : s ≤ 4) (hm : 1 ≤ m) (hm2 : m ≤ 4) (p : List Int → Bool) : IsRel s m (SrelOf s m p) := .of (srel_valid hs hs2 hm hm2 p) rfl

/-- a variable in block b that holds a relation -/
structure RVar (w : World) (b : Nat) (R : Int × List (List Int)) (ta : Option Addr) (tc : Nat) : Prop where
  c0 : w.cell? ⟨b, 0, none⟩ = some (.int .i64 R.1)
  c1 : w.cell? ⟨b, 1, none⟩ = some (.slice ta R.2.length tc)
  rd : RdRel w (.agg #[.int .i64 R.1, .slice ta R.2.length tc]) R
theorem RVar.ext {w w' : World} {b : Nat} {R : Int × List (List Int)} {ta : Option Addr} {tc : Nat} (h : RVar w b R ta tc) (hE : Ext w w') : RVar w' b R ta tc := ⟨hE.cell h.c0, hE.cell h.c1, h.rd.ext hE⟩
theorem RVar.lt {w : World} {b : Nat} {R : Int × List (List Int)} {ta : Option Addr} {tc : Nat} (h : RVar w b R ta tc) : b < w.heap.size := lt_of_cell h.c0
theorem RVar.new {w : World} {R : Int × List (List Int)} {ta : Option Addr} {tc : Nat} (h : RdRel w (.agg #[.int .i64 R.1, .slice ta R.2.length tc]) R) : RVar (w.alloc (.cells #[.int .i64 R.1, .slice ta R.2.length tc] 35)) w.heap.size R ta tc :=
  ⟨by simp [go_sem], by simp [go_sem], h.ext ((Ext.refl' w).alloc (Nat.le_refl _) _)⟩

/-- a relation is answered, and no fault -/
def GotR (s m : Int) (R0 : Int × List (List Int)) (w : World) (e : Ending) (w' : World) : Prop :=
  ∃ ta tc R, e = .returned (.tuple #[.agg #[.int .i64 R.1, .slice ta R.2.length tc], .int .i64 0]) ∧ Ext w w' ∧ RdRel w' (.agg #[.int .i64 R.1, .slice ta R.2.length tc]) R ∧ IsRel s m R ∧ Hid (R = R0)
def DrawnR (s m : Int) (w : World) (e : Ending) (w' : World) : Prop :=
  ∃ ta tc R, e = .returned (.agg #[.int .i64 R.1, .slice ta R.2.length tc]) ∧ Ext w w' ∧ RdRel w' (.agg #[.int .i64 R.1, .slice ta R.2.length tc]) R ∧ IsRel s m R
theorem RelRes.got {s m : Int} {R : Int × List (List Int)} {w w' : World} {e : Ending} (h : RelRes (R, 0) w e w') (hi : IsRel s m R) : GotR s m R w e w' := by
  obtain ⟨u, fp, rfl, hE, ho, _, _⟩ := h
  obtain ⟨a, c, rfl⟩ := ho.form
  exact ⟨a, c, R, rfl, hE, ho.rd, hi, Lib.hid rfl⟩
section
variable {s m : Int} {w : World}
theorem p6Rel_got (v : Value) (s m : Int) (w : World) (h : RdB w v) (hs : 1 ≤ s) (hs2 : s ≤ 4) (hm : 1 ≤ m) (hm2 : m ≤ 4) : Calls Tryz.prog 13 #[v, .int .i64 s, .int .i64 m] w (DrawnR s m w) := by
  refine (p6Rel_any v s m w h hs hs2 hm hm2).mono ?_
  rintro e w' ⟨u, p, fp, rfl, hE, ho, _⟩
  obtain ⟨a, c, rfl⟩ := ho.form
  exact ⟨a, c, _, rfl, hE, ho.rd, .srel hs hs2 hm hm2 p⟩
theorem implHas_got {r : Int × List (List Int)} {v : Value} {t : List Int} {u : Value} (hr : RdRel w v r) (hi : IsRel s m r) (hs : RdI w u t) (ht : t.length ≤ 1048576) :
    Calls Tryz.prog 22 #[.int .i64 s, v, u] w fun e w' => e = .returned (.tuple #[.bool (hasT r t), .int .i64 0]) ∧ Ext w w' := by
  obtain ⟨a1, a2, _⟩ := valid_parts hi.valid
  have hc := implHasTuple_any s r v t u w hr hs (by omega) (by omega) hi.sz ht
  rw [show SHasTuple s r t = (hasT r t, 0) from by unfold SHasTuple; rw [hi.valid]; rfl] at hc
  exact hc
theorem specHas_got {r : Int × List (List Int)} {v : Value} {t : List Int} {u : Value} (hr : RdRel w v r) (hi : IsRel s m r) (hs : RdI w u t) (ht : t.length ≤ 1048576) :
    Calls Tryz.prog 21 #[.int .i64 s, v, u] w fun e w' => e = .returned (.tuple #[.bool (hasT r t), .int .i64 0]) ∧ Ext w w' := by
  obtain ⟨a1, a2, _⟩ := valid_parts hi.valid
  have hc := specHasTuple_any s r v t u w hr hs (by omega) (by omega) hi.sz ht
  rw [show SHasTuple s r t = (hasT r t, 0) from by unfold SHasTuple; rw [hi.valid]; rfl] at hc
  exact hc
theorem same_got {r q : Int × List (List Int)} {v u : Value} (hr : RdRel w v r) (hi : IsRel s m r) (hq : RdRel w u q) (he : r = q) :
    Calls Tryz.prog 19 #[v, u] w fun e w' => e = .returned (.bool true) ∧ Ext w w' := by
  subst he
  have hc := specSameRel_any r v r u w hr hq hi.sz hi.sz
  rw [show SSameRel r r = true from decide_eq_true rfl] at hc
  exact hc
end
end Go.Proofs.YtajkepdfemdagaaGreatDoor
