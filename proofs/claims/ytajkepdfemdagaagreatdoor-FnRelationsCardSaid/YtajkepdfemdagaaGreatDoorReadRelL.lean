
/- A relation's text read: the plain law. -/
import Derived.Test.YtajkepdfemdagaaGreatDoorReadOpL
import Derived.Test.YtajkepdfemdagaaGreatDoorRelText
namespace Go.Proofs.YtajkepdfemdagaaGreatDoor
open Go.RowKit
set_option linter.unusedVariables false

def IsRelOf (s : ByteArray) (r : Int × List (List Int)) : Prop := SValidRel 4 r = true ∧ relB r = s
theorem rel_words {s : ByteArray} {r : Int × List (List Int)} (h : IsRelOf s r) : words 32 s = ⟨#[114, 101, 108]⟩ :: decB r.1 :: r.2.map digB := by
  obtain ⟨h1, rfl⟩ := h
  obtain ⟨b1, b2, b3, b4⟩ := text_parts h1
  have hj := relB_join r
  have hk : relK r r.2.length = ⟨#[114, 101, 108]⟩ :: decB r.1 :: r.2.map digB := by unfold relK; rw [List.take_length]
  rw [hk] at hj
  refine words_join ?_ (by simp) ?_
  · rw [← hj]
  · intro w hw
    rcases List.mem_cons.1 hw with rfl | hw
    · decide
    rcases List.mem_cons.1 hw with rfl | hw
    · exact no_space_dec (by omega) (by omega)
    · obtain ⟨t, ht, rfl⟩ := List.mem_map.1 hw
      exact no_space_dig (b4 t ht).2
/-- the relation that the program reads from a text -/
def SrdR (s : ByteArray) : Int × List (List Int) :=
  match words 32 s with
  | w0 :: w1 :: ws => if w0 = ⟨#[114, 101, 108]⟩ then (rnV w1, ws.map rdg) else noRel
  | _ => noRel
theorem rdR_of {s : ByteArray} {r : Int × List (List Int)} (h : IsRelOf s r) : SrdR s = r := by
  obtain ⟨b1, b2, b3, b4⟩ := text_parts h.1
  unfold SrdR
  rw [rel_words h]
  have h1 : rnV (decB r.1) = r.1 := ((rnV_num (decB r.1)).2 r.1 b1 b2).2 rfl
  have h2 : (r.2.map digB).map rdg = r.2 := by
    rw [List.map_map]
    refine Eq.trans (List.map_congr_left fun t ht => ?_) (List.map_id _)
    exact rdg_digB (b4 t ht).2
  simp only [if_true, h1, h2]
theorem rel_unique {s : ByteArray} {r q : Int × List (List Int)} (h : IsRelOf s r) (k : IsRelOf s q) : r = q := (rdR_of h).symm.trans (rdR_of k)
theorem rel_size {s : ByteArray} {r : Int × List (List Int)} (h : IsRelOf s r) : s.size ≤ 1300 := by
  obtain ⟨h1, rfl⟩ := h
  exact accB_size h1 _
def SReadRel (s : ByteArray) : (Int × List (List Int)) × Int :=
  if 20000 < s.size then (noRel, 2) else if SValidRel 4 (SrdR s) && decide (relB (SrdR s) = s) then (SrdR s, 0) else (noRel, 5)
theorem readRel_big {s : ByteArray} (h : 20000 < s.size) : SReadRel s = (noRel, 2) := by unfold SReadRel; rw [if_pos h]
theorem readRel_yes {s : ByteArray} {r : Int × List (List Int)} (h : IsRelOf s r) : SReadRel s = (r, 0) := by
  have hz := rel_size h
  unfold SReadRel
  rw [if_neg (by omega), rdR_of h, h.1, h.2]
  simp
theorem readRel_no {s : ByteArray} (hz : ¬ 20000 < s.size) (h : ∀ r, ¬ IsRelOf s r) : SReadRel s = (noRel, 5) := by
  unfold SReadRel
  rw [if_neg hz, if_neg]
  intro hh
  rw [Bool.and_eq_true, decide_eq_true_eq] at hh
  exact h _ hh
/-- bytes less 48 -/
def subB (s : ByteArray) : List Int := s.data.toList.map fun b => (b.toNat : Int) - 48
theorem subB_digB {l : List Int} (h : ∀ x ∈ l, 0 ≤ x ∧ x < 10) : subB (digB l) = l := by
  unfold subB
  rw [digB_bytes l h, List.map_map]
  refine Eq.trans (List.map_congr_left fun x hx => ?_) (List.map_id _)
  have hx := h x hx
  simp only [Function.comp_apply, id_eq, ofNat_dig hx.1 hx.2]
  omega
theorem digB_subB {s : ByteArray} (h : ∀ x ∈ subB s, 0 ≤ x ∧ x < 4) : digB (subB s) = s := by
  refine digB_sub fun b hb => ?_
  have := h ((b.toNat : Int) - 48) (List.mem_map.2 ⟨b, hb, rfl⟩)
  unfold isDig
  rw [decide_eq_true_eq]
  omega
theorem subB_len (s : ByteArray) : (subB s).length = s.size := by unfold subB; rw [List.length_map, Lib.size_eq]
/-- the parts are as they must be: it is the relation -/
theorem rel_from {s w1 : ByteArray} {ws : List ByteArray} {v : Int} (hw : words 32 s = ⟨#[114, 101, 108]⟩ :: w1 :: ws) (hn : NumOf w1 v) (hv : SValidRel 4 (v, ws.map subB) = true) : IsRelOf s (v, ws.map subB) := by
  obtain ⟨b1, b2, b3, b4⟩ := text_parts hv
  refine ⟨hv, data_inj ?_⟩
  have hd : w1 = decB v := (hn.2 v b1 b2).1 rfl
  have hvs : ∀ x ∈ ws, digB (subB x) = x := fun x hx => digB_subB fun y hy => by
    obtain ⟨_, _, a3⟩ := valid_parts hv
    exact (vals_iff.1 (a3 (subB x) (List.mem_map.2 ⟨x, hx, rfl⟩))).2 y hy
  have hk : relK (v, ws.map subB) (ws.map subB).length = ⟨#[114, 101, 108]⟩ :: w1 :: ws := by
    unfold relK
    rw [List.take_length, hd, List.map_map]
    congr 2
    refine Eq.trans (List.map_congr_left fun x hx => ?_) (List.map_id _)
    exact hvs x hx
  have hj := relB_join (v, ws.map subB)
  rw [hk] at hj
  rw [← hj, ← join_words 32 s, hw]
theorem szII_four : ∀ (l : List (List Int)), (∀ t ∈ l, t.length ≤ 4) → szII l ≤ 5 * l.length
  | [], _ => by simp [szII]
  | t :: l, h => by
    have h1 := szII_four l fun x hx => h x (List.mem_cons_of_mem _ hx)
    have h2 := h t List.mem_cons_self
    simp only [szII, List.length_cons]
    omega
theorem rel_mk {r : Int × List (List Int)} (h : SValidRel 4 r = true) : szRel r ≤ 1048576 ∧ mkRel r ≤ 1048576 := by
  obtain ⟨b1, b2, b3, b4⟩ := text_parts h
  have h1 := szII_four r.2 fun t ht => (b4 t ht).1
  have h2 := mkRel_le r
  have h3 : szRel r ≤ 1048576 := by unfold szRel; omega
  exact ⟨h3, Nat.le_trans h2 h3⟩
theorem readRel_5 {s : ByteArray} (hz : ¬ 20000 < s.size) (h : SValidRel 4 (SrdR s) = false) : SReadRel s = (noRel, 5) := by
  unfold SReadRel
  rw [if_neg hz, h]
  rfl
theorem readRel_5b {s : ByteArray} (hz : ¬ 20000 < s.size) (h : ¬ relB (SrdR s) = s) : SReadRel s = (noRel, 5) := by
  unfold SReadRel
  rw [if_neg hz, decide_eq_false h, Bool.and_false]
  rfl
end Go.Proofs.YtajkepdfemdagaaGreatDoor
