/- RelText: the program's and the reference's give one text. A relation's text read: the plain law. -/
import Derived.Test.YtajkepdfemdagaaGreatDoorC15
import Derived.Test.YtajkepdfemdagaaGreatDoorC09
import Derived.Test.YtajkepdfemdagaaGreatDoorC10
import Derived.Test.YtajkepdfemdagaaGreatDoorC12
import Derived.Lib.Join
import Derived.Maps.AppendAt
import Derived.Test.YtajkepdfemdagaaGreatDoorC32
namespace Go.Proofs.YtajkepdfemdagaaGreatDoor
open Go.RowKit
set_option linter.unusedVariables false

/-! ### the plain law -/
def relK (r : Int × List (List Int)) (k : Nat) : List ByteArray := ⟨#[114, 101, 108]⟩ :: decB r.1 :: (r.2.take k).map digB
theorem relK_succ {r : Int × List (List Int)} {k : Nat} (hk : k < r.2.length) : relK r (k + 1) = relK r k ++ [digB r.2[k]] := by
  unfold relK
  rw [List.take_succ_eq_append_getElem hk, List.map_append]
  rfl
theorem relK_length {r : Int × List (List Int)} {k : Nat} (hk : k ≤ r.2.length) : (relK r k).length = k + 2 := by
  unfold relK
  simp
  omega
def tailB (L : List (List Int)) : ByteArray := L.foldl (fun a t => a ++ ⟨#[32]⟩ ++ digB t) ByteArray.empty
theorem tailB_snoc (L : List (List Int)) (t : List Int) : tailB (L ++ [t]) = tailB L ++ ⟨#[32]⟩ ++ digB t := by simp [tailB]
def accB (r : Int × List (List Int)) (k : Nat) : ByteArray := (⟨#[114, 101, 108, 32]⟩ : ByteArray) ++ decB r.1 ++ tailB (r.2.take k)
def relB (r : Int × List (List Int)) : ByteArray := accB r r.2.length
theorem accB_succ {r : Int × List (List Int)} {k : Nat} (hk : k < r.2.length) : accB r (k + 1) = accB r k ++ ⟨#[32]⟩ ++ digB r.2[k] := by
  unfold accB
  rw [List.take_succ_eq_append_getElem hk, tailB_snoc]
  simp only [ByteArray.append_assoc]
theorem tailB_list : ∀ (L : List (List Int)), (tailB L).data.toList = Lib.joinTail [32] (L.map fun t => (digB t).data.toList) := by
  intro L
  rw [← List.reverse_reverse L]
  generalize L.reverse = L'
  clear L
  induction L' with
  | nil => rfl
  | cons a xs ih =>
    rw [List.reverse_cons, tailB_snoc]
    simp only [ByteArray.data_append, Array.toList_append, ih, Lib.joinTail, List.map_append, List.flatten_append, List.map_cons, List.map_nil, List.flatten_cons, List.flatten_nil, List.append_nil, List.append_assoc]
/-- words put together: the text -/
theorem relB_join (r : Int × List (List Int)) : (⟨(Lib.join ((relK r r.2.length).map (·.data.toList)) [32]).toArray⟩ : ByteArray) = relB r := by
  apply ByteArray.ext
  apply Array.ext'
  unfold relB accB relK
  rw [List.take_length]
  simp only [List.map_cons, List.map_map, Lib.join_cons, ByteArray.data_append, Array.toList_append, tailB_list]
  simp only [Lib.joinTail, List.map_cons, List.flatten_cons, List.append_assoc]
  rfl
/-- what a relation's text is made of, for a relation that is valid for the greatest size -/
theorem text_parts {r : Int × List (List Int)} (h : SValidRel 4 r = true) : 1 ≤ r.1 ∧ r.1 ≤ 4 ∧ r.2.length ≤ 256 ∧ ∀ t ∈ r.2, t.length ≤ 4 ∧ ∀ x ∈ t, 0 ≤ x ∧ x < 10 := by
  obtain ⟨_, a2, a3⟩ := valid_parts h
  refine ⟨a2.1, a2.2, valid_length h, fun t ht => ?_⟩
  obtain ⟨h1, h2⟩ := vals_iff.1 (a3 t ht)
  exact ⟨by omega, fun x hx => by have := h2 x hx; omega⟩
theorem tailB_size : ∀ (L : List (List Int)), (∀ t ∈ L, t.length ≤ 4 ∧ ∀ x ∈ t, 0 ≤ x ∧ x < 10) → (tailB L).size ≤ 5 * L.length := by
  intro L
  rw [← List.reverse_reverse L]
  generalize L.reverse = L'
  clear L
  induction L' with
  | nil => intro _; simp [tailB]
  | cons a xs ih =>
    intro h
    rw [List.reverse_cons] at h ⊢
    have ha := h a (by simp)
    have h1 := ih fun t ht => h t (List.mem_append_left _ ht)
    rw [tailB_snoc, ByteArray.size_append, ByteArray.size_append, digB_size a ha.2, List.length_append]
    simp only [List.length_cons, List.length_nil]
    have : (⟨#[32]⟩ : ByteArray).size = 1 := rfl
    omega
theorem accB_size {r : Int × List (List Int)} (h : SValidRel 4 r = true) (k : Nat) : (accB r k).size ≤ 1300 := by
  obtain ⟨h1, h2, h3, h4⟩ := text_parts h
  have h5 := tailB_size (r.2.take k) fun t ht => h4 t (List.mem_of_mem_take ht)
  have h6 : (decB r.1).size = 1 := decB_size (by omega) (by omega)
  have h7 : (⟨#[114, 101, 108, 32]⟩ : ByteArray).size = 4 := rfl
  rw [List.length_take] at h5
  unfold accB
  rw [ByteArray.size_append, ByteArray.size_append]
  omega
theorem lens_le : ∀ (xs : List (List UInt8)), (∀ x ∈ xs, x.length ≤ 4) → Lib.lens xs ≤ 4 * xs.length
  | [], _ => by simp [Lib.lens]
  | x :: xs, h => by
    have h1 := lens_le xs fun y hy => h y (List.mem_cons_of_mem _ hy)
    have h2 := h x List.mem_cons_self
    simp only [Lib.lens, List.map_cons, List.sum_cons, List.length_cons] at h1 ⊢
    omega
theorem rel_join_len {r : Int × List (List Int)} (h : SValidRel 4 r = true) : (Lib.join ((relK r r.2.length).map (·.data.toList)) [32]).length ≤ 140737488355328 := by
  obtain ⟨h1, h2, h3, h4⟩ := text_parts h
  have hd : ∀ t ∈ r.2, (digB t).data.toList.length ≤ 4 := fun t ht => by
    have h5 := (h4 t ht).1
    rw [show (digB t).data.toList.length = (digB t).size from Array.length_toList, digB_size t (h4 t ht).2]
    exact h5
  have h6 : (decB r.1).data.toList.length ≤ 4 := by rw [decB_one (by omega) (by omega)]; simp
  unfold relK
  rw [List.take_length, List.map_cons, List.map_cons, Lib.join_length]
  have hl := lens_le ((⟨#[114, 101, 108]⟩ : ByteArray).data.toList :: (decB r.1).data.toList :: List.map (fun x => x.data.toList) (List.map digB r.2)) (by
    intro x hx
    rcases List.mem_cons.1 hx with rfl | hx
    · simp
    rcases List.mem_cons.1 hx with rfl | hx
    · exact h6
    · simp only [List.map_map, List.mem_map] at hx
      obtain ⟨t, ht, rfl⟩ := hx
      exact hd t ht)
  simp only [List.length_cons, List.length_nil, List.length_map] at hl ⊢
  omega
def SRelText (r : Int × List (List Int)) : ByteArray := if SValidRel 4 r then relB r else ByteArray.empty
theorem relText_yes {r : Int × List (List Int)} (h : SValidRel 4 r = true) : SRelText r = relB r := by unfold SRelText; rw [h]; rfl
theorem relText_no {r : Int × List (List Int)} (h : SValidRel 4 r = false) : SRelText r = ByteArray.empty := by unfold SRelText; rw [h]; rfl

theorem infoS : (Tryz.prog.info? 9).map (fun i => (i.zero, i.size, i.bytes)) = some (some (.string ByteArray.empty), 1, 16) := by kernel_rfl
theorem row_two (w : World) (base : Nat) (x y : ByteArray) (hb : base ≤ w.heap.size) : (w.alloc (.cells #[.string x, .string y] 9)).ownsRow base 9 1 (.slice (some ⟨w.heap.size, 0, none⟩) 2 2) 2 [.string x, .string y] :=
  ⟨by simp, .inr ⟨w.heap.size, 2, #[.string x, .string y], rfl, hb, heap_alloc_new w _, Nat.le_refl _, by decide, rfl, rfl⟩⟩
theorem row_two' {w : World} {base : Nat} {x y : ByteArray} {B : Nat} (hB : w.heap.size = B) (hb : base ≤ B) : (w.alloc (.cells #[.string x, .string y] 9)).ownsRow base 9 1 (.slice (some ⟨B, 0, none⟩) 2 2) 2 [.string x, .string y] := by
  subst hB
  exact row_two w base x y hb
set_option maxHeartbeats 4000000 in
set_option maxRecDepth 100000 in
theorem relText_any (r : Int × List (List Int)) (v : Value) (w : World) (hr : RdRel w v r) (hv : SValidRel 4 r = true) :
    Calls Tryz.prog 71 #[v] w fun e w' => e = .returned (.string (relB r)) ∧ Ext w w' := by
  obtain ⟨i0, hi, hz0, hz1, hz2⟩ := info_parts infoS
  obtain ⟨b1, b2, b3, b4⟩ := text_parts hv
  have hJ := relB_join r
  have hJl := rel_join_len hv
  obtain ⟨tv, rfl, hr⟩ := hr
  obtain ⟨ta, tb, to, tc, tvs, rfl, hlc, hcm, ha, hc⟩ := hr
  have hE1 : Ext w (w.alloc (.cells #[.int .i64 r.1, .slice ta r.2.length tc] 35)) := (Ext.refl' w).alloc (Nat.le_refl _) _
  go_enter Tryz.func71, Tryz.ntmps71
  go_wp2_with fail
  refine (dec_any r.1 _ (by omega) (by omega)).mono ?_
  rintro e w1 ⟨rfl, rfl⟩
  have hrow := row_two' (w := w.alloc (.cells #[.int .i64 r.1, .slice ta r.2.length tc] 35)) (base := w.heap.size + 1) (x := ⟨#[114, 101, 108]⟩) (y := decB r.1) (B := w.heap.size + 1) (by simp) (Nat.le_refl _)
  have hE2 : Ext w ((w.alloc (.cells #[.int .i64 r.1, .slice ta r.2.length tc] 35)).alloc (.cells #[.string ⟨#[114, 101, 108]⟩, .string (decB r.1)] 9)) := hE1.alloc (by simp) _
  go_wp2_with fail
  go_loopw [3, 13] (fun t i wr => ∃ k : Nat, k ≤ r.2.length ∧ i = .int .i64 k ∧ Ext w wr ∧ w.heap.size + 2 ≤ wr.heap.size ∧ wr.ownsRow (w.heap.size + 1) 9 1 t (relK r k).length ((relK r k).map Value.string)) (fun _ i _ => r.2.length - (intOf i).toNat)
  case atStart => exact ⟨0, by omega, rfl, hE2, by simp, hrow⟩
  case round =>
    obtain ⟨k, hk, rfl, hE, q3, ho⟩ := hrel
    have hlen := relK_length hk
    have hlenle : (relK r k).length ≤ 300 := by omega
    have HLEN := Lib.hid hlen
    clear hlen
    obtain ⟨oa, ob, oc, rfl, o1, o2, o3, o4, o5, o6, o7⟩ := own_parts ho
    by_cases hkl : k < r.2.length
    · obtain rfl := ha (by omega)
      obtain ⟨q1, q2⟩ := hc k hkl
      replace q1 := hE.cell q1
      replace q2 := q2.ext hE
      obtain ⟨va, vc, hvk⟩ := q2.form
      rw [hvk] at q1 q2
      have HS := Lib.hid (relK_succ hkl)
      have hx := b4 r.2[k] (List.getElem_mem hkl)
      clear o1 hc hvk o4 o5 o6 o7 hE1 hE2 hrow
      generalize hK : relK r k = K at *
      have HK := Lib.hid hK
      clear hK
      go_wp2_with fail
      refine (digits_any r.2[k] _ _ q2 hx.2 (by omega)).mono ?_
      rintro e w3 ⟨rfl, rfl⟩
      go_wp2_with (at_builtin; refine wpList_append_own _ rfl _ _ 61 rfl (w.heap.size + 1) 9 i0 (.string ByteArray.empty) 1 16 Tryz.underlying61 hi hz0 hz1 hz2 rfl (by decide) _ _ _ rfl (own_ext ho ((Ext.refl' wr).alloc (Nat.le_refl _) _)) ⟨wr.heap.size, 0, none⟩ 1 1 [.string (digB r.2[k])] rfl rfl (cells_one (by simp [go_sem])) (by simp [Value.oneCell']) (by unfold maxLen; omega) (by omega) (by simp; omega) ?_)
      intro v' w5 ho5 hg5 _
      have hAA : Ext wr (wr.alloc (.cells #[.string (digB r.2[k])] 9)) := (Ext.refl' wr).alloc (Nat.le_refl _) _
      have hE5 : Ext w w5 := (hE.tr hAA).grown hg5 (by simp; omega) (fun h hh => by have := (ho.lt h hh).1; omega)
      have hz5 : w.heap.size + 2 ≤ w5.heap.size := by have := hg5.size; simp at this; omega
      have ho6 : w5.ownsRow (w.heap.size + 1) 9 1 v' (relK r (k + 1)).length ((relK r (k + 1)).map Value.string) := by rw [HS.out, List.map_append, List.length_append]; exact ho5
      clear ho hg5 hAA ho5
      go_wp2_with fail
      go_roundw
      case rel => exact ⟨k + 1, by omega, by go_num, hE5, hz5, ho6⟩
      case measure => simp [intOf]; omega
    · have hke : k = r.2.length := by omega
      subst hke
      have hob : oa = some ⟨ob, 0, none⟩ := o4 (by rw [HLEN.out]; omega)
      subst hob
      have hbl : ob < wr.heap.size := lt_of_cell (o6 0 (by rw [o1, HLEN.out]; omega))
      have hJoin := Tryz.strings_Join ob 0 oc (relK r r.2.length) ⟨#[32]⟩ wr (fun j x hj => by
        obtain ⟨hj1, hj2⟩ := List.getElem?_eq_some_iff.1 hj
        have := o6 j (by rw [List.length_map]; exact hj1)
        rw [List.getElem_map, hj2] at this
        simpa using this) hbl (by omega) o2 hJl
      rw [hJ] at hJoin
      have HJ := Lib.hid hJoin
      clear hJoin hJ hJl o1 o2 o3 o4 o5 o6 o7 ho hrow
      generalize (relK r r.2.length).length = N at *
      go_wp2_with fail
      refine HJ.out.mono ?_
      rintro e w4 ⟨rfl, hB⟩
      go_wp2_with fail
      go_ret
      exact ⟨rfl, hE.tr hB⟩
set_option maxHeartbeats 1000000 in
theorem implRelText_any (r : Int × List (List Int)) (v : Value) (w : World) (hr : RdRel w v r) (_ : szRel r ≤ 1048576) :
    Calls Tryz.prog 25 #[v] w fun e w' => e = .returned (.string (SRelText r)) ∧ Ext w w' := by
  obtain ⟨tv, rfl, hr⟩ := hr
  have hE1 : Ext w (w.alloc (.cells #[.int .i64 r.1, tv] 35)) := (Ext.refl' w).alloc (Nat.le_refl _) _
  cases h : SValidRel 4 r with
  | false =>
    have HS := Lib.hid (relText_no h)
    go_enter Tryz.func25, Tryz.ntmps25
    go_wp2_with fail
    refine (implValidRel_ok 4 r _ _ ⟨_, rfl, hr.ext hE1⟩).mono ?_
    rintro e w1 ⟨rfl, hE⟩
    rw [h]
    go_wp2_with fail
    go_ret
    exact ⟨by rw [HS.out]; rfl, hE1.tr hE⟩
  | true =>
    have HS := Lib.hid (relText_yes h)
    go_enter Tryz.func25, Tryz.ntmps25
    go_wp2_with fail
    refine (implValidRel_ok 4 r _ _ ⟨_, rfl, hr.ext hE1⟩).mono ?_
    rintro e w1 ⟨rfl, hE⟩
    rw [h]
    have c0 := hE.cell (p := ⟨w.heap.size, 0, none⟩) (v := .int .i64 r.1) (by simp [go_sem])
    have c1 := hE.cell (p := ⟨w.heap.size, 1, none⟩) (v := tv) (by simp [go_sem])
    go_wp2_with fail
    refine (relText_any r _ _ ⟨_, rfl, hr.ext (hE1.tr hE)⟩ h).mono ?_
    rintro e w2 ⟨rfl, hE2⟩
    go_wp2_with fail
    go_ret
    exact ⟨by rw [HS.out]; rfl, (hE1.tr hE).tr hE2⟩
end Go.Proofs.YtajkepdfemdagaaGreatDoor
namespace Go.Proofs.YtajkepdfemdagaaGreatDoor
open Go.RowKit
set_option linter.unusedVariables false

def IsRelOf (s : ByteArray) (r : Int × List (List Int)) : Prop := SValidRel 4 r = true ∧ relB r = s
theorem rel_words {s : ByteArray} {r : Int × List (List Int)} (h : IsRelOf s r) : words 32 s = ⟨#[114, 101, 108]⟩ :: decB r.1 :: r.2.map digB := by
  obtain ⟨h1, rfl⟩ := h
  obtain ⟨b1, b2, b3, b4⟩ := text_parts h1
  have hj := relB_join r
  have hk : relK r r.2.length = ⟨#[114, 101, 108]⟩ :: decB r.1 :: r.2.map digB := by unfold relK; rw [List.take_length]
  rw [hk] at hj
  refine words_join ?_ (by simp) ?_
  · rw [← hj]
  · intro w hw
    rcases List.mem_cons.1 hw with rfl | hw
    · decide
    rcases List.mem_cons.1 hw with rfl | hw
    · exact no_space_dec (by omega) (by omega)
    · obtain ⟨t, ht, rfl⟩ := List.mem_map.1 hw
      exact no_space_dig (b4 t ht).2
/-- the relation that the program reads from a text -/
def SrdR (s : ByteArray) : Int × List (List Int) :=
  match words 32 s with
  | w0 :: w1 :: ws => if w0 = ⟨#[114, 101, 108]⟩ then (rnV w1, ws.map rdg) else noRel
  | _ => noRel
theorem rdR_of {s : ByteArray} {r : Int × List (List Int)} (h : IsRelOf s r) : SrdR s = r := by
  obtain ⟨b1, b2, b3, b4⟩ := text_parts h.1
  unfold SrdR
  rw [rel_words h]
  have h1 : rnV (decB r.1) = r.1 := ((rnV_num (decB r.1)).2 r.1 b1 b2).2 rfl
  have h2 : (r.2.map digB).map rdg = r.2 := by
    rw [List.map_map]
    refine Eq.trans (List.map_congr_left fun t ht => ?_) (List.map_id _)
    exact rdg_digB (b4 t ht).2
  simp only [if_true, h1, h2]
theorem rel_unique {s : ByteArray} {r q : Int × List (List Int)} (h : IsRelOf s r) (k : IsRelOf s q) : r = q := (rdR_of h).symm.trans (rdR_of k)
theorem rel_size {s : ByteArray} {r : Int × List (List Int)} (h : IsRelOf s r) : s.size ≤ 1300 := by
  obtain ⟨h1, rfl⟩ := h
  exact accB_size h1 _
def SReadRel (s : ByteArray) : (Int × List (List Int)) × Int :=
  if 20000 < s.size then (noRel, 2) else if SValidRel 4 (SrdR s) && decide (relB (SrdR s) = s) then (SrdR s, 0) else (noRel, 5)
theorem readRel_big {s : ByteArray} (h : 20000 < s.size) : SReadRel s = (noRel, 2) := by unfold SReadRel; rw [if_pos h]
theorem readRel_yes {s : ByteArray} {r : Int × List (List Int)} (h : IsRelOf s r) : SReadRel s = (r, 0) := by
  have hz := rel_size h
  unfold SReadRel
  rw [if_neg (by omega), rdR_of h, h.1, h.2]
  simp
theorem readRel_no {s : ByteArray} (hz : ¬ 20000 < s.size) (h : ∀ r, ¬ IsRelOf s r) : SReadRel s = (noRel, 5) := by
  unfold SReadRel
  rw [if_neg hz, if_neg]
  intro hh
  rw [Bool.and_eq_true, decide_eq_true_eq] at hh
  exact h _ hh
/-- bytes less 48 -/
def subB (s : ByteArray) : List Int := s.data.toList.map fun b => (b.toNat : Int) - 48
theorem subB_digB {l : List Int} (h : ∀ x ∈ l, 0 ≤ x ∧ x < 10) : subB (digB l) = l := by
  unfold subB
  rw [digB_bytes l h, List.map_map]
  refine Eq.trans (List.map_congr_left fun x hx => ?_) (List.map_id _)
  have hx := h x hx
  simp only [Function.comp_apply, id_eq, ofNat_dig hx.1 hx.2]
  omega
theorem digB_subB {s : ByteArray} (h : ∀ x ∈ subB s, 0 ≤ x ∧ x < 4) : digB (subB s) = s := by
  refine digB_sub fun b hb => ?_
  have := h ((b.toNat : Int) - 48) (List.mem_map.2 ⟨b, hb, rfl⟩)
  unfold isDig
  rw [decide_eq_true_eq]
  omega
theorem subB_len (s : ByteArray) : (subB s).length = s.size := by unfold subB; rw [List.length_map, Lib.size_eq]
/-- the parts are as they must be: it is the relation -/
theorem rel_from {s w1 : ByteArray} {ws : List ByteArray} {v : Int} (hw : words 32 s = ⟨#[114, 101, 108]⟩ :: w1 :: ws) (hn : NumOf w1 v) (hv : SValidRel 4 (v, ws.map subB) = true) : IsRelOf s (v, ws.map subB) := by
  obtain ⟨b1, b2, b3, b4⟩ := text_parts hv
  refine ⟨hv, data_inj ?_⟩
  have hd : w1 = decB v := (hn.2 v b1 b2).1 rfl
  have hvs : ∀ x ∈ ws, digB (subB x) = x := fun x hx => digB_subB fun y hy => by
    obtain ⟨_, _, a3⟩ := valid_parts hv
    exact (vals_iff.1 (a3 (subB x) (List.mem_map.2 ⟨x, hx, rfl⟩))).2 y hy
  have hk : relK (v, ws.map subB) (ws.map subB).length = ⟨#[114, 101, 108]⟩ :: w1 :: ws := by
    unfold relK
    rw [List.take_length, hd, List.map_map]
    congr 2
    refine Eq.trans (List.map_congr_left fun x hx => ?_) (List.map_id _)
    exact hvs x hx
  have hj := relB_join (v, ws.map subB)
  rw [hk] at hj
  rw [← hj, ← join_words 32 s, hw]
theorem szII_four : ∀ (l : List (List Int)), (∀ t ∈ l, t.length ≤ 4) → szII l ≤ 5 * l.length
  | [], _ => by simp [szII]
  | t :: l, h => by
    have h1 := szII_four l fun x hx => h x (List.mem_cons_of_mem _ hx)
    have h2 := h t List.mem_cons_self
    simp only [szII, List.length_cons]
    omega
theorem rel_mk {r : Int × List (List Int)} (h : SValidRel 4 r = true) : szRel r ≤ 1048576 ∧ mkRel r ≤ 1048576 := by
  obtain ⟨b1, b2, b3, b4⟩ := text_parts h
  have h1 := szII_four r.2 fun t ht => (b4 t ht).1
  have h2 := mkRel_le r
  have h3 : szRel r ≤ 1048576 := by unfold szRel; omega
  exact ⟨h3, Nat.le_trans h2 h3⟩
theorem readRel_5 {s : ByteArray} (hz : ¬ 20000 < s.size) (h : SValidRel 4 (SrdR s) = false) : SReadRel s = (noRel, 5) := by
  unfold SReadRel
  rw [if_neg hz, h]
  rfl
theorem readRel_5b {s : ByteArray} (hz : ¬ 20000 < s.size) (h : ¬ relB (SrdR s) = s) : SReadRel s = (noRel, 5) := by
  unfold SReadRel
  rw [if_neg hz, decide_eq_false h, Bool.and_false]
  rfl
end Go.Proofs.YtajkepdfemdagaaGreatDoor
