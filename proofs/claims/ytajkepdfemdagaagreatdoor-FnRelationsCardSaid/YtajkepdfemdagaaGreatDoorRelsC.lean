
/- What FnRelations calls, where its arguments are valid; a list that is put together of a relation's rows. -/
import Derived.Test.YtajkepdfemdagaaGreatDoorRelsL
import Derived.Test.YtajkepdfemdagaaGreatDoorLaidW
namespace Go.Proofs.YtajkepdfemdagaaGreatDoor
open Go.RowKit
set_option linter.unusedVariables false

section
variable {s m : Int} {w : World}
theorem opp_got {r : Int × List (List Int)} {v : Value} (hr : RdRel w v r) (hi : IsRel s m r) :
    Calls Tryz.prog 15 #[.int .i64 s, v] w (GotR s m (SrelOf s m (oppP r)) w) := by
  obtain ⟨a1, a2, _⟩ := valid_parts hi.valid
  have h1 := hi.ar
  have hc := implOppositeRel_any s r v w hr (by omega) (by omega) hi.sz
  rw [show SOppositeRel s r = (SrelOf s r.1 fun t => !hasT r t, 0) from by unfold SOppositeRel; rw [hi.valid]; rfl, h1] at hc
  rw [h1] at a2
  exact hc.mono fun _ _ h => h.got (.srel a1.1 a1.2 a2.1 a2.2 _)
theorem meet_got {r q : Int × List (List Int)} {v u : Value} (hr : RdRel w v r) (hi : IsRel s m r) (hq : RdRel w u q) (hj : IsRel s m q) :
    Calls Tryz.prog 16 #[.int .i64 s, v, u] w (GotR s m (SrelOf s m (meetP r q)) w) := by
  obtain ⟨a1, a2, _⟩ := valid_parts hi.valid
  have h1 := hi.ar
  have hc := implMeetRels_any s r v q u w hr hq (by omega) (by omega) hi.sz hj.sz
  rw [show SMeetRels s r q = (SrelOf s r.1 fun t => hasT r t && hasT q t, 0) from if_pos (no_two hi hj), h1] at hc
  rw [h1] at a2
  exact hc.mono fun _ _ h => h.got (.srel a1.1 a1.2 a2.1 a2.2 _)
theorem join_got {r q : Int × List (List Int)} {v u : Value} (hr : RdRel w v r) (hi : IsRel s m r) (hq : RdRel w u q) (hj : IsRel s m q) :
    Calls Tryz.prog 17 #[.int .i64 s, v, u] w (GotR s m (SrelOf s m (joinP r q)) w) := by
  obtain ⟨a1, a2, _⟩ := valid_parts hi.valid
  have h1 := hi.ar
  have hc := implJoinRels_any s r v q u w hr hq (by omega) (by omega) hi.sz hj.sz
  rw [show SJoinRels s r q = (SrelOf s r.1 fun t => hasT r t || hasT q t, 0) from if_pos (no_two hi hj), h1] at hc
  rw [h1] at a2
  exact hc.mono fun _ _ h => h.got (.srel a1.1 a1.2 a2.1 a2.2 _)
theorem full_got (s m : Int) (w : World) (hs : 1 ≤ s) (hs2 : s ≤ 4) (hm : 1 ≤ m) (hm2 : m ≤ 4) : Calls Tryz.prog 18 #[.int .i64 s, .int .i64 m] w (GotR s m (SrelOf s m fun _ => true) w) := by
  have hc := implFullRel_any s m w (by omega) (by omega) (by omega) (by omega)
  rw [show SFullRel s m = (SrelOf s m fun _ => true, 0) from by unfold SFullRel; rw [if_pos (inB_iff.2 ⟨hs, hs2⟩), if_pos (inB_iff.2 ⟨hm, hm2⟩)]] at hc
  exact hc.mono fun _ _ h => h.got (.srel hs hs2 hm hm2 _)
theorem part_got {r q : Int × List (List Int)} {v u : Value} (hr : RdRel w v r) (hi : IsRel s m r) (hq : RdRel w u q) (hj : IsRel s m q) :
    Calls Tryz.prog 23 #[.int .i64 s, v, u] w fun e w' => e = .returned (.tuple #[.bool (partOf r q), .int .i64 0]) ∧ Ext w w' := by
  obtain ⟨a1, a2, _⟩ := valid_parts hi.valid
  have hc := implIsPartOf_any s r v q u w hr hq (by omega) (by omega) hi.sz hj.sz
  rw [show SIsPartOf s r q = (partOf r q, 0) from if_pos (no_two hi hj)] at hc
  exact hc
theorem valid_got {r : Int × List (List Int)} {v : Value} (hr : RdRel w v r) (hi : IsRel s m r) :
    Calls Tryz.prog 20 #[.int .i64 s, v] w fun e w' => e = .returned (.bool true) ∧ Ext w w' := by
  have hc := implValidRel_ok s r v w hr
  rw [hi.valid] at hc
  exact hc
theorem eq_got {r q : Int × List (List Int)} {v u : Value} (hr : RdRel w v r) (hi : IsRel s m r) (hq : RdRel w u q) (hj : IsRel s m q) {b : Bool} (hb : b = decide (r = q)) :
    Calls Tryz.prog 19 #[v, u] w fun e w' => e = .returned (.bool b) ∧ Ext w w' := by
  subst hb
  exact specSameRel_any r v q u w hr hq hi.sz hj.sz
theorem isame_got {r q : Int × List (List Int)} {v u : Value} (hr : RdRel w v r) (hi : IsRel s m r) (hq : RdRel w u q) (he : r = q) :
    Calls Tryz.prog 27 #[v, u] w fun e w' => e = .returned (.bool true) ∧ Ext w w' := by
  subst he
  have hc := implSameRel_any r v r u w hr hq hi.sz hi.sz
  rw [show SSameRel r r = true from decide_eq_true rfl] at hc
  exact hc
theorem valid_to4 {r : Int × List (List Int)} (hv : SValidRel s r = true) : SValidRel 4 r = true := by
  obtain ⟨a1, a2, a3⟩ := valid_parts hv
  have h := hv
  unfold SValidRel at h ⊢
  rw [Bool.and_eq_true, Bool.and_eq_true, List.all_eq_true] at h ⊢
  refine ⟨⟨by decide, h.1.2⟩, fun k hk => ?_⟩
  have h1 := h.2 k hk
  unfold okT at h1 ⊢
  rw [Bool.and_eq_true] at h1 ⊢
  refine ⟨?_, h1.2⟩
  obtain ⟨h2, h3⟩ := vals_iff.1 h1.1
  exact vals_iff.2 ⟨h2, fun a ha => by have := h3 a ha; omega⟩
theorem text_got {r : Int × List (List Int)} {v : Value} (hr : RdRel w v r) (hi : IsRel s m r) :
    Calls Tryz.prog 25 #[v] w fun e w' => e = .returned (.string (relB r)) ∧ Ext w w' := by
  have hc := implRelText_any r v w hr hi.sz
  rw [relText_yes (valid_to4 hi.valid)] at hc
  exact hc
theorem read_got {r : Int × List (List Int)} (hi : IsRel s m r) (w : World) (hL : LaidW w) : Calls Tryz.prog 24 #[.string (relB r)] w (GotR s m r w) := by
  have h4 := valid_to4 hi.valid
  have hz := rel_size (s := relB r) (r := r) ⟨h4, rfl⟩
  have hc := implReadRel_any (relB r) w hL (by omega)
  rw [readRel_yes (s := relB r) (r := r) ⟨h4, rfl⟩] at hc
  exact hc.mono fun _ _ h => h.got hi
theorem szII_flat : ∀ (L : List (List Int)), (∀ t ∈ L, t.length ≤ 4) → szII L ≤ 5 * L.length := szII_four
theorem turnL_len (L : List (List Int)) : (turnL L).length = 2 * L.length := by
  unfold turnL
  rw [List.length_flatMap]
  have : ∀ M : List (List Int), (M.map fun t => [t, t].length).sum = 2 * M.length := by
    intro M
    induction M with
    | nil => rfl
    | cons a M ih =>
      rw [List.map_cons, List.sum_cons, ih]
      simp only [List.length_cons, List.length_nil]
      omega
  rw [this, List.length_reverse]
theorem made_got {r : Int × List (List Int)} {v : Value} (hi : IsRel s m r) (hr : RdII w v (turnL r.2)) :
    Calls Tryz.prog 26 #[.int .i64 s, .int .i64 m, v] w (GotR s m r w) := by
  obtain ⟨a1, a2, a3⟩ := valid_parts hi.valid
  have h1 := hi.ar
  have h2 := szII_four (turnL r.2) fun t ht => by
    have := (vals_iff.1 (a3 t (mem_turnL.1 ht))).1
    omega
  rw [turnL_len] at h2
  have h3 := hi.len
  have hc := implMakeRel_any s m (turnL r.2) v w hr (by omega) (by omega) (by omega) (by omega) (by omega)
  rw [turn_made hi] at hc
  exact hc.mono fun _ _ h => h.got hi
end

/-- a row of a relation in a variable -/
theorem rel_rowG {w : World} {b : Nat} {R : Int × List (List Int)} {ta : Option Addr} {tc : Nat} (h : RVar w b R ta tc) {j : Nat} (hj : j < R.2.length) :
    ∃ fb fo a c, ta = some ⟨fb, fo, none⟩ ∧ w.cell? ⟨fb, fo + j, none⟩ = some (.slice a R.2[j].length c) ∧ RdI w (.slice a R.2[j].length c) R.2[j] := by
  obtain ⟨tv, hv, a, fb, fo, cap, vs, hs, _, _, ha, hc⟩ := h.rd
  simp only [Value.agg.injEq, Array.mk.injEq, List.cons.injEq, and_true, true_and] at hv
  rw [← hv] at hs
  injection hs with e1 e2 e3
  obtain ⟨hc1, hc2⟩ := hc j hj
  obtain ⟨a', c', hvj⟩ := hc2.form
  rw [hvj] at hc1 hc2
  exact ⟨fb, fo, a', c', e1.trans (ha (by omega)), hc1, hc2⟩
/-- what is turned, from place p on -/
def turnP (L : List (List Int)) (p : Nat) : List (List Int) := (L.drop p).reverse.flatMap fun t => [t, t]
theorem turnP_zero (L : List (List Int)) : turnP L 0 = turnL L := rfl
theorem turnP_all (L : List (List Int)) : turnP L L.length = [] := by unfold turnP; rw [List.drop_length]; rfl
theorem turnP_step {L : List (List Int)} {p : Nat} (hp : p < L.length) : turnP L p = turnP L (p + 1) ++ [L[p], L[p]] := by
  unfold turnP
  rw [List.drop_eq_getElem_cons hp, List.reverse_cons, List.flatMap_append]
  rfl
theorem turnP_len (L : List (List Int)) (p : Nat) : (turnP L p).length ≤ 2 * L.length := by
  have h := turnL_len (L.drop p)
  unfold turnL at h
  unfold turnP
  rw [h, List.length_drop]
  omega
/-- a list of lists of which the outer row alone is owned -/
def RowOf (w0 w : World) (base : Nat) (v : Value) (ll : List (List Int)) : Prop := ∃ cs : List Value, w.ownsRow base 37 1 v ll.length cs ∧ cs.length = ll.length ∧ ∀ j (h : j < ll.length) (h2 : j < cs.length), RdI w0 cs[j] ll[j]
theorem RowOf.form {w0 w : World} {base : Nat} {v : Value} {ll : List (List Int)} (h : RowOf w0 w base v ll) : ∃ a c, v = .slice a ll.length c := by
  obtain ⟨cs, h1, _⟩ := h
  obtain ⟨a, _, c, hv, _⟩ := own_parts h1
  exact ⟨a, c, hv⟩
theorem RowOf.ext {w0 w w' : World} {base : Nat} {v : Value} {ll : List (List Int)} (h : RowOf w0 w base v ll) (hE : Ext w w') : RowOf w0 w' base v ll := by
  obtain ⟨cs, h1, h2, h3⟩ := h
  exact ⟨cs, own_ext h1 hE, h2, h3⟩
theorem RowOf.rd {w0 w : World} {base : Nat} {v : Value} {ll : List (List Int)} (h : RowOf w0 w base v ll) (hE : Ext w0 w) : RdII w v ll := by
  obtain ⟨cs, h1, h2, h3⟩ := h
  obtain ⟨a, b, cap, hv, hl, hn, hm, ha, _, hc, _⟩ := own_parts h1
  exact ⟨a, b, 0, cap, fun j => cs.getD j undef, hv, hn, hm, ha, fun j hj => by
    have hj2 : j < cs.length := by omega
    have hg : cs.getD j undef = cs[j] := by rw [List.getD_eq_getElem?_getD, List.getElem?_eq_getElem hj2]; rfl
    refine ⟨?_, ?_⟩
    · show _ = some (cs.getD j undef)
      rw [hg]
      exact hc j hj2
    · show RdI w (cs.getD j undef) _
      rw [hg]
      exact (h3 j hj hj2).ext hE⟩
theorem RowOf.start (w0 w : World) : RowOf w0 (w.alloc (.cells #[] 37)) w.heap.size (.slice (some ⟨w.heap.size, 0, none⟩) 0 0) [] := ⟨[], World.ownsRow_made w #[] 0 (Nat.le_refl _) (by decide) rfl, rfl, fun j hj => by simp at hj⟩
def SP.row2 (u : Value) : SP := ⟨fun v w => ∃ b, v = .slice (some ⟨b, 0, none⟩) 2 2 ∧ w.cell? ⟨b, 0, none⟩ = some u ∧ w.cell? ⟨b, 1, none⟩ = some u, fun _ _ _ ⟨b, h1, h2, h3⟩ hE => ⟨b, h1, Ext.cell hE h2, Ext.cell hE h3⟩⟩
theorem cells_twice {w : World} {b : Nat} {x : Value} (h : w.cell? ⟨b, 0, none⟩ = some x) (h1 : w.cell? ⟨b, 1, none⟩ = some x) : ∀ (j : Nat) u, ([x, x] : List Value)[j]? = some u → w.cell? ((⟨b, 0, none⟩ : Addr).add j) = some u := by
  intro j u hj
  match j, hj with
  | 0, hj =>
    simp at hj
    subst hj
    simpa [Addr.add] using h
  | 1, hj =>
    simp at hj
    subst hj
    simpa [Addr.add] using h1
/-- a list twice appended -/
theorem RowOf.append2 {w0 w1 : World} {B : Nat} {ll : List (List Int)} {tv : Value} {l : List Int} {a2 : Option Addr} {c2 : Nat} {ops : Array Oper} {rest : List Oper} {o : Oper} {a : Act} {Q : Exit → Act → World → Prop}
    (h : RowOf w0 w1 B tv ll) (hE : Ext w0 w1) (hB : B ≤ w1.heap.size) (hw : w0.heap.size ≤ B) (hx : RdI w0 (.slice a2 l.length c2) l) (hlen : ll.length ≤ 1048576) {b' : Nat} (cb : w1.cell? ⟨b', 0, none⟩ = some (.slice a2 l.length c2)) (cb1 : w1.cell? ⟨b', 1, none⟩ = some (.slice a2 l.length c2))
    (hgd : o.guard = none) (s y : Operand) (ho : o.op = .call { callee := .builtin .append, args := #[s, y], argTypes := #[33, 33] }) (hs : a.eval s = tv) (hy : a.eval y = .slice (some ⟨b', 0, none⟩) 2 2)
    (hk : ∀ v' w4, RowOf w0 w4 B v' (ll ++ [l, l]) → Ext w0 w4 → B ≤ w4.heap.size → wpList Tryz.prog ops Q rest (a.put o.dst v') w4) :
    wpList Tryz.prog ops Q (o :: rest) a w1 := by
  obtain ⟨i0, hi, hz0, hz1, hz2⟩ := info_parts infoIS'
  obtain ⟨cs, hrow, hcl, hrd⟩ := h
  refine wpList_append_own_at _ hgd s y 33 ho B 37 i0 (.slice none 0 0) 1 24 Tryz.underlying33 hi hz0 hz1 hz2 rfl (by decide) tv _ _ hs hrow ⟨b', 0, none⟩ 2 2 [.slice a2 l.length c2, .slice a2 l.length c2] hy rfl (cells_twice cb cb1) (by simp [Value.oneCell']) (by unfold maxLen; omega) (by omega) hB ?_
  intro v' w4 ho4 hg4 _ _
  have q4 := hg4.size
  have hE4 : Ext w0 w4 := hE.grown hg4 (by omega) (fun g hg => by have := (hrow.lt g hg).1; omega)
  refine hk v' w4 ⟨cs ++ [.slice a2 l.length c2, .slice a2 l.length c2], by rw [List.length_append]; exact ho4, by simp [hcl], fun j hj hj2 => ?_⟩ hE4 (by omega)
  by_cases hjl : j < ll.length
  · rw [List.getElem_append_left hjl, List.getElem_append_left (by omega)]
    exact hrd j hjl _
  · rw [List.getElem_append_right (by omega), List.getElem_append_right (by omega)]
    rw [List.length_append] at hj
    have hj3 : j - ll.length = 0 ∨ j - ll.length = 1 := by simp only [List.length_cons, List.length_nil] at hj; omega
    simp only [hcl]
    rcases hj3 with h3 | h3 <;> simp only [h3, List.getElem_cons_zero, List.getElem_cons_succ] <;> exact hx
end Go.Proofs.YtajkepdfemdagaaGreatDoor
