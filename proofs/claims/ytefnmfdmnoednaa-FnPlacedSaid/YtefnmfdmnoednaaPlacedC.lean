
/- What FnPlaced calls, where its arguments are valid: relations that are drawn, placed, paired, projected, fixed, composed and mapped; a variable that holds a relation. -/
import Derived.Test.YtefnmfdmnoednaaPlacedL
import Derived.Test.YtefnmfdmnoednaaDrawn
import Derived.Test.YtefnmfdmnoednaaBox
import Derived.Laws.AppendOwnNone
namespace Go.Proofs.Ytefnmfdmnoednaa
open Go.RowKit
set_option linter.unusedVariables false

structure IsRel (s m : Int) (R : Int × List (List Int)) : Prop where
  valid : SValidRel s R = true
  ar : R.1 = m
  sz : szRel R ≤ 1048576
  len : R.2.length ≤ 256
theorem mkII_small : ∀ (l : List (List Int)), (∀ t ∈ l, t.length ≤ 4) → szII l ≤ 5 * l.length
  | [], _ => by simp [szII]
  | t :: l, h => by
    have h1 := mkII_small l fun x hx => h x (List.mem_cons_of_mem _ hx)
    have h2 := h t List.mem_cons_self
    simp only [szII, List.length_cons]
    omega
theorem IsRel.of {s m : Int} {R : Int × List (List Int)} (hv : SValidRel s R = true) (h : R.1 = m) : IsRel s m R := by
  have hl := valid_length hv
  refine ⟨hv, h, ?_, hl⟩
  obtain ⟨_, a2, a3⟩ := valid_parts hv
  have := mkII_small R.2 fun t ht => by have := (vals_iff.1 (a3 t ht)).1; omega
  unfold szRel
  omega
theorem IsRel.srel {s m : Int} (hs : 1 ≤ s) (hs2 : s ≤ 4) (hm : 1 ≤ m) (hm2 : m ≤ 4) (p : List Int → Bool) : IsRel s m (SrelOf s m p) := .of (srel_valid hs hs2 hm hm2 p) rfl

/-- a variable in block b that holds a relation -/
structure RVar (w : World) (b : Nat) (R : Int × List (List Int)) (ta : Option Addr) (tc : Nat) : Prop where
  c0 : w.cell? ⟨b, 0, none⟩ = some (.int .i64 R.1)
  c1 : w.cell? ⟨b, 1, none⟩ = some (.slice ta R.2.length tc)
  rd : RdRel w (.agg #[.int .i64 R.1, .slice ta R.2.length tc]) R
theorem RVar.ext {w w' : World} {b : Nat} {R : Int × List (List Int)} {ta : Option Addr} {tc : Nat} (h : RVar w b R ta tc) (hE : Ext w w') : RVar w' b R ta tc := ⟨hE.cell h.c0, hE.cell h.c1, h.rd.ext hE⟩
theorem RVar.lt {w : World} {b : Nat} {R : Int × List (List Int)} {ta : Option Addr} {tc : Nat} (h : RVar w b R ta tc) : b < w.heap.size := lt_of_cell h.c0
theorem RVar.new {w : World} {R : Int × List (List Int)} {ta : Option Addr} {tc : Nat} (h : RdRel w (.agg #[.int .i64 R.1, .slice ta R.2.length tc]) R) : RVar (w.alloc (.cells #[.int .i64 R.1, .slice ta R.2.length tc] 25)) w.heap.size R ta tc :=
  ⟨by simp [go_sem], by simp [go_sem], h.ext ((Ext.refl' w).alloc (Nat.le_refl _) _)⟩

/-- a relation is answered, and no fault -/
def GotR (s m : Int) (R0 : Int × List (List Int)) (w : World) (e : Ending) (w' : World) : Prop :=
  ∃ ta tc R, e = .returned (.tuple #[.agg #[.int .i64 R.1, .slice ta R.2.length tc], .int .i64 0]) ∧ Ext w w' ∧ RdRel w' (.agg #[.int .i64 R.1, .slice ta R.2.length tc]) R ∧ IsRel s m R ∧ Hid (R = R0)
def DrawnR (s m : Int) (w : World) (e : Ending) (w' : World) : Prop :=
  ∃ ta tc R, e = .returned (.agg #[.int .i64 R.1, .slice ta R.2.length tc]) ∧ Ext w w' ∧ RdRel w' (.agg #[.int .i64 R.1, .slice ta R.2.length tc]) R ∧ IsRel s m R
theorem RelRes.got {s m : Int} {R : Int × List (List Int)} {w w' : World} {e : Ending} (h : RelRes (R, 0) w e w') (hi : IsRel s m R) : GotR s m R w e w' := by
  obtain ⟨u, fp, rfl, hE, ho, _, _⟩ := h
  obtain ⟨a, c, rfl⟩ := ho.form
  exact ⟨a, c, R, rfl, hE, ho.rd, hi, Lib.hid rfl⟩

theorem rdI_mid {w : World} {b o c : Nat} {x y z : Int} (h : RdI w (.slice (some ⟨b, o, none⟩) 3 c) [x, y, z]) : w.cell? ⟨b, o + 1, none⟩ = some (.int .i64 y) := by
  obtain ⟨a, b', o', c', hv, _, _, ha, hc⟩ := h
  rw [ha (by simp)] at hv
  injection hv with h1 h2 h3
  injection h1 with h1
  injection h1 with h1 h2
  subst h1 h2
  exact hc 1 (by simp)
theorem rdI_triple {w : World} {v : Value} {x y z : Int} (h : RdI w v [x, y, z]) : ∃ b o c, v = .slice (some ⟨b, o, none⟩) 3 c := by
  obtain ⟨a, b', o', c', hv, _, _, ha, hc⟩ := h
  exact ⟨b', o', c', by rw [hv, ha (by simp)]; rfl⟩
theorem rdI_zero (w : World) : RdI (w.alloc (.cells #[.int .i64 0] 2)) (.slice (some ⟨w.heap.size, 0, none⟩) 1 1) [0] :=
  ⟨_, w.heap.size, 0, 1, rfl, by simp, by simp, fun _ => rfl, fun j hj => by
    have : j = 0 := by simpa using hj
    subst this
    simp [go_sem]⟩
/-! ### bytes appended -/
theorem infoByte : (Try.prog.info? 5).map (fun i => (i.zero, i.size, i.bytes)) = some (some (.int .u8 0), 1, 1) := by kernel_rfl
theorem bytes_list {w : World} {b off : Nat} : ∀ (n : Nat), (∀ j, j < n → ∃ x : Int, 0 ≤ x ∧ x < 256 ∧ b < w.heap.size ∧ w.cell? ⟨b, off + j, none⟩ = some (.int .u8 x)) → ∃ xs : List Int, xs.length = n ∧ (∀ j (hj : j < xs.length), w.cell? ⟨b, off + j, none⟩ = some (.int .u8 xs[j])) ∧ ∀ x ∈ xs, 0 ≤ x ∧ x < 256
  | 0, _ => ⟨[], rfl, fun j hj => by simp at hj, by simp⟩
  | n + 1, h => by
    obtain ⟨xs, h1, h2, h3⟩ := bytes_list n fun j hj => h j (by omega)
    obtain ⟨x, x0, x1, _, hx⟩ := h n (by omega)
    refine ⟨xs ++ [x], by simp [h1], fun j hj => ?_, fun y hy => ?_⟩
    · rw [List.getElem_append]
      by_cases hjn : j < xs.length
      · rw [dif_pos hjn]
        exact h2 j hjn
      · rw [dif_neg hjn]
        have : j = n := by rw [List.length_append, List.length_singleton] at hj; omega
        subst this
        simp [hx]
    · rcases List.mem_append.1 hy with h | h
      · exact h3 y h
      · rw [List.mem_singleton.1 h]; exact ⟨x0, x1⟩
theorem rdB_own {w : World} {base n : Nat} {v : Value} {xs : List Int} (h : w.ownsRow base 5 1 v n (xs.map (Value.int .u8))) (hx : ∀ x ∈ xs, 0 ≤ x ∧ x < 256) : RdB w v := by
  obtain ⟨a, b, cap, hv, hl, h1, h2, h3, _, h4, _⟩ := own_parts h
  refine ⟨a, b, 0, n, cap, hv, h1, h2, h3, fun j hj => ?_⟩
  have hj2 : j < xs.length := by rw [← hl, List.length_map] at hj; exact hj
  have hc := h4 j (by rw [hl]; exact hj)
  rw [List.getElem_map] at hc
  have := hx xs[j] (List.getElem_mem hj2)
  exact ⟨xs[j], this.1, this.2, lt_of_cell hc, hc⟩
set_option maxRecDepth 100000 in
/-- append of bytes that came in to a row of one byte -/
theorem wpList_bytes {w : World} {a0 : Option Addr} {n c base : Nat} {sv : Value} {ops : Array Oper} {rest : List Oper} {o : Oper} {a : Act} {Q : Exit → Act → World → Prop} (h : RdB w (.slice a0 n c)) (hn : n ≤ 4096) (hnil : a0 = none → c = 0)
    (hown : w.ownsRow base 5 1 sv 1 [.int .u8 4]) (hbase : base ≤ w.heap.size) (hgd : o.guard = none) (s x : Operand)
    (ho : o.op = .call { callee := .builtin .append, args := #[s, x], argTypes := #[70, 70] }) (hs : a.eval s = sv) (hx : a.eval x = .slice a0 n c)
    (hk : ∀ xa xn xc w', RdB w' (.slice xa xn xc) → w.grownBy w' sv.ownBlock → wpList Try.prog ops Q rest (a.put o.dst (.slice xa xn xc)) w') : wpList Try.prog ops Q (o :: rest) a w := by
  obtain ⟨i0, hi, hz0, hz1, hz2⟩ := info_parts infoByte
  have four : ∀ x ∈ [(4 : Int)], 0 ≤ x ∧ x < 256 := by simp
  obtain ⟨a', b, off, n', c', hv, hnc, hc, ha, hb⟩ := h
  injection hv with e1 e2 e3
  subst e1 e2 e3
  cases a0 with
  | none =>
    have hc0 := hnil rfl
    subst hc0
    have hn0 : n = 0 := by omega
    subst hn0
    refine wpList_append_own_none hgd s x 70 ho base 5 i0 1 Try.underlying70 hi sv 1 [.int .u8 4] hs hown hx ?_
    have hr := rdB_own (xs := [4]) hown four
    obtain ⟨xa, xb, cap, rfl, _⟩ := own_parts hown
    exact hk _ _ _ w hr ⟨rfl, rfl, rfl, Nat.le_refl _, fun _ _ _ => rfl⟩
  | some ad =>
    obtain ⟨xs, h1, h2, h3⟩ := bytes_list n hb
    refine wpList_append_own w hgd s x 70 ho base 5 i0 (.int .u8 0) 1 1 Try.underlying70 hi hz0 hz1 hz2 rfl (by decide) sv 1 [.int .u8 4] hs hown ad n c (xs.map (Value.int .u8)) hx (by rw [List.length_map, h1, Nat.mul_one]) ?_ (by simp [Value.oneCell']) (by unfold maxLen; omega) (by omega) hbase ?_
    · intro j u hj
      obtain ⟨hj1, hj2⟩ := List.getElem?_eq_some_iff.1 hj
      rw [List.getElem_map] at hj2
      rw [List.length_map] at hj1
      have hc := h2 j hj1
      have he := ha (by omega)
      injection he with he
      rw [he, ← hj2]
      have hadd : (⟨b, off, none⟩ : Addr).add j = ⟨b, off + j, none⟩ := by
        unfold Addr.add
        split
        · next h => first | (subst h; rfl) | (simp at h; subst h; rfl)
        · rfl
      rw [hadd]
      exact hc
    · intro v' w' ho' hg' _
      have hr := rdB_own (xs := 4 :: xs) ho' (fun y hy => by
        rcases List.mem_cons.1 hy with rfl | h
        · omega
        · exact h3 y h)
      obtain ⟨xa, xb, cap, rfl, _⟩ := own_parts ho'
      exact hk _ _ _ w' hr hg'

theorem row_four (w : World) (base : Nat) (hb : base ≤ w.heap.size) : (w.alloc (.cells #[.int .u8 4] 5)).ownsRow base 5 1 (.slice (some ⟨w.heap.size, 0, none⟩) 1 1) 1 [.int .u8 4] :=
  ⟨by simp, .inr ⟨w.heap.size, 1, #[.int .u8 4], rfl, hb, heap_alloc_new w _, Nat.le_refl _, by decide, rfl, rfl⟩⟩
/-- a row of a relation in a variable -/
theorem rel_row {w : World} {b : Nat} {R : Int × List (List Int)} {ta : Option Addr} {tc : Nat} (h : RVar w b R ta tc) {j : Nat} (hj : j < R.2.length) (h3 : (R.2[j].length : Int) = 3) :
    ∃ fb fo tb to tc', ta = some ⟨fb, fo, none⟩ ∧ w.cell? ⟨fb, fo + j, none⟩ = some (.slice (some ⟨tb, to, none⟩) 3 tc') ∧ w.cell? ⟨tb, to + 1, none⟩ = some (.int .i64 (R.2[j].getD 1 0)) := by
  obtain ⟨tv, hv, a, fb, fo, cap, vs, hs, _, _, ha, hc⟩ := h.rd
  simp only [Value.agg.injEq, Array.mk.injEq, List.cons.injEq, and_true, true_and] at hv
  rw [← hv] at hs
  injection hs with e1 e2 e3
  obtain ⟨hc1, hc2⟩ := hc j hj
  obtain ⟨x, y, z, hl⟩ := len_three (show R.2[j].length = 3 by omega)
  rw [hl] at hc2 ⊢
  obtain ⟨tb, to, tc', hvj⟩ := rdI_triple hc2
  rw [hvj] at hc1 hc2
  exact ⟨fb, fo, tb, to, tc', e1.trans (ha (by omega)), hc1, rdI_mid hc2⟩
theorem mk2 (w : World) : (Instr.makeSlice 34 (.int .i64 2) (.int .i64 2)).run Try.prog w = .ok (.slice (some ⟨w.heap.size, 0, none⟩) 2 2) (w.alloc (.cells #[.int .i64 0, .int .i64 0] 2)) := by kernel_rfl
theorem mk3 (w : World) : (Instr.makeSlice 34 (.int .i64 3) (.int .i64 3)).run Try.prog w = .ok (.slice (some ⟨w.heap.size, 0, none⟩) 3 3) (w.alloc (.cells #[.int .i64 0, .int .i64 0, .int .i64 0] 2)) := by kernel_rfl
def inv2 : Nat → Int × Int
  | 0 => (0, 0)
  | 1 => (0, 0)
  | _ => (1, 0)
def inv3 : Nat → Int × Int × Int
  | 0 => (0, 0, 0)
  | 1 => (0, 0, 0)
  | 2 => (1, 0, 0)
  | _ => (1, 2, 0)
theorem rdI_cells2 {w : World} {b : Nat} {x y : Int} (c0 : w.cell? ⟨b, 0, none⟩ = some (.int .i64 x)) (c1 : w.cell? ⟨b, 1, none⟩ = some (.int .i64 y)) : RdI w (.slice (some ⟨b, 0, none⟩) 2 2) [x, y] :=
  ⟨_, b, 0, 2, rfl, by simp, by simp, fun _ => rfl, fun j hj => by
    have hj2 : j < 2 := hj
    rcases (show j = 0 ∨ j = 1 by omega) with rfl | rfl
    · simpa using c0
    · simpa using c1⟩
theorem rdI_cells3 {w : World} {b : Nat} {x y z : Int} (c0 : w.cell? ⟨b, 0, none⟩ = some (.int .i64 x)) (c1 : w.cell? ⟨b, 1, none⟩ = some (.int .i64 y)) (c2 : w.cell? ⟨b, 2, none⟩ = some (.int .i64 z)) : RdI w (.slice (some ⟨b, 0, none⟩) 3 3) [x, y, z] :=
  ⟨_, b, 0, 3, rfl, by simp, by simp, fun _ => rfl, fun j hj => by
    have hj2 : j < 3 := hj
    rcases (show j = 0 ∨ j = 1 ∨ j = 2 by omega) with rfl | rfl | rfl
    · simpa using c0
    · simpa using c1
    · simpa using c2⟩
set_option maxHeartbeats 400000 in
theorem valuesAt_any (l p : List Int) (v u : Value) (w : World) (hr : RdI w v l) (hs : RdI w u p) (hp : ∀ a ∈ p, 0 ≤ a ∧ a < l.length) (hz : p.length ≤ 1048576) :
    Calls Try.prog 52 #[v, u] w fun e w' => ∃ x fp, e = .returned x ∧ Ext w w' ∧ OI w' x (atP l p) fp := by
  obtain ⟨va, vc, rfl⟩ := hr.form
  obtain ⟨ua, uc, rfl⟩ := hs.form
  go_enter Try.func52, Try.ntmps52
  go_wp2_with fail
  refine (l01At_any _ _ _ _ _ hr hs hp hz).mono ?_
  rintro e w1 ⟨x, fp, rfl, hE, ho, _⟩
  obtain ⟨xa, xc, rfl⟩ := ho.form
  go_wp2_with fail
  go_ret
  exact ⟨_, fp, rfl, hE, ho⟩
section
variable {s m : Int} {w : World}
theorem p6Rel_got (v : Value) (s m : Int) (w : World) (h : RdB w v) (hs : 1 ≤ s) (hs2 : s ≤ 4) (hm : 1 ≤ m) (hm2 : m ≤ 4) : Calls Try.prog 46 #[v, .int .i64 s, .int .i64 m] w (DrawnR s m w) := by
  refine (p6Rel_any v s m w h hs hs2 hm hm2).mono ?_
  rintro e w' ⟨u, p, fp, rfl, hE, ho, _⟩
  obtain ⟨a, c, rfl⟩ := ho.form
  exact ⟨a, c, _, rfl, hE, ho.rd, .srel hs hs2 hm hm2 p⟩
theorem place_got {r : Int × List (List Int)} {v : Value} {l : List Int} {u : Value} (hr : RdRel w v r) (hi : IsRel s m r) (hs : RdI w u l) (hl : (l.length : Int) = m) (hv : ∀ x ∈ l, 0 ≤ x ∧ x < 3) :
    Calls Try.prog 49 #[.int .i64 s, v, .int .i64 3, u] w (GotR s 3 (SrelOf s 3 (placeP r l)) w) := by
  obtain ⟨a1, a2, _⟩ := valid_parts hi.valid
  have h := hi.ar
  have hc := implPlaceRel_any s r v 3 l u w hr hs (by omega) (by omega) (by omega) (by omega) hi.sz (by omega)
  rw [place_0 hi.valid (inB_iff.2 ⟨by omega, by omega⟩) (vals_iff.2 ⟨by omega, hv⟩)] at hc
  exact hc.mono fun _ _ h => h.got (.srel a1.1 a1.2 (by omega) (by omega) _)
theorem implHas_got {r : Int × List (List Int)} {v : Value} {t : List Int} {u : Value} (hr : RdRel w v r) (hi : IsRel s m r) (hs : RdI w u t) (ht : t.length ≤ 1048576) :
    Calls Try.prog 50 #[.int .i64 s, v, u] w fun e w' => e = .returned (.tuple #[.bool (hasT r t), .int .i64 0]) ∧ Ext w w' := by
  obtain ⟨a1, a2, _⟩ := valid_parts hi.valid
  have hc := implHasTuple_any s r v t u w hr hs (by omega) (by omega) hi.sz ht
  rw [show SHasTuple s r t = (hasT r t, 0) from by unfold SHasTuple; rw [hi.valid]; rfl] at hc
  exact hc
theorem specHas_got {r : Int × List (List Int)} {v : Value} {t : List Int} {u : Value} (hr : RdRel w v r) (hi : IsRel s m r) (hs : RdI w u t) (ht : t.length ≤ 1048576) :
    Calls Try.prog 51 #[.int .i64 s, v, u] w fun e w' => e = .returned (.tuple #[.bool (hasT r t), .int .i64 0]) ∧ Ext w w' := by
  obtain ⟨a1, a2, _⟩ := valid_parts hi.valid
  have hc := specHasTuple_any s r v t u w hr hs (by omega) (by omega) hi.sz ht
  rw [show SHasTuple s r t = (hasT r t, 0) from by unfold SHasTuple; rw [hi.valid]; rfl] at hc
  exact hc
theorem pair_got {r q : Int × List (List Int)} {v u : Value} {n : Int} (hr : RdRel w v r) (hi : IsRel s m r) (hq : RdRel w u q) (hj : IsRel s n q) (hmn : m + n ≤ 4) :
    Calls Try.prog 53 #[.int .i64 s, v, u] w (GotR s (m + n) (SrelOf s (r.1 + q.1) (pairP r q)) w) := by
  obtain ⟨a1, a2, _⟩ := valid_parts hi.valid
  obtain ⟨_, b2, _⟩ := valid_parts hj.valid
  have h1 := hi.ar
  have h2 := hj.ar
  have hc := implPairRels_any s r v q u w hr hq (by omega) (by omega) hi.sz hj.sz
  rw [pair_0 hi.valid hj.valid (by omega)] at hc
  exact hc.mono fun _ _ h => h.got (by rw [h1, h2]; exact .srel a1.1 a1.2 (by omega) (by omega) _)
theorem proj_got {r : Int × List (List Int)} {v u : Value} (hr : RdRel w v r) (hi : IsRel s m r) (hs : RdI w u [0]) :
    Calls Try.prog 27 #[.int .i64 s, v, u] w (GotR s 1 (SrelOf s 1 fun t => decide (t ∈ projL [0] r.2)) w) := by
  obtain ⟨a1, a2, _⟩ := valid_parts hi.valid
  have hc := implProjectRel_any s r v [0] u w hr hs (by omega) (by omega) hi.sz (by simp)
  rw [proj_0 hi.valid (by decide) (by unfold isPl; simp only [List.all_cons, List.all_nil, Bool.and_true]; exact inB_iff.2 ⟨by omega, by omega⟩)] at hc
  exact hc.mono fun _ _ h => h.got (.srel a1.1 a1.2 (by omega) (by omega) _)
theorem fix_got {r : Int × List (List Int)} {v : Value} {x : Int} (hr : RdRel w v r) (hi : IsRel s 3 r) (hx : 0 ≤ x ∧ x < s) :
    Calls Try.prog 55 #[.int .i64 s, v, .int .i64 1, .int .i64 x] w (RelRes (SrelOf s 3 (fixP r 1 x), 0) w) := by
  obtain ⟨a1, a2, _⟩ := valid_parts hi.valid
  have h1 := hi.ar
  have hc := implFixPlace_any s r v 1 x w hr (by omega) (by omega) (by omega) (by omega) (by omega) (by omega) hi.sz
  rw [fix_0 hi.valid (inB_iff.2 ⟨by omega, by omega⟩) (inB_iff.2 ⟨by omega, by omega⟩), h1] at hc
  exact hc
theorem equal_got (s : Int) (w : World) (hs : 1 ≤ s) (hs2 : s ≤ 4) : Calls Try.prog 56 #[.int .i64 s] w (GotR s 2 (SrelOf s 2 eqP) w) := by
  have hc := implEqualRel_any s w (by omega) (by omega)
  rw [show SEqualRel s = (SrelOf s 2 eqP, 0) from by unfold SEqualRel; rw [if_pos (inB_iff.2 ⟨hs, hs2⟩)]] at hc
  exact hc.mono fun _ _ h => h.got (.srel hs hs2 (by omega) (by omega) _)
theorem comp_got {r q : Int × List (List Int)} {v u : Value} (hr : RdRel w v r) (hi : IsRel s 2 r) (hq : RdRel w u q) (hj : IsRel s 2 q) :
    Calls Try.prog 57 #[.int .i64 s, v, u] w (GotR s 2 (SrelOf s 2 (compP s r q)) w) := by
  obtain ⟨a1, a2, _⟩ := valid_parts hi.valid
  have hc := implComposeRels_any s r v q u w hr hq (by omega) (by omega) hi.sz hj.sz
  rw [comp_0 hi.valid hj.valid hi.ar hj.ar] at hc
  exact hc.mono fun _ _ h => h.got (.srel a1.1 a1.2 (by omega) (by omega) _)
theorem map_got {r : Int × List (List Int)} {v u : Value} {to : List Int} (hr : RdRel w v r) (hi : IsRel s m r) (hs : RdI w u to) (ht : vals s to s = true) :
    Calls Try.prog 23 #[.int .i64 s, v, u, .int .i64 s] w (GotR s m (SrelOf s r.1 fun t => decide (t ∈ mapL to r.2)) w) := by
  obtain ⟨a1, a2, _⟩ := valid_parts hi.valid
  have h1 := hi.ar
  have hl := (vals_iff.1 ht).1
  have hc := implMapRel_any s r v to u s w hr hs (by omega) (by omega) (by omega) (by omega) hi.sz (by omega)
  rw [map_0 hi.valid (inB_iff.2 ⟨by omega, by omega⟩) ht] at hc
  exact hc.mono fun _ _ h => h.got (by rw [h1]; rw [h1] at a2; exact .srel a1.1 a1.2 (by omega) (by omega) _)
theorem same_got {r q : Int × List (List Int)} {v u : Value} (hr : RdRel w v r) (hi : IsRel s m r) (hq : RdRel w u q) (he : r = q) :
    Calls Try.prog 54 #[v, u] w fun e w' => e = .returned (.bool true) ∧ Ext w w' := by
  subst he
  have hc := specSameRel_any r v r u w hr hq hi.sz hi.sz
  rw [show SSameRel r r = true from decide_eq_true rfl] at hc
  exact hc
end
end Go.Proofs.Ytefnmfdmnoednaa
