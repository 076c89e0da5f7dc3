/- FnCores returns true, whatever the input, and writes nothing that was there. Conditions: none. What FnCores calls, where its arguments are valid; a variable that holds a template; bytes appended to a byte inside a drawn region. -/
import Derived.Test.YtajkepdfemdagaaGreatDoorC26
import Derived.Test.YtajkepdfemdagaaGreatDoorC29
import Derived.Test.YtajkepdfemdagaaGreatDoorC30
import Derived.Test.YtajkepdfemdagaaGreatDoorC35
import Derived.Test.YtajkepdfemdagaaGreatDoorC34
import Derived.Laws.OwnMore
import Derived.Test.YtajkepdfemdagaaGreatDoorC15
import Derived.Test.YtajkepdfemdagaaGreatDoorC17
import Derived.Test.YtajkepdfemdagaaGreatDoorTie
import Derived.Test.YtajkepdfemdagaaGreatDoorCards
import Derived.LaidMore
import Derived.Stop.Joined
import Derived.SevenTiedAt
namespace Go.Proofs.YtajkepdfemdagaaGreatDoor
open Go.RowKit
set_option linter.unusedVariables false

theorem szRelS_valid {s : Int} : ∀ (L : List RelD), (∀ r ∈ L, SValidRel s r = true) → szRelS L ≤ 1300 * L.length
  | [], _ => by simp [szRelS]
  | r :: L, h => by
    have ih := szRelS_valid L fun x hx => h x (List.mem_cons_of_mem _ hx)
    have hv := h r List.mem_cons_self
    have hl := valid_length hv
    obtain ⟨_, a2, a3⟩ := valid_parts hv
    have := mkII_small r.2 fun t ht => by have := (vals_iff.1 (a3 t ht)).1; omega
    simp only [szRelS, List.length_cons]
    unfold szRel
    omega
theorem szTm_valid {T : TmD} (h : SValidTemplate T = true) : szTm T ≤ 1048576 := by
  have h1 := szRelS_valid T.2 (valid_tm h)
  have h2 := valid_tm_len h
  unfold szTm
  omega

/-- a variable in block b that holds a template -/
structure TVar (w : World) (b : Nat) (T : TmD) (ta : Option Addr) (tc : Nat) : Prop where
  c0 : w.cell? ⟨b, 0, none⟩ = some (.int .i64 T.1)
  c1 : w.cell? ⟨b, 1, none⟩ = some (.slice ta T.2.length tc)
  rd : RdTm w (.agg #[.int .i64 T.1, .slice ta T.2.length tc]) T
theorem TVar.ext {w w' : World} {b : Nat} {T : TmD} {ta : Option Addr} {tc : Nat} (h : TVar w b T ta tc) (hE : Ext w w') : TVar w' b T ta tc := ⟨hE.cell h.c0, hE.cell h.c1, h.rd.ext hE⟩
theorem TVar.lt {w : World} {b : Nat} {T : TmD} {ta : Option Addr} {tc : Nat} (h : TVar w b T ta tc) : b < w.heap.size := lt_of_cell h.c0
theorem TVar.new {w : World} {T : TmD} {ta : Option Addr} {tc : Nat} (h : RdTm w (.agg #[.int .i64 T.1, .slice ta T.2.length tc]) T) : TVar (w.alloc (.cells #[.int .i64 T.1, .slice ta T.2.length tc] 24)) w.heap.size T ta tc :=
  ⟨by simp [go_sem], by simp [go_sem], h.ext ((Ext.refl' w).alloc (Nat.le_refl _) _)⟩
/-- a template, numbers and no fault are answered -/
def GotC (C : TmD) (V : List Int) (w : World) (e : Ending) (w' : World) : Prop :=
  ∃ ta tc va vc, e = .returned (.tuple #[.agg #[.int .i64 C.1, .slice ta C.2.length tc], .slice va V.length vc, .int .i64 0]) ∧ Ext w w' ∧ RdTm w' (.agg #[.int .i64 C.1, .slice ta C.2.length tc]) C ∧ RdI w' (.slice va V.length vc) V
/-- numbers and a code are answered -/
def GotI (f : List Int) (c : Int) (w : World) (e : Ending) (w' : World) : Prop :=
  ∃ fa fc, e = .returned (.tuple #[.slice fa f.length fc, .int .i64 c]) ∧ Ext w w' ∧ RdI w' (.slice fa f.length fc) f
section
variable {w : World}
theorem drawnTm_got (v : Value) (s : Int) (w : World) (h : RdB w v) (hs : 1 ≤ s) (hs2 : s ≤ 4) : Calls Tryz.prog 28 #[v, .int .i64 s] w fun e w' => ∃ ta tc T, e = .returned (.agg #[.int .i64 T.1, .slice ta T.2.length tc]) ∧ Ext w w' ∧ RdTm w' (.agg #[.int .i64 T.1, .slice ta T.2.length tc]) T ∧ IsTm s T := by
  refine (p6Template_any v s w h hs hs2).mono ?_
  rintro e w' ⟨u, T, fp, rfl, hE, ho, _, hT⟩
  obtain ⟨a, c, rfl⟩ := ho.form
  exact ⟨a, c, T, rfl, hE, ho.rd, hT⟩
theorem tmText_got {T : TmD} {v : Value} (hr : RdTm w v T) (hv : SValidTemplate T = true) : Calls Tryz.prog 29 #[v] w fun e w' => e = .returned (.string (tmB T)) ∧ Ext w w' := by
  have hc := implTemplateText_any T v w hr (szTm_valid hv)
  rw [tmText_yes hv] at hc
  exact hc
theorem readTm_got {T : TmD} (hv : SValidTemplate T = true) (w : World) (hL : LaidW w) : Calls Tryz.prog 7 #[.string (tmB T)] w fun e w' => ∃ ta tc, e = .returned (.tuple #[.agg #[.int .i64 T.1, .slice ta T.2.length tc], .int .i64 0]) ∧ Ext w w' ∧ RdTm w' (.agg #[.int .i64 T.1, .slice ta T.2.length tc]) T := by
  have hz := tm_size (s := tmB T) (t := T) ⟨hv, rfl⟩
  have hc := implReadTemplate_any (tmB T) w hL (by omega)
  rw [readTm_yes (s := tmB T) (t := T) ⟨hv, rfl⟩] at hc
  refine hc.mono ?_
  rintro e w' ⟨u, fp, rfl, hE, ho, _⟩
  obtain ⟨a, c, rfl⟩ := ho.form
  exact ⟨a, c, rfl, hE, ho.rd⟩
theorem TmIRes.got {C : TmD} {V : List Int} {w w' : World} {e : Ending} (h : TmIRes (C, V, 0) w e w') : GotC C V w e w' := by
  obtain ⟨u, fp, x, fx, rfl, hE, ho, _, hx, _⟩ := h
  obtain ⟨a, c, rfl⟩ := ho.form
  obtain ⟨va, vc, rfl⟩ := hx.form
  exact ⟨a, c, va, vc, rfl, hE, ho.rd, hx.rd⟩
theorem core_got {T C : TmD} {V : List Int} {v : Value} (h : SCoreOf T = (C, V, 0)) (hr : RdTm w v T) (hv : SValidTemplate T = true) : Calls Tryz.prog 30 #[v] w (GotC C V w) := by
  have hc := implCoreOf_any T v w hr (szTm_valid hv)
  rw [h] at hc
  exact hc.mono fun _ _ h => h.got
theorem specCore_got {T C : TmD} {V : List Int} {v : Value} (h : SCoreOf T = (C, V, 0)) (hr : RdTm w v T) (hv : SValidTemplate T = true) : Calls Tryz.prog 31 #[v] w (GotC C V w) := by
  have hc := specCoreOf_any T v w hr (szTm_valid hv)
  rw [h] at hc
  exact hc.mono fun _ _ h => h.got
theorem IRes.got {f : List Int} {c : Int} {w w' : World} {e : Ending} (h : IRes (f, c) w e w') : GotI f c w e w' := by
  obtain ⟨u, fp, rfl, hE, ho, _⟩ := h
  obtain ⟨a, cc, rfl⟩ := ho.form
  exact ⟨a, cc, rfl, hE, ho.rd⟩
theorem first_got {T U : TmD} {f : List Int} {c : Int} {v u : Value} (h : SFirstMap T U = (f, c)) (hr : RdTm w v T) (hs : RdTm w u U) (hv : SValidTemplate T = true) (hu : SValidTemplate U = true) : Calls Tryz.prog 37 #[v, u] w (GotI f c w) := by
  have hc := implFirstMap_any T v U u w hr hs (szTm_valid hv) (szTm_valid hu)
  rw [h] at hc
  exact hc.mono fun _ _ h => h.got
theorem specFirst_got {T U : TmD} {f : List Int} {c : Int} {v u : Value} (h : SFirstMap T U = (f, c)) (hr : RdTm w v T) (hs : RdTm w u U) (hv : SValidTemplate T = true) (hu : SValidTemplate U = true) : Calls Tryz.prog 38 #[v, u] w (GotI f c w) := by
  have hc := specFirstMap_any T v U u w hr hs (szTm_valid hv) (szTm_valid hu)
  rw [h] at hc
  exact hc.mono fun _ _ h => h.got
theorem isMap_got {T U : TmD} {f : List Int} {v u x : Value} (h : SIsMapOf T U f = (true, 0)) (hr : RdTm w v T) (hs : RdTm w u U) (ho : RdI w x f) (hv : SValidTemplate T = true) (hu : SValidTemplate U = true) (hf : f.length ≤ 1048576) :
    Calls Tryz.prog 36 #[v, u, x] w fun e w' => e = .returned (.tuple #[.bool true, .int .i64 0]) ∧ Ext w w' := by
  have hc := implIsMapOf_any T v U u f x w hr hs ho (szTm_valid hv) (szTm_valid hu) hf
  rw [h] at hc
  exact hc
theorem sameTm_got {T : TmD} {v u : Value} (hr : RdTm w v T) (hs : RdTm w u T) (hv : SValidTemplate T = true) : Calls Tryz.prog 33 #[v, u] w fun e w' => e = .returned (.bool true) ∧ Ext w w' := by
  have hc := implSameTemplate_any T v T u w hr hs (szTm_valid hv) (szTm_valid hv)
  rw [show SSameTemplate T T = true from decide_eq_true rfl] at hc
  exact hc
theorem specSameTm_got {T : TmD} {v u : Value} (hr : RdTm w v T) (hs : RdTm w u T) (hv : SValidTemplate T = true) : Calls Tryz.prog 32 #[v, u] w fun e w' => e = .returned (.bool true) ∧ Ext w w' := by
  have hc := specSameTemplate_any T v T u w hr hs (szTm_valid hv) (szTm_valid hv)
  rw [show SSameTemplate T T = true from decide_eq_true rfl] at hc
  exact hc
theorem validTm_got {T : TmD} {v : Value} (hr : RdTm w v T) (hv : SValidTemplate T = true) : Calls Tryz.prog 34 #[v] w fun e w' => e = .returned (.bool true) ∧ Ext w w' := by
  have hc := implValidTemplate_ok T v w hr
  rw [hv] at hc
  exact hc
theorem sameNumbers_got {l : List Int} {v u : Value} (hr : RdI w v l) (hs : RdI w u l) : Calls Tryz.prog 35 #[v, u] w fun e w' => e = .returned (.bool true) ∧ Ext w w' := by
  obtain ⟨va, vc, rfl⟩ := hr.form
  obtain ⟨ua, uc, rfl⟩ := hs.form
  go_enter Tryz.func35, Tryz.ntmps35
  go_wp2_with fail
  refine (l00Same_any l l _ _ _ hr hs).mono ?_
  rintro e w' ⟨rfl, hQ⟩
  rw [decide_eq_true rfl]
  go_wp2_with fail
  go_ret
  exact ⟨rfl, hQ.ext⟩
end

/-! ### bytes behind a byte -/
theorem infoByteC : (Tryz.prog.info? 5).map (fun i => (i.zero, i.size, i.bytes)) = some (some (.int .u8 0), 1, 1) := by kernel_rfl
theorem bytes_listC {w : World} {b off : Nat} : ∀ (n : Nat), (∀ j, j < n → ∃ x : Int, 0 ≤ x ∧ x < 256 ∧ b < w.heap.size ∧ w.cell? ⟨b, off + j, none⟩ = some (.int .u8 x)) → ∃ xs : List Int, xs.length = n ∧ (∀ j (hj : j < xs.length), w.cell? ⟨b, off + j, none⟩ = some (.int .u8 xs[j])) ∧ ∀ x ∈ xs, 0 ≤ x ∧ x < 256
  | 0, _ => ⟨[], rfl, fun j hj => by simp at hj, by simp⟩
  | n + 1, h => by
    obtain ⟨xs, h1, h2, h3⟩ := bytes_listC n fun j hj => h j (by omega)
    obtain ⟨x, x0, x1, _, hx⟩ := h n (by omega)
    refine ⟨xs ++ [x], by simp [h1], fun j hj => ?_, fun y hy => ?_⟩
    · rw [List.getElem_append]
      by_cases hjn : j < xs.length
      · rw [dif_pos hjn]
        exact h2 j hjn
      · rw [dif_neg hjn]
        have : j = n := by rw [List.length_append, List.length_singleton] at hj; omega
        subst this
        simp [hx]
    · rcases List.mem_append.1 hy with h | h
      · exact h3 y h
      · rw [List.mem_singleton.1 h]; exact ⟨x0, x1⟩
theorem rdB_ownC {w : World} {base n : Nat} {v : Value} {xs : List Int} (h : w.ownsRow base 5 1 v n (xs.map (Value.int .u8))) (hx : ∀ x ∈ xs, 0 ≤ x ∧ x < 256) : RdB w v := by
  obtain ⟨a, b, cap, hv, hl, h1, h2, h3, _, h4, _⟩ := own_parts h
  refine ⟨a, b, 0, n, cap, hv, h1, h2, h3, fun j hj => ?_⟩
  have hj2 : j < xs.length := by rw [← hl, List.length_map] at hj; exact hj
  have hc := h4 j (by rw [hl]; exact hj)
  rw [List.getElem_map] at hc
  have := hx xs[j] (List.getElem_mem hj2)
  exact ⟨xs[j], this.1, this.2, lt_of_cell hc, hc⟩
def SP.rdB : SP := ⟨fun v w => RdB w v, fun _ _ _ h hE => h.ext hE⟩
set_option maxRecDepth 100000 in
theorem run_append_bytes {w : World} {ty : TypeId} {a0 : Option Addr} {n c k : Nat} {z : Int} (h : RdB w (.slice a0 n c)) (hn : n ≤ 4096) (hnil : a0 = none → c = 0) (hz0 : 0 ≤ z) (hz1 : z < 256) (hk : w.cell? ⟨k, 0, none⟩ = some (.int .u8 z)) :
    ∃ v' w', (Builtin.append_ #[30, 30] ty #[.slice (some ⟨k, 0, none⟩) 1 1, .slice a0 n c]).run Tryz.prog w = .ok v' w' ∧ Ext w w' ∧ RdB w' v' := by
  obtain ⟨i0, hi, hq0, hq1, hq2⟩ := info_parts infoByteC
  have hlk := lt_of_cell hk
  have hone : RdB w (.slice (some ⟨k, 0, none⟩) 1 1) := ⟨_, k, 0, 1, 1, rfl, by omega, by omega, fun _ => rfl, fun j hj => by
    obtain rfl : j = 0 := by omega
    exact ⟨z, hz0, hz1, hlk, by simpa using hk⟩⟩
  obtain ⟨a', b, off, n', c', hv, hnc, hc, ha, hb⟩ := h
  injection hv with e1 e2 e3
  subst e1 e2 e3
  cases a0 with
  | none =>
    have hc0 := hnil rfl
    subst hc0
    have hn0 : n = 0 := by omega
    subst hn0
    refine ⟨.slice (some ⟨k, 0, none⟩) 1 1, w, ?_, Ext.refl' w, hone⟩
    simp [Builtin.append_, run_underlying Tryz.underlying30, sizeOf, typeInfo, hi, Builtin.lenOf, Builtin.firstCells, storeCells]
  | some ad =>
    obtain ⟨xs, h1, h2, h3⟩ := bytes_listC n hb
    by_cases hn0 : n = 0
    · subst hn0
      have hr := run_append_room_cells (P := Tryz.prog) w 30 ty 5 i0 Tryz.underlying30 hi k 0 1 1 ad 0 c [] (by simp) (by simp) (by simp) (by omega) (by simp) (by simp)
      exact ⟨_, w, hr, Ext.refl' w, hone⟩
    · obtain ⟨v', w', hr, ho, hg⟩ := run_append_arg_grows (P := Tryz.prog) w 30 ty 5 i0 (.int .u8 0) 1 1 Tryz.underlying30 hi hq0 hq1 hq2 rfl (by decide) ⟨k, 0, none⟩ 1 1 [.int .u8 z] rfl (cells_one hk) ad n c (xs.map (Value.int .u8)) (by rw [List.length_map, h1, Nat.mul_one]) (by
          intro j u hj
          obtain ⟨hj1, hj2⟩ := List.getElem?_eq_some_iff.1 hj
          rw [List.getElem_map] at hj2
          rw [List.length_map] at hj1
          have hc := h2 j hj1
          have he := ha (by omega)
          injection he with he
          rw [he, ← hj2]
          have hadd : (⟨b, off, none⟩ : Addr).add j = ⟨b, off + j, none⟩ := by
            unfold Addr.add
            split
            · next h => first | (subst h; rfl) | (simp at h; subst h; rfl)
            · rfl
          rw [hadd]
          exact hc) (by omega) (by unfold maxLen; omega) (by omega)
      refine ⟨v', w', hr, (Ext.refl' w).grown hg (Nat.le_refl _) (fun _ hk => by cases hk), rdB_ownC (xs := z :: xs) ho fun y hy => ?_⟩
      rcases List.mem_cons.1 hy with rfl | h
      · exact ⟨hz0, hz1⟩
      · exact h3 y h
theorem Step.bytes {ops : List Oper} {o : Oper} {ρ : Operand → Value} {w : World} {s y : Operand} {a0 : Option Addr} {n c : Nat} {z : Int} (hg : o.guard = none) (hop : o.op = .call { callee := .builtin .append, args := #[s, y], argTypes := #[30, 30] })
    (hs : (SP.row1 (.int .u8 z)).R (ρ s) w) (hz0 : 0 ≤ z) (hz1 : z < 256) (hy : ρ y = .slice a0 n c) (h : RdB w (.slice a0 n c)) (hn : n ≤ 4096) (hnil : a0 = none → c = 0) : Step Tryz.prog ops o ρ w SP.rdB.R := by
  obtain ⟨dst, op, type, pos, after, guard⟩ := o
  subst hop
  obtain ⟨k, hv, hk⟩ := hs
  obtain ⟨v', w', hr, hE, hR⟩ := run_append_bytes (ty := type) h hn hnil hz0 hz1 hk
  refine Step.run hg (w' := w') (v := v') ?_ hE hR
  unfold execOp
  simp only [resolve, invoke, builtin, Sem.run_bind, Sem.run_pure, Result.andThen_ok, List.map_toArray, List.map_cons, List.map_nil, hv, hy, hr]
theorem byte_range (x : Int) : 0 ≤ IntKind.u8.wrap x ∧ IntKind.u8.wrap x < 256 := by
  simp only [IntKind.wrap]
  constructor <;> (simp [IntKind.bits, IntKind.signed] <;> omega)
/-- a row of a template in a variable -/
theorem tm_row {w : World} {b : Nat} {T : TmD} {ta : Option Addr} {tc : Nat} (h : TVar w b T ta tc) {j : Nat} (hj : j < T.2.length) :
    ∃ fb fo, ta = some ⟨fb, fo, none⟩ ∧ w.cell? ⟨fb, fo + j * 2, none⟩ = some (.int .i64 T.2[j].1) := by
  obtain ⟨tv, hv, a, fb, fo, cap, vs, hs, _, _, ha, hc⟩ := h.rd
  simp only [Value.agg.injEq, Array.mk.injEq, List.cons.injEq, and_true, true_and] at hv
  rw [← hv] at hs
  injection hs with e1 e2 e3
  obtain ⟨hc1, hc2, hc3⟩ := hc j hj
  exact ⟨fb, fo, e1.trans (ha (by omega)), hc1⟩
theorem rdI_cells {w : World} {a : Option Addr} {c : Nat} {l : List Int} (h : RdI w (.slice a l.length c) l) (h0 : 0 < l.length) : ∃ b o, a = some ⟨b, o, none⟩ ∧ ∀ j (hj : j < l.length), w.cell? ⟨b, o + j, none⟩ = some (.int .i64 l[j]) := by
  obtain ⟨a', b, o, c', hv, _, _, ha, hc⟩ := h
  injection hv with e1
  exact ⟨b, o, e1.trans (ha h0), hc⟩
end Go.Proofs.YtajkepdfemdagaaGreatDoor
namespace Go.Proofs.YtajkepdfemdagaaGreatDoor.fnCores
open Go.ChangeShapes Go.WideShapes Go.ChangeAt Go.RowKit
set_option linter.unusedVariables false


set_option maxHeartbeats 40000000 in
set_option maxRecDepth 100000 in
theorem walk (a0 : Option Addr) (n0 c0 : Nat) (a1 : Option Addr) (n1 c1 : Nat) (w : World) (hv0 : RdB w (.slice a0 n0 c0)) (hv1 : RdB w (.slice a1 n1 c1)) (hn1 : a1 = none → c1 = 0) (hL : LaidW w) :
    Calls Tryz.prog 5 #[.slice a0 n0 c0, .slice a1 n1 c1] w fun e w' => e = .returned (.bool true) ∧ Ext w w' := by
  by_cases z0 : (4096 : Int) < n0
  · go_enter Tryz.func5, Tryz.ntmps5
    go_wp2_with fail
    refine (f6big_any _ _ _ _).mono ?_
    rintro e s1 ⟨rfl, hE⟩
    rw [decide_eq_true z0]
    go_wp2_with fail
    go_ret
    exact ⟨rfl, hE⟩
  have D0 := decide_eq_false z0
  by_cases z1 : (4096 : Int) < n1
  · have D1 := decide_eq_true z1
    clear z0 z1
    go_enter Tryz.func5, Tryz.ntmps5
    go_wp2_with fail
    refine (f6big_any _ _ _ _).mono ?_
    rintro e s1 ⟨rfl, hE⟩
    rw [D0]
    go_wp2_with fail
    refine (f6big_any _ _ _ _).mono ?_
    rintro e s2 ⟨rfl, hC⟩
    rw [D1]
    go_wp2_with fail
    go_ret
    exact ⟨rfl, hE.tr hC⟩
  have D1 := decide_eq_false z1
  have Z1 := Lib.hid (show n1 ≤ 4096 by omega)
  clear z0 z1
  obtain ⟨v0, hf0⟩ : ∃ v, v = Value.slice a0 n0 c0 := ⟨_, rfl⟩
  obtain ⟨v1, hf1⟩ : ∃ v, v = Value.slice a1 n1 c1 := ⟨_, rfl⟩
  have HF0 := Lib.hid hf0
  have HF1 := Lib.hid hf1
  have HN1 := Lib.hid hn1
  rw [← hf0] at hv0
  rw [← hf1] at hv1
  clear hf0 hf1 hn1
  go_enter Tryz.func5, Tryz.ntmps5
  go_wp2_with fail
  refine (f6big_any _ _ _ _).mono ?_
  rintro e s1 ⟨rfl, hE⟩
  rw [D0]
  go_wp2_with fail
  refine (f6big_any _ _ _ _).mono ?_
  rintro e s2 ⟨rfl, hC⟩
  rw [D1]
  clear D0 D1
  try replace xt := xt.ext hC
  try replace xb := xb.ext hC
  try replace xc := xc.ext hC
  try replace xd := xd.ext hC
  try replace xo := xo.ext hC
  try replace xu := xu.ext hC
  try replace rV := rV.ext hC
  try replace rM := rM.ext hC
  try replace rF := rF.ext hC
  try replace rG := rG.ext hC
  try replace rH := rH.ext hC
  try replace rW := rW.ext hC
  replace hE := hE.tr hC
  clear hC
  rw [← HF0.out, ← HF1.out]
  go_wp2_with fail
  refine (p6Pick_any v0 2 _ (hv0.ext hE) (by omega) (by omega)).mono ?_
  rintro e w1 ⟨n, nl, nh, rfl, hC⟩
  try replace xt := xt.ext hC
  try replace xb := xb.ext hC
  try replace xc := xc.ext hC
  try replace xd := xd.ext hC
  try replace xo := xo.ext hC
  try replace xu := xu.ext hC
  try replace rV := rV.ext hC
  try replace rM := rM.ext hC
  try replace rF := rF.ext hC
  try replace rG := rG.ext hC
  try replace rH := rH.ext hC
  try replace rW := rW.ext hC
  replace hE := hE.tr hC
  clear hC
  go_wp2_with fail
  obtain ⟨s, hs⟩ : ∃ s, s = 2 + n := ⟨_, rfl⟩
  rw [← hs]
  have sl : 1 ≤ s := by omega
  have sh : s ≤ 3 := by omega
  clear hs nl nh
  refine (drawnTm_got v0 s _ (hv0.ext hE) (by omega) (by omega)).mono ?_
  rintro e w2 ⟨tat, tct, t, rfl, hC, rt, it⟩
  try replace xt := xt.ext hC
  try replace xb := xb.ext hC
  try replace xc := xc.ext hC
  try replace xd := xd.ext hC
  try replace xo := xo.ext hC
  try replace xu := xu.ext hC
  try replace rV := rV.ext hC
  try replace rM := rM.ext hC
  try replace rF := rF.ext hC
  try replace rG := rG.ext hC
  try replace rH := rH.ext hC
  try replace rW := rW.ext hC
  replace hE := hE.tr hC
  clear hC
  have hvt := it.valid
  have hfew := it.few
  have htb := valid_tm_size hvt
  obtain ⟨c, V, hcore, hfacts⟩ : ∃ c V, Hid (SCoreOf t = (c, V, 0)) ∧ Hid (CoreFacts t c V) := ⟨_, _, Lib.hid (core_0 hvt), Lib.hid (core_facts hvt)⟩
  have hvc := hfacts.out.valid
  have hcb := valid_tm_size hvc
  obtain ⟨d, D, hown, dsz⟩ : ∃ d D, Hid (SCoreOf c = (d, D, 0)) ∧ d.1 = c.1 := ⟨_, _, Lib.hid (own_core hfacts.out), hfacts.out.own⟩
  have hdb : (d.1 != c.1) = false := by rw [dsz]; simp
  clear dsz
  obtain ⟨f, hdown, hfv, hfm⟩ : ∃ f, Hid (SFirstMap t c = (f, 0)) ∧ Hid (vals c.1 f t.1 = true) ∧ Hid (MapP t c f) := by
    obtain ⟨f, h1, h2, h3⟩ := down_ok hfacts.out
    exact ⟨f, Lib.hid h1, Lib.hid h2, Lib.hid h3⟩
  have hle : ¬ (t.1 < c.1) := by have := hfacts.out.le; omega
  have hVl : V.length ≤ 1048576 := by have := (vals_iff.1 hfacts.out.lies).1; omega
  have HVl := Lib.hid hVl
  clear hVl it
  go_wp2_with fail
  obtain ⟨w3, hw⟩ : ∃ x, x = w2.alloc (.cells #[.int .i64 t.1, .slice tat t.2.length tct] 24) := ⟨_, rfl⟩
  have hzw3 : w3.heap.size = w2.heap.size + 1 := by rw [hw]; simp
  have xt : TVar w3 w2.heap.size t tat tct := hw ▸ TVar.new rt
  have hC : Ext w2 w3 := hw ▸ (Ext.refl' _).alloc (Nat.le_refl _) _
  rw [← hw]
  clear hw rt
  try replace xt := xt.ext hC
  try replace xb := xb.ext hC
  try replace xc := xc.ext hC
  try replace xd := xd.ext hC
  try replace xo := xo.ext hC
  try replace xu := xu.ext hC
  try replace rV := rV.ext hC
  try replace rM := rM.ext hC
  try replace rF := rF.ext hC
  try replace rG := rG.ext hC
  try replace rH := rH.ext hC
  try replace rW := rW.ext hC
  replace hE := hE.tr hC
  clear hC
  refine (tmText_got xt.rd hvt).mono ?_
  rintro e w4 ⟨rfl, hC⟩
  try replace xt := xt.ext hC
  try replace xb := xb.ext hC
  try replace xc := xc.ext hC
  try replace xd := xd.ext hC
  try replace xo := xo.ext hC
  try replace xu := xu.ext hC
  try replace rV := rV.ext hC
  try replace rM := rM.ext hC
  try replace rF := rF.ext hC
  try replace rG := rG.ext hC
  try replace rH := rH.ext hC
  try replace rW := rW.ext hC
  replace hE := hE.tr hC
  clear hC
  go_wp2_with fail
  refine (readTm_got hvt _ (hL.ext hE)).mono ?_
  rintro e w5 ⟨tab, tcb, rfl, hC, rb⟩
  try replace xt := xt.ext hC
  try replace xb := xb.ext hC
  try replace xc := xc.ext hC
  try replace xd := xd.ext hC
  try replace xo := xo.ext hC
  try replace xu := xu.ext hC
  try replace rV := rV.ext hC
  try replace rM := rM.ext hC
  try replace rF := rF.ext hC
  try replace rG := rG.ext hC
  try replace rH := rH.ext hC
  try replace rW := rW.ext hC
  replace hE := hE.tr hC
  clear hC
  have o0t := xt.c0
  have o1t := xt.c1
  have olt := xt.lt
  go_wp2_with fail
  clear o0t o1t olt
  obtain ⟨w6, hw⟩ : ∃ x, x = w5.alloc (.cells #[.int .i64 t.1, .slice tab t.2.length tcb] 24) := ⟨_, rfl⟩
  have hzw6 : w6.heap.size = w5.heap.size + 1 := by rw [hw]; simp
  have xb : TVar w6 w5.heap.size t tab tcb := hw ▸ TVar.new rb
  have hC : Ext w5 w6 := hw ▸ (Ext.refl' _).alloc (Nat.le_refl _) _
  rw [← hw]
  clear hw rb
  try replace xt := xt.ext hC
  try replace xb := xb.ext hC
  try replace xc := xc.ext hC
  try replace xd := xd.ext hC
  try replace xo := xo.ext hC
  try replace xu := xu.ext hC
  try replace rV := rV.ext hC
  try replace rM := rM.ext hC
  try replace rF := rF.ext hC
  try replace rG := rG.ext hC
  try replace rH := rH.ext hC
  try replace rW := rW.ext hC
  replace hE := hE.tr hC
  clear hC
  refine (core_got hcore.out xt.rd hvt).mono ?_
  rintro e w7 ⟨tac, tcc, va, vc, rfl, hC, rc, rV⟩
  try replace xt := xt.ext hC
  try replace xb := xb.ext hC
  try replace xc := xc.ext hC
  try replace xd := xd.ext hC
  try replace xo := xo.ext hC
  try replace xu := xu.ext hC
  try replace rV := rV.ext hC
  try replace rM := rM.ext hC
  try replace rF := rF.ext hC
  try replace rG := rG.ext hC
  try replace rH := rH.ext hC
  try replace rW := rW.ext hC
  replace hE := hE.tr hC
  clear hC
  have o0t := xt.c0
  have o1t := xt.c1
  have olt := xt.lt
  go_wp2_with fail
  clear o0t o1t olt
  obtain ⟨w8, hw⟩ : ∃ x, x = w7.alloc (.cells #[.int .i64 c.1, .slice tac c.2.length tcc] 24) := ⟨_, rfl⟩
  have hzw8 : w8.heap.size = w7.heap.size + 1 := by rw [hw]; simp
  have xc : TVar w8 w7.heap.size c tac tcc := hw ▸ TVar.new rc
  have hC : Ext w7 w8 := hw ▸ (Ext.refl' _).alloc (Nat.le_refl _) _
  rw [← hw]
  clear hw rc
  try replace xt := xt.ext hC
  try replace xb := xb.ext hC
  try replace xc := xc.ext hC
  try replace xd := xd.ext hC
  try replace xo := xo.ext hC
  try replace xu := xu.ext hC
  try replace rV := rV.ext hC
  try replace rM := rM.ext hC
  try replace rF := rF.ext hC
  try replace rG := rG.ext hC
  try replace rH := rH.ext hC
  try replace rW := rW.ext hC
  replace hE := hE.tr hC
  clear hC
  refine (specCore_got hcore.out xt.rd hvt).mono ?_
  rintro e w9 ⟨tad, tcd, ma, mc, rfl, hC, rd, rM⟩
  try replace xt := xt.ext hC
  try replace xb := xb.ext hC
  try replace xc := xc.ext hC
  try replace xd := xd.ext hC
  try replace xo := xo.ext hC
  try replace xu := xu.ext hC
  try replace rV := rV.ext hC
  try replace rM := rM.ext hC
  try replace rF := rF.ext hC
  try replace rG := rG.ext hC
  try replace rH := rH.ext hC
  try replace rW := rW.ext hC
  replace hE := hE.tr hC
  clear hC
  have o0t := xt.c0
  have o1t := xt.c1
  have olt := xt.lt
  have o0b := xb.c0
  have o1b := xb.c1
  have olb := xb.lt
  go_wp2_with fail
  clear o0t o1t olt
  clear o0b o1b olb
  obtain ⟨w10, hw⟩ : ∃ x, x = w9.alloc (.cells #[.int .i64 c.1, .slice tad c.2.length tcd] 24) := ⟨_, rfl⟩
  have hzw10 : w10.heap.size = w9.heap.size + 1 := by rw [hw]; simp
  have xd : TVar w10 w9.heap.size c tad tcd := hw ▸ TVar.new rd
  have hC : Ext w9 w10 := hw ▸ (Ext.refl' _).alloc (Nat.le_refl _) _
  rw [← hw]
  clear hw rd
  try replace xt := xt.ext hC
  try replace xb := xb.ext hC
  try replace xc := xc.ext hC
  try replace xd := xd.ext hC
  try replace xo := xo.ext hC
  try replace xu := xu.ext hC
  try replace rV := rV.ext hC
  try replace rM := rM.ext hC
  try replace rF := rF.ext hC
  try replace rG := rG.ext hC
  try replace rH := rH.ext hC
  try replace rW := rW.ext hC
  replace hE := hE.tr hC
  clear hC
  refine (specSameTm_got xb.rd xt.rd hvt).mono ?_
  rintro e w11 ⟨rfl, hC⟩
  try replace xt := xt.ext hC
  try replace xb := xb.ext hC
  try replace xc := xc.ext hC
  try replace xd := xd.ext hC
  try replace xo := xo.ext hC
  try replace xu := xu.ext hC
  try replace rV := rV.ext hC
  try replace rM := rM.ext hC
  try replace rF := rF.ext hC
  try replace rG := rG.ext hC
  try replace rH := rH.ext hC
  try replace rW := rW.ext hC
  replace hE := hE.tr hC
  clear hC
  have o0t := xt.c0
  have o1t := xt.c1
  have olt := xt.lt
  have o0b := xb.c0
  have o1b := xb.c1
  have olb := xb.lt
  go_wp2_with fail
  clear o0t o1t olt
  clear o0b o1b olb
  refine (sameTm_got xb.rd xt.rd hvt).mono ?_
  rintro e w12 ⟨rfl, hC⟩
  try replace xt := xt.ext hC
  try replace xb := xb.ext hC
  try replace xc := xc.ext hC
  try replace xd := xd.ext hC
  try replace xo := xo.ext hC
  try replace xu := xu.ext hC
  try replace rV := rV.ext hC
  try replace rM := rM.ext hC
  try replace rF := rF.ext hC
  try replace rG := rG.ext hC
  try replace rH := rH.ext hC
  try replace rW := rW.ext hC
  replace hE := hE.tr hC
  clear hC
  have o0t := xt.c0
  have o1t := xt.c1
  have olt := xt.lt
  go_wp2_with fail
  clear o0t o1t olt
  refine (validTm_got xt.rd hvt).mono ?_
  rintro e w13 ⟨rfl, hC⟩
  try replace xt := xt.ext hC
  try replace xb := xb.ext hC
  try replace xc := xc.ext hC
  try replace xd := xd.ext hC
  try replace xo := xo.ext hC
  try replace xu := xu.ext hC
  try replace rV := rV.ext hC
  try replace rM := rM.ext hC
  try replace rF := rF.ext hC
  try replace rG := rG.ext hC
  try replace rH := rH.ext hC
  try replace rW := rW.ext hC
  replace hE := hE.tr hC
  clear hC
  have o0c := xc.c0
  have o1c := xc.c1
  have olc := xc.lt
  have o0d := xd.c0
  have o1d := xd.c1
  have old := xd.lt
  go_wp2_with fail
  clear o0c o1c olc
  clear o0d o1d old
  refine (specSameTm_got xc.rd xd.rd hvc).mono ?_
  rintro e w14 ⟨rfl, hC⟩
  try replace xt := xt.ext hC
  try replace xb := xb.ext hC
  try replace xc := xc.ext hC
  try replace xd := xd.ext hC
  try replace xo := xo.ext hC
  try replace xu := xu.ext hC
  try replace rV := rV.ext hC
  try replace rM := rM.ext hC
  try replace rF := rF.ext hC
  try replace rG := rG.ext hC
  try replace rH := rH.ext hC
  try replace rW := rW.ext hC
  replace hE := hE.tr hC
  clear hC
  go_wp2_with fail
  refine (sameNumbers_got rV rM).mono ?_
  rintro e w15 ⟨rfl, hC⟩
  try replace xt := xt.ext hC
  try replace xb := xb.ext hC
  try replace xc := xc.ext hC
  try replace xd := xd.ext hC
  try replace xo := xo.ext hC
  try replace xu := xu.ext hC
  try replace rV := rV.ext hC
  try replace rM := rM.ext hC
  try replace rF := rF.ext hC
  try replace rG := rG.ext hC
  try replace rH := rH.ext hC
  try replace rW := rW.ext hC
  replace hE := hE.tr hC
  clear hC
  have o0c := xc.c0
  have o1c := xc.c1
  have olc := xc.lt
  have o0t := xt.c0
  have o1t := xt.c1
  have olt := xt.lt
  go_wp2_with fail
  clear o0c o1c olc
  clear o0t o1t olt
  refine (isMap_got (ismap_ok hfacts.out.up hfacts.out.lies hfacts.out.map) xc.rd xt.rd rV hvc hvt HVl.out).mono ?_
  rintro e w16 ⟨rfl, hC⟩
  try replace xt := xt.ext hC
  try replace xb := xb.ext hC
  try replace xc := xc.ext hC
  try replace xd := xd.ext hC
  try replace xo := xo.ext hC
  try replace xu := xu.ext hC
  try replace rV := rV.ext hC
  try replace rM := rM.ext hC
  try replace rF := rF.ext hC
  try replace rG := rG.ext hC
  try replace rH := rH.ext hC
  try replace rW := rW.ext hC
  replace hE := hE.tr hC
  clear hC
  have o0c := xc.c0
  have o1c := xc.c1
  have olc := xc.lt
  have o0t := xt.c0
  have o1t := xt.c1
  have olt := xt.lt
  go_wp2_with fail
  clear o0c o1c olc
  clear o0t o1t olt
  refine (first_got hdown.out xt.rd xc.rd hvt hvc).mono ?_
  rintro e w17 ⟨fa, fc, rfl, hC, rF⟩
  try replace xt := xt.ext hC
  try replace xb := xb.ext hC
  try replace xc := xc.ext hC
  try replace xd := xd.ext hC
  try replace xo := xo.ext hC
  try replace xu := xu.ext hC
  try replace rV := rV.ext hC
  try replace rM := rM.ext hC
  try replace rF := rF.ext hC
  try replace rG := rG.ext hC
  try replace rH := rH.ext hC
  try replace rW := rW.ext hC
  replace hE := hE.tr hC
  clear hC
  have o0c := xc.c0
  have o1c := xc.c1
  have olc := xc.lt
  go_wp2_with fail
  clear o0c o1c olc
  refine (core_got hown.out xc.rd hvc).mono ?_
  rintro e w18 ⟨tao, tco, da, dc, rfl, hC, ro, rD⟩
  clear rD
  try replace xt := xt.ext hC
  try replace xb := xb.ext hC
  try replace xc := xc.ext hC
  try replace xd := xd.ext hC
  try replace xo := xo.ext hC
  try replace xu := xu.ext hC
  try replace rV := rV.ext hC
  try replace rM := rM.ext hC
  try replace rF := rF.ext hC
  try replace rG := rG.ext hC
  try replace rH := rH.ext hC
  try replace rW := rW.ext hC
  replace hE := hE.tr hC
  clear hC
  have o0c := xc.c0
  have o1c := xc.c1
  have olc := xc.lt
  have o0t := xt.c0
  have o1t := xt.c1
  have olt := xt.lt
  go_wp2_with fail
  clear o0c o1c olc
  clear o0t o1t olt
  obtain ⟨w19, hw⟩ : ∃ x, x = w18.alloc (.cells #[.int .i64 d.1, .slice tao d.2.length tco] 24) := ⟨_, rfl⟩
  have hzw19 : w19.heap.size = w18.heap.size + 1 := by rw [hw]; simp
  have xo : TVar w19 w18.heap.size d tao tco := hw ▸ TVar.new ro
  have hC : Ext w18 w19 := hw ▸ (Ext.refl' _).alloc (Nat.le_refl _) _
  rw [← hw]
  clear hw ro
  try replace xt := xt.ext hC
  try replace xb := xb.ext hC
  try replace xc := xc.ext hC
  try replace xd := xd.ext hC
  try replace xo := xo.ext hC
  try replace xu := xu.ext hC
  try replace rV := rV.ext hC
  try replace rM := rM.ext hC
  try replace rF := rF.ext hC
  try replace rG := rG.ext hC
  try replace rH := rH.ext hC
  try replace rW := rW.ext hC
  replace hE := hE.tr hC
  clear hC
  clear xo xb xd rM hdb hle
  refine (p6Pick_any v1 2 _ (hv1.ext hE) (by omega) (by omega)).mono ?_
  rintro e w20 ⟨n', nl, nh, rfl, hC⟩
  try replace xt := xt.ext hC
  try replace xb := xb.ext hC
  try replace xc := xc.ext hC
  try replace xd := xd.ext hC
  try replace xo := xo.ext hC
  try replace xu := xu.ext hC
  try replace rV := rV.ext hC
  try replace rM := rM.ext hC
  try replace rF := rF.ext hC
  try replace rG := rG.ext hC
  try replace rH := rH.ext hC
  try replace rW := rW.ext hC
  replace hE := hE.tr hC
  clear hC
  go_wp2_with fail
  obtain ⟨m, hm⟩ : ∃ m, m = 2 + n' := ⟨_, rfl⟩
  rw [← hm]
  have ml : 1 ≤ m := by omega
  have mh : m ≤ 3 := by omega
  clear hm nl nh
  obtain ⟨wu, hw⟩ : ∃ x, x = w20.alloc (.cells #[.int .i64 m, .slice none 0 0] 24) := ⟨_, rfl⟩
  have hA : AccR w20 wu w20.heap.size (w20.heap.size + 1) m [] (.slice none 0 0) [] := by
    rw [hw]
    exact ⟨(Ext.refl' _).alloc (Nat.le_refl _) _, OwnL.nil _, by simp, by simp, by omega, by omega, by simp [go_sem], by simp [go_sem], by simp [go_sem]⟩
  rw [← hw]
  clear hw
  go_loopw [23] (fun i wr => ∃ (j : Nat) (L : List RelD) (tv : Value) (fp : List Nat), j ≤ t.2.length ∧ i = .int .i64 (j : Nat) ∧ AccR w20 wr w20.heap.size (w20.heap.size + 1) m L tv fp ∧ Hid (L.length = j) ∧ Hid (∀ q (hq : q < L.length) (hq2 : q < t.2.length), t.2[q].1 = L[q].1) ∧ Hid (∀ r ∈ L, SValidRel m r = true)) (fun i _ => t.2.length - (intOf i).toNat)
  case atStart => exact ⟨0, [], _, _, by omega, rfl, hA, Lib.hid rfl, Lib.hid fun q hq => by simp at hq, Lib.hid (by simp)⟩
  case round =>
    clear hA
    obtain ⟨j, L, tv, fp, hj, rfl, hA, HLJ, HAr, HVr⟩ := hrel
    obtain ⟨ua, uc, rfl⟩ := hA.ho.form
    have hLb : L.length ≤ 3 := by have := HLJ.out; omega
    by_cases hjl : j < t.2.length
    · have xtr := xt.ext hA.hE
      obtain ⟨fb, fo, hta, k1⟩ := tm_row xtr hjl
      have hvr : RdB wr v1 := (hv1.ext hE).ext hA.hE
      have hab := (valid_parts (valid_tm hvt _ (List.getElem_mem hjl))).2.1
      obtain ⟨ar, HAR⟩ : ∃ ar, Hid (t.2[j].1 = ar) := ⟨_, Lib.hid rfl⟩
      rw [HAR.out] at hab k1
      have p0 := hA.c0
      have p1 := hA.c1
      have hfp1 := hA.ho.lt
      have hqB := hA.hB
      subst hta
      have o0t := xtr.c0
      have o1t := xtr.c1
      go_wp2_with fail
      refine region_sp [] [17, 18, 19] [SP.val (.pointer (some ⟨w20.heap.size, 1, none⟩)), SP.val (.slice ua L.length uc), SP.val (.int .i64 (j : Nat)), SP.val (.int .u8 (IntKind.u8.wrap (j : Nat))), SP.row1 (.int .u8 (IntKind.u8.wrap (j : Nat))), SP.val (v1), SP.rdB, SP.val (.pointer (some ⟨w20.heap.size, 0, none⟩)), SP.val (.int .i64 m), SP.val (.pointer (some ⟨w2.heap.size, 1, none⟩)), SP.val (.slice (some ⟨fb, fo, none⟩) t.2.length tct), SP.val (.int .i64 (j : Nat)), SP.val (.pointer (some ⟨fb, fo + j * 2, none⟩)), SP.val (.pointer (some ⟨fb, fo + j * 2, none⟩)), SP.val (.int .i64 ar), SP.relG wr.heap.size (fun r => SValidRel m r = true ∧ r.1 = ar), SP.rowRelG wr.heap.size (fun r => SValidRel m r = true ∧ r.1 = ar), SP.any, SP.any, SP.any] (by kernel_rfl) (fun _ d _ _ _ h => by cases d <;> exact h) (by kernel_rfl) (by kernel_rfl)
        (.cons (fun vs y hY => Step.fieldAddr ⟨w20.heap.size, 0, none⟩ rfl rfl rfl (by simp [go_sem]) rfl) <|
         .cons (fun vs y hY g0_0 => Step.load ⟨w20.heap.size, 1, none⟩ rfl rfl g0_0 (by simp [go_sem, hY.cell p1]) rfl) <|
         .cons (fun vs y hY => Step.move rfl rfl rfl rfl) <|
         .cons (fun vs y hY g2_0 => Step.convert rfl rfl g2_0 (by simp [go_sem]) rfl) <|
         .cons (fun vs y hY g3_0 => Step.buildSlice1 (x := .int .u8 (IntKind.u8.wrap (j : Nat))) (e := 5) rfl rfl g3_0 (by simp [go_sem]) row1_new) <|
         .cons (fun vs y hY => Step.move rfl rfl rfl rfl) <|
         .cons (fun vs y hY g4_0 g5_1 => Step.bytes (a0 := a1) (n := n1) (c := c1) rfl rfl g4_0 (byte_range _).1 (byte_range _).2 (g5_1.trans HF1.out) (by rw [← HF1.out]; exact hvr.ext hY) Z1.out HN1.out) <|
         .cons (fun vs y hY => Step.fieldAddr ⟨w20.heap.size, 0, none⟩ rfl rfl rfl (by simp [go_sem]) rfl) <|
         .cons (fun vs y hY g7_0 => Step.load ⟨w20.heap.size, 0, none⟩ rfl rfl g7_0 (by simp [go_sem, hY.cell p0]) rfl) <|
         .cons (fun vs y hY => Step.fieldAddr ⟨w2.heap.size, 0, none⟩ rfl rfl rfl (by simp [go_sem]) rfl) <|
         .cons (fun vs y hY g9_0 => Step.load ⟨w2.heap.size, 1, none⟩ rfl rfl g9_0 (by simp [go_sem, hY.cell o1t]) rfl) <|
         .cons (fun vs y hY => Step.move rfl rfl rfl rfl) <|
         .cons (fun vs y hY g10_0 g11_1 => Step.indexAtP (n := .int .i64 (j : Nat)) ⟨fb, fo + j * 2, none⟩ rfl rfl g10_0 g11_1 (by simp [go_sem, Instr.indexAt, Addr.add, hjl] <;> omega) rfl) <|
         .cons (fun vs y hY g12_0 => Step.fieldAddr ⟨fb, fo + j * 2, none⟩ rfl rfl g12_0 (by simp [go_sem]) rfl) <|
         .cons (fun vs y hY g13_0 => Step.load ⟨fb, fo + j * 2, none⟩ rfl rfl g13_0 (by simp [go_sem, hY.cell k1]) rfl) <|
         .cons (fun vs y hY g6_0 g8_1 g14_2 g6_3 => Step.call Tryz.call13 rfl rfl [vs 6, vs 8, vs 14] rfl rfl (by rw [show vs 8 = _ from g8_1, show vs 14 = _ from g14_2]; exact ((p6Rel_any (vs 6) m ar _ g6_0 (by omega) (by omega) (by omega) (by omega)).mono fun _ _ ⟨u, p, fp, he, hE, ho, hg⟩ => ⟨u, he, hE, _, fp, ⟨srel_valid (by omega) (by omega) (by omega) (by omega) p, rfl⟩, ho, fun g h => Nat.le_trans hY.size (hg g h)⟩))) <|
         .cons (fun vs y hY g15_0 => Step.rowRelG (e := 35) rfl rfl hY.size g15_0 (by intros; simp [go_sem])) <|
         .skip rfl <|
         .skip rfl <|
         .skip rfl <|
         .nil) ?_
      intro vs w9 hC hL
      have r0 : vs 0 = _ := hL 0 (by decide) rfl
      have r1 : vs 1 = _ := hL 1 (by decide) rfl
      have r2 : vs 2 = _ := hL 2 (by decide) rfl
      have r3 : vs 3 = _ := hL 3 (by decide) rfl
      have r4 := hL 4 (by decide) rfl
      have r5 : vs 5 = _ := hL 5 (by decide) rfl
      have r6 := hL 6 (by decide) rfl
      have r7 : vs 7 = _ := hL 7 (by decide) rfl
      have r8 : vs 8 = _ := hL 8 (by decide) rfl
      have r9 : vs 9 = _ := hL 9 (by decide) rfl
      have r10 : vs 10 = _ := hL 10 (by decide) rfl
      have r11 : vs 11 = _ := hL 11 (by decide) rfl
      have r12 : vs 12 = _ := hL 12 (by decide) rfl
      have r13 : vs 13 = _ := hL 13 (by decide) rfl
      have r14 : vs 14 = _ := hL 14 (by decide) rfl
      have r15 := hL 15 (by decide) rfl
      have r16 := hL 16 (by decide) rfl
      clear hL
      simp only [putAll, Act.put, List.contains_cons, List.contains_nil, Nat.reduceBEq, Nat.reduceAdd, Bool.or_false, Bool.or_true, cond_true, cond_false, List.setIfInBounds_toArray, List.set_cons_succ, List.set_cons_zero, List.filterMap_cons, List.filterMap_nil, List.getElem?_cons_succ, List.getElem?_cons_zero, r0, r1, r2, r3, r5, r7, r8, r9, r10, r11, r12, r13, r14]
      clear r0 r1 r2 r3 r5 r7 r8 r9 r10 r11 r12 r13 r14
      obtain ⟨r, b', u, fx, ⟨hvr2, har2⟩, r16, hb', y0, y1, hx, hfx⟩ := r16
      have HA2 := Lib.hid (show ∀ q (hq : q < (L ++ [r]).length) (hq2 : q < t.2.length), t.2[q].1 = (L ++ [r])[q].1 from fun q hq hq2 => by
        by_cases hql : q < L.length
        · rw [List.getElem_append_left hql]
          exact HAr.out q hql hq2
        · have hqj : q = j := by
            rw [List.length_append, List.length_singleton] at hq
            have := HLJ.out
            omega
          subst hqj
          rw [List.getElem_append_right (by omega), List.getElem_singleton, har2, HAR.out])
      have HV2 := Lib.hid (show ∀ x ∈ L ++ [r], SValidRel m x = true from fun x hx => by
        rcases List.mem_append.1 hx with h | h
        · exact HVr.out x h
        · rw [List.mem_singleton.1 h]; exact hvr2)
      have HL2 := Lib.hid (show (L ++ [r]).length = j + 1 from by rw [List.length_append, List.length_singleton, HLJ.out])
      clear HAr HVr HAR hvr2 har2
      refine AccR.append (hA.ext hC) hx (fun g hg => by have := hfx g hg; omega) (fun g hg hm => by have := hfx g hg; have := hfp1 g hm; omega) (by omega) y0 y1 rfl (.tmp 159) (.tmp 174) rfl rfl r16 ?_
      clear hx hfx y0 y1 r16 hfp1 HLJ
      rintro v' w10 fp' k7 k8 hA4 ⟨xa', xc', rfl⟩
      go_wp2_with fail
      go_roundw
      case rel => exact ⟨j + 1, _, _, fp', by omega, by go_num, hA4, HL2, HA2, HV2⟩
      case measure => simp [intOf]; omega
    · have hlen : t.2.length = L.length := by have := HLJ.out; omega
      obtain ⟨U, hfl, hUar, xu⟩ : ∃ U : TmD, Hid (SMapFault t U = 0) ∧ Hid (∀ i (hi : i < t.2.length) (hj : i < U.2.length), t.2[i].1 = U.2[i].1) ∧ TVar wr w20.heap.size U ua uc :=
        ⟨(m, L), Lib.hid (fault_ok hvt (IsTm.of ml (by omega) hLb HVr.out).valid hlen fun i hi hj => HAr.out i hj hi), Lib.hid fun i hi hj => HAr.out i hj hi, ⟨hA.c0, hA.c1, ⟨_, rfl, hA.ho.rd⟩⟩⟩
      have hC := hA.hE
      clear hA HAr HVr HLJ hlen hLb
      try replace xt := xt.ext hC
      try replace xb := xb.ext hC
      try replace xc := xc.ext hC
      try replace xd := xd.ext hC
      try replace xo := xo.ext hC
      try replace xu := xu.ext hC
      try replace rV := rV.ext hC
      try replace rM := rM.ext hC
      try replace rF := rF.ext hC
      try replace rG := rG.ext hC
      try replace rH := rH.ext hC
      try replace rW := rW.ext hC
      replace hE := hE.tr hC
      clear hC
      have hvU := (fault_zero hfl.out).2.1
      rcases fmap_cases (core_to hfacts.out hfl.out hUar.out) with ⟨g, hto, hgv, hgm⟩ | ⟨hto, hno⟩
      · have HTO := Lib.hid hto
        have HGV := Lib.hid hgv
        have HGM := Lib.hid hgm
        clear hto hgv hgm
        have o0t := xt.c0
        have o1t := xt.c1
        have olt := xt.lt
        have o0c := xc.c0
        have o1c := xc.c1
        have olc := xc.lt
        have o0u := xu.c0
        have o1u := xu.c1
        have olu := xu.lt
        go_wp2_with fail
        clear o0t o1t olt
        clear o0c o1c olc
        clear o0u o1u olu
        refine (first_got HTO.out xc.rd xu.rd hvc hvU).mono ?_
        rintro e w21 ⟨ga, gc, rfl, hC, rG⟩
        try replace xt := xt.ext hC
        try replace xb := xb.ext hC
        try replace xc := xc.ext hC
        try replace xd := xd.ext hC
        try replace xo := xo.ext hC
        try replace xu := xu.ext hC
        try replace rV := rV.ext hC
        try replace rM := rM.ext hC
        try replace rF := rF.ext hC
        try replace rG := rG.ext hC
        try replace rH := rH.ext hC
        try replace rW := rW.ext hC
        replace hE := hE.tr hC
        clear hC
        have o0c := xc.c0
        have o1c := xc.c1
        have olc := xc.lt
        have o0u := xu.c0
        have o1u := xu.c1
        have olu := xu.lt
        go_wp2_with fail
        clear o0c o1c olc
        clear o0u o1u olu
        refine (specFirst_got HTO.out xc.rd xu.rd hvc hvU).mono ?_
        rintro e w22 ⟨ha', hc', rfl, hC, rH⟩
        try replace xt := xt.ext hC
        try replace xb := xb.ext hC
        try replace xc := xc.ext hC
        try replace xd := xd.ext hC
        try replace xo := xo.ext hC
        try replace xu := xu.ext hC
        try replace rV := rV.ext hC
        try replace rM := rM.ext hC
        try replace rF := rF.ext hC
        try replace rG := rG.ext hC
        try replace rH := rH.ext hC
        try replace rW := rW.ext hC
        replace hE := hE.tr hC
        clear hC
        go_wp2_with fail
        refine (sameNumbers_got rG rH).mono ?_
        rintro e w23 ⟨rfl, hC⟩
        try replace xt := xt.ext hC
        try replace xb := xb.ext hC
        try replace xc := xc.ext hC
        try replace xd := xd.ext hC
        try replace xo := xo.ext hC
        try replace xu := xu.ext hC
        try replace rV := rV.ext hC
        try replace rM := rM.ext hC
        try replace rF := rF.ext hC
        try replace rG := rG.ext hC
        try replace rH := rH.ext hC
        try replace rW := rW.ext hC
        replace hE := hE.tr hC
        clear hC
        go_wp2_with fail
        obtain ⟨i0, hi, hz0, hz1, hz2⟩ := info_parts infoI
        obtain ⟨hf1, hf2⟩ := vals_iff.1 hfv.out
        obtain ⟨hg1, hg2⟩ := vals_iff.1 HGV.out
        have HF2 := Lib.hid hf2
        have HFL := Lib.hid hf1
        have HGL := Lib.hid hg1
        clear hf2 hg2
        obtain ⟨fb, fo, rfl, hfc⟩ := rdI_cells rF (by omega)
        obtain ⟨gb, go, rfl, hgc⟩ := rdI_cells rH (by omega)
        have HFC := Lib.hid hfc
        have HGC := Lib.hid hgc
        clear hfc hgc hf1 hg1 rF rG rH rV
        go_loopw [30, 31] (fun b i wr => ∃ (k : Nat) (M : List Int), (k : Int) ≤ t.1 ∧ i = .int .i64 (k : Nat) ∧ Ext w23 wr ∧ wr.ownsRow w23.heap.size 2 1 b M.length (M.map (Value.int .i64)) ∧ M.length ≤ k ∧ Hid (M = atP g (f.take k))) (fun _ i _ => t.1.toNat - (intOf i).toNat)
        case atStart => exact ⟨0, [], by omega, rfl, (Ext.refl' w23).alloc (Nat.le_refl _) _, World.ownsRow_made w23 #[] 0 (Nat.le_refl _) (by decide) rfl, by simp, Lib.hid rfl⟩
        case round =>
          obtain ⟨k, M, hk, rfl, hE2, ho, hMl, HM⟩ := hrel
          obtain ⟨oa, ob, oc, rfl, -⟩ := own_parts ho
          have q2 := hE2.size
          by_cases hkl : (k : Int) < t.1
          · have hkf : k < f.length := by have := HFL.out; omega
            have hfk := HF2.out f[k] (List.getElem_mem hkf)
            obtain ⟨q, hq⟩ := Int.eq_ofNat_of_zero_le hfk.1
            have hqg : q < g.length := by have := HGL.out; omega
            have c1 := hE2.cell (HFC.out k hkf)
            have c2 := hE2.cell (HGC.out q hqg)
            rw [hq] at c1
            have HM2 := Lib.hid (show M ++ [g[q]] = atP g (f.take (k + 1)) from by
              rw [atP_take g f k hkf, ← HM.out, hq]
              simp [List.getD_eq_getElem?_getD, List.getElem?_eq_getElem hqg])
            clear hfk hq HM
            generalize g[q] = X at c2 HM2
            have o0t := hE2.cell xt.c0
            go_wp2_with (at_builtin; refine wpList_append_own _ rfl _ _ 37 rfl w23.heap.size 2 i0 (.int .i64 0) 1 8 Tryz.underlying37 hi hz0 hz1 hz2 rfl (by decide) _ _ _ rfl (own_ext ho ((Ext.refl' wr).alloc (Nat.le_refl _) _)) ⟨wr.heap.size, 0, none⟩ 1 1 [.int .i64 X] rfl rfl (cells_one (by simp [go_sem])) (by simp [Value.oneCell']) (by unfold maxLen; omega) (by omega) (by simp; omega) ?_)
            intro v' w25 ho5 hg5 _
            have hA5 : Ext wr (wr.alloc (.cells #[.int .i64 X] 2)) := (Ext.refl' wr).alloc (Nat.le_refl _) _
            replace hE2 : Ext w23 w25 := (hE2.tr hA5).grown hg5 (by simp; omega) (fun h hh => (ho.lt h hh).1)
            replace ho : w25.ownsRow w23.heap.size 2 1 v' (M ++ [X]).length ((M ++ [X]).map (Value.int .i64)) := by rw [List.map_append, List.length_append]; exact ho5
            clear hg5 hA5 ho5 o0t c1 c2
            have hMl2 : (M ++ [X]).length ≤ k + 1 := by rw [List.length_append, List.length_singleton]; omega
            go_wp2_with fail
            go_roundw
            case rel => exact ⟨k + 1, M ++ [X], by omega, by go_num, hE2, ho, hMl2, HM2⟩
            case measure => simp [intOf]; omega
          · have hMf : M = atP g f := by rw [HM.out, List.take_of_length_le (by have := HFL.out; omega)]
            have HWH := Lib.hid (show SIsMapOf t U M = (true, 0) from by rw [hMf]; exact whole_ok hfacts.out hfl.out hfv.out hfm.out HGV.out HGM.out)
            have hMs : M.length ≤ 1048576 := by omega
            have HMS := Lib.hid hMs
            have rW : RdI wr (.slice oa M.length oc) M := (show OI wr (.slice oa M.length oc) M _ from ⟨own_base ho (fun _ _ => Nat.zero_le _), rfl⟩).rd
            clear hMf hMs HM
            have hC := hE2
            clear hE2
            try replace xt := xt.ext hC
            try replace xb := xb.ext hC
            try replace xc := xc.ext hC
            try replace xd := xd.ext hC
            try replace xo := xo.ext hC
            try replace xu := xu.ext hC
            try replace rV := rV.ext hC
            try replace rM := rM.ext hC
            try replace rF := rF.ext hC
            try replace rG := rG.ext hC
            try replace rH := rH.ext hC
            try replace rW := rW.ext hC
            replace hE := hE.tr hC
            clear hC
            have o0t := xt.c0
            have o1t := xt.c1
            have olt := xt.lt
            have o0u := xu.c0
            have o1u := xu.c1
            have olu := xu.lt
            go_wp2_with fail
            clear o0t o1t olt
            clear o0u o1u olu
            refine (isMap_got HWH.out xt.rd xu.rd rW hvt hvU HMS.out).mono ?_
            rintro e w26 ⟨rfl, hC⟩
            try replace xt := xt.ext hC
            try replace xb := xb.ext hC
            try replace xc := xc.ext hC
            try replace xd := xd.ext hC
            try replace xo := xo.ext hC
            try replace xu := xu.ext hC
            try replace rV := rV.ext hC
            try replace rM := rM.ext hC
            try replace rF := rF.ext hC
            try replace rG := rG.ext hC
            try replace rH := rH.ext hC
            try replace rW := rW.ext hC
            replace hE := hE.tr hC
            clear hC
            go_wp2_with fail
            go_ret
            exact ⟨rfl, hE⟩
      · have HTO := Lib.hid hto
        have HNO := Lib.hid (no_map hfacts.out hfl.out hno)
        clear hto hno
        have o0t := xt.c0
        have o1t := xt.c1
        have olt := xt.lt
        have o0c := xc.c0
        have o1c := xc.c1
        have olc := xc.lt
        have o0u := xu.c0
        have o1u := xu.c1
        have olu := xu.lt
        go_wp2_with fail
        clear o0t o1t olt
        clear o0c o1c olc
        clear o0u o1u olu
        refine (first_got HTO.out xc.rd xu.rd hvc hvU).mono ?_
        rintro e w21 ⟨ga, gc, rfl, hC, rG⟩
        try replace xt := xt.ext hC
        try replace xb := xb.ext hC
        try replace xc := xc.ext hC
        try replace xd := xd.ext hC
        try replace xo := xo.ext hC
        try replace xu := xu.ext hC
        try replace rV := rV.ext hC
        try replace rM := rM.ext hC
        try replace rF := rF.ext hC
        try replace rG := rG.ext hC
        try replace rH := rH.ext hC
        try replace rW := rW.ext hC
        replace hE := hE.tr hC
        clear hC
        have o0c := xc.c0
        have o1c := xc.c1
        have olc := xc.lt
        have o0u := xu.c0
        have o1u := xu.c1
        have olu := xu.lt
        go_wp2_with fail
        clear o0c o1c olc
        clear o0u o1u olu
        refine (specFirst_got HTO.out xc.rd xu.rd hvc hvU).mono ?_
        rintro e w22 ⟨ha', hc', rfl, hC, rH⟩
        try replace xt := xt.ext hC
        try replace xb := xb.ext hC
        try replace xc := xc.ext hC
        try replace xd := xd.ext hC
        try replace xo := xo.ext hC
        try replace xu := xu.ext hC
        try replace rV := rV.ext hC
        try replace rM := rM.ext hC
        try replace rF := rF.ext hC
        try replace rG := rG.ext hC
        try replace rH := rH.ext hC
        try replace rW := rW.ext hC
        replace hE := hE.tr hC
        clear hC
        go_wp2_with fail
        refine (sameNumbers_got rG rH).mono ?_
        rintro e w23 ⟨rfl, hC⟩
        try replace xt := xt.ext hC
        try replace xb := xb.ext hC
        try replace xc := xc.ext hC
        try replace xd := xd.ext hC
        try replace xo := xo.ext hC
        try replace xu := xu.ext hC
        try replace rV := rV.ext hC
        try replace rM := rM.ext hC
        try replace rF := rF.ext hC
        try replace rG := rG.ext hC
        try replace rH := rH.ext hC
        try replace rW := rW.ext hC
        replace hE := hE.tr hC
        clear hC
        have o0t := xt.c0
        have o1t := xt.c1
        have olt := xt.lt
        have o0u := xu.c0
        have o1u := xu.c1
        have olu := xu.lt
        go_wp2_with fail
        clear o0t o1t olt
        clear o0u o1u olu
        refine (first_got HNO.out xt.rd xu.rd hvt hvU).mono ?_
        rintro e w24 ⟨wa, wc, rfl, hC, rW⟩
        try replace xt := xt.ext hC
        try replace xb := xb.ext hC
        try replace xc := xc.ext hC
        try replace xd := xd.ext hC
        try replace xo := xo.ext hC
        try replace xu := xu.ext hC
        try replace rV := rV.ext hC
        try replace rM := rM.ext hC
        try replace rF := rF.ext hC
        try replace rG := rG.ext hC
        try replace rH := rH.ext hC
        try replace rW := rW.ext hC
        replace hE := hE.tr hC
        clear hC
        go_wp2_with fail
        go_ret
        exact ⟨rfl, hE⟩
set_option maxRecDepth 100000 in
theorem lifted (os : Os) (started : os.Started) (H : Type) (enc : TypeId × Value → H) :
    ReturnsInHanded {} Tryz.checked os 5 .any (fun w args => (Rows.fnCoresSpec.pre enc Tryz.prog Tryz.f5 [] false w args ∧ laidMetH Tryz.prog Rows.fnCoresRow.laid w) ∧ sizedMet enc Tryz.prog Tryz.f5 (OpenSpec.ofChange Rows.fnCoresSpec) false w args) (Rows.fnCoresSpec.post enc Tryz.prog Tryz.f5 false true false false) := by
  refine handed_sh (C := Tryz.checked) (X := fun w _ => laidMetH Tryz.prog Rows.fnCoresRow.laid w) (fun _ _ _ hh h => h.of_heap hh) own_knob started (by kernel_rfl) Tryz.func5
    (ChangeSpec.witness_shaped (enc := enc) (C := Tryz.checked) (os := os) (X := fun w _ => laidMetH Tryz.prog Rows.fnCoresRow.laid w) false (World.laidAll Tryz.prog os Rows.fnCoresRow.laid) #[.slice none 0 0, .slice none 0 0] 8 (World.laidAll_os _ _ _) (World.shaped_of_ZipB (by kernel_rfl) (by kernel_rfl)) (by kernel_rfl) (by kernel_rfl) (by kernel_rfl) (by rw [MakeChecks.laidMetH_plain _ _ _ (by kernel_rfl)]; exact laidMet_laidAll _ (by kernel_rfl) (by kernel_rfl))) ?_
  intro W base args ds gs before hval0 hW hL hsh
  have hval : ∀ (j : Nat) t v, Tryz.f5.params[j]? = some t → args[j]? = some v → Value.okWide Tryz.prog W .any base t v := hval0
  have hLW : LaidW W := by
    rw [MakeChecks.laidMetH_plain _ _ _ (by kernel_rfl)] at hL
    exact laidW_of hL (by unfold Rows.fnCoresRow; simp) (by unfold Rows.fnCoresRow; simp) (by unfold Rows.fnCoresRow; simp) hsh
  have hW' := hW
  obtain ⟨p, q, hA0, hV, rfl, hfz, hnd⟩ := hW
  have hA : DataW.TrodAll enc Tryz.prog W 0 (fun _ => true) true Tryz.f5.params.toList args.toList ds p := hA0
  rw [Tryz.params5] at hA hval
  obtain ⟨v0, v1, d0, d1, p0, p1, rfl, rfl, rfl, k0, k1⟩ := trodAll_two hA
  obtain ⟨rfl, rfl⟩ := trodVars_none hV
  clear hA0 hval0
  simp only [List.append_nil] at hW'
  obtain ⟨a0, n0, c0, rfl, h0, _⟩ := dB_of k0 (hval 0 _ _ rfl rfl)
  obtain ⟨a1, n1, c1, rfl, h1, hn1⟩ := dB_of k1 (hval 1 _ _ rfl rfl)
  refine (walk a0 n0 c0 a1 n1 c1 W h0 h1 hn1 hLW).mono fun e W' ⟨he, hE⟩ => ?_
  subst he
  exact ⟨_, rfl, law_post rfl rfl (by kernel_rfl) hW' hE rfl rfl rfl⟩

theorem said : Rows.FnCoresSaid :=
  OpenClaim.holds_of_wide 5 Tryz.f5 rfl rfl rfl rfl rfl rfl rfl ⟨rfl, rfl, rfl, rfl, rfl⟩ rfl rfl rfl rfl rfl (by kernel_rfl) Tryz.func5 (by kernel_rfl)
    (of_decide_eq_true (by kernel_rfl)) (by unfold Func.isWrapper; first | (rw [if_pos (by decide +kernel)]; kernel_rfl) | (rw [if_neg (by decide +kernel)]; exact ⟨rfl, rfl⟩))
    (fun os started H enc _ => lifted os started H enc)
theorem proved : Rows.FnCoresCardSaid :=
  Claim7.holds_tied_plain_at .later [] Rows.fnCoresCard.laidKinds true Rows.fnCoresCard.stood.harness true
    said (fun _ h => by cases h) (by kernel_rfl) (fun _ h => by cases h) fnCores_row_tie rfl ⟨rfl, rfl⟩ (by kernel_rfl) rfl
    (fun f fn hf hfn => by
      obtain rfl : f = 5 := Option.some.inj ((show Tryz.prog.funcNamed "loop.example/g01085/laws.FnCores" = some 5 by kernel_rfl).symm.trans hf) |>.symm
      obtain rfl : fn = Tryz.f5 := (Option.some.inj (Tryz.func5.symm.trans hfn)).symm
      exact ⟨by kernel_rfl, fun j t ht => by
        rw [Tryz.params5] at ht
        have hm : t ∈ [30, 30] := by simpa using Array.mem_of_getElem? ht
        have hall : ([30, 30].all fun u => !Tryz.prog.wantsStandIn u) = true := by kernel_rfl
        exact (show Tryz.prog.wantsStandIn t = false by simpa using List.all_eq_true.1 hall t hm)⟩)
    (by kernel_rfl)
end Go.Proofs.YtajkepdfemdagaaGreatDoor.fnCores
