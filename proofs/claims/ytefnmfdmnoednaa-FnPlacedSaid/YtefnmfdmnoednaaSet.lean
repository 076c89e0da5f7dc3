
/- The reference's sets of tuples, told by their numbers. -/
import Derived.Test.YtefnmfdmnoednaaRelLoop
import Derived.Test.YtefnmfdmnoednaaCode
namespace Go.Proofs.Ytefnmfdmnoednaa
open Go.RowKit
set_option linter.unusedVariables false

def setRel (s m : Int) (hs : List Bool) : Int × List (List Int) := (m, allC s m (fun k => hs.getD k false) (count s m))
def OB (w : World) (v : Value) (hs : List Bool) (fp : List Nat) : Prop := w.ownsRow 0 4 1 v hs.length (hs.map Value.bool) ∧ fp = v.ownBlock.toList
theorem OB.lt {w : World} {v : Value} {hs : List Bool} {fp : List Nat} (h : OB w v hs fp) : ∀ g ∈ fp, g < w.heap.size := fun g hg => own_lt h.1 g (by rw [h.2] at hg; simpa using hg)
theorem OB.ext {w w' : World} {v : Value} {hs : List Bool} {fp : List Nat} (h : OB w v hs fp) (hE : Ext w w') : OB w' v hs fp := ⟨own_ext h.1 hE, h.2⟩
theorem OB.form {w : World} {v : Value} {hs : List Bool} {fp : List Nat} (h : OB w v hs fp) : ∃ a c, v = .slice a hs.length c := by
  obtain ⟨a, b, cap, hv, _⟩ := own_parts h.1
  exact ⟨a, cap, hv⟩
/-- one place: its cell, and what a store there leaves -/
theorem OB.at {w : World} {v : Value} {hs : List Bool} {fp : List Nat} (h : OB w v hs fp) (k : Nat) (hk : k < hs.length) :
    ∃ b cap, v = .slice (some ⟨b, 0, none⟩) hs.length cap ∧ w.cell? ⟨b, k, none⟩ = some (.bool hs[k]) ∧ w.frozen? ⟨b, k, none⟩ = false ∧ b ∈ fp ∧ hs.length ≤ cap ∧ cap ≤ 9223372036854775807 ∧ ∀ x, OB (w.setCell ⟨b, k, none⟩ (.bool x)) v (hs.set k x) fp := by
  obtain ⟨ho, hfp⟩ := h
  obtain ⟨a, b, cap, rfl, h1, h2, h3, h4, h5, h6, -⟩ := own_parts ho
  obtain rfl := h4 (by omega)
  have hc := h6 k (by simpa using hk)
  rw [Nat.zero_add] at hc
  refine ⟨b, cap, rfl, by simpa using hc, ho.frozenAt k, by rw [hfp]; simp [Value.ownBlock], h2, h3, fun x => ⟨?_, hfp⟩⟩
  have := (ho.stored k (.bool x)).1
  rw [← List.map_set] at this
  rw [List.length_set]
  exact this

/-- a pointer at a set: its size, its arity, its marks (in the blocks fp) -/
def OSet (w : World) (p : Value) (s m : Int) (hs : List Bool) (fp : List Nat) : Prop :=
  ∃ b tv, p = .pointer (some ⟨b, 0, none⟩) ∧ w.cell? ⟨b, 0, none⟩ = some (.int .i64 s) ∧ w.cell? ⟨b, 1, none⟩ = some (.int .i64 m) ∧ w.cell? ⟨b, 2, none⟩ = some tv ∧ OB w tv hs fp ∧ b ∉ fp
theorem OSet.ext {w w' : World} {p : Value} {s m : Int} {hs : List Bool} {fp : List Nat} (h : OSet w p s m hs fp) (hE : Ext w w') : OSet w' p s m hs fp := by
  obtain ⟨b, tv, h1, h2, h3, h4, h5, h6⟩ := h
  exact ⟨b, tv, h1, hE.cell h2, hE.cell h3, hE.cell h4, h5.ext hE, h6⟩

theorem infoB : (Try.prog.info? 4).map (fun i => (i.zero, i.size, i.bytes)) = some (some (.bool false), 1, 1) := by kernel_rfl

set_option maxHeartbeats 1000000 in
theorem l01Empty_any (s m : Int) (w : World) (hs : 1 ≤ s) (hs2 : s ≤ 4) (hm : 1 ≤ m) (hm2 : m ≤ 4) :
    Calls Try.prog 62 #[.int .i64 s, .int .i64 m] w fun e w' => ∃ p fp, e = .returned p ∧ Ext w w' ∧ OSet w' p s m (List.replicate (count s m) false) fp ∧ ∀ g ∈ fp, w.heap.size ≤ g := by
  obtain ⟨i0, hi, hz0, hz1, hz2⟩ := info_parts infoB
  have hN := count_eq s m hs hs2 hm hm2
  have hN2 := powW_small s m hs hs2 hm hm2
  have hN3 : count s m ≤ 256 := by omega
  have HN := Lib.hid hN
  clear hN
  go_enter Try.func62, Try.ntmps62
  go_wp2_with fail
  refine (l01Power_any _ _ _ (by omega) (by omega)).mono ?_
  rintro e w' ⟨rfl, rfl⟩
  rw [← HN.out]
  go_wp2_with (at_make; refine wpList_make_full _ rfl _ _ 125 rfl 0 4 i0 (.bool false) 1 Try.underlying125 hi hz0 hz1 _ _ _ _ (count s m) rfl rfl rfl rfl (by rw [hz2]; omega) (by unfold maxLen; omega) (by omega) ?_)
  intro w1 hown hgr
  have hE1 : Ext w w1 := (Ext.refl' w).grown hgr (Nat.le_refl _) (by simp)
  have hlt := (hown.lt _ rfl).2
  have ho : OB w1 (.slice (some ⟨w.heap.size, 0, none⟩) (count s m) (count s m)) (List.replicate (count s m) false) [w.heap.size] := by
    refine ⟨?_, rfl⟩
    rw [List.length_replicate, List.map_replicate]
    simpa [Value.cells, toList_madeCells_one] using hown
  have hA : Ext w1 (w1.alloc (.cells #[.int .i64 s, .int .i64 m, .slice (some ⟨w.heap.size, 0, none⟩) (count s m) (count s m)] 127)) := (Ext.refl' w1).alloc (Nat.le_refl _) _
  clear hown hgr
  go_wp2_with fail
  go_ret
  refine ⟨_, rfl, hE1.tr hA, [w.heap.size], ⟨w1.heap.size, _, rfl, by simp [go_sem], by simp [go_sem], by simp [go_sem], ho.ext hA, ?_⟩, by simp⟩
  simp
  omega

set_option maxHeartbeats 2000000 in
set_option maxRecDepth 100000 in
theorem setRel_any (s m : Int) (hs : List Bool) (p : Value) (fs : List Nat) (w : World) (h : OSet w p s m hs fs) (hs1 : 1 ≤ s) (hs2 : s ≤ 4) (hm : 1 ≤ m) (hm2 : m ≤ 4) (hl : hs.length = count s m) :
    Calls Try.prog 64 #[p] w fun e w' => ∃ u fp, e = .returned u ∧ Ext w w' ∧ OwnRel w' u (setRel s m hs) fp ∧ ∀ h ∈ fp, w.heap.size ≤ h := by
  obtain ⟨i0, hi, hz0, hz1, hz2⟩ := info_parts infoIS
  have hN2 := powW_small s m hs1 hs2 hm hm2
  have hN3 : count s m ≤ 256 := by have := count_eq s m hs1 hs2 hm hm2; omega
  obtain ⟨bs, tb, rfl, s0, s1, s2, hb, hbf⟩ := h
  obtain ⟨ba, bc, rfl⟩ := hb.form
  have hbs := lt_of_cell s0
  go_enter Try.func64, Try.ntmps64
  go_wp2_with fail
  go_loopw [4] (fun i wr => ∃ (k : Nat) (tv : Value) (fp : List Nat), k ≤ count s m ∧ i = .int .i64 k ∧ Ext w wr ∧ OII wr tv (allC s m (fun k => hs.getD k false) k) fp ∧ (∀ g ∈ fp, w.heap.size + 2 ≤ g) ∧
      wr.cell? ⟨w.heap.size + 1, 0, none⟩ = some (.int .i64 m) ∧ wr.cell? ⟨w.heap.size + 1, 1, none⟩ = some tv ∧ wr.frozen? ⟨w.heap.size + 1, 1, none⟩ = false ∧
      wr.cell? ⟨w.heap.size, 0, none⟩ = some (.int .i64 0) ∧ wr.cell? ⟨w.heap.size, 1, none⟩ = some (.slice none 0 0) ∧ wr.frozen? ⟨w.heap.size, 0, none⟩ = false ∧ wr.frozen? ⟨w.heap.size, 1, none⟩ = false)
    (fun i _ => count s m - (intOf i).toNat)
  case atStart =>
    refine ⟨0, .slice none 0 0, [], by omega, rfl, ((Ext.refl' w).alloc (Nat.le_refl _) _).alloc (by simp) _, OII_nil _, by simp, ?_, ?_, ?_, ?_, ?_, ?_, ?_⟩ <;> simp [go_sem]
  case round =>
    obtain ⟨k, tv, fp, hk, rfl, hE, ho, hfp, c0, c1, f1, d0, d1, f2, f3⟩ := hrel
    have q0 : w.heap.size < wr.heap.size := lt_of_cell d0
    have q1 : w.heap.size + 1 < wr.heap.size := lt_of_cell c0
    obtain ⟨va, vc, rfl⟩ := ho.form
    have hlen := allC_length s m (fun k => hs.getD k false) k
    have t0 := hE.cell s0
    have t1 := hE.cell s1
    have t2 := hE.cell s2
    by_cases hkl : k < count s m
    · obtain ⟨b, cap, hbv, hbc, -⟩ := (hb.ext hE).at k (by omega)
      simp only [Value.slice.injEq, true_and] at hbv
      obtain ⟨rfl, rfl⟩ := hbv
      have hkh : k < hs.length := by omega
      have hget : hs.getD k false = hs[k] := by rw [List.getD_eq_getElem?_getD, List.getElem?_eq_getElem hkh]; rfl
      cases hp : hs[k] with
      | false =>
        rw [hp] at hbc hget
        have HD := Lib.hid (allC_no (s := s) (m := m) (h := fun k => hs.getD k false) hget)
        clear hget hp
        go_wp2_with fail
        go_roundw
        case rel => exact ⟨k + 1, _, fp, by omega, by go_num, hE, by rw [HD.out]; exact ho, hfp, c0, c1, f1, d0, d1, f2, f3⟩
        case measure => simp [intOf]; omega
      | true =>
        rw [hp] at hbc hget
        have HD := Lib.hid (allC_yes (s := s) (m := m) (h := fun k => hs.getD k false) hget)
        clear hget hp
        go_wp2_with fail
        go_wp2_with fail
        refine region_sp [] [13, 14, 15] [SP.val (.pointer (some ⟨(w.heap.size + 1), 1, none⟩)), SP.val (.slice va (allC s m (fun k => hs.getD k false) k).length vc), SP.val (.pointer (some ⟨bs, 0, none⟩)), SP.val (.pointer (some ⟨bs, 0, none⟩)), SP.val (.pointer (some ⟨bs, 0, none⟩)), SP.val (.int .i64 s), SP.val (.pointer (some ⟨bs, 0, none⟩)), SP.val (.pointer (some ⟨bs, 0, none⟩)), SP.val (.pointer (some ⟨bs, 1, none⟩)), SP.val (.int .i64 m), SP.val (.int .i64 (k : Nat)), SP.ownIb wr.heap.size (digs s m.toNat k), SP.rowIb wr.heap.size (digs s m.toNat k), SP.any, SP.any, SP.any] (by kernel_rfl) (fun _ d _ _ _ h => by cases d <;> exact h) (by kernel_rfl) (by kernel_rfl)
          (.cons (fun vs y hY => Step.fieldAddr ⟨(w.heap.size + 1), 0, none⟩ rfl rfl rfl (by simp [go_sem]) rfl) <|
           .cons (fun vs y hY g0_0 => Step.load ⟨(w.heap.size + 1), 1, none⟩ rfl rfl g0_0 (by simp [go_sem, hY.cell c1]) rfl) <|
           .cons (fun vs y hY => Step.move rfl rfl rfl rfl) <|
           .cons (fun vs y hY g2_0 => Step.nilCheck rfl rfl g2_0 rfl) <|
           .cons (fun vs y hY g3_0 => Step.fieldAddr ⟨bs, 0, none⟩ rfl rfl g3_0 (by simp [go_sem]) rfl) <|
           .cons (fun vs y hY g4_0 => Step.load ⟨bs, 0, none⟩ rfl rfl g4_0 (by simp [go_sem, hY.cell t0]) rfl) <|
           .cons (fun vs y hY => Step.move rfl rfl rfl rfl) <|
           .cons (fun vs y hY g6_0 => Step.nilCheck rfl rfl g6_0 rfl) <|
           .cons (fun vs y hY g7_0 => Step.fieldAddr ⟨bs, 0, none⟩ rfl rfl g7_0 (by simp [go_sem]) rfl) <|
           .cons (fun vs y hY g8_0 => Step.load ⟨bs, 1, none⟩ rfl rfl g8_0 (by simp [go_sem, hY.cell t1]) rfl) <|
           .cons (fun vs y hY => Step.move rfl rfl rfl rfl) <|
           .cons (fun vs y hY g5_0 g9_1 g10_2 => Step.call Try.call116 rfl rfl [vs 5, vs 9, vs 10] rfl rfl (by rw [show vs 5 = _ from g5_0, show vs 9 = _ from g9_1, show vs 10 = _ from g10_2]; exact ((l01Digits_any _ _ _ _ (by omega) (by omega) hs1 (by omega) (by omega) (by omega)).mono fun _ _ ⟨u, fp, he, hE, ho, hg⟩ => ⟨u, he, hE, fp, ho, fun g h => Nat.le_trans hY.size (hg g h)⟩))) <|
           .cons (fun vs y hY g11_0 => Step.rowIb (e := 34) rfl rfl g11_0 (by simp [go_sem])) <|
           .skip rfl <|
           .skip rfl <|
           .skip rfl <|
           .nil) ?_
        intro vs w1 hC hL
        have r0 : vs 0 = _ := hL 0 (by decide) rfl
        have r1 : vs 1 = _ := hL 1 (by decide) rfl
        have r2 : vs 2 = _ := hL 2 (by decide) rfl
        have r3 : vs 3 = _ := hL 3 (by decide) rfl
        have r4 : vs 4 = _ := hL 4 (by decide) rfl
        have r5 : vs 5 = _ := hL 5 (by decide) rfl
        have r6 : vs 6 = _ := hL 6 (by decide) rfl
        have r7 : vs 7 = _ := hL 7 (by decide) rfl
        have r8 : vs 8 = _ := hL 8 (by decide) rfl
        have r9 : vs 9 = _ := hL 9 (by decide) rfl
        have r10 : vs 10 = _ := hL 10 (by decide) rfl
        have r11 := hL 11 (by decide) rfl
        have r12 := hL 12 (by decide) rfl
        clear hL
        simp only [putAll, Act.put, List.contains_cons, List.contains_nil, Nat.reduceBEq, Nat.reduceAdd, Bool.or_false, Bool.or_true, cond_true, cond_false, List.setIfInBounds_toArray, List.set_cons_succ, List.set_cons_zero, List.filterMap_cons, List.filterMap_nil, List.getElem?_cons_succ, List.getElem?_cons_zero, r0, r1, r2, r3, r4, r5, r6, r7, r8, r9, r10]
        clear r0 r1 r2 r3 r4 r5 r6 r7 r8 r9 r10
        obtain ⟨b', u, fx, rb, cb, hx, hfx⟩ := r12
        rw [rb]
        have hd : ∀ g ∈ fx, g ∉ fp := fun g hg hm => by have := hfx g hg; have := ho.lt g hm; omega
        replace ho := ho.ext hC
        replace hE := hE.tr hC
        replace f1 : w1.frozen? ⟨w.heap.size + 1, 1, none⟩ = false := by rw [hC.frozen (lt_of_cell c1)]; exact f1
        replace f2 : w1.frozen? ⟨w.heap.size, 0, none⟩ = false := by rw [hC.frozen (lt_of_cell d0)]; exact f2
        replace f3 : w1.frozen? ⟨w.heap.size, 1, none⟩ = false := by rw [hC.frozen (lt_of_cell d1)]; exact f3
        replace c0 := hC.cell c0
        replace c1 := hC.cell c1
        replace d0 := hC.cell d0
        replace d1 := hC.cell d1
        have q2 := hE.size
        have q3 : w.heap.size + 1 < w1.heap.size := lt_of_cell c0
        obtain ⟨cs, hrow, hin, hpush⟩ := OwnL.row eI_ok ho
        have hrow2 := own_base (base' := w.heap.size + 2) hrow fun g hg => hfp g (hin g hg)
        refine wpList_append_own_at _ rfl _ _ 22 rfl (w.heap.size + 2) 34 i0 (.slice none 0 0) 1 24 Try.underlying22 hi hz0 hz1 hz2 rfl (by decide) _ _ _ rfl hrow2 ⟨b', 0, none⟩ 1 1 [u] rfl rfl (cells_one cb) (by obtain ⟨xa, xc, rfl⟩ := hx.form; simp [Value.oneCell']) (by unfold maxLen; omega) (by omega) (by omega) ?_
        intro v' w4 ho4 hg4 _ hat
        obtain ⟨fp', hL, hfp'⟩ := hpush ⟨u, rfl, hx⟩ rfl hd ho4 hg4 hat
        rw [← HD.out] at hL
        have hf4 : ∀ g ∈ fp', w.heap.size + 2 ≤ g := fun g hg => by
          rcases hfp' g hg with h | h | h
          · exact hfp g h
          · have := hfx g h
            omega
          · rw [h]
            omega
        have hE4 := hE.grown hg4 (by omega) (fun g hg => by have := hfp g (hin g hg); omega)
        obtain ⟨wa, wc, rfl⟩ := hL.form
        have n0 : some (w.heap.size + 1) ≠ Value.ownBlock (.slice va ((allC s m (fun k => hs.getD k false)) k).length vc) := fun h => by have := hfp _ (hin _ h.symm); omega
        have n1 : some w.heap.size ≠ Value.ownBlock (.slice va ((allC s m (fun k => hs.getD k false)) k).length vc) := fun h => by have := hfp _ (hin _ h.symm); omega
        replace c0 := hg4.cell c0 n0
        replace c1 := hg4.cell c1 n0
        replace d0 := hg4.cell d0 n1
        replace d1 := hg4.cell d1 n1
        replace f1 : w4.frozen? ⟨w.heap.size + 1, 1, none⟩ = false := by rw [grown_frozen hg4 (by dsimp only; omega) n0]; exact f1
        replace f2 : w4.frozen? ⟨w.heap.size, 0, none⟩ = false := by rw [grown_frozen hg4 (by dsimp only; omega) n1]; exact f2
        replace f3 : w4.frozen? ⟨w.heap.size, 1, none⟩ = false := by rw [grown_frozen hg4 (by dsimp only; omega) n1]; exact f3
        clear ho hE hg4 hrow hrow2 hpush ho4 n0 n1 hx q0 q1 hC
        go_wp2_with fail
        go_roundw
        case rel =>
          exact ⟨k + 1, _, fp', by omega, by go_num, hE4.setCell (by simp) _, OII.set hL (fun hm => by have := hf4 _ hm; dsimp only at this; omega) _, hf4,
            cell_set c0 (by simp), cell_same c1, by simpa using f1, cell_set d0 (by simp), cell_set d1 (by simp), by simpa using f2, by simpa using f3⟩
        case measure => simp [intOf]; omega
    · have hkk : k = count s m := by omega
      subst hkk
      go_wp2_with fail
      have b1 : (⟨w.heap.size, 0, none⟩ : Addr).block ∉ fp := fun hm => by have := hfp _ hm; dsimp only at this; omega
      have ho3 := OII.set (OII.set ho (p := ⟨w.heap.size, 0, none⟩) b1 (.int .i64 m)) (p := ⟨w.heap.size, 1, none⟩) b1 (.slice va (allC s m (fun k => hs.getD k false) (count s m)).length vc)
      exact bodyPost_ret (v := .agg #[.int .i64 m, .slice va (allC s m (fun k => hs.getD k false) (count s m)).length vc]) (by simp [results, Try.results64, go_sem, d0, d1]) rfl
        ⟨_, fp, rfl, (hE.setCell (by simp) _).setCell (by simp) _, ⟨_, rfl, ho3⟩, fun h hh => by have := hfp h hh; omega⟩
end Go.Proofs.Ytefnmfdmnoednaa
