/- A relation drawn from a source: some relation of the size and the arity. A function value asked of the lists of a list. -/
import Derived.Test.YtajkepdfemdagaaGreatDoorC14
import Derived.Test.YtajkepdfemdagaaGreatDoorC12
import Derived.Test.YtajkepdfemdagaaGreatDoorC08
import Derived.Test.YtajkepdfemdagaaGreatDoorC06
import Derived.Test.YtajkepdfemdagaaGreatDoorC03
import Derived.Test.YtajkepdfemdagaaGreatDoorC05
namespace Go.Proofs.YtajkepdfemdagaaGreatDoor
open Go.RowKit
set_option linter.unusedVariables false

def drawnL (s m : Int) (q : Nat → Bool) (n : Nat) : List (List Int) := ((List.range n).filter q).map fun k : Nat => digs s m.toNat k
theorem drawnL_zero (s m : Int) (q : Nat → Bool) : drawnL s m q 0 = [] := rfl
theorem drawnL_step (s m : Int) (q : Nat → Bool) (n : Nat) (b : Bool) : drawnL s m (fun k => if k = n then b else q k) (n + 1) = drawnL s m q n ++ (if b then [digs s m.toNat n] else []) := by
  unfold drawnL
  rw [List.range_succ, List.filter_append, List.map_append]
  congr 1
  · congr 1
    refine List.filter_congr fun k hk => ?_
    have := List.mem_range.1 hk
    rw [if_neg (by omega)]
  · cases b <;> simp
theorem drawnL_length (s m : Int) (q : Nat → Bool) (n : Nat) : (drawnL s m q n).length ≤ n := by
  unfold drawnL
  rw [List.length_map]
  exact Nat.le_trans (List.length_filter_le _ _) (by simp)
theorem drawn_rel {s m : Int} (hs : 1 ≤ s) (hs2 : s ≤ 4) (hm : 1 ≤ m) (hm2 : m ≤ 4) (q : Nat → Bool) : (m, drawnL s m q (count s m)) = SrelOf s m fun t => q (code s t).toNat := by
  unfold SrelOf allD drawnL
  congr 1
  rw [List.filter_map]
  congr 1
  refine List.filter_congr fun k hk => ?_
  have := List.mem_range.1 hk
  show q k = q (code s (digs s m.toNat k)).toNat
  rw [code_digs' hs hs2 hm hm2 this, Int.toNat_natCast]
theorem Acc.offg {w wr w' : World} {D C B : Nat} {m : Int} {L : List (List Int)} {tv : Value} {fp : List Nat} {g : Nat} (h : Acc w wr D C B m L tv fp) (hO : Off [g] wr w') (hg : w.heap.size ≤ g) (hg2 : g < D) : Acc w w' D C B m L tv fp := by
  have q1 := h.hC
  have q2 := h.hD
  exact ⟨Below.trans h.hE (hO.below h.hE.size fun k hk => by rw [List.mem_singleton] at hk; omega), OII.off h.ho hO fun k hk hm => by have := h.hfp k hk; rw [List.mem_singleton] at hm; omega, h.hfp, Nat.le_trans h.hB hO.size, h.hC, h.hD, h.hw,
    hO.cell h.c0 (by simp; omega), hO.cell h.c1 (by simp; omega), (hO.frz (lt_of_cell h.c1) (by simp; omega)).trans h.f1, hO.cell h.d0 (by simp; omega), hO.cell h.d1 (by simp; omega), (hO.frz (lt_of_cell h.d0) (by simp; omega)).trans h.f2, (hO.frz (lt_of_cell h.d1) (by simp; omega)).trans h.f3⟩

/-- the append, one list at its end; what lies below the gathered relation stays -/
theorem Acc.append2 {w w1 : World} {D C B : Nat} {m : Int} {L : List (List Int)} {tv : Value} {fp : List Nat} {x : List Int} {u : Value} {fx : List Nat} {ops : Array Oper} {rest : List Oper} {o : Oper} {a : Act} {Q : Exit → Act → World → Prop}
    (h : Acc w w1 D C B m L tv fp) (hx : OI w1 u x fx) (hfx : ∀ g ∈ fx, B ≤ g) (hd : ∀ g ∈ fx, g ∉ fp) (hlen : L.length ≤ 1048576) {b' : Nat} (cb : w1.cell? ⟨b', 0, none⟩ = some u)
    (hgd : o.guard = none) (s y : Operand) (ho : o.op = .call { callee := .builtin .append, args := #[s, y], argTypes := #[33, 33] }) (hs : a.eval s = tv) (hy : a.eval y = .slice (some ⟨b', 0, none⟩) 1 1)
    (hk : ∀ v' w4 fp', w4.cell? ⟨C, 1, none⟩ = some tv → w4.frozen? ⟨C, 1, none⟩ = false → Acc w (w4.setCell ⟨C, 1, none⟩ v') D C B m (L ++ [x]) v' fp' → (∀ G, G ≤ C → Below G w1 (w4.setCell ⟨C, 1, none⟩ v')) → (∃ xa xc, v' = .slice xa (L.length + 1) xc) → wpList Tryz.prog ops Q rest (a.put o.dst v') w4) :
    wpList Tryz.prog ops Q (o :: rest) a w1 := by
  obtain ⟨i0, hi, hz0, hz1, hz2⟩ := info_parts infoIS'
  obtain ⟨cs, hrow, hin, hpush⟩ := OwnL.row eI_ok h.ho
  have hrow2 := own_base (base' := B) hrow fun g hg => h.hfp g (hin g hg)
  refine wpList_append_own_at _ hgd s y 33 ho B 37 i0 (.slice none 0 0) 1 24 Tryz.underlying33 hi hz0 hz1 hz2 rfl (by decide) tv _ _ hs hrow2 ⟨b', 0, none⟩ 1 1 [u] hy rfl (cells_one cb) (by obtain ⟨xa, xc, rfl⟩ := hx.form; simp [Value.oneCell']) (by unfold maxLen; omega) (by omega) h.hB ?_
  intro v' w4 ho4 hg4 _ hat
  obtain ⟨k1, k2, kb, fp', k3⟩ := h.push hx hfx hd hrow hin hpush ho4 hg4 hat
  obtain ⟨xa, xc, hxf⟩ := k3.ho.form
  have q1 := h.hC
  have q2 := h.hB
  exact hk v' w4 fp' k1 k2 k3 (fun G hG => ((Below.refl G w1).grown hg4 (by omega) (fun g hg => by have := h.hfp g (hin g hg); omega)).setCell (by dsimp only; omega) _) ⟨xa, xc, by rw [hxf, List.length_append]; rfl⟩

theorem Off.behind {fp : List Nat} {a b c : World} (h : Off fp a b) (k : Below a.heap.size b c) : Off fp a c :=
  ⟨k.os.trans h.os, k.tape.trans h.tape, k.output.trans h.output, Nat.le_trans h.size k.size, fun i hi hn => (k.block i hi).trans (h.block i hi hn)⟩
/-- what a function leaves that draws a relation and may be called again: the source lives on, all else stays -/
def DrawnK (s m : Int) (g : Nat) (k0 : Int) (w0 w : World) (e : Ending) (w' : World) : Prop :=
  ∃ u p fp k, e = .returned u ∧ Ext w0 w' ∧ OwnRel w' u (SrelOf s m p) fp ∧ (∀ h ∈ fp, w.heap.size ≤ h) ∧ Off [g] w w' ∧ Src w' g k ∧ 0 ≤ k ∧ k ≤ k0 + 600
/-- what a function leaves that draws a relation -/
def DrawnRes (s m : Int) (w0 : World) (e : Ending) (w' : World) : Prop :=
  ∃ u p fp, e = .returned u ∧ Ext w0 w' ∧ OwnRel w' u (SrelOf s m p) fp ∧ ∀ h ∈ fp, w0.heap.size ≤ h

set_option maxHeartbeats 8000000 in
set_option maxRecDepth 100000 in
theorem l01DrawnK_any (w0 : World) (g : Nat) (k0 s m : Int) (w : World) (hE0 : Ext w0 w) (hg : w0.heap.size ≤ g) (hS : Src w g k0) (hk0 : 0 ≤ k0) (hk1 : k0 ≤ 100000) (hs : 1 ≤ s) (hs2 : s ≤ 4) (hm : 1 ≤ m) (hm2 : m ≤ 4) :
    Calls Tryz.prog 54 #[.pointer (some ⟨g, 0, none⟩), .int .i64 s, .int .i64 m] w (DrawnK s m g k0 w0 w) := by
  have HN := Lib.hid (count_eq s m hs hs2 hm hm2)
  have hN3 : count s m ≤ 256 := by have := HN.out; have := powW_small s m hs hs2 hm hm2; omega
  have hgw := hS.lt
  have hA1 : Ext w ((w.alloc (.cells #[.int .i64 0, .slice none 0 0] 35)).alloc (.cells #[.int .i64 m, .slice none 0 0] 35)) := ((Ext.refl' w).alloc (Nat.le_refl _) _).alloc (by simp) _
  have hA : Acc w0 ((w.alloc (.cells #[.int .i64 0, .slice none 0 0] 35)).alloc (.cells #[.int .i64 m, .slice none 0 0] 35)) w.heap.size (w.heap.size + 1) (w.heap.size + 1 + 1) m [] (.slice none 0 0) [] :=
    ⟨hE0.tr hA1, OII_nil _, by simp, by simp, by omega, by omega, hE0.size, by simp [go_sem], by simp [go_sem], by simp [go_sem], by simp [go_sem], by simp [go_sem], by simp [go_sem], by simp [go_sem]⟩
  have hS1 : Src ((w.alloc (.cells #[.int .i64 0, .slice none 0 0] 35)).alloc (.cells #[.int .i64 m, .slice none 0 0] 35)) g k0 := hS.below (hA1.mono (by omega))
  have hOf : Off [g] w ((w.alloc (.cells #[.int .i64 0, .slice none 0 0] 35)).alloc (.cells #[.int .i64 m, .slice none 0 0] 35)) := .of_ext hA1
  go_enter Tryz.func54, Tryz.ntmps54
  go_wp2_with fail
  refine (pick_any g k0 5 _ hS1 hk0 (by omega) (by omega) (by omega)).mono ?_
  rintro e w1 ⟨often, k1, o0, o1, k2, k3, rfl, hO, hS2⟩
  replace hA := hA.offg hO hg hgw
  replace hOf := hOf.trans hO
  clear hS1 hS hA1
  go_wp2_with fail
  refine (l01Power_any _ _ _ (by omega) (by omega)).mono ?_
  rintro e w2 ⟨rfl, rfl⟩
  rw [← HN.out]
  go_wp2_with fail
  go_loopw [10] (fun i wr => ∃ (j : Nat) (k : Int) (q : Nat → Bool) (tv : Value) (fp : List Nat), j ≤ count s m ∧ i = .int .i64 (j : Nat) ∧ Acc w0 wr w.heap.size (w.heap.size + 1) (w.heap.size + 1 + 1) m (drawnL s m q j) tv fp ∧ Src wr g k ∧ 0 ≤ k ∧ k ≤ k0 + 1 + 2 * j ∧ Off [g] w wr) (fun i _ => count s m - (intOf i).toNat)
  case atStart => exact ⟨0, k1, fun _ => false, _, _, by omega, rfl, hA, hS2, by omega, by omega, hOf⟩
  case round =>
    clear hOf
    obtain ⟨j, k, q, tv, fp, hj, rfl, hA, hS3, h0, h1, hOf⟩ := hrel
    obtain ⟨xa, xc, rfl⟩ := hA.ho.form
    by_cases hjl : j < count s m
    · have HSt := Lib.hid (drawnL_step s m q j)
      have hdl := drawnL_length s m q j
      have hdg := fun w => l01Digits_any s m j w (by omega) (by omega) hs (by omega) (by omega) (by omega)
      generalize drawnL s m q j = L at hA HSt hdl
      go_wp2_with fail
      refine (pick_any g k 5 _ hS3 h0 (by omega) (by omega) (by omega)).mono ?_
      rintro e w3 ⟨x, k4, x0, x1, k5, k6, rfl, hO, hS4⟩
      replace hA := hA.offg hO hg hgw
      replace hOf := hOf.trans hO
      clear hS3 hO
      have hgl := hS4.lt
      by_cases hxo : x ≤ often
      · skip
        go_wp2_with fail
        have a0 := hA.c0
        have a1 := hA.c1
        have hfp1 := hA.ho.lt
        have hqB := hA.hB
        have HQ := Lib.hid (HSt.out true)
        go_wp2_with fail
        refine region_sp [] [7, 8, 9] [SP.val (.pointer (some ⟨(w.heap.size + 1), 1, none⟩)), SP.val (.slice xa L.length xc), SP.val (.int .i64 s), SP.val (.int .i64 m), SP.val (.int .i64 (j : Nat)), SP.ownIb w3.heap.size (digs s m.toNat j), SP.rowIb w3.heap.size (digs s m.toNat j), SP.any, SP.any, SP.any] (by kernel_rfl) (fun _ d _ _ _ h => by cases d <;> exact h) (by kernel_rfl) (by kernel_rfl)
          (.cons (fun vs y hY => Step.fieldAddr ⟨(w.heap.size + 1), 0, none⟩ rfl rfl rfl (by simp [go_sem]) rfl) <|
           .cons (fun vs y hY g0_0 => Step.load ⟨(w.heap.size + 1), 1, none⟩ rfl rfl g0_0 (by simp [go_sem, hY.cell a1]) rfl) <|
           .cons (fun vs y hY => Step.move rfl rfl rfl rfl) <|
           .cons (fun vs y hY => Step.move rfl rfl rfl rfl) <|
           .cons (fun vs y hY => Step.move rfl rfl rfl rfl) <|
           .cons (fun vs y hY g2_0 g3_1 g4_2 => Step.call Tryz.call90 rfl rfl [vs 2, vs 3, vs 4] rfl rfl (by rw [show vs 2 = _ from g2_0, show vs 3 = _ from g3_1, show vs 4 = _ from g4_2]; exact ((hdg _).mono fun _ _ ⟨u, fp, he, hE, ho, hg⟩ => ⟨u, he, hE, fp, ho, fun g h => Nat.le_trans hY.size (hg g h)⟩))) <|
           .cons (fun vs y hY g5_0 => Step.rowIb (e := 37) rfl rfl g5_0 (by simp [go_sem])) <|
           .skip rfl <|
           .skip rfl <|
           .skip rfl <|
           .nil) ?_
        intro vs w6 hC hL
        have r0 : vs 0 = _ := hL 0 (by decide) rfl
        have r1 : vs 1 = _ := hL 1 (by decide) rfl
        have r2 : vs 2 = _ := hL 2 (by decide) rfl
        have r3 : vs 3 = _ := hL 3 (by decide) rfl
        have r4 : vs 4 = _ := hL 4 (by decide) rfl
        have r5 := hL 5 (by decide) rfl
        have r6 := hL 6 (by decide) rfl
        clear hL
        simp only [putAll, Act.put, List.contains_cons, List.contains_nil, Nat.reduceBEq, Nat.reduceAdd, Bool.or_false, Bool.or_true, cond_true, cond_false, List.setIfInBounds_toArray, List.set_cons_succ, List.set_cons_zero, List.filterMap_cons, List.filterMap_nil, List.getElem?_cons_succ, List.getElem?_cons_zero, r0, r1, r2, r3, r4]
        clear r0 r1 r2 r3 r4
        obtain ⟨b', u, fx, r6, y0, hx, hfx⟩ := r6
        refine Acc.append2 (hA.ext hC) hx (fun g hg => by have := hfx g hg; omega) (fun g hg hm => by have := hfx g hg; have := hfp1 g hm; omega) (by omega) y0 rfl (.tmp 32) (.tmp 37) rfl rfl r6 ?_
        rintro v' w7 fp' k7 k8 hA4 hBel ⟨xa', xc', rfl⟩
        have hOf7 : Off [g] w (w7.setCell ⟨w.heap.size + 1, 1, none⟩ (.slice xa' (L.length + 1) xc')) := (hOf.behind (hC.mono (by omega))).behind (hBel w.heap.size (by omega))
        have hS7 := (hS4.below (hC.mono (by omega))).below (hBel (g + 1) (by omega))
        rw [show L ++ [digs s m.toNat j] = drawnL s m (fun k => if k = j then true else q k) (j + 1) from HQ.out.symm] at hA4
        clear HQ HSt hBel
        go_wp2_with fail
        go_roundw
        case rel => exact ⟨j + 1, k4, _, _, fp', by omega, by go_num, hA4, hS7, by omega, by omega, hOf7⟩
        case measure => simp [intOf]; omega
      · go_wp2_with fail
        refine (one_any g k4 8 _ hS4 (by omega) (by omega) (by omega) (by omega)).mono ?_
        rintro e w4 ⟨bo, k5', k6', k7', rfl, hO, hS5⟩
        replace hA := hA.offg hO hg hgw
        replace hOf := hOf.trans hO
        have hg5 := hS5.lt
        cases bo with
        | true =>
          go_wp2_with fail
          have a0 := hA.c0
          have a1 := hA.c1
          have hfp1 := hA.ho.lt
          have hqB := hA.hB
          have HQ := Lib.hid (HSt.out true)
          go_wp2_with fail
          refine region_sp [] [7, 8, 9] [SP.val (.pointer (some ⟨(w.heap.size + 1), 1, none⟩)), SP.val (.slice xa L.length xc), SP.val (.int .i64 s), SP.val (.int .i64 m), SP.val (.int .i64 (j : Nat)), SP.ownIb w4.heap.size (digs s m.toNat j), SP.rowIb w4.heap.size (digs s m.toNat j), SP.any, SP.any, SP.any] (by kernel_rfl) (fun _ d _ _ _ h => by cases d <;> exact h) (by kernel_rfl) (by kernel_rfl)
            (.cons (fun vs y hY => Step.fieldAddr ⟨(w.heap.size + 1), 0, none⟩ rfl rfl rfl (by simp [go_sem]) rfl) <|
             .cons (fun vs y hY g0_0 => Step.load ⟨(w.heap.size + 1), 1, none⟩ rfl rfl g0_0 (by simp [go_sem, hY.cell a1]) rfl) <|
             .cons (fun vs y hY => Step.move rfl rfl rfl rfl) <|
             .cons (fun vs y hY => Step.move rfl rfl rfl rfl) <|
             .cons (fun vs y hY => Step.move rfl rfl rfl rfl) <|
             .cons (fun vs y hY g2_0 g3_1 g4_2 => Step.call Tryz.call90 rfl rfl [vs 2, vs 3, vs 4] rfl rfl (by rw [show vs 2 = _ from g2_0, show vs 3 = _ from g3_1, show vs 4 = _ from g4_2]; exact ((hdg _).mono fun _ _ ⟨u, fp, he, hE, ho, hg⟩ => ⟨u, he, hE, fp, ho, fun g h => Nat.le_trans hY.size (hg g h)⟩))) <|
             .cons (fun vs y hY g5_0 => Step.rowIb (e := 37) rfl rfl g5_0 (by simp [go_sem])) <|
             .skip rfl <|
             .skip rfl <|
             .skip rfl <|
             .nil) ?_
          intro vs w6 hC hL
          have r0 : vs 0 = _ := hL 0 (by decide) rfl
          have r1 : vs 1 = _ := hL 1 (by decide) rfl
          have r2 : vs 2 = _ := hL 2 (by decide) rfl
          have r3 : vs 3 = _ := hL 3 (by decide) rfl
          have r4 : vs 4 = _ := hL 4 (by decide) rfl
          have r5 := hL 5 (by decide) rfl
          have r6 := hL 6 (by decide) rfl
          clear hL
          simp only [putAll, Act.put, List.contains_cons, List.contains_nil, Nat.reduceBEq, Nat.reduceAdd, Bool.or_false, Bool.or_true, cond_true, cond_false, List.setIfInBounds_toArray, List.set_cons_succ, List.set_cons_zero, List.filterMap_cons, List.filterMap_nil, List.getElem?_cons_succ, List.getElem?_cons_zero, r0, r1, r2, r3, r4]
          clear r0 r1 r2 r3 r4
          obtain ⟨b', u, fx, r6, y0, hx, hfx⟩ := r6
          refine Acc.append2 (hA.ext hC) hx (fun g hg => by have := hfx g hg; omega) (fun g hg hm => by have := hfx g hg; have := hfp1 g hm; omega) (by omega) y0 rfl (.tmp 32) (.tmp 37) rfl rfl r6 ?_
          rintro v' w7 fp' k7 k8 hA4 hBel ⟨xa', xc', rfl⟩
          have hOf7 : Off [g] w (w7.setCell ⟨w.heap.size + 1, 1, none⟩ (.slice xa' (L.length + 1) xc')) := (hOf.behind (hC.mono (by omega))).behind (hBel w.heap.size (by omega))
          have hS7 := (hS5.below (hC.mono (by omega))).below (hBel (g + 1) (by omega))
          rw [show L ++ [digs s m.toNat j] = drawnL s m (fun k => if k = j then true else q k) (j + 1) from HQ.out.symm] at hA4
          clear HQ HSt hBel
          go_wp2_with fail
          go_roundw
          case rel => exact ⟨j + 1, k5', _, _, fp', by omega, by go_num, hA4, hS7, by omega, by omega, hOf7⟩
          case measure => simp [intOf]; omega
        | false =>
          have HQ := Lib.hid (HSt.out false)
          rw [show L = drawnL s m (fun k => if k = j then false else q k) (j + 1) from by rw [HQ.out]; simp] at hA
          clear HQ HSt
          go_wp2_with fail
          go_roundw
          case rel => exact ⟨j + 1, k5', _, _, fp, by omega, by go_num, hA, hS5, by omega, by omega, hOf⟩
          case measure => simp [intOf]; omega
    · have HR := Lib.hid (show (m, drawnL s m q j) = SrelOf s m fun t => q (code s t).toNat from by rw [show j = count s m by omega]; exact drawn_rel hs hs2 hm hm2 q)
      have hdone := hA.done
      have hfpB := hA.hfp
      have c0 := hA.c0
      have c1 := hA.c1
      have d0 := hA.d0
      have d1 := hA.d1
      have f2 := hA.f2
      have f3 := hA.f3
      clear hA
      go_wp2_with fail
      obtain ⟨g1, g2, g3⟩ := hdone (.int .i64 m) (.slice xa (drawnL s m q j).length xc)
      exact bodyPost_ret (v := .agg #[.int .i64 m, .slice xa (drawnL s m q j).length xc]) (by simp [results, Tryz.results54, go_sem, d0, d1]) rfl ⟨_, _, fp, k, rfl, g1, by rw [← HR.out]; exact g2, fun h hh => by have := hfpB h hh; omega, (hOf.behind ((Below.refl _ _).setCell (by simp) _)).behind ((Below.refl _ _).setCell (by simp) _), (hS3.below ((Below.refl _ _).setCell (by simp; omega) _)).below ((Below.refl _ _).setCell (by simp; omega) _), h0, by omega⟩
theorem l01Drawn_any (w0 : World) (g : Nat) (k0 s m : Int) (w : World) (hE0 : Ext w0 w) (hg : w0.heap.size ≤ g) (hS : Src w g k0) (hk0 : 0 ≤ k0) (hk1 : k0 ≤ 1000) (hs : 1 ≤ s) (hs2 : s ≤ 4) (hm : 1 ≤ m) (hm2 : m ≤ 4) :
    Calls Tryz.prog 54 #[.pointer (some ⟨g, 0, none⟩), .int .i64 s, .int .i64 m] w (DrawnRes s m w0) :=
  (l01DrawnK_any w0 g k0 s m w hE0 hg hS hk0 (by omega) hs hs2 hm hm2).mono fun _ _ ⟨u, p, fp, _, h1, h2, h3, h4, _⟩ => ⟨u, p, fp, h1, h2, h3, fun h hh => Nat.le_trans hE0.size (h4 h hh)⟩
set_option maxHeartbeats 2000000 in
set_option maxRecDepth 100000 in
theorem p6Rel_any (v : Value) (s m : Int) (w : World) (h : RdB w v) (hs : 1 ≤ s) (hs2 : s ≤ 4) (hm : 1 ≤ m) (hm2 : m ≤ 4) :
    Calls Tryz.prog 13 #[v, .int .i64 s, .int .i64 m] w (DrawnRes s m w) := by
  have h0 := h
  obtain ⟨a, b, off, n, c, rfl, -⟩ := h0
  have hE1 : Ext w (w.alloc (.cells #[.int .i64 0, .slice none 0 0] 35)) := (Ext.refl' w).alloc (Nat.le_refl _) _
  go_enter Tryz.func13, Tryz.ntmps13
  go_wp2_with fail
  refine (from_any _ _ (h.ext hE1)).mono ?_
  rintro e w1 ⟨rfl, hE, hz, hS⟩
  have d0 := hE.cell (p := ⟨w.heap.size, 0, none⟩) (v := .int .i64 0) (by simp [go_sem])
  have d1 := hE.cell (p := ⟨w.heap.size, 1, none⟩) (v := .slice none 0 0) (by simp [go_sem])
  have f2 := hE.frozen (p := ⟨w.heap.size, 0, none⟩) (by simp)
  have f3 := hE.frozen (p := ⟨w.heap.size, 1, none⟩) (by simp)
  simp [go_sem] at f2 f3
  simp only [World.size_alloc] at hS hz ⊢
  go_wp2_with fail
  refine (l01Drawn_any _ _ 0 s m _ hE (by simp) hS (by omega) (by omega) hs hs2 hm hm2).mono ?_
  rintro e w2 ⟨u, p, fp, rfl, hE2, hr, hfp⟩
  clear d0 d1 f2 f3 hE
  have hE := hE2
  have d0 := hE.cell (p := ⟨w.heap.size, 0, none⟩) (v := .int .i64 0) (by simp [go_sem])
  have d1 := hE.cell (p := ⟨w.heap.size, 1, none⟩) (v := .slice none 0 0) (by simp [go_sem])
  have f2 := hE.frozen (p := ⟨w.heap.size, 0, none⟩) (by simp)
  have f3 := hE.frozen (p := ⟨w.heap.size, 1, none⟩) (by simp)
  simp [go_sem] at f2 f3
  obtain ⟨ua, uc, rfl⟩ := hr.form
  simp only [World.size_alloc] at hfp
  go_wp2_with fail
  exact bodyPost_ret (v := .agg #[.int .i64 (SrelOf s m p).1, .slice ua (SrelOf s m p).2.length uc]) (by simp [results, Tryz.results13, go_sem, d0, d1]) rfl
    ⟨_, p, fp, rfl, ((hE1.tr hE).setCell (by simp <;> omega) _).setCell (by simp <;> omega) _, hr.off ((Off.set (fp := [w.heap.size]) (by simp)).trans (Off.set (by simp))) (fun h hh hm => by have := hfp h hh; simp at hm; omega), fun h hh => by have := hfp h hh; omega⟩
end Go.Proofs.YtajkepdfemdagaaGreatDoor
namespace Go.Proofs.YtajkepdfemdagaaGreatDoor
open Go.RowKit
set_option linter.unusedVariables false

set_option maxHeartbeats 400000 in
theorem indexFuncII_any (p : List Int → Bool) (l : List (List Int)) (v : Value) (f : FuncId) (first cap : Array Value) (w : World) (hr : RdII w v l)
    (hcall : ∀ xs w, (callFunc f xs).run Tryz.prog w = .ok (.enter f xs) w)
    (hf : ∀ a ∈ l, ∀ va w', Ext w w' → RdI w' va a → Calls Tryz.prog f (first ++ #[va] ++ cap) w' fun e w'' => e = .returned (.bool (p a)) ∧ Ext w' w'') :
    Calls Tryz.prog 115 #[v, .func (.func f) first cap] w fun e w' => e = .returned (.int .i64 (idx p l)) ∧ Ext w w' := by
  obtain ⟨a, b, off, c, vs, rfl, hlc, hcm, ha, hc⟩ := hr
  have HF := Lib.hid hf
  clear hf
  go_enter Tryz.func115, Tryz.ntmps115
  go_wp2_with fail
  go_loopw [8] (fun i wr => ∃ k : Nat, k ≤ l.length ∧ i = .int .i64 k ∧ Ext w wr ∧ (l.take k).any p = false) (fun i _ => l.length - (intOf i).toNat)
  case atStart => exact ⟨0, by omega, rfl, Ext.refl' _, rfl⟩
  case round =>
    obtain ⟨k, hk, rfl, hE, ht⟩ := hrel
    have HT := Lib.hid ht
    clear ht
    by_cases hkl : k < l.length
    · obtain rfl := ha (by omega)
      obtain ⟨k1, k2⟩ := hc k hkl
      have hck := hE.cell k1
      have hcc := HF.out l[k] (List.getElem_mem hkl) _ wr hE (k2.ext hE)
      generalize vs k = y at k1 k2 hck hcc
      go_wp2_with fail
      cases hp : p l[k] with
      | true =>
        rw [hp] at hcc
        refine (by simpa using hcc : Calls _ _ _ _ _).mono ?_
        rintro e w2 ⟨rfl, hE2⟩
        have HI := Lib.hid (idx_here p l k hkl HT.out hp)
        clear hp
        go_wp2_with fail
        go_ret
        exact ⟨ret_int HI.out.symm, hE.tr hE2⟩
      | false =>
        rw [hp] at hcc
        refine (by simpa using hcc : Calls _ _ _ _ _).mono ?_
        rintro e w2 ⟨rfl, hE2⟩
        have HI := Lib.hid (show (l.take (k + 1)).any p = false from by rw [any_take_succ p l k hkl, HT.out, hp]; rfl)
        clear hp
        have hE3 := hE.tr hE2
        go_wp2_with fail
        go_roundw
        case rel => exact ⟨k + 1, by omega, by go_num, hE3, HI.out⟩
        case measure => simp [intOf]; omega
    · have HI := Lib.hid (idx_none p l (by have := HT.out; rwa [show k = l.length by omega, List.take_length] at this))
      go_wp2_with fail
      go_ret
      exact ⟨ret_int HI.out.symm, hE⟩
set_option maxHeartbeats 400000 in
theorem containsFuncII_any (p : List Int → Bool) (l : List (List Int)) (v : Value) (f : FuncId) (first cap : Array Value) (w : World) (hr : RdII w v l)
    (hcall : ∀ xs w, (callFunc f xs).run Tryz.prog w = .ok (.enter f xs) w)
    (hf : ∀ a ∈ l, ∀ va w', Ext w w' → RdI w' va a → Calls Tryz.prog f (first ++ #[va] ++ cap) w' fun e w'' => e = .returned (.bool (p a)) ∧ Ext w' w'') :
    Calls Tryz.prog 69 #[v, .func (.func f) first cap] w fun e w' => e = .returned (.bool (l.any p)) ∧ Ext w w' := by
  have HC := Lib.hid (idx_any p l)
  have HF := Lib.hid hf
  clear hf
  go_enter Tryz.func69, Tryz.ntmps69
  go_wp2_with (go_at_call 115; refine (indexFuncII_any p l _ _ _ _ _ hr hcall HF.out).mono ?_; rintro e w' ⟨rfl, hE⟩)
  go_ret
  exact ⟨ret_bool HC.out, hE⟩

end Go.Proofs.YtajkepdfemdagaaGreatDoor
