
/- The operation that gives each list a value: the program's opOf, with what its function value says of each list. -/
import Derived.Test.YtefnmfdmnoednaaOpT
import Derived.Test.YtefnmfdmnoednaaDigs
import Derived.Test.YtefnmfdmnoednaaCount
namespace Go.Proofs.Ytefnmfdmnoednaa
open Go.RowKit
set_option linter.unusedVariables false

/-- how many lists there are, and the operation of a function of lists -/
def tableOf (s m : Int) (g : List Int → Int) (n : Nat) : List Int := (List.range n).map fun k : Nat => g (digs s m.toNat k)
theorem tableOf_length (s m : Int) (g : List Int → Int) (n : Nat) : (tableOf s m g n).length = n := by simp [tableOf]
theorem tableOf_succ (s m : Int) (g : List Int → Int) (n : Nat) : tableOf s m g (n + 1) = tableOf s m g n ++ [g (digs s m.toNat n)] := by simp [tableOf, List.range_succ]
def SopOf (s m : Int) (g : List Int → Int) : Int × List Int := (m, tableOf s m g (count s m))

set_option maxHeartbeats 2000000 in
set_option maxRecDepth 100000 in
theorem opOf_any (s m : Int) (g : List Int → Int) (f : FuncId) (first cap : Array Value) (w : World) (hs : 1 ≤ s) (hs2 : s ≤ 4) (hm : 1 ≤ m) (hm2 : m ≤ 4)
    (hcall : ∀ xs w, (callFunc f xs).run Try.prog w = .ok (.enter f xs) w)
    (hf : ∀ (k : Nat) u w', k < count s m → Ext w w' → RdI w' u (digs s m.toNat k) → Calls Try.prog f (first ++ #[u] ++ cap) w' fun e w'' => e = .returned (.int .i64 (g (digs s m.toNat k))) ∧ Ext w' w'') :
    Calls Try.prog 174 #[.int .i64 s, .int .i64 m, .func (.func f) first cap] w fun e w' => ∃ u fp, e = .returned u ∧ Ext w w' ∧ OwnOp w' u (SopOf s m g) fp ∧ ∀ h ∈ fp, w.heap.size ≤ h := by
  obtain ⟨i0, hi, hz0, hz1, hz2⟩ := info_parts infoI
  have hN := count_eq s m hs hs2 hm hm2
  have hN2 := powW_small s m hs hs2 hm hm2
  have hN3 : count s m ≤ 256 := by omega
  have HN := Lib.hid hN
  have HF := Lib.hid hf
  clear hN hf
  go_enter Try.func174, Try.ntmps174
  go_wp2_with (go_at_call 91; refine (power_any _ _ _ (by omega)).mono ?_; rintro e w' ⟨rfl, rfl⟩)
  rw [← HN.out]
  go_loopw [14] (fun i wr => ∃ (k : Nat) (tv : Value), k ≤ count s m ∧ i = .int .i64 k ∧ Ext w wr ∧ wr.ownsRow (w.heap.size + 2) 2 1 tv k ((tableOf s m g k).map (Value.int .i64)) ∧
      wr.cell? ⟨w.heap.size + 1, 0, none⟩ = some (.int .i64 m) ∧ wr.cell? ⟨w.heap.size + 1, 1, none⟩ = some tv ∧ wr.frozen? ⟨w.heap.size + 1, 1, none⟩ = false ∧
      wr.cell? ⟨w.heap.size, 0, none⟩ = some (.int .i64 0) ∧ wr.cell? ⟨w.heap.size, 1, none⟩ = some (.slice none 0 0) ∧ wr.frozen? ⟨w.heap.size, 0, none⟩ = false ∧ wr.frozen? ⟨w.heap.size, 1, none⟩ = false)
    (fun i _ => count s m - (intOf i).toNat)
  case atStart =>
    refine ⟨0, .slice none 0 0, by omega, rfl, ((Ext.refl' w).alloc (Nat.le_refl _) _).alloc (by simp) _, World.ownsRow_nil _ _ _ _, ?_, ?_, ?_, ?_, ?_, ?_, ?_⟩ <;> simp [go_sem]
  case round =>
    obtain ⟨k, tv, hk, rfl, hE, ho, c0, c1, f1, d0, d1, f2, f3⟩ := hrel
    have q1 : w.heap.size + 1 < wr.heap.size := lt_of_cell c0
    by_cases hkl : k < count s m
    · skip
      go_wp2_with fail
      refine region_sp [] [9, 10, 11] [SP.val (.pointer (some ⟨(w.heap.size + 1), 1, none⟩)), SP.val (tv), SP.val (.func (.func f) first cap), SP.val (.int .i64 s), SP.val (.int .i64 m), SP.val (.int .i64 (k : Nat)), SP.ownI (digs s m.toNat k), SP.val (.int .i64 (g (digs s m.toNat k))), SP.row1 (.int .i64 (g (digs s m.toNat k))), SP.any, SP.any, SP.any] (by kernel_rfl) (fun _ d _ _ _ h => by cases d <;> exact h) (by kernel_rfl) (by kernel_rfl)
        (.cons (fun vs y hY => Step.fieldAddr ⟨(w.heap.size + 1), 0, none⟩ rfl rfl rfl (by simp [go_sem]) rfl) <|
         .cons (fun vs y hY g0_0 => Step.load ⟨(w.heap.size + 1), 1, none⟩ rfl rfl g0_0 (by simp [go_sem, hY.cell c1]) rfl) <|
         .cons (fun vs y hY => Step.move rfl rfl rfl rfl) <|
         .cons (fun vs y hY => Step.move rfl rfl rfl rfl) <|
         .cons (fun vs y hY => Step.move rfl rfl rfl rfl) <|
         .cons (fun vs y hY => Step.move rfl rfl rfl rfl) <|
         .cons (fun vs y hY g3_0 g4_1 g5_2 => Step.call Try.call92 rfl rfl [vs 3, vs 4, vs 5] rfl rfl (by rw [show vs 3 = _ from g3_0, show vs 4 = _ from g4_1, show vs 5 = _ from g5_2]; exact ((listOf_any _ _ _ _ (by omega) (by omega) hs (by omega) (by omega) (by omega)).mono fun _ _ ⟨u, fp, he, hE, ho, _⟩ => ⟨u, he, hE, fp, ho⟩))) <|
         .cons (fun vs y hY g2_0 g6_1 g6_2 => Step.callv hcall rfl rfl g2_0 [vs 6] rfl (Calls.spe (HF.out k _ _ hkl (hE.tr hY) (rdI_of_sp g6_1)))) <|
         .cons (fun vs y hY g7_0 => Step.buildSlice1 (x := .int .i64 (g (digs s m.toNat k))) (e := 2) rfl rfl g7_0 (by simp [go_sem]) row1_new) <|
         .skip rfl <|
         .skip rfl <|
         .skip rfl <|
         .nil) ?_
      intro vs w1 hC hL
      have r0 : vs 0 = _ := hL 0 (by decide) rfl
      have r1 : vs 1 = _ := hL 1 (by decide) rfl
      have r2 : vs 2 = _ := hL 2 (by decide) rfl
      have r3 : vs 3 = _ := hL 3 (by decide) rfl
      have r4 : vs 4 = _ := hL 4 (by decide) rfl
      have r5 : vs 5 = _ := hL 5 (by decide) rfl
      have r6 := hL 6 (by decide) rfl
      have r7 : vs 7 = _ := hL 7 (by decide) rfl
      have r8 := hL 8 (by decide) rfl
      clear hL
      simp only [putAll, Act.put, List.contains_cons, List.contains_nil, Nat.reduceBEq, Nat.reduceAdd, Bool.or_false, Bool.or_true, cond_true, cond_false, List.setIfInBounds_toArray, List.set_cons_succ, List.set_cons_zero, List.filterMap_cons, List.filterMap_nil, List.getElem?_cons_succ, List.getElem?_cons_zero, r0, r1, r2, r3, r4, r5, r7]
      clear r0 r1 r2 r3 r4 r5 r7
      obtain ⟨b, rb, cb⟩ := r8
      rw [rb]
      have ho := own_ext ho hC
      have hE := hE.tr hC
      have c0 := hC.cell c0
      have c1 := hC.cell c1
      have d0 := hC.cell d0
      have d1 := hC.cell d1
      have f1 : w1.frozen? ⟨w.heap.size + 1, 1, none⟩ = false := by rw [hC.frozen q1]; exact f1
      have f2 : w1.frozen? ⟨w.heap.size, 0, none⟩ = false := by rw [hC.frozen (by dsimp only; omega)]; exact f2
      have f3 : w1.frozen? ⟨w.heap.size, 1, none⟩ = false := by rw [hC.frozen (by dsimp only; omega)]; exact f3
      have q1 : w.heap.size + 1 < w1.heap.size := lt_of_cell c0
      refine wpList_append_own _ rfl _ _ 34 rfl (w.heap.size + 2) 2 i0 (.int .i64 0) 1 8 Try.underlying34 hi hz0 hz1 hz2 rfl (by decide) _ _ _ rfl ho ⟨b, 0, none⟩ 1 1 [.int .i64 (g (digs s m.toNat k))] rfl rfl (cells_one cb) (by simp [Value.oneCell']) (by unfold maxLen; omega) (by omega) (by omega) ?_
      intro v' w4 ho4 hg4 _
      change w1.grownBy w4 tv.ownBlock at hg4
      have hE4 := hE.grown hg4 (by omega) (fun k hk => by have := (ho.lt k hk).1; omega)
      obtain ⟨va, vb, vc, rfl, -⟩ := own_parts ho4
      have c0 := hg4.cell c0 (own_ne ho (by simp))
      have c1 := hg4.cell c1 (own_ne ho (by simp))
      have d0 := hg4.cell d0 (own_ne ho (by simp))
      have d1 := hg4.cell d1 (own_ne ho (by simp))
      have f1 : w4.frozen? ⟨w.heap.size + 1, 1, none⟩ = false := by rw [grown_frozen hg4 q1 (own_ne ho (by simp))]; exact f1
      have f2 : w4.frozen? ⟨w.heap.size, 0, none⟩ = false := by rw [grown_frozen hg4 (by dsimp only; omega) (own_ne ho (by simp))]; exact f2
      have f3 : w4.frozen? ⟨w.heap.size, 1, none⟩ = false := by rw [grown_frozen hg4 (by dsimp only; omega) (own_ne ho (by simp))]; exact f3
      have hT := Lib.hid (tableOf_succ s m g k)
      clear hC ho hE hg4 q1
      go_wp2_with fail
      go_roundw
      case rel =>
        exact ⟨k + 1, _, by omega, by go_num, hE4.setCell (by simp) _, own_set (by rw [hT.out, List.map_append]; exact ho4) (by simp) _,
          cell_set c0 (by simp), cell_same c1, by simpa using f1, cell_set d0 (by simp), cell_set d1 (by simp), by simpa using f2, by simpa using f3⟩
      case measure => simp [intOf]; omega
    · have hkk : k = count s m := by omega
      subst hkk
      obtain ⟨va, vb, vc, rfl, -⟩ := own_parts ho
      go_wp2_with fail
      have ho2 : wr.ownsRow (w.heap.size + 2) 2 1 (.slice va (count s m) vc) (tableOf s m g (count s m)).length ((tableOf s m g (count s m)).map (Value.int .i64)) := by rw [tableOf_length]; exact ho
      have ho3 := own_set (own_set ho2 (p := ⟨w.heap.size, 0, none⟩) (by dsimp only; omega) (.int .i64 m)) (p := ⟨w.heap.size, 1, none⟩) (by dsimp only; omega) (.slice va (count s m) vc)
      exact bodyPost_ret (v := .agg #[.int .i64 m, .slice va (count s m) vc]) (by simp [results, Try.results174, go_sem, d0, d1]) rfl
        ⟨_, _, rfl, (hE.setCell (by simp) _).setCell (by simp) _, ⟨_, rfl, own_base ho3 (fun _ _ => Nat.zero_le _), rfl⟩, fun h hh => by have := (ho.lt h (by simpa using hh)).1; omega⟩
end Go.Proofs.Ytefnmfdmnoednaa
