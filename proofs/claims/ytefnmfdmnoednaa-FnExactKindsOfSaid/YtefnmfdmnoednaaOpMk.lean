
/- Constants and projections: the program's and the reference's give one function's answers. -/
import Derived.Test.YtefnmfdmnoednaaOpV
import Derived.Test.YtefnmfdmnoednaaOpOf
namespace Go.Proofs.Ytefnmfdmnoednaa
open Go.RowKit
set_option linter.unusedVariables false

def SConstantOp (s m v : Int) : (Int × List Int) × Int := if inB s 1 4 then if inB m 1 3 && inB v 0 (s - 1) then (SopOf s m fun _ => v, 0) else (noOp, 2) else (noOp, 1)
def SProjectionOp (s m p : Int) : (Int × List Int) × Int := if inB s 1 4 then if inB m 1 3 && inB p 0 (m - 1) then (SopOf s m fun l => l.getD p.toNat 0, 0) else (noOp, 2) else (noOp, 1)

theorem mkOp_SopOf (s m : Int) (g : List Int → Int) : mkOp (SopOf s m g) = count s m := tableOf_length _ _ _ _
theorem count_le {s m : Int} (h1 : inB s 1 4 = true) (h2 : inB m 1 3 = true) : count s m ≤ 256 := by
  have h1 := inB_iff.1 h1
  have h2 := inB_iff.1 h2
  have := powW_small s m h1.1 h1.2 h2.1 (by omega)
  have := count_eq s m h1.1 h1.2 h2.1 (by omega)
  omega

theorem digs_getD (s : Int) (k : Nat) (n x : Int) (h0 : 0 ≤ x) (h1 : x < k) : ∃ h : x.toNat < (digs s k n).length, (digs s k n).getD x.toNat 0 = (digs s k n)[x.toNat] := by
  have h : x.toNat < (digs s k n).length := by rw [digs_length]; omega
  exact ⟨h, by simp [List.getD, h]⟩
set_option maxHeartbeats 1000000 in
theorem projection_any (s m x : Int) (w : World) (h1 : 1 ≤ s) (h2 : s ≤ 4) (h3 : 1 ≤ m) (h4 : m ≤ 4) (h5 : 0 ≤ x) (h6 : x < m) :
    Calls Try.prog 137 #[.int .i64 s, .int .i64 m, .int .i64 x] w fun e w' => ∃ u fp, e = .returned u ∧ Ext w w' ∧ OwnOp w' u (SopOf s m (fun l => l.getD x.toNat 0)) fp ∧ ∀ h ∈ fp, w.heap.size ≤ h := by
  have hmf : ∀ (fn : Fn) (first cap : Array Value) (w : World), (Instr.makeFunc fn first cap).run Try.prog w = .ok (.func fn first cap) w := fun _ _ _ _ => rfl
  have hE1 : Ext w ((w.alloc (.cells #[.int .i64 x] 2)).alloc (.cells #[.int .i64 0, .slice none 0 0] 49)) := ((Ext.refl' w).alloc (Nat.le_refl _) _).alloc (by simp) _
  have hcell : ((w.alloc (.cells #[.int .i64 x] 2)).alloc (.cells #[.int .i64 0, .slice none 0 0] 49)).cell? ⟨w.heap.size, 0, none⟩ = some (.int .i64 x) := by simp [go_sem]
  go_enter Try.func137, Try.ntmps137
  go_wp2_with fail
  refine (opOf_any s m (fun l => l.getD x.toNat 0) _ _ _ _ h1 h2 h3 h4 Try.call175 ?_).mono ?_
  · intro k u w' hk hE hr
    have hc := hE.cell hcell
    clear hcell
    simp only [List.append_toArray, List.nil_append, List.cons_append]
    obtain ⟨a, b, off, c, rfl, hlc, hcm, ha, hcc⟩ := hr
    obtain ⟨y, rfl⟩ := Int.eq_ofNat_of_zero_le h5
    have hy : y < (digs s m.toNat k).length := by rw [digs_length]; omega
    obtain rfl := ha (by omega)
    have hck := hcc y hy
    have hyi : ((y : Nat) : Int) < ((digs s m.toNat k).length : Int) := by omega
    have HG := Lib.hid (show (digs s m.toNat k).getD (Int.toNat (y : Int)) 0 = (digs s m.toNat k)[y] from by rw [Int.toNat_natCast, List.getD_eq_getElem?_getD, List.getElem?_eq_getElem hy]; rfl)
    clear hcc
    go_enter Try.func175, Try.ntmps175
    go_wp2_with fail
    go_ret
    exact ⟨ret_int (by first | rfl | exact HG.out.symm), Ext.refl' _⟩
  rintro e w2 ⟨u, fp, rfl, hE2, ho, hf⟩
  have d0 := hE2.cell (p := ⟨w.heap.size + 1, 0, none⟩) (v := .int .i64 0) (by simp [go_sem])
  have d1 := hE2.cell (p := ⟨w.heap.size + 1, 1, none⟩) (v := .slice none 0 0) (by simp [go_sem])
  have f0 := hE2.frozen (p := ⟨w.heap.size + 1, 0, none⟩) (by simp)
  have f1 := hE2.frozen (p := ⟨w.heap.size + 1, 1, none⟩) (by simp)
  simp [go_sem] at f0 f1
  obtain ⟨ua, uc, rfl⟩ := ho.form
  have hf' : ∀ h ∈ fp, w.heap.size + 2 ≤ h := fun h hh => by have := hf h hh; simp only [World.size_alloc] at this; omega
  clear hcell
  go_wp2_with fail
  exact bodyPost_ret (v := .agg #[.int .i64 (SopOf s m (fun l => l.getD x.toNat 0)).1, .slice ua (SopOf s m (fun l => l.getD x.toNat 0)).2.length uc]) (by simp [results, Try.results137, go_sem, d0, d1]) rfl
    ⟨_, fp, rfl, ((hE1.tr hE2).setCell (by simp) _).setCell (by simp) _, ho.off ((Off.set (fp := [w.heap.size + 1]) (by simp)).trans (Off.set (by simp))) (fun h hh hm => by have := hf' h hh; simp at hm; omega), fun h hh => by have := hf' h hh; omega⟩


theorem tableOf_const (s m v : Int) (n : Nat) : tableOf s m (fun _ => v) n = List.replicate n v := by
  induction n with
  | zero => rfl
  | succ n ih => rw [tableOf_succ, ih, List.replicate_succ']


set_option maxHeartbeats 2000000 in
set_option maxRecDepth 100000 in
theorem l02Projection_any (s m x : Int) (w : World) (hs : 1 ≤ s) (hs2 : s ≤ 4) (hm : 1 ≤ m) (hm2 : m ≤ 4) (hx : 0 ≤ x) (hx2 : x < m) :
    Calls Try.prog 170 #[.int .i64 s, .int .i64 m, .int .i64 x] w fun e w' => ∃ u fp, e = .returned u ∧ Ext w w' ∧ OwnOp w' u (SopOf s m fun l => l.getD x.toNat 0) fp ∧ ∀ h ∈ fp, w.heap.size ≤ h := by
  obtain ⟨i0, hi, hz0, hz1, hz2⟩ := info_parts infoI
  have hN := count_eq s m hs hs2 hm hm2
  have hN2 := powW_small s m hs hs2 hm hm2
  have hN3 : count s m ≤ 256 := by omega
  have HN := Lib.hid hN
  clear hN
  go_enter Try.func170, Try.ntmps170
  go_wp2_with fail
  go_loopw [8] (fun i wr => ∃ (k : Nat) (tv : Value), k ≤ count s m ∧ i = .int .i64 k ∧ Ext w wr ∧ wr.ownsRow (w.heap.size + 2) 2 1 tv k ((tableOf s m (fun l => l.getD x.toNat 0) k).map (Value.int .i64)) ∧
      wr.cell? ⟨w.heap.size + 1, 0, none⟩ = some (.int .i64 m) ∧ wr.cell? ⟨w.heap.size + 1, 1, none⟩ = some tv ∧ wr.frozen? ⟨w.heap.size + 1, 1, none⟩ = false ∧
      wr.cell? ⟨w.heap.size, 0, none⟩ = some (.int .i64 0) ∧ wr.cell? ⟨w.heap.size, 1, none⟩ = some (.slice none 0 0) ∧ wr.frozen? ⟨w.heap.size, 0, none⟩ = false ∧ wr.frozen? ⟨w.heap.size, 1, none⟩ = false)
    (fun i _ => count s m - (intOf i).toNat)
  case atStart =>
    refine ⟨0, .slice none 0 0, by omega, rfl, ((Ext.refl' w).alloc (Nat.le_refl _) _).alloc (by simp) _, World.ownsRow_nil _ _ _ _, ?_, ?_, ?_, ?_, ?_, ?_, ?_⟩ <;> simp [go_sem]
  case round =>
    obtain ⟨k, tv, hk, rfl, hE, ho, c0, c1, f1, d0, d1, f2, f3⟩ := hrel
    have q1 : w.heap.size + 1 < wr.heap.size := lt_of_cell c0
    by_cases hkl : k < count s m
    · go_wp2_with fail
      refine (l01Power_any _ _ _ (by omega) (by omega)).mono ?_
      rintro e w' ⟨rfl, rfl⟩
      rw [← HN.out]
      go_wp2_with fail
      refine region_sp [] [10, 11, 12] [SP.val (.pointer (some ⟨(w.heap.size + 1), 1, none⟩)), SP.val (tv), SP.val (.int .i64 s), SP.val (.int .i64 m), SP.val (.int .i64 (k : Nat)), SP.ownI (digs s m.toNat k), SP.val (.int .i64 x), SP.ptr1 (.int .i64 ((digs s m.toNat k).getD ((x) : Int).toNat 0)), SP.val (.int .i64 ((digs s m.toNat k).getD ((x) : Int).toNat 0)), SP.row1 (.int .i64 ((digs s m.toNat k).getD ((x) : Int).toNat 0)), SP.any, SP.any, SP.any] (by kernel_rfl) (fun _ d _ _ _ h => by cases d <;> exact h) (by kernel_rfl) (by kernel_rfl)
        (.cons (fun vs y hY => Step.fieldAddr ⟨(w.heap.size + 1), 0, none⟩ rfl rfl rfl (by simp [go_sem]) rfl) <|
         .cons (fun vs y hY g0_0 => Step.load ⟨(w.heap.size + 1), 1, none⟩ rfl rfl g0_0 (by simp [go_sem, hY.cell c1]) rfl) <|
         .cons (fun vs y hY => Step.move rfl rfl rfl rfl) <|
         .cons (fun vs y hY => Step.move rfl rfl rfl rfl) <|
         .cons (fun vs y hY => Step.move rfl rfl rfl rfl) <|
         .cons (fun vs y hY g2_0 g3_1 g4_2 => Step.call Try.call116 rfl rfl [vs 2, vs 3, vs 4] rfl rfl (by rw [show vs 2 = _ from g2_0, show vs 3 = _ from g3_1, show vs 4 = _ from g4_2]; exact ((l01Digits_any _ _ _ _ (by omega) (by omega) hs (by omega) (by omega) (by omega)).mono fun _ _ ⟨u, fp, he, hE, ho, _⟩ => ⟨u, he, hE, fp, ho⟩))) <|
         .cons (fun vs y hY => Step.move rfl rfl rfl rfl) <|
         .cons (fun vs y hY g5_0 g6_1 => Step.indexAddr rfl rfl rfl g6_1 (rdI_index (rdI_of_sp g5_0) hx (by rw [digs_length]; omega)) (fun _ h => h)) <|
         .cons (fun vs y hY g7_0 => Step.load1 rfl rfl rfl g7_0 (fun p hp => by simp [go_sem, hp]) rfl) <|
         .cons (fun vs y hY g8_0 => Step.buildSlice1 (x := .int .i64 ((digs s m.toNat k).getD ((x) : Int).toNat 0)) (e := 2) rfl rfl g8_0 (by simp [go_sem]) row1_new) <|
         .skip rfl <|
         .skip rfl <|
         .skip rfl <|
         .nil) ?_
      intro vs w1 hC hL
      have r0 : vs 0 = _ := hL 0 (by decide) rfl
      have r1 : vs 1 = _ := hL 1 (by decide) rfl
      have r2 : vs 2 = _ := hL 2 (by decide) rfl
      have r3 : vs 3 = _ := hL 3 (by decide) rfl
      have r4 : vs 4 = _ := hL 4 (by decide) rfl
      have r5 := hL 5 (by decide) rfl
      have r6 : vs 6 = _ := hL 6 (by decide) rfl
      have r7 := hL 7 (by decide) rfl
      have r8 : vs 8 = _ := hL 8 (by decide) rfl
      have r9 := hL 9 (by decide) rfl
      clear hL
      simp only [putAll, Act.put, List.contains_cons, List.contains_nil, Nat.reduceBEq, Nat.reduceAdd, Bool.or_false, Bool.or_true, cond_true, cond_false, List.setIfInBounds_toArray, List.set_cons_succ, List.set_cons_zero, List.filterMap_cons, List.filterMap_nil, List.getElem?_cons_succ, List.getElem?_cons_zero, r0, r1, r2, r3, r4, r6, r8]
      clear r0 r1 r2 r3 r4 r6 r8
      obtain ⟨b, rb, cb⟩ := r9
      rw [rb]
      have ho := own_ext ho hC
      have hE := hE.tr hC
      have c0 := hC.cell c0
      have c1 := hC.cell c1
      have d0 := hC.cell d0
      have d1 := hC.cell d1
      have f1 : w1.frozen? ⟨w.heap.size + 1, 1, none⟩ = false := by rw [hC.frozen q1]; exact f1
      have f2 : w1.frozen? ⟨w.heap.size, 0, none⟩ = false := by rw [hC.frozen (by dsimp only; omega)]; exact f2
      have f3 : w1.frozen? ⟨w.heap.size, 1, none⟩ = false := by rw [hC.frozen (by dsimp only; omega)]; exact f3
      have q1 : w.heap.size + 1 < w1.heap.size := lt_of_cell c0
      refine wpList_append_own _ rfl _ _ 34 rfl (w.heap.size + 2) 2 i0 (.int .i64 0) 1 8 Try.underlying34 hi hz0 hz1 hz2 rfl (by decide) _ _ _ rfl ho ⟨b, 0, none⟩ 1 1 [.int .i64 ((digs s m.toNat k).getD x.toNat 0)] rfl rfl (cells_one cb) (by simp [Value.oneCell']) (by unfold maxLen; omega) (by omega) (by omega) ?_
      intro v' w4 ho4 hg4 _
      change w1.grownBy w4 tv.ownBlock at hg4
      have hE4 := hE.grown hg4 (by omega) (fun k hk => by have := (ho.lt k hk).1; omega)
      obtain ⟨va, vb, vc, rfl, -⟩ := own_parts ho4
      have c0 := hg4.cell c0 (own_ne ho (by simp))
      have c1 := hg4.cell c1 (own_ne ho (by simp))
      have d0 := hg4.cell d0 (own_ne ho (by simp))
      have d1 := hg4.cell d1 (own_ne ho (by simp))
      have f1 : w4.frozen? ⟨w.heap.size + 1, 1, none⟩ = false := by rw [grown_frozen hg4 q1 (own_ne ho (by simp))]; exact f1
      have f2 : w4.frozen? ⟨w.heap.size, 0, none⟩ = false := by rw [grown_frozen hg4 (by dsimp only; omega) (own_ne ho (by simp))]; exact f2
      have f3 : w4.frozen? ⟨w.heap.size, 1, none⟩ = false := by rw [grown_frozen hg4 (by dsimp only; omega) (own_ne ho (by simp))]; exact f3
      have hT := Lib.hid (tableOf_succ s m (fun l => l.getD x.toNat 0) k)
      clear hC ho hE hg4 q1
      go_wp2_with fail
      go_roundw
      case rel =>
        exact ⟨k + 1, _, by omega, by go_num, hE4.setCell (by simp) _, own_set (by rw [hT.out, List.map_append]; exact ho4) (by simp) _,
          cell_set c0 (by simp), cell_same c1, by simpa using f1, cell_set d0 (by simp), cell_set d1 (by simp), by simpa using f2, by simpa using f3⟩
      case measure => simp [intOf]; omega
    · have hkk : k = count s m := by omega
      subst hkk
      obtain ⟨va, vb, vc, rfl, -⟩ := own_parts ho
      go_wp2_with fail
      refine (l01Power_any _ _ _ (by omega) (by omega)).mono ?_
      rintro e w' ⟨rfl, rfl⟩
      rw [← HN.out]
      go_wp2_with fail
      have ho2 : wr.ownsRow (w.heap.size + 2) 2 1 (.slice va (count s m) vc) (tableOf s m (fun l => l.getD x.toNat 0) (count s m)).length ((tableOf s m (fun l => l.getD x.toNat 0) (count s m)).map (Value.int .i64)) := by rw [tableOf_length]; exact ho
      have ho3 := own_set (own_set ho2 (p := ⟨w.heap.size, 0, none⟩) (by dsimp only; omega) (.int .i64 m)) (p := ⟨w.heap.size, 1, none⟩) (by dsimp only; omega) (.slice va (count s m) vc)
      exact bodyPost_ret (v := .agg #[.int .i64 m, .slice va (count s m) vc]) (by simp [results, Try.results170, go_sem, d0, d1]) rfl
        ⟨_, _, rfl, (hE.setCell (by simp) _).setCell (by simp) _, ⟨_, rfl, own_base ho3 (fun _ _ => Nat.zero_le _), rfl⟩, fun h hh => by have := (ho.lt h (by simpa using hh)).1; omega⟩

end Go.Proofs.Ytefnmfdmnoednaa
