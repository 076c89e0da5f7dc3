
/- MinorOf: the program's and the reference's give one function's answers. -/
import Derived.Test.YtfmoekfeajfidaaOpMk
import Derived.Test.YtfmoekfeajfidaaOpAt
import Derived.Test.YtfmoekfeajfidaaAt
namespace Go.Proofs.Ytfmoekfeajfidaa
open Go.RowKit
set_option linter.unusedVariables false

def minorF (s : Int) (f : Int × List Int) (places : List Int) (l : List Int) : Int := apply s f (atP l places)
def SMinorOf (s : Int) (f : Int × List Int) (m : Int) (l : List Int) : (Int × List Int) × Int :=
  if SValidOp s f then if inB m 1 3 && vals m l f.1 then (SopOf s m (minorF s f l), 0) else (noOp, 2) else (noOp, 1)
theorem digs_places {s m : Int} {l : List Int} (h : ∀ a ∈ l, 0 ≤ a ∧ a < m) (k : Int) : ∀ p ∈ l, 0 ≤ p ∧ p < (digs s m.toNat k).length := by
  intro p hp
  have := h p hp
  rw [digs_length]
  omega

set_option maxHeartbeats 2000000 in
set_option maxRecDepth 100000 in
theorem l02Minor_any (s m : Int) (f : Int × List Int) (p : Value) (l : List Int) (u : Value) (w : World) (hs : 1 ≤ s) (hs2 : s ≤ 4) (hm : 1 ≤ m) (hm2 : m ≤ 4) (hr : PtOp w p f) (hs0 : RdI w u l) (hf : SValidOp s f = true) (hl : (l.length : Int) = f.1) (hp : ∀ a ∈ l, 0 ≤ a ∧ a < m) :
    Calls Try.prog 75 #[.int .i64 s, p, .int .i64 m, u] w fun e w' => ∃ u fp, e = .returned u ∧ Ext w w' ∧ OwnOp w' u (SopOf s m (minorF s f l)) fp ∧ ∀ h ∈ fp, w.heap.size ≤ h := by
  obtain ⟨i0, hi, hz0, hz1, hz2⟩ := info_parts infoI
  have hN := count_eq s m hs hs2 hm hm2
  have hN2 := powW_small s m hs hs2 hm hm2
  have hN3 : count s m ≤ 256 := by omega
  have HN := Lib.hid hN
  clear hN
  go_enter Try.func75, Try.ntmps75
  go_wp2_with fail
  go_loopw [10] (fun i wr => ∃ (k : Nat) (tv : Value), k ≤ count s m ∧ i = .int .i64 k ∧ Ext w wr ∧ wr.ownsRow (w.heap.size + 2) 2 1 tv k ((tableOf s m ((minorF s f l)) k).map (Value.int .i64)) ∧
      wr.cell? ⟨w.heap.size + 1, 0, none⟩ = some (.int .i64 m) ∧ wr.cell? ⟨w.heap.size + 1, 1, none⟩ = some tv ∧ wr.frozen? ⟨w.heap.size + 1, 1, none⟩ = false ∧
      wr.cell? ⟨w.heap.size, 0, none⟩ = some (.int .i64 0) ∧ wr.cell? ⟨w.heap.size, 1, none⟩ = some (.slice none 0 0) ∧ wr.frozen? ⟨w.heap.size, 0, none⟩ = false ∧ wr.frozen? ⟨w.heap.size, 1, none⟩ = false)
    (fun i _ => count s m - (intOf i).toNat)
  case atStart =>
    refine ⟨0, .slice none 0 0, by omega, rfl, ((Ext.refl' w).alloc (Nat.le_refl _) _).alloc (by simp) _, World.ownsRow_nil _ _ _ _, ?_, ?_, ?_, ?_, ?_, ?_, ?_⟩ <;> simp [go_sem]
  case round =>
    obtain ⟨k, tv, hk, rfl, hE, ho, c0, c1, f1, d0, d1, f2, f3⟩ := hrel
    have q1 : w.heap.size + 1 < wr.heap.size := lt_of_cell c0
    by_cases hkl : k < count s m
    · go_wp2_with fail
      refine (l01Power_any _ _ _ (by omega) (by omega)).mono ?_
      rintro e w' ⟨rfl, rfl⟩
      rw [← HN.out]
      go_wp2_with fail
      refine region_sp [] [12, 13, 14] [SP.val (.pointer (some ⟨(w.heap.size + 1), 1, none⟩)), SP.val (tv), SP.val (.int .i64 s), SP.val (p), SP.val (.int .i64 s), SP.val (.int .i64 m), SP.val (.int .i64 (k : Nat)), SP.ownI (digs s m.toNat k), SP.val (u), SP.ownI (atP (digs s m.toNat k) l), SP.val (.int .i64 (minorF s f l (digs s m.toNat k))), SP.row1 (.int .i64 (minorF s f l (digs s m.toNat k))), SP.any, SP.any, SP.any] (by kernel_rfl) (fun _ d _ _ _ h => by cases d <;> exact h) (by kernel_rfl) (by kernel_rfl)
        (.cons (fun vs y hY => Step.fieldAddr ⟨(w.heap.size + 1), 0, none⟩ rfl rfl rfl (by simp [go_sem]) rfl) <|
         .cons (fun vs y hY g0_0 => Step.load ⟨(w.heap.size + 1), 1, none⟩ rfl rfl g0_0 (by simp [go_sem, hY.cell c1]) rfl) <|
         .cons (fun vs y hY => Step.move rfl rfl rfl rfl) <|
         .cons (fun vs y hY => Step.move rfl rfl rfl rfl) <|
         .cons (fun vs y hY => Step.move rfl rfl rfl rfl) <|
         .cons (fun vs y hY => Step.move rfl rfl rfl rfl) <|
         .cons (fun vs y hY => Step.move rfl rfl rfl rfl) <|
         .cons (fun vs y hY g4_0 g5_1 g6_2 => Step.call Try.call71 rfl rfl [vs 4, vs 5, vs 6] rfl rfl (by rw [show vs 4 = _ from g4_0, show vs 5 = _ from g5_1, show vs 6 = _ from g6_2]; exact ((l01Digits_any _ _ _ _ (by omega) (by omega) hs (by omega) (by omega) (by omega)).mono fun _ _ ⟨u, fp, he, hE, ho, _⟩ => ⟨u, he, hE, fp, ho⟩))) <|
         .cons (fun vs y hY => Step.move rfl rfl rfl rfl) <|
         .cons (fun vs y hY g7_0 g8_1 g7_2 => Step.call Try.call98 rfl rfl [vs 7, vs 8] rfl rfl (by rw [show vs 8 = _ from g8_1]; exact ((l01At_any _ _ _ _ _ (rdI_of_sp g7_0) (hs0.ext (hE.tr hY)) (digs_places hp k) (by have := (valid_iff.1 hf).2.1; omega)).mono fun _ _ ⟨u, fp, he, hE, ho, _⟩ => ⟨u, he, hE, fp, ho⟩))) <|
         .cons (fun vs y hY g2_0 g3_1 g9_2 g9_3 => Step.call Try.call69 rfl rfl [vs 2, vs 3, vs 9] rfl rfl (by rw [show vs 2 = _ from g2_0, show vs 3 = _ from g3_1]; exact ((l02Value_any s f _ _ _ _ (hr.ext (hE.tr hY)) (rdI_of_sp g9_2) hf (by rw [atP_length]; exact hl) (atP_val (fun a ha => by have := digs_val s hs m.toNat k (by omega) a ha; omega) (digs_places hp k))).mono fun _ _ ⟨he, hE⟩ => ⟨_, he, hE.ext, rfl⟩))) <|
         .cons (fun vs y hY g10_0 => Step.buildSlice1 (x := .int .i64 (minorF s f l (digs s m.toNat k))) (e := 2) rfl rfl g10_0 (by simp [go_sem]) row1_new) <|
         .skip rfl <|
         .skip rfl <|
         .skip rfl <|
         .nil) ?_
      intro vs w1 hC hL
      have r0 : vs 0 = _ := hL 0 (by decide) rfl
      have r1 : vs 1 = _ := hL 1 (by decide) rfl
      have r2 : vs 2 = _ := hL 2 (by decide) rfl
      have r3 : vs 3 = _ := hL 3 (by decide) rfl
      have r4 : vs 4 = _ := hL 4 (by decide) rfl
      have r5 : vs 5 = _ := hL 5 (by decide) rfl
      have r6 : vs 6 = _ := hL 6 (by decide) rfl
      have r7 := hL 7 (by decide) rfl
      have r8 : vs 8 = _ := hL 8 (by decide) rfl
      have r9 := hL 9 (by decide) rfl
      have r10 : vs 10 = _ := hL 10 (by decide) rfl
      have r11 := hL 11 (by decide) rfl
      clear hL
      simp only [putAll, Act.put, List.contains_cons, List.contains_nil, Nat.reduceBEq, Nat.reduceAdd, Bool.or_false, Bool.or_true, cond_true, cond_false, List.setIfInBounds_toArray, List.set_cons_succ, List.set_cons_zero, List.filterMap_cons, List.filterMap_nil, List.getElem?_cons_succ, List.getElem?_cons_zero, r0, r1, r2, r3, r4, r5, r6, r8, r10]
      clear r0 r1 r2 r3 r4 r5 r6 r8 r10
      obtain ⟨b, rb, cb⟩ := r11
      rw [rb]
      have ho := own_ext ho hC
      have hE := hE.tr hC
      have c0 := hC.cell c0
      have c1 := hC.cell c1
      have d0 := hC.cell d0
      have d1 := hC.cell d1
      have f1 : w1.frozen? ⟨w.heap.size + 1, 1, none⟩ = false := by rw [hC.frozen q1]; exact f1
      have f2 : w1.frozen? ⟨w.heap.size, 0, none⟩ = false := by rw [hC.frozen (by dsimp only; omega)]; exact f2
      have f3 : w1.frozen? ⟨w.heap.size, 1, none⟩ = false := by rw [hC.frozen (by dsimp only; omega)]; exact f3
      have q1 : w.heap.size + 1 < w1.heap.size := lt_of_cell c0
      refine wpList_append_own _ rfl _ _ 25 rfl (w.heap.size + 2) 2 i0 (.int .i64 0) 1 8 Try.underlying25 hi hz0 hz1 hz2 rfl (by decide) _ _ _ rfl ho ⟨b, 0, none⟩ 1 1 [.int .i64 ((minorF s f l) (digs s m.toNat k))] rfl rfl (cells_one cb) (by simp [Value.oneCell']) (by unfold maxLen; omega) (by omega) (by omega) ?_
      intro v' w4 ho4 hg4 _
      change w1.grownBy w4 tv.ownBlock at hg4
      have hE4 := hE.grown hg4 (by omega) (fun k hk => by have := (ho.lt k hk).1; omega)
      obtain ⟨va, vb, vc, rfl, -⟩ := own_parts ho4
      have c0 := hg4.cell c0 (own_ne ho (by simp))
      have c1 := hg4.cell c1 (own_ne ho (by simp))
      have d0 := hg4.cell d0 (own_ne ho (by simp))
      have d1 := hg4.cell d1 (own_ne ho (by simp))
      have f1 : w4.frozen? ⟨w.heap.size + 1, 1, none⟩ = false := by rw [grown_frozen hg4 q1 (own_ne ho (by simp))]; exact f1
      have f2 : w4.frozen? ⟨w.heap.size, 0, none⟩ = false := by rw [grown_frozen hg4 (by dsimp only; omega) (own_ne ho (by simp))]; exact f2
      have f3 : w4.frozen? ⟨w.heap.size, 1, none⟩ = false := by rw [grown_frozen hg4 (by dsimp only; omega) (own_ne ho (by simp))]; exact f3
      have hT := Lib.hid (tableOf_succ s m ((minorF s f l)) k)
      clear hC ho hE hg4 q1
      go_wp2_with fail
      go_roundw
      case rel =>
        exact ⟨k + 1, _, by omega, by go_num, hE4.setCell (by simp) _, own_set (by rw [hT.out, List.map_append]; exact ho4) (by simp) _,
          cell_set c0 (by simp), cell_same c1, by simpa using f1, cell_set d0 (by simp), cell_set d1 (by simp), by simpa using f2, by simpa using f3⟩
      case measure => simp [intOf]; omega
    · have hkk : k = count s m := by omega
      subst hkk
      obtain ⟨va, vb, vc, rfl, -⟩ := own_parts ho
      go_wp2_with fail
      refine (l01Power_any _ _ _ (by omega) (by omega)).mono ?_
      rintro e w' ⟨rfl, rfl⟩
      rw [← HN.out]
      go_wp2_with fail
      have ho2 : wr.ownsRow (w.heap.size + 2) 2 1 (.slice va (count s m) vc) (tableOf s m ((minorF s f l)) (count s m)).length ((tableOf s m ((minorF s f l)) (count s m)).map (Value.int .i64)) := by rw [tableOf_length]; exact ho
      have ho3 := own_set (own_set ho2 (p := ⟨w.heap.size, 0, none⟩) (by dsimp only; omega) (.int .i64 m)) (p := ⟨w.heap.size, 1, none⟩) (by dsimp only; omega) (.slice va (count s m) vc)
      exact bodyPost_ret (v := .agg #[.int .i64 m, .slice va (count s m) vc]) (by simp [results, Try.results75, go_sem, d0, d1]) rfl
        ⟨_, _, rfl, (hE.setCell (by simp) _).setCell (by simp) _, ⟨_, rfl, own_base ho3 (fun _ _ => Nat.zero_le _), rfl⟩, fun h hh => by have := (ho.lt h (by simpa using hh)).1; omega⟩
set_option maxHeartbeats 2000000 in
theorem minorFn_any (s m : Int) (f : Int × List Int) (tv : Value) (l : List Int) (u : Value) (bs bf bl : Nat) (k : Nat) (x : Value) (w : World) (hs1 : 1 ≤ s) (hr : RdOp w (.agg #[.int .i64 f.1, tv]) f) (hs0 : RdI w u l) (hf : SValidOp s f = true) (hl : (l.length : Int) = f.1) (hp : ∀ a ∈ l, 0 ≤ a ∧ a < m)
    (c0 : w.cell? ⟨bs, 0, none⟩ = some (.int .i64 s)) (c1 : w.cell? ⟨bf, 0, none⟩ = some (.int .i64 f.1)) (c2 : w.cell? ⟨bf, 1, none⟩ = some tv) (c3 : w.cell? ⟨bl, 0, none⟩ = some u) (hx : RdI w x (digs s m.toNat k)) :
    Calls Try.prog 78 #[x, .pointer (some ⟨bf, 0, none⟩), .pointer (some ⟨bs, 0, none⟩), .pointer (some ⟨bl, 0, none⟩)] w fun e w' => e = .returned (.int .i64 (minorF s f l (digs s m.toNat k))) ∧ Ext w w' := by
  have hv := (valid_iff.1 hf).2.1
  go_enter Try.func78, Try.ntmps78
  go_wp2_with fail
  refine region_sp [] [] [SP.val (.agg #[.int .i64 f.1, tv]), SP.val (.int .i64 s), SP.val (x), SP.val (u), SP.ownI (atP (digs s m.toNat k) l), SP.val (.int .i64 (minorF s f l (digs s m.toNat k))), SP.val (.int .i64 (minorF s f l (digs s m.toNat k)))] (by kernel_rfl) (fun _ d _ _ _ h => by cases d <;> exact h) (by kernel_rfl) (by kernel_rfl)
    (.cons (fun vs y hY => Step.load ⟨bf, 0, none⟩ rfl rfl rfl (by simp [go_sem, hY.cell c1, hY.cell c2]) rfl) <|
     .cons (fun vs y hY => Step.load ⟨bs, 0, none⟩ rfl rfl rfl (by simp [go_sem, hY.cell c0]) rfl) <|
     .cons (fun vs y hY => Step.move rfl rfl rfl rfl) <|
     .cons (fun vs y hY => Step.load ⟨bl, 0, none⟩ rfl rfl rfl (by simp [go_sem, hY.cell c3]) rfl) <|
     .cons (fun vs y hY g2_0 g3_1 => Step.call Try.call79 rfl rfl [vs 2, vs 3] rfl rfl (by rw [show vs 2 = _ from g2_0, show vs 3 = _ from g3_1]; exact ((chosen_any _ _ _ _ _ (hx.ext hY) (hs0.ext hY) (digs_places hp k) (by omega)).mono fun _ _ ⟨u, fp, he, hE, ho, _⟩ => ⟨u, he, hE, fp, ho⟩))) <|
     .cons (fun vs y hY g0_0 g1_1 g4_2 g4_3 => Step.call Try.call70 rfl rfl [vs 0, vs 1, vs 4] rfl rfl (by rw [show vs 0 = _ from g0_0, show vs 1 = _ from g1_1]; exact ((opAt_any s f _ _ _ _ (hr.ext hY) (rdI_of_sp g4_2) hf (by rw [atP_length]; exact hl) (atP_val (fun a ha => by have := digs_val s hs1 m.toNat k (by omega) a ha; omega) (digs_places hp k))).mono fun _ _ ⟨he, hE⟩ => ⟨_, he, hE, rfl⟩))) <|
     .cons (fun vs y hY g5_0 g5_1 g0_2 g1_3 g2_4 g3_5 g4_6 g5_7 => Step.assign rfl rfl g5_0 rfl) <|
     .nil) ?_
  intro vs w1 hC hL
  have r0 : vs 0 = _ := hL 0 (by decide) rfl
  have r1 : vs 1 = _ := hL 1 (by decide) rfl
  have r2 : vs 2 = _ := hL 2 (by decide) rfl
  have r3 : vs 3 = _ := hL 3 (by decide) rfl
  have r4 := hL 4 (by decide) rfl
  have r5 : vs 5 = _ := hL 5 (by decide) rfl
  have r6 : vs 6 = _ := hL 6 (by decide) rfl
  clear hL
  simp only [putAll, Act.put, List.contains_nil, cond_false, List.setIfInBounds_toArray, List.set_cons_succ, List.set_cons_zero, List.filterMap_nil, r0, r1, r2, r3, r5, r6]
  clear r0 r1 r2 r3 r5 r6
  go_wp2_with fail
  go_ret
  exact ⟨rfl, hC⟩

set_option maxHeartbeats 1000000 in
theorem implMinorOf_any (s : Int) (f : Int × List Int) (v : Value) (m : Int) (l : List Int) (u : Value) (w : World) (hr : RdOp w v f) (hs : RdI w u l) (lo0 : -9223372036854775808 ≤ s) (hi0 : s ≤ 9223372036854775807) (lo2 : -9223372036854775808 ≤ m) (hi2 : m ≤ 9223372036854775807) (_ : szOp f ≤ 1048576) (_ : l.length ≤ 1048576) :
    Calls Try.prog 38 #[.int .i64 s, v, .int .i64 m, u] w (OpRes (SMinorOf s f m l) w) := by
  obtain ⟨tv, rfl, hr'⟩ := hr
  obtain ⟨ta, tc, rfl⟩ := hr'.form
  obtain ⟨ua, uc, rfl⟩ := hs.form
  have hr : RdOp w _ f := ⟨_, rfl, hr'⟩
  clear hr'
  have hE1 : Ext w ((((w.alloc (.cells #[.int .i64 s] 2)).alloc (.cells #[.int .i64 f.1, .slice ta f.2.length tc] 30)).alloc (.cells #[.slice ua l.length uc] 25)).alloc (.cells #[.int .i64 0, .slice none 0 0] 30)) := ((((Ext.refl' w).alloc (Nat.le_refl _) _).alloc (by simp) _).alloc (by simp; omega) _).alloc (by simp; omega) _
  have hst : (1 ≤ s ∧ s ≤ 4) ∨ SValidOp s f = false := by cases h : SValidOp s f with | false => exact .inr rfl | true => exact .inl (valid_iff.1 h).1
  cases h1 : SValidOp s f with
  | false =>
    rw [show SMinorOf s f m l = (noOp, 1) from by unfold SMinorOf; rw [h1]; rfl]
    go_enter Try.func38, Try.ntmps38
    go_wp2_with fail
    refine (implValidOp_ok _ _ _ _ (hr.ext hE1)).mono ?_
    rintro e w1 ⟨rfl, hE⟩
    have b0 := hE.cell (p := ⟨w.heap.size, 0, none⟩) (v := .int .i64 s) (by simp [go_sem])
    have b1 := hE.cell (p := ⟨w.heap.size + 1, 0, none⟩) (v := .int .i64 f.1) (by simp [go_sem])
    have b2 := hE.cell (p := ⟨w.heap.size + 1, 1, none⟩) (v := .slice ta f.2.length tc) (by simp [go_sem])
    have b3 := hE.cell (p := ⟨w.heap.size + 1 + 1, 0, none⟩) (v := .slice ua l.length uc) (by simp [go_sem])
    have d0 := hE.cell (p := ⟨w.heap.size + 1 + 1 + 1, 0, none⟩) (v := .int .i64 0) (by simp [go_sem])
    have d1 := hE.cell (p := ⟨w.heap.size + 1 + 1 + 1, 1, none⟩) (v := .slice none 0 0) (by simp [go_sem])
    have f0 := hE.frozen (p := ⟨w.heap.size + 1 + 1 + 1, 0, none⟩) (by simp)
    have f1 := hE.frozen (p := ⟨w.heap.size + 1 + 1 + 1, 1, none⟩) (by simp)
    simp [go_sem] at f0 f1
    replace hE := hE1.tr hE
    go_wp2_with fail
    exact bodyPost_ret (v := .tuple #[.agg #[.int .i64 0, .slice none 0 0], .int .i64 1]) (by simp [results, Try.results38, go_sem, d0, d1]) rfl
      (OpRes.no ((hE.setCell (by simp; omega) _).setCell (by simp; omega) _))
  | true =>
    have hv := valid_iff.1 h1
    have hv1 := hv.1
    have hv2 := hv.2.1
    clear hv
    cases h2 : inB m 1 3 with
    | false =>
      rw [show SMinorOf s f m l = (noOp, 2) from by unfold SMinorOf; rw [h1, h2]; rfl]
      go_enter Try.func38, Try.ntmps38
      go_wp2_with fail
      refine (implValidOp_ok _ _ _ _ (hr.ext hE1)).mono ?_
      rintro e w1 ⟨rfl, hE⟩
      have b0 := hE.cell (p := ⟨w.heap.size, 0, none⟩) (v := .int .i64 s) (by simp [go_sem])
      have b1 := hE.cell (p := ⟨w.heap.size + 1, 0, none⟩) (v := .int .i64 f.1) (by simp [go_sem])
      have b2 := hE.cell (p := ⟨w.heap.size + 1, 1, none⟩) (v := .slice ta f.2.length tc) (by simp [go_sem])
      have b3 := hE.cell (p := ⟨w.heap.size + 1 + 1, 0, none⟩) (v := .slice ua l.length uc) (by simp [go_sem])
      have d0 := hE.cell (p := ⟨w.heap.size + 1 + 1 + 1, 0, none⟩) (v := .int .i64 0) (by simp [go_sem])
      have d1 := hE.cell (p := ⟨w.heap.size + 1 + 1 + 1, 1, none⟩) (v := .slice none 0 0) (by simp [go_sem])
      have f0 := hE.frozen (p := ⟨w.heap.size + 1 + 1 + 1, 0, none⟩) (by simp)
      have f1 := hE.frozen (p := ⟨w.heap.size + 1 + 1 + 1, 1, none⟩) (by simp)
      simp [go_sem] at f0 f1
      replace hE := hE1.tr hE
      go_wp2_with (go_at_call 58; refine (isOpArity_any _ _).mono ?_; rintro e w' ⟨rfl, rfl⟩)
      exact bodyPost_ret (v := .tuple #[.agg #[.int .i64 0, .slice none 0 0], .int .i64 2]) (by simp [results, Try.results38, go_sem, d0, d1]) rfl
        (OpRes.no ((hE.setCell (by simp; omega) _).setCell (by simp; omega) _))
    | true =>
      have hb2 := inB_iff.1 h2
      cases h3 : vals m l f.1 with
      | false =>
        rw [show SMinorOf s f m l = (noOp, 2) from by unfold SMinorOf; rw [h1, h2, h3]; rfl]
        go_enter Try.func38, Try.ntmps38
        go_wp2_with fail
        refine (implValidOp_ok _ _ _ _ (hr.ext hE1)).mono ?_
        rintro e w1 ⟨rfl, hE⟩
        have b0 := hE.cell (p := ⟨w.heap.size, 0, none⟩) (v := .int .i64 s) (by simp [go_sem])
        have b1 := hE.cell (p := ⟨w.heap.size + 1, 0, none⟩) (v := .int .i64 f.1) (by simp [go_sem])
        have b2 := hE.cell (p := ⟨w.heap.size + 1, 1, none⟩) (v := .slice ta f.2.length tc) (by simp [go_sem])
        have b3 := hE.cell (p := ⟨w.heap.size + 1 + 1, 0, none⟩) (v := .slice ua l.length uc) (by simp [go_sem])
        have d0 := hE.cell (p := ⟨w.heap.size + 1 + 1 + 1, 0, none⟩) (v := .int .i64 0) (by simp [go_sem])
        have d1 := hE.cell (p := ⟨w.heap.size + 1 + 1 + 1, 1, none⟩) (v := .slice none 0 0) (by simp [go_sem])
        have f0 := hE.frozen (p := ⟨w.heap.size + 1 + 1 + 1, 0, none⟩) (by simp)
        have f1 := hE.frozen (p := ⟨w.heap.size + 1 + 1 + 1, 1, none⟩) (by simp)
        simp [go_sem] at f0 f1
        replace hE := hE1.tr hE
        go_wp2_with (go_at_call 58; refine (isOpArity_any _ _).mono ?_; rintro e w' ⟨rfl, rfl⟩)
        refine (arePlaces_any _ _ _ _ _ (hs.ext hE) (by omega) (by omega)).mono ?_
        rintro e w2 ⟨rfl, hE2⟩
        have f0 : w2.frozen? ⟨w.heap.size + 1 + 1 + 1, 0, none⟩ = false := by rw [hE2.frozen (lt_of_cell d0)]; exact f0
        have f1 : w2.frozen? ⟨w.heap.size + 1 + 1 + 1, 1, none⟩ = false := by rw [hE2.frozen (lt_of_cell d1)]; exact f1
        have d0 := hE2.cell d0
        have d1 := hE2.cell d1
        replace hE := hE.tr hE2
        go_wp2_with fail
        exact bodyPost_ret (v := .tuple #[.agg #[.int .i64 0, .slice none 0 0], .int .i64 2]) (by simp [results, Try.results38, go_sem, d0, d1]) rfl
          (OpRes.no ((hE.setCell (by simp; omega) _).setCell (by simp; omega) _))
      | true =>
        have hpl := (vals_iff.1 h3)
        have hcnt := count_le (inB_iff.2 hv1) h2
        rw [show SMinorOf s f m l = (SopOf s m (minorF s f l), 0) from by unfold SMinorOf; rw [h1, h2, h3]; rfl]
        have HP := Lib.hid hpl
        clear hpl
        go_enter Try.func38, Try.ntmps38
        go_wp2_with fail
        refine (implValidOp_ok _ _ _ _ (hr.ext hE1)).mono ?_
        rintro e w1 ⟨rfl, hE⟩
        have b0 := hE.cell (p := ⟨w.heap.size, 0, none⟩) (v := .int .i64 s) (by simp [go_sem])
        have b1 := hE.cell (p := ⟨w.heap.size + 1, 0, none⟩) (v := .int .i64 f.1) (by simp [go_sem])
        have b2 := hE.cell (p := ⟨w.heap.size + 1, 1, none⟩) (v := .slice ta f.2.length tc) (by simp [go_sem])
        have b3 := hE.cell (p := ⟨w.heap.size + 1 + 1, 0, none⟩) (v := .slice ua l.length uc) (by simp [go_sem])
        have d0 := hE.cell (p := ⟨w.heap.size + 1 + 1 + 1, 0, none⟩) (v := .int .i64 0) (by simp [go_sem])
        have d1 := hE.cell (p := ⟨w.heap.size + 1 + 1 + 1, 1, none⟩) (v := .slice none 0 0) (by simp [go_sem])
        have f0 := hE.frozen (p := ⟨w.heap.size + 1 + 1 + 1, 0, none⟩) (by simp)
        have f1 := hE.frozen (p := ⟨w.heap.size + 1 + 1 + 1, 1, none⟩) (by simp)
        simp [go_sem] at f0 f1
        replace hE := hE1.tr hE
        go_wp2_with (go_at_call 58; refine (isOpArity_any _ _).mono ?_; rintro e w' ⟨rfl, rfl⟩)
        refine (arePlaces_any _ _ _ _ _ (hs.ext hE) (by omega) (by omega)).mono ?_
        rintro e w2 ⟨rfl, hE2⟩
        have f0 : w2.frozen? ⟨w.heap.size + 1 + 1 + 1, 0, none⟩ = false := by rw [hE2.frozen (lt_of_cell d0)]; exact f0
        have f1 : w2.frozen? ⟨w.heap.size + 1 + 1 + 1, 1, none⟩ = false := by rw [hE2.frozen (lt_of_cell d1)]; exact f1
        have d0 := hE2.cell d0
        have d1 := hE2.cell d1
        replace hE := hE.tr hE2
        have b0 := hE2.cell b0
        have b1 := hE2.cell b1
        have b2 := hE2.cell b2
        have b3 := hE2.cell b3
        go_wp2_with fail
        refine (opOf_any s m (minorF s f l) _ _ _ _ hv1.1 hv1.2 hb2.1 (by omega) Try.call78 ?_).mono ?_
        · intro k x w' hk hE' hx
          simp only [List.append_toArray, List.nil_append, List.cons_append]
          exact minorFn_any s m f _ l _ _ _ _ k x w' hv1.1 ((hr.ext hE).ext hE') ((hs.ext hE).ext hE') h1 HP.out.1 HP.out.2 (hE'.cell b0) (hE'.cell b1) (hE'.cell b2) (hE'.cell b3) hx
        rintro e w3 ⟨u, fp, rfl, hE3, ho, hf⟩
        have q : w.heap.size + 1 + 1 + 1 < w2.heap.size := lt_of_cell d0
        have f0 : w3.frozen? ⟨w.heap.size + 1 + 1 + 1, 0, none⟩ = false := by rw [hE3.frozen (lt_of_cell d0)]; exact f0
        have f1 : w3.frozen? ⟨w.heap.size + 1 + 1 + 1, 1, none⟩ = false := by rw [hE3.frozen (lt_of_cell d1)]; exact f1
        have d0 := hE3.cell d0
        have d1 := hE3.cell d1
        have hf : ∀ h ∈ fp, w.heap.size + 4 ≤ h := fun h hh => by have := hf h hh; omega
        replace hE := hE.tr hE3
        obtain ⟨va, vc, rfl⟩ := ho.form
        go_wp2_with fail
        exact bodyPost_ret (v := .tuple #[.agg #[.int .i64 (SopOf s m (minorF s f l)).1, .slice va (SopOf s m (minorF s f l)).2.length vc], .int .i64 0]) (by simp [results, Try.results38, go_sem, d0, d1]) rfl
          (OpRes.of rfl ((hE.setCell (by simp; omega) _).setCell (by simp; omega) _) (ho.off ((Off.set (fp := [w.heap.size + 1 + 1 + 1]) (by simp)).trans (Off.set (by simp))) (fun h hh hm => by have := hf h hh; simp at hm; omega)) (fun h hh => by have := hf h hh; omega) (by show mkOp (SopOf s m (minorF s f l)) ≤ 1048576; rw [mkOp_SopOf]; omega))
set_option maxHeartbeats 1000000 in
theorem specMinorOf_any (s : Int) (f : Int × List Int) (v : Value) (m : Int) (l : List Int) (u : Value) (w : World) (hr : RdOp w v f) (hs : RdI w u l) (lo0 : -9223372036854775808 ≤ s) (hi0 : s ≤ 9223372036854775807) (lo2 : -9223372036854775808 ≤ m) (hi2 : m ≤ 9223372036854775807) (_ : szOp f ≤ 1048576) (_ : l.length ≤ 1048576) :
    Calls Try.prog 37 #[.int .i64 s, v, .int .i64 m, u] w (OpRes (SMinorOf s f m l) w) := by
  obtain ⟨tv, rfl, hr⟩ := hr
  obtain ⟨ta, tc, rfl⟩ := hr.form
  obtain ⟨ua, uc, rfl⟩ := hs.form
  have hE1 : Ext w ((w.alloc (.cells #[.int .i64 f.1, .slice ta f.2.length tc] 30)).alloc (.cells #[.int .i64 0, .slice none 0 0] 30)) := ((Ext.refl' w).alloc (Nat.le_refl _) _).alloc (by simp) _
  have hp : PtOp ((w.alloc (.cells #[.int .i64 f.1, .slice ta f.2.length tc] 30)).alloc (.cells #[.int .i64 0, .slice none 0 0] 30)) (.pointer (some ⟨w.heap.size, 0, none⟩)) f := ⟨_, _, _, rfl, by simp [go_sem], by simp [go_sem], hr.ext hE1⟩
  have hs := hs.ext hE1
  cases h1 : SValidOp s f with
  | false =>
    rw [show SMinorOf s f m l = (noOp, 1) from by unfold SMinorOf; rw [h1]; rfl]
    go_enter Try.func37, Try.ntmps37
    go_wp2_with fail
    refine (l02Ok_any _ _ _ _ hp).mono ?_
    rintro e w1 ⟨rfl, hE⟩
    replace hE := hE.ext
    have b1 := hE.cell (p := ⟨w.heap.size, 0, none⟩) (v := .int .i64 f.1) (by simp [go_sem])
    have d0 := hE.cell (p := ⟨w.heap.size + 1, 0, none⟩) (v := .int .i64 0) (by simp [go_sem])
    have d1 := hE.cell (p := ⟨w.heap.size + 1, 1, none⟩) (v := .slice none 0 0) (by simp [go_sem])
    have f0 := hE.frozen (p := ⟨w.heap.size + 1, 0, none⟩) (by simp)
    have f1 := hE.frozen (p := ⟨w.heap.size + 1, 1, none⟩) (by simp)
    simp [go_sem] at f0 f1
    replace hs := hs.ext hE
    replace hp := hp.ext hE
    replace hE := hE1.tr hE
    go_wp2_with fail
    exact bodyPost_ret (v := .tuple #[.agg #[.int .i64 0, .slice none 0 0], .int .i64 1]) (by simp [results, Try.results37, go_sem, d0, d1]) rfl
      (OpRes.no ((hE.setCell (by simp) _).setCell (by simp) _))
  | true =>
    have hv := valid_iff.1 h1
    have hv1 := hv.1
    have hv2 := hv.2.1
    clear hv
    cases h2 : inB m 1 3 with
    | false =>
      rw [show SMinorOf s f m l = (noOp, 2) from by unfold SMinorOf; rw [h1, h2]; rfl]
      go_enter Try.func37, Try.ntmps37
      go_wp2_with fail
      refine (l02Ok_any _ _ _ _ hp).mono ?_
      rintro e w1 ⟨rfl, hE⟩
      replace hE := hE.ext
      have b1 := hE.cell (p := ⟨w.heap.size, 0, none⟩) (v := .int .i64 f.1) (by simp [go_sem])
      have d0 := hE.cell (p := ⟨w.heap.size + 1, 0, none⟩) (v := .int .i64 0) (by simp [go_sem])
      have d1 := hE.cell (p := ⟨w.heap.size + 1, 1, none⟩) (v := .slice none 0 0) (by simp [go_sem])
      have f0 := hE.frozen (p := ⟨w.heap.size + 1, 0, none⟩) (by simp)
      have f1 := hE.frozen (p := ⟨w.heap.size + 1, 1, none⟩) (by simp)
      simp [go_sem] at f0 f1
      replace hs := hs.ext hE
      replace hp := hp.ext hE
      replace hE := hE1.tr hE
      go_wp2_with (go_at_call 62; refine (l02Arity_any _ _).mono ?_; rintro e w' ⟨rfl, rfl⟩)
      exact bodyPost_ret (v := .tuple #[.agg #[.int .i64 0, .slice none 0 0], .int .i64 2]) (by simp [results, Try.results37, go_sem, d0, d1]) rfl
        (OpRes.no ((hE.setCell (by simp) _).setCell (by simp) _))
    | true =>
      have hb2 := inB_iff.1 h2
      by_cases h3 : (l.length : Int) = f.1
      · cases h4 : l.all fun a => inB a 0 (m - 1) with
        | false =>
          rw [show SMinorOf s f m l = (noOp, 2) from by unfold SMinorOf vals; rw [h1, h2, h4, Bool.and_false]; rfl]
          go_enter Try.func37, Try.ntmps37
          go_wp2_with fail
          refine (l02Ok_any _ _ _ _ hp).mono ?_
          rintro e w1 ⟨rfl, hE⟩
          replace hE := hE.ext
          have b1 := hE.cell (p := ⟨w.heap.size, 0, none⟩) (v := .int .i64 f.1) (by simp [go_sem])
          have d0 := hE.cell (p := ⟨w.heap.size + 1, 0, none⟩) (v := .int .i64 0) (by simp [go_sem])
          have d1 := hE.cell (p := ⟨w.heap.size + 1, 1, none⟩) (v := .slice none 0 0) (by simp [go_sem])
          have f0 := hE.frozen (p := ⟨w.heap.size + 1, 0, none⟩) (by simp)
          have f1 := hE.frozen (p := ⟨w.heap.size + 1, 1, none⟩) (by simp)
          simp [go_sem] at f0 f1
          replace hs := hs.ext hE
          replace hp := hp.ext hE
          replace hE := hE1.tr hE
          go_wp2_with (first | (go_at_call 62; refine (l02Arity_any _ _).mono ?_; rintro e w' ⟨rfl, rfl⟩) | (go_at_call 74; refine (l01Places_any _ _ _ _ hs (by omega) (by omega)).mono ?_; rintro e w' ⟨rfl, rfl⟩))
          exact bodyPost_ret (v := .tuple #[.agg #[.int .i64 0, .slice none 0 0], .int .i64 2]) (by simp [results, Try.results37, go_sem, d0, d1]) rfl
            (OpRes.no ((hE.setCell (by simp) _).setCell (by simp) _))
        | true =>
          have h5 : vals m l f.1 = true := by unfold vals; rw [h4, h3]; simp
          have HP := Lib.hid (vals_iff.1 h5)
          have hcnt := count_le (inB_iff.2 hv1) h2
          rw [show SMinorOf s f m l = (SopOf s m (minorF s f l), 0) from by unfold SMinorOf; rw [h1, h2, h5]; rfl]
          clear h5
          go_enter Try.func37, Try.ntmps37
          go_wp2_with fail
          refine (l02Ok_any _ _ _ _ hp).mono ?_
          rintro e w1 ⟨rfl, hE⟩
          replace hE := hE.ext
          have b1 := hE.cell (p := ⟨w.heap.size, 0, none⟩) (v := .int .i64 f.1) (by simp [go_sem])
          have d0 := hE.cell (p := ⟨w.heap.size + 1, 0, none⟩) (v := .int .i64 0) (by simp [go_sem])
          have d1 := hE.cell (p := ⟨w.heap.size + 1, 1, none⟩) (v := .slice none 0 0) (by simp [go_sem])
          have f0 := hE.frozen (p := ⟨w.heap.size + 1, 0, none⟩) (by simp)
          have f1 := hE.frozen (p := ⟨w.heap.size + 1, 1, none⟩) (by simp)
          simp [go_sem] at f0 f1
          replace hs := hs.ext hE
          replace hp := hp.ext hE
          replace hE := hE1.tr hE
          go_wp2_with (first | (go_at_call 62; refine (l02Arity_any _ _).mono ?_; rintro e w' ⟨rfl, rfl⟩) | (go_at_call 74; refine (l01Places_any _ _ _ _ hs (by omega) (by omega)).mono ?_; rintro e w' ⟨rfl, rfl⟩))
          refine (l02Minor_any s m f _ l _ _ hv1.1 hv1.2 hb2.1 (by omega) hp hs h1 HP.out.1 HP.out.2).mono ?_
          rintro e w3 ⟨u, fp, rfl, hE3, ho, hf⟩
          have q : w.heap.size + 1 < w1.heap.size := lt_of_cell d0
          have f0 : w3.frozen? ⟨w.heap.size + 1, 0, none⟩ = false := by rw [hE3.frozen q]; exact f0
          have f1 : w3.frozen? ⟨w.heap.size + 1, 1, none⟩ = false := by rw [hE3.frozen q]; exact f1
          have d0 := hE3.cell d0
          have d1 := hE3.cell d1
          have hf : ∀ h ∈ fp, w.heap.size + 2 ≤ h := fun h hh => by have := hf h hh; omega
          replace hE := hE.tr hE3
          obtain ⟨va, vc, rfl⟩ := ho.form
          go_wp2_with fail
          exact bodyPost_ret (v := .tuple #[.agg #[.int .i64 (SopOf s m (minorF s f l)).1, .slice va (SopOf s m (minorF s f l)).2.length vc], .int .i64 0]) (by simp [results, Try.results37, go_sem, d0, d1]) rfl
            (OpRes.of rfl ((hE.setCell (by simp) _).setCell (by simp) _) (ho.off ((Off.set (fp := [w.heap.size + 1]) (by simp)).trans (Off.set (by simp))) (fun h hh hm => by have := hf h hh; simp at hm; omega)) (fun h hh => by have := hf h hh; omega) (by show mkOp (SopOf s m (minorF s f l)) ≤ 1048576; rw [mkOp_SopOf]; omega))
      · rw [show SMinorOf s f m l = (noOp, 2) from by unfold SMinorOf vals; rw [h1, h2, decide_eq_false h3]; rfl]
        go_enter Try.func37, Try.ntmps37
        go_wp2_with fail
        refine (l02Ok_any _ _ _ _ hp).mono ?_
        rintro e w1 ⟨rfl, hE⟩
        replace hE := hE.ext
        have b1 := hE.cell (p := ⟨w.heap.size, 0, none⟩) (v := .int .i64 f.1) (by simp [go_sem])
        have d0 := hE.cell (p := ⟨w.heap.size + 1, 0, none⟩) (v := .int .i64 0) (by simp [go_sem])
        have d1 := hE.cell (p := ⟨w.heap.size + 1, 1, none⟩) (v := .slice none 0 0) (by simp [go_sem])
        have f0 := hE.frozen (p := ⟨w.heap.size + 1, 0, none⟩) (by simp)
        have f1 := hE.frozen (p := ⟨w.heap.size + 1, 1, none⟩) (by simp)
        simp [go_sem] at f0 f1
        replace hs := hs.ext hE
        replace hp := hp.ext hE
        replace hE := hE1.tr hE
        go_wp2_with (first | (go_at_call 62; refine (l02Arity_any _ _).mono ?_; rintro e w' ⟨rfl, rfl⟩))
        exact bodyPost_ret (v := .tuple #[.agg #[.int .i64 0, .slice none 0 0], .int .i64 2]) (by simp [results, Try.results37, go_sem, d0, d1]) rfl
          (OpRes.no ((hE.setCell (by simp) _).setCell (by simp) _))
end Go.Proofs.Ytfmoekfeajfidaa
