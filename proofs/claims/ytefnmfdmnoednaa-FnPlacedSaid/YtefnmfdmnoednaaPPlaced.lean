
/- FnPlaced returns true, whatever the input, and writes nothing that was there. Conditions: none. -/
import Derived.Test.YtefnmfdmnoednaaLiftB
import Derived.Test.YtefnmfdmnoednaaPlacedC
namespace Go.Proofs.Ytefnmfdmnoednaa.fnPlaced
open Go.ChangeShapes Go.WideShapes Go.ChangeAt Go.RowKit
set_option linter.unusedVariables false


set_option maxHeartbeats 40000000 in
set_option maxRecDepth 100000 in
theorem walk (a0 : Option Addr) (n0 c0 : Nat) (v1 : Value) (w : World) (hv0 : RdB w (.slice a0 n0 c0)) (hn0 : a0 = none → c0 = 0) (hv1 : RdB w v1) :
    Calls Try.prog 9 #[.slice a0 n0 c0, v1] w fun e w' => e = .returned (.bool true) ∧ Ext w w' := by
  have f1 := hv1
  obtain ⟨a1, _, _, n1, c1, rfl, -⟩ := f1
  by_cases z0 : (4096 : Int) < n0
  · go_enter Try.func9, Try.ntmps9
    go_wp2_with fail
    refine (f6big_any _ _ _ _).mono ?_
    rintro e s1 ⟨rfl, hE⟩
    rw [decide_eq_true z0]
    go_wp2_with fail
    go_ret
    exact ⟨rfl, hE⟩
  have D0 := decide_eq_false z0
  by_cases z1 : (4096 : Int) < n1
  · have D1 := decide_eq_true z1
    clear z0 z1
    go_enter Try.func9, Try.ntmps9
    go_wp2_with fail
    refine (f6big_any _ _ _ _).mono ?_
    rintro e s1 ⟨rfl, hE⟩
    rw [D0]
    go_wp2_with fail
    refine (f6big_any _ _ _ _).mono ?_
    rintro e s2 ⟨rfl, hC⟩
    rw [D1]
    go_wp2_with fail
    go_ret
    exact ⟨rfl, hE.tr hC⟩
  have Z0 := Lib.hid z0
  have Z1 := Lib.hid z1
  have D1 := decide_eq_false z1
  clear z0 z1
  obtain ⟨v0, hf0⟩ : ∃ v, v = Value.slice a0 n0 c0 := ⟨_, rfl⟩
  obtain ⟨v1, hf1⟩ : ∃ v, v = Value.slice a1 n1 c1 := ⟨_, rfl⟩
  have HF0 := Lib.hid hf0
  have HF1 := Lib.hid hf1
  rw [← hf0] at hv0
  rw [← hf1] at hv1
  clear hf0 hf1
  go_enter Try.func9, Try.ntmps9
  go_wp2_with fail
  refine (f6big_any _ _ _ _).mono ?_
  rintro e s1 ⟨rfl, hE⟩
  rw [D0]
  go_wp2_with fail
  refine (f6big_any _ _ _ _).mono ?_
  rintro e s2 ⟨rfl, hC⟩
  rw [D1]
  clear D0 D1
  try replace xr := xr.ext hC
  try replace xp := xp.ext hC
  try replace xq := xq.ext hC
  try replace xo := xo.ext hC
  try replace xk := xk.ext hC
  try replace xf := xf.ext hC
  try replace xa := xa.ext hC
  try replace xb := xb.ext hC
  try replace xc := xc.ext hC
  try replace xdd := xdd.ext hC
  try replace xab := xab.ext hC
  try replace xbc := xbc.ext hC
  try replace xlf := xlf.ext hC
  try replace xrg := xrg.ext hC
  try replace xsm := xsm.ext hC
  try replace xmp := xmp.ext hC
  try replace xag := xag.ext hC
  try replace rl := rl.ext hC
  try replace ru := ru.ext hC
  try replace rto := rto.ext hC
  try replace rinv := rinv.ext hC
  replace hE := hE.tr hC
  clear hC
  rw [← HF0.out, ← HF1.out]
  go_wp2_with fail
  refine (p6Pick_any v0 2 _ (hv0.ext hE) (by omega) (by omega)).mono ?_
  rintro e w1 ⟨n, nl, nh, rfl, hC⟩
  try replace xr := xr.ext hC
  try replace xp := xp.ext hC
  try replace xq := xq.ext hC
  try replace xo := xo.ext hC
  try replace xk := xk.ext hC
  try replace xf := xf.ext hC
  try replace xa := xa.ext hC
  try replace xb := xb.ext hC
  try replace xc := xc.ext hC
  try replace xdd := xdd.ext hC
  try replace xab := xab.ext hC
  try replace xbc := xbc.ext hC
  try replace xlf := xlf.ext hC
  try replace xrg := xrg.ext hC
  try replace xsm := xsm.ext hC
  try replace xmp := xmp.ext hC
  try replace xag := xag.ext hC
  try replace rl := rl.ext hC
  try replace ru := ru.ext hC
  try replace rto := rto.ext hC
  try replace rinv := rinv.ext hC
  replace hE := hE.tr hC
  clear hC
  go_wp2_with fail
  refine (p6Pick_any v0 2 _ (hv0.ext hE) (by omega) (by omega)).mono ?_
  rintro e w2 ⟨k, kl, kh, rfl, hC⟩
  try replace xr := xr.ext hC
  try replace xp := xp.ext hC
  try replace xq := xq.ext hC
  try replace xo := xo.ext hC
  try replace xk := xk.ext hC
  try replace xf := xf.ext hC
  try replace xa := xa.ext hC
  try replace xb := xb.ext hC
  try replace xc := xc.ext hC
  try replace xdd := xdd.ext hC
  try replace xab := xab.ext hC
  try replace xbc := xbc.ext hC
  try replace xlf := xlf.ext hC
  try replace xrg := xrg.ext hC
  try replace xsm := xsm.ext hC
  try replace xmp := xmp.ext hC
  try replace xag := xag.ext hC
  try replace rl := rl.ext hC
  try replace ru := ru.ext hC
  try replace rto := rto.ext hC
  try replace rinv := rinv.ext hC
  replace hE := hE.tr hC
  clear hC
  go_wp2_with fail
  obtain ⟨s, hs⟩ : ∃ s, s = 2 + n := ⟨_, rfl⟩
  obtain ⟨m, hm⟩ : ∃ m, m = 1 + k := ⟨_, rfl⟩
  rw [← hs, ← hm]
  have sl : 2 ≤ s := by omega
  have sh : s ≤ 3 := by omega
  have ml : 1 ≤ m := by omega
  have mh : m ≤ 2 := by omega
  clear hs hm nl nh kl kh
  refine (p6Rel_got v0 s m _ (hv0.ext hE) (by omega) (by omega) (by omega) (by omega)).mono ?_
  rintro e w3 ⟨tar, tcr, r, rfl, hC, rr, ir⟩
  try replace xr := xr.ext hC
  try replace xp := xp.ext hC
  try replace xq := xq.ext hC
  try replace xo := xo.ext hC
  try replace xk := xk.ext hC
  try replace xf := xf.ext hC
  try replace xa := xa.ext hC
  try replace xb := xb.ext hC
  try replace xc := xc.ext hC
  try replace xdd := xdd.ext hC
  try replace xab := xab.ext hC
  try replace xbc := xbc.ext hC
  try replace xlf := xlf.ext hC
  try replace xrg := xrg.ext hC
  try replace xsm := xsm.ext hC
  try replace xmp := xmp.ext hC
  try replace xag := xag.ext hC
  try replace rl := rl.ext hC
  try replace ru := ru.ext hC
  try replace rto := rto.ext hC
  try replace rinv := rinv.ext hC
  replace hE := hE.tr hC
  clear hC
  go_wp2_with fail
  obtain ⟨w4, hw⟩ : ∃ x, x = w3.alloc (.cells #[.int .i64 r.1, .slice tar r.2.length tcr] 25) := ⟨_, rfl⟩
  have hzw4 : w4.heap.size = w3.heap.size + 1 := by rw [hw]; simp
  have xr : RVar w4 w3.heap.size r tar tcr := hw ▸ RVar.new rr
  have hC : Ext w3 w4 := hw ▸ (Ext.refl' _).alloc (Nat.le_refl _) _
  rw [← hw]
  clear hw rr
  try replace xr := xr.ext hC
  try replace xp := xp.ext hC
  try replace xq := xq.ext hC
  try replace xo := xo.ext hC
  try replace xk := xk.ext hC
  try replace xf := xf.ext hC
  try replace xa := xa.ext hC
  try replace xb := xb.ext hC
  try replace xc := xc.ext hC
  try replace xdd := xdd.ext hC
  try replace xab := xab.ext hC
  try replace xbc := xbc.ext hC
  try replace xlf := xlf.ext hC
  try replace xrg := xrg.ext hC
  try replace xsm := xsm.ext hC
  try replace xmp := xmp.ext hC
  try replace xag := xag.ext hC
  try replace rl := rl.ext hC
  try replace ru := ru.ext hC
  try replace rto := rto.ext hC
  try replace rinv := rinv.ext hC
  replace hE := hE.tr hC
  clear hC
  have er := ir.ar
  refine (p6Places_any v1 r.1 3 _ (hv1.ext hE) (by omega) (by omega) (by omega) (by omega)).mono ?_
  rintro e w5 ⟨ul, l, fl, rfl, hC, ol, -, hll, hlv⟩
  rw [er] at hll
  have HM := Lib.hid er
  have HLL := Lib.hid hll
  clear er hll
  have rl := ol.rd
  clear ol
  obtain ⟨al, cl, rfl⟩ := rl.form
  try replace xr := xr.ext hC
  try replace xp := xp.ext hC
  try replace xq := xq.ext hC
  try replace xo := xo.ext hC
  try replace xk := xk.ext hC
  try replace xf := xf.ext hC
  try replace xa := xa.ext hC
  try replace xb := xb.ext hC
  try replace xc := xc.ext hC
  try replace xdd := xdd.ext hC
  try replace xab := xab.ext hC
  try replace xbc := xbc.ext hC
  try replace xlf := xlf.ext hC
  try replace xrg := xrg.ext hC
  try replace xsm := xsm.ext hC
  try replace xmp := xmp.ext hC
  try replace xag := xag.ext hC
  try replace rl := rl.ext hC
  try replace ru := ru.ext hC
  try replace rto := rto.ext hC
  try replace rinv := rinv.ext hC
  replace hE := hE.tr hC
  clear hC
  go_wp2_with fail
  refine (p6Tuple_any v1 s 3 _ (hv1.ext hE) (by omega) (by omega) (by omega) (by omega)).mono ?_
  rintro e w6 ⟨uu, u, fu, rfl, hC, ou, -, hul, huv⟩
  obtain ⟨u0, u1, u2, rfl⟩ := len_three (show u.length = 3 by omega)
  clear hul
  have ru := ou.rd
  clear ou
  obtain ⟨ub, uo, cu, rfl⟩ := rdI_triple ru
  try replace xr := xr.ext hC
  try replace xp := xp.ext hC
  try replace xq := xq.ext hC
  try replace xo := xo.ext hC
  try replace xk := xk.ext hC
  try replace xf := xf.ext hC
  try replace xa := xa.ext hC
  try replace xb := xb.ext hC
  try replace xc := xc.ext hC
  try replace xdd := xdd.ext hC
  try replace xab := xab.ext hC
  try replace xbc := xbc.ext hC
  try replace xlf := xlf.ext hC
  try replace xrg := xrg.ext hC
  try replace xsm := xsm.ext hC
  try replace xmp := xmp.ext hC
  try replace xag := xag.ext hC
  try replace rl := rl.ext hC
  try replace ru := ru.ext hC
  try replace rto := rto.ext hC
  try replace rinv := rinv.ext hC
  replace hE := hE.tr hC
  clear hC
  have o0r := xr.c0
  have o1r := xr.c1
  have olr := xr.lt
  go_wp2_with fail
  clear o0r o1r olr
  refine (place_got xr.rd ir rl HLL.out hlv).mono ?_
  rintro e w7 ⟨tap, tcp, p, rfl, hC, rp, ip, ep⟩
  try replace xr := xr.ext hC
  try replace xp := xp.ext hC
  try replace xq := xq.ext hC
  try replace xo := xo.ext hC
  try replace xk := xk.ext hC
  try replace xf := xf.ext hC
  try replace xa := xa.ext hC
  try replace xb := xb.ext hC
  try replace xc := xc.ext hC
  try replace xdd := xdd.ext hC
  try replace xab := xab.ext hC
  try replace xbc := xbc.ext hC
  try replace xlf := xlf.ext hC
  try replace xrg := xrg.ext hC
  try replace xsm := xsm.ext hC
  try replace xmp := xmp.ext hC
  try replace xag := xag.ext hC
  try replace rl := rl.ext hC
  try replace ru := ru.ext hC
  try replace rto := rto.ext hC
  try replace rinv := rinv.ext hC
  replace hE := hE.tr hC
  clear hC
  go_wp2_with fail
  obtain ⟨w8, hw⟩ : ∃ x, x = w7.alloc (.cells #[.int .i64 p.1, .slice tap p.2.length tcp] 25) := ⟨_, rfl⟩
  have hzw8 : w8.heap.size = w7.heap.size + 1 := by rw [hw]; simp
  have xp : RVar w8 w7.heap.size p tap tcp := hw ▸ RVar.new rp
  have hC : Ext w7 w8 := hw ▸ (Ext.refl' _).alloc (Nat.le_refl _) _
  rw [← hw]
  clear hw rp
  try replace xr := xr.ext hC
  try replace xp := xp.ext hC
  try replace xq := xq.ext hC
  try replace xo := xo.ext hC
  try replace xk := xk.ext hC
  try replace xf := xf.ext hC
  try replace xa := xa.ext hC
  try replace xb := xb.ext hC
  try replace xc := xc.ext hC
  try replace xdd := xdd.ext hC
  try replace xab := xab.ext hC
  try replace xbc := xbc.ext hC
  try replace xlf := xlf.ext hC
  try replace xrg := xrg.ext hC
  try replace xsm := xsm.ext hC
  try replace xmp := xmp.ext hC
  try replace xag := xag.ext hC
  try replace rl := rl.ext hC
  try replace ru := ru.ext hC
  try replace rto := rto.ext hC
  try replace rinv := rinv.ext hC
  replace hE := hE.tr hC
  clear hC
  refine (implHas_got xp.rd ip ru (by simp)).mono ?_
  rintro e w9 ⟨rfl, hC⟩
  try replace xr := xr.ext hC
  try replace xp := xp.ext hC
  try replace xq := xq.ext hC
  try replace xo := xo.ext hC
  try replace xk := xk.ext hC
  try replace xf := xf.ext hC
  try replace xa := xa.ext hC
  try replace xb := xb.ext hC
  try replace xc := xc.ext hC
  try replace xdd := xdd.ext hC
  try replace xab := xab.ext hC
  try replace xbc := xbc.ext hC
  try replace xlf := xlf.ext hC
  try replace xrg := xrg.ext hC
  try replace xsm := xsm.ext hC
  try replace xmp := xmp.ext hC
  try replace xag := xag.ext hC
  try replace rl := rl.ext hC
  try replace ru := ru.ext hC
  try replace rto := rto.ext hC
  try replace rinv := rinv.ext hC
  replace hE := hE.tr hC
  clear hC
  go_wp2_with fail
  have o0r := xr.c0
  have o1r := xr.c1
  have olr := xr.lt
  go_wp2_with fail
  refine region_sp [8] [9, 10] [SP.val (.int .i64 s), SP.val (.agg #[.int .i64 r.1, .slice tar r.2.length tcr]), SP.val (.slice (some ⟨ub, uo, none⟩) 3 cu), SP.val (.slice al l.length cl), SP.ownI (atP [u0, u1, u2] l), SP.val (.tuple #[.bool (hasT r (atP [u0, u1, u2] l)), .int .i64 0]), SP.val (.tuple #[.bool (hasT r (atP [u0, u1, u2] l)), .int .i64 0]), SP.val (.bool (hasT r (atP [u0, u1, u2] l))), SP.val (.int .i64 0), SP.any, SP.any] (by kernel_rfl) (fun _ d _ _ _ h => by cases d <;> exact h) (by kernel_rfl) (by kernel_rfl)
    (.cons (fun vs y hY => Step.move rfl rfl rfl rfl) <|
     .cons (fun vs y hY => Step.load ⟨w3.heap.size, 0, none⟩ rfl rfl rfl (by simp [go_sem, hY.cell o0r, hY.cell o1r]) rfl) <|
     .cons (fun vs y hY => Step.move rfl rfl rfl rfl) <|
     .cons (fun vs y hY => Step.move rfl rfl rfl rfl) <|
     .cons (fun vs y hY g2_0 g3_1 => Step.call Try.call52 rfl rfl [vs 2, vs 3] rfl rfl (by rw [show vs 2 = _ from g2_0, show vs 3 = _ from g3_1]; exact ((valuesAt_any _ _ _ _ _ (ru.ext hY) (rl.ext hY) hlv (by have := HLL.out; omega)).mono fun _ _ ⟨x, fp, he, hE, ho⟩ => ⟨x, he, hE, fp, ho⟩))) <|
     .cons (fun vs y hY g0_0 g1_1 g4_2 g4_3 => Step.call Try.call51 rfl rfl [vs 0, vs 1, vs 4] rfl rfl (by rw [show vs 0 = _ from g0_0, show vs 1 = _ from g1_1]; exact ((specHas_got (xr.rd.ext hY) ir (rdI_of_sp g4_2) (by rw [atP_length]; have := HLL.out; omega)).mono fun _ _ ⟨he, hE⟩ => ⟨_, he, hE, rfl⟩))) <|
     .cons (fun vs y hY g5_0 => Step.move rfl rfl g5_0 rfl) <|
     .cons (fun vs y hY g6_0 => Step.extract rfl rfl g6_0 rfl rfl) <|
     .free (Step.free rfl (fun vs y hY g6_0 => free_extract rfl g6_0 (by simp) rfl)) <|
     .skip rfl <|
     .skip rfl <|
     .nil) ?_
  intro vs w10 hC hL
  have r0 : vs 0 = _ := hL 0 (by decide) rfl
  have r1 : vs 1 = _ := hL 1 (by decide) rfl
  have r2 : vs 2 = _ := hL 2 (by decide) rfl
  have r3 : vs 3 = _ := hL 3 (by decide) rfl
  have r4 := hL 4 (by decide) rfl
  have r5 : vs 5 = _ := hL 5 (by decide) rfl
  have r6 : vs 6 = _ := hL 6 (by decide) rfl
  have r7 : vs 7 = _ := hL 7 (by decide) rfl
  have r8 : vs 8 = _ := hL 8 (by decide) rfl
  clear hL
  simp only [putAll, Act.put, List.contains_cons, List.contains_nil, Nat.reduceBEq, Nat.reduceAdd, Bool.or_false, Bool.or_true, cond_true, cond_false, List.setIfInBounds_toArray, List.set_cons_succ, List.set_cons_zero, List.filterMap_cons, List.filterMap_nil, List.getElem?_cons_succ, List.getElem?_cons_zero, r0, r1, r2, r3, r5, r6, r7, r8]
  clear r0 r1 r2 r3 r5 r6 r7 r8
  clear o0r o1r olr
  try replace xr := xr.ext hC
  try replace xp := xp.ext hC
  try replace xq := xq.ext hC
  try replace xo := xo.ext hC
  try replace xk := xk.ext hC
  try replace xf := xf.ext hC
  try replace xa := xa.ext hC
  try replace xb := xb.ext hC
  try replace xc := xc.ext hC
  try replace xdd := xdd.ext hC
  try replace xab := xab.ext hC
  try replace xbc := xbc.ext hC
  try replace xlf := xlf.ext hC
  try replace xrg := xrg.ext hC
  try replace xsm := xsm.ext hC
  try replace xmp := xmp.ext hC
  try replace xag := xag.ext hC
  try replace rl := rl.ext hC
  try replace ru := ru.ext hC
  try replace rto := rto.ext hC
  try replace rinv := rinv.ext hC
  replace hE := hE.tr hC
  clear hC
  have hph : hasT p [u0, u1, u2] = hasT r (atP [u0, u1, u2] l) := by rw [ep.out]; exact placed_has (by omega) (by omega) r l _ (vals_iff.2 ⟨rfl, huv⟩)
  rw [hph]
  clear hph
  generalize hasT r (atP [u0, u1, u2] l) = hb
  have hbb : (hb != hb) = false := by cases hb <;> rfl
  go_wp2_with fail
  clear hbb
  refine (p6Rel_got v1 s 1 _ (hv1.ext hE) (by omega) (by omega) (by omega) (by omega)).mono ?_
  rintro e w11 ⟨taq, tcq, q, rfl, hC, rq, iq⟩
  try replace xr := xr.ext hC
  try replace xp := xp.ext hC
  try replace xq := xq.ext hC
  try replace xo := xo.ext hC
  try replace xk := xk.ext hC
  try replace xf := xf.ext hC
  try replace xa := xa.ext hC
  try replace xb := xb.ext hC
  try replace xc := xc.ext hC
  try replace xdd := xdd.ext hC
  try replace xab := xab.ext hC
  try replace xbc := xbc.ext hC
  try replace xlf := xlf.ext hC
  try replace xrg := xrg.ext hC
  try replace xsm := xsm.ext hC
  try replace xmp := xmp.ext hC
  try replace xag := xag.ext hC
  try replace rl := rl.ext hC
  try replace ru := ru.ext hC
  try replace rto := rto.ext hC
  try replace rinv := rinv.ext hC
  replace hE := hE.tr hC
  clear hC
  have o0r := xr.c0
  have o1r := xr.c1
  have olr := xr.lt
  go_wp2_with fail
  clear o0r o1r olr
  obtain ⟨w12, hw⟩ : ∃ x, x = w11.alloc (.cells #[.int .i64 q.1, .slice taq q.2.length tcq] 25) := ⟨_, rfl⟩
  have hzw12 : w12.heap.size = w11.heap.size + 1 := by rw [hw]; simp
  have xq : RVar w12 w11.heap.size q taq tcq := hw ▸ RVar.new rq
  have hC : Ext w11 w12 := hw ▸ (Ext.refl' _).alloc (Nat.le_refl _) _
  rw [← hw]
  clear hw rq
  try replace xr := xr.ext hC
  try replace xp := xp.ext hC
  try replace xq := xq.ext hC
  try replace xo := xo.ext hC
  try replace xk := xk.ext hC
  try replace xf := xf.ext hC
  try replace xa := xa.ext hC
  try replace xb := xb.ext hC
  try replace xc := xc.ext hC
  try replace xdd := xdd.ext hC
  try replace xab := xab.ext hC
  try replace xbc := xbc.ext hC
  try replace xlf := xlf.ext hC
  try replace xrg := xrg.ext hC
  try replace xsm := xsm.ext hC
  try replace xmp := xmp.ext hC
  try replace xag := xag.ext hC
  try replace rl := rl.ext hC
  try replace ru := ru.ext hC
  try replace rto := rto.ext hC
  try replace rinv := rinv.ext hC
  replace hE := hE.tr hC
  clear hC
  refine (pair_got xq.rd iq xr.rd ir (by omega)).mono ?_
  rintro e w13 ⟨tao, tco, o, rfl, hC, ro, io, eo⟩
  try replace xr := xr.ext hC
  try replace xp := xp.ext hC
  try replace xq := xq.ext hC
  try replace xo := xo.ext hC
  try replace xk := xk.ext hC
  try replace xf := xf.ext hC
  try replace xa := xa.ext hC
  try replace xb := xb.ext hC
  try replace xc := xc.ext hC
  try replace xdd := xdd.ext hC
  try replace xab := xab.ext hC
  try replace xbc := xbc.ext hC
  try replace xlf := xlf.ext hC
  try replace xrg := xrg.ext hC
  try replace xsm := xsm.ext hC
  try replace xmp := xmp.ext hC
  try replace xag := xag.ext hC
  try replace rl := rl.ext hC
  try replace ru := ru.ext hC
  try replace rto := rto.ext hC
  try replace rinv := rinv.ext hC
  replace hE := hE.tr hC
  clear hC
  go_wp2_with fail
  obtain ⟨w14, hw⟩ : ∃ x, x = w13.alloc (.cells #[.int .i64 o.1, .slice tao o.2.length tco] 25) := ⟨_, rfl⟩
  have hzw14 : w14.heap.size = w13.heap.size + 1 := by rw [hw]; simp
  have xo : RVar w14 w13.heap.size o tao tco := hw ▸ RVar.new ro
  have hC : Ext w13 w14 := hw ▸ (Ext.refl' _).alloc (Nat.le_refl _) _
  rw [← hw]
  clear hw ro
  try replace xr := xr.ext hC
  try replace xp := xp.ext hC
  try replace xq := xq.ext hC
  try replace xo := xo.ext hC
  try replace xk := xk.ext hC
  try replace xf := xf.ext hC
  try replace xa := xa.ext hC
  try replace xb := xb.ext hC
  try replace xc := xc.ext hC
  try replace xdd := xdd.ext hC
  try replace xab := xab.ext hC
  try replace xbc := xbc.ext hC
  try replace xlf := xlf.ext hC
  try replace xrg := xrg.ext hC
  try replace xsm := xsm.ext hC
  try replace xmp := xmp.ext hC
  try replace xag := xag.ext hC
  try replace rl := rl.ext hC
  try replace ru := ru.ext hC
  try replace rto := rto.ext hC
  try replace rinv := rinv.ext hC
  replace hE := hE.tr hC
  clear hC
  obtain ⟨w15, hw⟩ : ∃ x, x = w14.alloc (.cells #[.int .i64 0] 2) := ⟨_, rfl⟩
  have rz : RdI w15 (.slice (some ⟨w14.heap.size, 0, none⟩) 1 1) [0] := hw ▸ rdI_zero w14
  have hC : Ext w14 w15 := hw ▸ (Ext.refl' _).alloc (Nat.le_refl _) _
  rw [← hw]
  rw [hzw14] at rz
  clear hw
  try replace xr := xr.ext hC
  try replace xp := xp.ext hC
  try replace xq := xq.ext hC
  try replace xo := xo.ext hC
  try replace xk := xk.ext hC
  try replace xf := xf.ext hC
  try replace xa := xa.ext hC
  try replace xb := xb.ext hC
  try replace xc := xc.ext hC
  try replace xdd := xdd.ext hC
  try replace xab := xab.ext hC
  try replace xbc := xbc.ext hC
  try replace xlf := xlf.ext hC
  try replace xrg := xrg.ext hC
  try replace xsm := xsm.ext hC
  try replace xmp := xmp.ext hC
  try replace xag := xag.ext hC
  try replace rl := rl.ext hC
  try replace ru := ru.ext hC
  try replace rto := rto.ext hC
  try replace rinv := rinv.ext hC
  replace hE := hE.tr hC
  clear hC
  refine (proj_got xo.rd io rz).mono ?_
  rintro e w16 ⟨tak, tck, k, rfl, hC, rk, ik, ek⟩
  try replace xr := xr.ext hC
  try replace xp := xp.ext hC
  try replace xq := xq.ext hC
  try replace xo := xo.ext hC
  try replace xk := xk.ext hC
  try replace xf := xf.ext hC
  try replace xa := xa.ext hC
  try replace xb := xb.ext hC
  try replace xc := xc.ext hC
  try replace xdd := xdd.ext hC
  try replace xab := xab.ext hC
  try replace xbc := xbc.ext hC
  try replace xlf := xlf.ext hC
  try replace xrg := xrg.ext hC
  try replace xsm := xsm.ext hC
  try replace xmp := xmp.ext hC
  try replace xag := xag.ext hC
  try replace rl := rl.ext hC
  try replace ru := ru.ext hC
  try replace rto := rto.ext hC
  try replace rinv := rinv.ext hC
  replace hE := hE.tr hC
  clear hC
  clear rz
  have o0r := xr.c0
  have o1r := xr.c1
  have olr := xr.lt
  have o0q := xq.c0
  have o1q := xq.c1
  have olq := xq.lt
  have o0o := xo.c0
  have o1o := xo.c1
  have olo := xo.lt
  have HL := Lib.hid (show o.2.length = q.2.length * r.2.length by rw [eo.out]; exact pairs_len iq.valid ir.valid (by have := iq.ar; have := ir.ar; omega))
  have hW : ((o.2.length : Int) = wrap64 ((q.2.length : Int) * (r.2.length : Int))) = True := by
    have h1 := Nat.mul_le_mul iq.len ir.len
    rw [← Int.natCast_mul, ← HL.out]
    rw [← HL.out] at h1
    refine eq_true ?_
    unfold wrap64
    omega
  have hW2 : ((o.2.length : Int) != wrap64 ((q.2.length : Int) * (r.2.length : Int))) = false := by rw [bne_eq_false_iff_eq, hW]; trivial
  by_cases hr0 : 0 < r.2.length
  · go_wp2_with fail
    clear o0r o1r olr
    clear o0q o1q olq
    clear o0o o1o olo
    clear hW hW2
    obtain ⟨w17, hw⟩ : ∃ x, x = w16.alloc (.cells #[.int .i64 k.1, .slice tak k.2.length tck] 25) := ⟨_, rfl⟩
    have hzw17 : w17.heap.size = w16.heap.size + 1 := by rw [hw]; simp
    have xk : RVar w17 w16.heap.size k tak tck := hw ▸ RVar.new rk
    have hC : Ext w16 w17 := hw ▸ (Ext.refl' _).alloc (Nat.le_refl _) _
    rw [← hw]
    clear hw rk
    try replace xr := xr.ext hC
    try replace xp := xp.ext hC
    try replace xq := xq.ext hC
    try replace xo := xo.ext hC
    try replace xk := xk.ext hC
    try replace xf := xf.ext hC
    try replace xa := xa.ext hC
    try replace xb := xb.ext hC
    try replace xc := xc.ext hC
    try replace xdd := xdd.ext hC
    try replace xab := xab.ext hC
    try replace xbc := xbc.ext hC
    try replace xlf := xlf.ext hC
    try replace xrg := xrg.ext hC
    try replace xsm := xsm.ext hC
    try replace xmp := xmp.ext hC
    try replace xag := xag.ext hC
    try replace rl := rl.ext hC
    try replace ru := ru.ext hC
    try replace rto := rto.ext hC
    try replace rinv := rinv.ext hC
    replace hE := hE.tr hC
    clear hC
    refine (same_got xk.rd ik xq.rd (by rw [ek.out, eo.out]; exact pairs_first iq.valid ir.valid iq.ar (by have := iq.ar; have := ir.ar; omega) hr0)).mono ?_
    rintro e w18 ⟨rfl, hC⟩
    try replace xr := xr.ext hC
    try replace xp := xp.ext hC
    try replace xq := xq.ext hC
    try replace xo := xo.ext hC
    try replace xk := xk.ext hC
    try replace xf := xf.ext hC
    try replace xa := xa.ext hC
    try replace xb := xb.ext hC
    try replace xc := xc.ext hC
    try replace xdd := xdd.ext hC
    try replace xab := xab.ext hC
    try replace xbc := xbc.ext hC
    try replace xlf := xlf.ext hC
    try replace xrg := xrg.ext hC
    try replace xsm := xsm.ext hC
    try replace xmp := xmp.ext hC
    try replace xag := xag.ext hC
    try replace rl := rl.ext hC
    try replace ru := ru.ext hC
    try replace rto := rto.ext hC
    try replace rinv := rinv.ext hC
    replace hE := hE.tr hC
    clear hC
    go_wp2_with fail
    clear xk xo xq xr rl
    have cu1 := rdI_mid ru
    obtain ⟨f, hf⟩ : ∃ f, f = SrelOf s 3 (fixP p 1 u1) := ⟨_, rfl⟩
    have if3 : IsRel s 3 f := by rw [hf]; exact .srel (by omega) (by omega) (by omega) (by omega) _
    have hfl : ∀ t ∈ f.2, (t.length : Int) = 3 ∧ t.getD 1 0 = u1 := by rw [hf]; exact fixed_at (by omega) (by omega) (by omega) (by omega) p 1 u1
    have hfx : ∀ w v, RdRel w v p → Calls Try.prog 55 #[.int .i64 s, v, .int .i64 1, .int .i64 u1] w (RelRes (f, 0) w) := fun w v h => by rw [hf]; exact fix_got h ip (huv u1 (by simp))
    clear hf
    have o0p := xp.c0
    have o1p := xp.c1
    have olp := xp.lt
    refine region_sp [8] [10, 11] [SP.val (.int .i64 s), SP.val (.agg #[.int .i64 p.1, .slice tap p.2.length tcp]), SP.val (.slice (some ⟨ub, uo, none⟩) 3 cu), SP.val (.pointer (some ⟨ub, uo + 1, none⟩)), SP.val (.int .i64 u1), SP.resRel w18.heap.size (f, 0), SP.resRel w18.heap.size (f, 0), SP.ownRelB w18.heap.size ((f, (0 : Int)) : (Int × List (List Int)) × Int).1, SP.val (.int .i64 ((f, (0 : Int)) : (Int × List (List Int)) × Int).2), SP.box2 w18.heap.size 25, SP.any, SP.any] (by kernel_rfl) (fun _ d _ _ _ h => by cases d <;> exact h) (by kernel_rfl) (by kernel_rfl)
      (.cons (fun vs y hY => Step.move rfl rfl rfl rfl) <|
       .cons (fun vs y hY => Step.load ⟨w7.heap.size, 0, none⟩ rfl rfl rfl (by simp [go_sem, hY.cell o0p, hY.cell o1p]) rfl) <|
       .cons (fun vs y hY => Step.move rfl rfl rfl rfl) <|
       .cons (fun vs y hY g2_0 => Step.indexAtP (n := .int .i64 1) ⟨ub, uo + 1, none⟩ rfl rfl g2_0 rfl (by simp [go_sem, Instr.indexAt, Addr.add] <;> omega) rfl) <|
       .cons (fun vs y hY g3_0 => Step.load ⟨ub, uo + 1, none⟩ rfl rfl g3_0 (by simp [go_sem, hY.cell cu1]) rfl) <|
       .cons (fun vs y hY g0_0 g1_1 g4_2 => Step.call Try.call55 rfl rfl [vs 0, vs 1, .int .i64 1, vs 4] rfl rfl (by rw [show vs 0 = _ from g0_0, show vs 1 = _ from g1_1, show vs 4 = _ from g4_2]; exact RelRes.sp (hfx _ _ (xp.rd.ext hY)) hY.size)) <|
       .cons (fun vs y hY g5_0 => Step.move rfl rfl rfl g5_0) <|
       .cons (fun vs y hY g6_0 => Step.resRel0 rfl rfl g6_0) <|
       .free (Step.free rfl (fun vs y hY g6_0 => free_resRel1 rfl g6_0)) <|
       .cons (fun vs y hY => Step.alloc rfl rfl (by simp [go_sem]) (box2_new hY.size)) <|
       .skip rfl <|
       .skip rfl <|
       .nil) ?_
    intro vs wy hC hL
    have r0 : vs 0 = _ := hL 0 (by decide) rfl
    have r1 : vs 1 = _ := hL 1 (by decide) rfl
    have r2 : vs 2 = _ := hL 2 (by decide) rfl
    have r3 : vs 3 = _ := hL 3 (by decide) rfl
    have r4 : vs 4 = _ := hL 4 (by decide) rfl
    have r8 : vs 8 = .int .i64 0 := hL 8 (by decide) rfl
    have r5 := hL 7 (by decide) rfl
    have rb := hL 9 (by decide) rfl
    clear hL
    obtain ⟨fpf, of, -, -⟩ := r5
    replace of : OwnRel wy (vs 7) f fpf := of
    obtain ⟨bf, hbv, lbf, hbf⟩ := rb
    have nbf : bf ∉ fpf := of.apart hbf
    obtain ⟨taf, tcf, hvo⟩ := of.form
    rw [hvo] at of
    simp only [putAll, Act.put, List.contains_cons, List.contains_nil, Nat.reduceBEq, Nat.reduceAdd, Bool.or_false, Bool.or_true, cond_true, cond_false, List.setIfInBounds_toArray, List.set_cons_succ, List.set_cons_zero, List.filterMap_cons, List.filterMap_nil, List.getElem?_cons_succ, List.getElem?_cons_zero, hbv, hvo, r0, r1, r2, r3, r4, r8]
    clear hbv hvo r0 r1 r2 r3 r4 r8
    clear o0p o1p olp
    refine wpList_store_box rfl 25 (.tmp 20) (.tmp 160) rfl rfl bf _ _ rfl rfl _ _ hbf (by kernel_rfl) rfl rfl rfl ?_
    intro wz hO z0 z1
    replace hC : Ext w18 wz := Below.trans hC (hO.below hC.size (fun g hg => by rw [List.mem_singleton] at hg; omega))
    have xf : RVar wz bf f taf tcf := ⟨z0, z1, (of.off hO (by intro g hg hm; rw [List.mem_singleton] at hm; exact nbf (hm ▸ hg))).rd⟩
    clear z0 z1 hO of nbf hbf lbf hfx cu1
    try replace xr := xr.ext hC
    try replace xp := xp.ext hC
    try replace xq := xq.ext hC
    try replace xo := xo.ext hC
    try replace xk := xk.ext hC
    try replace xf := xf.ext hC
    try replace xa := xa.ext hC
    try replace xb := xb.ext hC
    try replace xc := xc.ext hC
    try replace xdd := xdd.ext hC
    try replace xab := xab.ext hC
    try replace xbc := xbc.ext hC
    try replace xlf := xlf.ext hC
    try replace xrg := xrg.ext hC
    try replace xsm := xsm.ext hC
    try replace xmp := xmp.ext hC
    try replace xag := xag.ext hC
    try replace rl := rl.ext hC
    try replace ru := ru.ext hC
    try replace rto := rto.ext hC
    try replace rinv := rinv.ext hC
    replace hE := hE.tr hC
    clear hC
    go_wp2_with fail
    have hf256 := if3.len
    go_loopw [22] (fun i wr => ∃ j : Nat, j ≤ f.2.length ∧ i = .int .i64 (j : Nat) ∧ Ext wz wr) (fun i _ => f.2.length - (intOf i).toNat)
    case atStart => exact ⟨0, by omega, rfl, Ext.refl' _⟩
    case round =>
      obtain ⟨j, hj, rfl, hR⟩ := hrel
      by_cases hjl : j < f.2.length
      · obtain ⟨hl3, hm1⟩ := hfl f.2[j] (List.getElem_mem hjl)
        obtain ⟨fb, fo, tb, to, tc1, hta, k1, k2⟩ := rel_row xf hjl hl3
        rw [hm1] at k2
        clear hl3 hm1
        subst hta
        replace k1 := hR.cell k1
        replace k2 := hR.cell k2
        have cu1 := rdI_mid (ru.ext hR)
        have o0f := hR.cell xf.c0
        have o1f := hR.cell xf.c1
        go_wp2_with fail
        go_wp2_with fail
        refine region_sp [] [] [SP.val (.pointer (some ⟨bf, 1, none⟩)), SP.val (.slice (some ⟨fb, fo, none⟩) f.2.length tcf), SP.val (.int .i64 (j : Nat)), SP.val (.pointer (some ⟨fb, fo + j, none⟩)), SP.val (.slice (some ⟨tb, to, none⟩) 3 tc1), SP.val (.int .i64 (3 : Nat)), SP.val (.bool false), SP.val (.bool false), SP.val (.pointer (some ⟨bf, 1, none⟩)), SP.val (.slice (some ⟨fb, fo, none⟩) f.2.length tcf), SP.val (.int .i64 (j : Nat)), SP.val (.pointer (some ⟨fb, fo + j, none⟩)), SP.val (.slice (some ⟨tb, to, none⟩) 3 tc1), SP.val (.pointer (some ⟨tb, to + 1, none⟩)), SP.val (.int .i64 u1), SP.val (.slice (some ⟨ub, uo, none⟩) 3 cu), SP.val (.pointer (some ⟨ub, uo + 1, none⟩)), SP.val (.int .i64 u1), SP.val (.bool false), SP.val (.bool false)] (by kernel_rfl) (fun _ d _ _ _ h => by cases d <;> exact h) (by kernel_rfl) (by kernel_rfl)
          (.cons (fun vs y hY => Step.fieldAddr ⟨bf, 0, none⟩ rfl rfl rfl (by simp [go_sem]) rfl) <|
           .cons (fun vs y hY g0_0 => Step.load ⟨bf, 1, none⟩ rfl rfl g0_0 (by simp [go_sem, hY.cell o1f]) rfl) <|
           .cons (fun vs y hY => Step.move rfl rfl rfl rfl) <|
           .cons (fun vs y hY g1_0 g2_1 => Step.indexAtP (n := .int .i64 (j : Nat)) ⟨fb, fo + j, none⟩ rfl rfl g1_0 g2_1 (by simp [go_sem, Instr.indexAt, Addr.add, hjl] <;> omega) rfl) <|
           .cons (fun vs y hY g3_0 => Step.load ⟨fb, fo + j, none⟩ rfl rfl g3_0 (by simp [go_sem, hY.cell k1]) rfl) <|
           .cons (fun vs y hY g4_0 => Step.len Try.underlying34 rfl rfl g4_0 rfl) <|
           .cons (fun vs y hY g5_0 => Step.bin (u := .int .i64 (3 : Nat)) (v := .int .i64 3) rfl rfl g5_0 rfl (by simp [go_sem]) rfl) <|
           .cons (fun vs y hY g6_0 => Step.move rfl rfl g6_0 rfl) <|
           .cons (fun vs y hY g7_0 => Step.on rfl rfl g7_0 (GivesR.fieldAddr ⟨bf, 0, none⟩ rfl rfl (by simp [go_sem]) ⟨Ext.refl_ _, rfl⟩)) <|
           .cons (fun vs y hY g8_0 g7_1 => Step.on rfl rfl g7_1 (GivesR.load ⟨bf, 1, none⟩ rfl g8_0 (by simp [go_sem, hY.cell o1f]) ⟨Ext.refl_ _, rfl⟩)) <|
           .cons (fun vs y hY g7_0 => Step.on rfl rfl g7_0 (GivesR.move rfl rfl ⟨Ext.refl_ _, rfl⟩)) <|
           .cons (fun vs y hY g9_0 g10_1 g7_2 => Step.on rfl rfl g7_2 (GivesR.indexAtP (n := .int .i64 (j : Nat)) ⟨fb, fo + j, none⟩ rfl g9_0 g10_1 (by simp [go_sem, Instr.indexAt, Addr.add, hjl] <;> omega) ⟨Ext.refl_ _, rfl⟩)) <|
           .cons (fun vs y hY g11_0 g7_1 => Step.on rfl rfl g7_1 (GivesR.load ⟨fb, fo + j, none⟩ rfl g11_0 (by simp [go_sem, hY.cell k1]) ⟨Ext.refl_ _, rfl⟩)) <|
           .cons (fun vs y hY g12_0 g7_1 => Step.on rfl rfl g7_1 (GivesR.indexAtP (n := .int .i64 1) ⟨tb, to + 1, none⟩ rfl g12_0 rfl (by simp [go_sem, Instr.indexAt, Addr.add] <;> omega) ⟨Ext.refl_ _, rfl⟩)) <|
           .cons (fun vs y hY g13_0 g7_1 => Step.on rfl rfl g7_1 (GivesR.load ⟨tb, to + 1, none⟩ rfl g13_0 (by simp [go_sem, hY.cell k2]) ⟨Ext.refl_ _, rfl⟩)) <|
           .cons (fun vs y hY g7_0 => Step.on rfl rfl g7_0 (GivesR.move rfl rfl ⟨Ext.refl_ _, rfl⟩)) <|
           .cons (fun vs y hY g15_0 g7_1 => Step.on rfl rfl g7_1 (GivesR.indexAtP (n := .int .i64 1) ⟨ub, uo + 1, none⟩ rfl g15_0 rfl (by simp [go_sem, Instr.indexAt, Addr.add] <;> omega) ⟨Ext.refl_ _, rfl⟩)) <|
           .cons (fun vs y hY g16_0 g7_1 => Step.on rfl rfl g7_1 (GivesR.load ⟨ub, uo + 1, none⟩ rfl g16_0 (by simp [go_sem, hY.cell cu1]) ⟨Ext.refl_ _, rfl⟩)) <|
           .cons (fun vs y hY g14_0 g17_1 g7_2 => Step.on rfl rfl g7_2 (GivesR.bin (u := .int .i64 u1) (v := .int .i64 u1) rfl g14_0 g17_1 (by simp [go_sem]) ⟨Ext.refl_ _, rfl⟩)) <|
           .cons (fun vs y hY g7_0 g18_1 => Step.pick rfl rfl g7_0 rfl g18_1 rfl) <|
           .nil) ?_
        intro vs wy2 hC hL
        have r0 : vs 0 = _ := hL 0 (by decide) rfl
        have r1 : vs 1 = _ := hL 1 (by decide) rfl
        have r2 : vs 2 = _ := hL 2 (by decide) rfl
        have r3 : vs 3 = _ := hL 3 (by decide) rfl
        have r4 : vs 4 = _ := hL 4 (by decide) rfl
        have r5 : vs 5 = _ := hL 5 (by decide) rfl
        have r6 : vs 6 = _ := hL 6 (by decide) rfl
        have r7 : vs 7 = _ := hL 7 (by decide) rfl
        have r8 : vs 8 = _ := hL 8 (by decide) rfl
        have r9 : vs 9 = _ := hL 9 (by decide) rfl
        have r10 : vs 10 = _ := hL 10 (by decide) rfl
        have r11 : vs 11 = _ := hL 11 (by decide) rfl
        have r12 : vs 12 = _ := hL 12 (by decide) rfl
        have r13 : vs 13 = _ := hL 13 (by decide) rfl
        have r14 : vs 14 = _ := hL 14 (by decide) rfl
        have r15 : vs 15 = _ := hL 15 (by decide) rfl
        have r16 : vs 16 = _ := hL 16 (by decide) rfl
        have r17 : vs 17 = _ := hL 17 (by decide) rfl
        have r18 : vs 18 = _ := hL 18 (by decide) rfl
        have r19 : vs 19 = _ := hL 19 (by decide) rfl
        clear hL
        simp only [putAll, Act.put, List.contains_nil, cond_false, List.setIfInBounds_toArray, List.set_cons_succ, List.set_cons_zero, List.filterMap_nil, r0, r1, r2, r3, r4, r5, r6, r7, r8, r9, r10, r11, r12, r13, r14, r15, r16, r17, r18, r19]
        clear r0 r1 r2 r3 r4 r5 r6 r7 r8 r9 r10 r11 r12 r13 r14 r15 r16 r17 r18 r19
        go_wp2_with fail
        go_roundw
        case rel => exact ⟨j + 1, by omega, by go_num, hR.tr hC⟩
        case measure => simp [intOf]; omega
      · have hC := hR
        clear hR
        try replace xr := xr.ext hC
        try replace xp := xp.ext hC
        try replace xq := xq.ext hC
        try replace xo := xo.ext hC
        try replace xk := xk.ext hC
        try replace xf := xf.ext hC
        try replace xa := xa.ext hC
        try replace xb := xb.ext hC
        try replace xc := xc.ext hC
        try replace xdd := xdd.ext hC
        try replace xab := xab.ext hC
        try replace xbc := xbc.ext hC
        try replace xlf := xlf.ext hC
        try replace xrg := xrg.ext hC
        try replace xsm := xsm.ext hC
        try replace xmp := xmp.ext hC
        try replace xag := xag.ext hC
        try replace rl := rl.ext hC
        try replace ru := ru.ext hC
        try replace rto := rto.ext hC
        try replace rinv := rinv.ext hC
        replace hE := hE.tr hC
        clear hC
        have o0f := xf.c0
        have o1f := xf.c1
        have olf := xf.lt
        go_wp2_with fail
        clear o0f o1f olf
        clear hfl xf xp if3 ru
        refine (p6Rel_got v0 s 2 _ (hv0.ext hE) (by omega) (by omega) (by omega) (by omega)).mono ?_
        rintro e x1 ⟨taa, tca, a, rfl, hC, ra, ia⟩
        try replace xr := xr.ext hC
        try replace xp := xp.ext hC
        try replace xq := xq.ext hC
        try replace xo := xo.ext hC
        try replace xk := xk.ext hC
        try replace xf := xf.ext hC
        try replace xa := xa.ext hC
        try replace xb := xb.ext hC
        try replace xc := xc.ext hC
        try replace xdd := xdd.ext hC
        try replace xab := xab.ext hC
        try replace xbc := xbc.ext hC
        try replace xlf := xlf.ext hC
        try replace xrg := xrg.ext hC
        try replace xsm := xsm.ext hC
        try replace xmp := xmp.ext hC
        try replace xag := xag.ext hC
        try replace rl := rl.ext hC
        try replace ru := ru.ext hC
        try replace rto := rto.ext hC
        try replace rinv := rinv.ext hC
        replace hE := hE.tr hC
        clear hC
        go_wp2_with fail
        obtain ⟨x2, hw⟩ : ∃ x, x = x1.alloc (.cells #[.int .i64 a.1, .slice taa a.2.length tca] 25) := ⟨_, rfl⟩
        have hzx2 : x2.heap.size = x1.heap.size + 1 := by rw [hw]; simp
        have xa : RVar x2 x1.heap.size a taa tca := hw ▸ RVar.new ra
        have hC : Ext x1 x2 := hw ▸ (Ext.refl' _).alloc (Nat.le_refl _) _
        rw [← hw]
        clear hw ra
        try replace xr := xr.ext hC
        try replace xp := xp.ext hC
        try replace xq := xq.ext hC
        try replace xo := xo.ext hC
        try replace xk := xk.ext hC
        try replace xf := xf.ext hC
        try replace xa := xa.ext hC
        try replace xb := xb.ext hC
        try replace xc := xc.ext hC
        try replace xdd := xdd.ext hC
        try replace xab := xab.ext hC
        try replace xbc := xbc.ext hC
        try replace xlf := xlf.ext hC
        try replace xrg := xrg.ext hC
        try replace xsm := xsm.ext hC
        try replace xmp := xmp.ext hC
        try replace xag := xag.ext hC
        try replace rl := rl.ext hC
        try replace ru := ru.ext hC
        try replace rto := rto.ext hC
        try replace rinv := rinv.ext hC
        replace hE := hE.tr hC
        clear hC
        refine (p6Rel_got v1 s 2 _ (hv1.ext hE) (by omega) (by omega) (by omega) (by omega)).mono ?_
        rintro e x3 ⟨tab, tcb, b, rfl, hC, rb, ib⟩
        try replace xr := xr.ext hC
        try replace xp := xp.ext hC
        try replace xq := xq.ext hC
        try replace xo := xo.ext hC
        try replace xk := xk.ext hC
        try replace xf := xf.ext hC
        try replace xa := xa.ext hC
        try replace xb := xb.ext hC
        try replace xc := xc.ext hC
        try replace xdd := xdd.ext hC
        try replace xab := xab.ext hC
        try replace xbc := xbc.ext hC
        try replace xlf := xlf.ext hC
        try replace xrg := xrg.ext hC
        try replace xsm := xsm.ext hC
        try replace xmp := xmp.ext hC
        try replace xag := xag.ext hC
        try replace rl := rl.ext hC
        try replace ru := ru.ext hC
        try replace rto := rto.ext hC
        try replace rinv := rinv.ext hC
        replace hE := hE.tr hC
        clear hC
        have hf0 := HF0.out
        clear HF0
        subst hf0
        have hA3 : Ext x3 (x3.alloc (.cells #[.int .i64 b.1, .slice tab b.2.length tcb] 25)) := (Ext.refl' _).alloc (Nat.le_refl _) _
        have hA4 : Ext (x3.alloc (.cells #[.int .i64 b.1, .slice tab b.2.length tcb] 25)) ((x3.alloc (.cells #[.int .i64 b.1, .slice tab b.2.length tcb] 25)).alloc (.cells #[.int .u8 4] 5)) := (Ext.refl' _).alloc (Nat.le_refl _) _
        have hvE := ((hv0.ext hE).ext hA3).ext hA4
        have hrow := row_four (x3.alloc (.cells #[.int .i64 b.1, .slice tab b.2.length tcb] 25)) (x3.heap.size + 1) (by simp)
        rw [World.size_alloc] at hrow
        have hn4 : n0 ≤ 4096 := by have := Z0.out; omega
        go_wp2_with (at_builtin; refine wpList_bytes (base := x3.heap.size + 1) hvE hn4 hn0 hrow (by simp) rfl (.tmp 197) (.tmp 198) rfl rfl rfl ?_)
        intro xa' xn' xc' x5 hvx hg5
        have hC5 := hA4.grown hg5 (by simp) (fun h hh => by simp [Value.ownBlock] at hh; simp; omega)
        have hC : Ext x3 x5 := hA3.tr hC5
        have xb : RVar x5 x3.heap.size b tab tcb := (RVar.new rb).ext hC5
        clear rb hC5 hA3 hA4 hn4
        clear hvE hrow hg5
        try replace xr := xr.ext hC
        try replace xp := xp.ext hC
        try replace xq := xq.ext hC
        try replace xo := xo.ext hC
        try replace xk := xk.ext hC
        try replace xf := xf.ext hC
        try replace xa := xa.ext hC
        try replace xb := xb.ext hC
        try replace xc := xc.ext hC
        try replace xdd := xdd.ext hC
        try replace xab := xab.ext hC
        try replace xbc := xbc.ext hC
        try replace xlf := xlf.ext hC
        try replace xrg := xrg.ext hC
        try replace xsm := xsm.ext hC
        try replace xmp := xmp.ext hC
        try replace xag := xag.ext hC
        try replace rl := rl.ext hC
        try replace ru := ru.ext hC
        try replace rto := rto.ext hC
        try replace rinv := rinv.ext hC
        replace hE := hE.tr hC
        clear hC
        go_wp2_with fail
        refine (p6Rel_got (.slice xa' xn' xc') s 2 _ hvx (by omega) (by omega) (by omega) (by omega)).mono ?_
        rintro e x6 ⟨tac, tcc, c, rfl, hC, rc, ic⟩
        try replace xr := xr.ext hC
        try replace xp := xp.ext hC
        try replace xq := xq.ext hC
        try replace xo := xo.ext hC
        try replace xk := xk.ext hC
        try replace xf := xf.ext hC
        try replace xa := xa.ext hC
        try replace xb := xb.ext hC
        try replace xc := xc.ext hC
        try replace xdd := xdd.ext hC
        try replace xab := xab.ext hC
        try replace xbc := xbc.ext hC
        try replace xlf := xlf.ext hC
        try replace xrg := xrg.ext hC
        try replace xsm := xsm.ext hC
        try replace xmp := xmp.ext hC
        try replace xag := xag.ext hC
        try replace rl := rl.ext hC
        try replace ru := ru.ext hC
        try replace rto := rto.ext hC
        try replace rinv := rinv.ext hC
        replace hE := hE.tr hC
        clear hC
        clear hvx
        go_wp2_with fail
        obtain ⟨x7, hw⟩ : ∃ x, x = x6.alloc (.cells #[.int .i64 c.1, .slice tac c.2.length tcc] 25) := ⟨_, rfl⟩
        have hzx7 : x7.heap.size = x6.heap.size + 1 := by rw [hw]; simp
        have xc : RVar x7 x6.heap.size c tac tcc := hw ▸ RVar.new rc
        have hC : Ext x6 x7 := hw ▸ (Ext.refl' _).alloc (Nat.le_refl _) _
        rw [← hw]
        clear hw rc
        try replace xr := xr.ext hC
        try replace xp := xp.ext hC
        try replace xq := xq.ext hC
        try replace xo := xo.ext hC
        try replace xk := xk.ext hC
        try replace xf := xf.ext hC
        try replace xa := xa.ext hC
        try replace xb := xb.ext hC
        try replace xc := xc.ext hC
        try replace xdd := xdd.ext hC
        try replace xab := xab.ext hC
        try replace xbc := xbc.ext hC
        try replace xlf := xlf.ext hC
        try replace xrg := xrg.ext hC
        try replace xsm := xsm.ext hC
        try replace xmp := xmp.ext hC
        try replace xag := xag.ext hC
        try replace rl := rl.ext hC
        try replace ru := ru.ext hC
        try replace rto := rto.ext hC
        try replace rinv := rinv.ext hC
        replace hE := hE.tr hC
        clear hC
        refine (equal_got s _ (by omega) (by omega)).mono ?_
        rintro e x8 ⟨tadd, tcdd, dd, rfl, hC, rdd, idd, edd⟩
        try replace xr := xr.ext hC
        try replace xp := xp.ext hC
        try replace xq := xq.ext hC
        try replace xo := xo.ext hC
        try replace xk := xk.ext hC
        try replace xf := xf.ext hC
        try replace xa := xa.ext hC
        try replace xb := xb.ext hC
        try replace xc := xc.ext hC
        try replace xdd := xdd.ext hC
        try replace xab := xab.ext hC
        try replace xbc := xbc.ext hC
        try replace xlf := xlf.ext hC
        try replace xrg := xrg.ext hC
        try replace xsm := xsm.ext hC
        try replace xmp := xmp.ext hC
        try replace xag := xag.ext hC
        try replace rl := rl.ext hC
        try replace ru := ru.ext hC
        try replace rto := rto.ext hC
        try replace rinv := rinv.ext hC
        replace hE := hE.tr hC
        clear hC
        have o0a := xa.c0
        have o1a := xa.c1
        have ola := xa.lt
        have o0b := xb.c0
        have o1b := xb.c1
        have olb := xb.lt
        go_wp2_with fail
        clear o0a o1a ola
        clear o0b o1b olb
        obtain ⟨x9, hw⟩ : ∃ x, x = x8.alloc (.cells #[.int .i64 dd.1, .slice tadd dd.2.length tcdd] 25) := ⟨_, rfl⟩
        have hzx9 : x9.heap.size = x8.heap.size + 1 := by rw [hw]; simp
        have xdd : RVar x9 x8.heap.size dd tadd tcdd := hw ▸ RVar.new rdd
        have hC : Ext x8 x9 := hw ▸ (Ext.refl' _).alloc (Nat.le_refl _) _
        rw [← hw]
        clear hw rdd
        try replace xr := xr.ext hC
        try replace xp := xp.ext hC
        try replace xq := xq.ext hC
        try replace xo := xo.ext hC
        try replace xk := xk.ext hC
        try replace xf := xf.ext hC
        try replace xa := xa.ext hC
        try replace xb := xb.ext hC
        try replace xc := xc.ext hC
        try replace xdd := xdd.ext hC
        try replace xab := xab.ext hC
        try replace xbc := xbc.ext hC
        try replace xlf := xlf.ext hC
        try replace xrg := xrg.ext hC
        try replace xsm := xsm.ext hC
        try replace xmp := xmp.ext hC
        try replace xag := xag.ext hC
        try replace rl := rl.ext hC
        try replace ru := ru.ext hC
        try replace rto := rto.ext hC
        try replace rinv := rinv.ext hC
        replace hE := hE.tr hC
        clear hC
        refine (comp_got xa.rd ia xb.rd ib).mono ?_
        rintro e x10 ⟨taab, tcab, ab, rfl, hC, rab, iab, eab⟩
        try replace xr := xr.ext hC
        try replace xp := xp.ext hC
        try replace xq := xq.ext hC
        try replace xo := xo.ext hC
        try replace xk := xk.ext hC
        try replace xf := xf.ext hC
        try replace xa := xa.ext hC
        try replace xb := xb.ext hC
        try replace xc := xc.ext hC
        try replace xdd := xdd.ext hC
        try replace xab := xab.ext hC
        try replace xbc := xbc.ext hC
        try replace xlf := xlf.ext hC
        try replace xrg := xrg.ext hC
        try replace xsm := xsm.ext hC
        try replace xmp := xmp.ext hC
        try replace xag := xag.ext hC
        try replace rl := rl.ext hC
        try replace ru := ru.ext hC
        try replace rto := rto.ext hC
        try replace rinv := rinv.ext hC
        replace hE := hE.tr hC
        clear hC
        have o0b := xb.c0
        have o1b := xb.c1
        have olb := xb.lt
        have o0c := xc.c0
        have o1c := xc.c1
        have olc := xc.lt
        go_wp2_with fail
        clear o0b o1b olb
        clear o0c o1c olc
        obtain ⟨x11, hw⟩ : ∃ x, x = x10.alloc (.cells #[.int .i64 ab.1, .slice taab ab.2.length tcab] 25) := ⟨_, rfl⟩
        have hzx11 : x11.heap.size = x10.heap.size + 1 := by rw [hw]; simp
        have xab : RVar x11 x10.heap.size ab taab tcab := hw ▸ RVar.new rab
        have hC : Ext x10 x11 := hw ▸ (Ext.refl' _).alloc (Nat.le_refl _) _
        rw [← hw]
        clear hw rab
        try replace xr := xr.ext hC
        try replace xp := xp.ext hC
        try replace xq := xq.ext hC
        try replace xo := xo.ext hC
        try replace xk := xk.ext hC
        try replace xf := xf.ext hC
        try replace xa := xa.ext hC
        try replace xb := xb.ext hC
        try replace xc := xc.ext hC
        try replace xdd := xdd.ext hC
        try replace xab := xab.ext hC
        try replace xbc := xbc.ext hC
        try replace xlf := xlf.ext hC
        try replace xrg := xrg.ext hC
        try replace xsm := xsm.ext hC
        try replace xmp := xmp.ext hC
        try replace xag := xag.ext hC
        try replace rl := rl.ext hC
        try replace ru := ru.ext hC
        try replace rto := rto.ext hC
        try replace rinv := rinv.ext hC
        replace hE := hE.tr hC
        clear hC
        refine (comp_got xb.rd ib xc.rd ic).mono ?_
        rintro e x12 ⟨tabc, tcbc, bc, rfl, hC, rbc, ibc, ebc⟩
        try replace xr := xr.ext hC
        try replace xp := xp.ext hC
        try replace xq := xq.ext hC
        try replace xo := xo.ext hC
        try replace xk := xk.ext hC
        try replace xf := xf.ext hC
        try replace xa := xa.ext hC
        try replace xb := xb.ext hC
        try replace xc := xc.ext hC
        try replace xdd := xdd.ext hC
        try replace xab := xab.ext hC
        try replace xbc := xbc.ext hC
        try replace xlf := xlf.ext hC
        try replace xrg := xrg.ext hC
        try replace xsm := xsm.ext hC
        try replace xmp := xmp.ext hC
        try replace xag := xag.ext hC
        try replace rl := rl.ext hC
        try replace ru := ru.ext hC
        try replace rto := rto.ext hC
        try replace rinv := rinv.ext hC
        replace hE := hE.tr hC
        clear hC
        have o0ab := xab.c0
        have o1ab := xab.c1
        have olab := xab.lt
        have o0c := xc.c0
        have o1c := xc.c1
        have olc := xc.lt
        go_wp2_with fail
        clear o0ab o1ab olab
        clear o0c o1c olc
        obtain ⟨x13, hw⟩ : ∃ x, x = x12.alloc (.cells #[.int .i64 bc.1, .slice tabc bc.2.length tcbc] 25) := ⟨_, rfl⟩
        have hzx13 : x13.heap.size = x12.heap.size + 1 := by rw [hw]; simp
        have xbc : RVar x13 x12.heap.size bc tabc tcbc := hw ▸ RVar.new rbc
        have hC : Ext x12 x13 := hw ▸ (Ext.refl' _).alloc (Nat.le_refl _) _
        rw [← hw]
        clear hw rbc
        try replace xr := xr.ext hC
        try replace xp := xp.ext hC
        try replace xq := xq.ext hC
        try replace xo := xo.ext hC
        try replace xk := xk.ext hC
        try replace xf := xf.ext hC
        try replace xa := xa.ext hC
        try replace xb := xb.ext hC
        try replace xc := xc.ext hC
        try replace xdd := xdd.ext hC
        try replace xab := xab.ext hC
        try replace xbc := xbc.ext hC
        try replace xlf := xlf.ext hC
        try replace xrg := xrg.ext hC
        try replace xsm := xsm.ext hC
        try replace xmp := xmp.ext hC
        try replace xag := xag.ext hC
        try replace rl := rl.ext hC
        try replace ru := ru.ext hC
        try replace rto := rto.ext hC
        try replace rinv := rinv.ext hC
        replace hE := hE.tr hC
        clear hC
        refine (comp_got xab.rd iab xc.rd ic).mono ?_
        rintro e x14 ⟨talf, tclf, lf, rfl, hC, rlf, ilf, elf⟩
        try replace xr := xr.ext hC
        try replace xp := xp.ext hC
        try replace xq := xq.ext hC
        try replace xo := xo.ext hC
        try replace xk := xk.ext hC
        try replace xf := xf.ext hC
        try replace xa := xa.ext hC
        try replace xb := xb.ext hC
        try replace xc := xc.ext hC
        try replace xdd := xdd.ext hC
        try replace xab := xab.ext hC
        try replace xbc := xbc.ext hC
        try replace xlf := xlf.ext hC
        try replace xrg := xrg.ext hC
        try replace xsm := xsm.ext hC
        try replace xmp := xmp.ext hC
        try replace xag := xag.ext hC
        try replace rl := rl.ext hC
        try replace ru := ru.ext hC
        try replace rto := rto.ext hC
        try replace rinv := rinv.ext hC
        replace hE := hE.tr hC
        clear hC
        have o0a := xa.c0
        have o1a := xa.c1
        have ola := xa.lt
        have o0bc := xbc.c0
        have o1bc := xbc.c1
        have olbc := xbc.lt
        go_wp2_with fail
        clear o0a o1a ola
        clear o0bc o1bc olbc
        obtain ⟨x15, hw⟩ : ∃ x, x = x14.alloc (.cells #[.int .i64 lf.1, .slice talf lf.2.length tclf] 25) := ⟨_, rfl⟩
        have hzx15 : x15.heap.size = x14.heap.size + 1 := by rw [hw]; simp
        have xlf : RVar x15 x14.heap.size lf talf tclf := hw ▸ RVar.new rlf
        have hC : Ext x14 x15 := hw ▸ (Ext.refl' _).alloc (Nat.le_refl _) _
        rw [← hw]
        clear hw rlf
        try replace xr := xr.ext hC
        try replace xp := xp.ext hC
        try replace xq := xq.ext hC
        try replace xo := xo.ext hC
        try replace xk := xk.ext hC
        try replace xf := xf.ext hC
        try replace xa := xa.ext hC
        try replace xb := xb.ext hC
        try replace xc := xc.ext hC
        try replace xdd := xdd.ext hC
        try replace xab := xab.ext hC
        try replace xbc := xbc.ext hC
        try replace xlf := xlf.ext hC
        try replace xrg := xrg.ext hC
        try replace xsm := xsm.ext hC
        try replace xmp := xmp.ext hC
        try replace xag := xag.ext hC
        try replace rl := rl.ext hC
        try replace ru := ru.ext hC
        try replace rto := rto.ext hC
        try replace rinv := rinv.ext hC
        replace hE := hE.tr hC
        clear hC
        refine (comp_got xa.rd ia xbc.rd ibc).mono ?_
        rintro e x16 ⟨targ, tcrg, rg, rfl, hC, rrg, irg, erg⟩
        try replace xr := xr.ext hC
        try replace xp := xp.ext hC
        try replace xq := xq.ext hC
        try replace xo := xo.ext hC
        try replace xk := xk.ext hC
        try replace xf := xf.ext hC
        try replace xa := xa.ext hC
        try replace xb := xb.ext hC
        try replace xc := xc.ext hC
        try replace xdd := xdd.ext hC
        try replace xab := xab.ext hC
        try replace xbc := xbc.ext hC
        try replace xlf := xlf.ext hC
        try replace xrg := xrg.ext hC
        try replace xsm := xsm.ext hC
        try replace xmp := xmp.ext hC
        try replace xag := xag.ext hC
        try replace rl := rl.ext hC
        try replace ru := ru.ext hC
        try replace rto := rto.ext hC
        try replace rinv := rinv.ext hC
        replace hE := hE.tr hC
        clear hC
        have o0a := xa.c0
        have o1a := xa.c1
        have ola := xa.lt
        have o0dd := xdd.c0
        have o1dd := xdd.c1
        have oldd := xdd.lt
        go_wp2_with fail
        clear o0a o1a ola
        clear o0dd o1dd oldd
        obtain ⟨x17, hw⟩ : ∃ x, x = x16.alloc (.cells #[.int .i64 rg.1, .slice targ rg.2.length tcrg] 25) := ⟨_, rfl⟩
        have hzx17 : x17.heap.size = x16.heap.size + 1 := by rw [hw]; simp
        have xrg : RVar x17 x16.heap.size rg targ tcrg := hw ▸ RVar.new rrg
        have hC : Ext x16 x17 := hw ▸ (Ext.refl' _).alloc (Nat.le_refl _) _
        rw [← hw]
        clear hw rrg
        try replace xr := xr.ext hC
        try replace xp := xp.ext hC
        try replace xq := xq.ext hC
        try replace xo := xo.ext hC
        try replace xk := xk.ext hC
        try replace xf := xf.ext hC
        try replace xa := xa.ext hC
        try replace xb := xb.ext hC
        try replace xc := xc.ext hC
        try replace xdd := xdd.ext hC
        try replace xab := xab.ext hC
        try replace xbc := xbc.ext hC
        try replace xlf := xlf.ext hC
        try replace xrg := xrg.ext hC
        try replace xsm := xsm.ext hC
        try replace xmp := xmp.ext hC
        try replace xag := xag.ext hC
        try replace rl := rl.ext hC
        try replace ru := ru.ext hC
        try replace rto := rto.ext hC
        try replace rinv := rinv.ext hC
        replace hE := hE.tr hC
        clear hC
        refine (comp_got xa.rd ia xdd.rd idd).mono ?_
        rintro e x18 ⟨tasm, tcsm, sm, rfl, hC, rsm, ism, esm⟩
        try replace xr := xr.ext hC
        try replace xp := xp.ext hC
        try replace xq := xq.ext hC
        try replace xo := xo.ext hC
        try replace xk := xk.ext hC
        try replace xf := xf.ext hC
        try replace xa := xa.ext hC
        try replace xb := xb.ext hC
        try replace xc := xc.ext hC
        try replace xdd := xdd.ext hC
        try replace xab := xab.ext hC
        try replace xbc := xbc.ext hC
        try replace xlf := xlf.ext hC
        try replace xrg := xrg.ext hC
        try replace xsm := xsm.ext hC
        try replace xmp := xmp.ext hC
        try replace xag := xag.ext hC
        try replace rl := rl.ext hC
        try replace ru := ru.ext hC
        try replace rto := rto.ext hC
        try replace rinv := rinv.ext hC
        replace hE := hE.tr hC
        clear hC
        have o0lf := xlf.c0
        have o1lf := xlf.c1
        have ollf := xlf.lt
        have o0rg := xrg.c0
        have o1rg := xrg.c1
        have olrg := xrg.lt
        go_wp2_with fail
        clear o0lf o1lf ollf
        clear o0rg o1rg olrg
        obtain ⟨x19, hw⟩ : ∃ x, x = x18.alloc (.cells #[.int .i64 sm.1, .slice tasm sm.2.length tcsm] 25) := ⟨_, rfl⟩
        have hzx19 : x19.heap.size = x18.heap.size + 1 := by rw [hw]; simp
        have xsm : RVar x19 x18.heap.size sm tasm tcsm := hw ▸ RVar.new rsm
        have hC : Ext x18 x19 := hw ▸ (Ext.refl' _).alloc (Nat.le_refl _) _
        rw [← hw]
        clear hw rsm
        try replace xr := xr.ext hC
        try replace xp := xp.ext hC
        try replace xq := xq.ext hC
        try replace xo := xo.ext hC
        try replace xk := xk.ext hC
        try replace xf := xf.ext hC
        try replace xa := xa.ext hC
        try replace xb := xb.ext hC
        try replace xc := xc.ext hC
        try replace xdd := xdd.ext hC
        try replace xab := xab.ext hC
        try replace xbc := xbc.ext hC
        try replace xlf := xlf.ext hC
        try replace xrg := xrg.ext hC
        try replace xsm := xsm.ext hC
        try replace xmp := xmp.ext hC
        try replace xag := xag.ext hC
        try replace rl := rl.ext hC
        try replace ru := ru.ext hC
        try replace rto := rto.ext hC
        try replace rinv := rinv.ext hC
        replace hE := hE.tr hC
        clear hC
        refine (same_got xlf.rd ilf xrg.rd (by rw [elf.out, erg.out, eab.out, ebc.out]; exact comp_assoc ia.valid ib.valid ic.valid ia.ar ib.ar ic.ar)).mono ?_
        rintro e x20 ⟨rfl, hC⟩
        try replace xr := xr.ext hC
        try replace xp := xp.ext hC
        try replace xq := xq.ext hC
        try replace xo := xo.ext hC
        try replace xk := xk.ext hC
        try replace xf := xf.ext hC
        try replace xa := xa.ext hC
        try replace xb := xb.ext hC
        try replace xc := xc.ext hC
        try replace xdd := xdd.ext hC
        try replace xab := xab.ext hC
        try replace xbc := xbc.ext hC
        try replace xlf := xlf.ext hC
        try replace xrg := xrg.ext hC
        try replace xsm := xsm.ext hC
        try replace xmp := xmp.ext hC
        try replace xag := xag.ext hC
        try replace rl := rl.ext hC
        try replace ru := ru.ext hC
        try replace rto := rto.ext hC
        try replace rinv := rinv.ext hC
        replace hE := hE.tr hC
        clear hC
        have o0sm := xsm.c0
        have o1sm := xsm.c1
        have olsm := xsm.lt
        have o0a := xa.c0
        have o1a := xa.c1
        have ola := xa.lt
        go_wp2_with fail
        clear o0sm o1sm olsm
        clear o0a o1a ola
        refine (same_got xsm.rd ism xa.rd (by rw [esm.out, edd.out]; exact comp_equal ia.valid ia.ar)).mono ?_
        rintro e x21 ⟨rfl, hC⟩
        try replace xr := xr.ext hC
        try replace xp := xp.ext hC
        try replace xq := xq.ext hC
        try replace xo := xo.ext hC
        try replace xk := xk.ext hC
        try replace xf := xf.ext hC
        try replace xa := xa.ext hC
        try replace xb := xb.ext hC
        try replace xc := xc.ext hC
        try replace xdd := xdd.ext hC
        try replace xab := xab.ext hC
        try replace xbc := xbc.ext hC
        try replace xlf := xlf.ext hC
        try replace xrg := xrg.ext hC
        try replace xsm := xsm.ext hC
        try replace xmp := xmp.ext hC
        try replace xag := xag.ext hC
        try replace rl := rl.ext hC
        try replace ru := ru.ext hC
        try replace rto := rto.ext hC
        try replace rinv := rinv.ext hC
        replace hE := hE.tr hC
        clear hC
        clear xb xc xdd xab xbc xlf xrg xsm
        rcases (show s = 2 ∨ s = 3 by omega) with rfl | rfl
        · go_wp2_with fail
          obtain ⟨x22, hw⟩ : ∃ x, x = x21.alloc (.cells #[.int .i64 1, .int .i64 0] 2) := ⟨_, rfl⟩
          have t0 : x22.cell? ⟨x21.heap.size, 0, none⟩ = some (.int .i64 1) := by rw [hw]; simp [go_sem]
          have t1 : x22.cell? ⟨x21.heap.size, 1, none⟩ = some (.int .i64 0) := by rw [hw]; simp [go_sem]
          have hC : Ext x21 x22 := hw ▸ (Ext.refl' _).alloc (Nat.le_refl _) _
          have rto := rdI_cells2 t0 t1
          rw [← hw]
          clear hw
          try replace xr := xr.ext hC
          try replace xp := xp.ext hC
          try replace xq := xq.ext hC
          try replace xo := xo.ext hC
          try replace xk := xk.ext hC
          try replace xf := xf.ext hC
          try replace xa := xa.ext hC
          try replace xb := xb.ext hC
          try replace xc := xc.ext hC
          try replace xdd := xdd.ext hC
          try replace xab := xab.ext hC
          try replace xbc := xbc.ext hC
          try replace xlf := xlf.ext hC
          try replace xrg := xrg.ext hC
          try replace xsm := xsm.ext hC
          try replace xmp := xmp.ext hC
          try replace xag := xag.ext hC
          try replace rl := rl.ext hC
          try replace ru := ru.ext hC
          try replace rto := rto.ext hC
          try replace rinv := rinv.ext hC
          replace hE := hE.tr hC
          clear hC
          rw [mk2]
          go_wp2_with fail
          go_loopw [40] (fun i wr => ∃ j : Nat, j ≤ 2 ∧ i = .int .i64 (j : Nat) ∧ Ext x22 wr ∧ wr.cell? ⟨x22.heap.size, 0, none⟩ = some (.int .i64 (inv2 j).1) ∧ wr.cell? ⟨x22.heap.size, 1, none⟩ = some (.int .i64 (inv2 j).2) ∧ wr.frozen? ⟨x22.heap.size, 0, none⟩ = false ∧ wr.frozen? ⟨x22.heap.size, 1, none⟩ = false) (fun i _ => 2 - (intOf i).toNat)
          case atStart => exact ⟨0, by omega, rfl, (Ext.refl' _).alloc (Nat.le_refl _) _, by simp [go_sem, inv2], by simp [go_sem, inv2], by simp [go_sem], by simp [go_sem]⟩
          case round =>
            obtain ⟨j, hj, rfl, hR, c0, c1, f0, f1⟩ := hrel
            replace t0 := hR.cell t0
            replace t1 := hR.cell t1
            rcases (show j = 0 ∨ j = 1 ∨ j = 2 by omega) with rfl | rfl | rfl
            · go_wp2_with fail
              go_roundw
              case rel => exact ⟨1, by omega, by go_num, hR.setCell (Nat.le_refl _) _, cell_set c0 (.inr (by simp)), cell_same c1, by simpa using f0, by simpa using f1⟩
              case measure => simp [intOf]
            · go_wp2_with fail
              go_roundw
              case rel => exact ⟨2, by omega, by go_num, hR.setCell (Nat.le_refl _) _, cell_same c0, cell_set c1 (.inr (by simp)), by simpa using f0, by simpa using f1⟩
              case measure => simp [intOf]
            · have rinv := rdI_cells2 c0 c1
              have hC := hR
              clear c0 c1 f0 f1 t0 t1 hR
              try replace xr := xr.ext hC
              try replace xp := xp.ext hC
              try replace xq := xq.ext hC
              try replace xo := xo.ext hC
              try replace xk := xk.ext hC
              try replace xf := xf.ext hC
              try replace xa := xa.ext hC
              try replace xb := xb.ext hC
              try replace xc := xc.ext hC
              try replace xdd := xdd.ext hC
              try replace xab := xab.ext hC
              try replace xbc := xbc.ext hC
              try replace xlf := xlf.ext hC
              try replace xrg := xrg.ext hC
              try replace xsm := xsm.ext hC
              try replace xmp := xmp.ext hC
              try replace xag := xag.ext hC
              try replace rl := rl.ext hC
              try replace ru := ru.ext hC
              try replace rto := rto.ext hC
              try replace rinv := rinv.ext hC
              replace hE := hE.tr hC
              clear hC
              have o0a := xa.c0
              have o1a := xa.c1
              have ola := xa.lt
              go_wp2_with fail
              clear o0a o1a ola
              refine (map_got xa.rd ia rto rfl).mono ?_
              rintro e x24 ⟨tamp, tcmp, mp, rfl, hC, rmp, imp, emp⟩
              try replace xr := xr.ext hC
              try replace xp := xp.ext hC
              try replace xq := xq.ext hC
              try replace xo := xo.ext hC
              try replace xk := xk.ext hC
              try replace xf := xf.ext hC
              try replace xa := xa.ext hC
              try replace xb := xb.ext hC
              try replace xc := xc.ext hC
              try replace xdd := xdd.ext hC
              try replace xab := xab.ext hC
              try replace xbc := xbc.ext hC
              try replace xlf := xlf.ext hC
              try replace xrg := xrg.ext hC
              try replace xsm := xsm.ext hC
              try replace xmp := xmp.ext hC
              try replace xag := xag.ext hC
              try replace rl := rl.ext hC
              try replace ru := ru.ext hC
              try replace rto := rto.ext hC
              try replace rinv := rinv.ext hC
              replace hE := hE.tr hC
              clear hC
              go_wp2_with fail
              obtain ⟨x25, hw⟩ : ∃ x, x = x24.alloc (.cells #[.int .i64 mp.1, .slice tamp mp.2.length tcmp] 25) := ⟨_, rfl⟩
              have hzx25 : x25.heap.size = x24.heap.size + 1 := by rw [hw]; simp
              have xmp : RVar x25 x24.heap.size mp tamp tcmp := hw ▸ RVar.new rmp
              have hC : Ext x24 x25 := hw ▸ (Ext.refl' _).alloc (Nat.le_refl _) _
              rw [← hw]
              clear hw rmp
              try replace xr := xr.ext hC
              try replace xp := xp.ext hC
              try replace xq := xq.ext hC
              try replace xo := xo.ext hC
              try replace xk := xk.ext hC
              try replace xf := xf.ext hC
              try replace xa := xa.ext hC
              try replace xb := xb.ext hC
              try replace xc := xc.ext hC
              try replace xdd := xdd.ext hC
              try replace xab := xab.ext hC
              try replace xbc := xbc.ext hC
              try replace xlf := xlf.ext hC
              try replace xrg := xrg.ext hC
              try replace xsm := xsm.ext hC
              try replace xmp := xmp.ext hC
              try replace xag := xag.ext hC
              try replace rl := rl.ext hC
              try replace ru := ru.ext hC
              try replace rto := rto.ext hC
              try replace rinv := rinv.ext hC
              replace hE := hE.tr hC
              clear hC
              refine (map_got xmp.rd imp rinv rfl).mono ?_
              rintro e x26 ⟨taag, tcag, ag, rfl, hC, rag, iag, eag⟩
              try replace xr := xr.ext hC
              try replace xp := xp.ext hC
              try replace xq := xq.ext hC
              try replace xo := xo.ext hC
              try replace xk := xk.ext hC
              try replace xf := xf.ext hC
              try replace xa := xa.ext hC
              try replace xb := xb.ext hC
              try replace xc := xc.ext hC
              try replace xdd := xdd.ext hC
              try replace xab := xab.ext hC
              try replace xbc := xbc.ext hC
              try replace xlf := xlf.ext hC
              try replace xrg := xrg.ext hC
              try replace xsm := xsm.ext hC
              try replace xmp := xmp.ext hC
              try replace xag := xag.ext hC
              try replace rl := rl.ext hC
              try replace ru := ru.ext hC
              try replace rto := rto.ext hC
              try replace rinv := rinv.ext hC
              replace hE := hE.tr hC
              clear hC
              have o0a := xa.c0
              have o1a := xa.c1
              have ola := xa.lt
              go_wp2_with fail
              clear o0a o1a ola
              obtain ⟨x27, hw⟩ : ∃ x, x = x26.alloc (.cells #[.int .i64 ag.1, .slice taag ag.2.length tcag] 25) := ⟨_, rfl⟩
              have hzx27 : x27.heap.size = x26.heap.size + 1 := by rw [hw]; simp
              have xag : RVar x27 x26.heap.size ag taag tcag := hw ▸ RVar.new rag
              have hC : Ext x26 x27 := hw ▸ (Ext.refl' _).alloc (Nat.le_refl _) _
              rw [← hw]
              clear hw rag
              try replace xr := xr.ext hC
              try replace xp := xp.ext hC
              try replace xq := xq.ext hC
              try replace xo := xo.ext hC
              try replace xk := xk.ext hC
              try replace xf := xf.ext hC
              try replace xa := xa.ext hC
              try replace xb := xb.ext hC
              try replace xc := xc.ext hC
              try replace xdd := xdd.ext hC
              try replace xab := xab.ext hC
              try replace xbc := xbc.ext hC
              try replace xlf := xlf.ext hC
              try replace xrg := xrg.ext hC
              try replace xsm := xsm.ext hC
              try replace xmp := xmp.ext hC
              try replace xag := xag.ext hC
              try replace rl := rl.ext hC
              try replace ru := ru.ext hC
              try replace rto := rto.ext hC
              try replace rinv := rinv.ext hC
              replace hE := hE.tr hC
              clear hC
              refine (same_got xag.rd iag xa.rd (by rw [eag.out, emp.out]; exact map_back ia.valid rfl (fun v h0 h1 => by rcases (show v = 0 ∨ v = 1 by omega) with rfl | rfl <;> rfl))).mono ?_
              rintro e x28 ⟨rfl, hC⟩
              try replace xr := xr.ext hC
              try replace xp := xp.ext hC
              try replace xq := xq.ext hC
              try replace xo := xo.ext hC
              try replace xk := xk.ext hC
              try replace xf := xf.ext hC
              try replace xa := xa.ext hC
              try replace xb := xb.ext hC
              try replace xc := xc.ext hC
              try replace xdd := xdd.ext hC
              try replace xab := xab.ext hC
              try replace xbc := xbc.ext hC
              try replace xlf := xlf.ext hC
              try replace xrg := xrg.ext hC
              try replace xsm := xsm.ext hC
              try replace xmp := xmp.ext hC
              try replace xag := xag.ext hC
              try replace rl := rl.ext hC
              try replace ru := ru.ext hC
              try replace rto := rto.ext hC
              try replace rinv := rinv.ext hC
              replace hE := hE.tr hC
              clear hC
              go_wp2_with fail
              go_ret
              exact ⟨rfl, hE⟩
        · go_wp2_with fail
          obtain ⟨x20b, hw⟩ : ∃ x, x = x21.alloc (.cells #[.int .i64 1, .int .i64 0] 2) := ⟨_, rfl⟩
          have hz20 : x20b.heap.size = x21.heap.size + 1 := by rw [hw]; simp
          have hC : Ext x21 x20b := hw ▸ (Ext.refl' _).alloc (Nat.le_refl _) _
          rw [← hw]
          clear hw
          try replace xr := xr.ext hC
          try replace xp := xp.ext hC
          try replace xq := xq.ext hC
          try replace xo := xo.ext hC
          try replace xk := xk.ext hC
          try replace xf := xf.ext hC
          try replace xa := xa.ext hC
          try replace xb := xb.ext hC
          try replace xc := xc.ext hC
          try replace xdd := xdd.ext hC
          try replace xab := xab.ext hC
          try replace xbc := xbc.ext hC
          try replace xlf := xlf.ext hC
          try replace xrg := xrg.ext hC
          try replace xsm := xsm.ext hC
          try replace xmp := xmp.ext hC
          try replace xag := xag.ext hC
          try replace rl := rl.ext hC
          try replace ru := ru.ext hC
          try replace rto := rto.ext hC
          try replace rinv := rinv.ext hC
          replace hE := hE.tr hC
          clear hC
          obtain ⟨x22, hw⟩ : ∃ x, x = x20b.alloc (.cells #[.int .i64 2, .int .i64 0, .int .i64 1] 2) := ⟨_, rfl⟩
          have t0 : x22.cell? ⟨x21.heap.size + 1, 0, none⟩ = some (.int .i64 2) := by rw [hw, ← hz20]; simp [go_sem]
          have t1 : x22.cell? ⟨x21.heap.size + 1, 1, none⟩ = some (.int .i64 0) := by rw [hw, ← hz20]; simp [go_sem]
          have t2 : x22.cell? ⟨x21.heap.size + 1, 2, none⟩ = some (.int .i64 1) := by rw [hw, ← hz20]; simp [go_sem]
          have hC : Ext x20b x22 := hw ▸ (Ext.refl' _).alloc (Nat.le_refl _) _
          have rto := rdI_cells3 t0 t1 t2
          rw [← hw]
          clear hw hz20
          try replace xr := xr.ext hC
          try replace xp := xp.ext hC
          try replace xq := xq.ext hC
          try replace xo := xo.ext hC
          try replace xk := xk.ext hC
          try replace xf := xf.ext hC
          try replace xa := xa.ext hC
          try replace xb := xb.ext hC
          try replace xc := xc.ext hC
          try replace xdd := xdd.ext hC
          try replace xab := xab.ext hC
          try replace xbc := xbc.ext hC
          try replace xlf := xlf.ext hC
          try replace xrg := xrg.ext hC
          try replace xsm := xsm.ext hC
          try replace xmp := xmp.ext hC
          try replace xag := xag.ext hC
          try replace rl := rl.ext hC
          try replace ru := ru.ext hC
          try replace rto := rto.ext hC
          try replace rinv := rinv.ext hC
          replace hE := hE.tr hC
          clear hC
          rw [mk3]
          go_wp2_with fail
          go_loopw [40] (fun i wr => ∃ j : Nat, j ≤ 3 ∧ i = .int .i64 (j : Nat) ∧ Ext x22 wr ∧ wr.cell? ⟨x22.heap.size, 0, none⟩ = some (.int .i64 (inv3 j).1) ∧ wr.cell? ⟨x22.heap.size, 1, none⟩ = some (.int .i64 (inv3 j).2.1) ∧ wr.cell? ⟨x22.heap.size, 2, none⟩ = some (.int .i64 (inv3 j).2.2) ∧ wr.frozen? ⟨x22.heap.size, 0, none⟩ = false ∧ wr.frozen? ⟨x22.heap.size, 1, none⟩ = false ∧ wr.frozen? ⟨x22.heap.size, 2, none⟩ = false) (fun i _ => 3 - (intOf i).toNat)
          case atStart => exact ⟨0, by omega, rfl, (Ext.refl' _).alloc (Nat.le_refl _) _, by simp [go_sem, inv3], by simp [go_sem, inv3], by simp [go_sem, inv3], by simp [go_sem], by simp [go_sem], by simp [go_sem]⟩
          case round =>
            obtain ⟨j, hj, rfl, hR, c0, c1, c2, f0, f1, f2⟩ := hrel
            replace t0 := hR.cell t0
            replace t1 := hR.cell t1
            replace t2 := hR.cell t2
            rcases (show j = 0 ∨ j = 1 ∨ j = 2 ∨ j = 3 by omega) with rfl | rfl | rfl | rfl
            · go_wp2_with fail
              go_roundw
              case rel => exact ⟨1, by omega, by go_num, hR.setCell (Nat.le_refl _) _, cell_set c0 (.inr (by simp)), cell_set c1 (.inr (by simp)), cell_same c2, by simpa using f0, by simpa using f1, by simpa using f2⟩
              case measure => simp [intOf]
            · go_wp2_with fail
              go_roundw
              case rel => exact ⟨2, by omega, by go_num, hR.setCell (Nat.le_refl _) _, cell_same c0, cell_set c1 (.inr (by simp)), cell_set c2 (.inr (by simp)), by simpa using f0, by simpa using f1, by simpa using f2⟩
              case measure => simp [intOf]
            · go_wp2_with fail
              go_roundw
              case rel => exact ⟨3, by omega, by go_num, hR.setCell (Nat.le_refl _) _, cell_set c0 (.inr (by simp)), cell_same c1, cell_set c2 (.inr (by simp)), by simpa using f0, by simpa using f1, by simpa using f2⟩
              case measure => simp [intOf]
            · have rinv := rdI_cells3 c0 c1 c2
              have hC := hR
              clear c0 c1 c2 f0 f1 f2 t0 t1 t2 hR
              try replace xr := xr.ext hC
              try replace xp := xp.ext hC
              try replace xq := xq.ext hC
              try replace xo := xo.ext hC
              try replace xk := xk.ext hC
              try replace xf := xf.ext hC
              try replace xa := xa.ext hC
              try replace xb := xb.ext hC
              try replace xc := xc.ext hC
              try replace xdd := xdd.ext hC
              try replace xab := xab.ext hC
              try replace xbc := xbc.ext hC
              try replace xlf := xlf.ext hC
              try replace xrg := xrg.ext hC
              try replace xsm := xsm.ext hC
              try replace xmp := xmp.ext hC
              try replace xag := xag.ext hC
              try replace rl := rl.ext hC
              try replace ru := ru.ext hC
              try replace rto := rto.ext hC
              try replace rinv := rinv.ext hC
              replace hE := hE.tr hC
              clear hC
              have o0a := xa.c0
              have o1a := xa.c1
              have ola := xa.lt
              go_wp2_with fail
              clear o0a o1a ola
              refine (map_got xa.rd ia rto rfl).mono ?_
              rintro e x24 ⟨tamp, tcmp, mp, rfl, hC, rmp, imp, emp⟩
              try replace xr := xr.ext hC
              try replace xp := xp.ext hC
              try replace xq := xq.ext hC
              try replace xo := xo.ext hC
              try replace xk := xk.ext hC
              try replace xf := xf.ext hC
              try replace xa := xa.ext hC
              try replace xb := xb.ext hC
              try replace xc := xc.ext hC
              try replace xdd := xdd.ext hC
              try replace xab := xab.ext hC
              try replace xbc := xbc.ext hC
              try replace xlf := xlf.ext hC
              try replace xrg := xrg.ext hC
              try replace xsm := xsm.ext hC
              try replace xmp := xmp.ext hC
              try replace xag := xag.ext hC
              try replace rl := rl.ext hC
              try replace ru := ru.ext hC
              try replace rto := rto.ext hC
              try replace rinv := rinv.ext hC
              replace hE := hE.tr hC
              clear hC
              go_wp2_with fail
              obtain ⟨x25, hw⟩ : ∃ x, x = x24.alloc (.cells #[.int .i64 mp.1, .slice tamp mp.2.length tcmp] 25) := ⟨_, rfl⟩
              have hzx25 : x25.heap.size = x24.heap.size + 1 := by rw [hw]; simp
              have xmp : RVar x25 x24.heap.size mp tamp tcmp := hw ▸ RVar.new rmp
              have hC : Ext x24 x25 := hw ▸ (Ext.refl' _).alloc (Nat.le_refl _) _
              rw [← hw]
              clear hw rmp
              try replace xr := xr.ext hC
              try replace xp := xp.ext hC
              try replace xq := xq.ext hC
              try replace xo := xo.ext hC
              try replace xk := xk.ext hC
              try replace xf := xf.ext hC
              try replace xa := xa.ext hC
              try replace xb := xb.ext hC
              try replace xc := xc.ext hC
              try replace xdd := xdd.ext hC
              try replace xab := xab.ext hC
              try replace xbc := xbc.ext hC
              try replace xlf := xlf.ext hC
              try replace xrg := xrg.ext hC
              try replace xsm := xsm.ext hC
              try replace xmp := xmp.ext hC
              try replace xag := xag.ext hC
              try replace rl := rl.ext hC
              try replace ru := ru.ext hC
              try replace rto := rto.ext hC
              try replace rinv := rinv.ext hC
              replace hE := hE.tr hC
              clear hC
              refine (map_got xmp.rd imp rinv rfl).mono ?_
              rintro e x26 ⟨taag, tcag, ag, rfl, hC, rag, iag, eag⟩
              try replace xr := xr.ext hC
              try replace xp := xp.ext hC
              try replace xq := xq.ext hC
              try replace xo := xo.ext hC
              try replace xk := xk.ext hC
              try replace xf := xf.ext hC
              try replace xa := xa.ext hC
              try replace xb := xb.ext hC
              try replace xc := xc.ext hC
              try replace xdd := xdd.ext hC
              try replace xab := xab.ext hC
              try replace xbc := xbc.ext hC
              try replace xlf := xlf.ext hC
              try replace xrg := xrg.ext hC
              try replace xsm := xsm.ext hC
              try replace xmp := xmp.ext hC
              try replace xag := xag.ext hC
              try replace rl := rl.ext hC
              try replace ru := ru.ext hC
              try replace rto := rto.ext hC
              try replace rinv := rinv.ext hC
              replace hE := hE.tr hC
              clear hC
              have o0a := xa.c0
              have o1a := xa.c1
              have ola := xa.lt
              go_wp2_with fail
              clear o0a o1a ola
              obtain ⟨x27, hw⟩ : ∃ x, x = x26.alloc (.cells #[.int .i64 ag.1, .slice taag ag.2.length tcag] 25) := ⟨_, rfl⟩
              have hzx27 : x27.heap.size = x26.heap.size + 1 := by rw [hw]; simp
              have xag : RVar x27 x26.heap.size ag taag tcag := hw ▸ RVar.new rag
              have hC : Ext x26 x27 := hw ▸ (Ext.refl' _).alloc (Nat.le_refl _) _
              rw [← hw]
              clear hw rag
              try replace xr := xr.ext hC
              try replace xp := xp.ext hC
              try replace xq := xq.ext hC
              try replace xo := xo.ext hC
              try replace xk := xk.ext hC
              try replace xf := xf.ext hC
              try replace xa := xa.ext hC
              try replace xb := xb.ext hC
              try replace xc := xc.ext hC
              try replace xdd := xdd.ext hC
              try replace xab := xab.ext hC
              try replace xbc := xbc.ext hC
              try replace xlf := xlf.ext hC
              try replace xrg := xrg.ext hC
              try replace xsm := xsm.ext hC
              try replace xmp := xmp.ext hC
              try replace xag := xag.ext hC
              try replace rl := rl.ext hC
              try replace ru := ru.ext hC
              try replace rto := rto.ext hC
              try replace rinv := rinv.ext hC
              replace hE := hE.tr hC
              clear hC
              refine (same_got xag.rd iag xa.rd (by rw [eag.out, emp.out]; exact map_back ia.valid rfl (fun v h0 h1 => by rcases (show v = 0 ∨ v = 1 ∨ v = 2 by omega) with rfl | rfl | rfl <;> rfl))).mono ?_
              rintro e x28 ⟨rfl, hC⟩
              try replace xr := xr.ext hC
              try replace xp := xp.ext hC
              try replace xq := xq.ext hC
              try replace xo := xo.ext hC
              try replace xk := xk.ext hC
              try replace xf := xf.ext hC
              try replace xa := xa.ext hC
              try replace xb := xb.ext hC
              try replace xc := xc.ext hC
              try replace xdd := xdd.ext hC
              try replace xab := xab.ext hC
              try replace xbc := xbc.ext hC
              try replace xlf := xlf.ext hC
              try replace xrg := xrg.ext hC
              try replace xsm := xsm.ext hC
              try replace xmp := xmp.ext hC
              try replace xag := xag.ext hC
              try replace rl := rl.ext hC
              try replace ru := ru.ext hC
              try replace rto := rto.ext hC
              try replace rinv := rinv.ext hC
              replace hE := hE.tr hC
              clear hC
              go_wp2_with fail
              go_ret
              exact ⟨rfl, hE⟩
  · go_wp2_with fail
    clear o0r o1r olr
    clear o0q o1q olq
    clear o0o o1o olo
    clear hW hW2
    obtain ⟨w17, hw⟩ : ∃ x, x = w16.alloc (.cells #[.int .i64 k.1, .slice tak k.2.length tck] 25) := ⟨_, rfl⟩
    have hzw17 : w17.heap.size = w16.heap.size + 1 := by rw [hw]; simp
    have xk : RVar w17 w16.heap.size k tak tck := hw ▸ RVar.new rk
    have hC : Ext w16 w17 := hw ▸ (Ext.refl' _).alloc (Nat.le_refl _) _
    rw [← hw]
    clear hw rk
    try replace xr := xr.ext hC
    try replace xp := xp.ext hC
    try replace xq := xq.ext hC
    try replace xo := xo.ext hC
    try replace xk := xk.ext hC
    try replace xf := xf.ext hC
    try replace xa := xa.ext hC
    try replace xb := xb.ext hC
    try replace xc := xc.ext hC
    try replace xdd := xdd.ext hC
    try replace xab := xab.ext hC
    try replace xbc := xbc.ext hC
    try replace xlf := xlf.ext hC
    try replace xrg := xrg.ext hC
    try replace xsm := xsm.ext hC
    try replace xmp := xmp.ext hC
    try replace xag := xag.ext hC
    try replace rl := rl.ext hC
    try replace ru := ru.ext hC
    try replace rto := rto.ext hC
    try replace rinv := rinv.ext hC
    replace hE := hE.tr hC
    clear hC
    clear xk xo xq xr rl
    have cu1 := rdI_mid ru
    obtain ⟨f, hf⟩ : ∃ f, f = SrelOf s 3 (fixP p 1 u1) := ⟨_, rfl⟩
    have if3 : IsRel s 3 f := by rw [hf]; exact .srel (by omega) (by omega) (by omega) (by omega) _
    have hfl : ∀ t ∈ f.2, (t.length : Int) = 3 ∧ t.getD 1 0 = u1 := by rw [hf]; exact fixed_at (by omega) (by omega) (by omega) (by omega) p 1 u1
    have hfx : ∀ w v, RdRel w v p → Calls Try.prog 55 #[.int .i64 s, v, .int .i64 1, .int .i64 u1] w (RelRes (f, 0) w) := fun w v h => by rw [hf]; exact fix_got h ip (huv u1 (by simp))
    clear hf
    have o0p := xp.c0
    have o1p := xp.c1
    have olp := xp.lt
    refine region_sp [8] [10, 11] [SP.val (.int .i64 s), SP.val (.agg #[.int .i64 p.1, .slice tap p.2.length tcp]), SP.val (.slice (some ⟨ub, uo, none⟩) 3 cu), SP.val (.pointer (some ⟨ub, uo + 1, none⟩)), SP.val (.int .i64 u1), SP.resRel w17.heap.size (f, 0), SP.resRel w17.heap.size (f, 0), SP.ownRelB w17.heap.size ((f, (0 : Int)) : (Int × List (List Int)) × Int).1, SP.val (.int .i64 ((f, (0 : Int)) : (Int × List (List Int)) × Int).2), SP.box2 w17.heap.size 25, SP.any, SP.any] (by kernel_rfl) (fun _ d _ _ _ h => by cases d <;> exact h) (by kernel_rfl) (by kernel_rfl)
      (.cons (fun vs y hY => Step.move rfl rfl rfl rfl) <|
       .cons (fun vs y hY => Step.load ⟨w7.heap.size, 0, none⟩ rfl rfl rfl (by simp [go_sem, hY.cell o0p, hY.cell o1p]) rfl) <|
       .cons (fun vs y hY => Step.move rfl rfl rfl rfl) <|
       .cons (fun vs y hY g2_0 => Step.indexAtP (n := .int .i64 1) ⟨ub, uo + 1, none⟩ rfl rfl g2_0 rfl (by simp [go_sem, Instr.indexAt, Addr.add] <;> omega) rfl) <|
       .cons (fun vs y hY g3_0 => Step.load ⟨ub, uo + 1, none⟩ rfl rfl g3_0 (by simp [go_sem, hY.cell cu1]) rfl) <|
       .cons (fun vs y hY g0_0 g1_1 g4_2 => Step.call Try.call55 rfl rfl [vs 0, vs 1, .int .i64 1, vs 4] rfl rfl (by rw [show vs 0 = _ from g0_0, show vs 1 = _ from g1_1, show vs 4 = _ from g4_2]; exact RelRes.sp (hfx _ _ (xp.rd.ext hY)) hY.size)) <|
       .cons (fun vs y hY g5_0 => Step.move rfl rfl rfl g5_0) <|
       .cons (fun vs y hY g6_0 => Step.resRel0 rfl rfl g6_0) <|
       .free (Step.free rfl (fun vs y hY g6_0 => free_resRel1 rfl g6_0)) <|
       .cons (fun vs y hY => Step.alloc rfl rfl (by simp [go_sem]) (box2_new hY.size)) <|
       .skip rfl <|
       .skip rfl <|
       .nil) ?_
    intro vs wy hC hL
    have r0 : vs 0 = _ := hL 0 (by decide) rfl
    have r1 : vs 1 = _ := hL 1 (by decide) rfl
    have r2 : vs 2 = _ := hL 2 (by decide) rfl
    have r3 : vs 3 = _ := hL 3 (by decide) rfl
    have r4 : vs 4 = _ := hL 4 (by decide) rfl
    have r8 : vs 8 = .int .i64 0 := hL 8 (by decide) rfl
    have r5 := hL 7 (by decide) rfl
    have rb := hL 9 (by decide) rfl
    clear hL
    obtain ⟨fpf, of, -, -⟩ := r5
    replace of : OwnRel wy (vs 7) f fpf := of
    obtain ⟨bf, hbv, lbf, hbf⟩ := rb
    have nbf : bf ∉ fpf := of.apart hbf
    obtain ⟨taf, tcf, hvo⟩ := of.form
    rw [hvo] at of
    simp only [putAll, Act.put, List.contains_cons, List.contains_nil, Nat.reduceBEq, Nat.reduceAdd, Bool.or_false, Bool.or_true, cond_true, cond_false, List.setIfInBounds_toArray, List.set_cons_succ, List.set_cons_zero, List.filterMap_cons, List.filterMap_nil, List.getElem?_cons_succ, List.getElem?_cons_zero, hbv, hvo, r0, r1, r2, r3, r4, r8]
    clear hbv hvo r0 r1 r2 r3 r4 r8
    clear o0p o1p olp
    refine wpList_store_box rfl 25 (.tmp 20) (.tmp 160) rfl rfl bf _ _ rfl rfl _ _ hbf (by kernel_rfl) rfl rfl rfl ?_
    intro wz hO z0 z1
    replace hC : Ext w17 wz := Below.trans hC (hO.below hC.size (fun g hg => by rw [List.mem_singleton] at hg; omega))
    have xf : RVar wz bf f taf tcf := ⟨z0, z1, (of.off hO (by intro g hg hm; rw [List.mem_singleton] at hm; exact nbf (hm ▸ hg))).rd⟩
    clear z0 z1 hO of nbf hbf lbf hfx cu1
    try replace xr := xr.ext hC
    try replace xp := xp.ext hC
    try replace xq := xq.ext hC
    try replace xo := xo.ext hC
    try replace xk := xk.ext hC
    try replace xf := xf.ext hC
    try replace xa := xa.ext hC
    try replace xb := xb.ext hC
    try replace xc := xc.ext hC
    try replace xdd := xdd.ext hC
    try replace xab := xab.ext hC
    try replace xbc := xbc.ext hC
    try replace xlf := xlf.ext hC
    try replace xrg := xrg.ext hC
    try replace xsm := xsm.ext hC
    try replace xmp := xmp.ext hC
    try replace xag := xag.ext hC
    try replace rl := rl.ext hC
    try replace ru := ru.ext hC
    try replace rto := rto.ext hC
    try replace rinv := rinv.ext hC
    replace hE := hE.tr hC
    clear hC
    go_wp2_with fail
    have hf256 := if3.len
    go_loopw [22] (fun i wr => ∃ j : Nat, j ≤ f.2.length ∧ i = .int .i64 (j : Nat) ∧ Ext wz wr) (fun i _ => f.2.length - (intOf i).toNat)
    case atStart => exact ⟨0, by omega, rfl, Ext.refl' _⟩
    case round =>
      obtain ⟨j, hj, rfl, hR⟩ := hrel
      by_cases hjl : j < f.2.length
      · obtain ⟨hl3, hm1⟩ := hfl f.2[j] (List.getElem_mem hjl)
        obtain ⟨fb, fo, tb, to, tc1, hta, k1, k2⟩ := rel_row xf hjl hl3
        rw [hm1] at k2
        clear hl3 hm1
        subst hta
        replace k1 := hR.cell k1
        replace k2 := hR.cell k2
        have cu1 := rdI_mid (ru.ext hR)
        have o0f := hR.cell xf.c0
        have o1f := hR.cell xf.c1
        go_wp2_with fail
        go_wp2_with fail
        refine region_sp [] [] [SP.val (.pointer (some ⟨bf, 1, none⟩)), SP.val (.slice (some ⟨fb, fo, none⟩) f.2.length tcf), SP.val (.int .i64 (j : Nat)), SP.val (.pointer (some ⟨fb, fo + j, none⟩)), SP.val (.slice (some ⟨tb, to, none⟩) 3 tc1), SP.val (.int .i64 (3 : Nat)), SP.val (.bool false), SP.val (.bool false), SP.val (.pointer (some ⟨bf, 1, none⟩)), SP.val (.slice (some ⟨fb, fo, none⟩) f.2.length tcf), SP.val (.int .i64 (j : Nat)), SP.val (.pointer (some ⟨fb, fo + j, none⟩)), SP.val (.slice (some ⟨tb, to, none⟩) 3 tc1), SP.val (.pointer (some ⟨tb, to + 1, none⟩)), SP.val (.int .i64 u1), SP.val (.slice (some ⟨ub, uo, none⟩) 3 cu), SP.val (.pointer (some ⟨ub, uo + 1, none⟩)), SP.val (.int .i64 u1), SP.val (.bool false), SP.val (.bool false)] (by kernel_rfl) (fun _ d _ _ _ h => by cases d <;> exact h) (by kernel_rfl) (by kernel_rfl)
          (.cons (fun vs y hY => Step.fieldAddr ⟨bf, 0, none⟩ rfl rfl rfl (by simp [go_sem]) rfl) <|
           .cons (fun vs y hY g0_0 => Step.load ⟨bf, 1, none⟩ rfl rfl g0_0 (by simp [go_sem, hY.cell o1f]) rfl) <|
           .cons (fun vs y hY => Step.move rfl rfl rfl rfl) <|
           .cons (fun vs y hY g1_0 g2_1 => Step.indexAtP (n := .int .i64 (j : Nat)) ⟨fb, fo + j, none⟩ rfl rfl g1_0 g2_1 (by simp [go_sem, Instr.indexAt, Addr.add, hjl] <;> omega) rfl) <|
           .cons (fun vs y hY g3_0 => Step.load ⟨fb, fo + j, none⟩ rfl rfl g3_0 (by simp [go_sem, hY.cell k1]) rfl) <|
           .cons (fun vs y hY g4_0 => Step.len Try.underlying34 rfl rfl g4_0 rfl) <|
           .cons (fun vs y hY g5_0 => Step.bin (u := .int .i64 (3 : Nat)) (v := .int .i64 3) rfl rfl g5_0 rfl (by simp [go_sem]) rfl) <|
           .cons (fun vs y hY g6_0 => Step.move rfl rfl g6_0 rfl) <|
           .cons (fun vs y hY g7_0 => Step.on rfl rfl g7_0 (GivesR.fieldAddr ⟨bf, 0, none⟩ rfl rfl (by simp [go_sem]) ⟨Ext.refl_ _, rfl⟩)) <|
           .cons (fun vs y hY g8_0 g7_1 => Step.on rfl rfl g7_1 (GivesR.load ⟨bf, 1, none⟩ rfl g8_0 (by simp [go_sem, hY.cell o1f]) ⟨Ext.refl_ _, rfl⟩)) <|
           .cons (fun vs y hY g7_0 => Step.on rfl rfl g7_0 (GivesR.move rfl rfl ⟨Ext.refl_ _, rfl⟩)) <|
           .cons (fun vs y hY g9_0 g10_1 g7_2 => Step.on rfl rfl g7_2 (GivesR.indexAtP (n := .int .i64 (j : Nat)) ⟨fb, fo + j, none⟩ rfl g9_0 g10_1 (by simp [go_sem, Instr.indexAt, Addr.add, hjl] <;> omega) ⟨Ext.refl_ _, rfl⟩)) <|
           .cons (fun vs y hY g11_0 g7_1 => Step.on rfl rfl g7_1 (GivesR.load ⟨fb, fo + j, none⟩ rfl g11_0 (by simp [go_sem, hY.cell k1]) ⟨Ext.refl_ _, rfl⟩)) <|
           .cons (fun vs y hY g12_0 g7_1 => Step.on rfl rfl g7_1 (GivesR.indexAtP (n := .int .i64 1) ⟨tb, to + 1, none⟩ rfl g12_0 rfl (by simp [go_sem, Instr.indexAt, Addr.add] <;> omega) ⟨Ext.refl_ _, rfl⟩)) <|
           .cons (fun vs y hY g13_0 g7_1 => Step.on rfl rfl g7_1 (GivesR.load ⟨tb, to + 1, none⟩ rfl g13_0 (by simp [go_sem, hY.cell k2]) ⟨Ext.refl_ _, rfl⟩)) <|
           .cons (fun vs y hY g7_0 => Step.on rfl rfl g7_0 (GivesR.move rfl rfl ⟨Ext.refl_ _, rfl⟩)) <|
           .cons (fun vs y hY g15_0 g7_1 => Step.on rfl rfl g7_1 (GivesR.indexAtP (n := .int .i64 1) ⟨ub, uo + 1, none⟩ rfl g15_0 rfl (by simp [go_sem, Instr.indexAt, Addr.add] <;> omega) ⟨Ext.refl_ _, rfl⟩)) <|
           .cons (fun vs y hY g16_0 g7_1 => Step.on rfl rfl g7_1 (GivesR.load ⟨ub, uo + 1, none⟩ rfl g16_0 (by simp [go_sem, hY.cell cu1]) ⟨Ext.refl_ _, rfl⟩)) <|
           .cons (fun vs y hY g14_0 g17_1 g7_2 => Step.on rfl rfl g7_2 (GivesR.bin (u := .int .i64 u1) (v := .int .i64 u1) rfl g14_0 g17_1 (by simp [go_sem]) ⟨Ext.refl_ _, rfl⟩)) <|
           .cons (fun vs y hY g7_0 g18_1 => Step.pick rfl rfl g7_0 rfl g18_1 rfl) <|
           .nil) ?_
        intro vs wy2 hC hL
        have r0 : vs 0 = _ := hL 0 (by decide) rfl
        have r1 : vs 1 = _ := hL 1 (by decide) rfl
        have r2 : vs 2 = _ := hL 2 (by decide) rfl
        have r3 : vs 3 = _ := hL 3 (by decide) rfl
        have r4 : vs 4 = _ := hL 4 (by decide) rfl
        have r5 : vs 5 = _ := hL 5 (by decide) rfl
        have r6 : vs 6 = _ := hL 6 (by decide) rfl
        have r7 : vs 7 = _ := hL 7 (by decide) rfl
        have r8 : vs 8 = _ := hL 8 (by decide) rfl
        have r9 : vs 9 = _ := hL 9 (by decide) rfl
        have r10 : vs 10 = _ := hL 10 (by decide) rfl
        have r11 : vs 11 = _ := hL 11 (by decide) rfl
        have r12 : vs 12 = _ := hL 12 (by decide) rfl
        have r13 : vs 13 = _ := hL 13 (by decide) rfl
        have r14 : vs 14 = _ := hL 14 (by decide) rfl
        have r15 : vs 15 = _ := hL 15 (by decide) rfl
        have r16 : vs 16 = _ := hL 16 (by decide) rfl
        have r17 : vs 17 = _ := hL 17 (by decide) rfl
        have r18 : vs 18 = _ := hL 18 (by decide) rfl
        have r19 : vs 19 = _ := hL 19 (by decide) rfl
        clear hL
        simp only [putAll, Act.put, List.contains_nil, cond_false, List.setIfInBounds_toArray, List.set_cons_succ, List.set_cons_zero, List.filterMap_nil, r0, r1, r2, r3, r4, r5, r6, r7, r8, r9, r10, r11, r12, r13, r14, r15, r16, r17, r18, r19]
        clear r0 r1 r2 r3 r4 r5 r6 r7 r8 r9 r10 r11 r12 r13 r14 r15 r16 r17 r18 r19
        go_wp2_with fail
        go_roundw
        case rel => exact ⟨j + 1, by omega, by go_num, hR.tr hC⟩
        case measure => simp [intOf]; omega
      · have hC := hR
        clear hR
        try replace xr := xr.ext hC
        try replace xp := xp.ext hC
        try replace xq := xq.ext hC
        try replace xo := xo.ext hC
        try replace xk := xk.ext hC
        try replace xf := xf.ext hC
        try replace xa := xa.ext hC
        try replace xb := xb.ext hC
        try replace xc := xc.ext hC
        try replace xdd := xdd.ext hC
        try replace xab := xab.ext hC
        try replace xbc := xbc.ext hC
        try replace xlf := xlf.ext hC
        try replace xrg := xrg.ext hC
        try replace xsm := xsm.ext hC
        try replace xmp := xmp.ext hC
        try replace xag := xag.ext hC
        try replace rl := rl.ext hC
        try replace ru := ru.ext hC
        try replace rto := rto.ext hC
        try replace rinv := rinv.ext hC
        replace hE := hE.tr hC
        clear hC
        have o0f := xf.c0
        have o1f := xf.c1
        have olf := xf.lt
        go_wp2_with fail
        clear o0f o1f olf
        clear hfl xf xp if3 ru
        refine (p6Rel_got v0 s 2 _ (hv0.ext hE) (by omega) (by omega) (by omega) (by omega)).mono ?_
        rintro e x1 ⟨taa, tca, a, rfl, hC, ra, ia⟩
        try replace xr := xr.ext hC
        try replace xp := xp.ext hC
        try replace xq := xq.ext hC
        try replace xo := xo.ext hC
        try replace xk := xk.ext hC
        try replace xf := xf.ext hC
        try replace xa := xa.ext hC
        try replace xb := xb.ext hC
        try replace xc := xc.ext hC
        try replace xdd := xdd.ext hC
        try replace xab := xab.ext hC
        try replace xbc := xbc.ext hC
        try replace xlf := xlf.ext hC
        try replace xrg := xrg.ext hC
        try replace xsm := xsm.ext hC
        try replace xmp := xmp.ext hC
        try replace xag := xag.ext hC
        try replace rl := rl.ext hC
        try replace ru := ru.ext hC
        try replace rto := rto.ext hC
        try replace rinv := rinv.ext hC
        replace hE := hE.tr hC
        clear hC
        go_wp2_with fail
        obtain ⟨x2, hw⟩ : ∃ x, x = x1.alloc (.cells #[.int .i64 a.1, .slice taa a.2.length tca] 25) := ⟨_, rfl⟩
        have hzx2 : x2.heap.size = x1.heap.size + 1 := by rw [hw]; simp
        have xa : RVar x2 x1.heap.size a taa tca := hw ▸ RVar.new ra
        have hC : Ext x1 x2 := hw ▸ (Ext.refl' _).alloc (Nat.le_refl _) _
        rw [← hw]
        clear hw ra
        try replace xr := xr.ext hC
        try replace xp := xp.ext hC
        try replace xq := xq.ext hC
        try replace xo := xo.ext hC
        try replace xk := xk.ext hC
        try replace xf := xf.ext hC
        try replace xa := xa.ext hC
        try replace xb := xb.ext hC
        try replace xc := xc.ext hC
        try replace xdd := xdd.ext hC
        try replace xab := xab.ext hC
        try replace xbc := xbc.ext hC
        try replace xlf := xlf.ext hC
        try replace xrg := xrg.ext hC
        try replace xsm := xsm.ext hC
        try replace xmp := xmp.ext hC
        try replace xag := xag.ext hC
        try replace rl := rl.ext hC
        try replace ru := ru.ext hC
        try replace rto := rto.ext hC
        try replace rinv := rinv.ext hC
        replace hE := hE.tr hC
        clear hC
        refine (p6Rel_got v1 s 2 _ (hv1.ext hE) (by omega) (by omega) (by omega) (by omega)).mono ?_
        rintro e x3 ⟨tab, tcb, b, rfl, hC, rb, ib⟩
        try replace xr := xr.ext hC
        try replace xp := xp.ext hC
        try replace xq := xq.ext hC
        try replace xo := xo.ext hC
        try replace xk := xk.ext hC
        try replace xf := xf.ext hC
        try replace xa := xa.ext hC
        try replace xb := xb.ext hC
        try replace xc := xc.ext hC
        try replace xdd := xdd.ext hC
        try replace xab := xab.ext hC
        try replace xbc := xbc.ext hC
        try replace xlf := xlf.ext hC
        try replace xrg := xrg.ext hC
        try replace xsm := xsm.ext hC
        try replace xmp := xmp.ext hC
        try replace xag := xag.ext hC
        try replace rl := rl.ext hC
        try replace ru := ru.ext hC
        try replace rto := rto.ext hC
        try replace rinv := rinv.ext hC
        replace hE := hE.tr hC
        clear hC
        have hf0 := HF0.out
        clear HF0
        subst hf0
        have hA3 : Ext x3 (x3.alloc (.cells #[.int .i64 b.1, .slice tab b.2.length tcb] 25)) := (Ext.refl' _).alloc (Nat.le_refl _) _
        have hA4 : Ext (x3.alloc (.cells #[.int .i64 b.1, .slice tab b.2.length tcb] 25)) ((x3.alloc (.cells #[.int .i64 b.1, .slice tab b.2.length tcb] 25)).alloc (.cells #[.int .u8 4] 5)) := (Ext.refl' _).alloc (Nat.le_refl _) _
        have hvE := ((hv0.ext hE).ext hA3).ext hA4
        have hrow := row_four (x3.alloc (.cells #[.int .i64 b.1, .slice tab b.2.length tcb] 25)) (x3.heap.size + 1) (by simp)
        rw [World.size_alloc] at hrow
        have hn4 : n0 ≤ 4096 := by have := Z0.out; omega
        go_wp2_with (at_builtin; refine wpList_bytes (base := x3.heap.size + 1) hvE hn4 hn0 hrow (by simp) rfl (.tmp 197) (.tmp 198) rfl rfl rfl ?_)
        intro xa' xn' xc' x5 hvx hg5
        have hC5 := hA4.grown hg5 (by simp) (fun h hh => by simp [Value.ownBlock] at hh; simp; omega)
        have hC : Ext x3 x5 := hA3.tr hC5
        have xb : RVar x5 x3.heap.size b tab tcb := (RVar.new rb).ext hC5
        clear rb hC5 hA3 hA4 hn4
        clear hvE hrow hg5
        try replace xr := xr.ext hC
        try replace xp := xp.ext hC
        try replace xq := xq.ext hC
        try replace xo := xo.ext hC
        try replace xk := xk.ext hC
        try replace xf := xf.ext hC
        try replace xa := xa.ext hC
        try replace xb := xb.ext hC
        try replace xc := xc.ext hC
        try replace xdd := xdd.ext hC
        try replace xab := xab.ext hC
        try replace xbc := xbc.ext hC
        try replace xlf := xlf.ext hC
        try replace xrg := xrg.ext hC
        try replace xsm := xsm.ext hC
        try replace xmp := xmp.ext hC
        try replace xag := xag.ext hC
        try replace rl := rl.ext hC
        try replace ru := ru.ext hC
        try replace rto := rto.ext hC
        try replace rinv := rinv.ext hC
        replace hE := hE.tr hC
        clear hC
        go_wp2_with fail
        refine (p6Rel_got (.slice xa' xn' xc') s 2 _ hvx (by omega) (by omega) (by omega) (by omega)).mono ?_
        rintro e x6 ⟨tac, tcc, c, rfl, hC, rc, ic⟩
        try replace xr := xr.ext hC
        try replace xp := xp.ext hC
        try replace xq := xq.ext hC
        try replace xo := xo.ext hC
        try replace xk := xk.ext hC
        try replace xf := xf.ext hC
        try replace xa := xa.ext hC
        try replace xb := xb.ext hC
        try replace xc := xc.ext hC
        try replace xdd := xdd.ext hC
        try replace xab := xab.ext hC
        try replace xbc := xbc.ext hC
        try replace xlf := xlf.ext hC
        try replace xrg := xrg.ext hC
        try replace xsm := xsm.ext hC
        try replace xmp := xmp.ext hC
        try replace xag := xag.ext hC
        try replace rl := rl.ext hC
        try replace ru := ru.ext hC
        try replace rto := rto.ext hC
        try replace rinv := rinv.ext hC
        replace hE := hE.tr hC
        clear hC
        clear hvx
        go_wp2_with fail
        obtain ⟨x7, hw⟩ : ∃ x, x = x6.alloc (.cells #[.int .i64 c.1, .slice tac c.2.length tcc] 25) := ⟨_, rfl⟩
        have hzx7 : x7.heap.size = x6.heap.size + 1 := by rw [hw]; simp
        have xc : RVar x7 x6.heap.size c tac tcc := hw ▸ RVar.new rc
        have hC : Ext x6 x7 := hw ▸ (Ext.refl' _).alloc (Nat.le_refl _) _
        rw [← hw]
        clear hw rc
        try replace xr := xr.ext hC
        try replace xp := xp.ext hC
        try replace xq := xq.ext hC
        try replace xo := xo.ext hC
        try replace xk := xk.ext hC
        try replace xf := xf.ext hC
        try replace xa := xa.ext hC
        try replace xb := xb.ext hC
        try replace xc := xc.ext hC
        try replace xdd := xdd.ext hC
        try replace xab := xab.ext hC
        try replace xbc := xbc.ext hC
        try replace xlf := xlf.ext hC
        try replace xrg := xrg.ext hC
        try replace xsm := xsm.ext hC
        try replace xmp := xmp.ext hC
        try replace xag := xag.ext hC
        try replace rl := rl.ext hC
        try replace ru := ru.ext hC
        try replace rto := rto.ext hC
        try replace rinv := rinv.ext hC
        replace hE := hE.tr hC
        clear hC
        refine (equal_got s _ (by omega) (by omega)).mono ?_
        rintro e x8 ⟨tadd, tcdd, dd, rfl, hC, rdd, idd, edd⟩
        try replace xr := xr.ext hC
        try replace xp := xp.ext hC
        try replace xq := xq.ext hC
        try replace xo := xo.ext hC
        try replace xk := xk.ext hC
        try replace xf := xf.ext hC
        try replace xa := xa.ext hC
        try replace xb := xb.ext hC
        try replace xc := xc.ext hC
        try replace xdd := xdd.ext hC
        try replace xab := xab.ext hC
        try replace xbc := xbc.ext hC
        try replace xlf := xlf.ext hC
        try replace xrg := xrg.ext hC
        try replace xsm := xsm.ext hC
        try replace xmp := xmp.ext hC
        try replace xag := xag.ext hC
        try replace rl := rl.ext hC
        try replace ru := ru.ext hC
        try replace rto := rto.ext hC
        try replace rinv := rinv.ext hC
        replace hE := hE.tr hC
        clear hC
        have o0a := xa.c0
        have o1a := xa.c1
        have ola := xa.lt
        have o0b := xb.c0
        have o1b := xb.c1
        have olb := xb.lt
        go_wp2_with fail
        clear o0a o1a ola
        clear o0b o1b olb
        obtain ⟨x9, hw⟩ : ∃ x, x = x8.alloc (.cells #[.int .i64 dd.1, .slice tadd dd.2.length tcdd] 25) := ⟨_, rfl⟩
        have hzx9 : x9.heap.size = x8.heap.size + 1 := by rw [hw]; simp
        have xdd : RVar x9 x8.heap.size dd tadd tcdd := hw ▸ RVar.new rdd
        have hC : Ext x8 x9 := hw ▸ (Ext.refl' _).alloc (Nat.le_refl _) _
        rw [← hw]
        clear hw rdd
        try replace xr := xr.ext hC
        try replace xp := xp.ext hC
        try replace xq := xq.ext hC
        try replace xo := xo.ext hC
        try replace xk := xk.ext hC
        try replace xf := xf.ext hC
        try replace xa := xa.ext hC
        try replace xb := xb.ext hC
        try replace xc := xc.ext hC
        try replace xdd := xdd.ext hC
        try replace xab := xab.ext hC
        try replace xbc := xbc.ext hC
        try replace xlf := xlf.ext hC
        try replace xrg := xrg.ext hC
        try replace xsm := xsm.ext hC
        try replace xmp := xmp.ext hC
        try replace xag := xag.ext hC
        try replace rl := rl.ext hC
        try replace ru := ru.ext hC
        try replace rto := rto.ext hC
        try replace rinv := rinv.ext hC
        replace hE := hE.tr hC
        clear hC
        refine (comp_got xa.rd ia xb.rd ib).mono ?_
        rintro e x10 ⟨taab, tcab, ab, rfl, hC, rab, iab, eab⟩
        try replace xr := xr.ext hC
        try replace xp := xp.ext hC
        try replace xq := xq.ext hC
        try replace xo := xo.ext hC
        try replace xk := xk.ext hC
        try replace xf := xf.ext hC
        try replace xa := xa.ext hC
        try replace xb := xb.ext hC
        try replace xc := xc.ext hC
        try replace xdd := xdd.ext hC
        try replace xab := xab.ext hC
        try replace xbc := xbc.ext hC
        try replace xlf := xlf.ext hC
        try replace xrg := xrg.ext hC
        try replace xsm := xsm.ext hC
        try replace xmp := xmp.ext hC
        try replace xag := xag.ext hC
        try replace rl := rl.ext hC
        try replace ru := ru.ext hC
        try replace rto := rto.ext hC
        try replace rinv := rinv.ext hC
        replace hE := hE.tr hC
        clear hC
        have o0b := xb.c0
        have o1b := xb.c1
        have olb := xb.lt
        have o0c := xc.c0
        have o1c := xc.c1
        have olc := xc.lt
        go_wp2_with fail
        clear o0b o1b olb
        clear o0c o1c olc
        obtain ⟨x11, hw⟩ : ∃ x, x = x10.alloc (.cells #[.int .i64 ab.1, .slice taab ab.2.length tcab] 25) := ⟨_, rfl⟩
        have hzx11 : x11.heap.size = x10.heap.size + 1 := by rw [hw]; simp
        have xab : RVar x11 x10.heap.size ab taab tcab := hw ▸ RVar.new rab
        have hC : Ext x10 x11 := hw ▸ (Ext.refl' _).alloc (Nat.le_refl _) _
        rw [← hw]
        clear hw rab
        try replace xr := xr.ext hC
        try replace xp := xp.ext hC
        try replace xq := xq.ext hC
        try replace xo := xo.ext hC
        try replace xk := xk.ext hC
        try replace xf := xf.ext hC
        try replace xa := xa.ext hC
        try replace xb := xb.ext hC
        try replace xc := xc.ext hC
        try replace xdd := xdd.ext hC
        try replace xab := xab.ext hC
        try replace xbc := xbc.ext hC
        try replace xlf := xlf.ext hC
        try replace xrg := xrg.ext hC
        try replace xsm := xsm.ext hC
        try replace xmp := xmp.ext hC
        try replace xag := xag.ext hC
        try replace rl := rl.ext hC
        try replace ru := ru.ext hC
        try replace rto := rto.ext hC
        try replace rinv := rinv.ext hC
        replace hE := hE.tr hC
        clear hC
        refine (comp_got xb.rd ib xc.rd ic).mono ?_
        rintro e x12 ⟨tabc, tcbc, bc, rfl, hC, rbc, ibc, ebc⟩
        try replace xr := xr.ext hC
        try replace xp := xp.ext hC
        try replace xq := xq.ext hC
        try replace xo := xo.ext hC
        try replace xk := xk.ext hC
        try replace xf := xf.ext hC
        try replace xa := xa.ext hC
        try replace xb := xb.ext hC
        try replace xc := xc.ext hC
        try replace xdd := xdd.ext hC
        try replace xab := xab.ext hC
        try replace xbc := xbc.ext hC
        try replace xlf := xlf.ext hC
        try replace xrg := xrg.ext hC
        try replace xsm := xsm.ext hC
        try replace xmp := xmp.ext hC
        try replace xag := xag.ext hC
        try replace rl := rl.ext hC
        try replace ru := ru.ext hC
        try replace rto := rto.ext hC
        try replace rinv := rinv.ext hC
        replace hE := hE.tr hC
        clear hC
        have o0ab := xab.c0
        have o1ab := xab.c1
        have olab := xab.lt
        have o0c := xc.c0
        have o1c := xc.c1
        have olc := xc.lt
        go_wp2_with fail
        clear o0ab o1ab olab
        clear o0c o1c olc
        obtain ⟨x13, hw⟩ : ∃ x, x = x12.alloc (.cells #[.int .i64 bc.1, .slice tabc bc.2.length tcbc] 25) := ⟨_, rfl⟩
        have hzx13 : x13.heap.size = x12.heap.size + 1 := by rw [hw]; simp
        have xbc : RVar x13 x12.heap.size bc tabc tcbc := hw ▸ RVar.new rbc
        have hC : Ext x12 x13 := hw ▸ (Ext.refl' _).alloc (Nat.le_refl _) _
        rw [← hw]
        clear hw rbc
        try replace xr := xr.ext hC
        try replace xp := xp.ext hC
        try replace xq := xq.ext hC
        try replace xo := xo.ext hC
        try replace xk := xk.ext hC
        try replace xf := xf.ext hC
        try replace xa := xa.ext hC
        try replace xb := xb.ext hC
        try replace xc := xc.ext hC
        try replace xdd := xdd.ext hC
        try replace xab := xab.ext hC
        try replace xbc := xbc.ext hC
        try replace xlf := xlf.ext hC
        try replace xrg := xrg.ext hC
        try replace xsm := xsm.ext hC
        try replace xmp := xmp.ext hC
        try replace xag := xag.ext hC
        try replace rl := rl.ext hC
        try replace ru := ru.ext hC
        try replace rto := rto.ext hC
        try replace rinv := rinv.ext hC
        replace hE := hE.tr hC
        clear hC
        refine (comp_got xab.rd iab xc.rd ic).mono ?_
        rintro e x14 ⟨talf, tclf, lf, rfl, hC, rlf, ilf, elf⟩
        try replace xr := xr.ext hC
        try replace xp := xp.ext hC
        try replace xq := xq.ext hC
        try replace xo := xo.ext hC
        try replace xk := xk.ext hC
        try replace xf := xf.ext hC
        try replace xa := xa.ext hC
        try replace xb := xb.ext hC
        try replace xc := xc.ext hC
        try replace xdd := xdd.ext hC
        try replace xab := xab.ext hC
        try replace xbc := xbc.ext hC
        try replace xlf := xlf.ext hC
        try replace xrg := xrg.ext hC
        try replace xsm := xsm.ext hC
        try replace xmp := xmp.ext hC
        try replace xag := xag.ext hC
        try replace rl := rl.ext hC
        try replace ru := ru.ext hC
        try replace rto := rto.ext hC
        try replace rinv := rinv.ext hC
        replace hE := hE.tr hC
        clear hC
        have o0a := xa.c0
        have o1a := xa.c1
        have ola := xa.lt
        have o0bc := xbc.c0
        have o1bc := xbc.c1
        have olbc := xbc.lt
        go_wp2_with fail
        clear o0a o1a ola
        clear o0bc o1bc olbc
        obtain ⟨x15, hw⟩ : ∃ x, x = x14.alloc (.cells #[.int .i64 lf.1, .slice talf lf.2.length tclf] 25) := ⟨_, rfl⟩
        have hzx15 : x15.heap.size = x14.heap.size + 1 := by rw [hw]; simp
        have xlf : RVar x15 x14.heap.size lf talf tclf := hw ▸ RVar.new rlf
        have hC : Ext x14 x15 := hw ▸ (Ext.refl' _).alloc (Nat.le_refl _) _
        rw [← hw]
        clear hw rlf
        try replace xr := xr.ext hC
        try replace xp := xp.ext hC
        try replace xq := xq.ext hC
        try replace xo := xo.ext hC
        try replace xk := xk.ext hC
        try replace xf := xf.ext hC
        try replace xa := xa.ext hC
        try replace xb := xb.ext hC
        try replace xc := xc.ext hC
        try replace xdd := xdd.ext hC
        try replace xab := xab.ext hC
        try replace xbc := xbc.ext hC
        try replace xlf := xlf.ext hC
        try replace xrg := xrg.ext hC
        try replace xsm := xsm.ext hC
        try replace xmp := xmp.ext hC
        try replace xag := xag.ext hC
        try replace rl := rl.ext hC
        try replace ru := ru.ext hC
        try replace rto := rto.ext hC
        try replace rinv := rinv.ext hC
        replace hE := hE.tr hC
        clear hC
        refine (comp_got xa.rd ia xbc.rd ibc).mono ?_
        rintro e x16 ⟨targ, tcrg, rg, rfl, hC, rrg, irg, erg⟩
        try replace xr := xr.ext hC
        try replace xp := xp.ext hC
        try replace xq := xq.ext hC
        try replace xo := xo.ext hC
        try replace xk := xk.ext hC
        try replace xf := xf.ext hC
        try replace xa := xa.ext hC
        try replace xb := xb.ext hC
        try replace xc := xc.ext hC
        try replace xdd := xdd.ext hC
        try replace xab := xab.ext hC
        try replace xbc := xbc.ext hC
        try replace xlf := xlf.ext hC
        try replace xrg := xrg.ext hC
        try replace xsm := xsm.ext hC
        try replace xmp := xmp.ext hC
        try replace xag := xag.ext hC
        try replace rl := rl.ext hC
        try replace ru := ru.ext hC
        try replace rto := rto.ext hC
        try replace rinv := rinv.ext hC
        replace hE := hE.tr hC
        clear hC
        have o0a := xa.c0
        have o1a := xa.c1
        have ola := xa.lt
        have o0dd := xdd.c0
        have o1dd := xdd.c1
        have oldd := xdd.lt
        go_wp2_with fail
        clear o0a o1a ola
        clear o0dd o1dd oldd
        obtain ⟨x17, hw⟩ : ∃ x, x = x16.alloc (.cells #[.int .i64 rg.1, .slice targ rg.2.length tcrg] 25) := ⟨_, rfl⟩
        have hzx17 : x17.heap.size = x16.heap.size + 1 := by rw [hw]; simp
        have xrg : RVar x17 x16.heap.size rg targ tcrg := hw ▸ RVar.new rrg
        have hC : Ext x16 x17 := hw ▸ (Ext.refl' _).alloc (Nat.le_refl _) _
        rw [← hw]
        clear hw rrg
        try replace xr := xr.ext hC
        try replace xp := xp.ext hC
        try replace xq := xq.ext hC
        try replace xo := xo.ext hC
        try replace xk := xk.ext hC
        try replace xf := xf.ext hC
        try replace xa := xa.ext hC
        try replace xb := xb.ext hC
        try replace xc := xc.ext hC
        try replace xdd := xdd.ext hC
        try replace xab := xab.ext hC
        try replace xbc := xbc.ext hC
        try replace xlf := xlf.ext hC
        try replace xrg := xrg.ext hC
        try replace xsm := xsm.ext hC
        try replace xmp := xmp.ext hC
        try replace xag := xag.ext hC
        try replace rl := rl.ext hC
        try replace ru := ru.ext hC
        try replace rto := rto.ext hC
        try replace rinv := rinv.ext hC
        replace hE := hE.tr hC
        clear hC
        refine (comp_got xa.rd ia xdd.rd idd).mono ?_
        rintro e x18 ⟨tasm, tcsm, sm, rfl, hC, rsm, ism, esm⟩
        try replace xr := xr.ext hC
        try replace xp := xp.ext hC
        try replace xq := xq.ext hC
        try replace xo := xo.ext hC
        try replace xk := xk.ext hC
        try replace xf := xf.ext hC
        try replace xa := xa.ext hC
        try replace xb := xb.ext hC
        try replace xc := xc.ext hC
        try replace xdd := xdd.ext hC
        try replace xab := xab.ext hC
        try replace xbc := xbc.ext hC
        try replace xlf := xlf.ext hC
        try replace xrg := xrg.ext hC
        try replace xsm := xsm.ext hC
        try replace xmp := xmp.ext hC
        try replace xag := xag.ext hC
        try replace rl := rl.ext hC
        try replace ru := ru.ext hC
        try replace rto := rto.ext hC
        try replace rinv := rinv.ext hC
        replace hE := hE.tr hC
        clear hC
        have o0lf := xlf.c0
        have o1lf := xlf.c1
        have ollf := xlf.lt
        have o0rg := xrg.c0
        have o1rg := xrg.c1
        have olrg := xrg.lt
        go_wp2_with fail
        clear o0lf o1lf ollf
        clear o0rg o1rg olrg
        obtain ⟨x19, hw⟩ : ∃ x, x = x18.alloc (.cells #[.int .i64 sm.1, .slice tasm sm.2.length tcsm] 25) := ⟨_, rfl⟩
        have hzx19 : x19.heap.size = x18.heap.size + 1 := by rw [hw]; simp
        have xsm : RVar x19 x18.heap.size sm tasm tcsm := hw ▸ RVar.new rsm
        have hC : Ext x18 x19 := hw ▸ (Ext.refl' _).alloc (Nat.le_refl _) _
        rw [← hw]
        clear hw rsm
        try replace xr := xr.ext hC
        try replace xp := xp.ext hC
        try replace xq := xq.ext hC
        try replace xo := xo.ext hC
        try replace xk := xk.ext hC
        try replace xf := xf.ext hC
        try replace xa := xa.ext hC
        try replace xb := xb.ext hC
        try replace xc := xc.ext hC
        try replace xdd := xdd.ext hC
        try replace xab := xab.ext hC
        try replace xbc := xbc.ext hC
        try replace xlf := xlf.ext hC
        try replace xrg := xrg.ext hC
        try replace xsm := xsm.ext hC
        try replace xmp := xmp.ext hC
        try replace xag := xag.ext hC
        try replace rl := rl.ext hC
        try replace ru := ru.ext hC
        try replace rto := rto.ext hC
        try replace rinv := rinv.ext hC
        replace hE := hE.tr hC
        clear hC
        refine (same_got xlf.rd ilf xrg.rd (by rw [elf.out, erg.out, eab.out, ebc.out]; exact comp_assoc ia.valid ib.valid ic.valid ia.ar ib.ar ic.ar)).mono ?_
        rintro e x20 ⟨rfl, hC⟩
        try replace xr := xr.ext hC
        try replace xp := xp.ext hC
        try replace xq := xq.ext hC
        try replace xo := xo.ext hC
        try replace xk := xk.ext hC
        try replace xf := xf.ext hC
        try replace xa := xa.ext hC
        try replace xb := xb.ext hC
        try replace xc := xc.ext hC
        try replace xdd := xdd.ext hC
        try replace xab := xab.ext hC
        try replace xbc := xbc.ext hC
        try replace xlf := xlf.ext hC
        try replace xrg := xrg.ext hC
        try replace xsm := xsm.ext hC
        try replace xmp := xmp.ext hC
        try replace xag := xag.ext hC
        try replace rl := rl.ext hC
        try replace ru := ru.ext hC
        try replace rto := rto.ext hC
        try replace rinv := rinv.ext hC
        replace hE := hE.tr hC
        clear hC
        have o0sm := xsm.c0
        have o1sm := xsm.c1
        have olsm := xsm.lt
        have o0a := xa.c0
        have o1a := xa.c1
        have ola := xa.lt
        go_wp2_with fail
        clear o0sm o1sm olsm
        clear o0a o1a ola
        refine (same_got xsm.rd ism xa.rd (by rw [esm.out, edd.out]; exact comp_equal ia.valid ia.ar)).mono ?_
        rintro e x21 ⟨rfl, hC⟩
        try replace xr := xr.ext hC
        try replace xp := xp.ext hC
        try replace xq := xq.ext hC
        try replace xo := xo.ext hC
        try replace xk := xk.ext hC
        try replace xf := xf.ext hC
        try replace xa := xa.ext hC
        try replace xb := xb.ext hC
        try replace xc := xc.ext hC
        try replace xdd := xdd.ext hC
        try replace xab := xab.ext hC
        try replace xbc := xbc.ext hC
        try replace xlf := xlf.ext hC
        try replace xrg := xrg.ext hC
        try replace xsm := xsm.ext hC
        try replace xmp := xmp.ext hC
        try replace xag := xag.ext hC
        try replace rl := rl.ext hC
        try replace ru := ru.ext hC
        try replace rto := rto.ext hC
        try replace rinv := rinv.ext hC
        replace hE := hE.tr hC
        clear hC
        clear xb xc xdd xab xbc xlf xrg xsm
        rcases (show s = 2 ∨ s = 3 by omega) with rfl | rfl
        · go_wp2_with fail
          obtain ⟨x22, hw⟩ : ∃ x, x = x21.alloc (.cells #[.int .i64 1, .int .i64 0] 2) := ⟨_, rfl⟩
          have t0 : x22.cell? ⟨x21.heap.size, 0, none⟩ = some (.int .i64 1) := by rw [hw]; simp [go_sem]
          have t1 : x22.cell? ⟨x21.heap.size, 1, none⟩ = some (.int .i64 0) := by rw [hw]; simp [go_sem]
          have hC : Ext x21 x22 := hw ▸ (Ext.refl' _).alloc (Nat.le_refl _) _
          have rto := rdI_cells2 t0 t1
          rw [← hw]
          clear hw
          try replace xr := xr.ext hC
          try replace xp := xp.ext hC
          try replace xq := xq.ext hC
          try replace xo := xo.ext hC
          try replace xk := xk.ext hC
          try replace xf := xf.ext hC
          try replace xa := xa.ext hC
          try replace xb := xb.ext hC
          try replace xc := xc.ext hC
          try replace xdd := xdd.ext hC
          try replace xab := xab.ext hC
          try replace xbc := xbc.ext hC
          try replace xlf := xlf.ext hC
          try replace xrg := xrg.ext hC
          try replace xsm := xsm.ext hC
          try replace xmp := xmp.ext hC
          try replace xag := xag.ext hC
          try replace rl := rl.ext hC
          try replace ru := ru.ext hC
          try replace rto := rto.ext hC
          try replace rinv := rinv.ext hC
          replace hE := hE.tr hC
          clear hC
          rw [mk2]
          go_wp2_with fail
          go_loopw [40] (fun i wr => ∃ j : Nat, j ≤ 2 ∧ i = .int .i64 (j : Nat) ∧ Ext x22 wr ∧ wr.cell? ⟨x22.heap.size, 0, none⟩ = some (.int .i64 (inv2 j).1) ∧ wr.cell? ⟨x22.heap.size, 1, none⟩ = some (.int .i64 (inv2 j).2) ∧ wr.frozen? ⟨x22.heap.size, 0, none⟩ = false ∧ wr.frozen? ⟨x22.heap.size, 1, none⟩ = false) (fun i _ => 2 - (intOf i).toNat)
          case atStart => exact ⟨0, by omega, rfl, (Ext.refl' _).alloc (Nat.le_refl _) _, by simp [go_sem, inv2], by simp [go_sem, inv2], by simp [go_sem], by simp [go_sem]⟩
          case round =>
            obtain ⟨j, hj, rfl, hR, c0, c1, f0, f1⟩ := hrel
            replace t0 := hR.cell t0
            replace t1 := hR.cell t1
            rcases (show j = 0 ∨ j = 1 ∨ j = 2 by omega) with rfl | rfl | rfl
            · go_wp2_with fail
              go_roundw
              case rel => exact ⟨1, by omega, by go_num, hR.setCell (Nat.le_refl _) _, cell_set c0 (.inr (by simp)), cell_same c1, by simpa using f0, by simpa using f1⟩
              case measure => simp [intOf]
            · go_wp2_with fail
              go_roundw
              case rel => exact ⟨2, by omega, by go_num, hR.setCell (Nat.le_refl _) _, cell_same c0, cell_set c1 (.inr (by simp)), by simpa using f0, by simpa using f1⟩
              case measure => simp [intOf]
            · have rinv := rdI_cells2 c0 c1
              have hC := hR
              clear c0 c1 f0 f1 t0 t1 hR
              try replace xr := xr.ext hC
              try replace xp := xp.ext hC
              try replace xq := xq.ext hC
              try replace xo := xo.ext hC
              try replace xk := xk.ext hC
              try replace xf := xf.ext hC
              try replace xa := xa.ext hC
              try replace xb := xb.ext hC
              try replace xc := xc.ext hC
              try replace xdd := xdd.ext hC
              try replace xab := xab.ext hC
              try replace xbc := xbc.ext hC
              try replace xlf := xlf.ext hC
              try replace xrg := xrg.ext hC
              try replace xsm := xsm.ext hC
              try replace xmp := xmp.ext hC
              try replace xag := xag.ext hC
              try replace rl := rl.ext hC
              try replace ru := ru.ext hC
              try replace rto := rto.ext hC
              try replace rinv := rinv.ext hC
              replace hE := hE.tr hC
              clear hC
              have o0a := xa.c0
              have o1a := xa.c1
              have ola := xa.lt
              go_wp2_with fail
              clear o0a o1a ola
              refine (map_got xa.rd ia rto rfl).mono ?_
              rintro e x24 ⟨tamp, tcmp, mp, rfl, hC, rmp, imp, emp⟩
              try replace xr := xr.ext hC
              try replace xp := xp.ext hC
              try replace xq := xq.ext hC
              try replace xo := xo.ext hC
              try replace xk := xk.ext hC
              try replace xf := xf.ext hC
              try replace xa := xa.ext hC
              try replace xb := xb.ext hC
              try replace xc := xc.ext hC
              try replace xdd := xdd.ext hC
              try replace xab := xab.ext hC
              try replace xbc := xbc.ext hC
              try replace xlf := xlf.ext hC
              try replace xrg := xrg.ext hC
              try replace xsm := xsm.ext hC
              try replace xmp := xmp.ext hC
              try replace xag := xag.ext hC
              try replace rl := rl.ext hC
              try replace ru := ru.ext hC
              try replace rto := rto.ext hC
              try replace rinv := rinv.ext hC
              replace hE := hE.tr hC
              clear hC
              go_wp2_with fail
              obtain ⟨x25, hw⟩ : ∃ x, x = x24.alloc (.cells #[.int .i64 mp.1, .slice tamp mp.2.length tcmp] 25) := ⟨_, rfl⟩
              have hzx25 : x25.heap.size = x24.heap.size + 1 := by rw [hw]; simp
              have xmp : RVar x25 x24.heap.size mp tamp tcmp := hw ▸ RVar.new rmp
              have hC : Ext x24 x25 := hw ▸ (Ext.refl' _).alloc (Nat.le_refl _) _
              rw [← hw]
              clear hw rmp
              try replace xr := xr.ext hC
              try replace xp := xp.ext hC
              try replace xq := xq.ext hC
              try replace xo := xo.ext hC
              try replace xk := xk.ext hC
              try replace xf := xf.ext hC
              try replace xa := xa.ext hC
              try replace xb := xb.ext hC
              try replace xc := xc.ext hC
              try replace xdd := xdd.ext hC
              try replace xab := xab.ext hC
              try replace xbc := xbc.ext hC
              try replace xlf := xlf.ext hC
              try replace xrg := xrg.ext hC
              try replace xsm := xsm.ext hC
              try replace xmp := xmp.ext hC
              try replace xag := xag.ext hC
              try replace rl := rl.ext hC
              try replace ru := ru.ext hC
              try replace rto := rto.ext hC
              try replace rinv := rinv.ext hC
              replace hE := hE.tr hC
              clear hC
              refine (map_got xmp.rd imp rinv rfl).mono ?_
              rintro e x26 ⟨taag, tcag, ag, rfl, hC, rag, iag, eag⟩
              try replace xr := xr.ext hC
              try replace xp := xp.ext hC
              try replace xq := xq.ext hC
              try replace xo := xo.ext hC
              try replace xk := xk.ext hC
              try replace xf := xf.ext hC
              try replace xa := xa.ext hC
              try replace xb := xb.ext hC
              try replace xc := xc.ext hC
              try replace xdd := xdd.ext hC
              try replace xab := xab.ext hC
              try replace xbc := xbc.ext hC
              try replace xlf := xlf.ext hC
              try replace xrg := xrg.ext hC
              try replace xsm := xsm.ext hC
              try replace xmp := xmp.ext hC
              try replace xag := xag.ext hC
              try replace rl := rl.ext hC
              try replace ru := ru.ext hC
              try replace rto := rto.ext hC
              try replace rinv := rinv.ext hC
              replace hE := hE.tr hC
              clear hC
              have o0a := xa.c0
              have o1a := xa.c1
              have ola := xa.lt
              go_wp2_with fail
              clear o0a o1a ola
              obtain ⟨x27, hw⟩ : ∃ x, x = x26.alloc (.cells #[.int .i64 ag.1, .slice taag ag.2.length tcag] 25) := ⟨_, rfl⟩
              have hzx27 : x27.heap.size = x26.heap.size + 1 := by rw [hw]; simp
              have xag : RVar x27 x26.heap.size ag taag tcag := hw ▸ RVar.new rag
              have hC : Ext x26 x27 := hw ▸ (Ext.refl' _).alloc (Nat.le_refl _) _
              rw [← hw]
              clear hw rag
              try replace xr := xr.ext hC
              try replace xp := xp.ext hC
              try replace xq := xq.ext hC
              try replace xo := xo.ext hC
              try replace xk := xk.ext hC
              try replace xf := xf.ext hC
              try replace xa := xa.ext hC
              try replace xb := xb.ext hC
              try replace xc := xc.ext hC
              try replace xdd := xdd.ext hC
              try replace xab := xab.ext hC
              try replace xbc := xbc.ext hC
              try replace xlf := xlf.ext hC
              try replace xrg := xrg.ext hC
              try replace xsm := xsm.ext hC
              try replace xmp := xmp.ext hC
              try replace xag := xag.ext hC
              try replace rl := rl.ext hC
              try replace ru := ru.ext hC
              try replace rto := rto.ext hC
              try replace rinv := rinv.ext hC
              replace hE := hE.tr hC
              clear hC
              refine (same_got xag.rd iag xa.rd (by rw [eag.out, emp.out]; exact map_back ia.valid rfl (fun v h0 h1 => by rcases (show v = 0 ∨ v = 1 by omega) with rfl | rfl <;> rfl))).mono ?_
              rintro e x28 ⟨rfl, hC⟩
              try replace xr := xr.ext hC
              try replace xp := xp.ext hC
              try replace xq := xq.ext hC
              try replace xo := xo.ext hC
              try replace xk := xk.ext hC
              try replace xf := xf.ext hC
              try replace xa := xa.ext hC
              try replace xb := xb.ext hC
              try replace xc := xc.ext hC
              try replace xdd := xdd.ext hC
              try replace xab := xab.ext hC
              try replace xbc := xbc.ext hC
              try replace xlf := xlf.ext hC
              try replace xrg := xrg.ext hC
              try replace xsm := xsm.ext hC
              try replace xmp := xmp.ext hC
              try replace xag := xag.ext hC
              try replace rl := rl.ext hC
              try replace ru := ru.ext hC
              try replace rto := rto.ext hC
              try replace rinv := rinv.ext hC
              replace hE := hE.tr hC
              clear hC
              go_wp2_with fail
              go_ret
              exact ⟨rfl, hE⟩
        · go_wp2_with fail
          obtain ⟨x20b, hw⟩ : ∃ x, x = x21.alloc (.cells #[.int .i64 1, .int .i64 0] 2) := ⟨_, rfl⟩
          have hz20 : x20b.heap.size = x21.heap.size + 1 := by rw [hw]; simp
          have hC : Ext x21 x20b := hw ▸ (Ext.refl' _).alloc (Nat.le_refl _) _
          rw [← hw]
          clear hw
          try replace xr := xr.ext hC
          try replace xp := xp.ext hC
          try replace xq := xq.ext hC
          try replace xo := xo.ext hC
          try replace xk := xk.ext hC
          try replace xf := xf.ext hC
          try replace xa := xa.ext hC
          try replace xb := xb.ext hC
          try replace xc := xc.ext hC
          try replace xdd := xdd.ext hC
          try replace xab := xab.ext hC
          try replace xbc := xbc.ext hC
          try replace xlf := xlf.ext hC
          try replace xrg := xrg.ext hC
          try replace xsm := xsm.ext hC
          try replace xmp := xmp.ext hC
          try replace xag := xag.ext hC
          try replace rl := rl.ext hC
          try replace ru := ru.ext hC
          try replace rto := rto.ext hC
          try replace rinv := rinv.ext hC
          replace hE := hE.tr hC
          clear hC
          obtain ⟨x22, hw⟩ : ∃ x, x = x20b.alloc (.cells #[.int .i64 2, .int .i64 0, .int .i64 1] 2) := ⟨_, rfl⟩
          have t0 : x22.cell? ⟨x21.heap.size + 1, 0, none⟩ = some (.int .i64 2) := by rw [hw, ← hz20]; simp [go_sem]
          have t1 : x22.cell? ⟨x21.heap.size + 1, 1, none⟩ = some (.int .i64 0) := by rw [hw, ← hz20]; simp [go_sem]
          have t2 : x22.cell? ⟨x21.heap.size + 1, 2, none⟩ = some (.int .i64 1) := by rw [hw, ← hz20]; simp [go_sem]
          have hC : Ext x20b x22 := hw ▸ (Ext.refl' _).alloc (Nat.le_refl _) _
          have rto := rdI_cells3 t0 t1 t2
          rw [← hw]
          clear hw hz20
          try replace xr := xr.ext hC
          try replace xp := xp.ext hC
          try replace xq := xq.ext hC
          try replace xo := xo.ext hC
          try replace xk := xk.ext hC
          try replace xf := xf.ext hC
          try replace xa := xa.ext hC
          try replace xb := xb.ext hC
          try replace xc := xc.ext hC
          try replace xdd := xdd.ext hC
          try replace xab := xab.ext hC
          try replace xbc := xbc.ext hC
          try replace xlf := xlf.ext hC
          try replace xrg := xrg.ext hC
          try replace xsm := xsm.ext hC
          try replace xmp := xmp.ext hC
          try replace xag := xag.ext hC
          try replace rl := rl.ext hC
          try replace ru := ru.ext hC
          try replace rto := rto.ext hC
          try replace rinv := rinv.ext hC
          replace hE := hE.tr hC
          clear hC
          rw [mk3]
          go_wp2_with fail
          go_loopw [40] (fun i wr => ∃ j : Nat, j ≤ 3 ∧ i = .int .i64 (j : Nat) ∧ Ext x22 wr ∧ wr.cell? ⟨x22.heap.size, 0, none⟩ = some (.int .i64 (inv3 j).1) ∧ wr.cell? ⟨x22.heap.size, 1, none⟩ = some (.int .i64 (inv3 j).2.1) ∧ wr.cell? ⟨x22.heap.size, 2, none⟩ = some (.int .i64 (inv3 j).2.2) ∧ wr.frozen? ⟨x22.heap.size, 0, none⟩ = false ∧ wr.frozen? ⟨x22.heap.size, 1, none⟩ = false ∧ wr.frozen? ⟨x22.heap.size, 2, none⟩ = false) (fun i _ => 3 - (intOf i).toNat)
          case atStart => exact ⟨0, by omega, rfl, (Ext.refl' _).alloc (Nat.le_refl _) _, by simp [go_sem, inv3], by simp [go_sem, inv3], by simp [go_sem, inv3], by simp [go_sem], by simp [go_sem], by simp [go_sem]⟩
          case round =>
            obtain ⟨j, hj, rfl, hR, c0, c1, c2, f0, f1, f2⟩ := hrel
            replace t0 := hR.cell t0
            replace t1 := hR.cell t1
            replace t2 := hR.cell t2
            rcases (show j = 0 ∨ j = 1 ∨ j = 2 ∨ j = 3 by omega) with rfl | rfl | rfl | rfl
            · go_wp2_with fail
              go_roundw
              case rel => exact ⟨1, by omega, by go_num, hR.setCell (Nat.le_refl _) _, cell_set c0 (.inr (by simp)), cell_set c1 (.inr (by simp)), cell_same c2, by simpa using f0, by simpa using f1, by simpa using f2⟩
              case measure => simp [intOf]
            · go_wp2_with fail
              go_roundw
              case rel => exact ⟨2, by omega, by go_num, hR.setCell (Nat.le_refl _) _, cell_same c0, cell_set c1 (.inr (by simp)), cell_set c2 (.inr (by simp)), by simpa using f0, by simpa using f1, by simpa using f2⟩
              case measure => simp [intOf]
            · go_wp2_with fail
              go_roundw
              case rel => exact ⟨3, by omega, by go_num, hR.setCell (Nat.le_refl _) _, cell_set c0 (.inr (by simp)), cell_same c1, cell_set c2 (.inr (by simp)), by simpa using f0, by simpa using f1, by simpa using f2⟩
              case measure => simp [intOf]
            · have rinv := rdI_cells3 c0 c1 c2
              have hC := hR
              clear c0 c1 c2 f0 f1 f2 t0 t1 t2 hR
              try replace xr := xr.ext hC
              try replace xp := xp.ext hC
              try replace xq := xq.ext hC
              try replace xo := xo.ext hC
              try replace xk := xk.ext hC
              try replace xf := xf.ext hC
              try replace xa := xa.ext hC
              try replace xb := xb.ext hC
              try replace xc := xc.ext hC
              try replace xdd := xdd.ext hC
              try replace xab := xab.ext hC
              try replace xbc := xbc.ext hC
              try replace xlf := xlf.ext hC
              try replace xrg := xrg.ext hC
              try replace xsm := xsm.ext hC
              try replace xmp := xmp.ext hC
              try replace xag := xag.ext hC
              try replace rl := rl.ext hC
              try replace ru := ru.ext hC
              try replace rto := rto.ext hC
              try replace rinv := rinv.ext hC
              replace hE := hE.tr hC
              clear hC
              have o0a := xa.c0
              have o1a := xa.c1
              have ola := xa.lt
              go_wp2_with fail
              clear o0a o1a ola
              refine (map_got xa.rd ia rto rfl).mono ?_
              rintro e x24 ⟨tamp, tcmp, mp, rfl, hC, rmp, imp, emp⟩
              try replace xr := xr.ext hC
              try replace xp := xp.ext hC
              try replace xq := xq.ext hC
              try replace xo := xo.ext hC
              try replace xk := xk.ext hC
              try replace xf := xf.ext hC
              try replace xa := xa.ext hC
              try replace xb := xb.ext hC
              try replace xc := xc.ext hC
              try replace xdd := xdd.ext hC
              try replace xab := xab.ext hC
              try replace xbc := xbc.ext hC
              try replace xlf := xlf.ext hC
              try replace xrg := xrg.ext hC
              try replace xsm := xsm.ext hC
              try replace xmp := xmp.ext hC
              try replace xag := xag.ext hC
              try replace rl := rl.ext hC
              try replace ru := ru.ext hC
              try replace rto := rto.ext hC
              try replace rinv := rinv.ext hC
              replace hE := hE.tr hC
              clear hC
              go_wp2_with fail
              obtain ⟨x25, hw⟩ : ∃ x, x = x24.alloc (.cells #[.int .i64 mp.1, .slice tamp mp.2.length tcmp] 25) := ⟨_, rfl⟩
              have hzx25 : x25.heap.size = x24.heap.size + 1 := by rw [hw]; simp
              have xmp : RVar x25 x24.heap.size mp tamp tcmp := hw ▸ RVar.new rmp
              have hC : Ext x24 x25 := hw ▸ (Ext.refl' _).alloc (Nat.le_refl _) _
              rw [← hw]
              clear hw rmp
              try replace xr := xr.ext hC
              try replace xp := xp.ext hC
              try replace xq := xq.ext hC
              try replace xo := xo.ext hC
              try replace xk := xk.ext hC
              try replace xf := xf.ext hC
              try replace xa := xa.ext hC
              try replace xb := xb.ext hC
              try replace xc := xc.ext hC
              try replace xdd := xdd.ext hC
              try replace xab := xab.ext hC
              try replace xbc := xbc.ext hC
              try replace xlf := xlf.ext hC
              try replace xrg := xrg.ext hC
              try replace xsm := xsm.ext hC
              try replace xmp := xmp.ext hC
              try replace xag := xag.ext hC
              try replace rl := rl.ext hC
              try replace ru := ru.ext hC
              try replace rto := rto.ext hC
              try replace rinv := rinv.ext hC
              replace hE := hE.tr hC
              clear hC
              refine (map_got xmp.rd imp rinv rfl).mono ?_
              rintro e x26 ⟨taag, tcag, ag, rfl, hC, rag, iag, eag⟩
              try replace xr := xr.ext hC
              try replace xp := xp.ext hC
              try replace xq := xq.ext hC
              try replace xo := xo.ext hC
              try replace xk := xk.ext hC
              try replace xf := xf.ext hC
              try replace xa := xa.ext hC
              try replace xb := xb.ext hC
              try replace xc := xc.ext hC
              try replace xdd := xdd.ext hC
              try replace xab := xab.ext hC
              try replace xbc := xbc.ext hC
              try replace xlf := xlf.ext hC
              try replace xrg := xrg.ext hC
              try replace xsm := xsm.ext hC
              try replace xmp := xmp.ext hC
              try replace xag := xag.ext hC
              try replace rl := rl.ext hC
              try replace ru := ru.ext hC
              try replace rto := rto.ext hC
              try replace rinv := rinv.ext hC
              replace hE := hE.tr hC
              clear hC
              have o0a := xa.c0
              have o1a := xa.c1
              have ola := xa.lt
              go_wp2_with fail
              clear o0a o1a ola
              obtain ⟨x27, hw⟩ : ∃ x, x = x26.alloc (.cells #[.int .i64 ag.1, .slice taag ag.2.length tcag] 25) := ⟨_, rfl⟩
              have hzx27 : x27.heap.size = x26.heap.size + 1 := by rw [hw]; simp
              have xag : RVar x27 x26.heap.size ag taag tcag := hw ▸ RVar.new rag
              have hC : Ext x26 x27 := hw ▸ (Ext.refl' _).alloc (Nat.le_refl _) _
              rw [← hw]
              clear hw rag
              try replace xr := xr.ext hC
              try replace xp := xp.ext hC
              try replace xq := xq.ext hC
              try replace xo := xo.ext hC
              try replace xk := xk.ext hC
              try replace xf := xf.ext hC
              try replace xa := xa.ext hC
              try replace xb := xb.ext hC
              try replace xc := xc.ext hC
              try replace xdd := xdd.ext hC
              try replace xab := xab.ext hC
              try replace xbc := xbc.ext hC
              try replace xlf := xlf.ext hC
              try replace xrg := xrg.ext hC
              try replace xsm := xsm.ext hC
              try replace xmp := xmp.ext hC
              try replace xag := xag.ext hC
              try replace rl := rl.ext hC
              try replace ru := ru.ext hC
              try replace rto := rto.ext hC
              try replace rinv := rinv.ext hC
              replace hE := hE.tr hC
              clear hC
              refine (same_got xag.rd iag xa.rd (by rw [eag.out, emp.out]; exact map_back ia.valid rfl (fun v h0 h1 => by rcases (show v = 0 ∨ v = 1 ∨ v = 2 by omega) with rfl | rfl | rfl <;> rfl))).mono ?_
              rintro e x28 ⟨rfl, hC⟩
              try replace xr := xr.ext hC
              try replace xp := xp.ext hC
              try replace xq := xq.ext hC
              try replace xo := xo.ext hC
              try replace xk := xk.ext hC
              try replace xf := xf.ext hC
              try replace xa := xa.ext hC
              try replace xb := xb.ext hC
              try replace xc := xc.ext hC
              try replace xdd := xdd.ext hC
              try replace xab := xab.ext hC
              try replace xbc := xbc.ext hC
              try replace xlf := xlf.ext hC
              try replace xrg := xrg.ext hC
              try replace xsm := xsm.ext hC
              try replace xmp := xmp.ext hC
              try replace xag := xag.ext hC
              try replace rl := rl.ext hC
              try replace ru := ru.ext hC
              try replace rto := rto.ext hC
              try replace rinv := rinv.ext hC
              replace hE := hE.tr hC
              clear hC
              go_wp2_with fail
              go_ret
              exact ⟨rfl, hE⟩
set_option maxRecDepth 100000 in
theorem lifted (os : Os) (started : os.Started) (H : Type) (enc : TypeId × Value → H) :
    ReturnsInHanded {} Try.checked os 9 .any (Rows.fnPlacedSpec.pre6 enc Try.prog Try.f9 Rows.fnPlacedRow.domain false) (Rows.fnPlacedSpec.post enc Try.prog Try.f9 false true false false) := by
  refine returnsInHanded_of_change (C := Try.checked) own_knob started (by kernel_rfl) Try.func9
    (ChangeSpec.witness6 (enc := enc) (C := Try.checked) false ⟨#[], #[.slice none 0 0, .slice none 0 0], []⟩ 8 (by kernel_rfl) (by kernel_rfl) (by kernel_rfl) (by kernel_rfl)) ?_
  intro W base args ds gs before hval0 hW hcnd _
  have hval : ∀ (j : Nat) t v, Try.f9.params[j]? = some t → args[j]? = some v → Value.okWide Try.prog W .any base t v := hval0
  have hW' := hW
  obtain ⟨p, q, hA0, hV, rfl, hfz, hnd⟩ := hW
  have hA : DataW.TrodAll enc Try.prog W 0 (fun _ => true) true Try.f9.params.toList args.toList ds p := hA0
  rw [Try.params9] at hA hval
  obtain ⟨v0, v1, d0, d1, p0, p1, rfl, rfl, rfl, k0, k1⟩ := trodAll_two hA
  obtain ⟨rfl, rfl⟩ := trodVars_none hV
  clear hA0 hval0
  simp only [List.append_nil] at hW'
  obtain ⟨a0, n0, c0, rfl, h0, hn⟩ := dB_of k0 (hval 0 _ _ rfl rfl)
  obtain ⟨_, _, _, rfl, h1, _⟩ := dB_of k1 (hval 1 _ _ rfl rfl)
  refine (walk a0 n0 c0 _ W h0 hn h1).mono fun e W' ⟨he, hE⟩ => ?_
  subst he
  exact ⟨_, rfl, law_post rfl rfl (by kernel_rfl) hW' hE rfl rfl rfl⟩

theorem proved : Rows.FnPlacedSaid :=
  OpenClaim.holds_of_wide 9 Try.f9 rfl rfl rfl rfl rfl rfl rfl ⟨rfl, rfl, rfl, rfl, rfl⟩ rfl rfl rfl rfl rfl (by kernel_rfl) Try.func9 (by kernel_rfl)
    (of_decide_eq_true (by kernel_rfl)) (by unfold Func.isWrapper; first | (rw [if_pos (by decide +kernel)]; kernel_rfl) | (rw [if_neg (by decide +kernel)]; exact ⟨rfl, rfl⟩))
    (fun os started H enc _ => lifted os started H enc)
end Go.Proofs.Ytefnmfdmnoednaa.fnPlaced
