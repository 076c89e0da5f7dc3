
/- FnRelations returns true, whatever the input, and writes nothing that was there. Conditions: none. -/
import Derived.Test.YtajkepdfemdagaaGreatDoorLiftB
import Derived.Test.YtajkepdfemdagaaGreatDoorLaidW
import Derived.Test.YtajkepdfemdagaaGreatDoorTie
import Derived.Test.YtajkepdfemdagaaGreatDoorCards
import Derived.LaidMore
import Derived.Stop.Joined
import Derived.SevenTiedAt
import Derived.Test.YtajkepdfemdagaaGreatDoorRelsC
namespace Go.Proofs.YtajkepdfemdagaaGreatDoor.fnRelations
open Go.ChangeShapes Go.WideShapes Go.ChangeAt Go.RowKit
set_option linter.unusedVariables false


set_option maxHeartbeats 40000000 in
set_option maxRecDepth 100000 in
theorem walk (a0 : Option Addr) (n0 c0 : Nat) (v1 : Value) (w : World) (hv0 : RdB w (.slice a0 n0 c0)) (hn0 : a0 = none → c0 = 0) (hv1 : RdB w v1) (hL : LaidW w) :
    Calls Tryz.prog 4 #[.slice a0 n0 c0, v1] w fun e w' => e = .returned (.bool true) ∧ Ext w w' := by
  have f1 := hv1
  obtain ⟨a1, _, _, n1, c1, rfl, -⟩ := f1
  by_cases z0 : (4096 : Int) < n0
  · go_enter Tryz.func4, Tryz.ntmps4
    go_wp2_with fail
    refine (f6big_any _ _ _ _).mono ?_
    rintro e s1 ⟨rfl, hE⟩
    rw [decide_eq_true z0]
    go_wp2_with fail
    go_ret
    exact ⟨rfl, hE⟩
  have D0 := decide_eq_false z0
  by_cases z1 : (4096 : Int) < n1
  · have D1 := decide_eq_true z1
    clear z0 z1
    go_enter Tryz.func4, Tryz.ntmps4
    go_wp2_with fail
    refine (f6big_any _ _ _ _).mono ?_
    rintro e s1 ⟨rfl, hE⟩
    rw [D0]
    go_wp2_with fail
    refine (f6big_any _ _ _ _).mono ?_
    rintro e s2 ⟨rfl, hC⟩
    rw [D1]
    go_wp2_with fail
    go_ret
    exact ⟨rfl, hE.tr hC⟩
  have D1 := decide_eq_false z1
  clear z0 z1
  obtain ⟨v0, hf0⟩ : ∃ v, v = Value.slice a0 n0 c0 := ⟨_, rfl⟩
  obtain ⟨v1, hf1⟩ : ∃ v, v = Value.slice a1 n1 c1 := ⟨_, rfl⟩
  have HF0 := Lib.hid hf0
  have HF1 := Lib.hid hf1
  rw [← hf0] at hv0
  rw [← hf1] at hv1
  clear hf0 hf1
  go_enter Tryz.func4, Tryz.ntmps4
  go_wp2_with fail
  refine (f6big_any _ _ _ _).mono ?_
  rintro e s1 ⟨rfl, hE⟩
  rw [D0]
  go_wp2_with fail
  refine (f6big_any _ _ _ _).mono ?_
  rintro e s2 ⟨rfl, hC⟩
  rw [D1]
  clear D0 D1
  try replace xr := xr.ext hC
  try replace xq := xq.ext hC
  try replace xo := xo.ext hC
  try replace xm := xm.ext hC
  try replace xj := xj.ext hC
  try replace xb := xb.ext hC
  try replace xz := xz.ext hC
  try replace xt := xt.ext hC
  try replace xk := xk.ext hC
  try replace ru := ru.ext hC
  replace hE := hE.tr hC
  clear hC
  rw [← HF0.out, ← HF1.out]
  go_wp2_with fail
  refine (p6Pick_any v0 2 _ (hv0.ext hE) (by omega) (by omega)).mono ?_
  rintro e w1 ⟨n, nl, nh, rfl, hC⟩
  try replace xr := xr.ext hC
  try replace xq := xq.ext hC
  try replace xo := xo.ext hC
  try replace xm := xm.ext hC
  try replace xj := xj.ext hC
  try replace xb := xb.ext hC
  try replace xz := xz.ext hC
  try replace xt := xt.ext hC
  try replace xk := xk.ext hC
  try replace ru := ru.ext hC
  replace hE := hE.tr hC
  clear hC
  go_wp2_with fail
  refine (p6Pick_any v1 3 _ (hv1.ext hE) (by omega) (by omega)).mono ?_
  rintro e w2 ⟨k, kl, kh, rfl, hC⟩
  try replace xr := xr.ext hC
  try replace xq := xq.ext hC
  try replace xo := xo.ext hC
  try replace xm := xm.ext hC
  try replace xj := xj.ext hC
  try replace xb := xb.ext hC
  try replace xz := xz.ext hC
  try replace xt := xt.ext hC
  try replace xk := xk.ext hC
  try replace ru := ru.ext hC
  replace hE := hE.tr hC
  clear hC
  go_wp2_with fail
  obtain ⟨s, hs⟩ : ∃ s, s = 2 + n := ⟨_, rfl⟩
  obtain ⟨a, ha⟩ : ∃ m, m = 1 + k := ⟨_, rfl⟩
  rw [← hs, ← ha]
  have sl : 2 ≤ s := by omega
  have sh : s ≤ 3 := by omega
  have al : 1 ≤ a := by omega
  have ah : a ≤ 3 := by omega
  have sl2 : 1 ≤ s := by omega
  have sh2 : s ≤ 4 := by omega
  have ah2 : a ≤ 4 := by omega
  clear hs ha nl nh kl kh
  refine (p6Rel_got v0 s a _ (hv0.ext hE) (by omega) (by omega) (by omega) (by omega)).mono ?_
  rintro e w3 ⟨tar, tcr, r, rfl, hC, rr, ir⟩
  try replace xr := xr.ext hC
  try replace xq := xq.ext hC
  try replace xo := xo.ext hC
  try replace xm := xm.ext hC
  try replace xj := xj.ext hC
  try replace xb := xb.ext hC
  try replace xz := xz.ext hC
  try replace xt := xt.ext hC
  try replace xk := xk.ext hC
  try replace ru := ru.ext hC
  replace hE := hE.tr hC
  clear hC
  go_wp2_with fail
  obtain ⟨w4, hw⟩ : ∃ x, x = w3.alloc (.cells #[.int .i64 r.1, .slice tar r.2.length tcr] 35) := ⟨_, rfl⟩
  have hzw4 : w4.heap.size = w3.heap.size + 1 := by rw [hw]; simp
  have xr : RVar w4 w3.heap.size r tar tcr := hw ▸ RVar.new rr
  have hC : Ext w3 w4 := hw ▸ (Ext.refl' _).alloc (Nat.le_refl _) _
  rw [← hw]
  clear hw rr
  try replace xr := xr.ext hC
  try replace xq := xq.ext hC
  try replace xo := xo.ext hC
  try replace xm := xm.ext hC
  try replace xj := xj.ext hC
  try replace xb := xb.ext hC
  try replace xz := xz.ext hC
  try replace xt := xt.ext hC
  try replace xk := xk.ext hC
  try replace ru := ru.ext hC
  replace hE := hE.tr hC
  clear hC
  refine (p6Rel_got v1 s a _ (hv1.ext hE) (by omega) (by omega) (by omega) (by omega)).mono ?_
  rintro e w5 ⟨taq, tcq, q, rfl, hC, rq, iq⟩
  try replace xr := xr.ext hC
  try replace xq := xq.ext hC
  try replace xo := xo.ext hC
  try replace xm := xm.ext hC
  try replace xj := xj.ext hC
  try replace xb := xb.ext hC
  try replace xz := xz.ext hC
  try replace xt := xt.ext hC
  try replace xk := xk.ext hC
  try replace ru := ru.ext hC
  replace hE := hE.tr hC
  clear hC
  go_wp2_with fail
  obtain ⟨w6, hw⟩ : ∃ x, x = w5.alloc (.cells #[.int .i64 q.1, .slice taq q.2.length tcq] 35) := ⟨_, rfl⟩
  have hzw6 : w6.heap.size = w5.heap.size + 1 := by rw [hw]; simp
  have xq : RVar w6 w5.heap.size q taq tcq := hw ▸ RVar.new rq
  have hC : Ext w5 w6 := hw ▸ (Ext.refl' _).alloc (Nat.le_refl _) _
  rw [← hw]
  clear hw rq
  try replace xr := xr.ext hC
  try replace xq := xq.ext hC
  try replace xo := xo.ext hC
  try replace xm := xm.ext hC
  try replace xj := xj.ext hC
  try replace xb := xb.ext hC
  try replace xz := xz.ext hC
  try replace xt := xt.ext hC
  try replace xk := xk.ext hC
  try replace ru := ru.ext hC
  replace hE := hE.tr hC
  clear hC
  refine (p6Tuple_any v1 s a _ (hv1.ext hE) (by omega) (by omega) (by omega) (by omega)).mono ?_
  rintro e w7 ⟨uu, u, fu, rfl, hC, ou, -, hul, huv⟩
  have HU := Lib.hid (show vals s u a = true from vals_iff.2 ⟨hul, huv⟩)
  have hu8 : u.length ≤ 1048576 := by omega
  clear hul huv
  have ru := ou.rd
  clear ou
  obtain ⟨ua, uc, rfl⟩ := ru.form
  try replace xr := xr.ext hC
  try replace xq := xq.ext hC
  try replace xo := xo.ext hC
  try replace xm := xm.ext hC
  try replace xj := xj.ext hC
  try replace xb := xb.ext hC
  try replace xz := xz.ext hC
  try replace xt := xt.ext hC
  try replace xk := xk.ext hC
  try replace ru := ru.ext hC
  replace hE := hE.tr hC
  clear hC
  have o0r := xr.c0
  have o1r := xr.c1
  have olr := xr.lt
  go_wp2_with fail
  clear o0r o1r olr
  refine (opp_got xr.rd ir).mono ?_
  rintro e x1 ⟨tao, tco, o, rfl, hC, ro, io, eo⟩
  try replace xr := xr.ext hC
  try replace xq := xq.ext hC
  try replace xo := xo.ext hC
  try replace xm := xm.ext hC
  try replace xj := xj.ext hC
  try replace xb := xb.ext hC
  try replace xz := xz.ext hC
  try replace xt := xt.ext hC
  try replace xk := xk.ext hC
  try replace ru := ru.ext hC
  replace hE := hE.tr hC
  clear hC
  have o0r := xr.c0
  have o1r := xr.c1
  have olr := xr.lt
  have o0q := xq.c0
  have o1q := xq.c1
  have olq := xq.lt
  go_wp2_with fail
  clear o0r o1r olr
  clear o0q o1q olq
  obtain ⟨x2, hw⟩ : ∃ x, x = x1.alloc (.cells #[.int .i64 o.1, .slice tao o.2.length tco] 35) := ⟨_, rfl⟩
  have hzx2 : x2.heap.size = x1.heap.size + 1 := by rw [hw]; simp
  have xo : RVar x2 x1.heap.size o tao tco := hw ▸ RVar.new ro
  have hC : Ext x1 x2 := hw ▸ (Ext.refl' _).alloc (Nat.le_refl _) _
  rw [← hw]
  clear hw ro
  try replace xr := xr.ext hC
  try replace xq := xq.ext hC
  try replace xo := xo.ext hC
  try replace xm := xm.ext hC
  try replace xj := xj.ext hC
  try replace xb := xb.ext hC
  try replace xz := xz.ext hC
  try replace xt := xt.ext hC
  try replace xk := xk.ext hC
  try replace ru := ru.ext hC
  replace hE := hE.tr hC
  clear hC
  refine (meet_got xr.rd ir xq.rd iq).mono ?_
  rintro e x3 ⟨tam, tcm, m, rfl, hC, rm, im, em⟩
  try replace xr := xr.ext hC
  try replace xq := xq.ext hC
  try replace xo := xo.ext hC
  try replace xm := xm.ext hC
  try replace xj := xj.ext hC
  try replace xb := xb.ext hC
  try replace xz := xz.ext hC
  try replace xt := xt.ext hC
  try replace xk := xk.ext hC
  try replace ru := ru.ext hC
  replace hE := hE.tr hC
  clear hC
  have o0r := xr.c0
  have o1r := xr.c1
  have olr := xr.lt
  have o0q := xq.c0
  have o1q := xq.c1
  have olq := xq.lt
  go_wp2_with fail
  clear o0r o1r olr
  clear o0q o1q olq
  obtain ⟨x4, hw⟩ : ∃ x, x = x3.alloc (.cells #[.int .i64 m.1, .slice tam m.2.length tcm] 35) := ⟨_, rfl⟩
  have hzx4 : x4.heap.size = x3.heap.size + 1 := by rw [hw]; simp
  have xm : RVar x4 x3.heap.size m tam tcm := hw ▸ RVar.new rm
  have hC : Ext x3 x4 := hw ▸ (Ext.refl' _).alloc (Nat.le_refl _) _
  rw [← hw]
  clear hw rm
  try replace xr := xr.ext hC
  try replace xq := xq.ext hC
  try replace xo := xo.ext hC
  try replace xm := xm.ext hC
  try replace xj := xj.ext hC
  try replace xb := xb.ext hC
  try replace xz := xz.ext hC
  try replace xt := xt.ext hC
  try replace xk := xk.ext hC
  try replace ru := ru.ext hC
  replace hE := hE.tr hC
  clear hC
  refine (join_got xr.rd ir xq.rd iq).mono ?_
  rintro e x5 ⟨taj, tcj, j, rfl, hC, rj, ij, ej⟩
  try replace xr := xr.ext hC
  try replace xq := xq.ext hC
  try replace xo := xo.ext hC
  try replace xm := xm.ext hC
  try replace xj := xj.ext hC
  try replace xb := xb.ext hC
  try replace xz := xz.ext hC
  try replace xt := xt.ext hC
  try replace xk := xk.ext hC
  try replace ru := ru.ext hC
  replace hE := hE.tr hC
  clear hC
  have o0o := xo.c0
  have o1o := xo.c1
  have olo := xo.lt
  go_wp2_with fail
  clear o0o o1o olo
  obtain ⟨x6, hw⟩ : ∃ x, x = x5.alloc (.cells #[.int .i64 j.1, .slice taj j.2.length tcj] 35) := ⟨_, rfl⟩
  have hzx6 : x6.heap.size = x5.heap.size + 1 := by rw [hw]; simp
  have xj : RVar x6 x5.heap.size j taj tcj := hw ▸ RVar.new rj
  have hC : Ext x5 x6 := hw ▸ (Ext.refl' _).alloc (Nat.le_refl _) _
  rw [← hw]
  clear hw rj
  try replace xr := xr.ext hC
  try replace xq := xq.ext hC
  try replace xo := xo.ext hC
  try replace xm := xm.ext hC
  try replace xj := xj.ext hC
  try replace xb := xb.ext hC
  try replace xz := xz.ext hC
  try replace xt := xt.ext hC
  try replace xk := xk.ext hC
  try replace ru := ru.ext hC
  replace hE := hE.tr hC
  clear hC
  refine (opp_got xo.rd io).mono ?_
  rintro e x7 ⟨tab, tcb, b, rfl, hC, rb, ib, eb⟩
  try replace xr := xr.ext hC
  try replace xq := xq.ext hC
  try replace xo := xo.ext hC
  try replace xm := xm.ext hC
  try replace xj := xj.ext hC
  try replace xb := xb.ext hC
  try replace xz := xz.ext hC
  try replace xt := xt.ext hC
  try replace xk := xk.ext hC
  try replace ru := ru.ext hC
  replace hE := hE.tr hC
  clear hC
  go_wp2_with fail
  obtain ⟨x8, hw⟩ : ∃ x, x = x7.alloc (.cells #[.int .i64 b.1, .slice tab b.2.length tcb] 35) := ⟨_, rfl⟩
  have hzx8 : x8.heap.size = x7.heap.size + 1 := by rw [hw]; simp
  have xb : RVar x8 x7.heap.size b tab tcb := hw ▸ RVar.new rb
  have hC : Ext x7 x8 := hw ▸ (Ext.refl' _).alloc (Nat.le_refl _) _
  rw [← hw]
  clear hw rb
  try replace xr := xr.ext hC
  try replace xq := xq.ext hC
  try replace xo := xo.ext hC
  try replace xm := xm.ext hC
  try replace xj := xj.ext hC
  try replace xb := xb.ext hC
  try replace xz := xz.ext hC
  try replace xt := xt.ext hC
  try replace xk := xk.ext hC
  try replace ru := ru.ext hC
  replace hE := hE.tr hC
  clear hC
  refine (full_got s a _ (by omega) (by omega) (by omega) (by omega)).mono ?_
  rintro e x9 ⟨taz, tcz, z, rfl, hC, rz, iz, ez⟩
  try replace xr := xr.ext hC
  try replace xq := xq.ext hC
  try replace xo := xo.ext hC
  try replace xm := xm.ext hC
  try replace xj := xj.ext hC
  try replace xb := xb.ext hC
  try replace xz := xz.ext hC
  try replace xt := xt.ext hC
  try replace xk := xk.ext hC
  try replace ru := ru.ext hC
  replace hE := hE.tr hC
  clear hC
  have o0b := xb.c0
  have o1b := xb.c1
  have olb := xb.lt
  have o0r := xr.c0
  have o1r := xr.c1
  have olr := xr.lt
  go_wp2_with fail
  clear o0b o1b olb
  clear o0r o1r olr
  obtain ⟨x10, hw⟩ : ∃ x, x = x9.alloc (.cells #[.int .i64 z.1, .slice taz z.2.length tcz] 35) := ⟨_, rfl⟩
  have hzx10 : x10.heap.size = x9.heap.size + 1 := by rw [hw]; simp
  have xz : RVar x10 x9.heap.size z taz tcz := hw ▸ RVar.new rz
  have hC : Ext x9 x10 := hw ▸ (Ext.refl' _).alloc (Nat.le_refl _) _
  rw [← hw]
  clear hw rz
  try replace xr := xr.ext hC
  try replace xq := xq.ext hC
  try replace xo := xo.ext hC
  try replace xm := xm.ext hC
  try replace xj := xj.ext hC
  try replace xb := xb.ext hC
  try replace xz := xz.ext hC
  try replace xt := xt.ext hC
  try replace xk := xk.ext hC
  try replace ru := ru.ext hC
  replace hE := hE.tr hC
  clear hC
  refine (same_got xb.rd ib xr.rd (by rw [eb.out, eo.out]; exact opp_opp ir)).mono ?_
  rintro e x11 ⟨rfl, hC⟩
  try replace xr := xr.ext hC
  try replace xq := xq.ext hC
  try replace xo := xo.ext hC
  try replace xm := xm.ext hC
  try replace xj := xj.ext hC
  try replace xb := xb.ext hC
  try replace xz := xz.ext hC
  try replace xt := xt.ext hC
  try replace xk := xk.ext hC
  try replace ru := ru.ext hC
  replace hE := hE.tr hC
  clear hC
  have o0j := xj.c0
  have o1j := xj.c1
  have olj := xj.lt
  go_wp2_with fail
  clear o0j o1j olj
  refine (valid_got xj.rd ij).mono ?_
  rintro e x12 ⟨rfl, hC⟩
  try replace xr := xr.ext hC
  try replace xq := xq.ext hC
  try replace xo := xo.ext hC
  try replace xm := xm.ext hC
  try replace xj := xj.ext hC
  try replace xb := xb.ext hC
  try replace xz := xz.ext hC
  try replace xt := xt.ext hC
  try replace xk := xk.ext hC
  try replace ru := ru.ext hC
  replace hE := hE.tr hC
  clear hC
  have o0r := xr.c0
  have o1r := xr.c1
  have olr := xr.lt
  go_wp2_with fail
  clear o0r o1r olr
  refine (specHas_got xr.rd ir ru hu8).mono ?_
  rintro e x13 ⟨rfl, hC⟩
  try replace xr := xr.ext hC
  try replace xq := xq.ext hC
  try replace xo := xo.ext hC
  try replace xm := xm.ext hC
  try replace xj := xj.ext hC
  try replace xb := xb.ext hC
  try replace xz := xz.ext hC
  try replace xt := xt.ext hC
  try replace xk := xk.ext hC
  try replace ru := ru.ext hC
  replace hE := hE.tr hC
  clear hC
  have o0q := xq.c0
  have o1q := xq.c1
  have olq := xq.lt
  go_wp2_with fail
  clear o0q o1q olq
  refine (specHas_got xq.rd iq ru hu8).mono ?_
  rintro e x14 ⟨rfl, hC⟩
  try replace xr := xr.ext hC
  try replace xq := xq.ext hC
  try replace xo := xo.ext hC
  try replace xm := xm.ext hC
  try replace xj := xj.ext hC
  try replace xb := xb.ext hC
  try replace xz := xz.ext hC
  try replace xt := xt.ext hC
  try replace xk := xk.ext hC
  try replace ru := ru.ext hC
  replace hE := hE.tr hC
  clear hC
  have o0o := xo.c0
  have o1o := xo.c1
  have olo := xo.lt
  go_wp2_with fail
  clear o0o o1o olo
  refine (implHas_got xo.rd io ru hu8).mono ?_
  rintro e x15 ⟨rfl, hC⟩
  try replace xr := xr.ext hC
  try replace xq := xq.ext hC
  try replace xo := xo.ext hC
  try replace xm := xm.ext hC
  try replace xj := xj.ext hC
  try replace xb := xb.ext hC
  try replace xz := xz.ext hC
  try replace xt := xt.ext hC
  try replace xk := xk.ext hC
  try replace ru := ru.ext hC
  replace hE := hE.tr hC
  clear hC
  have o0m := xm.c0
  have o1m := xm.c1
  have olm := xm.lt
  go_wp2_with fail
  clear o0m o1m olm
  refine (implHas_got xm.rd im ru hu8).mono ?_
  rintro e x16 ⟨rfl, hC⟩
  try replace xr := xr.ext hC
  try replace xq := xq.ext hC
  try replace xo := xo.ext hC
  try replace xm := xm.ext hC
  try replace xj := xj.ext hC
  try replace xb := xb.ext hC
  try replace xz := xz.ext hC
  try replace xt := xt.ext hC
  try replace xk := xk.ext hC
  try replace ru := ru.ext hC
  replace hE := hE.tr hC
  clear hC
  have o0j := xj.c0
  have o1j := xj.c1
  have olj := xj.lt
  go_wp2_with fail
  clear o0j o1j olj
  refine (implHas_got xj.rd ij ru hu8).mono ?_
  rintro e x17 ⟨rfl, hC⟩
  try replace xr := xr.ext hC
  try replace xq := xq.ext hC
  try replace xo := xo.ext hC
  try replace xm := xm.ext hC
  try replace xj := xj.ext hC
  try replace xb := xb.ext hC
  try replace xz := xz.ext hC
  try replace xt := xt.ext hC
  try replace xk := xk.ext hC
  try replace ru := ru.ext hC
  replace hE := hE.tr hC
  clear hC
  rw [show hasT o u = !hasT r u by rw [eo.out]; exact hasT_opp sl2 sh2 al ah2 HU.out, show hasT m u = (hasT r u && hasT q u) by rw [em.out]; exact hasT_meet sl2 sh2 al ah2 HU.out, show hasT j u = (hasT r u || hasT q u) by rw [ej.out]; exact hasT_join sl2 sh2 al ah2 HU.out]
  have hlen : m.2.length + j.2.length = r.2.length + q.2.length := by rw [em.out, ej.out]; exact meet_join_len ir iq
  have l1 := im.len
  have l2 := ij.len
  have l3 := ir.len
  have l4 := iq.len
  have hlb : ((m.2.length : Int) + (j.2.length : Int) != (r.2.length : Int) + (q.2.length : Int)) = false := by rw [bne_eq_false_iff_eq]; omega
  clear HU hlen
  generalize hasT r u = hx
  generalize hasT q u = hy
  have hyy : (hy != hy) = false := by cases hy <;> rfl
  cases hx with
  | true =>
    have o0m := xm.c0
    have o1m := xm.c1
    have olm := xm.lt
    have o0j := xj.c0
    have o1j := xj.c1
    have olj := xj.lt
    have o0r := xr.c0
    have o1r := xr.c1
    have olr := xr.lt
    have o0q := xq.c0
    have o1q := xq.c1
    have olq := xq.lt
    go_wp2_with fail
    clear o0m o1m olm
    clear o0j o1j olj
    clear o0r o1r olr
    clear o0q o1q olq
    clear hlb hyy l1 l2 l3 l4
    refine (part_got xm.rd im xr.rd ir).mono ?_
    rintro e y1 ⟨rfl, hC⟩
    try replace xr := xr.ext hC
    try replace xq := xq.ext hC
    try replace xo := xo.ext hC
    try replace xm := xm.ext hC
    try replace xj := xj.ext hC
    try replace xb := xb.ext hC
    try replace xz := xz.ext hC
    try replace xt := xt.ext hC
    try replace xk := xk.ext hC
    try replace ru := ru.ext hC
    replace hE := hE.tr hC
    clear hC
    rw [show partOf m r = true by rw [em.out]; exact meet_part sl2 sh2 al ah2]
    have o0r := xr.c0
    have o1r := xr.c1
    have olr := xr.lt
    have o0q := xq.c0
    have o1q := xq.c1
    have olq := xq.lt
    go_wp2_with fail
    clear o0r o1r olr
    clear o0q o1q olq
    refine (part_got xr.rd ir xq.rd iq).mono ?_
    rintro e y2 ⟨rfl, hC⟩
    try replace xr := xr.ext hC
    try replace xq := xq.ext hC
    try replace xo := xo.ext hC
    try replace xm := xm.ext hC
    try replace xj := xj.ext hC
    try replace xb := xb.ext hC
    try replace xz := xz.ext hC
    try replace xt := xt.ext hC
    try replace xk := xk.ext hC
    try replace ru := ru.ext hC
    replace hE := hE.tr hC
    clear hC
    obtain ⟨pb, hpb⟩ : ∃ x, x = partOf r q := ⟨_, rfl⟩
    have HPM := Lib.hid (show pb = decide (m = r) by rw [hpb, em.out]; exact part_meet ir)
    rw [← hpb]
    clear hpb
    have o0j := xj.c0
    have o1j := xj.c1
    have olj := xj.lt
    have o0z := xz.c0
    have o1z := xz.c1
    have olz := xz.lt
    go_wp2_with fail
    clear o0j o1j olj
    clear o0z o1z olz
    refine (part_got xj.rd ij xz.rd iz).mono ?_
    rintro e y3 ⟨rfl, hC⟩
    try replace xr := xr.ext hC
    try replace xq := xq.ext hC
    try replace xo := xo.ext hC
    try replace xm := xm.ext hC
    try replace xj := xj.ext hC
    try replace xb := xb.ext hC
    try replace xz := xz.ext hC
    try replace xt := xt.ext hC
    try replace xk := xk.ext hC
    try replace ru := ru.ext hC
    replace hE := hE.tr hC
    clear hC
    rw [show partOf j z = true by rw [ez.out]; exact part_full ij]
    have o0r := xr.c0
    have o1r := xr.c1
    have olr := xr.lt
    go_wp2_with fail
    clear o0r o1r olr
    refine (text_got xr.rd ir).mono ?_
    rintro e y4 ⟨rfl, hC⟩
    try replace xr := xr.ext hC
    try replace xq := xq.ext hC
    try replace xo := xo.ext hC
    try replace xm := xm.ext hC
    try replace xj := xj.ext hC
    try replace xb := xb.ext hC
    try replace xz := xz.ext hC
    try replace xt := xt.ext hC
    try replace xk := xk.ext hC
    try replace ru := ru.ext hC
    replace hE := hE.tr hC
    clear hC
    go_wp2_with fail
    refine (read_got ir _ (hL.ext hE)).mono ?_
    rintro e y5 ⟨tat, tct, t, rfl, hC, rt, it, et⟩
    try replace xr := xr.ext hC
    try replace xq := xq.ext hC
    try replace xo := xo.ext hC
    try replace xm := xm.ext hC
    try replace xj := xj.ext hC
    try replace xb := xb.ext hC
    try replace xz := xz.ext hC
    try replace xt := xt.ext hC
    try replace xk := xk.ext hC
    try replace ru := ru.ext hC
    replace hE := hE.tr hC
    clear hC
    have hrl := ir.len
    have o0r := xr.c0
    have o1r := xr.c1
    have olr := xr.lt
    go_wp2_with fail
    clear o0r o1r olr
    obtain ⟨y6, hw⟩ : ∃ x, x = y5.alloc (.cells #[.int .i64 t.1, .slice tat t.2.length tct] 35) := ⟨_, rfl⟩
    have hzy6 : y6.heap.size = y5.heap.size + 1 := by rw [hw]; simp
    have xt : RVar y6 y5.heap.size t tat tct := hw ▸ RVar.new rt
    have hC : Ext y5 y6 := hw ▸ (Ext.refl' _).alloc (Nat.le_refl _) _
    rw [← hw]
    clear hw rt
    try replace xr := xr.ext hC
    try replace xq := xq.ext hC
    try replace xo := xo.ext hC
    try replace xm := xm.ext hC
    try replace xj := xj.ext hC
    try replace xb := xb.ext hC
    try replace xz := xz.ext hC
    try replace xt := xt.ext hC
    try replace xk := xk.ext hC
    try replace ru := ru.ext hC
    replace hE := hE.tr hC
    clear hC
    have hst : RowOf y6 (y6.alloc (.cells #[] 37)) y6.heap.size (.slice (some ⟨y5.heap.size + 1, 0, none⟩) 0 0) [] := by have h := RowOf.start y6 y6; rw [← hzy6]; exact h
    go_loopw [38, 39] (fun v i wr => ∃ p : Nat, p ≤ r.2.length ∧ i = .int .i64 ((p : Int) - 1) ∧ Ext y6 wr ∧ y6.heap.size ≤ wr.heap.size ∧ RowOf y6 wr y6.heap.size v (turnP r.2 p)) (fun _ i _ => (intOf i + 1).toNat)
    case atStart => exact ⟨r.2.length, by omega, rfl, (Ext.refl' _).alloc (Nat.le_refl _) _, by simp, by rw [turnP_all]; exact hst⟩
    case round =>
      obtain ⟨p, hp, rfl, hR, hB, ho⟩ := hrel
      clear hst
      obtain ⟨oa, oc, rfl⟩ := ho.form
      cases p with
      | succ g =>
        have hg1 : ((g + 1 : Nat) : Int) - 1 = (g : Nat) := by omega
        rw [hg1]
        clear hg1
        obtain ⟨fb, fo, ra, rc, hta, k1, k2⟩ := rel_rowG xr hp
        have HS := Lib.hid (turnP_step hp)
        have hll := turnP_len r.2 (g + 1)
        have o0r := hR.cell xr.c0
        have o1r := hR.cell xr.c1
        have k3 := hR.cell k1
        subst hta
        have hp2 : g < r.2.length := hp
        generalize turnP r.2 (g + 1) = ll at *
        generalize r.2[g] = x at *
        go_wp2_with fail
        go_wp2_with fail
        refine region_sp [0] [12, 13] [SP.val (.slice oa ll.length oc), SP.val (.pointer (some ⟨w3.heap.size, 1, none⟩)), SP.val (.slice (some ⟨fb, fo, none⟩) r.2.length tcr), SP.val (.int .i64 (g : Nat)), SP.val (.pointer (some ⟨fb, fo + g, none⟩)), SP.val (.slice ra x.length rc), SP.val (.pointer (some ⟨w3.heap.size, 1, none⟩)), SP.val (.slice (some ⟨fb, fo, none⟩) r.2.length tcr), SP.val (.int .i64 (g : Nat)), SP.val (.pointer (some ⟨fb, fo + g, none⟩)), SP.val (.slice ra x.length rc), SP.row2 (.slice ra x.length rc), SP.any, SP.any] (by kernel_rfl) (fun _ d _ _ _ h => by cases d <;> exact h) (by kernel_rfl) (by kernel_rfl)
          (.free ⟨rfl, fun vs y hY => ⟨_, fun w' => rfl, rfl⟩⟩ <|
           .cons (fun vs y hY => Step.fieldAddr ⟨w3.heap.size, 0, none⟩ rfl rfl rfl (by simp [go_sem]) rfl) <|
           .cons (fun vs y hY g1_0 => Step.load ⟨w3.heap.size, 1, none⟩ rfl rfl g1_0 (by simp [go_sem, hY.cell o1r]) rfl) <|
           .cons (fun vs y hY => Step.move rfl rfl rfl rfl) <|
           .cons (fun vs y hY g2_0 g3_1 => Step.indexAtP (n := .int .i64 (g : Nat)) ⟨fb, fo + g, none⟩ rfl rfl g2_0 g3_1 (by simp [go_sem, Instr.indexAt, Addr.add, hp2] <;> omega) rfl) <|
           .cons (fun vs y hY g4_0 => Step.load ⟨fb, fo + g, none⟩ rfl rfl g4_0 (by simp [go_sem, hY.cell k3]) rfl) <|
           .cons (fun vs y hY => Step.fieldAddr ⟨w3.heap.size, 0, none⟩ rfl rfl rfl (by simp [go_sem]) rfl) <|
           .cons (fun vs y hY g6_0 => Step.load ⟨w3.heap.size, 1, none⟩ rfl rfl g6_0 (by simp [go_sem, hY.cell o1r]) rfl) <|
           .cons (fun vs y hY => Step.move rfl rfl rfl rfl) <|
           .cons (fun vs y hY g7_0 g8_1 => Step.indexAtP (n := .int .i64 (g : Nat)) ⟨fb, fo + g, none⟩ rfl rfl g7_0 g8_1 (by simp [go_sem, Instr.indexAt, Addr.add, hp2] <;> omega) rfl) <|
           .cons (fun vs y hY g9_0 => Step.load ⟨fb, fo + g, none⟩ rfl rfl g9_0 (by simp [go_sem, hY.cell k3]) rfl) <|
           .cons (fun vs y hY g5_0 g10_1 => Step.buildSlice2 (e := 37) rfl rfl g5_0 g10_1 (by simp [go_sem]) ⟨_, rfl, by simp [go_sem], by simp [go_sem]⟩) <|
           .skip rfl <|
           .skip rfl <|
           .nil) ?_
        intro vs w9 hC hL
        have r0 : vs 0 = _ := hL 0 (by decide) rfl
        have r1 : vs 1 = _ := hL 1 (by decide) rfl
        have r2 : vs 2 = _ := hL 2 (by decide) rfl
        have r3 : vs 3 = _ := hL 3 (by decide) rfl
        have r4 : vs 4 = _ := hL 4 (by decide) rfl
        have r5 : vs 5 = _ := hL 5 (by decide) rfl
        have r6 : vs 6 = _ := hL 6 (by decide) rfl
        have r7 : vs 7 = _ := hL 7 (by decide) rfl
        have r8 : vs 8 = _ := hL 8 (by decide) rfl
        have r9 : vs 9 = _ := hL 9 (by decide) rfl
        have r10 : vs 10 = _ := hL 10 (by decide) rfl
        have r11 := hL 11 (by decide) rfl
        clear hL
        simp only [putAll, Act.put, List.contains_cons, List.contains_nil, Nat.reduceBEq, Nat.reduceAdd, Bool.or_false, Bool.or_true, cond_true, cond_false, List.setIfInBounds_toArray, List.set_cons_succ, List.set_cons_zero, List.filterMap_cons, List.filterMap_nil, List.getElem?_cons_succ, List.getElem?_cons_zero, r0, r1, r2, r3, r4, r5, r6, r7, r8, r9, r10]
        clear r0 r1 r2 r3 r4 r5 r6 r7 r8 r9 r10
        obtain ⟨b', r11, z0, z1⟩ := r11
        refine RowOf.append2 (ho.ext hC) (hR.tr hC) (Nat.le_trans hB hC.size) (Nat.le_refl _) k2 (by omega) z0 z1 rfl (.tmp 255) (.tmp 266) rfl rfl r11 ?_
        intro v' w10 ho4 hE4 hB4
        rw [← HS.out] at ho4
        obtain ⟨oa', oc', rfl⟩ := ho4.form
        go_wp2_with fail
        go_roundw
        case rel => exact ⟨g, by omega, rfl, hE4, hB4, ho4⟩
        case measure => simp [intOf]
      | zero =>
        have hg1 : ((0 : Nat) : Int) - 1 = -1 := by omega
        rw [hg1]
        clear hg1
        have hrd := ho.rd hR
        rw [turnP_zero] at hrd
        have hC := hR
        try replace xr := xr.ext hC
        try replace xq := xq.ext hC
        try replace xo := xo.ext hC
        try replace xm := xm.ext hC
        try replace xj := xj.ext hC
        try replace xb := xb.ext hC
        try replace xz := xz.ext hC
        try replace xt := xt.ext hC
        try replace xk := xk.ext hC
        try replace ru := ru.ext hC
        replace hE := hE.tr hC
        clear hC
        go_wp2_with fail
        refine (made_got ir hrd).mono ?_
        rintro e y7 ⟨tak, tck, k, rfl, hC, rk, ik, ek⟩
        try replace xr := xr.ext hC
        try replace xq := xq.ext hC
        try replace xo := xo.ext hC
        try replace xm := xm.ext hC
        try replace xj := xj.ext hC
        try replace xb := xb.ext hC
        try replace xz := xz.ext hC
        try replace xt := xt.ext hC
        try replace xk := xk.ext hC
        try replace ru := ru.ext hC
        replace hE := hE.tr hC
        clear hC
        clear hrd
        have hbb : (pb == pb) = true := by cases pb <;> rfl
        have o0m := xm.c0
        have o1m := xm.c1
        have olm := xm.lt
        have o0r := xr.c0
        have o1r := xr.c1
        have olr := xr.lt
        go_wp2_with fail
        clear o0m o1m olm
        clear o0r o1r olr
        obtain ⟨y8, hw⟩ : ∃ x, x = y7.alloc (.cells #[.int .i64 k.1, .slice tak k.2.length tck] 35) := ⟨_, rfl⟩
        have hzy8 : y8.heap.size = y7.heap.size + 1 := by rw [hw]; simp
        have xk : RVar y8 y7.heap.size k tak tck := hw ▸ RVar.new rk
        have hC : Ext y7 y8 := hw ▸ (Ext.refl' _).alloc (Nat.le_refl _) _
        rw [← hw]
        clear hw rk
        try replace xr := xr.ext hC
        try replace xq := xq.ext hC
        try replace xo := xo.ext hC
        try replace xm := xm.ext hC
        try replace xj := xj.ext hC
        try replace xb := xb.ext hC
        try replace xz := xz.ext hC
        try replace xt := xt.ext hC
        try replace xk := xk.ext hC
        try replace ru := ru.ext hC
        replace hE := hE.tr hC
        clear hC
        refine (eq_got xm.rd im xr.rd ir HPM.out).mono ?_
        rintro e y9 ⟨rfl, hC⟩
        try replace xr := xr.ext hC
        try replace xq := xq.ext hC
        try replace xo := xo.ext hC
        try replace xm := xm.ext hC
        try replace xj := xj.ext hC
        try replace xb := xb.ext hC
        try replace xz := xz.ext hC
        try replace xt := xt.ext hC
        try replace xk := xk.ext hC
        try replace ru := ru.ext hC
        replace hE := hE.tr hC
        clear hC
        have o0t := xt.c0
        have o1t := xt.c1
        have olt := xt.lt
        have o0r := xr.c0
        have o1r := xr.c1
        have olr := xr.lt
        go_wp2_with fail
        clear o0t o1t olt
        clear o0r o1r olr
        refine (same_got xt.rd it xr.rd et.out).mono ?_
        rintro e y10 ⟨rfl, hC⟩
        try replace xr := xr.ext hC
        try replace xq := xq.ext hC
        try replace xo := xo.ext hC
        try replace xm := xm.ext hC
        try replace xj := xj.ext hC
        try replace xb := xb.ext hC
        try replace xz := xz.ext hC
        try replace xt := xt.ext hC
        try replace xk := xk.ext hC
        try replace ru := ru.ext hC
        replace hE := hE.tr hC
        clear hC
        have o0t := xt.c0
        have o1t := xt.c1
        have olt := xt.lt
        have o0r := xr.c0
        have o1r := xr.c1
        have olr := xr.lt
        go_wp2_with fail
        clear o0t o1t olt
        clear o0r o1r olr
        refine (isame_got xt.rd it xr.rd et.out).mono ?_
        rintro e y11 ⟨rfl, hC⟩
        try replace xr := xr.ext hC
        try replace xq := xq.ext hC
        try replace xo := xo.ext hC
        try replace xm := xm.ext hC
        try replace xj := xj.ext hC
        try replace xb := xb.ext hC
        try replace xz := xz.ext hC
        try replace xt := xt.ext hC
        try replace xk := xk.ext hC
        try replace ru := ru.ext hC
        replace hE := hE.tr hC
        clear hC
        have o0k := xk.c0
        have o1k := xk.c1
        have olk := xk.lt
        have o0r := xr.c0
        have o1r := xr.c1
        have olr := xr.lt
        go_wp2_with fail
        clear o0k o1k olk
        clear o0r o1r olr
        refine (same_got xk.rd ik xr.rd ek.out).mono ?_
        rintro e y12 ⟨rfl, hC⟩
        try replace xr := xr.ext hC
        try replace xq := xq.ext hC
        try replace xo := xo.ext hC
        try replace xm := xm.ext hC
        try replace xj := xj.ext hC
        try replace xb := xb.ext hC
        try replace xz := xz.ext hC
        try replace xt := xt.ext hC
        try replace xk := xk.ext hC
        try replace ru := ru.ext hC
        replace hE := hE.tr hC
        clear hC
        go_wp2_with fail
        go_ret
        exact ⟨rfl, hE⟩
  | false =>
    have o0m := xm.c0
    have o1m := xm.c1
    have olm := xm.lt
    have o0j := xj.c0
    have o1j := xj.c1
    have olj := xj.lt
    have o0r := xr.c0
    have o1r := xr.c1
    have olr := xr.lt
    have o0q := xq.c0
    have o1q := xq.c1
    have olq := xq.lt
    go_wp2_with fail
    clear o0m o1m olm
    clear o0j o1j olj
    clear o0r o1r olr
    clear o0q o1q olq
    clear hlb hyy l1 l2 l3 l4
    refine (part_got xm.rd im xr.rd ir).mono ?_
    rintro e y1 ⟨rfl, hC⟩
    try replace xr := xr.ext hC
    try replace xq := xq.ext hC
    try replace xo := xo.ext hC
    try replace xm := xm.ext hC
    try replace xj := xj.ext hC
    try replace xb := xb.ext hC
    try replace xz := xz.ext hC
    try replace xt := xt.ext hC
    try replace xk := xk.ext hC
    try replace ru := ru.ext hC
    replace hE := hE.tr hC
    clear hC
    rw [show partOf m r = true by rw [em.out]; exact meet_part sl2 sh2 al ah2]
    have o0r := xr.c0
    have o1r := xr.c1
    have olr := xr.lt
    have o0q := xq.c0
    have o1q := xq.c1
    have olq := xq.lt
    go_wp2_with fail
    clear o0r o1r olr
    clear o0q o1q olq
    refine (part_got xr.rd ir xq.rd iq).mono ?_
    rintro e y2 ⟨rfl, hC⟩
    try replace xr := xr.ext hC
    try replace xq := xq.ext hC
    try replace xo := xo.ext hC
    try replace xm := xm.ext hC
    try replace xj := xj.ext hC
    try replace xb := xb.ext hC
    try replace xz := xz.ext hC
    try replace xt := xt.ext hC
    try replace xk := xk.ext hC
    try replace ru := ru.ext hC
    replace hE := hE.tr hC
    clear hC
    obtain ⟨pb, hpb⟩ : ∃ x, x = partOf r q := ⟨_, rfl⟩
    have HPM := Lib.hid (show pb = decide (m = r) by rw [hpb, em.out]; exact part_meet ir)
    rw [← hpb]
    clear hpb
    have o0j := xj.c0
    have o1j := xj.c1
    have olj := xj.lt
    have o0z := xz.c0
    have o1z := xz.c1
    have olz := xz.lt
    go_wp2_with fail
    clear o0j o1j olj
    clear o0z o1z olz
    refine (part_got xj.rd ij xz.rd iz).mono ?_
    rintro e y3 ⟨rfl, hC⟩
    try replace xr := xr.ext hC
    try replace xq := xq.ext hC
    try replace xo := xo.ext hC
    try replace xm := xm.ext hC
    try replace xj := xj.ext hC
    try replace xb := xb.ext hC
    try replace xz := xz.ext hC
    try replace xt := xt.ext hC
    try replace xk := xk.ext hC
    try replace ru := ru.ext hC
    replace hE := hE.tr hC
    clear hC
    rw [show partOf j z = true by rw [ez.out]; exact part_full ij]
    have o0r := xr.c0
    have o1r := xr.c1
    have olr := xr.lt
    go_wp2_with fail
    clear o0r o1r olr
    refine (text_got xr.rd ir).mono ?_
    rintro e y4 ⟨rfl, hC⟩
    try replace xr := xr.ext hC
    try replace xq := xq.ext hC
    try replace xo := xo.ext hC
    try replace xm := xm.ext hC
    try replace xj := xj.ext hC
    try replace xb := xb.ext hC
    try replace xz := xz.ext hC
    try replace xt := xt.ext hC
    try replace xk := xk.ext hC
    try replace ru := ru.ext hC
    replace hE := hE.tr hC
    clear hC
    go_wp2_with fail
    refine (read_got ir _ (hL.ext hE)).mono ?_
    rintro e y5 ⟨tat, tct, t, rfl, hC, rt, it, et⟩
    try replace xr := xr.ext hC
    try replace xq := xq.ext hC
    try replace xo := xo.ext hC
    try replace xm := xm.ext hC
    try replace xj := xj.ext hC
    try replace xb := xb.ext hC
    try replace xz := xz.ext hC
    try replace xt := xt.ext hC
    try replace xk := xk.ext hC
    try replace ru := ru.ext hC
    replace hE := hE.tr hC
    clear hC
    have hrl := ir.len
    have o0r := xr.c0
    have o1r := xr.c1
    have olr := xr.lt
    go_wp2_with fail
    clear o0r o1r olr
    obtain ⟨y6, hw⟩ : ∃ x, x = y5.alloc (.cells #[.int .i64 t.1, .slice tat t.2.length tct] 35) := ⟨_, rfl⟩
    have hzy6 : y6.heap.size = y5.heap.size + 1 := by rw [hw]; simp
    have xt : RVar y6 y5.heap.size t tat tct := hw ▸ RVar.new rt
    have hC : Ext y5 y6 := hw ▸ (Ext.refl' _).alloc (Nat.le_refl _) _
    rw [← hw]
    clear hw rt
    try replace xr := xr.ext hC
    try replace xq := xq.ext hC
    try replace xo := xo.ext hC
    try replace xm := xm.ext hC
    try replace xj := xj.ext hC
    try replace xb := xb.ext hC
    try replace xz := xz.ext hC
    try replace xt := xt.ext hC
    try replace xk := xk.ext hC
    try replace ru := ru.ext hC
    replace hE := hE.tr hC
    clear hC
    have hst : RowOf y6 (y6.alloc (.cells #[] 37)) y6.heap.size (.slice (some ⟨y5.heap.size + 1, 0, none⟩) 0 0) [] := by have h := RowOf.start y6 y6; rw [← hzy6]; exact h
    go_loopw [38, 39] (fun v i wr => ∃ p : Nat, p ≤ r.2.length ∧ i = .int .i64 ((p : Int) - 1) ∧ Ext y6 wr ∧ y6.heap.size ≤ wr.heap.size ∧ RowOf y6 wr y6.heap.size v (turnP r.2 p)) (fun _ i _ => (intOf i + 1).toNat)
    case atStart => exact ⟨r.2.length, by omega, rfl, (Ext.refl' _).alloc (Nat.le_refl _) _, by simp, by rw [turnP_all]; exact hst⟩
    case round =>
      obtain ⟨p, hp, rfl, hR, hB, ho⟩ := hrel
      clear hst
      obtain ⟨oa, oc, rfl⟩ := ho.form
      cases p with
      | succ g =>
        have hg1 : ((g + 1 : Nat) : Int) - 1 = (g : Nat) := by omega
        rw [hg1]
        clear hg1
        obtain ⟨fb, fo, ra, rc, hta, k1, k2⟩ := rel_rowG xr hp
        have HS := Lib.hid (turnP_step hp)
        have hll := turnP_len r.2 (g + 1)
        have o0r := hR.cell xr.c0
        have o1r := hR.cell xr.c1
        have k3 := hR.cell k1
        subst hta
        have hp2 : g < r.2.length := hp
        generalize turnP r.2 (g + 1) = ll at *
        generalize r.2[g] = x at *
        go_wp2_with fail
        go_wp2_with fail
        refine region_sp [0] [12, 13] [SP.val (.slice oa ll.length oc), SP.val (.pointer (some ⟨w3.heap.size, 1, none⟩)), SP.val (.slice (some ⟨fb, fo, none⟩) r.2.length tcr), SP.val (.int .i64 (g : Nat)), SP.val (.pointer (some ⟨fb, fo + g, none⟩)), SP.val (.slice ra x.length rc), SP.val (.pointer (some ⟨w3.heap.size, 1, none⟩)), SP.val (.slice (some ⟨fb, fo, none⟩) r.2.length tcr), SP.val (.int .i64 (g : Nat)), SP.val (.pointer (some ⟨fb, fo + g, none⟩)), SP.val (.slice ra x.length rc), SP.row2 (.slice ra x.length rc), SP.any, SP.any] (by kernel_rfl) (fun _ d _ _ _ h => by cases d <;> exact h) (by kernel_rfl) (by kernel_rfl)
          (.free ⟨rfl, fun vs y hY => ⟨_, fun w' => rfl, rfl⟩⟩ <|
           .cons (fun vs y hY => Step.fieldAddr ⟨w3.heap.size, 0, none⟩ rfl rfl rfl (by simp [go_sem]) rfl) <|
           .cons (fun vs y hY g1_0 => Step.load ⟨w3.heap.size, 1, none⟩ rfl rfl g1_0 (by simp [go_sem, hY.cell o1r]) rfl) <|
           .cons (fun vs y hY => Step.move rfl rfl rfl rfl) <|
           .cons (fun vs y hY g2_0 g3_1 => Step.indexAtP (n := .int .i64 (g : Nat)) ⟨fb, fo + g, none⟩ rfl rfl g2_0 g3_1 (by simp [go_sem, Instr.indexAt, Addr.add, hp2] <;> omega) rfl) <|
           .cons (fun vs y hY g4_0 => Step.load ⟨fb, fo + g, none⟩ rfl rfl g4_0 (by simp [go_sem, hY.cell k3]) rfl) <|
           .cons (fun vs y hY => Step.fieldAddr ⟨w3.heap.size, 0, none⟩ rfl rfl rfl (by simp [go_sem]) rfl) <|
           .cons (fun vs y hY g6_0 => Step.load ⟨w3.heap.size, 1, none⟩ rfl rfl g6_0 (by simp [go_sem, hY.cell o1r]) rfl) <|
           .cons (fun vs y hY => Step.move rfl rfl rfl rfl) <|
           .cons (fun vs y hY g7_0 g8_1 => Step.indexAtP (n := .int .i64 (g : Nat)) ⟨fb, fo + g, none⟩ rfl rfl g7_0 g8_1 (by simp [go_sem, Instr.indexAt, Addr.add, hp2] <;> omega) rfl) <|
           .cons (fun vs y hY g9_0 => Step.load ⟨fb, fo + g, none⟩ rfl rfl g9_0 (by simp [go_sem, hY.cell k3]) rfl) <|
           .cons (fun vs y hY g5_0 g10_1 => Step.buildSlice2 (e := 37) rfl rfl g5_0 g10_1 (by simp [go_sem]) ⟨_, rfl, by simp [go_sem], by simp [go_sem]⟩) <|
           .skip rfl <|
           .skip rfl <|
           .nil) ?_
        intro vs w9 hC hL
        have r0 : vs 0 = _ := hL 0 (by decide) rfl
        have r1 : vs 1 = _ := hL 1 (by decide) rfl
        have r2 : vs 2 = _ := hL 2 (by decide) rfl
        have r3 : vs 3 = _ := hL 3 (by decide) rfl
        have r4 : vs 4 = _ := hL 4 (by decide) rfl
        have r5 : vs 5 = _ := hL 5 (by decide) rfl
        have r6 : vs 6 = _ := hL 6 (by decide) rfl
        have r7 : vs 7 = _ := hL 7 (by decide) rfl
        have r8 : vs 8 = _ := hL 8 (by decide) rfl
        have r9 : vs 9 = _ := hL 9 (by decide) rfl
        have r10 : vs 10 = _ := hL 10 (by decide) rfl
        have r11 := hL 11 (by decide) rfl
        clear hL
        simp only [putAll, Act.put, List.contains_cons, List.contains_nil, Nat.reduceBEq, Nat.reduceAdd, Bool.or_false, Bool.or_true, cond_true, cond_false, List.setIfInBounds_toArray, List.set_cons_succ, List.set_cons_zero, List.filterMap_cons, List.filterMap_nil, List.getElem?_cons_succ, List.getElem?_cons_zero, r0, r1, r2, r3, r4, r5, r6, r7, r8, r9, r10]
        clear r0 r1 r2 r3 r4 r5 r6 r7 r8 r9 r10
        obtain ⟨b', r11, z0, z1⟩ := r11
        refine RowOf.append2 (ho.ext hC) (hR.tr hC) (Nat.le_trans hB hC.size) (Nat.le_refl _) k2 (by omega) z0 z1 rfl (.tmp 255) (.tmp 266) rfl rfl r11 ?_
        intro v' w10 ho4 hE4 hB4
        rw [← HS.out] at ho4
        obtain ⟨oa', oc', rfl⟩ := ho4.form
        go_wp2_with fail
        go_roundw
        case rel => exact ⟨g, by omega, rfl, hE4, hB4, ho4⟩
        case measure => simp [intOf]
      | zero =>
        have hg1 : ((0 : Nat) : Int) - 1 = -1 := by omega
        rw [hg1]
        clear hg1
        have hrd := ho.rd hR
        rw [turnP_zero] at hrd
        have hC := hR
        try replace xr := xr.ext hC
        try replace xq := xq.ext hC
        try replace xo := xo.ext hC
        try replace xm := xm.ext hC
        try replace xj := xj.ext hC
        try replace xb := xb.ext hC
        try replace xz := xz.ext hC
        try replace xt := xt.ext hC
        try replace xk := xk.ext hC
        try replace ru := ru.ext hC
        replace hE := hE.tr hC
        clear hC
        go_wp2_with fail
        refine (made_got ir hrd).mono ?_
        rintro e y7 ⟨tak, tck, k, rfl, hC, rk, ik, ek⟩
        try replace xr := xr.ext hC
        try replace xq := xq.ext hC
        try replace xo := xo.ext hC
        try replace xm := xm.ext hC
        try replace xj := xj.ext hC
        try replace xb := xb.ext hC
        try replace xz := xz.ext hC
        try replace xt := xt.ext hC
        try replace xk := xk.ext hC
        try replace ru := ru.ext hC
        replace hE := hE.tr hC
        clear hC
        clear hrd
        have hbb : (pb == pb) = true := by cases pb <;> rfl
        have o0m := xm.c0
        have o1m := xm.c1
        have olm := xm.lt
        have o0r := xr.c0
        have o1r := xr.c1
        have olr := xr.lt
        go_wp2_with fail
        clear o0m o1m olm
        clear o0r o1r olr
        obtain ⟨y8, hw⟩ : ∃ x, x = y7.alloc (.cells #[.int .i64 k.1, .slice tak k.2.length tck] 35) := ⟨_, rfl⟩
        have hzy8 : y8.heap.size = y7.heap.size + 1 := by rw [hw]; simp
        have xk : RVar y8 y7.heap.size k tak tck := hw ▸ RVar.new rk
        have hC : Ext y7 y8 := hw ▸ (Ext.refl' _).alloc (Nat.le_refl _) _
        rw [← hw]
        clear hw rk
        try replace xr := xr.ext hC
        try replace xq := xq.ext hC
        try replace xo := xo.ext hC
        try replace xm := xm.ext hC
        try replace xj := xj.ext hC
        try replace xb := xb.ext hC
        try replace xz := xz.ext hC
        try replace xt := xt.ext hC
        try replace xk := xk.ext hC
        try replace ru := ru.ext hC
        replace hE := hE.tr hC
        clear hC
        refine (eq_got xm.rd im xr.rd ir HPM.out).mono ?_
        rintro e y9 ⟨rfl, hC⟩
        try replace xr := xr.ext hC
        try replace xq := xq.ext hC
        try replace xo := xo.ext hC
        try replace xm := xm.ext hC
        try replace xj := xj.ext hC
        try replace xb := xb.ext hC
        try replace xz := xz.ext hC
        try replace xt := xt.ext hC
        try replace xk := xk.ext hC
        try replace ru := ru.ext hC
        replace hE := hE.tr hC
        clear hC
        have o0t := xt.c0
        have o1t := xt.c1
        have olt := xt.lt
        have o0r := xr.c0
        have o1r := xr.c1
        have olr := xr.lt
        go_wp2_with fail
        clear o0t o1t olt
        clear o0r o1r olr
        refine (same_got xt.rd it xr.rd et.out).mono ?_
        rintro e y10 ⟨rfl, hC⟩
        try replace xr := xr.ext hC
        try replace xq := xq.ext hC
        try replace xo := xo.ext hC
        try replace xm := xm.ext hC
        try replace xj := xj.ext hC
        try replace xb := xb.ext hC
        try replace xz := xz.ext hC
        try replace xt := xt.ext hC
        try replace xk := xk.ext hC
        try replace ru := ru.ext hC
        replace hE := hE.tr hC
        clear hC
        have o0t := xt.c0
        have o1t := xt.c1
        have olt := xt.lt
        have o0r := xr.c0
        have o1r := xr.c1
        have olr := xr.lt
        go_wp2_with fail
        clear o0t o1t olt
        clear o0r o1r olr
        refine (isame_got xt.rd it xr.rd et.out).mono ?_
        rintro e y11 ⟨rfl, hC⟩
        try replace xr := xr.ext hC
        try replace xq := xq.ext hC
        try replace xo := xo.ext hC
        try replace xm := xm.ext hC
        try replace xj := xj.ext hC
        try replace xb := xb.ext hC
        try replace xz := xz.ext hC
        try replace xt := xt.ext hC
        try replace xk := xk.ext hC
        try replace ru := ru.ext hC
        replace hE := hE.tr hC
        clear hC
        have o0k := xk.c0
        have o1k := xk.c1
        have olk := xk.lt
        have o0r := xr.c0
        have o1r := xr.c1
        have olr := xr.lt
        go_wp2_with fail
        clear o0k o1k olk
        clear o0r o1r olr
        refine (same_got xk.rd ik xr.rd ek.out).mono ?_
        rintro e y12 ⟨rfl, hC⟩
        try replace xr := xr.ext hC
        try replace xq := xq.ext hC
        try replace xo := xo.ext hC
        try replace xm := xm.ext hC
        try replace xj := xj.ext hC
        try replace xb := xb.ext hC
        try replace xz := xz.ext hC
        try replace xt := xt.ext hC
        try replace xk := xk.ext hC
        try replace ru := ru.ext hC
        replace hE := hE.tr hC
        clear hC
        go_wp2_with fail
        go_ret
        exact ⟨rfl, hE⟩
set_option maxRecDepth 100000 in
theorem lifted (os : Os) (started : os.Started) (H : Type) (enc : TypeId × Value → H) :
    ReturnsInHanded {} Tryz.checked os 4 .any (fun w args => (Rows.fnRelationsSpec.pre enc Tryz.prog Tryz.f4 [] false w args ∧ laidMetH Tryz.prog Rows.fnRelationsRow.laid w) ∧ sizedMet enc Tryz.prog Tryz.f4 (OpenSpec.ofChange Rows.fnRelationsSpec) false w args) (Rows.fnRelationsSpec.post enc Tryz.prog Tryz.f4 false true false false) := by
  refine handed_sh (C := Tryz.checked) (X := fun w _ => laidMetH Tryz.prog Rows.fnRelationsRow.laid w) (fun _ _ _ hh h => h.of_heap hh) own_knob started (by kernel_rfl) Tryz.func4
    (ChangeSpec.witness_shaped (enc := enc) (C := Tryz.checked) (os := os) (X := fun w _ => laidMetH Tryz.prog Rows.fnRelationsRow.laid w) false (World.laidAll Tryz.prog os Rows.fnRelationsRow.laid) #[.slice none 0 0, .slice none 0 0] 8 (World.laidAll_os _ _ _) (World.shaped_of_ZipB (by kernel_rfl) (by kernel_rfl)) (by kernel_rfl) (by kernel_rfl) (by kernel_rfl) (by rw [MakeChecks.laidMetH_plain _ _ _ (by kernel_rfl)]; exact laidMet_laidAll _ (by kernel_rfl) (by kernel_rfl))) ?_
  intro W base args ds gs before hval0 hW hL hsh
  have hval : ∀ (j : Nat) t v, Tryz.f4.params[j]? = some t → args[j]? = some v → Value.okWide Tryz.prog W .any base t v := hval0
  have hLW : LaidW W := by
    rw [MakeChecks.laidMetH_plain _ _ _ (by kernel_rfl)] at hL
    exact laidW_of hL (by unfold Rows.fnRelationsRow; simp) (by unfold Rows.fnRelationsRow; simp) (by unfold Rows.fnRelationsRow; simp) hsh
  have hW' := hW
  obtain ⟨p, q, hA0, hV, rfl, hfz, hnd⟩ := hW
  have hA : DataW.TrodAll enc Tryz.prog W 0 (fun _ => true) true Tryz.f4.params.toList args.toList ds p := hA0
  rw [Tryz.params4] at hA hval
  obtain ⟨v0, v1, d0, d1, p0, p1, rfl, rfl, rfl, k0, k1⟩ := trodAll_two hA
  obtain ⟨rfl, rfl⟩ := trodVars_none hV
  clear hA0 hval0
  simp only [List.append_nil] at hW'
  obtain ⟨a0, n0, c0, rfl, h0, hn⟩ := dB_of k0 (hval 0 _ _ rfl rfl)
  obtain ⟨_, _, _, rfl, h1, _⟩ := dB_of k1 (hval 1 _ _ rfl rfl)
  refine (walk a0 n0 c0 _ W h0 hn h1 hLW).mono fun e W' ⟨he, hE⟩ => ?_
  subst he
  exact ⟨_, rfl, law_post rfl rfl (by kernel_rfl) hW' hE rfl rfl rfl⟩

theorem said : Rows.FnRelationsSaid :=
  OpenClaim.holds_of_wide 4 Tryz.f4 rfl rfl rfl rfl rfl rfl rfl ⟨rfl, rfl, rfl, rfl, rfl⟩ rfl rfl rfl rfl rfl (by kernel_rfl) Tryz.func4 (by kernel_rfl)
    (of_decide_eq_true (by kernel_rfl)) (by unfold Func.isWrapper; first | (rw [if_pos (by decide +kernel)]; kernel_rfl) | (rw [if_neg (by decide +kernel)]; exact ⟨rfl, rfl⟩))
    (fun os started H enc _ => lifted os started H enc)
theorem proved : Rows.FnRelationsCardSaid :=
  Claim7.holds_tied_plain_at .later [] Rows.fnRelationsCard.laidKinds true Rows.fnRelationsCard.stood.harness true
    said (fun _ h => by cases h) (by kernel_rfl) (fun _ h => by cases h) fnRelations_row_tie rfl ⟨rfl, rfl⟩ (by kernel_rfl) rfl
    (fun f fn hf hfn => by
      obtain rfl : f = 4 := Option.some.inj ((show Tryz.prog.funcNamed "loop.example/g01085/laws.FnRelations" = some 4 by kernel_rfl).symm.trans hf) |>.symm
      obtain rfl : fn = Tryz.f4 := (Option.some.inj (Tryz.func4.symm.trans hfn)).symm
      exact ⟨by kernel_rfl, fun j t ht => by
        rw [Tryz.params4] at ht
        have hm : t ∈ [30, 30] := by simpa using Array.mem_of_getElem? ht
        have hall : ([30, 30].all fun u => !Tryz.prog.wantsStandIn u) = true := by kernel_rfl
        exact (show Tryz.prog.wantsStandIn t = false by simpa using List.all_eq_true.1 hall t hm)⟩)
    (by kernel_rfl)
end Go.Proofs.YtajkepdfemdagaaGreatDoor.fnRelations
