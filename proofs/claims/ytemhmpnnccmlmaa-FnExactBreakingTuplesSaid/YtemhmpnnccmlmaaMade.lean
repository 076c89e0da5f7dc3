
/- The tuple that an operation makes of tuples. -/
import Derived.Test.YtemhmpnnccmlmaaII
import Derived.Test.YtemhmpnnccmlmaaOpAt
import Derived.Test.YtemhmpnnccmlmaaIRes
namespace Go.Proofs.Ytemhmpnnccmlmaa
open Go.RowKit
set_option linter.unusedVariables false

/-- what stands at a place of each of some tuples -/
def col (ts : List (List Int)) (p : Nat) : List Int := ts.map fun t => t.getD p 0
def SMake (s : Int) (f : Int × List Int) (ts : List (List Int)) : List Int := (List.range (ts.getD 0 []).length).map fun p => apply s f (col ts p)
theorem col_length (ts : List (List Int)) (p : Nat) : (col ts p).length = ts.length := by simp [col]
theorem SMake_length (s : Int) (f : Int × List Int) (ts : List (List Int)) : (SMake s f ts).length = (ts.getD 0 []).length := by simp [SMake]
theorem col_vals {s : Int} {ts : List (List Int)} {L p : Nat} (h : ∀ t ∈ ts, vals s t L = true) (hp : p < L) : ∀ a ∈ col ts p, 0 ≤ a ∧ a < s := by
  intro a ha
  obtain ⟨t, ht, rfl⟩ := List.mem_map.1 ha
  obtain ⟨h1, h2⟩ := vals_iff.1 (h t ht)
  have hl : p < t.length := by omega
  rw [List.getD_eq_getElem?_getD, List.getElem?_eq_getElem hl]
  exact h2 _ (List.getElem_mem hl)
theorem col_take (ts : List (List Int)) (p k : Nat) (hk : k < ts.length) (hp : p < ts[k].length) : (col ts p).take (k + 1) = (col ts p).take k ++ [(ts[k])[p]] := by
  have hc : k < (col ts p).length := by rw [col_length]; exact hk
  rw [List.take_succ_eq_append_getElem hc]
  congr 2
  simp [col, hp]
theorem code_col (s : Int) (ts : List (List Int)) (p k : Nat) (hk : k < ts.length) (hp : p < ts[k].length) : code s ((col ts p).take (k + 1)) = code s ((col ts p).take k) * s + (ts[k])[p] := by
  rw [col_take ts p k hk hp, code_snoc]
theorem SMake_get (s : Int) (f : Int × List Int) (ts : List (List Int)) (p : Nat) (hp : p < (SMake s f ts).length) : (SMake s f ts)[p] = apply s f (col ts p) := by simp [SMake]
theorem SMake_take (s : Int) (f : Int × List Int) (ts : List (List Int)) (p : Nat) (hp : p < (ts.getD 0 []).length) : (SMake s f ts).take (p + 1) = (SMake s f ts).take p ++ [apply s f (col ts p)] := by
  have h : p < (SMake s f ts).length := by rw [SMake_length]; exact hp
  rw [List.take_succ_eq_append_getElem h, SMake_get]
theorem first_eq {ts : List (List Int)} (h : 0 < ts.length) : ts.getD 0 [] = ts[0] := by rw [List.getD_eq_getElem?_getD, List.getElem?_eq_getElem h]; rfl

set_option maxHeartbeats 4000000 in
set_option maxRecDepth 100000 in
theorem made_any (s : Int) (f : Int × List Int) (v : Value) (ts : List (List Int)) (u : Value) (w : World) (hr : RdOp w v f) (hs : RdII w u ts) (hf : SValidOp s f = true) (hn : (ts.length : Int) = f.1) (hv : ∀ t ∈ ts, vals s t (ts.getD 0 []).length = true) (hL : (ts.getD 0 []).length ≤ 1048576) :
    Calls Try.prog 117 #[.int .i64 s, v, u] w fun e w' => ∃ x fp, e = .returned x ∧ Ext w w' ∧ OI w' x (SMake s f ts) fp ∧ ∀ g ∈ fp, w.heap.size ≤ g := by
  obtain ⟨i0, hi, hz0, hz1, hz2⟩ := info_parts infoI
  obtain ⟨⟨hs1, hs2⟩, ⟨hf1, hf2⟩, -, -⟩ := valid_iff.1 hf
  have h0 : 0 < ts.length := by omega
  have hn4 : ts.length ≤ 4 := by omega
  have HN := Lib.hid hn
  have HF := Lib.hid hf
  have HV := Lib.hid hv
  have hsl := SMake_length s f ts
  rw [first_eq h0] at hL hsl
  obtain ⟨L, hLL, hL1, hL2⟩ : ∃ L, L = ts[0].length ∧ L ≤ ts[0].length ∧ ts[0].length ≤ L := ⟨_, rfl, Nat.le_refl _, Nat.le_refl _⟩
  have HL := Lib.hid hLL
  have HSL := Lib.hid (show (SMake s f ts).length = L from hsl.trans hLL.symm)
  rw [← hLL] at hL
  have HV2 := Lib.hid (show ∀ t ∈ ts, vals s t L = true from by rw [hLL, ← first_eq h0]; exact hv)
  obtain ⟨tv, rfl, hr⟩ := hr
  obtain ⟨fa, fb, foff, fc, rfl, flc, fcm, fha, fhc⟩ := hr
  obtain ⟨a, b, off, cap, vs, rfl, hlc, hcm, ha, hc⟩ := hs
  obtain rfl := ha h0
  obtain ⟨k1, k2⟩ := hc 0 h0
  rw [Nat.add_zero] at k1
  obtain ⟨ya, yc, hy0⟩ := k2.form
  rw [hy0, ← hLL] at k1
  have HC := Lib.hid hc
  have HFC := Lib.hid fhc
  have hE1 : Ext w (w.alloc (.cells #[.int .i64 f.1, .slice fa f.2.length fc] 41)) := (Ext.refl' w).alloc (Nat.le_refl _) _
  replace k1 := hE1.cell k1
  clear hn hf hv hsl hLL hy0 k2 hc fhc hL1 hL2
  go_enter Try.func117, Try.ntmps117
  go_wp2_with (at_make; refine wpList_make_full _ rfl _ _ 25 rfl 0 2 i0 (.int .i64 0) 1 Try.underlying25 hi hz0 hz1 _ _ _ _ L rfl rfl rfl rfl (by rw [hz2]; omega) (by unfold maxLen; omega) (by omega) ?_)
  intro w1 hown hgr
  have hE2 : Ext w w1 := hE1.grown hgr (by simp) (by simp)
  have hblk := (hown.lt _ rfl).2
  have c0 : w1.cell? ⟨w.heap.size, 0, none⟩ = some (.int .i64 f.1) := hgr.cell (by simp [go_sem]) (by simp)
  have c1 : w1.cell? ⟨w.heap.size, 1, none⟩ = some (.slice fa f.2.length fc) := hgr.cell (by simp [go_sem]) (by simp)
  clear hgr k1
  go_wp2_with fail
  go_loopw [19] (fun i wr => ∃ p : Nat, p ≤ L ∧ i = .int .i64 p ∧ Ext w wr ∧ w.heap.size + 1 < wr.heap.size ∧ wr.ownsRow 0 2 1 (.slice (some ⟨w.heap.size + 1, 0, none⟩) L L) L (((SMake s f ts).take p).map (Value.int .i64) ++ List.replicate (L - p) (.int .i64 0)) ∧
      wr.cell? ⟨w.heap.size, 0, none⟩ = some (.int .i64 f.1) ∧ wr.cell? ⟨w.heap.size, 1, none⟩ = some (.slice fa f.2.length fc)) (fun i _ => L - (intOf i).toNat)
  case atStart =>
    refine ⟨0, by omega, rfl, hE2, hblk, ?_, c0, c1⟩
    simpa [Value.cells, toList_madeCells_one] using hown
  case round =>
    obtain ⟨p, hp, rfl, hE, hlt, ho, c0, c1⟩ := hrel
    by_cases hpl : p < L
    · go_wp2_with fail
      go_loop [9, 24] (fun q i => ∃ k : Nat, k ≤ ts.length ∧ i = .int .i64 k ∧ q = .int .i64 (code s ((col ts p).take k))) (fun _ i => ts.length - (intOf i).toNat)
      case atStart => exact ⟨0, by omega, rfl, rfl⟩
      case round =>
        obtain ⟨k, hk, rfl, rfl⟩ := hrel
        have hcl := col_length ts p
        have hcv := col_vals HV2.out hpl
        have hm := code_mul s (col ts p) (by omega) (by omega) (by omega) hcv k (by omega)
        have hm2 := code_small s (col ts p) (by omega) (by omega) (by omega) hcv k (by omega)
        by_cases hkl : k < ts.length
        · obtain ⟨k1, k2⟩ := HC.out k hkl
          have ht := HV2.out ts[k] (List.getElem_mem hkl)
          have htl : p < ts[k].length := by have := (vals_iff.1 ht).1; omega
          have hpv := (vals_iff.1 ht).2 (ts[k])[p] (List.getElem_mem htl)
          have HCC := Lib.hid (code_col s ts p k hkl htl)
          replace k1 := hE.cell k1
          generalize vs k = y at k1 k2
          obtain ⟨za, zb, zoff, zc, rfl, hzlc, hzcm, hza, hzc⟩ := k2
          obtain rfl := hza (by omega)
          have hzp := hE.cell (hzc p htl)
          clear hzc hcl hcv
          go_wp2_with fail
          go_round
          case rel => exact ⟨k + 1, by omega, by go_num, by rw [HCC.out]⟩
          case measure => simp [intOf]; omega
        · have hkk : k = ts.length := by omega
          have hcode := code_lt HF.out (show ((col ts p).length : Int) = f.1 by rw [hcl]; exact HN.out) hcv
          have HT := Lib.hid (show (col ts p).take k = col ts p from by rw [List.take_of_length_le (by omega)])
          rw [HT.out]
          obtain ⟨c, hcc⟩ := Int.eq_ofNat_of_zero_le hcode.1
          have hcl2 : c < f.2.length := by omega
          obtain rfl := fha (by omega)
          have hfc := hE.cell (HFC.out c hcl2)
          have HA := Lib.hid (show apply s f (col ts p) = f.2[c] from by unfold apply; rw [hcc, Int.toNat_natCast, List.getD_eq_getElem?_getD, List.getElem?_eq_getElem hcl2]; rfl)
          have HTK := Lib.hid (SMake_take s f ts p (by rw [first_eq h0, ← HL.out]; exact hpl))
          rw [hcc]
          obtain ⟨old, hu⟩ := own_cell ho p hpl
          have hfz := ho.frozenAt p
          have hlenp : ((SMake s f ts).take p).length = p := by rw [List.length_take, HSL.out]; omega
          have hst := (ho.stored p (.int .i64 f.2[c])).1
          rw [List.set_append_right _ _ (by rw [List.length_map, hlenp]; exact Nat.le_refl _), List.length_map, hlenp, Nat.sub_self, show L - p = (L - (p + 1)) + 1 by omega, List.replicate_succ, List.set_cons_zero] at hst
          have hst2 : (wr.setCell ⟨w.heap.size + 1, p, none⟩ (.int .i64 f.2[c])).ownsRow 0 2 1 (.slice (some ⟨w.heap.size + 1, 0, none⟩) L L) L (((SMake s f ts).take (p + 1)).map (Value.int .i64) ++ List.replicate (L - (p + 1)) (.int .i64 0)) := by
            rw [HTK.out, HA.out, List.map_append, List.append_assoc]; exact hst
          have hE3 := hE.setCell (p := ⟨w.heap.size + 1, p, none⟩) (by dsimp only; omega) (.int .i64 f.2[c])
          clear hcl hcv hm hm2 hcode hcc hlenp hst ho hE HT
          go_wp2_with fail
          go_roundw
          case rel => exact ⟨p + 1, by omega, by go_num, hE3, by simpa using hlt, hst2, cell_set c0 (.inl (by dsimp only; omega)), cell_set c1 (.inl (by dsimp only; omega))⟩
          case measure => simp [intOf]; omega
    · have hpp : p = L := by omega
      subst hpp
      go_wp2_with fail
      go_ret
      rw [List.take_of_length_le (by rw [HSL.out]; omega), Nat.sub_self, List.replicate_zero, List.append_nil] at ho
      refine ⟨_, _, rfl, hE, ⟨?_, rfl⟩, by simp [Value.ownBlock]⟩
      rw [HSL.out]
      exact ho
set_option maxHeartbeats 4000000 in
set_option maxRecDepth 100000 in
theorem l02Make_any (s : Int) (f : Int × List Int) (pv : Value) (ts : List (List Int)) (u : Value) (w : World) (hr : PtOp w pv f) (hs : RdII w u ts) (hf : SValidOp s f = true) (hn : (ts.length : Int) = f.1) (hv : ∀ t ∈ ts, vals s t (ts.getD 0 []).length = true) (hL : (ts.getD 0 []).length ≤ 1048576) :
    Calls Try.prog 115 #[.int .i64 s, pv, u] w fun e w' => ∃ x fp, e = .returned x ∧ Ext w w' ∧ OI w' x (SMake s f ts) fp ∧ ∀ g ∈ fp, w.heap.size ≤ g := by
  obtain ⟨i0, hi, hz0, hz1, hz2⟩ := info_parts infoI
  obtain ⟨⟨hs1, hs2⟩, ⟨hf1, hf2⟩, -, -⟩ := valid_iff.1 hf
  have h0 : 0 < ts.length := by omega
  have hn4 : ts.length ≤ 4 := by omega
  have HN := Lib.hid hn
  have HF := Lib.hid hf
  have HV := Lib.hid hv
  have hsl := SMake_length s f ts
  rw [first_eq h0] at hL hsl
  obtain ⟨L, hLL, hL1, hL2⟩ : ∃ L, L = ts[0].length ∧ L ≤ ts[0].length ∧ ts[0].length ≤ L := ⟨_, rfl, Nat.le_refl _, Nat.le_refl _⟩
  have HL := Lib.hid hLL
  have HSL := Lib.hid (show (SMake s f ts).length = L from hsl.trans hLL.symm)
  rw [← hLL] at hL
  have HV2 := Lib.hid (show ∀ t ∈ ts, vals s t L = true from by rw [hLL, ← first_eq h0]; exact hv)
  obtain ⟨b0, off0, tv, rfl, e0, e1, hr⟩ := hr
  obtain ⟨a, b, off, cap, vs, rfl, hlc, hcm, ha, hc⟩ := hs
  obtain rfl := ha h0
  obtain ⟨k1, k2⟩ := hc 0 h0
  rw [Nat.add_zero] at k1
  obtain ⟨ya, yc, hy0⟩ := k2.form
  rw [hy0, ← hLL] at k1
  have HC := Lib.hid hc
  have K1 := Lib.hid k1
  clear hn hf hv hsl hLL hy0 k2 k1 hc hL1 hL2
  go_enter Try.func115, Try.ntmps115
  go_wp2_with fail
  go_loopw [7, 8] (fun t i wr => ∃ p : Nat, p ≤ L ∧ i = .int .i64 p ∧ Ext w wr ∧ wr.ownsRow w.heap.size 2 1 t p (((SMake s f ts).take p).map (Value.int .i64))) (fun _ i _ => L - (intOf i).toNat)
  case atStart => exact ⟨0, by omega, rfl, (Ext.refl' w).alloc (Nat.le_refl _) _, World.ownsRow_made w #[] 0 (Nat.le_refl _) (by decide) rfl⟩
  case round =>
    obtain ⟨p, hp, rfl, hE, ho⟩ := hrel
    have k1 := hE.cell K1.out
    by_cases hpl : p < L
    · obtain ⟨B, hB1, hB2⟩ : ∃ B, B ≤ wr.heap.size ∧ wr.heap.size ≤ B := ⟨_, Nat.le_refl _, Nat.le_refl _⟩
      go_wp2_with fail
      go_loopw [9, 10] (fun t i wq => ∃ k : Nat, k ≤ ts.length ∧ i = .int .i64 k ∧ Ext wr wq ∧ wq.ownsRow B 2 1 t k (((col ts p).take k).map (Value.int .i64))) (fun _ i _ => ts.length - (intOf i).toNat)
      case atStart => exact ⟨0, by omega, rfl, (Ext.refl' wr).alloc (Nat.le_refl _) _, World.ownsRow_made wr #[] 0 hB1 (by decide) rfl⟩
      case round =>
        obtain ⟨k, hk, rfl, hEq, hoq⟩ := hrel
        have hEE := hE.tr hEq
        by_cases hkl : k < ts.length
        · obtain ⟨m1, m2⟩ := HC.out k hkl
          have ht := HV2.out ts[k] (List.getElem_mem hkl)
          have htl : p < ts[k].length := by have := (vals_iff.1 ht).1; omega
          have HTK := Lib.hid (col_take ts p k hkl htl)
          replace m1 := hEE.cell m1
          generalize vs k = y at m1 m2
          obtain ⟨za, zb, zoff, zc, rfl, hzlc, hzcm, hza, hzc⟩ := m2
          obtain rfl := hza (by omega)
          have hzp := hEE.cell (hzc p htl)
          clear hzc
          obtain ⟨ta, tb, tc, rfl, -⟩ := own_parts hoq
          go_wp2_with (at_builtin; refine wpList_append_own _ rfl _ _ 25 rfl B 2 i0 (.int .i64 0) 1 8 Try.underlying25 hi hz0 hz1 hz2 rfl (by decide) _ _ _ rfl (own_ext hoq ((Ext.refl' wr).alloc (Nat.le_refl _) _)) ⟨wr.heap.size, 0, none⟩ 1 1 [.int .i64 (ts[k])[p]] rfl rfl (cells_one (by simp [go_sem])) (by simp [Value.oneCell']) (by unfold maxLen; omega) (by omega) (by have := hEq.size; simp; omega) ?_)
          intro v' w4 ho4 hg4 _
          have hA : Ext wr (wr.alloc (.cells #[.int .i64 (ts[k])[p]] 2)) := (Ext.refl' wr).alloc (Nat.le_refl _) _
          have hE4 := (hEq.tr hA).grown hg4 (by have := hEq.size; simp; omega) (fun k hk => by have := (hoq.lt k hk).1; omega)
          have ho5 : w4.ownsRow B 2 1 v' (k + 1) (((col ts p).take (k + 1)).map (Value.int .i64)) := by rw [HTK.out, List.map_append, List.map_take]; exact ho4
          clear hoq hg4 hA ho4 hEq hEE
          go_wp2_with fail
          go_roundw
          case rel => exact ⟨k + 1, by omega, by go_num, hE4, ho5⟩
          case measure => simp [intOf]; omega
        · have hkk : k = ts.length := by omega
          subst hkk
          rw [List.take_of_length_le (by rw [col_length]; exact Nat.le_refl _)] at hoq
          have hcv := col_vals HV2.out hpl
          have hcol : OI wr _ (col ts p) _ := ⟨own_base (base' := 0) (by rw [col_length]; exact hoq) (fun _ _ => Nat.zero_le _), rfl⟩
          obtain ⟨ta, tb, tc, rfl, -⟩ := own_parts hoq
          have hpt : PtOp wr (.pointer (some ⟨b0, off0, none⟩)) f := ⟨b0, off0, tv, rfl, hEE.cell e0, hEE.cell e1, hr.ext hEE⟩
          have HTK := Lib.hid (SMake_take s f ts p (by rw [first_eq h0, ← HL.out]; exact hpl))
          go_wp2_with fail
          refine (l02Value_any s f _ _ _ _ hpt hcol.rd HF.out (by rw [col_length]; exact HN.out) hcv).mono ?_
          rintro e w2 ⟨rfl, hQ⟩
          replace ho := own_ext (own_ext ho hEq) hQ.ext
          replace hE := hEE.tr hQ.ext
          obtain ⟨oa, ob, oc, rfl, -⟩ := own_parts ho
          clear hoq hcol hpt hEq hEE hQ hcv
          go_wp2_with (at_builtin; refine wpList_append_own _ rfl _ _ 25 rfl w.heap.size 2 i0 (.int .i64 0) 1 8 Try.underlying25 hi hz0 hz1 hz2 rfl (by decide) _ _ _ rfl (own_ext ho ((Ext.refl' w2).alloc (Nat.le_refl _) _)) ⟨w2.heap.size, 0, none⟩ 1 1 [.int .i64 (apply s f (col ts p))] rfl rfl (cells_one (by simp [go_sem])) (by simp [Value.oneCell']) (by unfold maxLen; omega) (by omega) (by have := hE.size; simp; omega) ?_)
          intro v' w4 ho4 hg4 _
          have hA : Ext w2 (w2.alloc (.cells #[.int .i64 (apply s f (col ts p))] 2)) := (Ext.refl' w2).alloc (Nat.le_refl _) _
          have hE4 := (hE.tr hA).grown hg4 (by have := hE.size; simp; omega) (fun k hk => (ho.lt k hk).1)
          have ho5 : w4.ownsRow w.heap.size 2 1 v' (p + 1) (((SMake s f ts).take (p + 1)).map (Value.int .i64)) := by rw [HTK.out, List.map_append, List.map_take]; exact ho4
          clear ho hg4 hA ho4 hE
          go_wp2_with fail
          go_roundw
          case rel => exact ⟨p + 1, by omega, by go_num, hE4, ho5⟩
          case measure => simp [intOf]; omega
    · have hpp : p = L := by omega
      subst hpp
      obtain ⟨ta, tb, tc, rfl, -⟩ := own_parts ho
      go_wp2_with fail
      go_ret
      rw [List.take_of_length_le (by rw [HSL.out]; omega)] at ho
      refine ⟨_, _, rfl, hE, ⟨?_, rfl⟩, fun g hg => (ho.lt g (by simpa using hg)).1⟩
      rw [HSL.out]
      exact own_base ho (fun _ _ => Nat.zero_le _)
end Go.Proofs.Ytemhmpnnccmlmaa
