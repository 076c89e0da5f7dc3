
/- The core of a template, the program's way. -/
import Derived.Test.YtefnmfdmnoednaaCoreL
import Derived.Test.YtefnmfdmnoednaaAcc
namespace Go.Proofs.Ytefnmfdmnoednaa
open Go.RowKit
set_option linter.unusedVariables false

def tellAt (vs x : List Int) (j : Nat) : List Int := tellT vs (x.take j)
theorem tellAt_zero (vs x : List Int) : tellAt vs x 0 = [] := rfl
theorem tellAt_succ {vs x : List Int} {j : Nat} (hj : j < x.length) : tellAt vs x (j + 1) = tellAt vs x j ++ [idx (fun b => decide (b = x[j])) vs] := by
  unfold tellAt tellT
  rw [List.take_succ_eq_append_getElem hj, List.map_append]
  rfl
theorem tellAt_le (vs x : List Int) (j : Nat) : (tellAt vs x j).length ≤ x.length := by
  unfold tellAt
  rw [tellT_length, List.length_take]
  omega
theorem tellAt_all {vs x : List Int} {j : Nat} (hj : x.length ≤ j) : tellAt vs x j = tellT vs x := by unfold tellAt; rw [List.take_of_length_le hj]
def restrL (vs : List Int) (L : List (List Int)) : List (List Int) := (L.map (tellT vs)).filter fun x => !hasI x (-1)
def restrAt (vs : List Int) (L : List (List Int)) (k : Nat) : List (List Int) := restrL vs (L.take k)
theorem restrR_eq (vs : List Int) (r : RelD) : restrR vs r = (r.1, restrL vs r.2) := rfl
theorem restrAt_yes {vs : List Int} {L : List (List Int)} {k : Nat} (hk : k < L.length) (h : hasI (tellT vs L[k]) (-1) = false) : restrAt vs L (k + 1) = restrAt vs L k ++ [tellT vs L[k]] := by
  unfold restrAt restrL
  rw [List.take_succ_eq_append_getElem hk, List.map_append, List.filter_append]
  simp [h]
theorem restrAt_no {vs : List Int} {L : List (List Int)} {k : Nat} (hk : k < L.length) (h : hasI (tellT vs L[k]) (-1) = true) : restrAt vs L (k + 1) = restrAt vs L k := by
  unfold restrAt restrL
  rw [List.take_succ_eq_append_getElem hk, List.map_append, List.filter_append]
  simp [h]
theorem restrAt_le (vs : List Int) (L : List (List Int)) (k : Nat) : (restrAt vs L k).length ≤ L.length := by
  unfold restrAt restrL
  refine Nat.le_trans (List.length_filter_le _ _) ?_
  rw [List.length_map, List.length_take]
  omega
theorem restrAt_all {vs : List Int} {L : List (List Int)} {k : Nat} (hk : L.length ≤ k) : restrAt vs L k = restrL vs L := by unfold restrAt; rw [List.take_of_length_le hk]

set_option maxHeartbeats 8000000 in
set_option maxRecDepth 100000 in
theorem restricted_any (r : RelD) (v : Value) (vs : List Int) (vv : Value) (w : World) (hr : RdRel w v r) (hvs : RdI w vv vs) (hlen : r.2.length ≤ 1048576) (hlt : ∀ t ∈ r.2, t.length ≤ 1048576) :
    Calls Try.prog 95 #[v, vv] w fun e w' => ∃ u fp, e = .returned u ∧ Ext w w' ∧ OwnRel w' u (restrR vs r) fp ∧ ∀ h ∈ fp, w.heap.size ≤ h := by
  obtain ⟨i0, hi, hz0, hz1, hz2⟩ := info_parts infoI
  obtain ⟨tv, rfl, hr'⟩ := hr
  obtain ⟨a, b, off, cap, el, rfl, hlc, hcm, ha, hc⟩ := hr'
  obtain ⟨va, vc, rfl⟩ := hvs.form
  have HC := Lib.hid hc
  have HLT := Lib.hid hlt
  have HR := Lib.hid (restrR_eq vs r)
  clear hc hlt
  have hE1 : Ext w (((w.alloc (.cells #[.int .i64 r.1, .slice a r.2.length cap] 25)).alloc (.cells #[.int .i64 0, .slice none 0 0] 25)).alloc (.cells #[.int .i64 r.1, .slice none 0 0] 25)) := (((Ext.refl' w).alloc (Nat.le_refl _) _).alloc (by simp) _).alloc (by simp; omega) _
  go_enter Try.func95, Try.ntmps95
  go_wp2_with fail
  go_loopw [17] (fun i wr => ∃ (k : Nat) (tv : Value) (fp : List Nat), k ≤ r.2.length ∧ i = .int .i64 k ∧ Acc w wr (w.heap.size + 1) (w.heap.size + 1 + 1) (w.heap.size + 1 + 1 + 1) r.1 (restrAt vs r.2 k) tv fp)
    (fun i _ => r.2.length - (intOf i).toNat)
  case atStart =>
    refine ⟨0, .slice none 0 0, [], by omega, rfl, ⟨hE1, OII_nil _, by simp, by simp, by omega, by omega, by omega, ?_, ?_, ?_, ?_, ?_, ?_, ?_⟩⟩ <;> simp [go_sem]
  case round =>
    rename World => wo
    obtain ⟨k, tv, fp, hk, rfl, hA⟩ := hrel
    have hE := hA.hE
    have hBo := hA.hB
    have hfpw := hA.ho.lt
    obtain ⟨xa, xc, rfl⟩ := hA.ho.form
    by_cases hkl : k < r.2.length
    · obtain rfl := ha (by omega)
      obtain ⟨k1, k2⟩ := HC.out k hkl
      replace k1 := hE.cell k1
      replace k2 := k2.ext hE
      have hXl := HLT.out r.2[k] (List.getElem_mem hkl)
      have HY := Lib.hid (fun h : hasI (tellT vs r.2[k]) (-1) = false => restrAt_yes (vs := vs) hkl h)
      have HN := Lib.hid (fun h : hasI (tellT vs r.2[k]) (-1) = true => restrAt_no (vs := vs) hkl h)
      generalize el k = y at k1 k2
      generalize r.2[k] = X at k2 hXl HY HN
      obtain ⟨ya, yb, yoff, yc, rfl, ylc, ycm, hya, hyc⟩ := k2
      have HYC := Lib.hid hyc
      clear hyc
      go_wp2_with fail
      go_loopw [8, 24] (fun t i wr => ∃ j : Nat, j ≤ X.length ∧ i = .int .i64 (j : Nat) ∧ Ext wo wr ∧ wr.ownsRow wo.heap.size 2 1 t (tellAt vs X j).length ((tellAt vs X j).map (Value.int .i64))) (fun _ i _ => X.length - (intOf i).toNat)
      case atStart => exact ⟨0, by omega, rfl, (Ext.refl' wo).alloc (Nat.le_refl _) _, World.ownsRow_made wo #[] 0 (Nat.le_refl _) (by decide) rfl⟩
      case round =>
        obtain ⟨j, hj, rfl, hE2, ho⟩ := hrel
        obtain ⟨oa, ob, oc, rfl, -⟩ := own_parts ho
        have q2 := hE2.size
        have hle := tellAt_le vs X j
        by_cases hjl : j < X.length
        · obtain rfl := hya (by omega)
          have cj := hE2.cell (HYC.out j hjl)
          have HT := Lib.hid (tellAt_succ (vs := vs) hjl)
          generalize X[j] = z at cj HT
          go_wp2_with fail
          refine (indexI_any vs _ z _ ((hvs.ext hE).ext hE2)).mono ?_
          rintro e w3 ⟨rfl, hE3⟩
          have hE4 := hE2.tr hE3
          have q3 := hE4.size
          have ho3 := own_ext ho hE3
          generalize idx (fun a => decide (a = z)) vs = I at HT ⊢
          go_wp2_with (at_builtin; refine wpList_append_own _ rfl _ _ 34 rfl wo.heap.size 2 i0 (.int .i64 0) 1 8 Try.underlying34 hi hz0 hz1 hz2 rfl (by decide) _ _ _ rfl (own_ext ho3 ((Ext.refl' w3).alloc (Nat.le_refl _) _)) ⟨w3.heap.size, 0, none⟩ 1 1 [.int .i64 I] rfl rfl (cells_one (by simp [go_sem])) (by simp [Value.oneCell']) (by unfold maxLen; omega) (by omega) (by simp; omega) ?_)
          intro v' w5 ho5 hg5 _
          have hAA : Ext w3 (w3.alloc (.cells #[.int .i64 I] 2)) := (Ext.refl' w3).alloc (Nat.le_refl _) _
          have hE5 : Ext wo w5 := (hE4.tr hAA).grown hg5 (by simp; omega) (fun h hh => (ho3.lt h hh).1)
          have ho6 : w5.ownsRow wo.heap.size 2 1 v' (tellAt vs X (j + 1)).length ((tellAt vs X (j + 1)).map (Value.int .i64)) := by rw [HT.out, List.map_append, List.length_append]; exact ho5
          clear ho ho3 hg5 hAA ho5
          go_wp2_with fail
          go_roundw
          case rel => exact ⟨j + 1, by omega, by go_num, hE5, ho6⟩
          case measure => simp [intOf]; omega
        · have HTe := Lib.hid (tellAt_all (vs := vs) (x := X) (j := j) (by omega))
          have hxO : OI wr (.slice oa (tellAt vs X j).length oc) (tellAt vs X j) _ := ⟨own_base ho (fun _ _ => Nat.zero_le _), rfl⟩
          have hfx : ∀ g ∈ (Value.slice oa (tellAt vs X j).length oc).ownBlock.toList, wo.heap.size ≤ g := fun g hg => (ho.lt g (by simpa using hg)).1
          replace HY : Hid (hasI (tellAt vs X j) (-1) = false → restrAt vs r.2 (k + 1) = restrAt vs r.2 k ++ [tellAt vs X j]) := Lib.hid (by rw [HTe.out]; exact HY.out)
          replace HN : Hid (hasI (tellAt vs X j) (-1) = true → restrAt vs r.2 (k + 1) = restrAt vs r.2 k) := Lib.hid (by rw [HTe.out]; exact HN.out)
          generalize tellAt vs X j = Z at ho hxO hfx HY HN hle
          clear HTe
          replace hA := hA.ext hE2
          go_wp2_with fail
          refine (containsI_any Z _ (-1) _ hxO.rd).mono ?_
          rintro e w3 ⟨rfl, hE3⟩
          replace hA := hA.ext hE3
          replace hxO := hxO.ext hE3
          cases hb : hasI Z (-1) with
          | true =>
            have HN2 := Lib.hid (HN.out hb)
            clear hb ho
            go_wp2_with fail
            go_roundw
            case rel => exact ⟨k + 1, _, fp, by omega, by go_num, by rw [HN2.out]; exact hA⟩
            case measure => simp [intOf]; omega
          | false =>
            have HY2 := Lib.hid (HY.out hb)
            clear hb ho
            have a0 := hA.c0
            have a1 := hA.c1
            have hA7 : Ext w3 (w3.alloc (.cells #[.slice oa Z.length oc] 34)) := (Ext.refl' w3).alloc (Nat.le_refl _) _
            have hle2 := restrAt_le vs r.2 k
            have HLA := Lib.hid (show (restrAt vs r.2 k).length ≤ 1048576 by omega)
            clear hle2
            have b1 := hA7.cell a1
            go_wp2_with (at_builtin; (refine Acc.append (hA.ext hA7) (hxO.ext hA7) (fun g hg => Nat.le_trans hBo (hfx g hg)) (fun g hg hm => by have := hfx g hg; have := hfpw g hm; omega) HLA.out (b' := w3.heap.size) (u := .slice oa Z.length oc) (by simp [go_sem]) rfl (.tmp 39) (.tmp 41) rfl rfl rfl ?_))
            intro v' w4 fp' k3 k4 hA4 _ xa' xc' hxe
            subst hxe
            rw [← HY2.out] at hA4
            have b0 := hA4.c0
            clear hA hxO hA7 hE3
            go_wp2_with fail
            go_roundw
            case rel => exact ⟨k + 1, _, fp', by omega, by go_num, hA4⟩
            case measure => simp [intOf]; omega
    · have hTe : restrAt vs r.2 k = restrL vs r.2 := restrAt_all (by omega)
      have hA2 : Acc w wo (w.heap.size + 1) (w.heap.size + 1 + 1) (w.heap.size + 1 + 1 + 1) r.1 (restrL vs r.2) (.slice xa (restrAt vs r.2 k).length xc) fp := hTe ▸ hA
      have hdone := hA2.done
      have c0 := hA2.c0
      have c1 := hA2.c1
      have d0 := hA2.d0
      have d1 := hA2.d1
      have f2 := hA2.f2
      have f3 := hA2.f3
      clear hTe hA
      go_wp2_with fail
      obtain ⟨g1, g2, g3⟩ := hdone (.int .i64 r.1) (.slice xa (restrAt vs r.2 k).length xc)
      exact bodyPost_ret (v := .agg #[.int .i64 r.1, .slice xa (restrAt vs r.2 k).length xc]) (by simp [results, Try.results95, go_sem, d0, d1]) rfl ⟨_, fp, rfl, g1, by rw [HR.out]; exact g2, g3⟩
end Go.Proofs.Ytefnmfdmnoednaa
