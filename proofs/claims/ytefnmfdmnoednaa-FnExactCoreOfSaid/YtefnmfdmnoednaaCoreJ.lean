
/- CoreOf, the program's way. -/
import Derived.Test.YtefnmfdmnoednaaCoreI
import Derived.Test.YtefnmfdmnoednaaFirstM
import Derived.Test.YtefnmfdmnoednaaRelAcc
import Derived.Test.YtefnmfdmnoednaaIRes
namespace Go.Proofs.Ytefnmfdmnoednaa
open Go.RowKit
set_option linter.unusedVariables false

/-- what a function leaves that answers a template, numbers and a code -/
def TmIRes (R : TmD × List Int × Int) (w : World) (e : Ending) (w' : World) : Prop :=
  ∃ u fp x fx, e = .returned (.tuple #[u, x, .int .i64 R.2.2]) ∧ Ext w w' ∧ OwnTm w' u R.1 fp ∧ (∀ h ∈ fp, w.heap.size ≤ h) ∧ OI w' x R.2.1 fx ∧ (∀ h ∈ fx, w.heap.size ≤ h) ∧ (∀ g ∈ fp, g ∉ fx) ∧ mkTm R.1 ≤ 1048576 ∧ R.2.1.length ≤ 1048576
theorem TmIRes.no {c : Int} {w w' : World} (hE : Ext w w') : TmIRes (noTm, [], c) w (.returned (.tuple #[.agg #[.int .i64 0, .slice none 0 0], .slice none 0 0, .int .i64 c])) w' :=
  ⟨_, [], _, [], rfl, hE, noTm_own _, by simp, OI_nil _, by simp, by simp, Nat.zero_le _, Nat.zero_le _⟩
def restrS (vs : List Int) (L : List RelD) (k : Nat) : List RelD := (L.take k).map (restrR vs)
theorem restrS_succ {vs : List Int} {L : List RelD} {k : Nat} (hk : k < L.length) : restrS vs L (k + 1) = restrS vs L k ++ [restrR vs L[k]] := by
  unfold restrS
  rw [List.take_succ_eq_append_getElem hk, List.map_append]
  rfl
theorem restrS_le (vs : List Int) (L : List RelD) (k : Nat) : (restrS vs L k).length ≤ L.length := by
  unfold restrS
  rw [List.length_map, List.length_take]
  omega
theorem restrS_all {vs : List Int} {L : List RelD} {k : Nat} (hk : L.length ≤ k) : restrS vs L k = L.map (restrR vs) := by unfold restrS; rw [List.take_of_length_le hk]
theorem mkII_sub : ∀ (L : List (List Int)) (p : List Int → Bool), mkII (L.filter p) ≤ mkII L
  | [], _ => Nat.le_refl _
  | x :: xs, p => by
    have ih := mkII_sub xs p
    by_cases h : p x = true
    · rw [List.filter_cons_of_pos h]; simp only [mkII]; omega
    · rw [List.filter_cons_of_neg h]; simp only [mkII]; omega
theorem mkII_tell (vs : List Int) : ∀ L : List (List Int), mkII (L.map (tellT vs)) = mkII L
  | [] => rfl
  | x :: xs => by rw [List.map_cons]; simp only [mkII, tellT_length]; rw [mkII_tell vs xs]
theorem mkRelS_restr (vs : List Int) : ∀ L : List RelD, mkRelS (L.map (restrR vs)) ≤ mkRelS L
  | [] => Nat.le_refl _
  | r :: rs => by
    have ih := mkRelS_restr vs rs
    have h : mkRel (restrR vs r) ≤ mkRel r := by
      show mkII (restrL vs r.2) ≤ mkII r.2
      have := mkII_sub (r.2.map (tellT vs)) fun x => !hasI x (-1)
      rw [mkII_tell] at this
      exact this
    rw [List.map_cons]
    simp only [mkRelS]
    omega
theorem len_le_mkII : ∀ {L : List (List Int)} {t : List Int}, t ∈ L → t.length ≤ mkII L
  | x :: xs, t, h => by
    simp only [mkII]
    rcases List.mem_cons.1 h with rfl | h
    · omega
    · have := len_le_mkII h; omega
theorem rel_bounds {r : RelD} (h : szRel r ≤ 1048576) : r.2.length ≤ 1048576 ∧ ∀ t ∈ r.2, t.length ≤ 1048576 := by
  have h2 : szII r.2 ≤ 1048576 := h
  rw [szII_eq] at h2
  exact ⟨by omega, fun t ht => by have := len_le_mkII ht; omega⟩
theorem mkTm_inside (vs : List Int) (t : TmD) : mkTm (insideT vs t) ≤ szTm t := Nat.le_trans (mkRelS_restr vs t.2) (mkTm_le t)

set_option maxHeartbeats 8000000 in
set_option maxRecDepth 100000 in
theorem implCoreOf_any (t : TmD) (v : Value) (w : World) (hr : RdTm w v t) (hz : szTm t ≤ 1048576) :
    Calls Try.prog 40 #[v] w (TmIRes (SCoreOf t) w) := by
  obtain ⟨tv, rfl, hr'⟩ := hr
  obtain ⟨ta, tc, rfl⟩ := hr'.form
  have hr : RdTm w _ t := ⟨_, rfl, hr'⟩
  have hE1 : Ext w ((w.alloc (.cells #[.int .i64 t.1, .slice ta t.2.length tc] 63)).alloc (.cells #[.int .i64 0, .slice none 0 0] 63)) := ((Ext.refl' w).alloc (Nat.le_refl _) _).alloc (by simp) _
  cases h1 : SValidTemplate t with
  | false =>
    rw [core_1 h1]
    go_enter Try.func40, Try.ntmps40
    go_wp2_with fail
    refine (implValidTemplate_ok t _ _ (hr.ext hE1)).mono ?_
    rintro e w1 ⟨rfl, hE⟩
    rw [h1]
    have d0 := hE.cell (p := ⟨w.heap.size + 1, 0, none⟩) (v := .int .i64 0) (by simp [go_sem])
    have d1 := hE.cell (p := ⟨w.heap.size + 1, 1, none⟩) (v := .slice none 0 0) (by simp [go_sem])
    have f2 := hE.frozen (p := ⟨w.heap.size + 1, 0, none⟩) (by simp)
    have f3 := hE.frozen (p := ⟨w.heap.size + 1, 1, none⟩) (by simp)
    simp [go_sem] at f2 f3
    have c0 := hE.cell (p := ⟨w.heap.size, 0, none⟩) (v := .int .i64 t.1) (by simp [go_sem])
    have c1 := hE.cell (p := ⟨w.heap.size, 1, none⟩) (v := .slice ta t.2.length tc) (by simp [go_sem])
    replace hE := hE1.tr hE
    go_wp2_with fail
    exact bodyPost_ret (v := .tuple #[.agg #[.int .i64 0, .slice none 0 0], .slice none 0 0, .int .i64 1]) (by simp [results, Try.results40, go_sem, d0, d1]) rfl (TmIRes.no ((hE.setCell (by simp <;> omega) _).setCell (by simp <;> omega) _))
  | true =>
    rw [core_0 h1]
    have htb := valid_tm_size h1
    have hmkb : mkTm (insideT (coreV t) t) ≤ 1048576 := Nat.le_trans (mkTm_inside _ t) hz
    have HN := Lib.hid (count_eq t.1 t.1 htb.1 htb.2 htb.1 htb.2)
    have hN3 : count t.1 t.1 ≤ 256 := by have := HN.out; have := powW_small t.1 t.1 htb.1 htb.2 htb.1 htb.2; omega
    have H1 := Lib.hid h1
    have hlen6 := valid_tm_len h1
    have HCV := Lib.hid (show coreV t = coreAt t (count t.1 t.1) from rfl)
    go_enter Try.func40, Try.ntmps40
    go_wp2_with fail
    refine (implValidTemplate_ok t _ _ (hr.ext hE1)).mono ?_
    rintro e w1 ⟨rfl, hE⟩
    rw [h1]
    have d0 := hE.cell (p := ⟨w.heap.size + 1, 0, none⟩) (v := .int .i64 0) (by simp [go_sem])
    have d1 := hE.cell (p := ⟨w.heap.size + 1, 1, none⟩) (v := .slice none 0 0) (by simp [go_sem])
    have f2 := hE.frozen (p := ⟨w.heap.size + 1, 0, none⟩) (by simp)
    have f3 := hE.frozen (p := ⟨w.heap.size + 1, 1, none⟩) (by simp)
    simp [go_sem] at f2 f3
    have c0 := hE.cell (p := ⟨w.heap.size, 0, none⟩) (v := .int .i64 t.1) (by simp [go_sem])
    have c1 := hE.cell (p := ⟨w.heap.size, 1, none⟩) (v := .slice ta t.2.length tc) (by simp [go_sem])
    replace hE := hE1.tr hE
    clear h1
    have q1 := hE.size
    have hA1 : Ext w1 (w1.alloc (.cells #[] 2)) := (Ext.refl' w1).alloc (Nat.le_refl _) _
    have e0 := hA1.cell c0
    clear hA1
    go_wp2_with fail
    refine (power_any _ _ _ (by omega)).mono ?_
    rintro e w2 ⟨rfl, rfl⟩
    rw [← HN.out]
    go_wp2_with fail
    go_loopw [5, 22] (fun b i wr => ∃ (k : Nat) (fp : List Nat), k ≤ count t.1 t.1 ∧ i = .int .i64 (k : Nat) ∧ Ext w1 wr ∧ OI wr b (coreAt t k) fp ∧ ∀ g ∈ fp, w1.heap.size ≤ g) (fun _ i _ => count t.1 t.1 - (intOf i).toNat)
    case atStart => exact ⟨0, _, by omega, rfl, (Ext.refl' w1).alloc (Nat.le_refl _) _, ⟨World.ownsRow_made w1 #[] 0 (Nat.zero_le _) (by decide) rfl, rfl⟩, by simp [Value.ownBlock]⟩
    case round =>
      obtain ⟨k, fp, hk, rfl, hE2, ho, hfp⟩ := hrel
      obtain ⟨oa, oc, rfl⟩ := ho.form
      have b0 := hE2.cell c0
      have b1 := hE2.cell c1
      have q2 := hE2.size
      by_cases hkl : k < count t.1 t.1
      · have hks : (k : Int) < (count t.1 t.1 : Int) := by omega
        have hdl := digs_length t.1 t.1.toNat k
        have hdv := Lib.hid (map_vals H1.out H1.out k)
        have HY := Lib.hid (fun (h : isMapS t t (digs t.1 t.1.toNat k) = true) (h2 : (coreAt t k).length = 0 ∨ (riseL (digs t.1 t.1.toNat k)).length < (coreAt t k).length) => (show coreAt t (k + 1) = riseL (digs t.1 t.1.toNat k) from coreStep_yes h h2))
        have HNo := Lib.hid (fun (h : isMapS t t (digs t.1 t.1.toNat k) = false ∨ ¬ ((coreAt t k).length = 0 ∨ (riseL (digs t.1 t.1.toNat k)).length < (coreAt t k).length)) => (show coreAt t (k + 1) = coreAt t k from coreStep_no h))
        have hdg := listOf_any t.1 t.1 k wr (by omega) (by omega) htb.1 (by omega) (by omega) (by omega)
        have hl4 : 0 < (digs t.1 t.1.toNat k).length ∧ (digs t.1 t.1.toNat k).length ≤ 4 := by omega
        clear hdl
        generalize digs t.1 t.1.toNat k = D at hdg hdv HY HNo hl4
        go_wp2_with fail
        refine hdg.mono ?_
        rintro e w3 ⟨u, fu, rfl, hE3, hu, hfu⟩
        obtain ⟨ua, uc, rfl⟩ := hu.form
        go_wp2_with fail
        refine (rising_any D _ _ hu.rd hl4.1 (by omega)).mono ?_
        rintro e w4 ⟨x, fx, rfl, hE4, hx, hfx⟩
        have hRl := riseL_length D
        generalize riseL D = R at hx HY HNo hRl
        obtain ⟨xa, xc, rfl⟩ := hx.form
        have hE5 := hE2.tr (hE3.tr hE4)
        have g0 := hE5.cell c0
        have g1 := hE5.cell c1
        go_wp2_with fail
        refine (isMap_any t _ t _ D _ _ ((hr.ext hE).ext hE5) ((hr.ext hE).ext hE5) (hu.rd.ext hE4) H1.out H1.out rfl hdv.out hz).mono ?_
        rintro e w5 ⟨rfl, hE6⟩
        replace ho := ((ho.ext hE3).ext hE4).ext hE6
        replace hx := hx.ext hE6
        have hE7 := hE5.tr hE6
        have q3 := hE3.size
        have q4 := hE4.size
        generalize coreAt t k = C at ho HY HNo
        cases hm : isMapS t t D with
        | false =>
          have HK := Lib.hid (HNo.out (.inl hm))
          clear hm
          go_wp2_with fail
          go_roundw
          case rel => exact ⟨k + 1, fp, by omega, by go_num, hE7, by rw [HK.out]; exact ho, hfp⟩
          case measure => simp [intOf]; omega
        | true =>
          by_cases hz0 : C.length = 0
          · have hb : ((C.length : Int) == 0) = true := by simp [hz0]
            have HK := Lib.hid (HY.out hm (.inl hz0))
            clear hm
            go_wp2_with fail
            go_roundw
            case rel => exact ⟨k + 1, fx, by omega, by go_num, hE7, by rw [HK.out]; exact hx, fun g hg => by have := hfx g hg; omega⟩
            case measure => simp [intOf]; omega
          · have hb : ((C.length : Int) == 0) = false := by simp; exact fun h => hz0 (by simp [h])
            by_cases hlt : R.length < C.length
            · have hlt2 : (R.length : Int) < (C.length : Int) := by omega
              have HK := Lib.hid (HY.out hm (.inr hlt))
              clear hm
              go_wp2_with fail
              go_roundw
              case rel => exact ⟨k + 1, fx, by omega, by go_num, hE7, by rw [HK.out]; exact hx, fun g hg => by have := hfx g hg; omega⟩
              case measure => simp [intOf]; omega
            · have HK := Lib.hid (HNo.out (.inr (by rintro (h | h); exact hz0 h; exact hlt h)))
              clear hm
              have hlt2 : ¬ ((R.length : Int) < (C.length : Int)) := by omega
              go_wp2_with fail
              go_roundw
              case rel => exact ⟨k + 1, fp, by omega, by go_num, hE7, by rw [HK.out]; exact ho, hfp⟩
              case measure => simp [intOf]; omega
      · have hkk : k = count t.1 t.1 := by omega
        subst hkk
        have ho2 : OI wr (.slice oa (coreAt t (count t.1 t.1)).length oc) (coreV t) fp := ho
        have hvl : (coreAt t (count t.1 t.1)).length ≤ 4 := by have := coreAt_len t (count t.1 t.1); omega
        have hrw := (hr'.ext hE).ext hE2
        rename World => wo
        obtain ⟨_, b, off, cap, ts, hsl, hlc, hcm, ha, hc⟩ := hrw
        simp only [Value.slice.injEq] at hsl
        obtain ⟨rfl, -, rfl⟩ := hsl
        have HC := Lib.hid hc
        have HZ := Lib.hid (show ∀ r ∈ t.2, r.2.length ≤ 1048576 ∧ ∀ x ∈ r.2, x.length ≤ 1048576 from fun r hr => rel_bounds (Nat.le_trans (szRel_le hr) hz))
        clear hc ho
        have hAT : Ext wo (wo.alloc (.cells #[.int .i64 ((coreAt t (count t.1 t.1)).length : Nat), .slice none 0 0] 63)) := (Ext.refl' wo).alloc (Nat.le_refl _) _
        have b2 := hAT.cell b1
        clear hAT
        go_wp2_with fail
        go_loopw [57] (fun i wr => ∃ (k : Nat) (tv : Value) (fp2 : List Nat), k ≤ t.2.length ∧ i = .int .i64 (k : Nat) ∧ AccR wo wr wo.heap.size (wo.heap.size + 1) ((coreAt t (count t.1 t.1)).length : Nat) (restrS (coreV t) t.2 k) tv fp2) (fun i _ => t.2.length - (intOf i).toNat)
        case atStart =>
          refine ⟨0, .slice none 0 0, [], by omega, rfl, ⟨(Ext.refl' wo).alloc (Nat.le_refl _) _, OwnL.nil _, by simp, by simp, by omega, Nat.le_refl _, ?_, ?_, ?_⟩⟩ <;> simp [go_sem]
        case round =>
          obtain ⟨k, tv, fp2, hk, rfl, hA⟩ := hrel
          have hfp2 := hA.ho.lt
          obtain ⟨xa, xc, rfl⟩ := hA.ho.form
          have hEo := hA.hE
          by_cases hkl : k < t.2.length
          · obtain rfl := ha (by omega)
            obtain ⟨k1, k2, k3⟩ := HC.out k hkl
            have hzz := HZ.out t.2[k] (List.getElem_mem hkl)
            replace k1 := hEo.cell k1
            replace k2 := hEo.cell k2
            replace k3 := k3.ext hEo
            have HS := Lib.hid (restrS_succ (vs := coreV t) hkl)
            have hle := restrS_le (coreV t) t.2 k
            generalize ts k = y at k2 k3
            generalize t.2[k] = R at k1 k3 HS hzz
            obtain ⟨ya, yc, rfl⟩ := k3.form
            have hAA : Ext wr (wr.alloc (.cells #[.int .i64 R.1, .slice ya R.2.length yc] 25)) := (Ext.refl' wr).alloc (Nat.le_refl _) _
            have z0 : (wr.alloc (.cells #[.int .i64 R.1, .slice ya R.2.length yc] 25)).cell? ⟨wr.heap.size, 0, none⟩ = some (.int .i64 R.1) := by simp [go_sem]
            have z1 : (wr.alloc (.cells #[.int .i64 R.1, .slice ya R.2.length yc] 25)).cell? ⟨wr.heap.size, 1, none⟩ = some (.slice ya R.2.length yc) := by simp [go_sem]
            have hRd : RdRel (wr.alloc (.cells #[.int .i64 R.1, .slice ya R.2.length yc] 25)) (.agg #[.int .i64 R.1, .slice ya R.2.length yc]) R := ⟨_, rfl, k3.ext hAA⟩
            have hvs := ((ho2.ext hEo).ext hAA).rd
            have hA2 := hA.ext hAA
            have a0 := hA2.c0
            have a1 := hA2.c1
            have hqB : wr.heap.size ≤ (wr.alloc (.cells #[.int .i64 R.1, .slice ya R.2.length yc] 25)).heap.size := hAA.size
            have hB := hA.hB
            clear hA hAA
            go_wp2_with fail
            go_wp2_with fail
            refine region_sp [] [6, 7, 8] [SP.val (.pointer (some ⟨wo.heap.size, 1, none⟩)), SP.val (.slice xa (restrS (coreV t) t.2 k).length xc), SP.val (.agg #[.int .i64 R.1, .slice ya R.2.length yc]), SP.val (.slice oa (coreAt t (count t.1 t.1)).length oc), SP.relF wr.heap.size (restrR (coreV t) R), SP.rowRelF wr.heap.size (restrR (coreV t) R), SP.any, SP.any, SP.any] (by kernel_rfl) (fun _ d _ _ _ h => by cases d <;> exact h) (by kernel_rfl) (by kernel_rfl)
              (.cons (fun vs y hY => Step.fieldAddr ⟨wo.heap.size, 0, none⟩ rfl rfl rfl (by simp [go_sem]) rfl) <|
               .cons (fun vs y hY g0_0 => Step.load ⟨wo.heap.size, 1, none⟩ rfl rfl g0_0 (by simp [go_sem, hY.cell a1]) rfl) <|
               .cons (fun vs y hY => Step.load ⟨wr.heap.size, 0, none⟩ rfl rfl rfl (by simp [go_sem, hY.cell z0, hY.cell z1]) rfl) <|
               .cons (fun vs y hY => Step.move rfl rfl rfl rfl) <|
               .cons (fun vs y hY g2_0 g3_1 => Step.call Try.call95 rfl rfl [vs 2, vs 3] rfl rfl (by rw [show vs 2 = _ from g2_0, show vs 3 = _ from g3_1]; exact ((restricted_any R _ (coreV t) _ _ (hRd.ext hY) (hvs.ext hY) hzz.1 hzz.2).mono fun _ _ ⟨u, fp, h1, h2, h3, h4⟩ => ⟨u, h1, h2, fp, h3, fun g hg => Nat.le_trans (Nat.le_trans hqB hY.size) (h4 g hg)⟩))) <|
               .cons (fun vs y hY g4_0 => Step.rowRelF (e := 25) rfl rfl g4_0 (by intros; simp [go_sem])) <|
               .skip rfl <|
               .skip rfl <|
               .skip rfl <|
               .nil) ?_
            intro vs w3 hC hL
            have r0 : vs 0 = _ := hL 0 (by decide) rfl
            have r1 : vs 1 = _ := hL 1 (by decide) rfl
            have r2 : vs 2 = _ := hL 2 (by decide) rfl
            have r3 : vs 3 = _ := hL 3 (by decide) rfl
            have r4 := hL 4 (by decide) rfl
            have r5 := hL 5 (by decide) rfl
            clear hL
            simp only [putAll, Act.put, List.contains_cons, List.contains_nil, Nat.reduceBEq, Nat.reduceAdd, Bool.or_false, Bool.or_true, cond_true, cond_false, List.setIfInBounds_toArray, List.set_cons_succ, List.set_cons_zero, List.filterMap_cons, List.filterMap_nil, List.getElem?_cons_succ, List.getElem?_cons_zero, r0, r1, r2, r3]
            clear r0 r1 r2 r3
            obtain ⟨b', u, fx, r5, y0, y1, hx, hfx⟩ := r5
            replace hA2 := hA2.ext hC
            clear a0 a1
            refine AccR.append hA2 hx (fun g hg => by have := hfx g hg; omega) (fun g hg hm => by have := hfx g hg; have := hfp2 g hm; omega) (by omega) (b' := b') (u := u) y0 y1 rfl (.tmp 62) (.tmp 66) rfl rfl r5 ?_
            rintro v' w4 fp' k3 k4 hA4 ⟨xa', xc', rfl⟩
            rw [← HS.out] at hA4
            go_wp2_with fail
            go_roundw
            case rel => exact ⟨k + 1, _, fp', by omega, by go_num, hA4⟩
            case measure => simp [intOf]; omega
          · have hTe : restrS (coreV t) t.2 k = t.2.map (restrR (coreV t)) := restrS_all (by omega)
            have hoT : OwnTm wr (.agg #[.int .i64 ((coreAt t (count t.1 t.1)).length : Nat), .slice xa (restrS (coreV t) t.2 k).length xc]) (insideT (coreV t) t) fp2 := ⟨_, rfl, hTe ▸ hA.ho⟩
            have hE9 := hE2.tr hEo
            have hfp3 := hA.hfp
            have hfpw := ho2.lt
            replace ho2 := ho2.ext hEo
            have a0 := hA.c0
            have a1 := hA.c1
            have q0 : w.heap.size + 1 < w1.heap.size := lt_of_cell d0
            replace f2 : _ = false := (hE9.frozen (lt_of_cell d0)).trans f2
            replace f3 : _ = false := (hE9.frozen (lt_of_cell d1)).trans f3
            replace d0 := hE9.cell d0
            replace d1 := hE9.cell d1
            clear hTe hA
            go_wp2_with fail
            exact bodyPost_ret (v := .tuple #[.agg #[.int .i64 ((coreAt t (count t.1 t.1)).length : Nat), .slice xa (restrS (coreV t) t.2 k).length xc], .slice oa (coreAt t (count t.1 t.1)).length oc, .int .i64 0]) (by simp [results, Try.results40, go_sem, d0, d1]) rfl
              ⟨_, fp2, _, fp, rfl, ((hE.tr hE9).setCell (by simp <;> omega) _).setCell (by simp <;> omega) _, hoT.off ((Off.set (fp := [w.heap.size + 1]) (by simp)).trans (Off.set (by simp))) (fun h hh hm => by have := hfp3 h hh; simp at hm; omega), (fun h hh => by have := hfp3 h hh; omega), ho2.off ((Off.set (fp := [w.heap.size + 1]) (by simp)).trans (Off.set (by simp))) (fun h hh hm => by have := hfp h hh; simp at hm; omega), (fun h hh => by have := hfp h hh; omega), (fun g hg hm => by have := hfp3 g hg; have := hfpw g hm; omega), hmkb, (show (coreAt t (count t.1 t.1)).length ≤ 1048576 by omega)⟩
end Go.Proofs.Ytefnmfdmnoednaa
