/- CoreOf, the program's way. CoreOf, the reference's way. -/
import Derived.Test.YtajkepdfemdagaaGreatDoorC29
import Derived.Test.YtajkepdfemdagaaGreatDoorC26
import Derived.Test.YtajkepdfemdagaaGreatDoorC28
import Derived.Test.YtajkepdfemdagaaGreatDoorC25
import Derived.Test.YtajkepdfemdagaaGreatDoorC23
namespace Go.Proofs.YtajkepdfemdagaaGreatDoor
open Go.RowKit
set_option linter.unusedVariables false

/-- what a function leaves that answers a template, numbers and a code -/
def TmIRes (R : TmD × List Int × Int) (w : World) (e : Ending) (w' : World) : Prop :=
  ∃ u fp x fx, e = .returned (.tuple #[u, x, .int .i64 R.2.2]) ∧ Ext w w' ∧ OwnTm w' u R.1 fp ∧ (∀ h ∈ fp, w.heap.size ≤ h) ∧ OI w' x R.2.1 fx ∧ (∀ h ∈ fx, w.heap.size ≤ h) ∧ (∀ g ∈ fp, g ∉ fx) ∧ mkTm R.1 ≤ 1048576 ∧ R.2.1.length ≤ 1048576
theorem TmIRes.no {c : Int} {w w' : World} (hE : Ext w w') : TmIRes (noTm, [], c) w (.returned (.tuple #[.agg #[.int .i64 0, .slice none 0 0], .slice none 0 0, .int .i64 c])) w' :=
  ⟨_, [], _, [], rfl, hE, noTm_own _, by simp, OI_nil _, by simp, by simp, Nat.zero_le _, Nat.zero_le _⟩
def restrS (vs : List Int) (L : List RelD) (k : Nat) : List RelD := (L.take k).map (restrR vs)
theorem restrS_succ {vs : List Int} {L : List RelD} {k : Nat} (hk : k < L.length) : restrS vs L (k + 1) = restrS vs L k ++ [restrR vs L[k]] := by
  unfold restrS
  rw [List.take_succ_eq_append_getElem hk, List.map_append]
  rfl
theorem restrS_le (vs : List Int) (L : List RelD) (k : Nat) : (restrS vs L k).length ≤ L.length := by
  unfold restrS
  rw [List.length_map, List.length_take]
  omega
theorem restrS_all {vs : List Int} {L : List RelD} {k : Nat} (hk : L.length ≤ k) : restrS vs L k = L.map (restrR vs) := by unfold restrS; rw [List.take_of_length_le hk]
theorem mkII_sub : ∀ (L : List (List Int)) (p : List Int → Bool), mkII (L.filter p) ≤ mkII L
  | [], _ => Nat.le_refl _
  | x :: xs, p => by
    have ih := mkII_sub xs p
    by_cases h : p x = true
    · rw [List.filter_cons_of_pos h]; simp only [mkII]; omega
    · rw [List.filter_cons_of_neg h]; simp only [mkII]; omega
theorem mkII_tell (vs : List Int) : ∀ L : List (List Int), mkII (L.map (tellT vs)) = mkII L
  | [] => rfl
  | x :: xs => by rw [List.map_cons]; simp only [mkII, tellT_length]; rw [mkII_tell vs xs]
theorem mkRelS_restr (vs : List Int) : ∀ L : List RelD, mkRelS (L.map (restrR vs)) ≤ mkRelS L
  | [] => Nat.le_refl _
  | r :: rs => by
    have ih := mkRelS_restr vs rs
    have h : mkRel (restrR vs r) ≤ mkRel r := by
      show mkII (restrL vs r.2) ≤ mkII r.2
      have := mkII_sub (r.2.map (tellT vs)) fun x => !hasI x (-1)
      rw [mkII_tell] at this
      exact this
    rw [List.map_cons]
    simp only [mkRelS]
    omega
theorem len_le_mkII : ∀ {L : List (List Int)} {t : List Int}, t ∈ L → t.length ≤ mkII L
  | x :: xs, t, h => by
    simp only [mkII]
    rcases List.mem_cons.1 h with rfl | h
    · omega
    · have := len_le_mkII h; omega
theorem rel_bounds {r : RelD} (h : szRel r ≤ 1048576) : r.2.length ≤ 1048576 ∧ ∀ t ∈ r.2, t.length ≤ 1048576 := by
  have h2 : szII r.2 ≤ 1048576 := h
  rw [szII_eq] at h2
  exact ⟨by omega, fun t ht => by have := len_le_mkII ht; omega⟩
theorem mkTm_inside (vs : List Int) (t : TmD) : mkTm (insideT vs t) ≤ szTm t := Nat.le_trans (mkRelS_restr vs t.2) (mkTm_le t)

set_option maxHeartbeats 8000000 in
set_option maxRecDepth 100000 in
theorem implCoreOf_any (t : TmD) (v : Value) (w : World) (hr : RdTm w v t) (hz : szTm t ≤ 1048576) :
    Calls Tryz.prog 30 #[v] w (TmIRes (SCoreOf t) w) := by
  obtain ⟨tv, rfl, hr'⟩ := hr
  obtain ⟨ta, tc, rfl⟩ := hr'.form
  have hr : RdTm w _ t := ⟨_, rfl, hr'⟩
  have hE1 : Ext w ((w.alloc (.cells #[.int .i64 t.1, .slice ta t.2.length tc] 24)).alloc (.cells #[.int .i64 0, .slice none 0 0] 24)) := ((Ext.refl' w).alloc (Nat.le_refl _) _).alloc (by simp) _
  cases h1 : SValidTemplate t with
  | false =>
    rw [core_1 h1]
    go_enter Tryz.func30, Tryz.ntmps30
    go_wp2_with fail
    refine (implValidTemplate_ok t _ _ (hr.ext hE1)).mono ?_
    rintro e w1 ⟨rfl, hE⟩
    rw [h1]
    have d0 := hE.cell (p := ⟨w.heap.size + 1, 0, none⟩) (v := .int .i64 0) (by simp [go_sem])
    have d1 := hE.cell (p := ⟨w.heap.size + 1, 1, none⟩) (v := .slice none 0 0) (by simp [go_sem])
    have f2 := hE.frozen (p := ⟨w.heap.size + 1, 0, none⟩) (by simp)
    have f3 := hE.frozen (p := ⟨w.heap.size + 1, 1, none⟩) (by simp)
    simp [go_sem] at f2 f3
    have c0 := hE.cell (p := ⟨w.heap.size, 0, none⟩) (v := .int .i64 t.1) (by simp [go_sem])
    have c1 := hE.cell (p := ⟨w.heap.size, 1, none⟩) (v := .slice ta t.2.length tc) (by simp [go_sem])
    replace hE := hE1.tr hE
    go_wp2_with fail
    exact bodyPost_ret (v := .tuple #[.agg #[.int .i64 0, .slice none 0 0], .slice none 0 0, .int .i64 1]) (by simp [results, Tryz.results30, go_sem, d0, d1]) rfl (TmIRes.no ((hE.setCell (by simp <;> omega) _).setCell (by simp <;> omega) _))
  | true =>
    rw [core_0 h1]
    have htb := valid_tm_size h1
    have hmkb : mkTm (insideT (coreV t) t) ≤ 1048576 := Nat.le_trans (mkTm_inside _ t) hz
    have HN := Lib.hid (count_eq t.1 t.1 htb.1 htb.2 htb.1 htb.2)
    have hN3 : count t.1 t.1 ≤ 256 := by have := HN.out; have := powW_small t.1 t.1 htb.1 htb.2 htb.1 htb.2; omega
    have H1 := Lib.hid h1
    have hlen6 := valid_tm_len h1
    have HCV := Lib.hid (show coreV t = coreAt t (count t.1 t.1) from rfl)
    go_enter Tryz.func30, Tryz.ntmps30
    go_wp2_with fail
    refine (implValidTemplate_ok t _ _ (hr.ext hE1)).mono ?_
    rintro e w1 ⟨rfl, hE⟩
    rw [h1]
    have d0 := hE.cell (p := ⟨w.heap.size + 1, 0, none⟩) (v := .int .i64 0) (by simp [go_sem])
    have d1 := hE.cell (p := ⟨w.heap.size + 1, 1, none⟩) (v := .slice none 0 0) (by simp [go_sem])
    have f2 := hE.frozen (p := ⟨w.heap.size + 1, 0, none⟩) (by simp)
    have f3 := hE.frozen (p := ⟨w.heap.size + 1, 1, none⟩) (by simp)
    simp [go_sem] at f2 f3
    have c0 := hE.cell (p := ⟨w.heap.size, 0, none⟩) (v := .int .i64 t.1) (by simp [go_sem])
    have c1 := hE.cell (p := ⟨w.heap.size, 1, none⟩) (v := .slice ta t.2.length tc) (by simp [go_sem])
    replace hE := hE1.tr hE
    clear h1
    have q1 := hE.size
    have hA1 : Ext w1 (w1.alloc (.cells #[] 2)) := (Ext.refl' w1).alloc (Nat.le_refl _) _
    have e0 := hA1.cell c0
    clear hA1
    go_wp2_with fail
    refine (power_any _ _ _ (by omega)).mono ?_
    rintro e w2 ⟨rfl, rfl⟩
    rw [← HN.out]
    go_wp2_with fail
    go_loopw [5, 22] (fun b i wr => ∃ (k : Nat) (fp : List Nat), k ≤ count t.1 t.1 ∧ i = .int .i64 (k : Nat) ∧ Ext w1 wr ∧ OI wr b (coreAt t k) fp ∧ ∀ g ∈ fp, w1.heap.size ≤ g) (fun _ i _ => count t.1 t.1 - (intOf i).toNat)
    case atStart => exact ⟨0, _, by omega, rfl, (Ext.refl' w1).alloc (Nat.le_refl _) _, ⟨World.ownsRow_made w1 #[] 0 (Nat.zero_le _) (by decide) rfl, rfl⟩, by simp [Value.ownBlock]⟩
    case round =>
      obtain ⟨k, fp, hk, rfl, hE2, ho, hfp⟩ := hrel
      obtain ⟨oa, oc, rfl⟩ := ho.form
      have b0 := hE2.cell c0
      have b1 := hE2.cell c1
      have q2 := hE2.size
      by_cases hkl : k < count t.1 t.1
      · have hks : (k : Int) < (count t.1 t.1 : Int) := by omega
        have hdl := digs_length t.1 t.1.toNat k
        have hdv := Lib.hid (map_vals H1.out H1.out k)
        have HY := Lib.hid (fun (h : isMapS t t (digs t.1 t.1.toNat k) = true) (h2 : (coreAt t k).length = 0 ∨ (riseL (digs t.1 t.1.toNat k)).length < (coreAt t k).length) => (show coreAt t (k + 1) = riseL (digs t.1 t.1.toNat k) from coreStep_yes h h2))
        have HNo := Lib.hid (fun (h : isMapS t t (digs t.1 t.1.toNat k) = false ∨ ¬ ((coreAt t k).length = 0 ∨ (riseL (digs t.1 t.1.toNat k)).length < (coreAt t k).length)) => (show coreAt t (k + 1) = coreAt t k from coreStep_no h))
        have hdg := listOf_any t.1 t.1 k wr (by omega) (by omega) htb.1 (by omega) (by omega) (by omega)
        have hl4 : 0 < (digs t.1 t.1.toNat k).length ∧ (digs t.1 t.1.toNat k).length ≤ 4 := by omega
        clear hdl
        generalize digs t.1 t.1.toNat k = D at hdg hdv HY HNo hl4
        go_wp2_with fail
        refine hdg.mono ?_
        rintro e w3 ⟨u, fu, rfl, hE3, hu, hfu⟩
        obtain ⟨ua, uc, rfl⟩ := hu.form
        go_wp2_with fail
        refine (rising_any D _ _ hu.rd hl4.1 (by omega)).mono ?_
        rintro e w4 ⟨x, fx, rfl, hE4, hx, hfx⟩
        have hRl := riseL_length D
        generalize riseL D = R at hx HY HNo hRl
        obtain ⟨xa, xc, rfl⟩ := hx.form
        have hE5 := hE2.tr (hE3.tr hE4)
        have g0 := hE5.cell c0
        have g1 := hE5.cell c1
        go_wp2_with fail
        refine (isMap_any t _ t _ D _ _ ((hr.ext hE).ext hE5) ((hr.ext hE).ext hE5) (hu.rd.ext hE4) H1.out H1.out rfl hdv.out hz).mono ?_
        rintro e w5 ⟨rfl, hE6⟩
        replace ho := ((ho.ext hE3).ext hE4).ext hE6
        replace hx := hx.ext hE6
        have hE7 := hE5.tr hE6
        have q3 := hE3.size
        have q4 := hE4.size
        generalize coreAt t k = C at ho HY HNo
        cases hm : isMapS t t D with
        | false =>
          have HK := Lib.hid (HNo.out (.inl hm))
          clear hm
          go_wp2_with fail
          go_roundw
          case rel => exact ⟨k + 1, fp, by omega, by go_num, hE7, by rw [HK.out]; exact ho, hfp⟩
          case measure => simp [intOf]; omega
        | true =>
          by_cases hz0 : C.length = 0
          · have hb : ((C.length : Int) == 0) = true := by simp [hz0]
            have HK := Lib.hid (HY.out hm (.inl hz0))
            clear hm
            go_wp2_with fail
            go_roundw
            case rel => exact ⟨k + 1, fx, by omega, by go_num, hE7, by rw [HK.out]; exact hx, fun g hg => by have := hfx g hg; omega⟩
            case measure => simp [intOf]; omega
          · have hb : ((C.length : Int) == 0) = false := by simp; exact fun h => hz0 (by simp [h])
            by_cases hlt : R.length < C.length
            · have hlt2 : (R.length : Int) < (C.length : Int) := by omega
              have HK := Lib.hid (HY.out hm (.inr hlt))
              clear hm
              go_wp2_with fail
              go_roundw
              case rel => exact ⟨k + 1, fx, by omega, by go_num, hE7, by rw [HK.out]; exact hx, fun g hg => by have := hfx g hg; omega⟩
              case measure => simp [intOf]; omega
            · have HK := Lib.hid (HNo.out (.inr (by rintro (h | h); exact hz0 h; exact hlt h)))
              clear hm
              have hlt2 : ¬ ((R.length : Int) < (C.length : Int)) := by omega
              go_wp2_with fail
              go_roundw
              case rel => exact ⟨k + 1, fp, by omega, by go_num, hE7, by rw [HK.out]; exact ho, hfp⟩
              case measure => simp [intOf]; omega
      · have hkk : k = count t.1 t.1 := by omega
        subst hkk
        have ho2 : OI wr (.slice oa (coreAt t (count t.1 t.1)).length oc) (coreV t) fp := ho
        have hvl : (coreAt t (count t.1 t.1)).length ≤ 4 := by have := coreAt_len t (count t.1 t.1); omega
        have hrw := (hr'.ext hE).ext hE2
        rename World => wo
        obtain ⟨_, b, off, cap, ts, hsl, hlc, hcm, ha, hc⟩ := hrw
        simp only [Value.slice.injEq] at hsl
        obtain ⟨rfl, -, rfl⟩ := hsl
        have HC := Lib.hid hc
        have HZ := Lib.hid (show ∀ r ∈ t.2, r.2.length ≤ 1048576 ∧ ∀ x ∈ r.2, x.length ≤ 1048576 from fun r hr => rel_bounds (Nat.le_trans (szRel_le hr) hz))
        clear hc ho
        have hAT : Ext wo (wo.alloc (.cells #[.int .i64 ((coreAt t (count t.1 t.1)).length : Nat), .slice none 0 0] 24)) := (Ext.refl' wo).alloc (Nat.le_refl _) _
        have b2 := hAT.cell b1
        clear hAT
        go_wp2_with fail
        go_loopw [57] (fun i wr => ∃ (k : Nat) (tv : Value) (fp2 : List Nat), k ≤ t.2.length ∧ i = .int .i64 (k : Nat) ∧ AccR wo wr wo.heap.size (wo.heap.size + 1) ((coreAt t (count t.1 t.1)).length : Nat) (restrS (coreV t) t.2 k) tv fp2) (fun i _ => t.2.length - (intOf i).toNat)
        case atStart =>
          refine ⟨0, .slice none 0 0, [], by omega, rfl, ⟨(Ext.refl' wo).alloc (Nat.le_refl _) _, OwnL.nil _, by simp, by simp, by omega, Nat.le_refl _, ?_, ?_, ?_⟩⟩ <;> simp [go_sem]
        case round =>
          obtain ⟨k, tv, fp2, hk, rfl, hA⟩ := hrel
          have hfp2 := hA.ho.lt
          obtain ⟨xa, xc, rfl⟩ := hA.ho.form
          have hEo := hA.hE
          by_cases hkl : k < t.2.length
          · obtain rfl := ha (by omega)
            obtain ⟨k1, k2, k3⟩ := HC.out k hkl
            have hzz := HZ.out t.2[k] (List.getElem_mem hkl)
            replace k1 := hEo.cell k1
            replace k2 := hEo.cell k2
            replace k3 := k3.ext hEo
            have HS := Lib.hid (restrS_succ (vs := coreV t) hkl)
            have hle := restrS_le (coreV t) t.2 k
            generalize ts k = y at k2 k3
            generalize t.2[k] = R at k1 k3 HS hzz
            obtain ⟨ya, yc, rfl⟩ := k3.form
            have hAA : Ext wr (wr.alloc (.cells #[.int .i64 R.1, .slice ya R.2.length yc] 35)) := (Ext.refl' wr).alloc (Nat.le_refl _) _
            have z0 : (wr.alloc (.cells #[.int .i64 R.1, .slice ya R.2.length yc] 35)).cell? ⟨wr.heap.size, 0, none⟩ = some (.int .i64 R.1) := by simp [go_sem]
            have z1 : (wr.alloc (.cells #[.int .i64 R.1, .slice ya R.2.length yc] 35)).cell? ⟨wr.heap.size, 1, none⟩ = some (.slice ya R.2.length yc) := by simp [go_sem]
            have hRd : RdRel (wr.alloc (.cells #[.int .i64 R.1, .slice ya R.2.length yc] 35)) (.agg #[.int .i64 R.1, .slice ya R.2.length yc]) R := ⟨_, rfl, k3.ext hAA⟩
            have hvs := ((ho2.ext hEo).ext hAA).rd
            have hA2 := hA.ext hAA
            have a0 := hA2.c0
            have a1 := hA2.c1
            have hqB : wr.heap.size ≤ (wr.alloc (.cells #[.int .i64 R.1, .slice ya R.2.length yc] 35)).heap.size := hAA.size
            have hB := hA.hB
            clear hA hAA
            go_wp2_with fail
            go_wp2_with fail
            refine region_sp [] [6, 7, 8] [SP.val (.pointer (some ⟨wo.heap.size, 1, none⟩)), SP.val (.slice xa (restrS (coreV t) t.2 k).length xc), SP.val (.agg #[.int .i64 R.1, .slice ya R.2.length yc]), SP.val (.slice oa (coreAt t (count t.1 t.1)).length oc), SP.relF wr.heap.size (restrR (coreV t) R), SP.rowRelF wr.heap.size (restrR (coreV t) R), SP.any, SP.any, SP.any] (by kernel_rfl) (fun _ d _ _ _ h => by cases d <;> exact h) (by kernel_rfl) (by kernel_rfl)
              (.cons (fun vs y hY => Step.fieldAddr ⟨wo.heap.size, 0, none⟩ rfl rfl rfl (by simp [go_sem]) rfl) <|
               .cons (fun vs y hY g0_0 => Step.load ⟨wo.heap.size, 1, none⟩ rfl rfl g0_0 (by simp [go_sem, hY.cell a1]) rfl) <|
               .cons (fun vs y hY => Step.load ⟨wr.heap.size, 0, none⟩ rfl rfl rfl (by simp [go_sem, hY.cell z0, hY.cell z1]) rfl) <|
               .cons (fun vs y hY => Step.move rfl rfl rfl rfl) <|
               .cons (fun vs y hY g2_0 g3_1 => Step.call Tryz.call80 rfl rfl [vs 2, vs 3] rfl rfl (by rw [show vs 2 = _ from g2_0, show vs 3 = _ from g3_1]; exact ((restricted_any R _ (coreV t) _ _ (hRd.ext hY) (hvs.ext hY) hzz.1 hzz.2).mono fun _ _ ⟨u, fp, h1, h2, h3, h4⟩ => ⟨u, h1, h2, fp, h3, fun g hg => Nat.le_trans (Nat.le_trans hqB hY.size) (h4 g hg)⟩))) <|
               .cons (fun vs y hY g4_0 => Step.rowRelF (e := 35) rfl rfl g4_0 (by intros; simp [go_sem])) <|
               .skip rfl <|
               .skip rfl <|
               .skip rfl <|
               .nil) ?_
            intro vs w3 hC hL
            have r0 : vs 0 = _ := hL 0 (by decide) rfl
            have r1 : vs 1 = _ := hL 1 (by decide) rfl
            have r2 : vs 2 = _ := hL 2 (by decide) rfl
            have r3 : vs 3 = _ := hL 3 (by decide) rfl
            have r4 := hL 4 (by decide) rfl
            have r5 := hL 5 (by decide) rfl
            clear hL
            simp only [putAll, Act.put, List.contains_cons, List.contains_nil, Nat.reduceBEq, Nat.reduceAdd, Bool.or_false, Bool.or_true, cond_true, cond_false, List.setIfInBounds_toArray, List.set_cons_succ, List.set_cons_zero, List.filterMap_cons, List.filterMap_nil, List.getElem?_cons_succ, List.getElem?_cons_zero, r0, r1, r2, r3]
            clear r0 r1 r2 r3
            obtain ⟨b', u, fx, r5, y0, y1, hx, hfx⟩ := r5
            replace hA2 := hA2.ext hC
            clear a0 a1
            refine AccR.append hA2 hx (fun g hg => by have := hfx g hg; omega) (fun g hg hm => by have := hfx g hg; have := hfp2 g hm; omega) (by omega) (b' := b') (u := u) y0 y1 rfl (.tmp 62) (.tmp 66) rfl rfl r5 ?_
            rintro v' w4 fp' k3 k4 hA4 ⟨xa', xc', rfl⟩
            rw [← HS.out] at hA4
            go_wp2_with fail
            go_roundw
            case rel => exact ⟨k + 1, _, fp', by omega, by go_num, hA4⟩
            case measure => simp [intOf]; omega
          · have hTe : restrS (coreV t) t.2 k = t.2.map (restrR (coreV t)) := restrS_all (by omega)
            have hoT : OwnTm wr (.agg #[.int .i64 ((coreAt t (count t.1 t.1)).length : Nat), .slice xa (restrS (coreV t) t.2 k).length xc]) (insideT (coreV t) t) fp2 := ⟨_, rfl, hTe ▸ hA.ho⟩
            have hE9 := hE2.tr hEo
            have hfp3 := hA.hfp
            have hfpw := ho2.lt
            replace ho2 := ho2.ext hEo
            have a0 := hA.c0
            have a1 := hA.c1
            have q0 : w.heap.size + 1 < w1.heap.size := lt_of_cell d0
            replace f2 : _ = false := (hE9.frozen (lt_of_cell d0)).trans f2
            replace f3 : _ = false := (hE9.frozen (lt_of_cell d1)).trans f3
            replace d0 := hE9.cell d0
            replace d1 := hE9.cell d1
            clear hTe hA
            go_wp2_with fail
            exact bodyPost_ret (v := .tuple #[.agg #[.int .i64 ((coreAt t (count t.1 t.1)).length : Nat), .slice xa (restrS (coreV t) t.2 k).length xc], .slice oa (coreAt t (count t.1 t.1)).length oc, .int .i64 0]) (by simp [results, Tryz.results30, go_sem, d0, d1]) rfl
              ⟨_, fp2, _, fp, rfl, ((hE.tr hE9).setCell (by simp <;> omega) _).setCell (by simp <;> omega) _, hoT.off ((Off.set (fp := [w.heap.size + 1]) (by simp)).trans (Off.set (by simp))) (fun h hh hm => by have := hfp3 h hh; simp at hm; omega), (fun h hh => by have := hfp3 h hh; omega), ho2.off ((Off.set (fp := [w.heap.size + 1]) (by simp)).trans (Off.set (by simp))) (fun h hh hm => by have := hfp h hh; simp at hm; omega), (fun h hh => by have := hfp h hh; omega), (fun g hg hm => by have := hfp3 g hg; have := hfpw g hm; omega), hmkb, (show (coreAt t (count t.1 t.1)).length ≤ 1048576 by omega)⟩
end Go.Proofs.YtajkepdfemdagaaGreatDoor
namespace Go.Proofs.YtajkepdfemdagaaGreatDoor
open Go.RowKit
set_option linter.unusedVariables false

set_option maxHeartbeats 8000000 in
set_option maxRecDepth 100000 in
theorem l01Core_any (t : TmD) (v : Value) (w : World) (hr : PtTm w v t) (h1 : SValidTemplate t = true) :
    Calls Tryz.prog 81 #[v] w fun e w' => ∃ u fp, e = .returned u ∧ Ext w w' ∧ OI w' u (coreV t) fp ∧ ∀ g ∈ fp, w.heap.size ≤ g := by
  obtain ⟨pb, po, tv, rfl, c0, c1, hr'⟩ := hr
  have hr : PtTm w (.pointer (some ⟨pb, po, none⟩)) t := ⟨pb, po, tv, rfl, c0, c1, hr'⟩
  have htb := valid_tm_size h1
  have HN := Lib.hid (count_eq t.1 t.1 htb.1 htb.2 htb.1 htb.2)
  have hN3 : count t.1 t.1 ≤ 256 := by have := HN.out; have := powW_small t.1 t.1 htb.1 htb.2 htb.1 htb.2; omega
  have H1 := Lib.hid h1
  have HCV := Lib.hid (show coreV t = coreAt t (count t.1 t.1) from rfl)
  clear h1
  go_enter Tryz.func81, Tryz.ntmps81
  go_wp2_with fail
  go_loopw [3, 4] (fun b i wr => ∃ (k : Nat) (fp : List Nat), k ≤ count t.1 t.1 ∧ i = .int .i64 (k : Nat) ∧ Ext w wr ∧ OI wr b (coreAt t k) fp ∧ ∀ g ∈ fp, w.heap.size ≤ g) (fun _ i _ => count t.1 t.1 - (intOf i).toNat)
  case atStart => exact ⟨0, _, by omega, rfl, (Ext.refl' w).alloc (Nat.le_refl _) _, ⟨World.ownsRow_made w #[] 0 (Nat.zero_le _) (by decide) rfl, rfl⟩, by simp [Value.ownBlock]⟩
  case round =>
    obtain ⟨k, fp, hk, rfl, hE2, ho, hfp⟩ := hrel
    obtain ⟨oa, oc, rfl⟩ := ho.form
    replace c0 := hE2.cell c0
    replace c1 := hE2.cell c1
    have q2 := hE2.size
    by_cases hkl : k < count t.1 t.1
    · have hks : (k : Int) < (count t.1 t.1 : Int) := by omega
      go_wp2_with fail
      go_wp2_with fail
      refine region_sp [] [] [SP.val (.int .i64 (k : Nat)), SP.val (.pointer (some ⟨pb, po, none⟩)), SP.val (.pointer (some ⟨pb, po, none⟩)), SP.val (.pointer (some ⟨pb, po, none⟩)), SP.val (.int .i64 t.1), SP.val (.pointer (some ⟨pb, po, none⟩)), SP.val (.pointer (some ⟨pb, po, none⟩)), SP.val (.pointer (some ⟨pb, po, none⟩)), SP.val (.int .i64 t.1), SP.val (.int .i64 (count t.1 t.1 : Nat)), SP.val (.bool true)] (by kernel_rfl) (fun _ d _ _ _ h => by cases d <;> exact h) (by kernel_rfl) (by kernel_rfl)
        (.cons (fun vs y hY => Step.move rfl rfl rfl rfl) <|
         .cons (fun vs y hY => Step.move rfl rfl rfl rfl) <|
         .cons (fun vs y hY g1_0 => Step.nilCheck rfl rfl g1_0 rfl) <|
         .cons (fun vs y hY g2_0 => Step.fieldAddr ⟨pb, po, none⟩ rfl rfl g2_0 (by simp [go_sem]) rfl) <|
         .cons (fun vs y hY g3_0 => Step.load ⟨pb, po, none⟩ rfl rfl g3_0 (by simp [go_sem, hY.cell c0]) rfl) <|
         .cons (fun vs y hY => Step.move rfl rfl rfl rfl) <|
         .cons (fun vs y hY g5_0 => Step.nilCheck rfl rfl g5_0 rfl) <|
         .cons (fun vs y hY g6_0 => Step.fieldAddr ⟨pb, po, none⟩ rfl rfl g6_0 (by simp [go_sem]) rfl) <|
         .cons (fun vs y hY g7_0 => Step.load ⟨pb, po, none⟩ rfl rfl g7_0 (by simp [go_sem, hY.cell c0]) rfl) <|
         .cons (fun vs y hY g4_0 g8_1 => Step.call Tryz.call89 rfl rfl [vs 4, vs 8] rfl rfl (by rw [show vs 4 = _ from g4_0, show vs 8 = _ from g8_1]; exact ((l01Power_any _ _ _ (by omega) (by omega)).mono fun _ _ ⟨he, hw⟩ => ⟨_, he, hw ▸ Ext.refl_ _, (by show Value.int .i64 _ = Value.int .i64 _; rw [HN.out])⟩))) <|
         .cons (fun vs y hY g0_0 g9_1 => Step.bin (u := .int .i64 (k : Nat)) (v := .int .i64 (count t.1 t.1 : Nat)) rfl rfl g0_0 g9_1 (by simp [go_sem, hks]) rfl) <|
         .nil) ?_
      intro vs w3 hC hL
      have r0 : vs 0 = _ := hL 0 (by decide) rfl
      have r1 : vs 1 = _ := hL 1 (by decide) rfl
      have r2 : vs 2 = _ := hL 2 (by decide) rfl
      have r3 : vs 3 = _ := hL 3 (by decide) rfl
      have r4 : vs 4 = _ := hL 4 (by decide) rfl
      have r5 : vs 5 = _ := hL 5 (by decide) rfl
      have r6 : vs 6 = _ := hL 6 (by decide) rfl
      have r7 : vs 7 = _ := hL 7 (by decide) rfl
      have r8 : vs 8 = _ := hL 8 (by decide) rfl
      have r9 : vs 9 = _ := hL 9 (by decide) rfl
      have r10 : vs 10 = _ := hL 10 (by decide) rfl
      clear hL
      simp only [putAll, Act.put, List.contains_nil, cond_false, List.setIfInBounds_toArray, List.set_cons_succ, List.set_cons_zero, List.filterMap_nil, r0, r1, r2, r3, r4, r5, r6, r7, r8, r9, r10]
      clear r0 r1 r2 r3 r4 r5 r6 r7 r8 r9 r10
      replace c0 := hC.cell c0
      replace c1 := hC.cell c1
      replace ho := ho.ext hC
      have hE3 := hE2.tr hC
      have q3 := hC.size
      clear hE2 hC
      have hdl := digs_length t.1 t.1.toNat k
      have hdv := Lib.hid (map_vals H1.out H1.out k)
      have HY := Lib.hid (fun (h : isMapS t t (digs t.1 t.1.toNat k) = true) (h2 : (coreAt t k).length = 0 ∨ (riseL (digs t.1 t.1.toNat k)).length < (coreAt t k).length) => (show coreAt t (k + 1) = riseL (digs t.1 t.1.toNat k) from coreStep_yes h h2))
      have HNo := Lib.hid (fun (h : isMapS t t (digs t.1 t.1.toNat k) = false ∨ ¬ ((coreAt t k).length = 0 ∨ (riseL (digs t.1 t.1.toNat k)).length < (coreAt t k).length)) => (show coreAt t (k + 1) = coreAt t k from coreStep_no h))
      have hdg := fun w => l01Digits_any t.1 t.1 k w (by omega) (by omega) htb.1 (by omega) (by omega) (by omega)
      have hl4 : (digs t.1 t.1.toNat k).length ≤ 4 := by omega
      clear hdl
      generalize digs t.1 t.1.toNat k = D at hdg hdv HY HNo hl4
      go_wp2_with fail
      refine region_sp [] [] [SP.val (.pointer (some ⟨pb, po, none⟩)), SP.val (.pointer (some ⟨pb, po, none⟩)), SP.val (.pointer (some ⟨pb, po, none⟩)), SP.val (.int .i64 t.1), SP.val (.pointer (some ⟨pb, po, none⟩)), SP.val (.pointer (some ⟨pb, po, none⟩)), SP.val (.pointer (some ⟨pb, po, none⟩)), SP.val (.int .i64 t.1), SP.val (.int .i64 (k : Nat)), SP.ownIb w3.heap.size D, SP.ownIb w3.heap.size D] (by kernel_rfl) (fun _ d _ _ _ h => by cases d <;> exact h) (by kernel_rfl) (by kernel_rfl)
        (.cons (fun vs y hY => Step.move rfl rfl rfl rfl) <|
         .cons (fun vs y hY g0_0 => Step.nilCheck rfl rfl g0_0 rfl) <|
         .cons (fun vs y hY g1_0 => Step.fieldAddr ⟨pb, po, none⟩ rfl rfl g1_0 (by simp [go_sem]) rfl) <|
         .cons (fun vs y hY g2_0 => Step.load ⟨pb, po, none⟩ rfl rfl g2_0 (by simp [go_sem, hY.cell c0]) rfl) <|
         .cons (fun vs y hY => Step.move rfl rfl rfl rfl) <|
         .cons (fun vs y hY g4_0 => Step.nilCheck rfl rfl g4_0 rfl) <|
         .cons (fun vs y hY g5_0 => Step.fieldAddr ⟨pb, po, none⟩ rfl rfl g5_0 (by simp [go_sem]) rfl) <|
         .cons (fun vs y hY g6_0 => Step.load ⟨pb, po, none⟩ rfl rfl g6_0 (by simp [go_sem, hY.cell c0]) rfl) <|
         .cons (fun vs y hY => Step.move rfl rfl rfl rfl) <|
         .cons (fun vs y hY g3_0 g7_1 g8_2 => Step.call Tryz.call90 rfl rfl [vs 3, vs 7, vs 8] rfl rfl (by rw [show vs 3 = _ from g3_0, show vs 7 = _ from g7_1, show vs 8 = _ from g8_2]; exact ((hdg _).mono fun _ _ ⟨u, fp, he, hE, ho, hg⟩ => ⟨u, he, hE, fp, ho, fun g h => Nat.le_trans hY.size (hg g h)⟩))) <|
         .cons (fun vs y hY g9_0 g9_1 g0_2 g1_3 g2_4 g3_5 g4_6 g5_7 g6_8 g7_9 g8_10 g9_11 => Step.assign rfl rfl rfl g9_0) <|
         .nil) ?_
      intro vs w4 hC hL
      have r0 : vs 0 = _ := hL 0 (by decide) rfl
      have r1 : vs 1 = _ := hL 1 (by decide) rfl
      have r2 : vs 2 = _ := hL 2 (by decide) rfl
      have r3 : vs 3 = _ := hL 3 (by decide) rfl
      have r4 : vs 4 = _ := hL 4 (by decide) rfl
      have r5 : vs 5 = _ := hL 5 (by decide) rfl
      have r6 : vs 6 = _ := hL 6 (by decide) rfl
      have r7 : vs 7 = _ := hL 7 (by decide) rfl
      have r8 : vs 8 = _ := hL 8 (by decide) rfl
      have r9 := hL 9 (by decide) rfl
      have r10 := hL 10 (by decide) rfl
      clear hL
      simp only [putAll, Act.put, List.contains_nil, cond_false, List.setIfInBounds_toArray, List.set_cons_succ, List.set_cons_zero, List.filterMap_nil, r0, r1, r2, r3, r4, r5, r6, r7, r8]
      clear r0 r1 r2 r3 r4 r5 r6 r7 r8
      obtain ⟨fu, hu, hfu⟩ := r10
      clear r9
      replace c0 := hC.cell c0
      replace c1 := hC.cell c1
      replace ho := ho.ext hC
      have hE4 := hE3.tr hC
      have q4 := hC.size
      clear hE3 hC hdg
      go_wp2_with fail
      refine (l01Values_any D _ _ hu.rd (by omega)).mono ?_
      rintro e w5 ⟨x, fx, rfl, hE5, hx, hfx⟩
      have hRl := riseL_length D
      generalize riseL D = R at hx HY HNo hRl
      obtain ⟨xa, xc, rfl⟩ := hx.form
      replace c0 := hE5.cell c0
      replace c1 := hE5.cell c1
      replace ho := ho.ext hE5
      replace hu := hu.ext hE5
      have hE6 := hE4.tr hE5
      have q5 := hE5.size
      clear hE4 hE5
      generalize coreAt t k = C at ho HY HNo
      by_cases hz0 : C.length = 0
      · have hb : ((C.length : Int) == 0) = true := by simp [hz0]
        have HD : Hid (C.length = 0 ∨ R.length < C.length) := Lib.hid (.inl hz0)
        clear hz0
        go_wp2_with fail
        refine (l01Maps_any t _ t _ D _ _ (hr.ext hE6) (hr.ext hE6) hu.rd H1.out rfl hdv.out).mono ?_
        rintro e w6 ⟨rfl, hE7⟩
        cases hm : isMapS t t D with
        | false =>
          have HK := Lib.hid (HNo.out (.inl hm))
          clear hm
          go_wp2_with fail
          go_roundw
          case rel => exact ⟨k + 1, fp, by omega, by go_num, hE6.tr hE7, by rw [HK.out]; exact ho.ext hE7, hfp⟩
          case measure => simp [intOf]; omega
        | true =>
          have HK := Lib.hid (HY.out hm HD.out)
          clear hm
          go_wp2_with fail
          go_roundw
          case rel => exact ⟨k + 1, fx, by omega, by go_num, hE6.tr hE7, by rw [HK.out]; exact hx.ext hE7, fun g hg => by have := hfx g hg; omega⟩
          case measure => simp [intOf]; omega
      · have hb : ((C.length : Int) == 0) = false := by simp; exact fun h => hz0 (by simp [h])
        by_cases hlt : R.length < C.length
        · have hlt2 : (R.length : Int) < (C.length : Int) := by omega
          have HD : Hid (C.length = 0 ∨ R.length < C.length) := Lib.hid (.inr hlt)
          clear hz0 hlt
          go_wp2_with fail
          refine (l01Maps_any t _ t _ D _ _ (hr.ext hE6) (hr.ext hE6) hu.rd H1.out rfl hdv.out).mono ?_
          rintro e w6 ⟨rfl, hE7⟩
          cases hm : isMapS t t D with
          | false =>
            have HK := Lib.hid (HNo.out (.inl hm))
            clear hm
            go_wp2_with fail
            go_roundw
            case rel => exact ⟨k + 1, fp, by omega, by go_num, hE6.tr hE7, by rw [HK.out]; exact ho.ext hE7, hfp⟩
            case measure => simp [intOf]; omega
          | true =>
            have HK := Lib.hid (HY.out hm HD.out)
            clear hm
            go_wp2_with fail
            go_roundw
            case rel => exact ⟨k + 1, fx, by omega, by go_num, hE6.tr hE7, by rw [HK.out]; exact hx.ext hE7, fun g hg => by have := hfx g hg; omega⟩
            case measure => simp [intOf]; omega
        · have HK := Lib.hid (HNo.out (.inr (by rintro (h | h); exact hz0 h; exact hlt h)))
          have hlt2 : ¬ ((R.length : Int) < (C.length : Int)) := by omega
          go_wp2_with fail
          go_roundw
          case rel => exact ⟨k + 1, fp, by omega, by go_num, hE6, by rw [HK.out]; exact ho, hfp⟩
          case measure => simp [intOf]; omega
    · have hks : count t.1 t.1 ≤ k := by omega
      have HCK := Lib.hid (show coreAt t k = coreV t from by rw [show k = count t.1 t.1 by omega]; rfl)
      go_wp2_with fail
      go_wp2_with fail
      refine region_sp [] [] [SP.val (.int .i64 (k : Nat)), SP.val (.pointer (some ⟨pb, po, none⟩)), SP.val (.pointer (some ⟨pb, po, none⟩)), SP.val (.pointer (some ⟨pb, po, none⟩)), SP.val (.int .i64 t.1), SP.val (.pointer (some ⟨pb, po, none⟩)), SP.val (.pointer (some ⟨pb, po, none⟩)), SP.val (.pointer (some ⟨pb, po, none⟩)), SP.val (.int .i64 t.1), SP.val (.int .i64 (count t.1 t.1 : Nat)), SP.val (.bool false)] (by kernel_rfl) (fun _ d _ _ _ h => by cases d <;> exact h) (by kernel_rfl) (by kernel_rfl)
        (.cons (fun vs y hY => Step.move rfl rfl rfl rfl) <|
         .cons (fun vs y hY => Step.move rfl rfl rfl rfl) <|
         .cons (fun vs y hY g1_0 => Step.nilCheck rfl rfl g1_0 rfl) <|
         .cons (fun vs y hY g2_0 => Step.fieldAddr ⟨pb, po, none⟩ rfl rfl g2_0 (by simp [go_sem]) rfl) <|
         .cons (fun vs y hY g3_0 => Step.load ⟨pb, po, none⟩ rfl rfl g3_0 (by simp [go_sem, hY.cell c0]) rfl) <|
         .cons (fun vs y hY => Step.move rfl rfl rfl rfl) <|
         .cons (fun vs y hY g5_0 => Step.nilCheck rfl rfl g5_0 rfl) <|
         .cons (fun vs y hY g6_0 => Step.fieldAddr ⟨pb, po, none⟩ rfl rfl g6_0 (by simp [go_sem]) rfl) <|
         .cons (fun vs y hY g7_0 => Step.load ⟨pb, po, none⟩ rfl rfl g7_0 (by simp [go_sem, hY.cell c0]) rfl) <|
         .cons (fun vs y hY g4_0 g8_1 => Step.call Tryz.call89 rfl rfl [vs 4, vs 8] rfl rfl (by rw [show vs 4 = _ from g4_0, show vs 8 = _ from g8_1]; exact ((l01Power_any _ _ _ (by omega) (by omega)).mono fun _ _ ⟨he, hw⟩ => ⟨_, he, hw ▸ Ext.refl_ _, (by show Value.int .i64 _ = Value.int .i64 _; rw [HN.out])⟩))) <|
         .cons (fun vs y hY g0_0 g9_1 => Step.bin (u := .int .i64 (k : Nat)) (v := .int .i64 (count t.1 t.1 : Nat)) rfl rfl g0_0 g9_1 (by simp [go_sem, hks]) rfl) <|
         .nil) ?_
      intro vs w3 hC hL
      have r0 : vs 0 = _ := hL 0 (by decide) rfl
      have r1 : vs 1 = _ := hL 1 (by decide) rfl
      have r2 : vs 2 = _ := hL 2 (by decide) rfl
      have r3 : vs 3 = _ := hL 3 (by decide) rfl
      have r4 : vs 4 = _ := hL 4 (by decide) rfl
      have r5 : vs 5 = _ := hL 5 (by decide) rfl
      have r6 : vs 6 = _ := hL 6 (by decide) rfl
      have r7 : vs 7 = _ := hL 7 (by decide) rfl
      have r8 : vs 8 = _ := hL 8 (by decide) rfl
      have r9 : vs 9 = _ := hL 9 (by decide) rfl
      have r10 : vs 10 = _ := hL 10 (by decide) rfl
      clear hL
      simp only [putAll, Act.put, List.contains_nil, cond_false, List.setIfInBounds_toArray, List.set_cons_succ, List.set_cons_zero, List.filterMap_nil, r0, r1, r2, r3, r4, r5, r6, r7, r8, r9, r10]
      clear r0 r1 r2 r3 r4 r5 r6 r7 r8 r9 r10
      replace c0 := hC.cell c0
      replace c1 := hC.cell c1
      replace ho := ho.ext hC
      have hE3 := hE2.tr hC
      have q3 := hC.size
      clear hE2 hC
      have ho2 : OI w3 (.slice oa (coreAt t k).length oc) (coreV t) fp := by have h := ho; rw [HCK.out] at h ⊢; exact h
      clear ho
      go_wp2_with fail
      go_ret
      exact ⟨_, fp, rfl, hE3, ho2, hfp⟩

set_option maxHeartbeats 8000000 in
set_option maxRecDepth 100000 in
theorem l01Inside_any (t : TmD) (v : Value) (vs : List Int) (vv : Value) (w : World) (hr : PtTm w v t) (hvs : RdI w vv vs) (hz : szTm t ≤ 1048576) (hl6 : t.2.length ≤ 6) :
    Calls Tryz.prog 82 #[v, vv] w fun e w' => ∃ u fp, e = .returned u ∧ Ext w w' ∧ OwnTm w' u (insideT vs t) fp ∧ ∀ g ∈ fp, w.heap.size ≤ g := by
  obtain ⟨i0, hi, hz0, hz1, hz2⟩ := info_parts infoI
  obtain ⟨pb, po, tv, rfl, p0, p1, hr'⟩ := hr
  obtain ⟨a, b, off, cap, ts, rfl, hlc, hcm, ha, hc⟩ := hr'
  obtain ⟨va, vc, rfl⟩ := hvs.form
  have HC := Lib.hid hc
  have HZ := Lib.hid (show ∀ r ∈ t.2, r.2.length ≤ 1048576 ∧ ∀ x ∈ r.2, x.length ≤ 1048576 from fun r hr => rel_bounds (Nat.le_trans (szRel_le hr) hz))
  clear hc
  go_enter Tryz.func82, Tryz.ntmps82
  go_wp2_with fail
  go_loopw [6] (fun i wr => ∃ (k : Nat) (tv : Value) (fp2 : List Nat), k ≤ t.2.length ∧ i = .int .i64 (k : Nat) ∧ AccR (w.alloc (.cells #[.int .i64 0, .slice none 0 0] 24)) wr (w.heap.size + 1) (w.heap.size + 1 + 1) (vs.length : Nat) (restrS vs t.2 k) tv fp2) (fun i _ => t.2.length - (intOf i).toNat)
  case atStart =>
    refine ⟨0, .slice none 0 0, [], by omega, rfl, ⟨(Ext.refl' _).alloc (Nat.le_refl _) _, OwnL.nil _, by simp, by simp, by omega, by simp, ?_, ?_, ?_⟩⟩ <;> simp [go_sem]
  case round =>
    rename World => wo
    obtain ⟨k, tv, fp2, hk, rfl, hA⟩ := hrel
    have hE0 : Ext w (w.alloc (.cells #[.int .i64 0, .slice none 0 0] 24)) := (Ext.refl' w).alloc (Nat.le_refl _) _
    have hE : Ext w wo := hE0.tr hA.hE
    obtain ⟨xa, xc, rfl⟩ := hA.ho.form
    have q0 := hA.hB
    have p0 := hE.cell p0
    have p1 := hE.cell p1
    by_cases hkl : k < t.2.length
    · obtain rfl := ha (by omega)
      obtain ⟨k1, k2, k3⟩ := HC.out k hkl
      have hzz := HZ.out t.2[k] (List.getElem_mem hkl)
      replace k1 := hE.cell k1
      replace k2 := hE.cell k2
      replace k3 := k3.ext hE
      have HS := Lib.hid (restrS_succ (vs := vs) hkl)
      have hle := restrS_le vs t.2 k
      generalize ts k = y at k2 k3
      generalize t.2[k] = R at k1 k3 HS hzz
      obtain ⟨ya, yb, yoff, yc, el, rfl, ylc, ycm, hya, hyc⟩ := k3
      have HYC := Lib.hid hyc
      clear hyc
      go_wp2_with fail
      go_loopw [8] (fun i wr => ∃ (j : Nat) (tv : Value) (fp3 : List Nat), j ≤ R.2.length ∧ i = .int .i64 (j : Nat) ∧ AccL wo wr wo.heap.size (wo.heap.size + 1) R.1 (restrAt vs R.2 j) tv fp3) (fun i _ => R.2.length - (intOf i).toNat)
      case atStart =>
        refine ⟨0, .slice none 0 0, [], by omega, rfl, ⟨(Ext.refl' _).alloc (Nat.le_refl _) _, OII_nil _, by simp, by simp, by omega, Nat.le_refl _, ?_, ?_, ?_⟩⟩ <;> simp [go_sem]
      case round =>
        rename World => wm
        obtain ⟨j, tv, fp3, hj, rfl, hL⟩ := hrel
        have hEm := hL.hE
        have hfp3 := hL.ho.lt
        have hBm := hL.hB
        obtain ⟨za, zc, rfl⟩ := hL.ho.form
        have p0 := hEm.cell p0
        have p1 := hEm.cell p1
        have k1 := hEm.cell k1
        have k2 := hEm.cell k2
        by_cases hjl : j < R.2.length
        · obtain rfl := hya (by omega)
          obtain ⟨l1, l2⟩ := HYC.out j hjl
          replace l1 := hEm.cell l1
          replace l2 := l2.ext hEm
          have hXl := hzz.2 R.2[j] (List.getElem_mem hjl)
          have HY := Lib.hid (fun h : hasI (tellT vs R.2[j]) (-1) = false => restrAt_yes (vs := vs) hjl h)
          have HN := Lib.hid (fun h : hasI (tellT vs R.2[j]) (-1) = true => restrAt_no (vs := vs) hjl h)
          generalize el j = xx at l1 l2
          generalize R.2[j] = X at l2 hXl HY HN
          obtain ⟨ua, ub, uoff, uc, rfl, ulc, ucm, hua, huc⟩ := l2
          have HUC := Lib.hid huc
          clear huc
          have hAm : Ext wm (wm.alloc (.cells #[] 2)) := (Ext.refl' wm).alloc (Nat.le_refl _) _
          have p2 := hAm.cell p1
          have k3 := hAm.cell k2
          have l3 := hAm.cell l1
          clear hAm
          go_wp2_with fail
          go_loopw [9, 10] (fun b i wr => ∃ j : Nat, j ≤ X.length ∧ i = .int .i64 (j : Nat) ∧ Ext wm wr ∧ wr.ownsRow wm.heap.size 2 1 b (tellAt vs X j).length ((tellAt vs X j).map (Value.int .i64))) (fun _ i _ => X.length - (intOf i).toNat)
          case atStart => exact ⟨0, by omega, rfl, (Ext.refl' wm).alloc (Nat.le_refl _) _, World.ownsRow_made wm #[] 0 (Nat.le_refl _) (by decide) rfl⟩
          case round =>
            obtain ⟨i, hi2, rfl, hE2, ho⟩ := hrel
            obtain ⟨oa, ob, oc, rfl, -⟩ := own_parts ho
            have q2 := hE2.size
            have hle3 := tellAt_le vs X i
            have p1 := hE2.cell p1
            have k2 := hE2.cell k2
            have l1 := hE2.cell l1
            by_cases hil : i < X.length
            · obtain rfl := hua (by omega)
              have cj := hE2.cell (HUC.out i hil)
              have HT := Lib.hid (tellAt_succ (vs := vs) hil)
              generalize X[i] = z at cj HT
              go_wp2_with fail
              refine (l01Index_any vs _ z _ (((hvs.ext hE).ext hEm).ext hE2)).mono ?_
              rintro e w3 ⟨rfl, hE3⟩
              have hE4 := hE2.tr hE3
              have q3 := hE4.size
              have ho3 := own_ext ho hE3
              generalize idx (fun a => decide (a = z)) vs = I at HT ⊢
              go_wp2_with (at_builtin; refine wpList_append_own _ rfl _ _ 37 rfl wm.heap.size 2 i0 (.int .i64 0) 1 8 Tryz.underlying37 hi hz0 hz1 hz2 rfl (by decide) _ _ _ rfl (own_ext ho3 ((Ext.refl' w3).alloc (Nat.le_refl _) _)) ⟨w3.heap.size, 0, none⟩ 1 1 [.int .i64 I] rfl rfl (cells_one (by simp [go_sem])) (by simp [Value.oneCell']) (by unfold maxLen; omega) (by omega) (by simp; omega) ?_)
              intro v' w5 ho5 hg5 _
              have hAA : Ext w3 (w3.alloc (.cells #[.int .i64 I] 2)) := (Ext.refl' w3).alloc (Nat.le_refl _) _
              have hE5 : Ext wm w5 := (hE4.tr hAA).grown hg5 (by simp; omega) (fun h hh => (ho3.lt h hh).1)
              have ho6 : w5.ownsRow wm.heap.size 2 1 v' (tellAt vs X (i + 1)).length ((tellAt vs X (i + 1)).map (Value.int .i64)) := by rw [HT.out, List.map_append, List.length_append]; exact ho5
              clear ho ho3 hg5 hAA ho5
              go_wp2_with fail
              go_roundw
              case rel => exact ⟨i + 1, by omega, by go_num, hE5, ho6⟩
              case measure => simp [intOf]; omega
            · have HTe := Lib.hid (tellAt_all (vs := vs) (x := X) (j := i) (by omega))
              have hxO : OI wr (.slice oa (tellAt vs X i).length oc) (tellAt vs X i) _ := ⟨own_base ho (fun _ _ => Nat.zero_le _), rfl⟩
              have hfx : ∀ g ∈ (Value.slice oa (tellAt vs X i).length oc).ownBlock.toList, wm.heap.size ≤ g := fun g hg => (ho.lt g (by simpa using hg)).1
              replace HY : Hid (hasI (tellAt vs X i) (-1) = false → restrAt vs R.2 (j + 1) = restrAt vs R.2 j ++ [tellAt vs X i]) := Lib.hid (by rw [HTe.out]; exact HY.out)
              replace HN : Hid (hasI (tellAt vs X i) (-1) = true → restrAt vs R.2 (j + 1) = restrAt vs R.2 j) := Lib.hid (by rw [HTe.out]; exact HN.out)
              generalize tellAt vs X i = Z at ho hxO hfx HY HN hle3
              clear HTe
              replace hL := hL.ext hE2
              go_wp2_with fail
              refine (l00Has_any Z _ (-1) _ hxO.rd).mono ?_
              rintro e w3 ⟨rfl, hE3⟩
              replace hL := hL.ext hE3
              replace hxO := hxO.ext hE3
              cases hb : hasI Z (-1) with
              | true =>
                have HN2 := Lib.hid (HN.out hb)
                clear hb ho
                go_wp2_with fail
                go_roundw
                case rel => exact ⟨j + 1, _, fp3, by omega, by go_num, by rw [HN2.out]; exact hL⟩
                case measure => simp [intOf]; omega
              | false =>
                have HY2 := Lib.hid (HY.out hb)
                clear hb ho
                have a0 := hL.c0
                have a1 := hL.c1
                have hA7 : Ext w3 (w3.alloc (.cells #[.slice oa Z.length oc] 37)) := (Ext.refl' w3).alloc (Nat.le_refl _) _
                have hle2 := restrAt_le vs R.2 j
                have HLA := Lib.hid (show (restrAt vs R.2 j).length ≤ 1048576 by omega)
                clear hle2
                have b1 := hA7.cell a1
                go_wp2_with (at_builtin; (refine AccL.append (hL.ext hA7) (hxO.ext hA7) (fun g hg => Nat.le_trans hBm (hfx g hg)) (fun g hg hm => by have := hfx g hg; have := hfp3 g hm; omega) HLA.out (b' := w3.heap.size) (u := .slice oa Z.length oc) (by simp [go_sem]) rfl (.tmp 85) (.tmp 87) rfl rfl rfl ?_))
                intro v' w4 fp' k3 k4 hL4 xa' xc' hxe
                subst hxe
                rw [← HY2.out] at hL4
                clear hL hxO hA7 hE3
                go_wp2_with fail
                go_roundw
                case rel => exact ⟨j + 1, _, fp', by omega, by go_num, hL4⟩
                case measure => simp [intOf]; omega
        · have hRt : restrAt vs R.2 j = restrL vs R.2 := restrAt_all (by omega)
          have hA2 := hA.ext hEm
          have hfpA := hA.ho.lt
          have hfpL := hL.hfp
          have a1 := hA2.c1
          have l0 := hL.c0
          have l1 := hL.c1
          have hAB : Ext wm (wm.alloc (.cells #[.int .i64 R.1, .slice za (restrAt vs R.2 j).length zc] 35)) := (Ext.refl' wm).alloc (Nat.le_refl _) _
          have hx0 : OII wm (.slice za (restrAt vs R.2 j).length zc) (restrL vs R.2) fp3 := hRt ▸ hL.ho
          have hx : OII (wm.alloc (.cells #[.int .i64 R.1, .slice za (restrAt vs R.2 j).length zc] 35)) (.slice za (restrAt vs R.2 j).length zc) (restrR vs R).2 fp3 := hx0.ext hAB
          have a2 := hAB.cell a1
          clear hRt hA hL hx0
          go_wp2_with (at_builtin; (refine AccR.append (r := restrR vs R) (hA2.ext hAB) hx (fun g hg => by have := hfpL g hg; omega) (fun g hg hm => by have := hfpL g hg; have := hfpA g hm; omega) (by omega) (b' := wm.heap.size) (u := .slice za (restrAt vs R.2 j).length zc) (by simp [go_sem, restrR]) (by simp [go_sem]) rfl (.tmp 91) (.tmp 93) rfl rfl rfl ?_))
          intro v' w4 fp' k3 k4 hA4 xa' xc' hxe
          subst hxe
          rw [← HS.out] at hA4
          clear hA2 hx hAB
          go_wp2_with fail
          go_roundw
          case rel => exact ⟨k + 1, _, fp', by omega, by go_num, hA4⟩
          case measure => simp [intOf]; omega
    · have hTe : restrS vs t.2 k = t.2.map (restrR vs) := restrS_all (by omega)
      have hoT : OwnTm wo (.agg #[.int .i64 (vs.length : Nat), .slice xa (restrS vs t.2 k).length xc]) (insideT vs t) fp2 := ⟨_, rfl, hTe ▸ hA.ho⟩
      have hfp2 := hA.hfp
      have d0 := hA.hE.cell (p := ⟨w.heap.size, 0, none⟩) (v := .int .i64 0) (by simp [go_sem])
      have d1 := hA.hE.cell (p := ⟨w.heap.size, 1, none⟩) (v := .slice none 0 0) (by simp [go_sem])
      have f2 := hA.hE.frozen (p := ⟨w.heap.size, 0, none⟩) (by simp)
      have f3 := hA.hE.frozen (p := ⟨w.heap.size, 1, none⟩) (by simp)
      simp [go_sem] at f2 f3
      have a0 := hA.c0
      have a1 := hA.c1
      clear hTe hA
      go_wp2_with fail
      exact bodyPost_ret (v := .agg #[.int .i64 (vs.length : Nat), .slice xa (restrS vs t.2 k).length xc]) (by simp [results, Tryz.results82, go_sem, d0, d1]) rfl
        ⟨_, fp2, rfl, (hE.setCell (by simp <;> omega) _).setCell (by simp <;> omega) _, hoT.off ((Off.set (fp := [w.heap.size]) (by simp)).trans (Off.set (by simp))) (fun h hh hm => by have := hfp2 h hh; simp at hm; omega), fun h hh => by have := hfp2 h hh; omega⟩

set_option maxHeartbeats 8000000 in
set_option maxRecDepth 100000 in
theorem specCoreOf_any (t : TmD) (v : Value) (w : World) (hr : RdTm w v t) (hz : szTm t ≤ 1048576) :
    Calls Tryz.prog 31 #[v] w (TmIRes (SCoreOf t) w) := by
  obtain ⟨tv, rfl, hr'⟩ := hr
  obtain ⟨ta, tc, rfl⟩ := hr'.form
  have hE1 : Ext w ((w.alloc (.cells #[.int .i64 t.1, .slice ta t.2.length tc] 24)).alloc (.cells #[.int .i64 0, .slice none 0 0] 24)) := ((Ext.refl' w).alloc (Nat.le_refl _) _).alloc (by simp) _
  have hp : PtTm ((w.alloc (.cells #[.int .i64 t.1, .slice ta t.2.length tc] 24)).alloc (.cells #[.int .i64 0, .slice none 0 0] 24)) (.pointer (some ⟨w.heap.size, 0, none⟩)) t := ⟨_, _, _, rfl, by simp [go_sem], by simp [go_sem], hr'.ext hE1⟩
  cases h1 : SValidTemplate t with
  | false =>
    rw [core_1 h1]
    go_enter Tryz.func31, Tryz.ntmps31
    go_wp2_with fail
    refine (l01Template_any t _ _ hp).mono ?_
    rintro e w1 ⟨rfl, hE⟩
    rw [h1]
    have d0 := hE.cell (p := ⟨w.heap.size + 1, 0, none⟩) (v := .int .i64 0) (by simp [go_sem])
    have d1 := hE.cell (p := ⟨w.heap.size + 1, 1, none⟩) (v := .slice none 0 0) (by simp [go_sem])
    have f2 := hE.frozen (p := ⟨w.heap.size + 1, 0, none⟩) (by simp)
    have f3 := hE.frozen (p := ⟨w.heap.size + 1, 1, none⟩) (by simp)
    simp [go_sem] at f2 f3
    have hp1 := hp.ext hE
    replace hE := hE1.tr hE
    have q0 : w.heap.size + 1 < w1.heap.size := lt_of_cell d0
    have hE2 : Ext w ((w1.setCell ⟨w.heap.size + 1, 0, none⟩ (.int .i64 0)).setCell ⟨w.heap.size + 1, 1, none⟩ (.slice none 0 0)) := (hE.setCell (by simp <;> omega) _).setCell (by simp <;> omega) _
    have z0 : ((w1.setCell ⟨w.heap.size + 1, 0, none⟩ (.int .i64 0)).setCell ⟨w.heap.size + 1, 1, none⟩ (.slice none 0 0)).cell? ⟨w.heap.size + 1, 0, none⟩ = some (.int .i64 0) := cell_set (cell_same d0) (.inr (by simp))
    have z1 : ((w1.setCell ⟨w.heap.size + 1, 0, none⟩ (.int .i64 0)).setCell ⟨w.heap.size + 1, 1, none⟩ (.slice none 0 0)).cell? ⟨w.heap.size + 1, 1, none⟩ = some (.slice none 0 0) := cell_same (cell_set d1 (.inr (by simp)))
    have hA : Ext ((w1.setCell ⟨w.heap.size + 1, 0, none⟩ (.int .i64 0)).setCell ⟨w.heap.size + 1, 1, none⟩ (.slice none 0 0)) (((w1.setCell ⟨w.heap.size + 1, 0, none⟩ (.int .i64 0)).setCell ⟨w.heap.size + 1, 1, none⟩ (.slice none 0 0)).alloc (.cells #[] 2)) := (Ext.refl' _).alloc (Nat.le_refl _) _
    have hmd : OI (((w1.setCell ⟨w.heap.size + 1, 0, none⟩ (.int .i64 0)).setCell ⟨w.heap.size + 1, 1, none⟩ (.slice none 0 0)).alloc (.cells #[] 2)) (.slice (some ⟨w1.heap.size, 0, none⟩) 0 0) [] [w1.heap.size] := by
      have h : (((w1.setCell ⟨w.heap.size + 1, 0, none⟩ (.int .i64 0)).setCell ⟨w.heap.size + 1, 1, none⟩ (.slice none 0 0)).alloc (.cells #[] 2)).ownsRow 0 2 1 (.slice (some ⟨((w1.setCell ⟨w.heap.size + 1, 0, none⟩ (.int .i64 0)).setCell ⟨w.heap.size + 1, 1, none⟩ (.slice none 0 0)).heap.size, 0, none⟩) 0 0) 0 [] := World.ownsRow_made _ #[] 0 (Nat.zero_le _) (by decide) rfl
      simp only [World.size_setCell] at h
      exact ⟨h, rfl⟩
    have y0 := hA.cell z0
    have y1 := hA.cell z1
    replace hE2 := hE2.tr hA
    have hA0 : Ext w1 (w1.alloc (.cells #[] 2)) := (Ext.refl' w1).alloc (Nat.le_refl _) _
    have d2 := hA0.cell d0
    have d3 := hA0.cell d1
    have f4 : _ = false := (hA0.frozen (lt_of_cell d0)).trans f2
    have f5 : _ = false := (hA0.frozen (lt_of_cell d1)).trans f3
    clear hA0
    clear hA z0 z1
    go_wp2_with fail
    exact bodyPost_ret (v := .tuple #[.agg #[.int .i64 0, .slice none 0 0], .slice (some ⟨w1.heap.size, 0, none⟩) 0 0, .int .i64 1]) (by simp [results, Tryz.results31, go_sem, y0, y1]) rfl
      ⟨_, [], _, [w1.heap.size], rfl, hE2, noTm_own _, by simp, hmd, (fun h hh => by simp at hh; omega), by simp, Nat.zero_le _, Nat.zero_le _⟩
  | true =>
    rw [core_0 h1]
    have hmkb : mkTm (insideT (coreV t) t) ≤ 1048576 := Nat.le_trans (mkTm_inside _ t) hz
    have hvb : (coreV t).length ≤ 1048576 := by have h2 := coreAt_len t (count t.1 t.1); have h3 := valid_tm_size h1; show (coreAt t (count t.1 t.1)).length ≤ _; omega
    have hlen6 := valid_tm_len h1
    have H1 := Lib.hid h1
    go_enter Tryz.func31, Tryz.ntmps31
    go_wp2_with fail
    refine (l01Template_any t _ _ hp).mono ?_
    rintro e w1 ⟨rfl, hE⟩
    rw [h1]
    have d0 := hE.cell (p := ⟨w.heap.size + 1, 0, none⟩) (v := .int .i64 0) (by simp [go_sem])
    have d1 := hE.cell (p := ⟨w.heap.size + 1, 1, none⟩) (v := .slice none 0 0) (by simp [go_sem])
    have f2 := hE.frozen (p := ⟨w.heap.size + 1, 0, none⟩) (by simp)
    have f3 := hE.frozen (p := ⟨w.heap.size + 1, 1, none⟩) (by simp)
    simp [go_sem] at f2 f3
    have hp1 := hp.ext hE
    replace hE := hE1.tr hE
    clear h1
    have q0 : w.heap.size + 1 < w1.heap.size := lt_of_cell d0
    go_wp2_with fail
    refine (l01Core_any t _ _ hp1 H1.out).mono ?_
    rintro e w2 ⟨u, fu, rfl, hE2, hu, hfu⟩
    obtain ⟨ua, uc, rfl⟩ := hu.form
    go_wp2_with fail
    refine (l01Inside_any t _ (coreV t) _ _ (hp1.ext hE2) hu.rd hz hlen6).mono ?_
    rintro e w3 ⟨x, fx, rfl, hE3, hx, hfx⟩
    obtain ⟨xa, xc, rfl⟩ := hx.form
    have hult := hu.lt
    replace hu := hu.ext hE3
    have hE4 := hE2.tr hE3
    have q2 := hE2.size
    replace f2 : _ = false := (hE4.frozen (lt_of_cell d0)).trans f2
    replace f3 : _ = false := (hE4.frozen (lt_of_cell d1)).trans f3
    replace d0 := hE4.cell d0
    replace d1 := hE4.cell d1
    go_wp2_with fail
    exact bodyPost_ret (v := .tuple #[.agg #[.int .i64 (insideT (coreV t) t).1, .slice xa (insideT (coreV t) t).2.length xc], .slice ua (coreV t).length uc, .int .i64 0]) (by simp [results, Tryz.results31, go_sem, d0, d1]) rfl
      ⟨_, fx, _, fu, rfl, ((hE.tr hE4).setCell (by simp <;> omega) _).setCell (by simp <;> omega) _, hx.off ((Off.set (fp := [w.heap.size + 1]) (by simp)).trans (Off.set (by simp))) (fun h hh hm => by have := hfx h hh; simp at hm; omega), (fun h hh => by have := hfx h hh; omega), hu.off ((Off.set (fp := [w.heap.size + 1]) (by simp)).trans (Off.set (by simp))) (fun h hh hm => by have := hfu h hh; simp at hm; omega), (fun h hh => by have := hfu h hh; omega), (fun g hg hm => by have := hfx g hg; have := hult g hm; omega), hmkb, hvb⟩
end Go.Proofs.YtajkepdfemdagaaGreatDoor
