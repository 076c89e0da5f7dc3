
/- Kinds of operations, the reference's way: l02Kind and what it leans on. -/
import Derived.Test.YtefnmfdmnoednaaKindL
import Derived.Test.YtefnmfdmnoednaaOpMk
import Derived.Test.YtefnmfdmnoednaaOwn
import Derived.Test.YtefnmfdmnoednaaDep
import Derived.Test.YtefnmfdmnoednaaSetOps
namespace Go.Proofs.Ytefnmfdmnoednaa
open Go.RowKit
set_option linter.unusedVariables false

set_option maxHeartbeats 1000000 in
theorem l00Has_any (l : List Int) (v : Value) (x : Int) (w : World) (hr : RdI w v l) :
    Calls Try.prog 153 #[v, .int .i64 x] w fun e w' => e = .returned (.bool (hasI l x)) ∧ Ext w w' := by
  obtain ⟨a, b, off, c, rfl, hlc, hcm, ha, hc⟩ := hr
  go_enter Try.func153, Try.ntmps153
  go_wp2_with fail
  go_loopw [5] (fun i wr => ∃ k : Nat, k ≤ l.length ∧ i = .int .i64 k ∧ Ext w wr ∧ ∀ j (hj : j < l.length), j < k → l[j] ≠ x) (fun i _ => l.length - (intOf i).toNat)
  case atStart => exact ⟨0, by omega, rfl, Ext.refl' _, fun j _ hj => by omega⟩
  case round =>
    obtain ⟨k, hk, rfl, hE, ht⟩ := hrel
    have HT := Lib.hid ht
    clear ht
    by_cases hkl : k < l.length
    · obtain rfl := ha (by omega)
      have hck := hE.cell (hc k hkl)
      by_cases hp : l[k] = x
      · have HI := Lib.hid (show hasI l x = true from hasI_iff.2 (hp ▸ List.getElem_mem hkl))
        have hb : (l[k] == x) = true := by simp [hp]
        clear hp
        go_wp2_with fail
        go_ret
        exact ⟨ret_bool HI.out.symm, hE⟩
      · have HI := Lib.hid (show ∀ j (hj : j < l.length), j < k + 1 → l[j] ≠ x from fun j hj hjk => if h : j = k then by subst h; exact hp else HT.out j hj (by omega))
        have hb : (l[k] == x) = false := by simp [hp]
        clear hp
        go_wp2_with fail
        go_roundw
        case rel => exact ⟨k + 1, by omega, by go_num, hE, HI.out⟩
        case measure => simp [intOf]; omega
    · have HI := Lib.hid (show hasI l x = false from hasI_no.2 fun h => by
        obtain ⟨j, hj, he⟩ := List.getElem_of_mem h
        exact HT.out j hj (by omega) he)
      go_wp2_with fail
      go_ret
      exact ⟨ret_bool HI.out.symm, hE⟩
set_option maxHeartbeats 2000000 in
set_option maxRecDepth 100000 in
theorem l02FlatC_any (s : Int) (f : Int × List Int) (p : Value) (w : World) (hp : PtOp w p f) (hf : SValidOp s f = true) :
    Calls Try.prog 129 #[.int .i64 s, p, .bool true] w fun e w' => e = .returned (.bool (kConst f)) ∧ Ext w w' := by
  obtain ⟨hv1, hv2, hv3, _⟩ := valid_iff.1 hf
  have hp0 := hp
  obtain ⟨b0, o0, tv, rfl, c0, c1, hrr⟩ := hp
  obtain ⟨a, b, off, c, rfl, hlc, hcm, ha, hc⟩ := hrr
  have hl0 : 0 < f.2.length := by have := powW_small s f.1 hv1.1 hv1.2 hv2.1 (by omega); omega
  obtain rfl := ha hl0
  have hc00 : w.cell? ⟨b, off, none⟩ = some (.int .i64 f.2[0]) := by simpa using hc 0 hl0
  go_enter Try.func129, Try.ntmps129
  go_wp2_with fail
  go_loopw [7] (fun i wr => ∃ k : Nat, k ≤ f.2.length ∧ i = .int .i64 k ∧ Ext w wr ∧ ∀ j (hj : j < f.2.length), j < k → f.2[j] = f.2[0]) (fun i _ => f.2.length - (intOf i).toNat)
  case atStart => exact ⟨0, by omega, rfl, Ext.refl' _, fun j _ hj => by omega⟩
  case round =>
    obtain ⟨k, hk, rfl, hE, ht⟩ := hrel
    have HT := Lib.hid ht
    clear ht
    have c0 := hE.cell c0
    have c1 := hE.cell c1
    by_cases hkl : k < f.2.length
    · have hck := hE.cell (hc k hkl)
      have hck0 := hE.cell hc00
      have HC := Lib.hid hc
      clear hc
      by_cases he : f.2[k] = f.2[0]
      · have hb : (f.2[k] != f.2[0]) = false := by simp [he]
        have HT2 := Lib.hid (show ∀ j (hj : j < f.2.length), j < k + 1 → f.2[j] = f.2[0] from fun j hj hjn => if h : j = k then by subst h; exact he else HT.out j hj (by omega))
        clear he
        go_wp2_with fail
        go_wp2_with fail
        refine region_sp [] [] [SP.val (.pointer (some ⟨b0, o0, none⟩)), SP.val (.pointer (some ⟨b0, o0, none⟩)), SP.val (.pointer (some ⟨b0, o0 + 1, none⟩)), SP.val (.slice (some ⟨b, off, none⟩) f.2.length c), SP.val (.int .i64 (k : Nat)), SP.val (.pointer (some ⟨b, off + k, none⟩)), SP.val (.int .i64 f.2[k]), SP.val (.pointer (some ⟨b0, o0, none⟩)), SP.val (.pointer (some ⟨b0, o0, none⟩)), SP.val (.pointer (some ⟨b0, o0 + 1, none⟩)), SP.val (.slice (some ⟨b, off, none⟩) f.2.length c), SP.val (.pointer (some ⟨b, off, none⟩)), SP.val (.int .i64 f.2[0]), SP.val (.bool false)] (by kernel_rfl) (fun _ d _ _ _ h => by cases d <;> exact h) (by kernel_rfl) (by kernel_rfl)
          (.cons (fun vs y hY => Step.move rfl rfl rfl rfl) <|
           .cons (fun vs y hY g0_0 => Step.nilCheck rfl rfl g0_0 rfl) <|
           .cons (fun vs y hY g1_0 => Step.fieldAddr ⟨b0, o0, none⟩ rfl rfl g1_0 (by simp [go_sem]) rfl) <|
           .cons (fun vs y hY g2_0 => Step.load ⟨b0, o0 + 1, none⟩ rfl rfl g2_0 (by simp [go_sem, hY.cell c1]) rfl) <|
           .cons (fun vs y hY => Step.move rfl rfl rfl rfl) <|
           .cons (fun vs y hY g3_0 g4_1 => Step.indexAtP (n := .int .i64 (k : Nat)) ⟨b, off + k, none⟩ rfl rfl g3_0 g4_1 (by simp [go_sem, Instr.indexAt, Addr.add, hkl] <;> omega) rfl) <|
           .cons (fun vs y hY g5_0 => Step.load ⟨b, off + k, none⟩ rfl rfl g5_0 (by simp [go_sem, hY.cell hck]) rfl) <|
           .cons (fun vs y hY => Step.move rfl rfl rfl rfl) <|
           .cons (fun vs y hY g7_0 => Step.nilCheck rfl rfl g7_0 rfl) <|
           .cons (fun vs y hY g8_0 => Step.fieldAddr ⟨b0, o0, none⟩ rfl rfl g8_0 (by simp [go_sem]) rfl) <|
           .cons (fun vs y hY g9_0 => Step.load ⟨b0, o0 + 1, none⟩ rfl rfl g9_0 (by simp [go_sem, hY.cell c1]) rfl) <|
           .cons (fun vs y hY g10_0 => Step.indexAtP (n := .int .i64 0) ⟨b, off, none⟩ rfl rfl g10_0 rfl (by simp [go_sem, Instr.indexAt, Addr.add, hl0] <;> omega) rfl) <|
           .cons (fun vs y hY g11_0 => Step.load ⟨b, off, none⟩ rfl rfl g11_0 (by simp [go_sem, hY.cell hck0]) rfl) <|
           .cons (fun vs y hY g6_0 g12_1 => Step.bin (u := .int .i64 f.2[k]) (v := .int .i64 f.2[0]) rfl rfl g6_0 g12_1 (by simp [go_sem, hb]) rfl) <|
           .nil) ?_
        intro vs w3 hC hL
        have r0 : vs 0 = _ := hL 0 (by decide) rfl
        have r1 : vs 1 = _ := hL 1 (by decide) rfl
        have r2 : vs 2 = _ := hL 2 (by decide) rfl
        have r3 : vs 3 = _ := hL 3 (by decide) rfl
        have r4 : vs 4 = _ := hL 4 (by decide) rfl
        have r5 : vs 5 = _ := hL 5 (by decide) rfl
        have r6 : vs 6 = _ := hL 6 (by decide) rfl
        have r7 : vs 7 = _ := hL 7 (by decide) rfl
        have r8 : vs 8 = _ := hL 8 (by decide) rfl
        have r9 : vs 9 = _ := hL 9 (by decide) rfl
        have r10 : vs 10 = _ := hL 10 (by decide) rfl
        have r11 : vs 11 = _ := hL 11 (by decide) rfl
        have r12 : vs 12 = _ := hL 12 (by decide) rfl
        have r13 : vs 13 = _ := hL 13 (by decide) rfl
        clear hL
        simp only [putAll, Act.put, List.contains_nil, cond_false, List.setIfInBounds_toArray, List.set_cons_succ, List.set_cons_zero, List.filterMap_nil, r0, r1, r2, r3, r4, r5, r6, r7, r8, r9, r10, r11, r12, r13]
        clear r0 r1 r2 r3 r4 r5 r6 r7 r8 r9 r10 r11 r12 r13
        go_wp2_with fail
        go_roundw
        case rel => exact ⟨k + 1, by omega, by go_num, hE.tr hC, HT2.out⟩
        case measure => simp [intOf]; omega
      · have hb : (f.2[k] != f.2[0]) = true := by simp [he]
        have HK := Lib.hid (kConst_at k hkl he)
        clear he
        go_wp2_with fail
        go_wp2_with fail
        refine region_sp [] [] [SP.val (.pointer (some ⟨b0, o0, none⟩)), SP.val (.pointer (some ⟨b0, o0, none⟩)), SP.val (.pointer (some ⟨b0, o0 + 1, none⟩)), SP.val (.slice (some ⟨b, off, none⟩) f.2.length c), SP.val (.int .i64 (k : Nat)), SP.val (.pointer (some ⟨b, off + k, none⟩)), SP.val (.int .i64 f.2[k]), SP.val (.pointer (some ⟨b0, o0, none⟩)), SP.val (.pointer (some ⟨b0, o0, none⟩)), SP.val (.pointer (some ⟨b0, o0 + 1, none⟩)), SP.val (.slice (some ⟨b, off, none⟩) f.2.length c), SP.val (.pointer (some ⟨b, off, none⟩)), SP.val (.int .i64 f.2[0]), SP.val (.bool true)] (by kernel_rfl) (fun _ d _ _ _ h => by cases d <;> exact h) (by kernel_rfl) (by kernel_rfl)
          (.cons (fun vs y hY => Step.move rfl rfl rfl rfl) <|
           .cons (fun vs y hY g0_0 => Step.nilCheck rfl rfl g0_0 rfl) <|
           .cons (fun vs y hY g1_0 => Step.fieldAddr ⟨b0, o0, none⟩ rfl rfl g1_0 (by simp [go_sem]) rfl) <|
           .cons (fun vs y hY g2_0 => Step.load ⟨b0, o0 + 1, none⟩ rfl rfl g2_0 (by simp [go_sem, hY.cell c1]) rfl) <|
           .cons (fun vs y hY => Step.move rfl rfl rfl rfl) <|
           .cons (fun vs y hY g3_0 g4_1 => Step.indexAtP (n := .int .i64 (k : Nat)) ⟨b, off + k, none⟩ rfl rfl g3_0 g4_1 (by simp [go_sem, Instr.indexAt, Addr.add, hkl] <;> omega) rfl) <|
           .cons (fun vs y hY g5_0 => Step.load ⟨b, off + k, none⟩ rfl rfl g5_0 (by simp [go_sem, hY.cell hck]) rfl) <|
           .cons (fun vs y hY => Step.move rfl rfl rfl rfl) <|
           .cons (fun vs y hY g7_0 => Step.nilCheck rfl rfl g7_0 rfl) <|
           .cons (fun vs y hY g8_0 => Step.fieldAddr ⟨b0, o0, none⟩ rfl rfl g8_0 (by simp [go_sem]) rfl) <|
           .cons (fun vs y hY g9_0 => Step.load ⟨b0, o0 + 1, none⟩ rfl rfl g9_0 (by simp [go_sem, hY.cell c1]) rfl) <|
           .cons (fun vs y hY g10_0 => Step.indexAtP (n := .int .i64 0) ⟨b, off, none⟩ rfl rfl g10_0 rfl (by simp [go_sem, Instr.indexAt, Addr.add, hl0] <;> omega) rfl) <|
           .cons (fun vs y hY g11_0 => Step.load ⟨b, off, none⟩ rfl rfl g11_0 (by simp [go_sem, hY.cell hck0]) rfl) <|
           .cons (fun vs y hY g6_0 g12_1 => Step.bin (u := .int .i64 f.2[k]) (v := .int .i64 f.2[0]) rfl rfl g6_0 g12_1 (by simp [go_sem, hb]) rfl) <|
           .nil) ?_
        intro vs w3 hC hL
        have r0 : vs 0 = _ := hL 0 (by decide) rfl
        have r1 : vs 1 = _ := hL 1 (by decide) rfl
        have r2 : vs 2 = _ := hL 2 (by decide) rfl
        have r3 : vs 3 = _ := hL 3 (by decide) rfl
        have r4 : vs 4 = _ := hL 4 (by decide) rfl
        have r5 : vs 5 = _ := hL 5 (by decide) rfl
        have r6 : vs 6 = _ := hL 6 (by decide) rfl
        have r7 : vs 7 = _ := hL 7 (by decide) rfl
        have r8 : vs 8 = _ := hL 8 (by decide) rfl
        have r9 : vs 9 = _ := hL 9 (by decide) rfl
        have r10 : vs 10 = _ := hL 10 (by decide) rfl
        have r11 : vs 11 = _ := hL 11 (by decide) rfl
        have r12 : vs 12 = _ := hL 12 (by decide) rfl
        have r13 : vs 13 = _ := hL 13 (by decide) rfl
        clear hL
        simp only [putAll, Act.put, List.contains_nil, cond_false, List.setIfInBounds_toArray, List.set_cons_succ, List.set_cons_zero, List.filterMap_nil, r0, r1, r2, r3, r4, r5, r6, r7, r8, r9, r10, r11, r12, r13]
        clear r0 r1 r2 r3 r4 r5 r6 r7 r8 r9 r10 r11 r12 r13
        go_wp2_with fail
        go_ret
        exact ⟨ret_bool HK.out.symm, hE.tr hC⟩
    · have HK := Lib.hid (kConst_all fun j hj => HT.out j hj (by omega))
      go_wp2_with fail
      go_ret
      exact ⟨ret_bool HK.out.symm, hE⟩
set_option maxHeartbeats 2000000 in
set_option maxRecDepth 100000 in
theorem l02FlatP_any (s : Int) (f : Int × List Int) (p : Value) (w : World) (hp : PtOp w p f) (hf : SValidOp s f = true) :
    Calls Try.prog 129 #[.int .i64 s, p, .bool false] w fun e w' => e = .returned (.bool (kProj s f)) ∧ Ext w w' := by
  obtain ⟨hv1, hv2, hv3, _⟩ := valid_iff.1 hf
  have hp0 := hp
  obtain ⟨b0, o0, tv, rfl, c0, c1, hrr⟩ := hp
  obtain ⟨a, b, off, c, rfl, hlc, hcm, ha, hc⟩ := hrr
  go_enter Try.func129, Try.ntmps129
  go_wp2_with fail
  have HKK := Lib.hid (show kProj s f = anyR f.1.toNat fun p : Nat => SSameOp f (SopOf s f.1 fun l => l.getD p 0) from rfl)
  go_loopw [8] (fun i wr => ∃ k : Nat, k ≤ f.1.toNat ∧ i = .int .i64 k ∧ Ext w wr ∧ ∀ j, j < k → SSameOp f (SopOf s f.1 fun l => l.getD j 0) = false) (fun i _ => f.1.toNat - (intOf i).toNat)
  case atStart => exact ⟨0, by omega, rfl, Ext.refl' _, fun j hj => by omega⟩
  case round =>
    obtain ⟨k, hk, rfl, hE, ht⟩ := hrel
    have HT := Lib.hid ht
    clear ht
    have c0 := hE.cell c0
    have c1 := hE.cell c1
    have hp1 := hp0.ext hE
    by_cases hkl : k < f.1.toNat
    · have hkf : (k : Int) < f.1 := by omega
      go_wp2_with fail
      refine (l02Projection_any s f.1 (k : Int) _ hv1.1 hv1.2 hv2.1 (by omega) (by omega) hkf).mono ?_
      rintro e w1 ⟨u, fp, rfl, hE1, ho, hfp⟩
      rw [show (Int.toNat (k : Int)) = k from Int.toNat_natCast k] at ho
      have HY := Lib.hid (fun h : SSameOp f (SopOf s f.1 fun l => l.getD k 0) = true => HKK.out.trans (anyR_yes (p := fun p : Nat => SSameOp f (SopOf s f.1 fun l => l.getD p 0)) hkl h))
      have HN := Lib.hid (show SSameOp f (SopOf s f.1 fun l => l.getD k 0) = false → ∀ j, j < k + 1 → SSameOp f (SopOf s f.1 fun l => l.getD j 0) = false from fun h j hj => if e : j = k then by rw [e]; exact h else HT.out j (by omega))
      generalize SopOf s f.1 (fun l => l.getD k 0) = G at ho HY HN
      obtain ⟨ua, uc, rfl⟩ := ho.form
      obtain ⟨tv', htv, hrd⟩ := ho.rd
      simp only [Value.agg.injEq, Array.mk.injEq, List.cons.injEq, and_true, true_and] at htv
      subst htv
      have hA : Ext w1 (w1.alloc (.cells #[.int .i64 G.1, .slice ua G.2.length uc] 49)) := (Ext.refl' w1).alloc (Nat.le_refl _) _
      have hE2 := hE.tr (hE1.tr hA)
      have hp2 := hp1.ext (hE1.tr hA)
      have hg : PtOp (w1.alloc (.cells #[.int .i64 G.1, .slice ua G.2.length uc] 49)) (.pointer (some ⟨w1.heap.size, 0, none⟩)) G := ⟨_, _, _, rfl, by simp [go_sem], by simp [go_sem], hrd.ext hA⟩
      go_wp2_with fail
      refine (l02Same_any f G _ _ _ hp2 hg).mono ?_
      rintro e w2 ⟨rfl, hQ⟩
      have hE3 := hE2.tr hQ.ext
      rw [show decide (f = G) = SSameOp f G from rfl]
      cases hs : SSameOp f G with
      | true =>
        have HK := Lib.hid (HY.out hs)
        clear hs
        go_wp2_with fail
        go_ret
        exact ⟨ret_bool HK.out.symm, hE3⟩
      | false =>
        have HK := Lib.hid (HN.out hs)
        clear hs
        go_wp2_with fail
        go_roundw
        case rel => exact ⟨k + 1, by omega, by go_num, hE3, HK.out⟩
        case measure => simp [intOf]; omega
    · have HK := Lib.hid (HKK.out.trans (anyR_no fun j hj => HT.out j (by omega)))
      go_wp2_with fail
      go_ret
      exact ⟨ret_bool HK.out.symm, hE⟩

set_option maxHeartbeats 2000000 in
set_option maxRecDepth 100000 in
theorem l02Idempotent_any (s : Int) (f : Int × List Int) (p : Value) (w : World) (hp : PtOp w p f) (hf : SValidOp s f = true) :
    Calls Try.prog 130 #[.int .i64 s, p] w fun e w' => e = .returned (.bool (kIdem s f)) ∧ Ext w w' := by
  obtain ⟨hv1, hv2, hv3, _⟩ := valid_iff.1 hf
  have hp0 := hp
  obtain ⟨b0, o0, tv, rfl, c0, c1, hrr⟩ := hp
  obtain ⟨a, b, off, c, rfl, hlc, hcm, ha, hc⟩ := hrr
  obtain ⟨i0, hi, hz0, hz1, hz2⟩ := info_parts infoI
  obtain ⟨n, hn⟩ := Int.eq_ofNat_of_zero_le (show 0 ≤ f.1 by omega)
  obtain ⟨sn, rfl⟩ := Int.eq_ofNat_of_zero_le (show 0 ≤ s by omega)
  have hn1 : 1 ≤ n ∧ n ≤ 3 := by omega
  have HNo := Lib.hid (fun (x : Int) (hx : 0 ≤ x ∧ x < sn) (h : apply sn f (List.replicate n x) ≠ x) => kIdem_no (s := (sn : Int)) hv1.1 hv1.2 (f := f) hx (by rw [hn]; exact h))
  have HYes := Lib.hid (fun (h : ∀ x : Int, 0 ≤ x → x < sn → apply sn f (List.replicate n x) = x) => kIdem_yes (s := (sn : Int)) hv1.1 hv1.2 (f := f) (by rw [hn]; exact h))
  have HL := Lib.hid (show ∀ x : Int, ((List.replicate n x).length : Int) = f.1 from fun x => by simp [hn])
  rw [hn] at c0
  clear hc
  go_enter Try.func130, Try.ntmps130
  go_wp2_with fail
  go_loopw [5] (fun i wr => ∃ k : Nat, k ≤ sn ∧ i = .int .i64 (k : Nat) ∧ Ext w wr ∧ ∀ x : Int, 0 ≤ x → x < k → apply sn f (List.replicate n x) = x) (fun i _ => sn - (intOf i).toNat)
  case atStart => exact ⟨0, by omega, rfl, Ext.refl' _, fun x h0 h1 => by omega⟩
  case round =>
    rename World => wo
    obtain ⟨k, hk, rfl, hE, ht⟩ := hrel
    have HT := Lib.hid ht
    clear ht
    have c0 := hE.cell c0
    have hp1 := hp0.ext hE
    by_cases hkl : k < sn
    · have hks : (k : Int) < sn := by omega
      go_wp2_with fail
      go_loopw [6, 7] (fun t i wr => ∃ j : Nat, j ≤ n ∧ i = .int .i64 (j : Nat) ∧ Ext wo wr ∧ wr.ownsRow wo.heap.size 2 1 t j ((List.replicate j (k : Int)).map (Value.int .i64))) (fun _ i _ => n - (intOf i).toNat)
      case atStart => exact ⟨0, by omega, rfl, (Ext.refl' wo).alloc (Nat.le_refl _) _, World.ownsRow_made wo #[] 0 (Nat.le_refl _) (by decide) rfl⟩
      case round =>
        obtain ⟨j, hj, rfl, hE2, ho⟩ := hrel
        have c0 := hE2.cell c0
        obtain ⟨oa, ob, oc, rfl, -⟩ := own_parts ho
        have q2 := hE2.size
        by_cases hjl : j < n
        · have hA : Ext wr (wr.alloc (.cells #[.int .i64 (k : Nat)] 2)) := (Ext.refl' wr).alloc (Nat.le_refl _) _
          go_wp2_with (at_builtin; refine wpList_append_own _ rfl _ _ 34 rfl wo.heap.size 2 i0 (.int .i64 0) 1 8 Try.underlying34 hi hz0 hz1 hz2 rfl (by decide) _ _ _ rfl (own_ext ho hA) ⟨wr.heap.size, 0, none⟩ 1 1 [.int .i64 k] rfl rfl (cells_one (by simp [go_sem])) (by simp [Value.oneCell']) (by unfold maxLen; omega) (by omega) (by simp; omega) ?_)
          intro v' w5 ho5 hg5 _
          have hE5 : Ext wo w5 := (hE2.tr hA).grown hg5 (by simp; omega) (fun h hh => (ho.lt h hh).1)
          have ho6 : w5.ownsRow wo.heap.size 2 1 v' (j + 1) ((List.replicate (j + 1) (k : Int)).map (Value.int .i64)) := by rw [List.replicate_succ', List.map_append, List.map_replicate]; exact ho5
          clear ho hg5 hA ho5
          go_wp2_with fail
          go_roundw
          case rel => exact ⟨j + 1, by omega, by go_num, hE5, ho6⟩
          case measure => simp [intOf]; omega
        · have hjj : j = n := by omega
          subst hjj
          have hO : OI wr (.slice oa j oc) (List.replicate j (k : Int)) _ := ⟨by rw [List.length_replicate]; exact own_base ho (fun _ _ => Nat.zero_le _), rfl⟩
          have HV := Lib.hid (show ∀ a ∈ List.replicate j (k : Int), 0 ≤ a ∧ a < (sn : Int) from fun a ha => by rw [(List.mem_replicate.1 ha).2]; omega)
          have hE3 := hE.tr hE2
          go_wp2_with fail
          refine (l02Value_any (sn : Int) f _ _ _ _ (hp1.ext hE2) hO.rd hf (HL.out _) HV.out).mono ?_
          rintro e w6 ⟨rfl, hQ⟩
          have hE6 := hE3.tr hQ.ext
          by_cases he : apply sn f (List.replicate j (k : Int)) = k
          · have hb : (apply sn f (List.replicate j (k : Int)) != (k : Int)) = false := by simp [he]
            have HT2 := Lib.hid (show ∀ x : Int, 0 ≤ x → x < ((k + 1 : Nat) : Int) → apply sn f (List.replicate j x) = x from fun x h0 h1 => if h : x = k then by rw [h]; exact he else HT.out x h0 (by omega))
            clear he ho hO
            go_wp2_with fail
            go_roundw
            case rel => exact ⟨k + 1, by omega, by go_num, hE6, HT2.out⟩
            case measure => simp [intOf]; omega
          · have hb : (apply sn f (List.replicate j (k : Int)) != (k : Int)) = true := by simp [he]
            have HK := Lib.hid (HNo.out k (by omega) he)
            clear he
            go_wp2_with fail
            go_ret
            exact ⟨ret_bool HK.out.symm, hE6⟩
    · have HK := Lib.hid (HYes.out fun x h0 h1 => HT.out x h0 (by omega))
      go_wp2_with fail
      go_ret
      exact ⟨ret_bool HK.out.symm, hE⟩
set_option maxHeartbeats 2000000 in
set_option maxRecDepth 100000 in
theorem l02Conservative_any (s : Int) (f : Int × List Int) (p : Value) (w : World) (hp : PtOp w p f) (hf : SValidOp s f = true) :
    Calls Try.prog 131 #[.int .i64 s, p] w fun e w' => e = .returned (.bool (kCons s f)) ∧ Ext w w' := by
  obtain ⟨hv1, hv2, hv3, _⟩ := valid_iff.1 hf
  have hp0 := hp
  obtain ⟨b0, o0, tv, rfl, c0, c1, hrr⟩ := hp
  obtain ⟨a, b, off, c, rfl, hlc, hcm, ha, hc⟩ := hrr
  have hcount := valid_count hf
  have hq := powW_small s f.1 hv1.1 hv1.2 hv2.1 (by omega)
  have hlen : f.2.length ≤ 256 := by omega
  have HD := Lib.hid (show ∀ k (hk : k < f.2.length), consP s f (digs s f.1.toNat k) = hasI (digs s f.1.toNat k) f.2[k] from fun k hk => by unfold consP; rw [apply_digs hf hk])
  have HCnt := Lib.hid hcount
  clear hcount hq
  go_enter Try.func131, Try.ntmps131
  go_wp2_with fail
  go_loopw [5] (fun i wr => ∃ k : Nat, k ≤ f.2.length ∧ i = .int .i64 (k : Nat) ∧ Ext w wr ∧ ∀ j : Nat, j < k → consP s f (digs s f.1.toNat j) = true) (fun i _ => f.2.length - (intOf i).toNat)
  case atStart => exact ⟨0, by omega, rfl, Ext.refl' _, fun j hj => by omega⟩
  case round =>
    obtain ⟨k, hk, rfl, hE, ht⟩ := hrel
    have HT := Lib.hid ht
    clear ht
    have c0 := hE.cell c0
    have c1 := hE.cell c1
    by_cases hkl : k < f.2.length
    · obtain rfl := ha (by omega)
      have hck := hE.cell (hc k hkl)
      have HDk := Lib.hid (HD.out k hkl)
      have HC := Lib.hid hc
      clear hc
      cases hb : hasI (digs s f.1.toNat k) f.2[k] with
      | true =>
        have HT2 := Lib.hid (show ∀ j : Nat, j < k + 1 → consP s f (digs s f.1.toNat j) = true from fun j hj => if h : j = k then by rw [h, HDk.out]; exact hb else HT.out j (by omega))
        go_wp2_with fail
        go_wp2_with fail
        refine region_sp [] [] [SP.val (.int .i64 s), SP.val (.pointer (some ⟨b0, o0, none⟩)), SP.val (.pointer (some ⟨b0, o0, none⟩)), SP.val (.pointer (some ⟨b0, o0, none⟩)), SP.val (.int .i64 f.1), SP.val (.int .i64 (k : Nat)), SP.ownIb wr.heap.size (digs s f.1.toNat k), SP.val (.pointer (some ⟨b0, o0, none⟩)), SP.val (.pointer (some ⟨b0, o0, none⟩)), SP.val (.pointer (some ⟨b0, o0 + 1, none⟩)), SP.val (.slice (some ⟨b, off, none⟩) f.2.length c), SP.val (.int .i64 (k : Nat)), SP.val (.pointer (some ⟨b, off + k, none⟩)), SP.val (.int .i64 f.2[k]), SP.val (.bool true), SP.val (.bool false)] (by kernel_rfl) (fun _ d _ _ _ h => by cases d <;> exact h) (by kernel_rfl) (by kernel_rfl)
          (.cons (fun vs y hY => Step.move rfl rfl rfl rfl) <|
           .cons (fun vs y hY => Step.move rfl rfl rfl rfl) <|
           .cons (fun vs y hY g1_0 => Step.nilCheck rfl rfl g1_0 rfl) <|
           .cons (fun vs y hY g2_0 => Step.fieldAddr ⟨b0, o0, none⟩ rfl rfl g2_0 (by simp [go_sem]) rfl) <|
           .cons (fun vs y hY g3_0 => Step.load ⟨b0, o0, none⟩ rfl rfl g3_0 (by simp [go_sem, hY.cell c0]) rfl) <|
           .cons (fun vs y hY => Step.move rfl rfl rfl rfl) <|
           .cons (fun vs y hY g0_0 g4_1 g5_2 => Step.call Try.call116 rfl rfl [vs 0, vs 4, vs 5] rfl rfl (by rw [show vs 0 = _ from g0_0, show vs 4 = _ from g4_1, show vs 5 = _ from g5_2]; exact ((l01Digits_any _ _ _ _ (by omega) (by omega) hv1.1 (by omega) (by omega) (by omega)).mono fun _ _ ⟨u, fp, he, hE, ho, hg⟩ => ⟨u, he, hE, fp, ho, fun g h => Nat.le_trans hY.size (hg g h)⟩))) <|
           .cons (fun vs y hY => Step.move rfl rfl rfl rfl) <|
           .cons (fun vs y hY g7_0 => Step.nilCheck rfl rfl g7_0 rfl) <|
           .cons (fun vs y hY g8_0 => Step.fieldAddr ⟨b0, o0, none⟩ rfl rfl g8_0 (by simp [go_sem]) rfl) <|
           .cons (fun vs y hY g9_0 => Step.load ⟨b0, o0 + 1, none⟩ rfl rfl g9_0 (by simp [go_sem, hY.cell c1]) rfl) <|
           .cons (fun vs y hY => Step.move rfl rfl rfl rfl) <|
           .cons (fun vs y hY g10_0 g11_1 => Step.indexAtP (n := .int .i64 (k : Nat)) ⟨b, off + k, none⟩ rfl rfl g10_0 g11_1 (by simp [go_sem, Instr.indexAt, Addr.add, hkl] <;> omega) rfl) <|
           .cons (fun vs y hY g12_0 => Step.load ⟨b, off + k, none⟩ rfl rfl g12_0 (by simp [go_sem, hY.cell hck]) rfl) <|
           .cons (fun vs y hY g6_0 g13_1 g6_2 => Step.call Try.call153 rfl rfl [vs 6, vs 13] rfl rfl (by rw [show vs 13 = _ from g13_1]; exact (Calls.spe (l00Has_any _ _ _ _ (rdI_of_spb g6_0)) (by rw [hb])))) <|
           .cons (fun vs y hY g14_0 => Step.not rfl rfl g14_0 rfl) <|
           .nil) ?_
        intro vs w3 hC hL
        have r0 : vs 0 = _ := hL 0 (by decide) rfl
        have r1 : vs 1 = _ := hL 1 (by decide) rfl
        have r2 : vs 2 = _ := hL 2 (by decide) rfl
        have r3 : vs 3 = _ := hL 3 (by decide) rfl
        have r4 : vs 4 = _ := hL 4 (by decide) rfl
        have r5 : vs 5 = _ := hL 5 (by decide) rfl
        have r6 := hL 6 (by decide) rfl
        have r7 : vs 7 = _ := hL 7 (by decide) rfl
        have r8 : vs 8 = _ := hL 8 (by decide) rfl
        have r9 : vs 9 = _ := hL 9 (by decide) rfl
        have r10 : vs 10 = _ := hL 10 (by decide) rfl
        have r11 : vs 11 = _ := hL 11 (by decide) rfl
        have r12 : vs 12 = _ := hL 12 (by decide) rfl
        have r13 : vs 13 = _ := hL 13 (by decide) rfl
        have r14 : vs 14 = _ := hL 14 (by decide) rfl
        have r15 : vs 15 = _ := hL 15 (by decide) rfl
        clear hL
        simp only [putAll, Act.put, List.contains_nil, cond_false, List.setIfInBounds_toArray, List.set_cons_succ, List.set_cons_zero, List.filterMap_nil, r0, r1, r2, r3, r4, r5, r7, r8, r9, r10, r11, r12, r13, r14, r15]
        clear r0 r1 r2 r3 r4 r5 r7 r8 r9 r10 r11 r12 r13 r14 r15
        clear hb
        go_wp2_with fail
        go_roundw
        case rel => exact ⟨k + 1, by omega, by go_num, hE.tr hC, HT2.out⟩
        case measure => simp [intOf]; omega
      | false =>
        have HK := Lib.hid (show kCons s f = false from allL_false (k := k) (by rw [HCnt.out]; exact hkl) (by rw [HDk.out]; exact hb))
        go_wp2_with fail
        go_wp2_with fail
        refine region_sp [] [] [SP.val (.int .i64 s), SP.val (.pointer (some ⟨b0, o0, none⟩)), SP.val (.pointer (some ⟨b0, o0, none⟩)), SP.val (.pointer (some ⟨b0, o0, none⟩)), SP.val (.int .i64 f.1), SP.val (.int .i64 (k : Nat)), SP.ownIb wr.heap.size (digs s f.1.toNat k), SP.val (.pointer (some ⟨b0, o0, none⟩)), SP.val (.pointer (some ⟨b0, o0, none⟩)), SP.val (.pointer (some ⟨b0, o0 + 1, none⟩)), SP.val (.slice (some ⟨b, off, none⟩) f.2.length c), SP.val (.int .i64 (k : Nat)), SP.val (.pointer (some ⟨b, off + k, none⟩)), SP.val (.int .i64 f.2[k]), SP.val (.bool false), SP.val (.bool true)] (by kernel_rfl) (fun _ d _ _ _ h => by cases d <;> exact h) (by kernel_rfl) (by kernel_rfl)
          (.cons (fun vs y hY => Step.move rfl rfl rfl rfl) <|
           .cons (fun vs y hY => Step.move rfl rfl rfl rfl) <|
           .cons (fun vs y hY g1_0 => Step.nilCheck rfl rfl g1_0 rfl) <|
           .cons (fun vs y hY g2_0 => Step.fieldAddr ⟨b0, o0, none⟩ rfl rfl g2_0 (by simp [go_sem]) rfl) <|
           .cons (fun vs y hY g3_0 => Step.load ⟨b0, o0, none⟩ rfl rfl g3_0 (by simp [go_sem, hY.cell c0]) rfl) <|
           .cons (fun vs y hY => Step.move rfl rfl rfl rfl) <|
           .cons (fun vs y hY g0_0 g4_1 g5_2 => Step.call Try.call116 rfl rfl [vs 0, vs 4, vs 5] rfl rfl (by rw [show vs 0 = _ from g0_0, show vs 4 = _ from g4_1, show vs 5 = _ from g5_2]; exact ((l01Digits_any _ _ _ _ (by omega) (by omega) hv1.1 (by omega) (by omega) (by omega)).mono fun _ _ ⟨u, fp, he, hE, ho, hg⟩ => ⟨u, he, hE, fp, ho, fun g h => Nat.le_trans hY.size (hg g h)⟩))) <|
           .cons (fun vs y hY => Step.move rfl rfl rfl rfl) <|
           .cons (fun vs y hY g7_0 => Step.nilCheck rfl rfl g7_0 rfl) <|
           .cons (fun vs y hY g8_0 => Step.fieldAddr ⟨b0, o0, none⟩ rfl rfl g8_0 (by simp [go_sem]) rfl) <|
           .cons (fun vs y hY g9_0 => Step.load ⟨b0, o0 + 1, none⟩ rfl rfl g9_0 (by simp [go_sem, hY.cell c1]) rfl) <|
           .cons (fun vs y hY => Step.move rfl rfl rfl rfl) <|
           .cons (fun vs y hY g10_0 g11_1 => Step.indexAtP (n := .int .i64 (k : Nat)) ⟨b, off + k, none⟩ rfl rfl g10_0 g11_1 (by simp [go_sem, Instr.indexAt, Addr.add, hkl] <;> omega) rfl) <|
           .cons (fun vs y hY g12_0 => Step.load ⟨b, off + k, none⟩ rfl rfl g12_0 (by simp [go_sem, hY.cell hck]) rfl) <|
           .cons (fun vs y hY g6_0 g13_1 g6_2 => Step.call Try.call153 rfl rfl [vs 6, vs 13] rfl rfl (by rw [show vs 13 = _ from g13_1]; exact (Calls.spe (l00Has_any _ _ _ _ (rdI_of_spb g6_0)) (by rw [hb])))) <|
           .cons (fun vs y hY g14_0 => Step.not rfl rfl g14_0 rfl) <|
           .nil) ?_
        intro vs w3 hC hL
        have r0 : vs 0 = _ := hL 0 (by decide) rfl
        have r1 : vs 1 = _ := hL 1 (by decide) rfl
        have r2 : vs 2 = _ := hL 2 (by decide) rfl
        have r3 : vs 3 = _ := hL 3 (by decide) rfl
        have r4 : vs 4 = _ := hL 4 (by decide) rfl
        have r5 : vs 5 = _ := hL 5 (by decide) rfl
        have r6 := hL 6 (by decide) rfl
        have r7 : vs 7 = _ := hL 7 (by decide) rfl
        have r8 : vs 8 = _ := hL 8 (by decide) rfl
        have r9 : vs 9 = _ := hL 9 (by decide) rfl
        have r10 : vs 10 = _ := hL 10 (by decide) rfl
        have r11 : vs 11 = _ := hL 11 (by decide) rfl
        have r12 : vs 12 = _ := hL 12 (by decide) rfl
        have r13 : vs 13 = _ := hL 13 (by decide) rfl
        have r14 : vs 14 = _ := hL 14 (by decide) rfl
        have r15 : vs 15 = _ := hL 15 (by decide) rfl
        clear hL
        simp only [putAll, Act.put, List.contains_nil, cond_false, List.setIfInBounds_toArray, List.set_cons_succ, List.set_cons_zero, List.filterMap_nil, r0, r1, r2, r3, r4, r5, r7, r8, r9, r10, r11, r12, r13, r14, r15]
        clear r0 r1 r2 r3 r4 r5 r7 r8 r9 r10 r11 r12 r13 r14 r15
        clear hb
        go_wp2_with fail
        go_ret
        exact ⟨ret_bool HK.out.symm, hE.tr hC⟩
    · have HK := Lib.hid (show kCons s f = true from allL_true fun j hj => HT.out j (by rw [HCnt.out] at hj; omega))
      go_wp2_with fail
      go_ret
      exact ⟨ret_bool HK.out.symm, hE⟩

theorem exch_sets {l : List Int} {i : Nat} (h : i + 1 < l.length) : (l.set i l[i + 1]).set (i + 1) l[i] = exch l i := by
  unfold exch
  rw [List.getD_eq_getElem?_getD, List.getD_eq_getElem?_getD, List.getElem?_eq_getElem h, List.getElem?_eq_getElem (by omega)]
  rfl
set_option maxHeartbeats 4000000 in
set_option maxRecDepth 100000 in
theorem l02Symmetric_any (s : Int) (f : Int × List Int) (p : Value) (w : World) (hp : PtOp w p f) (hf : SValidOp s f = true) :
    Calls Try.prog 132 #[.int .i64 s, p] w fun e w' => e = .returned (.bool (kSym s f)) ∧ Ext w w' := by
  obtain ⟨hv1, hv2, hv3, _⟩ := valid_iff.1 hf
  have hp0 := hp
  obtain ⟨b0, o0, tv, rfl, c0, c1, hrr⟩ := hp
  obtain ⟨a, b, off, c, rfl, hlc, hcm, ha, hc⟩ := hrr
  have hcount := valid_count hf
  have hq := powW_small s f.1 hv1.1 hv1.2 hv2.1 (by omega)
  have hlen : f.2.length ≤ 256 := by omega
  have HAD := Lib.hid (show ∀ k (hk : k < f.2.length), apply s f (digs s f.1.toNat k) = f.2[k] from fun k hk => apply_digs hf hk)
  have HCnt := Lib.hid hcount
  clear hcount hq
  go_enter Try.func132, Try.ntmps132
  go_wp2_with fail
  go_loopw [5] (fun i wr => ∃ k : Nat, k ≤ f.2.length ∧ i = .int .i64 (k : Nat) ∧ Ext w wr ∧ ∀ j : Nat, j < k → ∀ q, q + 1 < f.1.toNat → apply s f (exch (digs s f.1.toNat j) q) = apply s f (digs s f.1.toNat j)) (fun i _ => f.2.length - (intOf i).toNat)
  case atStart => exact ⟨0, by omega, rfl, Ext.refl' _, fun j hj => by omega⟩
  case round =>
    rename World => wo
    obtain ⟨k, hk, rfl, hE, ht⟩ := hrel
    have HT := Lib.hid ht
    clear ht
    have c0 := hE.cell c0
    have c1 := hE.cell c1
    by_cases hkl : k < f.2.length
    · obtain rfl := ha (by omega)
      have hck := hE.cell (hc k hkl)
      have HADk := Lib.hid (HAD.out k hkl)
      have HC := Lib.hid hc
      clear hc
      have hp1 := hp0.ext hE
      have HVv := Lib.hid (digs_vals (s := s) (m := f.1) hv1.1 (by omega) k)
      have HDL := Lib.hid (digs_length s f.1.toNat k)
      go_wp2_with fail
      refine (l01Digits_any s f.1 k _ (by omega) (by omega) hv1.1 (by omega) (by omega) (by omega)).mono ?_
      rintro e w1 ⟨u, fp, rfl, hE1, ho, hfp⟩
      generalize hDD : digs s f.1.toNat k = D at ho HADk HVv HDL
      have HDE := Lib.hid hDD
      clear hDD
      generalize hXX : f.2[k] = X at hck HADk
      clear hXX
      have hE1' := hE.tr hE1
      obtain ⟨xa, xb, xoff, xc, rfl, hxl, hxm, hxa, hxc⟩ := ho.rd
      have hDL : (D.length : Int) = f.1 := by have := HDL.out; omega
      obtain rfl := hxa (by omega)
      have HXC := Lib.hid hxc
      clear hxc
      have d0 := hE1.cell c0
      have d1 := hE1.cell c1
      have d0' := d0
      have d1' := d1
      replace hck := hE1.cell hck
      have hp2 := hp1.ext hE1
      have hor := ho.rd
      go_wp2_with fail
      go_loopw [7] (fun i wr => ∃ q : Nat, (q : Int) + 1 ≤ f.1 ∧ i = .int .i64 (q : Nat) ∧ Ext w1 wr ∧ ∀ j, j < q → apply s f (exch D j) = apply s f D) (fun i _ => f.1.toNat - (intOf i).toNat)
      case atStart => exact ⟨0, by omega, rfl, Ext.refl' _, fun j hj => by omega⟩
      case round =>
        obtain ⟨q, hq, rfl, hE2, ht2⟩ := hrel
        have HT2 := Lib.hid ht2
        clear ht2
        have d0 := hE2.cell d0
        have d1 := hE2.cell d1
        by_cases hql : (q : Int) + 1 < f.1
        · have hql2 : q + 1 < D.length := by omega
          have hql1 : q < D.length := by omega
          have e0 := hE2.cell (HXC.out q hql1)
          have e1 := hE2.cell (HXC.out (q + 1) hql2)
          go_wp2_with fail
          refine (l00Own_any D _ _ (hor.ext hE2) (by omega) (by omega)).mono ?_
          rintro e w3 ⟨y, fy, rfl, hE3, hy, hfy⟩
          obtain ⟨yb, ycap, rfl, ⟨u0, hu0⟩, z0, hyb, q1, q2, hy2⟩ := OI_store hy q hql1 D[q + 1]
          obtain ⟨yb2, ycap2, hyeq, ⟨u1, hu1⟩, z1, -, -, -, hy3⟩ := OI_store hy2 (q + 1) (by rw [List.length_set]; exact hql2) D[q]
          simp only [Value.slice.injEq, Option.some.injEq, Addr.mk.injEq, and_true] at hyeq
          obtain ⟨rfl, -, rfl⟩ := hyeq
          rw [exch_sets hql2] at hy3
          have hyb2 := hfy yb hyb
          have hq1 := hE2.size
          have hq2 := hE3.size
          have hxb := lt_of_cell (HXC.out q hql1)
          have hne : yb ≠ xb := by dsimp only at hxb; omega
          have e0 := cell_set (q := ⟨yb, q, none⟩) (u := .int .i64 D[q + 1]) (hE3.cell e0) (.inl hne)
          have e1 := hE3.cell e1
          have hE4 : Ext w1 ((w3.setCell ⟨yb, q, none⟩ (.int .i64 D[q + 1])).setCell ⟨yb, q + 1, none⟩ (.int .i64 D[q])) := ((hE2.tr hE3).setCell (by dsimp only; omega) _).setCell (by dsimp only; omega) _
          have HEL := Lib.hid (show ((exch D q).length : Int) = f.1 from by rw [(exch_perm hql2).length_eq]; exact hDL)
          have HEV := Lib.hid (show ∀ a ∈ exch D q, 0 ≤ a ∧ a < s from fun a ha => (vals_iff.1 HVv.out).2 a ((exch_perm hql2).mem_iff.1 ha))
          go_wp2_with fail
          generalize hWW : ((w3.setCell ⟨yb, q, none⟩ (.int .i64 D[q + 1])).setCell ⟨yb, q + 1, none⟩ (.int .i64 D[q])) = w4 at hE4 hy3 ⊢
          have g0 := hE4.cell d0'
          have g1 := hE4.cell d1'
          have gk := hE4.cell hck
          have hp3 := hp2.ext hE4
          have hyr := hy3.rd
          clear hWW hE3 hy hy2 hy3 hu0 hu1 z0 z1 e0 e1
          by_cases he : apply s f (exch D q) = X
          · have hb : (apply s f (exch D q) != X) = false := by simp [he]
            have HT3 := Lib.hid (show ∀ j, j < q + 1 → apply s f (exch D j) = apply s f D from fun j hj => if h : j = q then by rw [h, he, HADk.out] else HT2.out j (by omega))
            go_wp2_with fail
            refine region_sp [] [] [SP.val (.int .i64 s), SP.val (.pointer (some ⟨b0, o0, none⟩)), SP.val (.slice (some ⟨yb, 0, none⟩) D.length ycap), SP.val (.int .i64 (apply s f (exch D q))), SP.val (.pointer (some ⟨b0, o0, none⟩)), SP.val (.pointer (some ⟨b0, o0, none⟩)), SP.val (.pointer (some ⟨b0, o0 + 1, none⟩)), SP.val (.slice (some ⟨b, off, none⟩) f.2.length c), SP.val (.int .i64 (k : Nat)), SP.val (.pointer (some ⟨b, off + k, none⟩)), SP.val (.int .i64 X), SP.val (.bool false)] (by kernel_rfl) (fun _ d _ _ _ h => by cases d <;> exact h) (by kernel_rfl) (by kernel_rfl)
              (.cons (fun vs y hY => Step.move rfl rfl rfl rfl) <|
               .cons (fun vs y hY => Step.move rfl rfl rfl rfl) <|
               .cons (fun vs y hY => Step.move rfl rfl rfl rfl) <|
               .cons (fun vs y hY g0_0 g1_1 g2_2 => Step.call Try.call172 rfl rfl [vs 0, vs 1, vs 2] rfl rfl (by rw [show vs 0 = _ from g0_0, show vs 1 = _ from g1_1, show vs 2 = _ from g2_2]; exact (Calls.spq (l02Value_any s f _ _ _ _ (hp3.ext hY) (hyr.ext hY) hf HEL.out HEV.out)))) <|
               .cons (fun vs y hY => Step.move rfl rfl rfl rfl) <|
               .cons (fun vs y hY g4_0 => Step.nilCheck rfl rfl g4_0 rfl) <|
               .cons (fun vs y hY g5_0 => Step.fieldAddr ⟨b0, o0, none⟩ rfl rfl g5_0 (by simp [go_sem]) rfl) <|
               .cons (fun vs y hY g6_0 => Step.load ⟨b0, o0 + 1, none⟩ rfl rfl g6_0 (by simp [go_sem, hY.cell g1]) rfl) <|
               .cons (fun vs y hY => Step.move rfl rfl rfl rfl) <|
               .cons (fun vs y hY g7_0 g8_1 => Step.indexAtP (n := .int .i64 (k : Nat)) ⟨b, off + k, none⟩ rfl rfl g7_0 g8_1 (by simp [go_sem, Instr.indexAt, Addr.add, hkl] <;> omega) rfl) <|
               .cons (fun vs y hY g9_0 => Step.load ⟨b, off + k, none⟩ rfl rfl g9_0 (by simp [go_sem, hY.cell gk]) rfl) <|
               .cons (fun vs y hY g3_0 g10_1 => Step.bin (u := .int .i64 (apply s f (exch D q))) (v := .int .i64 X) rfl rfl g3_0 g10_1 (by simp [go_sem, hb]) rfl) <|
               .nil) ?_
            intro vs w5 hC hL
            have r0 : vs 0 = _ := hL 0 (by decide) rfl
            have r1 : vs 1 = _ := hL 1 (by decide) rfl
            have r2 : vs 2 = _ := hL 2 (by decide) rfl
            have r3 : vs 3 = _ := hL 3 (by decide) rfl
            have r4 : vs 4 = _ := hL 4 (by decide) rfl
            have r5 : vs 5 = _ := hL 5 (by decide) rfl
            have r6 : vs 6 = _ := hL 6 (by decide) rfl
            have r7 : vs 7 = _ := hL 7 (by decide) rfl
            have r8 : vs 8 = _ := hL 8 (by decide) rfl
            have r9 : vs 9 = _ := hL 9 (by decide) rfl
            have r10 : vs 10 = _ := hL 10 (by decide) rfl
            have r11 : vs 11 = _ := hL 11 (by decide) rfl
            clear hL
            simp only [putAll, Act.put, List.contains_nil, cond_false, List.setIfInBounds_toArray, List.set_cons_succ, List.set_cons_zero, List.filterMap_nil, r0, r1, r2, r3, r4, r5, r6, r7, r8, r9, r10, r11]
            clear r0 r1 r2 r3 r4 r5 r6 r7 r8 r9 r10 r11
            clear he
            go_wp2_with fail
            go_roundw
            case rel => exact ⟨q + 1, by omega, by go_num, hE4.tr hC, HT3.out⟩
            case measure => simp [intOf]; omega
          · have hb : (apply s f (exch D q) != X) = true := by simp [he]
            have HK := Lib.hid (kSym_no hf HVv.out hql2 (by rw [HADk.out]; exact he))
            go_wp2_with fail
            refine region_sp [] [] [SP.val (.int .i64 s), SP.val (.pointer (some ⟨b0, o0, none⟩)), SP.val (.slice (some ⟨yb, 0, none⟩) D.length ycap), SP.val (.int .i64 (apply s f (exch D q))), SP.val (.pointer (some ⟨b0, o0, none⟩)), SP.val (.pointer (some ⟨b0, o0, none⟩)), SP.val (.pointer (some ⟨b0, o0 + 1, none⟩)), SP.val (.slice (some ⟨b, off, none⟩) f.2.length c), SP.val (.int .i64 (k : Nat)), SP.val (.pointer (some ⟨b, off + k, none⟩)), SP.val (.int .i64 X), SP.val (.bool true)] (by kernel_rfl) (fun _ d _ _ _ h => by cases d <;> exact h) (by kernel_rfl) (by kernel_rfl)
              (.cons (fun vs y hY => Step.move rfl rfl rfl rfl) <|
               .cons (fun vs y hY => Step.move rfl rfl rfl rfl) <|
               .cons (fun vs y hY => Step.move rfl rfl rfl rfl) <|
               .cons (fun vs y hY g0_0 g1_1 g2_2 => Step.call Try.call172 rfl rfl [vs 0, vs 1, vs 2] rfl rfl (by rw [show vs 0 = _ from g0_0, show vs 1 = _ from g1_1, show vs 2 = _ from g2_2]; exact (Calls.spq (l02Value_any s f _ _ _ _ (hp3.ext hY) (hyr.ext hY) hf HEL.out HEV.out)))) <|
               .cons (fun vs y hY => Step.move rfl rfl rfl rfl) <|
               .cons (fun vs y hY g4_0 => Step.nilCheck rfl rfl g4_0 rfl) <|
               .cons (fun vs y hY g5_0 => Step.fieldAddr ⟨b0, o0, none⟩ rfl rfl g5_0 (by simp [go_sem]) rfl) <|
               .cons (fun vs y hY g6_0 => Step.load ⟨b0, o0 + 1, none⟩ rfl rfl g6_0 (by simp [go_sem, hY.cell g1]) rfl) <|
               .cons (fun vs y hY => Step.move rfl rfl rfl rfl) <|
               .cons (fun vs y hY g7_0 g8_1 => Step.indexAtP (n := .int .i64 (k : Nat)) ⟨b, off + k, none⟩ rfl rfl g7_0 g8_1 (by simp [go_sem, Instr.indexAt, Addr.add, hkl] <;> omega) rfl) <|
               .cons (fun vs y hY g9_0 => Step.load ⟨b, off + k, none⟩ rfl rfl g9_0 (by simp [go_sem, hY.cell gk]) rfl) <|
               .cons (fun vs y hY g3_0 g10_1 => Step.bin (u := .int .i64 (apply s f (exch D q))) (v := .int .i64 X) rfl rfl g3_0 g10_1 (by simp [go_sem, hb]) rfl) <|
               .nil) ?_
            intro vs w5 hC hL
            have r0 : vs 0 = _ := hL 0 (by decide) rfl
            have r1 : vs 1 = _ := hL 1 (by decide) rfl
            have r2 : vs 2 = _ := hL 2 (by decide) rfl
            have r3 : vs 3 = _ := hL 3 (by decide) rfl
            have r4 : vs 4 = _ := hL 4 (by decide) rfl
            have r5 : vs 5 = _ := hL 5 (by decide) rfl
            have r6 : vs 6 = _ := hL 6 (by decide) rfl
            have r7 : vs 7 = _ := hL 7 (by decide) rfl
            have r8 : vs 8 = _ := hL 8 (by decide) rfl
            have r9 : vs 9 = _ := hL 9 (by decide) rfl
            have r10 : vs 10 = _ := hL 10 (by decide) rfl
            have r11 : vs 11 = _ := hL 11 (by decide) rfl
            clear hL
            simp only [putAll, Act.put, List.contains_nil, cond_false, List.setIfInBounds_toArray, List.set_cons_succ, List.set_cons_zero, List.filterMap_nil, r0, r1, r2, r3, r4, r5, r6, r7, r8, r9, r10, r11]
            clear r0 r1 r2 r3 r4 r5 r6 r7 r8 r9 r10 r11
            clear he
            go_wp2_with fail
            go_ret
            exact ⟨ret_bool HK.out.symm, hE1'.tr (hE4.tr hC)⟩
        · have HT3 := Lib.hid (show ∀ j : Nat, j < k + 1 → ∀ q, q + 1 < f.1.toNat → apply s f (exch (digs s f.1.toNat j) q) = apply s f (digs s f.1.toNat j) from fun j hj r hr => if h : j = k then by subst h; rw [HDE.out]; exact HT2.out r (by omega) else HT.out j (by omega) r hr)
          go_wp2_with fail
          go_roundw
          case rel => exact ⟨k + 1, by omega, by go_num, hE1'.tr hE2, HT3.out⟩
          case measure => simp [intOf]; omega
    · have HK := Lib.hid (show kSym s f = true from kSym_yes hf fun l hl i hi => by
        obtain ⟨l1, l2⟩ := vals_iff.1 hl
        have hc1 := code_ltc hv1.1 hv1.2 hv2.1 (by omega) hl
        have := HT.out (code s l).toNat (by rw [HCnt.out] at hc1; omega) i (by omega)
        rw [show ((code s l).toNat : Int) = code s l from by omega, digs_of_code' hv1.1 hl] at this
        exact this)
      go_wp2_with fail
      go_ret
      exact ⟨ret_bool HK.out.symm, hE⟩
end Go.Proofs.Ytefnmfdmnoednaa
