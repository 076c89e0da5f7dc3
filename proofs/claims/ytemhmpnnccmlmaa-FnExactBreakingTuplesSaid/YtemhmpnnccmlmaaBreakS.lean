
/- The reference's search for tuples that break a relation. -/
import Derived.Test.YtemhmpnnccmlmaaBreak
namespace Go.Proofs.Ytemhmpnnccmlmaa
open Go.RowKit
set_option linter.unusedVariables false

theorem OII.app {w1 : World} {B : Nat} {L : List (List Int)} {tv : Value} {fp : List Nat} {x : List Int} {u : Value} {fx : List Nat} {ops : Array Oper} {rest : List Oper} {o : Oper} {a : Act} {Q : Exit → Act → World → Prop}
    (h : OII w1 tv L fp) (hfp : ∀ g ∈ fp, B ≤ g) (hB : B ≤ w1.heap.size) (hx : OI w1 u x fx) (hfx : ∀ g ∈ fx, B ≤ g) (hd : ∀ g ∈ fx, g ∉ fp) (hlen : L.length ≤ 1048576) {b' : Nat} (cb : w1.cell? ⟨b', 0, none⟩ = some u)
    (hgd : o.guard = none) (s y : Operand) (ho : o.op = .call { callee := .builtin .append, args := #[s, y], argTypes := #[22, 22] }) (hs : a.eval s = tv) (hy : a.eval y = .slice (some ⟨b', 0, none⟩) 1 1)
    (hk : ∀ v' w4 fp', OII w4 v' (L ++ [x]) fp' → (∀ g ∈ fp', B ≤ g) → (∀ w0, Ext w0 w1 → w0.heap.size ≤ B → Ext w0 w4) → wpList Try.prog ops Q rest (a.put o.dst v') w4) :
    wpList Try.prog ops Q (o :: rest) a w1 := by
  obtain ⟨i0, hi, hz0, hz1, hz2⟩ := info_parts infoIS'
  obtain ⟨cs, hrow, hin, hpush⟩ := OwnL.row eI_ok h
  have hrow2 := own_base (base' := B) hrow fun g hg => hfp g (hin g hg)
  refine wpList_append_own_at _ hgd s y 22 ho B 25 i0 (.slice none 0 0) 1 24 Try.underlying22 hi hz0 hz1 hz2 rfl (by decide) tv _ _ hs hrow2 ⟨b', 0, none⟩ 1 1 [u] hy rfl (cells_one cb) (by obtain ⟨xa, xc, rfl⟩ := hx.form; simp [Value.oneCell']) (by unfold maxLen; omega) (by omega) hB ?_
  intro v' w4 ho4 hg4 _ hat
  obtain ⟨fp', hL, hfp'⟩ := hpush ⟨u, rfl, hx⟩ rfl hd ho4 hg4 hat
  refine hk v' w4 fp' hL (fun g hg => ?_) fun w0 hE0 hw0 => hE0.grown hg4 (by omega) (fun g hg => Nat.le_trans hw0 (hfp g (hin g hg)))
  rcases hfp' g hg with h' | h' | h'
  · exact hfp g h'
  · exact hfx g h'
  · rw [h']; exact hB

def firstT (L : List (List Int)) (j : Nat) : List (List Int) := L.take j
/-- what the reference's search leaves -/
def BreaksRes (s : Int) (f : OpD) (r : Int × List (List Int)) (w : World) (e : Ending) (w' : World) : Prop :=
  match SFirst s f r with
  | none => ∃ p q, e = .returned (.tuple #[.slice (some ⟨p, 0, none⟩) 0 0, .slice (some ⟨q, 0, none⟩) 0 0, .bool false]) ∧ Ext w w' ∧ w.heap.size ≤ p ∧ p < q ∧ OII w' (.slice (some ⟨p, 0, none⟩) 0 0) [] [p] ∧ OI w' (.slice (some ⟨q, 0, none⟩) 0 0) [] [q]
  | some k => ∃ u x fp fx, e = .returned (.tuple #[u, x, .bool true]) ∧ Ext w w' ∧ OII w' u (listK f r k) fp ∧ OI w' x (SMake s f (listK f r k)) fx ∧ (∀ g ∈ fp, w.heap.size ≤ g) ∧ (∀ g ∈ fx, w.heap.size ≤ g) ∧ (∀ g ∈ fp, g ∉ fx) ∧ vals s (SMake s f (listK f r k)) r.1 = true ∧ ∀ t ∈ listK f r k, vals s t r.1 = true
theorem BreaksRes.some {s : Int} {f : OpD} {r : Int × List (List Int)} {w w' : World} {k : Nat} {u x : Value} {fp fx : List Nat} (h : SFirst s f r = some k) (hE : Ext w w') (h1 : OII w' u (listK f r k) fp) (h2 : OI w' x (SMake s f (listK f r k)) fx) (h3 : ∀ g ∈ fp, w.heap.size ≤ g) (h4 : ∀ g ∈ fx, w.heap.size ≤ g)
    (h5 : ∀ g ∈ fp, g ∉ fx) (h6 : vals s (SMake s f (listK f r k)) r.1 = true) (h7 : ∀ t ∈ listK f r k, vals s t r.1 = true) : BreaksRes s f r w (.returned (.tuple #[u, x, .bool true])) w' := by
  unfold BreaksRes
  rw [h]
  exact ⟨u, x, fp, fx, rfl, hE, h1, h2, h3, h4, h5, h6, h7⟩

set_option maxHeartbeats 8000000 in
set_option maxRecDepth 100000 in
theorem l02Breaks_any (s : Int) (f : OpD) (v : Value) (r : Int × List (List Int)) (u : Value) (w : World) (hr : PtOp w v f) (hs : PtRel w u r) (hf : SValidOp s f = true) (hv : SValidRel s r = true) :
    Calls Try.prog 79 #[.int .i64 s, v, u] w (BreaksRes s f r w) := by
  obtain ⟨i1, hi1, hy0, hy1, hy2⟩ := info_parts infoIS
  have hr0 := hr
  have hs0 := hs
  obtain ⟨fb, fo, fv, rfl, b0, b1, hr'⟩ := hr
  obtain ⟨fa, fc, rfl⟩ := hr'.form
  obtain ⟨rb, ro, tu, rfl, c0, c1, hs'⟩ := hs
  obtain ⟨a, b, off, cap, us, rfl, hlc, hcm, ha, hc⟩ := hs'
  obtain ⟨⟨hs1, hs2⟩, ⟨hm1, hm2⟩, hall⟩ := valid_parts hv
  have hfa := (valid_iff.1 hf).2.1
  have hln := valid_length hv
  have HALL := Lib.hid hall
  have HF := Lib.hid hf
  have HV := Lib.hid hv
  have hpw := powW_nat r.2.length hln f.1.toNat (by omega)
  have hpm : manyK f r ≤ 16777216 := pow_small _ hln _ (by omega)
  have HPW := Lib.hid (show powW r.2.length f.1.toNat = (manyK f r : Int) from hpw)
  clear hall hpw
  go_enter Try.func79, Try.ntmps79
  go_wp2_with fail
  refine (l01SetOf_any s r _ _ hs0 hv).mono ?_
  rintro e w1 ⟨ps, fs, rfl, hE1, hIn, -⟩
  have hIn0 := hIn
  obtain ⟨sb, sv, rfl, -, -, -, -, -⟩ := hIn
  clear hf hv
  have p0 := hE1.cell b0
  go_wp2_with fail
  refine (l01Power_any _ _ _ (by omega) (by omega)).mono ?_
  rintro e w' ⟨rfl, rfl⟩
  rw [HPW.out]
  clear p0
  go_wp2_with fail
  go_loopw [12] (fun i wq => ∃ k : Nat, k ≤ manyK f r ∧ i = .int .i64 k ∧ Ext w1 wq ∧ Hid (∀ j, j < k → badK s f r j = false)) (fun i _ => manyK f r - (intOf i).toNat)
  case atStart => exact ⟨0, by omega, rfl, Ext.refl' _, Lib.hid fun j hj => by omega⟩
  case round =>
    obtain ⟨k, hk, rfl, hE2, HB⟩ := hrel
    have hEE := hE1.tr hE2
    replace b0 := hEE.cell b0
    replace b1 := hEE.cell b1
    replace c0 := hEE.cell c0
    replace c1 := hEE.cell c1
    by_cases hkl : k < manyK f r
    · have hn0 : 0 < r.2.length := by
        rcases Nat.eq_zero_or_pos r.2.length with h0 | h0
        · exfalso
          unfold manyK at hkl
          rw [h0, Nat.zero_pow (by omega)] at hkl
          omega
        · exact h0
      obtain rfl := ha hn0
      have HAT := Lib.hid (at_lt (f := f) hn0 k)
      have HDL := Lib.hid (digs_length r.2.length f.1.toNat k)
      have HLK := Lib.hid (show listK f r k = pickR r (digs r.2.length f.1.toNat k) from rfl)
      go_wp2_with fail
      refine (l01Digits_any (r.2.length : Int) f.1 (k : Int) _ (by omega) (by omega) (by omega) (by omega) (by omega) (by omega)).mono ?_
      rintro e w3 ⟨at', fat, rfl, hE3, hat, -⟩
      generalize hdg : digs r.2.length f.1.toNat k = D at hat HAT HDL HLK
      clear hdg
      have hD3 : D.length ≤ 3 ∧ 0 < D.length := by have := HDL.out; omega
      obtain ⟨hD3, hD0⟩ := hD3
      obtain ⟨xa, xb, xoff, xc, rfl, hxlc, hxcm, hxa, hxc⟩ := hat.rd
      obtain rfl := hxa hD0
      have HXC := Lib.hid hxc
      obtain ⟨Z, hZ1, hZ2⟩ : ∃ Z, Z ≤ w3.heap.size ∧ w3.heap.size ≤ Z := ⟨_, Nat.le_refl _, Nat.le_refl _⟩
      have hmade : (w3.alloc (.cells #[] 25)).ownsRow Z 25 1 (.slice (.some ⟨w3.heap.size, 0, none⟩) 0 0) 0 [] := World.ownsRow_made w3 #[] 0 hZ1 (by decide) rfl
      have hAz : Ext w3 (w3.alloc (.cells #[] 25)) := (Ext.refl' w3).alloc (Nat.le_refl _) _
      have hEE3 := hEE.tr hE3
      replace b0 := hE3.cell b0
      replace b1 := hE3.cell b1
      replace c0 := hE3.cell c0
      replace c1 := hE3.cell c1
      have hE23 := hE2.tr hE3
      have hsz3 := hEE3.size
      clear hxc hat hE3
      go_wp2_with fail
      go_loopw [14, 15] (fun t i wz => ∃ j : Nat, j ≤ D.length ∧ i = .int .i64 j ∧ Ext w3 wz ∧ wz.ownsRow Z 25 1 t j ((D.take j).map fun x => us x.toNat)) (fun _ i _ => D.length - (intOf i).toNat)
      case atStart => exact ⟨0, by omega, rfl, hAz, hmade⟩
      case round =>
        obtain ⟨j, hj, rfl, hE4, ho⟩ := hrel
        have hEE4 := hEE3.tr hE4
        replace b0 := hE4.cell b0
        replace b1 := hE4.cell b1
        replace c0 := hE4.cell c0
        replace c1 := hE4.cell c1
        by_cases hjl : j < D.length
        · have hxj := hE4.cell (HXC.out j hjl)
          have hdj := HAT.out D[j] (List.getElem_mem hjl)
          obtain ⟨q, hq⟩ := Int.eq_ofNat_of_zero_le hdj.1
          have hql : q < r.2.length := by omega
          rw [hq] at hxj
          have hk1 := hEE4.cell (hc q hql).1
          have hk2 := (hc q hql).2.ext hEE4
          have HT := Lib.hid (show (D.take (j + 1)).map (fun x => us x.toNat) = (D.take j).map (fun x => us x.toNat) ++ [us q] from by
            rw [List.take_succ_eq_append_getElem hjl, List.map_append, List.map_singleton, hq, Int.toNat_natCast])
          clear hq hdj
          generalize us q = yy at hk1 hk2 HT
          obtain ⟨ya, yc, rfl⟩ := hk2.form
          obtain ⟨ta, tb, tc, rfl, -⟩ := own_parts ho
          go_wp2_with fail
          go_wp2_with fail
          refine region_sp [] [12, 13] [SP.val (.slice ta j tc), SP.val (.pointer (some ⟨rb, ro, none⟩)), SP.val (.pointer (some ⟨rb, ro, none⟩)), SP.val (.pointer (some ⟨rb, ro + 1, none⟩)), SP.val (.slice (some ⟨b, off, none⟩) r.2.length cap), SP.val (.slice (some ⟨xb, xoff, none⟩) D.length xc), SP.val (.int .i64 (j : Nat)), SP.val (.pointer (some ⟨xb, xoff + j, none⟩)), SP.val (.int .i64 (q : Nat)), SP.val (.pointer (some ⟨b, off + q, none⟩)), SP.val (.slice ya r.2[q].length yc), SP.row1 (.slice ya r.2[q].length yc), SP.any, SP.any] (by kernel_rfl) (fun _ d _ _ _ h => by cases d <;> exact h) (by kernel_rfl) (by kernel_rfl)
            (.cons (fun vs y hY => Step.move rfl rfl rfl rfl) <|
             .cons (fun vs y hY => Step.move rfl rfl rfl rfl) <|
             .cons (fun vs y hY g1_0 => Step.nilCheck rfl rfl g1_0 rfl) <|
             .cons (fun vs y hY g2_0 => Step.fieldAddr ⟨rb, ro, none⟩ rfl rfl g2_0 (by simp [go_sem]) rfl) <|
             .cons (fun vs y hY g3_0 => Step.load ⟨rb, ro + 1, none⟩ rfl rfl g3_0 (by simp [go_sem, hY.cell c1]) rfl) <|
             .cons (fun vs y hY => Step.move rfl rfl rfl rfl) <|
             .cons (fun vs y hY => Step.move rfl rfl rfl rfl) <|
             .cons (fun vs y hY g5_0 g6_1 => Step.indexAtP (n := .int .i64 (j : Nat)) ⟨xb, xoff + j, none⟩ rfl rfl g5_0 g6_1 (by simp [go_sem, Instr.indexAt, Addr.add, hjl] <;> omega) rfl) <|
             .cons (fun vs y hY g7_0 => Step.load ⟨xb, xoff + j, none⟩ rfl rfl g7_0 (by simp [go_sem, hY.cell hxj]) rfl) <|
             .cons (fun vs y hY g4_0 g8_1 => Step.indexAtP (n := .int .i64 (q : Nat)) ⟨b, off + q, none⟩ rfl rfl g4_0 g8_1 (by simp [go_sem, Instr.indexAt, Addr.add, hql] <;> omega) rfl) <|
             .cons (fun vs y hY g9_0 => Step.load ⟨b, off + q, none⟩ rfl rfl g9_0 (by simp [go_sem, hY.cell hk1]) rfl) <|
             .cons (fun vs y hY g10_0 => Step.buildSlice1 (x := .slice ya r.2[q].length yc) (e := 25) rfl rfl g10_0 (by simp [go_sem]) row1_new) <|
             .skip rfl <|
             .skip rfl <|
             .nil) ?_
          intro vs w5 hC hL
          have r0 : vs 0 = _ := hL 0 (by decide) rfl
          have r1 : vs 1 = _ := hL 1 (by decide) rfl
          have r2 : vs 2 = _ := hL 2 (by decide) rfl
          have r3 : vs 3 = _ := hL 3 (by decide) rfl
          have r4 : vs 4 = _ := hL 4 (by decide) rfl
          have r5 : vs 5 = _ := hL 5 (by decide) rfl
          have r6 : vs 6 = _ := hL 6 (by decide) rfl
          have r7 : vs 7 = _ := hL 7 (by decide) rfl
          have r8 : vs 8 = _ := hL 8 (by decide) rfl
          have r9 : vs 9 = _ := hL 9 (by decide) rfl
          have r10 : vs 10 = _ := hL 10 (by decide) rfl
          have r11 := hL 11 (by decide) rfl
          clear hL
          simp only [putAll, Act.put, List.contains_cons, List.contains_nil, Nat.reduceBEq, Nat.reduceAdd, Bool.or_false, Bool.or_true, cond_true, cond_false, List.setIfInBounds_toArray, List.set_cons_succ, List.set_cons_zero, List.filterMap_cons, List.filterMap_nil, List.getElem?_cons_succ, List.getElem?_cons_zero, r0, r1, r2, r3, r4, r5, r6, r7, r8, r9, r10]
          clear r0 r1 r2 r3 r4 r5 r6 r7 r8 r9 r10
          obtain ⟨b', rbe, cb⟩ := r11
          rw [rbe]
          refine wpList_append_own_at _ rfl (.tmp 52) (.tmp 63) 22 rfl Z 25 i1 (.slice none 0 0) 1 24 Try.underlying22 hi1 hy0 hy1 hy2 rfl (by decide) _ _ _ rfl (own_ext ho hC) ⟨b', 0, none⟩ 1 1 [.slice ya r.2[q].length yc] rfl rfl (cells_one cb) (by simp [Value.oneCell']) (by unfold maxLen; omega) (by omega) (by have := hE4.size; have := hC.size; omega) ?_
          intro v' w4 ho4 hg4 _ hat4
          have hE5 := (hE4.tr hC).grown hg4 (by have := hE4.size; have := hC.size; omega) (fun k hk => by have := (ho.lt k hk).1; omega)
          have ho5 : w4.ownsRow Z 25 1 v' (j + 1) ((D.take (j + 1)).map fun x => us x.toNat) := by rw [HT.out]; exact ho4
          obtain ⟨ta', tb', tc', rfl, -⟩ := own_parts ho5
          clear ho hg4 ho4 HT hat4 hE4 hEE4
          go_wp2_with fail
          go_roundw
          case rel => exact ⟨j + 1, by omega, by go_num, hE5, ho5⟩
          case measure => simp [intOf]; omega
        · have hjj : j = D.length := by omega
          subst hjj
          rw [List.take_length] at ho
          have hII : RdII wr _ (pickR r D) := rdII_of_row ho HAT.out fun j h => (hc j h).2.ext hEE4
          obtain ⟨ta, tb, tc, rfl, -⟩ := own_parts ho
          have hLF := list_first HF.out HV.out hn0 k
          have hMV := make_vals HF.out HV.out hn0 k
          rw [HLK.out] at hLF hMV
          have hfir : ((pickR r D).getD 0 []).length ≤ 1048576 := by rw [hLF.1]; omega
          have HPV := Lib.hid (show ∀ t ∈ pickR r D, vals s t ((pickR r D).getD 0 []).length = true from fun t ht => by rw [hLF.1, show ((r.1.toNat : Nat) : Int) = r.1 by omega]; exact hLF.2 t ht)
          have hpl : (pickR r D).length = D.length := by unfold pickR; rw [List.length_map]
          have HPL := Lib.hid (show ((pickR r D).length : Int) = f.1 from by have := HDL.out; omega)
          have HPD := Lib.hid hpl
          have HBK := Lib.hid (show badK s f r k = !hasT r (SMake s f (pickR r D)) from by unfold badK; rw [HLK.out])
          have HMV := Lib.hid hMV
          have HLF := Lib.hid hLF
          clear hLF hMV hpl
          go_wp2_with fail
          refine (l02Make_any s f _ (pickR r D) _ _ (hr0.ext hEE4) hII HF.out HPL.out HPV.out hfir).mono ?_
          rintro e w5 ⟨x, fx, rfl, hE5, hx, hfx⟩
          obtain ⟨xm, xmc, rfl⟩ := hx.form
          obtain ⟨hx1, hx2⟩ := vals_iff.1 HMV.out
          have hx4 : (SMake s f (pickR r D)).length ≤ 4 := by omega
          have hxr := hx.rd
          obtain ⟨h1, h2⟩ := code_ltc hs1 hs2 hm1 hm2 HMV.out
          obtain ⟨c, hcd⟩ := Int.eq_ofNat_of_zero_le h1
          have HCD := Lib.hid hcd
          rw [hcd, Int.toNat_natCast] at h2
          have hE25 := hE23.tr (hE4.tr hE5)
          obtain ⟨bs, g, caps, hbs, t0, t1, t2, cb, -, -, -, -, -⟩ := (hIn0.ext hE25).store c (by rw [mks_length]; exact h2) true
          simp only [Value.pointer.injEq, Option.some.injEq, Addr.mk.injEq, and_true] at hbs
          subst hbs
          rw [mks_get, ← hcd, digs_of_code' hs1 HMV.out] at cb
          rw [mks_length] at t2
          clear hcd hx1
          cases hbk : hasT r (SMake s f (pickR r D)) with
          | true =>
            rw [hbk] at cb
            have HB2 := Lib.hid (show ∀ j, j < k + 1 → badK s f r j = false from fun j hj => by
              rcases Nat.lt_or_ge j k with h | h
              · exact HB.out j h
              · rw [show j = k by omega, HBK.out, hbk]; rfl)
            clear hbk
            go_wp2_with fail
            go_wp2_with fail
            refine region_sp [] [] [SP.val (.pointer (some ⟨sb, 0, none⟩)), SP.val (.pointer (some ⟨sb, 0, none⟩)), SP.val (.pointer (some ⟨sb, 2, none⟩)), SP.val (.slice (some ⟨g, 0, none⟩) (count s r.1) caps), SP.val (.int .i64 s), SP.val (.slice xm (SMake s f (pickR r D)).length xmc), SP.val (.int .i64 (c : Nat)), SP.val (.pointer (some ⟨g, c, none⟩)), SP.val (.bool true), SP.val (.bool false)] (by kernel_rfl) (fun _ d _ _ _ h => by cases d <;> exact h) (by kernel_rfl) (by kernel_rfl)
              (.cons (fun vs y hY => Step.move rfl rfl rfl rfl) <|
               .cons (fun vs y hY g0_0 => Step.nilCheck rfl rfl g0_0 rfl) <|
               .cons (fun vs y hY g1_0 => Step.fieldAddr ⟨sb, 0, none⟩ rfl rfl g1_0 (by simp [go_sem]) rfl) <|
               .cons (fun vs y hY g2_0 => Step.load ⟨sb, 2, none⟩ rfl rfl g2_0 (by simp [go_sem, hY.cell t2]) rfl) <|
               .cons (fun vs y hY => Step.move rfl rfl rfl rfl) <|
               .cons (fun vs y hY => Step.move rfl rfl rfl rfl) <|
               .cons (fun vs y hY g4_0 g5_1 => Step.call Try.call74 rfl rfl [vs 4, vs 5] rfl rfl (by rw [show vs 4 = _ from g4_0, show vs 5 = _ from g5_1]; exact (Calls.sps (l01Code_any s (SMake s f (pickR r D)) _ _ (hxr.ext hY) (by omega) (by omega) hx4 hx2) (by rw [HCD.out])))) <|
               .cons (fun vs y hY g3_0 g6_1 => Step.indexAtP (n := .int .i64 (c : Nat)) ⟨g, c, none⟩ rfl rfl g3_0 g6_1 (by simp [go_sem, Instr.indexAt, Addr.add, h2] <;> omega) rfl) <|
               .cons (fun vs y hY g7_0 => Step.load ⟨g, c, none⟩ rfl rfl g7_0 (by simp [go_sem, hY.cell cb]) rfl) <|
               .cons (fun vs y hY g8_0 => Step.not rfl rfl g8_0 rfl) <|
               .nil) ?_
            intro vs w6 hC hL
            have r0 : vs 0 = _ := hL 0 (by decide) rfl
            have r1 : vs 1 = _ := hL 1 (by decide) rfl
            have r2 : vs 2 = _ := hL 2 (by decide) rfl
            have r3 : vs 3 = _ := hL 3 (by decide) rfl
            have r4 : vs 4 = _ := hL 4 (by decide) rfl
            have r5 : vs 5 = _ := hL 5 (by decide) rfl
            have r6 : vs 6 = _ := hL 6 (by decide) rfl
            have r7 : vs 7 = _ := hL 7 (by decide) rfl
            have r8 : vs 8 = _ := hL 8 (by decide) rfl
            have r9 : vs 9 = _ := hL 9 (by decide) rfl
            clear hL
            simp only [putAll, Act.put, List.contains_nil, cond_false, List.setIfInBounds_toArray, List.set_cons_succ, List.set_cons_zero, List.filterMap_nil, r0, r1, r2, r3, r4, r5, r6, r7, r8, r9]
            clear r0 r1 r2 r3 r4 r5 r6 r7 r8 r9
            go_wp2_with fail
            go_roundw
            case rel => exact ⟨k + 1, by omega, by go_num, hE25.tr hC, HB2⟩
            case measure => simp [intOf]; omega
          | false =>
            rw [hbk] at cb
            have HN := Lib.hid (firsts hkl HB.out (by rw [HBK.out, hbk]; rfl))
            clear hbk
            have hEE5 := hEE4.tr hE5
            have hq5 := hEE4.size
            have hII5 := hII.ext hE5
            go_wp2_with fail
            go_wp2_with fail
            refine region_sp [] [] [SP.val (.pointer (some ⟨sb, 0, none⟩)), SP.val (.pointer (some ⟨sb, 0, none⟩)), SP.val (.pointer (some ⟨sb, 2, none⟩)), SP.val (.slice (some ⟨g, 0, none⟩) (count s r.1) caps), SP.val (.int .i64 s), SP.val (.slice xm (SMake s f (pickR r D)).length xmc), SP.val (.int .i64 (c : Nat)), SP.val (.pointer (some ⟨g, c, none⟩)), SP.val (.bool false), SP.val (.bool true)] (by kernel_rfl) (fun _ d _ _ _ h => by cases d <;> exact h) (by kernel_rfl) (by kernel_rfl)
              (.cons (fun vs y hY => Step.move rfl rfl rfl rfl) <|
               .cons (fun vs y hY g0_0 => Step.nilCheck rfl rfl g0_0 rfl) <|
               .cons (fun vs y hY g1_0 => Step.fieldAddr ⟨sb, 0, none⟩ rfl rfl g1_0 (by simp [go_sem]) rfl) <|
               .cons (fun vs y hY g2_0 => Step.load ⟨sb, 2, none⟩ rfl rfl g2_0 (by simp [go_sem, hY.cell t2]) rfl) <|
               .cons (fun vs y hY => Step.move rfl rfl rfl rfl) <|
               .cons (fun vs y hY => Step.move rfl rfl rfl rfl) <|
               .cons (fun vs y hY g4_0 g5_1 => Step.call Try.call74 rfl rfl [vs 4, vs 5] rfl rfl (by rw [show vs 4 = _ from g4_0, show vs 5 = _ from g5_1]; exact (Calls.sps (l01Code_any s (SMake s f (pickR r D)) _ _ (hxr.ext hY) (by omega) (by omega) hx4 hx2) (by rw [HCD.out])))) <|
               .cons (fun vs y hY g3_0 g6_1 => Step.indexAtP (n := .int .i64 (c : Nat)) ⟨g, c, none⟩ rfl rfl g3_0 g6_1 (by simp [go_sem, Instr.indexAt, Addr.add, h2] <;> omega) rfl) <|
               .cons (fun vs y hY g7_0 => Step.load ⟨g, c, none⟩ rfl rfl g7_0 (by simp [go_sem, hY.cell cb]) rfl) <|
               .cons (fun vs y hY g8_0 => Step.not rfl rfl g8_0 rfl) <|
               .nil) ?_
            intro vs w6 hC hL
            have r0 : vs 0 = _ := hL 0 (by decide) rfl
            have r1 : vs 1 = _ := hL 1 (by decide) rfl
            have r2 : vs 2 = _ := hL 2 (by decide) rfl
            have r3 : vs 3 = _ := hL 3 (by decide) rfl
            have r4 : vs 4 = _ := hL 4 (by decide) rfl
            have r5 : vs 5 = _ := hL 5 (by decide) rfl
            have r6 : vs 6 = _ := hL 6 (by decide) rfl
            have r7 : vs 7 = _ := hL 7 (by decide) rfl
            have r8 : vs 8 = _ := hL 8 (by decide) rfl
            have r9 : vs 9 = _ := hL 9 (by decide) rfl
            clear hL
            simp only [putAll, Act.put, List.contains_nil, cond_false, List.setIfInBounds_toArray, List.set_cons_succ, List.set_cons_zero, List.filterMap_nil, r0, r1, r2, r3, r4, r5, r6, r7, r8, r9]
            clear r0 r1 r2 r3 r4 r5 r6 r7 r8 r9
            replace hx := hx.ext hC
            replace hII5 := hII5.ext hC
            replace hEE5 := hEE5.tr hC
            have hfx2 : ∀ g ∈ fx, g < w6.heap.size := hx.lt
            obtain ⟨la, lb, loff, lc, ls, hsl, llc, lcm, lha, lhc⟩ := hII5
            simp only [Value.slice.injEq] at hsl
            obtain ⟨rfl, hpl, rfl⟩ := hsl
            obtain ⟨Y, hY1, hY2⟩ : ∃ Y, Y ≤ w6.heap.size ∧ w6.heap.size ≤ Y := ⟨_, Nat.le_refl _, Nat.le_refl _⟩
            have hsz6 := hEE5.size
            have hA6 : Ext w6 (w6.alloc (.cells #[] 25)) := (Ext.refl' w6).alloc (Nat.le_refl _) _
            have hnew : OII (w6.alloc (.cells #[] 25)) (.slice (.some ⟨w6.heap.size, 0, none⟩) 0 0) (firstT (pickR r D) 0) [w6.heap.size] := OwnL.made _ _ (World.ownsRow_made w6 #[] 0 (Nat.zero_le _) (by decide) rfl)
            have hlenD : D.length ≤ (pickR r D).length ∧ (pickR r D).length ≤ D.length := by omega
            obtain ⟨hlD1, hlD2⟩ := hlenD
            obtain rfl := lha (by omega)
            clear hpl
            have HLC := Lib.hid lhc
            clear lhc
            go_wp2_with fail
            go_loopw [17, 18] (fun t i wz => ∃ (j : Nat) (fp : List Nat), j ≤ D.length ∧ i = .int .i64 j ∧ Ext w6 wz ∧ OII wz t (firstT (pickR r D) j) fp ∧ ∀ g ∈ fp, Y ≤ g) (fun _ i _ => D.length - (intOf i).toNat)
            case atStart => exact ⟨0, _, by omega, rfl, hA6, hnew, by simp; exact hY1⟩
            case round =>
              obtain ⟨j, fp, hj, rfl, hE6, ho6, hfp⟩ := hrel
              obtain ⟨va, vc, hvf⟩ := ho6.form
              subst hvf
              by_cases hjl : j < D.length
              · have hjp : j < (pickR r D).length := by omega
                obtain ⟨k1, k2⟩ := HLC.out j hjp
                replace k1 := hE6.cell k1
                replace k2 := k2.ext hE6
                have hjv := HLF.out.2 _ (List.getElem_mem hjp)
                have hjlen : 0 < (pickR r D)[j].length ∧ (pickR r D)[j].length ≤ 1048576 := by have := vals_len hjv; omega
                obtain ⟨hjl1, hjl2⟩ := hjlen
                have HT := Lib.hid (show firstT (pickR r D) (j + 1) = firstT (pickR r D) j ++ [(pickR r D)[j]] from List.take_succ_eq_append_getElem hjp)
                generalize ls j = yy at k1 k2
                obtain ⟨ya, yc, rfl⟩ := k2.form
                have hlt : (firstT (pickR r D) j).length ≤ 1048576 := by unfold firstT; rw [List.length_take]; omega
                have HLT := Lib.hid hlt
                clear hlt hjv
                generalize (pickR r D)[j] = X at *
                go_wp2_with fail
                refine (l00Own_any _ _ _ k2 hjl1 hjl2).mono ?_
                rintro e w7 ⟨u, fu, rfl, hE7, hu, hfu⟩
                obtain ⟨xa', xc', rfl⟩ := hu.form
                have hsz7 := hE6.size
                have hA7 : Ext w7 (w7.alloc (.cells #[.slice xa' X.length xc'] 25)) := (Ext.refl' w7).alloc (Nat.le_refl _) _
                have hd7 : ∀ g ∈ fu, g ∉ fp := fun g hg hm => by have := hfu g hg; have := ho6.lt g hm; omega
                go_wp2_with (at_builtin; (refine OII.app (ho6.ext (hE7.tr hA7)) hfp (by have := hE7.size; have := hA7.size; omega) (hu.ext hA7) (fun g hg => by have := hfu g hg; omega) hd7 HLT.out (b' := w7.heap.size) (u := .slice xa' X.length xc') (by simp [go_sem]) rfl (.tmp 86) (.tmp 92) rfl rfl rfl ?_))
                intro v' w8 fp' ho8 hfp8 hkeep
                have hE8 := hkeep w6 (hE6.tr (hE7.tr hA7)) hY2
                rw [← HT.out] at ho8
                clear hkeep ho6 hu hE7 hA7 hE6
                go_wp2_with fail
                go_roundw
                case rel => exact ⟨j + 1, fp', by omega, by go_num, hE8, ho8, hfp8⟩
                case measure => simp [intOf]; omega
              · have hjj : j = D.length := by omega
                have hTe : firstT (pickR r D) j = pickR r D := List.take_of_length_le (by omega)
                have ho7 : OII wr (.slice va (firstT (pickR r D) j).length vc) (pickR r D) fp := by
                  have := ho6
                  rw [hTe] at this ⊢
                  exact this
                clear hTe
                have hEE6 := hEE5.tr hE6
                have hx6 := hx.ext hE6
                have hY3 : w.heap.size ≤ Y := by omega
                go_wp2_with fail
                go_ret3
                exact BreaksRes.some HN.out hEE6 (by rw [HLK.out]; exact ho7) (by rw [HLK.out]; exact hx6) (fun g hg => Nat.le_trans hY3 (hfp g hg)) (fun g hg => Nat.le_trans hq5 (hfx g hg)) (fun g hg hm => by have := hfp g hg; have := hfx2 g hm; omega) (by rw [HLK.out]; exact HMV.out) (by rw [HLK.out]; exact HLF.out.2)
    · have HN := Lib.hid (firsts_none (s := s) fun j hj => HB.out j (by omega))
      have hsz := hEE.size
      have hA1 : Ext wr (wr.alloc (.cells #[] 25)) := (Ext.refl' wr).alloc (Nat.le_refl _) _
      have hA2 : Ext (wr.alloc (.cells #[] 25)) ((wr.alloc (.cells #[] 25)).alloc (.cells #[] 2)) := (Ext.refl' _).alloc (Nat.le_refl _) _
      have h1 : OII (wr.alloc (.cells #[] 25)) (.slice (.some ⟨wr.heap.size, 0, none⟩) 0 0) [] [wr.heap.size] := OwnL.made _ _ (World.ownsRow_made wr #[] 0 (Nat.zero_le _) (by decide) rfl)
      have h2 : OI ((wr.alloc (.cells #[] 25)).alloc (.cells #[] 2)) (.slice (.some ⟨wr.heap.size + 1, 0, none⟩) 0 0) [] [wr.heap.size + 1] := ⟨by have := World.ownsRow_made (wr.alloc (.cells #[] 25)) (e := 2) (size := 1) #[] 0 (Nat.zero_le _) (by decide) rfl; simpa using this, rfl⟩
      go_wp2_with fail
      go_ret3
      unfold BreaksRes
      rw [HN.out]
      exact ⟨wr.heap.size, wr.heap.size + 1, rfl, hEE.tr (hA1.tr hA2), hsz, by omega, h1.ext hA2, h2⟩
end Go.Proofs.Ytemhmpnnccmlmaa
