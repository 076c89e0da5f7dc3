
/- BreakingTuples: the program's and the reference's give one function's answers. -/
import Derived.Test.YtemhmpnnccmlmaaKeeps
import Derived.Test.YtemhmpnnccmlmaaBoxI
namespace Go.Proofs.Ytemhmpnnccmlmaa
open Go.RowKit
set_option linter.unusedVariables false

/-- what a function leaves that answers lists, numbers and a code -/
def IIIRes (R : List (List Int) × List Int × Int) (w : World) (e : Ending) (w' : World) : Prop :=
  ∃ u fp x fx, e = .returned (.tuple #[u, x, .int .i64 R.2.2]) ∧ Ext w w' ∧ OII w' u R.1 fp ∧ (∀ h ∈ fp, w.heap.size ≤ h) ∧ OI w' x R.2.1 fx ∧ (∀ h ∈ fx, w.heap.size ≤ h) ∧ (∀ g ∈ fp, g ∉ fx) ∧ mkII R.1 ≤ 1048576 ∧ R.2.1.length ≤ 1048576
theorem IIIRes.no {c : Int} {w w' : World} (hE : Ext w w') : IIIRes ([], [], c) w (.returned (.tuple #[.slice none 0 0, .slice none 0 0, .int .i64 c])) w' :=
  ⟨_, [], _, [], rfl, hE, OII_nil _, by simp, OI_nil _, by simp, by simp, Nat.zero_le _, Nat.zero_le _⟩
theorem IIIRes.no2 {c : Int} {w w1 : World} (hE : Ext w w1) : IIIRes ([], [], c) w (.returned (.tuple #[.slice (some ⟨w1.heap.size, 0, none⟩) 0 0, .slice (some ⟨w1.heap.size + 1, 0, none⟩) 0 0, .int .i64 c])) ((w1.alloc (.cells #[] 25)).alloc (.cells #[] 2)) := by
  have hsz := hE.size
  have hA1 : Ext w1 (w1.alloc (.cells #[] 25)) := (Ext.refl' w1).alloc (Nat.le_refl _) _
  have hA2 : Ext (w1.alloc (.cells #[] 25)) ((w1.alloc (.cells #[] 25)).alloc (.cells #[] 2)) := (Ext.refl' _).alloc (Nat.le_refl _) _
  have h1 : OII (w1.alloc (.cells #[] 25)) (.slice (.some ⟨w1.heap.size, 0, none⟩) 0 0) [] [w1.heap.size] := OwnL.made _ _ (World.ownsRow_made w1 #[] 0 (Nat.zero_le _) (by decide) rfl)
  have h2 : OI ((w1.alloc (.cells #[] 25)).alloc (.cells #[] 2)) (.slice (.some ⟨w1.heap.size + 1, 0, none⟩) 0 0) [] [w1.heap.size + 1] := ⟨by have := World.ownsRow_made (w1.alloc (.cells #[] 25)) (e := 2) (size := 1) #[] 0 (Nat.zero_le _) (by decide) rfl; simpa using this, rfl⟩
  exact ⟨_, _, _, _, rfl, hE.tr (hA1.tr hA2), h1.ext hA2, by simp; omega, h2, by simp; omega, by simp, Nat.zero_le _, Nat.zero_le _⟩

def SP.resIII (B : Nat) (R : List (List Int) × List Int × Int) : SP := ⟨fun v w => ∃ u fp x fx, v = .tuple #[u, x, .int .i64 R.2.2] ∧ (OII w u R.1 fp ∧ (∀ g ∈ fp, B ≤ g) ∧ mkII R.1 ≤ 1048576) ∧ OI w x R.2.1 fx ∧ (∀ g ∈ fx, B ≤ g) ∧ R.2.1.length ≤ 1048576,
  fun _ _ _ ⟨u, fp, x, fx, h1, ⟨h2, h3, h4⟩, h5, h6, h7⟩ hE => ⟨u, fp, x, fx, h1, ⟨h2.ext hE, h3, h4⟩, h5.ext hE, h6, h7⟩⟩
def SP.ownIIB (B : Nat) (f : List (List Int)) : SP := ⟨fun v w => ∃ fp, OII w v f fp ∧ (∀ g ∈ fp, B ≤ g) ∧ mkII f ≤ 1048576, fun _ _ _ ⟨fp, h1, h2, h3⟩ hE => ⟨fp, h1.ext hE, h2, h3⟩⟩
theorem IIIRes.sp {R : List (List Int) × List Int × Int} {B : Nat} {P : Program} {f : FuncId} {args : Array Value} {w : World} (h : Calls P f args w (IIIRes R w)) (hB : B ≤ w.heap.size) : Calls P f args w fun e w' => ∃ x, e = .returned x ∧ Ext w w' ∧ (SP.resIII B R).R x w' :=
  h.mono fun _ _ ⟨u, fp, x, fx, h1, h2, h3, h4, h5, h6, _, h8, h9⟩ => ⟨_, h1, h2, u, fp, x, fx, rfl, ⟨h3, fun g hg => Nat.le_trans hB (h4 g hg), h8⟩, h5, fun g hg => Nat.le_trans hB (h6 g hg), h9⟩
theorem Step.resIII0 {P : Program} {ops : List Oper} {o : Oper} {ρ : Operand → Value} {w : World} {B : Nat} {R : List (List Int) × List Int × Int} {x : Operand} (hg : o.guard = none) (hop : o.op = .extract x 0) (h : (SP.resIII B R).R (ρ x) w) : Step P ops o ρ w (SP.ownIIB B R.1).R := by
  obtain ⟨u, fp, x, fx, h1, h2, h3⟩ := h
  exact Step.extract hg hop h1 (by simp) ⟨fp, h2⟩
theorem Step.resIII1 {P : Program} {ops : List Oper} {o : Oper} {ρ : Operand → Value} {w : World} {B : Nat} {R : List (List Int) × List Int × Int} {x : Operand} (hg : o.guard = none) (hop : o.op = .extract x 1) (h : (SP.resIII B R).R (ρ x) w) : Step P ops o ρ w (SP.ownIB B R.2.1).R := by
  obtain ⟨u, fp, x, fx, h1, h2, h3⟩ := h
  exact Step.extract hg hop h1 (by simp) ⟨fx, h3⟩
theorem Step.resIII2 {P : Program} {ops : List Oper} {o : Oper} {ρ : Operand → Value} {w : World} {B : Nat} {R : List (List Int) × List Int × Int} {x : Operand} (hg : o.guard = none) (hop : o.op = .extract x 2) (h : (SP.resIII B R).R (ρ x) w) : Step P ops o ρ w (SP.val (.int .i64 R.2.2)).R := by
  obtain ⟨u, fp, x, fx, h1, h2, h3⟩ := h
  exact Step.extract hg hop h1 (by simp) rfl

def SBreakingTuples (s : Int) (f : OpD) (r : RelD) : List (List Int) × List Int × Int :=
  if SValidOp s f && SValidRel s r then match SFirst s f r with | some k => (listK f r k, SMake s f (listK f r k), 0) | none => ([], [], 6) else ([], [], 1)
theorem bt_1 {s : Int} {f : OpD} {r : RelD} (h : (SValidOp s f && SValidRel s r) = false) : SBreakingTuples s f r = ([], [], 1) := by unfold SBreakingTuples; rw [h]; rfl
theorem bt_6 {s : Int} {f : OpD} {r : RelD} (h : (SValidOp s f && SValidRel s r) = true) (h2 : SFirst s f r = none) : SBreakingTuples s f r = ([], [], 6) := by unfold SBreakingTuples; rw [h, h2]; rfl
theorem bt_0 {s : Int} {f : OpD} {r : RelD} {k : Nat} (h : (SValidOp s f && SValidRel s r) = true) (h2 : SFirst s f r = some k) : SBreakingTuples s f r = (listK f r k, SMake s f (listK f r k), 0) := by unfold SBreakingTuples; rw [h, h2]; rfl
theorem mkII_four : ∀ (l : List (List Int)), (∀ t ∈ l, t.length ≤ 4) → mkII l ≤ 4 * l.length
  | [], _ => Nat.zero_le _
  | t :: ts, h => by
    have h1 := mkII_four ts fun x hx => h x (List.mem_cons_of_mem _ hx)
    have h2 := h t (List.mem_cons_self ..)
    simp only [mkII, List.length_cons]
    omega
theorem bt_small {s : Int} {f : OpD} {r : RelD} (hf : SValidOp s f = true) (hr : SValidRel s r = true) (k : Nat) (h5 : ∀ t ∈ listK f r k, vals s t r.1 = true) (h4 : vals s (SMake s f (listK f r k)) r.1 = true) : mkII (listK f r k) ≤ 1048576 ∧ (SMake s f (listK f r k)).length ≤ 1048576 := by
  obtain ⟨_, h2, _⟩ := valid_parts hr
  have h3 := (valid_iff.1 hf).2.1
  have h6 := mkII_four (listK f r k) fun t ht => by have := vals_len (h5 t ht); omega
  have h7 := vals_len h4
  rw [listK_length] at h6
  omega

set_option maxHeartbeats 1000000 in
theorem clone_any (l : List Int) (v : Value) (w : World) (hr : RdI w v l) (h0 : 0 < l.length) (hl : l.length ≤ 1048576) :
    Calls Try.prog 118 #[v] w fun e w' => ∃ u fp, e = .returned u ∧ Ext w w' ∧ OI w' u l fp ∧ ∀ g ∈ fp, w.heap.size ≤ g := by
  have q1 := eqlNil_some
  obtain ⟨a, b, off, c, rfl, hlc, hcm, ha, hc⟩ := hr
  obtain ⟨i0, hi, hz0, hz1, hz2⟩ := info_parts infoI
  obtain rfl := ha h0
  have hA : Ext w (w.alloc (.cells #[] 2)) := (Ext.refl' w).alloc (Nat.le_refl _) _
  have hx : ∀ (j : Nat) u, (l.map (Value.int .i64))[j]? = some u → (w.alloc (.cells #[] 2)).cell? ((⟨b, off, none⟩ : Addr).add j) = some u := by
    intro j u hj
    rw [List.getElem?_map] at hj
    by_cases hjl : j < l.length
    · rw [List.getElem?_eq_getElem hjl] at hj
      simp at hj
      subst hj
      have := hA.cell (hc j hjl)
      simp only [Addr.add]
      split
      · rename_i h0
        subst h0
        simpa using this
      · exact this
    · rw [List.getElem?_eq_none (by omega)] at hj
      simp at hj
  have ho := World.ownsRow_made (e := 2) (size := 1) w #[] 0 (Nat.le_refl _) (by decide) rfl
  go_enter Try.func118, Try.ntmps118
  go_wp2_with (at_builtin; refine wpList_append_own _ rfl _ _ 25 rfl w.heap.size 2 i0 (.int .i64 0) 1 8 Try.underlying25 hi hz0 hz1 hz2 rfl (by decide) _ _ _ rfl ho ⟨b, off, none⟩ l.length c (l.map (Value.int .i64)) rfl (by simp) hx (by simp [Value.oneCell']) (by unfold maxLen; omega) (by omega) (by simp) ?_)
  intro v' w4 ho4 hg4 _
  have hE4 : Ext w w4 := hA.grown hg4 (by simp) (fun k hk => by have := (ho.lt k hk).1; omega)
  clear hg4 hA ho hx
  go_wp2_with fail
  go_ret
  exact ⟨_, _, rfl, hE4, ⟨own_base ho4 (fun _ _ => Nat.zero_le _), rfl⟩, fun g hg => (ho4.lt g (by simpa using hg)).1⟩
set_option maxHeartbeats 2000000 in
theorem ownLists_any (ll : List (List Int)) (v : Value) (w : World) (hr : RdII w v ll) (hl : ll.length ≤ 1048576) (hv : ∀ t ∈ ll, 0 < t.length ∧ t.length ≤ 1048576) :
    Calls Try.prog 81 #[v] w fun e w' => ∃ u fp, e = .returned u ∧ Ext w w' ∧ OII w' u ll fp ∧ ∀ g ∈ fp, w.heap.size ≤ g := by
  obtain ⟨a, b, off, c, ls, rfl, hlc, hcm, ha, hc⟩ := hr
  have HV := Lib.hid hv
  have HC := Lib.hid hc
  clear hv hc
  have hA6 : Ext w (w.alloc (.cells #[] 25)) := (Ext.refl' w).alloc (Nat.le_refl _) _
  have hnew : OII (w.alloc (.cells #[] 25)) (.slice (.some ⟨w.heap.size, 0, none⟩) 0 0) (firstT ll 0) [w.heap.size] := OwnL.made _ _ (World.ownsRow_made w #[] 0 (Nat.zero_le _) (by decide) rfl)
  go_enter Try.func81, Try.ntmps81
  go_wp2_with fail
  go_loopw [3, 9] (fun t i wz => ∃ (j : Nat) (fp : List Nat), j ≤ ll.length ∧ i = .int .i64 j ∧ Ext w wz ∧ OII wz t (firstT ll j) fp ∧ ∀ g ∈ fp, w.heap.size ≤ g) (fun _ i _ => ll.length - (intOf i).toNat)
  case atStart => exact ⟨0, _, by omega, rfl, hA6, hnew, by simp⟩
  case round =>
    obtain ⟨j, fp, hj, rfl, hE6, ho6, hfp⟩ := hrel
    obtain ⟨va, vc, hvf⟩ := ho6.form
    subst hvf
    by_cases hjl : j < ll.length
    · obtain rfl := ha (by omega)
      obtain ⟨k1, k2⟩ := HC.out j hjl
      replace k1 := hE6.cell k1
      replace k2 := k2.ext hE6
      obtain ⟨hjl1, hjl2⟩ := HV.out _ (List.getElem_mem hjl)
      have HT := Lib.hid (show firstT ll (j + 1) = firstT ll j ++ [ll[j]] from List.take_succ_eq_append_getElem hjl)
      generalize ls j = yy at k1 k2
      obtain ⟨ya, yc, rfl⟩ := k2.form
      have hlt : (firstT ll j).length ≤ 1048576 := by unfold firstT; rw [List.length_take]; omega
      have HLT := Lib.hid hlt
      clear hlt
      generalize ll[j] = X at *
      go_wp2_with fail
      refine (clone_any _ _ _ k2 hjl1 hjl2).mono ?_
      rintro e w7 ⟨u, fu, rfl, hE7, hu, hfu⟩
      obtain ⟨xa', xc', rfl⟩ := hu.form
      have hsz7 := hE6.size
      have hA7 : Ext w7 (w7.alloc (.cells #[.slice xa' X.length xc'] 25)) := (Ext.refl' w7).alloc (Nat.le_refl _) _
      have hd7 : ∀ g ∈ fu, g ∉ fp := fun g hg hm => by have := hfu g hg; have := ho6.lt g hm; omega
      go_wp2_with (at_builtin; (refine OII.app (ho6.ext (hE7.tr hA7)) hfp (by have := hE7.size; have := hA7.size; omega) (hu.ext hA7) (fun g hg => by have := hfu g hg; omega) hd7 HLT.out (b' := w7.heap.size) (u := .slice xa' X.length xc') (by simp [go_sem]) rfl (.tmp 13) (.tmp 16) rfl rfl rfl ?_))
      intro v' w8 fp' ho8 hfp8 hkeep
      have hE8 := hkeep w (hE6.tr (hE7.tr hA7)) (Nat.le_refl _)
      rw [← HT.out] at ho8
      clear hkeep ho6 hu hE7 hA7 hE6
      go_wp2_with fail
      go_roundw
      case rel => exact ⟨j + 1, fp', by omega, by go_num, hE8, ho8, hfp8⟩
      case measure => simp [intOf]; omega
    · have hTe : firstT ll j = ll := List.take_of_length_le (by omega)
      have ho7 : OII wr (.slice va (firstT ll j).length vc) ll fp := by
        have := ho6
        rw [hTe] at this ⊢
        exact this
      clear hTe
      go_wp2_with fail
      go_ret
      exact ⟨_, fp, rfl, hE6, ho7, hfp⟩
set_option maxHeartbeats 1000000 in
set_option maxRecDepth 100000 in
theorem implBreakingTuples_any (s : Int) (f : OpD) (v : Value) (r : RelD) (u : Value) (w : World) (hr : RdOp w v f) (hs : RdRel w u r) (_ : -9223372036854775808 ≤ s) (_ : s ≤ 9223372036854775807) (_ : szOp f ≤ 1048576) (_ : szRel r ≤ 1048576) :
    Calls Try.prog 35 #[.int .i64 s, v, u] w (IIIRes (SBreakingTuples s f r) w) := by
  have q1 := eqlNil_some
  have q2 := eqlNil_none
  obtain ⟨tv, rfl, hr'⟩ := hr
  obtain ⟨fa, fc, rfl⟩ := hr'.form
  have hr : RdOp w _ f := ⟨_, rfl, hr'⟩
  obtain ⟨tu, rfl, hs'⟩ := hs
  obtain ⟨ra, rc, rfl⟩ := hs'.form
  have hs : RdRel w _ r := ⟨_, rfl, hs'⟩
  have hE1 : Ext w ((w.alloc (.cells #[.int .i64 f.1, .slice fa f.2.length fc] 41)).alloc (.cells #[.int .i64 r.1, .slice ra r.2.length rc] 27)) := ((Ext.refl' w).alloc (Nat.le_refl _) _).alloc (by simp) _
  cases h1 : SValidOp s f with
  | false =>
    rw [bt_1 (by rw [h1]; rfl)]
    go_enter Try.func35, Try.ntmps35
    go_wp2_with fail
    refine (implValidOp_ok s f _ _ (hr.ext hE1)).mono ?_
    rintro e w1 ⟨rfl, hE⟩
    rw [h1]
    have b0 := hE.cell (p := ⟨w.heap.size, 0, none⟩) (v := .int .i64 f.1) (by simp [go_sem])
    have b1 := hE.cell (p := ⟨w.heap.size, 1, none⟩) (v := .slice fa f.2.length fc) (by simp [go_sem])
    have c0 := hE.cell (p := ⟨w.heap.size + 1, 0, none⟩) (v := .int .i64 r.1) (by simp [go_sem])
    have c1 := hE.cell (p := ⟨w.heap.size + 1, 1, none⟩) (v := .slice ra r.2.length rc) (by simp [go_sem])
    replace hE := hE1.tr hE
    go_wp2_with fail
    go_ret3
    exact IIIRes.no hE
  | true =>
    cases h2 : SValidRel s r with
    | false =>
      rw [bt_1 (by rw [h1, h2]; rfl)]
      go_enter Try.func35, Try.ntmps35
      go_wp2_with fail
      refine (implValidOp_ok s f _ _ (hr.ext hE1)).mono ?_
      rintro e w1 ⟨rfl, hE⟩
      rw [h1]
      have b0 := hE.cell (p := ⟨w.heap.size, 0, none⟩) (v := .int .i64 f.1) (by simp [go_sem])
      have b1 := hE.cell (p := ⟨w.heap.size, 1, none⟩) (v := .slice fa f.2.length fc) (by simp [go_sem])
      have c0 := hE.cell (p := ⟨w.heap.size + 1, 0, none⟩) (v := .int .i64 r.1) (by simp [go_sem])
      have c1 := hE.cell (p := ⟨w.heap.size + 1, 1, none⟩) (v := .slice ra r.2.length rc) (by simp [go_sem])
      replace hE := hE1.tr hE
      go_wp2_with fail
      refine (implValidRel_ok s r _ _ (hs.ext hE)).mono ?_
      rintro e w2 ⟨rfl, hE2⟩
      rw [h2]
      replace b0 := hE2.cell b0
      replace b1 := hE2.cell b1
      replace c0 := hE2.cell c0
      replace c1 := hE2.cell c1
      replace hE := hE.tr hE2
      clear hE2
      go_wp2_with fail
      go_ret3
      exact IIIRes.no hE
    | true =>
      have hok : (SValidOp s f && SValidRel s r) = true := by rw [h1, h2]; rfl
      go_enter Try.func35, Try.ntmps35
      go_wp2_with fail
      refine (implValidOp_ok s f _ _ (hr.ext hE1)).mono ?_
      rintro e w1 ⟨rfl, hE⟩
      rw [h1]
      have b0 := hE.cell (p := ⟨w.heap.size, 0, none⟩) (v := .int .i64 f.1) (by simp [go_sem])
      have b1 := hE.cell (p := ⟨w.heap.size, 1, none⟩) (v := .slice fa f.2.length fc) (by simp [go_sem])
      have c0 := hE.cell (p := ⟨w.heap.size + 1, 0, none⟩) (v := .int .i64 r.1) (by simp [go_sem])
      have c1 := hE.cell (p := ⟨w.heap.size + 1, 1, none⟩) (v := .slice ra r.2.length rc) (by simp [go_sem])
      replace hE := hE1.tr hE
      go_wp2_with fail
      refine (implValidRel_ok s r _ _ (hs.ext hE)).mono ?_
      rintro e w2 ⟨rfl, hE2⟩
      rw [h2]
      replace b0 := hE2.cell b0
      replace b1 := hE2.cell b1
      replace c0 := hE2.cell c0
      replace c1 := hE2.cell c1
      replace hE := hE.tr hE2
      clear hE2
      go_wp2_with fail
      refine (broken_any s f _ r _ _ (hr.ext hE) (hs.ext hE) h1 h2).mono ?_
      intro e w3 hB
      unfold BrokenRes at hB
      cases hF : SFirst s f r with
      | none =>
        rw [hF] at hB
        obtain ⟨rfl, hE3⟩ := hB
        have HK := Lib.hid (bt_6 hok hF)
        clear hF
        go_wp2_with fail
        go_ret3
        rw [HK.out]
        exact IIIRes.no (hE.tr hE3)
      | some k =>
        rw [hF] at hB
        obtain ⟨lv, x, fx, rfl, hE3, hl, hx, hfx, hv4, hv5⟩ := hB
        have HK := Lib.hid (bt_0 hok hF)
        have hsm := bt_small h1 h2 k hv5 hv4
        have HSM := Lib.hid hsm
        obtain ⟨la, lc, rfl⟩ := hl.form
        have hlen := vals_len hv4
        have hm := (valid_parts h2).2.1
        have hfo := hx.rd
        obtain ⟨xa, xb, xoff, xc, rfl, -, -, hxa, -⟩ := hfo
        obtain rfl := hxa (by omega)
        have hlk : (listK f r k).length ≤ 1048576 := by rw [listK_length]; have := (valid_iff.1 h1).2.1; omega
        have hne : ∀ t ∈ listK f r k, 0 < t.length ∧ t.length ≤ 1048576 := fun t ht => by have := vals_len (hv5 t ht); omega
        have hsz := hE.size
        have hsz3 := hE3.size
        clear hF hv4 hlen hsm
        go_wp2_with fail
        refine (ownLists_any _ _ _ hl hlk hne).mono ?_
        rintro e w4 ⟨u', fp, rfl, hE4, ho4, hfp⟩
        obtain ⟨ua', uc', rfl⟩ := ho4.form
        have hlt := hx.lt
        go_wp2_with fail
        go_ret3
        rw [HK.out]
        exact ⟨_, fp, _, fx, rfl, hE.tr (hE3.tr hE4), ho4, fun g hg => by have := hfp g hg; omega, hx.ext hE4, fun g hg => by have := hfx g hg; omega, fun g hg hm => by have := hfp g hg; have := hlt g hm; omega, HSM.out.1, HSM.out.2⟩
set_option maxHeartbeats 1000000 in
set_option maxRecDepth 100000 in
theorem specBreakingTuples_any (s : Int) (f : OpD) (v : Value) (r : RelD) (u : Value) (w : World) (hr : RdOp w v f) (hs : RdRel w u r) (_ : -9223372036854775808 ≤ s) (_ : s ≤ 9223372036854775807) (_ : szOp f ≤ 1048576) (_ : szRel r ≤ 1048576) :
    Calls Try.prog 34 #[.int .i64 s, v, u] w (IIIRes (SBreakingTuples s f r) w) := by
  obtain ⟨tv, rfl, hr'⟩ := hr
  obtain ⟨fa, fc, rfl⟩ := hr'.form
  have hr : RdOp w _ f := ⟨_, rfl, hr'⟩
  obtain ⟨tu, rfl, hs'⟩ := hs
  obtain ⟨ra, rc, rfl⟩ := hs'.form
  have hs : RdRel w _ r := ⟨_, rfl, hs'⟩
  have hE1 : Ext w ((w.alloc (.cells #[.int .i64 f.1, .slice fa f.2.length fc] 41)).alloc (.cells #[.int .i64 r.1, .slice ra r.2.length rc] 27)) := ((Ext.refl' w).alloc (Nat.le_refl _) _).alloc (by simp) _
  have hp : PtOp ((w.alloc (.cells #[.int .i64 f.1, .slice fa f.2.length fc] 41)).alloc (.cells #[.int .i64 r.1, .slice ra r.2.length rc] 27)) (.pointer (some ⟨w.heap.size, 0, none⟩)) f := ⟨_, _, _, rfl, by simp [go_sem], by simp [go_sem], hr'.ext hE1⟩
  have hq : PtRel ((w.alloc (.cells #[.int .i64 f.1, .slice fa f.2.length fc] 41)).alloc (.cells #[.int .i64 r.1, .slice ra r.2.length rc] 27)) (.pointer (some ⟨w.heap.size + 1, 0, none⟩)) r := ⟨_, _, _, rfl, by simp [go_sem], by simp [go_sem], hs'.ext hE1⟩
  cases h : SValidOp s f && SValidRel s r with
  | false =>
    rw [bt_1 h]
    go_enter Try.func34, Try.ntmps34
    go_wp2_with fail
    refine (l02Both_any s f _ r _ _ hp hq).mono ?_
    rintro e w1 ⟨rfl, hE⟩
    rw [h, if_neg (by decide)]
    go_wp2_with fail
    go_ret3
    exact IIIRes.no2 (hE1.tr hE)
  | true =>
    have hh := Bool.and_eq_true_iff.1 h
    go_enter Try.func34, Try.ntmps34
    go_wp2_with fail
    refine (l02Both_any s f _ r _ _ hp hq).mono ?_
    rintro e w1 ⟨rfl, hE⟩
    rw [h, if_pos rfl]
    go_wp2_with fail
    refine (l02Breaks_any s f _ r _ _ (hp.ext hE) (hq.ext hE) hh.1 hh.2).mono ?_
    intro e w2 hB
    replace hE := hE1.tr hE
    have hsz := hE.size
    unfold BreaksRes at hB
    cases hF : SFirst s f r with
    | none =>
      rw [hF] at hB
      obtain ⟨p, q, rfl, hE2, -⟩ := hB
      have HK := Lib.hid (bt_6 h hF)
      clear hF
      go_wp2_with fail
      go_ret3
      rw [HK.out]
      exact IIIRes.no2 (hE.tr hE2)
    | some k =>
      rw [hF] at hB
      obtain ⟨lv, x, fp, fx, rfl, hE2, hl, hx, hfp, hfx, hdj, hv4, hv5⟩ := hB
      have HK := Lib.hid (bt_0 h hF)
      have HSM := Lib.hid (bt_small hh.1 hh.2 k hv5 hv4)
      obtain ⟨la, lc, rfl⟩ := hl.form
      obtain ⟨xa, xc, rfl⟩ := hx.form
      clear hF
      go_wp2_with fail
      go_ret3
      rw [HK.out]
      exact ⟨_, fp, _, fx, rfl, hE.tr hE2, hl, fun g hg => by have := hfp g hg; omega, hx, fun g hg => by have := hfx g hg; omega, hdj, HSM.out.1, HSM.out.2⟩
end Go.Proofs.Ytemhmpnnccmlmaa
