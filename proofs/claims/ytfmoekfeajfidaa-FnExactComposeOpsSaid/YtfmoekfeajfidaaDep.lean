
/- DependsOn: the program's and the reference's give one function's answers. -/
import Derived.Test.YtfmoekfeajfidaaAll
import Derived.Test.YtfmoekfeajfidaaIRes
namespace Go.Proofs.Ytfmoekfeajfidaa
open Go.RowKit
set_option linter.unusedVariables false

def depF (s : Int) (f : Int × List Int) (p : Nat) (l : List Int) : Bool := decide (apply s f (l.set p 0) = apply s f l)
def depList (s : Int) (f : Int × List Int) (k : Nat) : List Int := ((List.range k).filter fun p => !(allL s f.1 (depF s f p))).map fun p : Nat => (p : Int)
theorem depList_length (s : Int) (f : Int × List Int) (k : Nat) : (depList s f k).length ≤ k := by
  unfold depList
  rw [List.length_map]
  exact Nat.le_trans (List.length_filter_le _ _) (by simp)
theorem depList_yes {s : Int} {f : Int × List Int} {k : Nat} (h : allL s f.1 (depF s f k) = false) : depList s f (k + 1) = depList s f k ++ [(k : Int)] := by
  unfold depList
  rw [List.range_succ, List.filter_append, List.map_append]
  simp [h]
theorem depList_no {s : Int} {f : Int × List Int} {k : Nat} (h : allL s f.1 (depF s f k) = true) : depList s f (k + 1) = depList s f k := by
  unfold depList
  rw [List.range_succ, List.filter_append, List.map_append]
  simp [h]
def SDependsOn (s : Int) (f : Int × List Int) : List Int × Int := if SValidOp s f then (depList s f f.1.toNat, 0) else ([], 1)

theorem set_vals {s : Int} {l : List Int} {p : Nat} (hs : 1 ≤ s) (hv : ∀ a ∈ l, 0 ≤ a ∧ a < s) : ∀ a ∈ l.set p 0, 0 ≤ a ∧ a < s := by
  intro a ha
  rcases List.mem_or_eq_of_mem_set ha with h | rfl
  · exact hv a h
  · omega
theorem valid_count {s : Int} {f : Int × List Int} (hf : SValidOp s f = true) : count s f.1 = f.2.length := by
  obtain ⟨h1, h2, h3, _⟩ := valid_iff.1 hf
  have := count_eq s f.1 h1.1 h1.2 h2.1 (by omega)
  omega
theorem apply_digs {s : Int} {f : Int × List Int} (hf : SValidOp s f = true) {n : Nat} (hn : n < f.2.length) : apply s f (digs s f.1.toNat n) = f.2[n] := by
  obtain ⟨h1, h2, h3, _⟩ := valid_iff.1 hf
  rw [powW_eq s _ h1.1 h1.2 (by omega)] at h3
  unfold apply
  rw [digs_code s h1.1 _ _ (by omega) (by omega), Int.toNat_natCast, List.getD_eq_getElem?_getD, List.getElem?_eq_getElem hn]
  rfl

set_option maxHeartbeats 2000000 in
theorem depFn_any (s : Int) (f : Int × List Int) (tv : Value) (bs bf bp p k : Nat) (x : Value) (fp : List Nat) (w : World) (hr : RdOp w (.agg #[.int .i64 f.1, tv]) f) (hf : SValidOp s f = true) (hp : (p : Int) < f.1)
    (c0 : w.cell? ⟨bs, 0, none⟩ = some (.int .i64 s)) (c1 : w.cell? ⟨bf, 0, none⟩ = some (.int .i64 f.1)) (c2 : w.cell? ⟨bf, 1, none⟩ = some tv) (c3 : w.cell? ⟨bp, 0, none⟩ = some (.int .i64 p)) (hx : OI w x (digs s f.1.toNat k) fp)
    (n0 : bs ∉ fp) (n1 : bf ∉ fp) (n2 : bp ∉ fp) (hr2 : ∀ w', Off fp w w' → RdOp w' (.agg #[.int .i64 f.1, tv]) f) :
    Calls Try.prog 73 #[x, .pointer (some ⟨bf, 0, none⟩), .pointer (some ⟨bs, 0, none⟩), .pointer (some ⟨bp, 0, none⟩)] w fun e w' => e = .returned (.bool (depF s f p (digs s f.1.toNat k))) ∧ Off fp w w' := by
  have hv := (valid_iff.1 hf).2.1
  have hs1 := (valid_iff.1 hf).1.1
  have hdv := Lib.hid (digs_val s hs1 f.1.toNat k (by omega))
  have hlen := digs_length s f.1.toNat k
  go_enter Try.func73, Try.ntmps73
  go_wp2_with fail
  refine (opAt_any s f _ _ _ _ hr hx.rd hf (by rw [hlen]; omega) hdv.out).mono ?_
  rintro e w1 ⟨rfl, hE⟩
  have c0 := hE.cell c0
  have c1 := hE.cell c1
  have c2 := hE.cell c2
  have c3 := hE.cell c3
  replace hx := hx.ext hE
  obtain ⟨b, cap, rfl, ⟨u, hu⟩, hfz, hb, q1, q2, hx2⟩ := OI_store hx p (by rw [hlen]; omega) 0
  have hO : Off fp w (w1.setCell ⟨b, p, none⟩ (.int .i64 0)) := (Off.of_ext hE).trans (Off.set hb)
  have d0 := cell_set (q := ⟨b, p, none⟩) (u := .int .i64 0) c0 (.inl fun (h : b = bs) => n0 (h ▸ hb))
  have d1 := cell_set (q := ⟨b, p, none⟩) (u := .int .i64 0) c1 (.inl fun (h : b = bf) => n1 (h ▸ hb))
  have d2 := cell_set (q := ⟨b, p, none⟩) (u := .int .i64 0) c2 (.inl fun (h : b = bf) => n1 (h ▸ hb))
  rw [hlen] at hx2 ⊢
  have hpl : (p : Int) < (f.1.toNat : Int) := by omega
  go_wp2_with fail
  refine (opAt_any s f _ _ _ _ (hr2 _ hO) hx2.rd hf (by rw [List.length_set, hlen]; omega) (set_vals hs1 hdv.out)).mono ?_
  rintro e w2 ⟨rfl, hE2⟩
  have HD := Lib.hid (show depF s f p (digs s f.1.toNat k) = decide (apply s f ((digs s f.1.toNat k).set p 0) = apply s f (digs s f.1.toNat k)) from rfl)
  go_wp2_with fail
  go_ret
  exact ⟨ret_bool HD.out.symm, hO.trans (Off.of_ext hE2)⟩

theorem implDependsOn_any (s : Int) (f : Int × List Int) (v : Value) (w : World) (hr : RdOp w v f) (lo0 : -9223372036854775808 ≤ s) (hi0 : s ≤ 9223372036854775807) (_ : szOp f ≤ 1048576) :
    Calls Try.prog 34 #[.int .i64 s, v] w (IRes (SDependsOn s f) w) := by
  obtain ⟨i0, hi, hz0, hz1, hz2⟩ := info_parts infoI
  have hmf : ∀ (fn : Fn) (first cap : Array Value) (w : World), (Instr.makeFunc fn first cap).run Try.prog w = .ok (.func fn first cap) w := fun _ _ _ _ => rfl
  obtain ⟨tv, rfl, hr'⟩ := hr
  obtain ⟨ta, tc, rfl⟩ := hr'.form
  have hr : RdOp w _ f := ⟨_, rfl, hr'⟩
  clear hr'
  have hE1 : Ext w ((w.alloc (.cells #[.int .i64 s] 2)).alloc (.cells #[.int .i64 f.1, .slice ta f.2.length tc] 30)) := ((Ext.refl' w).alloc (Nat.le_refl _) _).alloc (by simp) _
  cases h1 : SValidOp s f with
  | false =>
    rw [show SDependsOn s f = ([], 1) from by unfold SDependsOn; rw [h1]; rfl]
    go_enter Try.func34, Try.ntmps34
    go_wp2_with fail
    refine (implValidOp_ok _ _ _ _ (hr.ext hE1)).mono ?_
    rintro e w1 ⟨rfl, hE⟩
    have b0 := hE.cell (p := ⟨w.heap.size, 0, none⟩) (v := .int .i64 s) (by simp [go_sem])
    have b1 := hE.cell (p := ⟨w.heap.size + 1, 0, none⟩) (v := .int .i64 f.1) (by simp [go_sem])
    have b2 := hE.cell (p := ⟨w.heap.size + 1, 1, none⟩) (v := .slice ta f.2.length tc) (by simp [go_sem])
    replace hE := hE1.tr hE
    go_wp2_with fail
    go_ret2
    exact IRes.no hE
  | true =>
    have hv := valid_iff.1 h1
    have hv1 := hv.1
    have hv2 := hv.2.1
    clear hv
    rw [show SDependsOn s f = (depList s f f.1.toNat, 0) from by unfold SDependsOn; rw [h1]; rfl]
    go_enter Try.func34, Try.ntmps34
    go_wp2_with fail
    refine (implValidOp_ok _ _ _ _ (hr.ext hE1)).mono ?_
    rintro e w1 ⟨rfl, hE⟩
    have b0 := hE.cell (p := ⟨w.heap.size, 0, none⟩) (v := .int .i64 s) (by simp [go_sem])
    have b1 := hE.cell (p := ⟨w.heap.size + 1, 0, none⟩) (v := .int .i64 f.1) (by simp [go_sem])
    have b2 := hE.cell (p := ⟨w.heap.size + 1, 1, none⟩) (v := .slice ta f.2.length tc) (by simp [go_sem])
    replace hE := hE1.tr hE
    have q1 : w.heap.size + 1 < w1.heap.size := lt_of_cell b1
    go_wp2_with fail
    go_loopw [6, 16] (fun t i wr => ∃ k : Nat, k ≤ f.1.toNat ∧ i = .int .i64 k ∧ Ext w1 wr ∧ wr.ownsRow w1.heap.size 2 1 t (depList s f k).length ((depList s f k).map (Value.int .i64)))
      (fun _ i _ => f.1.toNat - (intOf i).toNat)
    case atStart =>
      exact ⟨0, by omega, rfl, (Ext.refl' w1).alloc (Nat.le_refl _) _, World.ownsRow_made w1 #[] 0 (Nat.le_refl _) (by decide) rfl⟩
    case round =>
      obtain ⟨k, hk, rfl, hE2, ho⟩ := hrel
      have hlen := depList_length s f k
      by_cases hkl : k < f.1.toNat
      · have hkf : (k : Int) < f.1 := by omega
        have c0 := hE2.cell b0
        have c1 := hE2.cell b1
        have c2 := hE2.cell b2
        obtain ⟨oa, ob, oc, rfl, -⟩ := own_parts ho
        have q2 := hE2.size
        have r0 : w.heap.size < wr.heap.size := lt_of_cell c0
        have r1 : w.heap.size + 1 < wr.heap.size := lt_of_cell c1
        go_wp2_with fail
        have hA : Ext wr (wr.alloc (.cells #[.int .i64 (k : Nat)] 2)) := (Ext.refl' wr).alloc (Nat.le_refl _) _
        refine (allLists_any s f.1 (depF s f k) _ _ _ _ hv1.1 hv1.2 hv2.1 (by omega) Try.call73 ?_).mono ?_
        · intro j x fp w' hj hE' hx hfp
          simp only [List.append_toArray, List.nil_append, List.cons_append]
          have hfp' : ∀ h ∈ fp, wr.heap.size + 1 ≤ h := fun h hh => by have := hfp h hh; simpa using this
          refine (depFn_any s f _ _ _ _ k j x fp w' (((hr.ext hE).ext hE2).ext (hA.tr hE')) h1 hkf (hE'.cell (hA.cell c0)) (hE'.cell (hA.cell c1)) (hE'.cell (hA.cell c2)) (hE'.cell (p := ⟨wr.heap.size, 0, none⟩) (by simp [go_sem])) hx
            (fun h => by have := hfp' _ h; omega) (fun h => by have := hfp' _ h; omega) (fun h => by have := hfp' _ h; omega) ?_).mono ?_
          · intro w'' hO
            exact ((hr.ext hE).ext hE2).ext (Below.trans (hA.tr hE') (hO.below (hA.tr hE').size fun g hg => by have := hfp' g hg; omega))
          · rintro e w'' ⟨rfl, hO⟩
            exact ⟨rfl, Below.trans hE' (hO.below hE'.size hfp)⟩
        rintro e w3 ⟨rfl, hE3⟩
        have hE4 := hE2.tr (hA.tr hE3)
        have cc := hE3.cell (p := ⟨wr.heap.size, 0, none⟩) (v := .int .i64 k) (by simp [go_sem])
        have ho3 := own_ext (own_ext ho hA) hE3
        have q3 := hE4.size
        cases hd : allL s f.1 (depF s f k) with
        | true =>
          have HD := Lib.hid (depList_no hd)
          clear ho hE2 hE3 hA
          go_wp2_with fail
          go_roundw
          case rel => exact ⟨k + 1, by omega, by go_num, hE4, by rw [HD.out]; exact ho3⟩
          case measure => simp [intOf]; omega
        | false =>
          have HD := Lib.hid (depList_yes hd)
          clear ho hE2 hE3 hA
          go_wp2_with (at_builtin; refine wpList_append_own _ rfl _ _ 25 rfl w1.heap.size 2 i0 (.int .i64 0) 1 8 Try.underlying25 hi hz0 hz1 hz2 rfl (by decide) _ _ _ rfl (own_ext ho3 ((Ext.refl' w3).alloc (Nat.le_refl _) _)) ⟨w3.heap.size, 0, none⟩ 1 1 [.int .i64 k] rfl rfl (cells_one (by simp [go_sem])) (by simp [Value.oneCell']) (by unfold maxLen; omega) (by omega) (by simp; omega) ?_)
          intro v' w5 ho5 hg5 _
          have hA : Ext w3 (w3.alloc (.cells #[.int .i64 (k : Nat)] 2)) := (Ext.refl' w3).alloc (Nat.le_refl _) _
          have hE5 : Ext w1 w5 := (hE4.tr hA).grown hg5 (by simp; omega) (fun h hh => (ho3.lt h hh).1)
          have ho6 : w5.ownsRow w1.heap.size 2 1 v' (depList s f (k + 1)).length ((depList s f (k + 1)).map (Value.int .i64)) := by rw [HD.out, List.map_append, List.length_append]; exact ho5
          clear ho3 hE4 hg5 hA ho5 HD
          go_wp2_with fail
          go_roundw
          case rel => exact ⟨k + 1, by omega, by go_num, hE5, ho6⟩
          case measure => simp [intOf]; omega
      · go_wp2_with fail
        go_ret2
        have hkk : k = f.1.toNat := by omega
        subst hkk
        exact IRes.of rfl (hE.tr hE2) ⟨own_base ho (fun _ _ => Nat.zero_le _), rfl⟩ (fun h hh => by have := (ho.lt h (by simpa using hh)).1; omega) (by show (depList s f f.1.toNat).length ≤ _; omega)

theorem dep_not {s : Int} {f : Int × List Int} (hf : SValidOp s f = true) {p n : Nat} (hn : n < f.2.length) (h : ¬ apply s f ((digs s f.1.toNat n).set p 0) = f.2[n]) : allL s f.1 (depF s f p) = false :=
  allL_false (k := n) (by rw [valid_count hf]; exact hn) (by unfold depF; rw [apply_digs hf hn]; exact decide_eq_false h)
theorem dep_all {s : Int} {f : Int × List Int} (hf : SValidOp s f = true) {p : Nat} (h : ∀ n (hn : n < f.2.length), apply s f ((digs s f.1.toNat n).set p 0) = f.2[n]) : allL s f.1 (depF s f p) = true :=
  allL_true fun k hk => by
    have hk' : k < f.2.length := by rw [← valid_count hf]; exact hk
    unfold depF
    rw [apply_digs hf hk']
    exact decide_eq_true (h k hk')

set_option maxHeartbeats 4000000 in
set_option maxRecDepth 100000 in
theorem specDependsOn_any (s : Int) (f : Int × List Int) (v : Value) (w : World) (hr : RdOp w v f) (lo0 : -9223372036854775808 ≤ s) (hi0 : s ≤ 9223372036854775807) (hz : szOp f ≤ 1048576) :
    Calls Try.prog 33 #[.int .i64 s, v] w (IRes (SDependsOn s f) w) := by
  obtain ⟨i0, hi, hz0, hz1, hz2⟩ := info_parts infoI
  have hz2' : f.2.length ≤ 1048576 := hz
  obtain ⟨tv, rfl, hr⟩ := hr
  obtain ⟨ta, tc, rfl⟩ := hr.form
  have hE1 : Ext w (w.alloc (.cells #[.int .i64 f.1, .slice ta f.2.length tc] 30)) := (Ext.refl' w).alloc (Nat.le_refl _) _
  have hp : PtOp (w.alloc (.cells #[.int .i64 f.1, .slice ta f.2.length tc] 30)) (.pointer (some ⟨w.heap.size, 0, none⟩)) f := ⟨_, _, _, rfl, by simp [go_sem], by simp [go_sem], hr.ext hE1⟩
  replace hr := hr.ext hE1
  cases h1 : SValidOp s f with
  | false =>
    rw [show SDependsOn s f = ([], 1) from by unfold SDependsOn; rw [h1]; rfl]
    go_enter Try.func33, Try.ntmps33
    go_wp2_with fail
    refine (l02Ok_any _ _ _ _ hp).mono ?_
    rintro e w1 ⟨rfl, hE⟩
    replace hE := hE.ext
    have b1 := hE.cell (p := ⟨w.heap.size, 0, none⟩) (v := .int .i64 f.1) (by simp [go_sem])
    have b2 := hE.cell (p := ⟨w.heap.size, 1, none⟩) (v := .slice ta f.2.length tc) (by simp [go_sem])
    replace hp := hp.ext hE
    replace hr := hr.ext hE
    replace hE := hE1.tr hE
    go_wp2_with fail
    go_ret2
    exact IRes.no2 (hE.alloc (by have := hE.size; omega) _) (by have := hE.size; omega) (World.ownsRow_made w1 #[] 0 (Nat.zero_le _) (by decide) rfl)
  | true =>
    have hv := valid_iff.1 h1
    have hv1 := hv.1
    have hv2 := hv.2.1
    clear hv
    rw [show SDependsOn s f = (depList s f f.1.toNat, 0) from by unfold SDependsOn; rw [h1]; rfl]
    go_enter Try.func33, Try.ntmps33
    go_wp2_with fail
    refine (l02Ok_any _ _ _ _ hp).mono ?_
    rintro e w1 ⟨rfl, hE⟩
    replace hE := hE.ext
    have b1 := hE.cell (p := ⟨w.heap.size, 0, none⟩) (v := .int .i64 f.1) (by simp [go_sem])
    have b2 := hE.cell (p := ⟨w.heap.size, 1, none⟩) (v := .slice ta f.2.length tc) (by simp [go_sem])
    replace hp := hp.ext hE
    replace hr := hr.ext hE
    replace hE := hE1.tr hE
    have q1 : w.heap.size < w1.heap.size := lt_of_cell b1
    go_wp2_with fail
    go_loopw [6, 7] (fun t i wr => ∃ k : Nat, k ≤ f.1.toNat ∧ i = .int .i64 k ∧ Ext w1 wr ∧ wr.ownsRow w1.heap.size 2 1 t (depList s f k).length ((depList s f k).map (Value.int .i64)))
      (fun _ i _ => f.1.toNat - (intOf i).toNat)
    case atStart =>
      exact ⟨0, by omega, rfl, (Ext.refl' w1).alloc (Nat.le_refl _) _, World.ownsRow_made w1 #[] 0 (Nat.le_refl _) (by decide) rfl⟩
    case round =>
      rename World => wo
      obtain ⟨k, hk, rfl, hE2, ho⟩ := hrel
      have hlen := depList_length s f k
      have c1 := hE2.cell b1
      have c2 := hE2.cell b2
      by_cases hkl : k < f.1.toNat
      · have hkf : (k : Int) < f.1 := by omega
        obtain ⟨oa, ob, oc, rfl, -⟩ := own_parts ho
        have q2 := hE2.size
        have r0 : w.heap.size < wo.heap.size := lt_of_cell c1
        go_wp2_with fail
        go_loopw [6, 8] (fun t i wq => ∃ n : Nat, n ≤ f.2.length ∧ t = .slice oa (depList s f k).length oc ∧ i = .int .i64 n ∧ Ext wo wq ∧ ∀ j (hj : j < f.2.length), j < n → apply s f ((digs s f.1.toNat j).set k 0) = f.2[j])
          (fun _ i _ => f.2.length - (intOf i).toNat)
        case atStart => exact ⟨0, by omega, rfl, rfl, Ext.refl' _, fun j _ hj => by omega⟩
        case round =>
          obtain ⟨n, hn, rfl, rfl, hE3, hT⟩ := hrel
          have HT := Lib.hid hT
          clear hT
          have e1 := hE3.cell c1
          have e2 := hE3.cell c2
          by_cases hnl : n < f.2.length
          · go_wp2_with fail
            refine (l01Digits_any _ _ _ _ (by omega) (by omega) hv1.1 (by omega) (by omega) (by omega)).mono ?_
            rintro e w3 ⟨u, fp, rfl, hE4, hx, hfr⟩
            have hdl := digs_length s f.1.toNat n
            have hdv := Lib.hid (digs_val s hv1.1 f.1.toNat n (by omega))
            obtain ⟨b, cap, rfl, ⟨u0, hu⟩, hfz, hb, q3, q4, hx2⟩ := OI_store hx k (by rw [hdl]; omega) 0
            rw [hdl] at hx2 ⊢
            have hfb := hfr b hb
            have hkd : (k : Int) < (f.1.toNat : Int) := by omega
            have hF : Ext wo (w3.setCell ⟨b, k, none⟩ (.int .i64 0)) := (hE3.tr hE4).setCell (by have := hE3.size; simp; omega) _
            have e1 := hF.cell c1
            have e2 := hF.cell c2
            have hp2 := (hp.ext hE2).ext hF
            obtain ⟨a', b', off', c', hq, hlc, hcm, ha, hc⟩ := (hr.ext hE2).ext hF
            simp only [Value.slice.injEq, true_and] at hq
            obtain ⟨rfl, rfl⟩ := hq
            obtain rfl := ha (by omega)
            have hck := hc n hnl
            have q5 := hF.size
            have hsz := hE3.size
            by_cases hcmp : apply s f ((digs s f.1.toNat n).set k 0) = f.2[n]
            · have HT2 := Lib.hid (show ∀ j (hj : j < f.2.length), j < n + 1 → apply s f ((digs s f.1.toNat j).set k 0) = f.2[j] from fun j hj hjn => if h : j = n then by subst h; exact hcmp else HT.out j hj (by omega))
              have hneq : (apply s f ((digs s f.1.toNat n).set k 0) != f.2[n]) = false := by simp [hcmp]
              clear hcmp hc
              go_wp2_with fail
              go_quiet ((go_at_call 69; exact Calls.qq (l02Value_any s f _ _ _ _ (hp2.ext (Qt.ext ⟨_, rfl⟩)) (hx2.rd.ext (Qt.ext ⟨_, rfl⟩)) h1 (by rw [List.length_set, hdl]; omega) (set_vals hv1.1 hdv.out))))
              go_wp2_with fail
              go_roundw
              case rel => exact ⟨n + 1, by omega, rfl, by go_num, hF.tr (Qt.ext ⟨_, rfl⟩), HT2.out⟩
              case measure => simp [intOf]; omega
            · have HD := Lib.hid (depList_yes (dep_not h1 hnl hcmp))
              have hneq : (apply s f ((digs s f.1.toNat n).set k 0) != f.2[n]) = true := by simp [hcmp]
              clear hcmp hc
              go_wp2_with fail
              go_quiet ((go_at_call 69; exact Calls.qq (l02Value_any s f _ _ _ _ (hp2.ext (Qt.ext ⟨_, rfl⟩)) (hx2.rd.ext (Qt.ext ⟨_, rfl⟩)) h1 (by rw [List.length_set, hdl]; omega) (set_vals hv1.1 hdv.out))))
              have hG : Ext wo ((w3.setCell ⟨b, k, none⟩ (.int .i64 0)).drewN nq) := hF.tr (Qt.ext ⟨_, rfl⟩)
              generalize (w3.setCell ⟨b, k, none⟩ (.int .i64 0)).drewN nq = w4 at hG ⊢
              have q6 := hG.size
              have ho4 := own_ext ho hG
              have hA : Ext w4 (w4.alloc (.cells #[.int .i64 (k : Nat)] 2)) := (Ext.refl' w4).alloc (Nat.le_refl _) _
              go_wp2_with (at_builtin; refine wpList_append_own _ rfl _ _ 25 rfl w1.heap.size 2 i0 (.int .i64 0) 1 8 Try.underlying25 hi hz0 hz1 hz2 rfl (by decide) _ _ _ rfl (own_ext ho4 hA) ⟨w4.heap.size, 0, none⟩ 1 1 [.int .i64 k] rfl rfl (cells_one (by simp [go_sem])) (by simp [Value.oneCell']) (by unfold maxLen; omega) (by omega) (by simp; omega) ?_)
              intro v' w5 ho5 hg5 _
              have hE5 : Ext w1 w5 := ((hE2.tr hG).tr hA).grown hg5 (by simp; omega) (fun h hh => (ho4.lt h hh).1)
              have ho6 : w5.ownsRow w1.heap.size 2 1 v' (depList s f (k + 1)).length ((depList s f (k + 1)).map (Value.int .i64)) := by rw [HD.out, List.map_append, List.length_append]; exact ho5
              clear ho ho4 hg5 hA ho5 HD hu hfz
              go_wp2_with fail
              go_roundw
              case rel => exact ⟨k + 1, by omega, by go_num, hE5, ho6⟩
              case measure => simp [intOf]; omega
          · have HD := Lib.hid (depList_no (dep_all h1 fun j hj => HT.out j hj (by omega)))
            have hE5 := hE2.tr hE3
            have ho6 : wr.ownsRow w1.heap.size 2 1 (.slice oa (depList s f k).length oc) (depList s f (k + 1)).length ((depList s f (k + 1)).map (Value.int .i64)) := by rw [HD.out]; exact own_ext ho hE3
            clear HD ho
            go_wp2_with fail
            go_roundw
            case rel => exact ⟨k + 1, by omega, by go_num, hE5, ho6⟩
            case measure => simp [intOf]; omega
      · go_wp2_with fail
        go_ret2
        have hkk : k = f.1.toNat := by omega
        subst hkk
        exact IRes.of rfl (hE.tr hE2) ⟨own_base ho (fun _ _ => Nat.zero_le _), rfl⟩ (fun h hh => by have := (ho.lt h (by simpa using hh)).1; omega) (by show (depList s f f.1.toNat).length ≤ _; omega)
end Go.Proofs.Ytfmoekfeajfidaa
