
/- ComposeOps: the program's and the reference's give one function's answers. -/
import Derived.Test.YtfmoekfeajfidaaOpS
import Derived.Test.YtfmoekfeajfidaaOpAt
import Derived.Test.YtfmoekfeajfidaaDep
import Derived.Test.YtfmoekfeajfidaaOpMk
import Derived.Test.YtfmoekfeajfidaaAccT
namespace Go.Proofs.Ytfmoekfeajfidaa
open Go.RowKit
set_option linter.unusedVariables false

def opsOk (s : Int) (gs : List (Int × List Int)) : Bool := inB s 1 4 && !(gs.any fun g => !SValidOp s g)
def compF (s : Int) (f : Int × List Int) (gs : List (Int × List Int)) (l : List Int) : Int := apply s f (gs.map fun g => apply s g l)
def ar0 (gs : List (Int × List Int)) : Int := (gs.getD 0 (0, [])).1
def SComposeOps (s : Int) (f : Int × List Int) (gs : List (Int × List Int)) : (Int × List Int) × Int :=
  if SValidOp s f && opsOk s gs then if (gs.length : Int) = f.1 then if gs.any fun g => g.1 != ar0 gs then (noOp, 4) else (SopOf s (ar0 gs) (compF s f gs), 0) else (noOp, 2) else (noOp, 1)
theorem cops_1 {s : Int} {f : Int × List Int} {gs : List (Int × List Int)} (h : (SValidOp s f && opsOk s gs) = false) : SComposeOps s f gs = (noOp, 1) := by unfold SComposeOps; rw [h]; rfl
theorem cops_2 {s : Int} {f : Int × List Int} {gs : List (Int × List Int)} (h1 : SValidOp s f = true) (h2 : opsOk s gs = true) (h : ¬ (gs.length : Int) = f.1) : SComposeOps s f gs = (noOp, 2) := by unfold SComposeOps; rw [h1, h2, if_neg h]; rfl
theorem cops_4 {s : Int} {f : Int × List Int} {gs : List (Int × List Int)} (h1 : SValidOp s f = true) (h2 : opsOk s gs = true) (h : (gs.length : Int) = f.1) (h3 : (gs.any fun g => g.1 != ar0 gs) = true) : SComposeOps s f gs = (noOp, 4) := by unfold SComposeOps; rw [h1, h2, if_pos h, h3]; rfl
theorem cops_0 {s : Int} {f : Int × List Int} {gs : List (Int × List Int)} (h1 : SValidOp s f = true) (h2 : opsOk s gs = true) (h : (gs.length : Int) = f.1) (h3 : (gs.any fun g => g.1 != ar0 gs) = false) : SComposeOps s f gs = (SopOf s (ar0 gs) (compF s f gs), 0) := by unfold SComposeOps; rw [h1, h2, if_pos h, h3]; rfl
theorem opsOk_all {s : Int} {gs : List (Int × List Int)} (h : opsOk s gs = true) : ∀ g ∈ gs, SValidOp s g = true := by
  unfold opsOk at h
  rw [Bool.and_eq_true, Bool.not_eq_true', List.any_eq_false] at h
  exact fun g hg => by simpa using h.2 g hg
theorem ar0_eq {gs : List (Int × List Int)} (h : 0 < gs.length) : ar0 gs = gs[0].1 := by unfold ar0; rw [List.getD_eq_getElem?_getD, List.getElem?_eq_getElem h]; rfl
theorem same_ar {gs : List (Int × List Int)} (h3 : (gs.any fun g => g.1 != ar0 gs) = false) : ∀ g ∈ gs, g.1 = ar0 gs := by
  rw [List.any_eq_false] at h3
  exact fun g hg => by simpa using h3 g hg

set_option maxHeartbeats 400000 in
theorem indexFuncOpS_any (p : (Int × List Int) → Bool) (l : List (Int × List Int)) (v : Value) (f : FuncId) (first cap : Array Value) (w : World) (hr : RdOpS w v l)
    (hcall : ∀ xs w, (callFunc f xs).run Try.prog w = .ok (.enter f xs) w)
    (hf : ∀ a ∈ l, ∀ va w', Ext w w' → RdOp w' va a → Calls Try.prog f (first ++ #[va] ++ cap) w' fun e w'' => e = .returned (.bool (p a)) ∧ Ext w' w'') :
    Calls Try.prog 100 #[v, .func (.func f) first cap] w fun e w' => e = .returned (.int .i64 (idx p l)) ∧ Ext w w' := by
  obtain ⟨a, b, off, c, ts, rfl, hlc, hcm, ha, hc⟩ := hr
  have HF := Lib.hid hf
  clear hf
  go_enter Try.func100, Try.ntmps100
  go_wp2_with fail
  go_loopw [8] (fun i wr => ∃ k : Nat, k ≤ l.length ∧ i = .int .i64 k ∧ Ext w wr ∧ (l.take k).any p = false) (fun i _ => l.length - (intOf i).toNat)
  case atStart => exact ⟨0, by omega, rfl, Ext.refl' _, rfl⟩
  case round =>
    obtain ⟨k, hk, rfl, hE, ht⟩ := hrel
    have HT := Lib.hid ht
    clear ht
    by_cases hkl : k < l.length
    · obtain rfl := ha (by omega)
      obtain ⟨k0, k1, k2⟩ := hc k hkl
      replace k0 := hE.cell k0
      replace k1 := hE.cell k1
      have hcc := HF.out l[k] (List.getElem_mem hkl) (.agg #[.int .i64 l[k].1, ts k]) wr hE ⟨_, rfl, k2.ext hE⟩
      generalize ts k = y at k1 k2 hcc
      go_wp2_with fail
      cases hp : p l[k] with
      | true =>
        rw [hp] at hcc
        refine (by simpa using hcc : Calls _ _ _ _ _).mono ?_
        rintro e w2 ⟨rfl, hE2⟩
        have HI := Lib.hid (idx_here p l k hkl HT.out hp)
        clear hp
        go_wp2_with fail
        go_ret
        exact ⟨ret_int HI.out.symm, hE.tr hE2⟩
      | false =>
        rw [hp] at hcc
        refine (by simpa using hcc : Calls _ _ _ _ _).mono ?_
        rintro e w2 ⟨rfl, hE2⟩
        have HI := Lib.hid (show (l.take (k + 1)).any p = false from by rw [any_take_succ p l k hkl, HT.out, hp]; rfl)
        clear hp
        have hE3 := hE.tr hE2
        go_wp2_with fail
        go_roundw
        case rel => exact ⟨k + 1, by omega, by go_num, hE3, HI.out⟩
        case measure => simp [intOf]; omega
    · have HI := Lib.hid (idx_none p l (by have := HT.out; rwa [show k = l.length by omega, List.take_length] at this))
      go_wp2_with fail
      go_ret
      exact ⟨ret_int HI.out.symm, hE⟩
set_option maxHeartbeats 400000 in
theorem containsFuncOpS_any (p : (Int × List Int) → Bool) (l : List (Int × List Int)) (v : Value) (f : FuncId) (first cap : Array Value) (w : World) (hr : RdOpS w v l)
    (hcall : ∀ xs w, (callFunc f xs).run Try.prog w = .ok (.enter f xs) w)
    (hf : ∀ a ∈ l, ∀ va w', Ext w w' → RdOp w' va a → Calls Try.prog f (first ++ #[va] ++ cap) w' fun e w'' => e = .returned (.bool (p a)) ∧ Ext w' w'') :
    Calls Try.prog 83 #[v, .func (.func f) first cap] w fun e w' => e = .returned (.bool (l.any p)) ∧ Ext w w' := by
  have HC := Lib.hid (idx_any p l)
  have HF := Lib.hid hf
  clear hf
  go_enter Try.func83, Try.ntmps83
  go_wp2_with (go_at_call 100; refine (indexFuncOpS_any p l _ _ _ _ _ hr hcall HF.out).mono ?_; rintro e w' ⟨rfl, hE⟩)
  go_ret
  exact ⟨ret_bool HC.out, hE⟩

set_option maxHeartbeats 1000000 in
theorem areOps_any (s : Int) (gs : List (Int × List Int)) (v : Value) (w : World) (hr : RdOpS w v gs) :
    Calls Try.prog 82 #[.int .i64 s, v] w fun e w' => e = .returned (.bool (opsOk s gs)) ∧ Ext w w' := by
  have hmf : ∀ (fn : Fn) (first cap : Array Value) (w : World), (Instr.makeFunc fn first cap).run Try.prog w = .ok (.func fn first cap) w := fun _ _ _ _ => rfl
  obtain ⟨a, c, rfl⟩ := hr.form
  have hE1 : Ext w (w.alloc (.cells #[.int .i64 s] 2)) := (Ext.refl' w).alloc (Nat.le_refl _) _
  have hcell : (w.alloc (.cells #[.int .i64 s] 2)).cell? ⟨w.heap.size, 0, none⟩ = some (.int .i64 s) := by simp [go_sem]
  cases h1 : inB s 1 4 with
  | false =>
    have HO := Lib.hid (show opsOk s gs = false from by unfold opsOk; rw [h1]; rfl)
    go_enter Try.func82, Try.ntmps82
    go_wp2_with (go_at_call 57; refine (isSize_any _ _).mono ?_; rintro e w' ⟨rfl, rfl⟩; rw [h1])
    go_ret
    exact ⟨ret_bool HO.out.symm, hE1⟩
  | true =>
    have HO := Lib.hid (show (!(gs.any fun g => !SValidOp s g)) = opsOk s gs from by unfold opsOk; rw [h1]; rfl)
    go_enter Try.func82, Try.ntmps82
    go_wp2_with fail
    refine (isSize_any _ _).mono ?_
    rintro e w' ⟨rfl, rfl⟩
    rw [h1]
    go_wp2_with fail
    refine (containsFuncOpS_any (fun g => !SValidOp s g) gs _ _ _ _ _ (hr.ext hE1) Try.call99 ?_).mono ?_
    · intro g _ vg w' hEc hg
      have hcell := hEc.cell hcell
      obtain ⟨tv, rfl, hg'⟩ := hg
      obtain ⟨ga, gc, rfl⟩ := hg'.form
      have hE2 : Ext w' (w'.alloc (.cells #[.int .i64 g.1, .slice ga g.2.length gc] 30)) := (Ext.refl' w').alloc (Nat.le_refl _) _
      have hb := lt_of_cell hcell
      simp only [List.append_toArray, List.nil_append, List.cons_append]
      go_enter Try.func99, Try.ntmps99
      go_wp2_with fail
      refine (implValidOp_ok s g _ _ ⟨_, rfl, hg'.ext hE2⟩).mono ?_
      rintro e w3 ⟨rfl, hE3⟩
      go_wp2_with fail
      go_ret
      exact ⟨rfl, hE2.tr hE3⟩
    rintro e w2 ⟨rfl, hE2⟩
    go_wp2_with fail
    go_ret
    exact ⟨ret_bool HO.out, hE1.tr hE2⟩

set_option maxHeartbeats 1000000 in
theorem l02All_any (s : Int) (gs : List (Int × List Int)) (v : Value) (w : World) (hr : RdOpS w v gs) :
    Calls Try.prog 80 #[.int .i64 s, v] w fun e w' => e = .returned (.bool (opsOk s gs)) ∧ Qt w w' := by
  obtain ⟨a, b, off, c, ts, rfl, hlc, hcm, ha, hc⟩ := hr
  go_enter Try.func80, Try.ntmps80
  go_wp2_with fail
  go_loopw [5] (fun i wr => ∃ k : Nat, k ≤ gs.length ∧ i = .int .i64 k ∧ Qt w wr ∧ (gs.take k).any (fun g => !SValidOp s g) = false) (fun i _ => gs.length - (intOf i).toNat)
  case atStart => exact ⟨0, by omega, rfl, Qt.refl _, rfl⟩
  case round =>
    obtain ⟨k, hk, rfl, hQ, ht⟩ := hrel
    have HT := Lib.hid ht
    clear ht
    by_cases hkl : k < gs.length
    · obtain rfl := ha (by omega)
      obtain ⟨k0, k1, k2⟩ := hc k hkl
      have hp : PtOp wr (.pointer (some ⟨b, off + k * 2, none⟩)) gs[k] := ⟨_, _, _, rfl, hQ.ext.cell k0, hQ.ext.cell k1, k2.ext hQ.ext⟩
      cases hv : SValidOp s gs[k] with
      | true =>
        have HI := Lib.hid (show (gs.take (k + 1)).any (fun g => !SValidOp s g) = false from by rw [any_take_succ _ gs k hkl, HT.out, hv]; rfl)
        go_wp2_with fail
        refine (l02Ok_any s _ _ _ hp).mono ?_
        rintro e w2 ⟨rfl, hQ2⟩
        rw [hv]
        go_wp2_with fail
        go_roundw
        case rel => exact ⟨k + 1, by omega, by go_num, hQ.trans hQ2, HI.out⟩
        case measure => simp [intOf]; omega
      | false =>
        have HO := Lib.hid (show opsOk s gs = false from by
          unfold opsOk
          rw [show (gs.any fun g => !SValidOp s g) = true from List.any_eq_true.2 ⟨_, List.getElem_mem hkl, by simp [hv]⟩]
          simp)
        go_wp2_with fail
        refine (l02Ok_any s _ _ _ hp).mono ?_
        rintro e w2 ⟨rfl, hQ2⟩
        rw [hv]
        go_wp2_with fail
        go_ret
        exact ⟨ret_bool HO.out.symm, hQ.trans hQ2⟩
    · have HO := Lib.hid (show opsOk s gs = inB s 1 4 from by
        have hkk : k = gs.length := by omega
        have := HT.out
        rw [hkk, List.take_length] at this
        unfold opsOk
        rw [this]
        simp)
      go_wp2_with fail
      refine (l01Size_any _ _).mono ?_
      rintro e w' ⟨rfl, rfl⟩
      go_wp2_with fail
      go_ret
      exact ⟨ret_bool HO.out.symm, hQ⟩
set_option maxHeartbeats 4000000 in
set_option maxRecDepth 100000 in
theorem composeFn_any (s : Int) (f : Int × List Int) (v : Value) (gs : List (Int × List Int)) (u : Value) (bl bs bf k : Nat) (x : Value) (w : World) (hr : RdOp w v f) (hs : RdOpS w u gs) (hf : SValidOp s f = true) (hn : (gs.length : Int) = f.1) (hv : ∀ g ∈ gs, SValidOp s g = true) (ha : ∀ g ∈ gs, g.1 = ar0 gs)
    (cl : w.cell? ⟨bl, 0, none⟩ = some u) (cs : w.cell? ⟨bs, 0, none⟩ = some (.int .i64 s)) (c0 : ∃ tv, v = .agg #[.int .i64 f.1, tv] ∧ w.cell? ⟨bf, 0, none⟩ = some (.int .i64 f.1) ∧ w.cell? ⟨bf, 1, none⟩ = some tv) (hx : RdI w x (digs s (ar0 gs).toNat k)) :
    Calls Try.prog 85 #[x, .pointer (some ⟨bl, 0, none⟩), .pointer (some ⟨bs, 0, none⟩), .pointer (some ⟨bf, 0, none⟩)] w fun e w' => e = .returned (.int .i64 (compF s f gs (digs s (ar0 gs).toNat k))) ∧ Ext w w' := by
  obtain ⟨i0, hi, hz0, hz1, hz2⟩ := info_parts infoT
  obtain ⟨⟨hs1, hs2⟩, ⟨hf1, hf2⟩, -, -⟩ := valid_iff.1 hf
  obtain ⟨tv, rfl, e0, e1⟩ := c0
  have h0 : 0 < gs.length := by omega
  have hn4 : gs.length ≤ 4 := by omega
  have hdl := digs_length s (ar0 gs).toNat k
  have hdv := digs_val s hs1 (ar0 gs).toNat k (by omega)
  have har := valid_iff.1 (hv _ (List.getElem_mem h0))
  have har0 : 1 ≤ ar0 gs := by rw [ar0_eq h0]; exact har.2.1.1
  obtain ⟨b, off, tb, rfl, -⟩ : ∃ b off tb, x = .slice b off tb ∧ True := by obtain ⟨a, c, hx'⟩ := hx.form; exact ⟨_, _, _, hx', trivial⟩
  have hDL := Lib.hid (show ((digs s (ar0 gs).toNat k).length : Int) = ar0 gs by rw [hdl]; omega)
  have HDV := Lib.hid hdv
  have HV := Lib.hid hv
  have HAR := Lib.hid ha
  have HF := Lib.hid hf
  have HN := Lib.hid hn
  have HC := Lib.hid (show compF s f gs (digs s (ar0 gs).toNat k) = apply s f (gs.map fun g => apply s g (digs s (ar0 gs).toNat k)) from rfl)
  generalize digs s (ar0 gs).toNat k = l at hx hDL HDV HC ⊢
  obtain ⟨ga, gb, goff, gcap, ts, rfl, hlc, hcm, hga, hgc⟩ := hs
  obtain rfl := hga h0
  clear hdl hdv hv ha hf hn har
  have hbl := lt_of_cell cl
  go_enter Try.func85, Try.ntmps85
  go_wp2_with fail
  go_loopw [6, 12] (fun t i wr => ∃ j : Nat, j ≤ gs.length ∧ i = .int .i64 j ∧ Ext w wr ∧ wr.ownsRow w.heap.size 2 1 t j (((gs.take j).map fun g => apply s g l).map (Value.int .i64))) (fun _ i _ => gs.length - (intOf i).toNat)
  case atStart => exact ⟨0, by omega, rfl, (Ext.refl' w).alloc (Nat.le_refl _) _, World.ownsRow_made w #[] 0 (Nat.le_refl _) (by decide) rfl⟩
  case round =>
    obtain ⟨j, hj, rfl, hE, ho⟩ := hrel
    by_cases hjl : j < gs.length
    · obtain ⟨k0, k1, k2⟩ := hgc j hjl
      replace k0 := hE.cell k0
      replace k1 := hE.cell k1
      replace k2 := k2.ext hE
      replace cs := hE.cell cs
      have hbs := lt_of_cell cs
      have hvj := HV.out gs[j] (List.getElem_mem hjl)
      have haj := HAR.out gs[j] (List.getElem_mem hjl)
      have HT := Lib.hid (show (gs.take (j + 1)).map (fun g => apply s g l) = (gs.take j).map (fun g => apply s g l) ++ [apply s gs[j] l] from by rw [List.take_succ_eq_append_getElem hjl, List.map_append]; rfl)
      generalize ts j = y at k1 k2
      obtain ⟨ya, yc, rfl⟩ := k2.form
      have hA : Ext wr (wr.alloc (.cells #[.int .i64 gs[j].1, .slice ya gs[j].2.length yc] 30)) := (Ext.refl' wr).alloc (Nat.le_refl _) _
      have HJ := Lib.hid haj
      clear haj
      go_wp2_with fail
      refine (opAt_any s gs[j] _ l _ _ ⟨_, rfl, k2.ext hA⟩ ((hx.ext hE).ext hA) hvj (by rw [HJ.out]; exact hDL.out) HDV.out).mono ?_
      rintro e w2 ⟨rfl, hE2⟩
      replace ho := own_ext (own_ext ho hA) hE2
      replace hE := (hE.tr hA).tr hE2
      obtain ⟨ta, tb', tc, rfl, -⟩ := own_parts ho
      clear hA hE2
      go_wp2_with (at_builtin; refine wpList_append_own _ rfl _ _ 25 rfl w.heap.size 2 i0 (.int .i64 0) 1 8 Try.underlying25 hi hz0 hz1 hz2 rfl (by decide) _ _ _ rfl (own_ext ho ((Ext.refl' w2).alloc (Nat.le_refl _) _)) ⟨w2.heap.size, 0, none⟩ 1 1 [.int .i64 (apply s gs[j] l)] rfl rfl (cells_one (by simp [go_sem])) (by simp [Value.oneCell']) (by unfold maxLen; omega) (by omega) (by have := hE.size; simp; omega) ?_)
      intro v' w4 ho4 hg4 _
      have hA : Ext w2 (w2.alloc (.cells #[.int .i64 (apply s gs[j] l)] 2)) := (Ext.refl' w2).alloc (Nat.le_refl _) _
      have hE4 := (hE.tr hA).grown hg4 (by have := hE.size; simp; omega) (fun k hk => (ho.lt k hk).1)
      have ho5 : w4.ownsRow w.heap.size 2 1 v' (j + 1) (((gs.take (j + 1)).map fun g => apply s g l).map (Value.int .i64)) := by
        rw [HT.out, List.map_append]
        simpa using ho4
      clear ho hg4 hA ho4 hE
      go_wp2_with fail
      go_roundw
      case rel => exact ⟨j + 1, by omega, by go_num, hE4, ho5⟩
      case measure => simp [intOf]; omega
    · have hjj : j = gs.length := by omega
      subst hjj
      rw [List.take_length] at ho
      replace cs := hE.cell cs
      replace e0 := hE.cell e0
      replace e1 := hE.cell e1
      have hown : OI wr _ (gs.map fun g => apply s g l) _ := ⟨own_base (base' := 0) (by rw [List.length_map]; exact ho) (fun _ _ => Nat.zero_le _), rfl⟩
      obtain ⟨ta, tb', tc, rfl, -⟩ := own_parts ho
      go_wp2_with fail
      refine (opAt_any s f _ (gs.map fun g => apply s g l) _ _ (hr.ext hE) hown.rd HF.out (by rw [List.length_map]; exact HN.out) ?_).mono ?_
      · intro a ha
        obtain ⟨g, hg, rfl⟩ := List.mem_map.1 ha
        exact apply_val (HV.out g hg) (by rw [HAR.out g hg]; exact hDL.out) HDV.out
      rintro e w2 ⟨rfl, hE2⟩
      go_wp2_with fail
      go_ret
      exact ⟨ret_int HC.out.symm, hE.tr hE2⟩

set_option maxHeartbeats 4000000 in
set_option maxRecDepth 100000 in
theorem implComposeOps_any (s : Int) (f : Int × List Int) (v : Value) (gs : List (Int × List Int)) (u : Value) (w : World) (hr : RdOp w v f) (hs : RdOpS w u gs) (lo0 : -9223372036854775808 ≤ s) (hi0 : s ≤ 9223372036854775807) (hz1 : szOp f ≤ 1048576) (hz2 : szOpS gs ≤ 1048576) :
    Calls Try.prog 42 #[.int .i64 s, v, u] w (OpRes (SComposeOps s f gs) w) := by
  have hmf : ∀ (fn : Fn) (first cap : Array Value) (w : World), (Instr.makeFunc fn first cap).run Try.prog w = .ok (.func fn first cap) w := fun _ _ _ _ => rfl
  obtain ⟨tv, rfl, hr'⟩ := hr
  obtain ⟨ta, tc, rfl⟩ := hr'.form
  have hr : RdOp w _ f := ⟨_, rfl, hr'⟩
  obtain ⟨la, lc, rfl⟩ := hs.form
  have hlen : gs.length ≤ 1048576 := Nat.le_trans (len_le_szOpS _) hz2
  have hE1 : Ext w ((((w.alloc (.cells #[.int .i64 s] 2)).alloc (.cells #[.int .i64 f.1, .slice ta f.2.length tc] 30)).alloc (.cells #[.slice la gs.length lc] 52)).alloc (.cells #[.int .i64 0, .slice none 0 0] 30)) := ((((Ext.refl' w).alloc (Nat.le_refl _) _).alloc (by simp) _).alloc (by simp; omega) _).alloc (by simp; omega) _
  cases h1 : SValidOp s f with
  | false =>
    rw [cops_1 (by rw [h1]; rfl)]
    go_enter Try.func42, Try.ntmps42
    go_wp2_with fail
    refine (implValidOp_ok s f _ _ (hr.ext hE1)).mono ?_
    rintro e w1 ⟨rfl, hE⟩
    rw [h1]
    have z0 := hE.cell (p := ⟨w.heap.size, 0, none⟩) (v := .int .i64 s) (by simp [go_sem])
    have c0 := hE.cell (p := ⟨w.heap.size + 1, 0, none⟩) (v := .int .i64 f.1) (by simp [go_sem])
    have c1 := hE.cell (p := ⟨w.heap.size + 1, 1, none⟩) (v := .slice ta f.2.length tc) (by simp [go_sem])
    have e0 := hE.cell (p := ⟨w.heap.size + 1 + 1, 0, none⟩) (v := .slice la gs.length lc) (by simp [go_sem])
    have d0 := hE.cell (p := ⟨w.heap.size + 1 + 1 + 1, 0, none⟩) (v := .int .i64 0) (by simp [go_sem])
    have d1 := hE.cell (p := ⟨w.heap.size + 1 + 1 + 1, 1, none⟩) (v := .slice none 0 0) (by simp [go_sem])
    have f2 := hE.frozen (p := ⟨w.heap.size + 1 + 1 + 1, 0, none⟩) (by simp)
    have f3 := hE.frozen (p := ⟨w.heap.size + 1 + 1 + 1, 1, none⟩) (by simp)
    simp [go_sem] at f2 f3
    replace hE := hE1.tr hE
    go_wp2_with fail
    exact bodyPost_ret (v := .tuple #[.agg #[.int .i64 0, .slice none 0 0], .int .i64 1]) (by simp [results, Try.results42, go_sem, d0, d1]) rfl (OpRes.no ((hE.setCell (by simp <;> omega) _).setCell (by simp <;> omega) _))
  | true =>
    obtain ⟨⟨hs1, hs2⟩, ⟨hf1, hf2⟩, -, -⟩ := valid_iff.1 h1
    cases h2 : opsOk s gs with
    | false =>
      rw [cops_1 (by rw [h1, h2]; rfl)]
      go_enter Try.func42, Try.ntmps42
      go_wp2_with fail
      refine (implValidOp_ok s f _ _ (hr.ext hE1)).mono ?_
      rintro e w1 ⟨rfl, hE⟩
      rw [h1]
      have z0 := hE.cell (p := ⟨w.heap.size, 0, none⟩) (v := .int .i64 s) (by simp [go_sem])
      have c0 := hE.cell (p := ⟨w.heap.size + 1, 0, none⟩) (v := .int .i64 f.1) (by simp [go_sem])
      have c1 := hE.cell (p := ⟨w.heap.size + 1, 1, none⟩) (v := .slice ta f.2.length tc) (by simp [go_sem])
      have e0 := hE.cell (p := ⟨w.heap.size + 1 + 1, 0, none⟩) (v := .slice la gs.length lc) (by simp [go_sem])
      have d0 := hE.cell (p := ⟨w.heap.size + 1 + 1 + 1, 0, none⟩) (v := .int .i64 0) (by simp [go_sem])
      have d1 := hE.cell (p := ⟨w.heap.size + 1 + 1 + 1, 1, none⟩) (v := .slice none 0 0) (by simp [go_sem])
      have f2 := hE.frozen (p := ⟨w.heap.size + 1 + 1 + 1, 0, none⟩) (by simp)
      have f3 := hE.frozen (p := ⟨w.heap.size + 1 + 1 + 1, 1, none⟩) (by simp)
      simp [go_sem] at f2 f3
      replace hE := hE1.tr hE
      go_wp2_with fail
      refine (areOps_any s gs _ _ (hs.ext hE)).mono ?_
      rintro e w2 ⟨rfl, hE2⟩
      rw [h2]
      replace f2 : _ = false := (hE2.frozen (lt_of_cell d0)).trans f2
      replace f3 : _ = false := (hE2.frozen (lt_of_cell d1)).trans f3
      replace d0 := hE2.cell d0
      replace d1 := hE2.cell d1
      replace z0 := hE2.cell z0
      replace c0 := hE2.cell c0
      replace c1 := hE2.cell c1
      replace e0 := hE2.cell e0
      replace hE := hE.tr hE2
      clear hE2
      go_wp2_with fail
      exact bodyPost_ret (v := .tuple #[.agg #[.int .i64 0, .slice none 0 0], .int .i64 1]) (by simp [results, Try.results42, go_sem, d0, d1]) rfl (OpRes.no ((hE.setCell (by simp <;> omega) _).setCell (by simp <;> omega) _))
    | true =>
      by_cases h3 : (gs.length : Int) = f.1
      · have hb : ((gs.length : Int) != f.1) = false := by simp [h3]
        have h0 : 0 < gs.length := by omega
        cases h4 : gs.any fun g => g.1 != ar0 gs with
        | true =>
          rw [cops_4 h1 h2 h3 h4]
          go_enter Try.func42, Try.ntmps42
          go_wp2_with fail
          refine (implValidOp_ok s f _ _ (hr.ext hE1)).mono ?_
          rintro e w1 ⟨rfl, hE⟩
          rw [h1]
          have z0 := hE.cell (p := ⟨w.heap.size, 0, none⟩) (v := .int .i64 s) (by simp [go_sem])
          have c0 := hE.cell (p := ⟨w.heap.size + 1, 0, none⟩) (v := .int .i64 f.1) (by simp [go_sem])
          have c1 := hE.cell (p := ⟨w.heap.size + 1, 1, none⟩) (v := .slice ta f.2.length tc) (by simp [go_sem])
          have e0 := hE.cell (p := ⟨w.heap.size + 1 + 1, 0, none⟩) (v := .slice la gs.length lc) (by simp [go_sem])
          have d0 := hE.cell (p := ⟨w.heap.size + 1 + 1 + 1, 0, none⟩) (v := .int .i64 0) (by simp [go_sem])
          have d1 := hE.cell (p := ⟨w.heap.size + 1 + 1 + 1, 1, none⟩) (v := .slice none 0 0) (by simp [go_sem])
          have f2 := hE.frozen (p := ⟨w.heap.size + 1 + 1 + 1, 0, none⟩) (by simp)
          have f3 := hE.frozen (p := ⟨w.heap.size + 1 + 1 + 1, 1, none⟩) (by simp)
          simp [go_sem] at f2 f3
          replace hE := hE1.tr hE
          go_wp2_with fail
          refine (areOps_any s gs _ _ (hs.ext hE)).mono ?_
          rintro e w2 ⟨rfl, hE2⟩
          rw [h2]
          replace f2 : _ = false := (hE2.frozen (lt_of_cell d0)).trans f2
          replace f3 : _ = false := (hE2.frozen (lt_of_cell d1)).trans f3
          replace d0 := hE2.cell d0
          replace d1 := hE2.cell d1
          replace z0 := hE2.cell z0
          replace c0 := hE2.cell c0
          replace c1 := hE2.cell c1
          replace e0 := hE2.cell e0
          replace hE := hE.tr hE2
          clear hE2
          clear h3
          go_wp2_with fail
          refine (containsFuncOpS_any (fun g => g.1 != ar0 gs) gs _ _ _ _ _ (hs.ext hE) Try.call84 ?_).mono ?_
          · intro g _ vg w' hEc hg
            have e0 := hEc.cell e0
            have hbl := lt_of_cell e0
            obtain ⟨tv, rfl, hg'⟩ := hg
            obtain ⟨ga, gc, rfl⟩ := hg'.form
            obtain ⟨xa, xb, xoff, xcap, ts, hsl, hlc, hcm, hxa, hxc⟩ := (hs.ext hE).ext hEc
            simp only [Value.slice.injEq] at hsl
            obtain ⟨rfl, -, rfl⟩ := hsl
            obtain rfl := hxa h0
            obtain ⟨k0, -, -⟩ := hxc 0 h0
            rw [← ar0_eq h0] at k0
            have hE2 : Ext w' (w'.alloc (.cells #[.int .i64 g.1, .slice ga g.2.length gc] 30)) := (Ext.refl' w').alloc (Nat.le_refl _) _
            have g0 : (w'.alloc (.cells #[.int .i64 g.1, .slice ga g.2.length gc] 30)).cell? ⟨w'.heap.size, 0, none⟩ = some (.int .i64 g.1) := by simp [go_sem]
            replace e0 := hE2.cell e0
            replace k0 : _ = _ := hE2.cell (by simpa using k0 : w'.cell? ⟨xb, xoff, none⟩ = some (.int .i64 (ar0 gs)))
            clear hxc
            generalize ar0 gs = m at k0 ⊢
            simp only [List.append_toArray, List.nil_append, List.cons_append]
            go_enter Try.func84, Try.ntmps84
            go_wp2_with fail
            generalize w'.alloc (.cells #[.int .i64 g.1, .slice ga g.2.length gc] 30) = w'' at hE2 g0 e0 k0 ⊢
            go_wp2_with fail
            refine region_sp [] [7] [SP.val (.pointer (some ⟨w'.heap.size, 0, none⟩)), SP.val (.int .i64 g.1), SP.val (.slice (some ⟨xb, xoff, none⟩) gs.length lc), SP.val (.pointer (some ⟨xb, xoff, none⟩)), SP.val (.pointer (some ⟨xb, xoff, none⟩)), SP.val (.int .i64 m), SP.val (.bool (g.1 != m)), SP.any] (by kernel_rfl) (fun _ d _ _ _ h => by cases d <;> exact h) (by kernel_rfl) (by kernel_rfl)
              (.cons (fun vs y hY => Step.fieldAddr ⟨w'.heap.size, 0, none⟩ rfl rfl rfl (by simp [go_sem]) rfl) <|
               .cons (fun vs y hY g0_0 => Step.load ⟨w'.heap.size, 0, none⟩ rfl rfl g0_0 (by simp [go_sem, hY.cell g0]) rfl) <|
               .cons (fun vs y hY => Step.load ⟨(w.heap.size + 1 + 1), 0, none⟩ rfl rfl rfl (by simp [go_sem, hY.cell e0]) rfl) <|
               .cons (fun vs y hY g2_0 => Step.indexAtP (n := .int .i64 0) ⟨xb, xoff, none⟩ rfl rfl g2_0 rfl (by simp [go_sem, Instr.indexAt, Addr.add, h0] <;> omega) rfl) <|
               .cons (fun vs y hY g3_0 => Step.fieldAddr ⟨xb, xoff, none⟩ rfl rfl g3_0 (by simp [go_sem]) rfl) <|
               .cons (fun vs y hY g4_0 => Step.load ⟨xb, xoff, none⟩ rfl rfl g4_0 (by simp [go_sem, hY.cell k0]) rfl) <|
               .cons (fun vs y hY g1_0 g5_1 => Step.bin (u := .int .i64 g.1) (v := .int .i64 m) rfl rfl g1_0 g5_1 (by simp [go_sem]) rfl) <|
               .skip rfl <|
               .nil) ?_
            intro vs w3 hC hL
            have r0 : vs 0 = _ := hL 0 (by decide) rfl
            have r1 : vs 1 = _ := hL 1 (by decide) rfl
            have r2 : vs 2 = _ := hL 2 (by decide) rfl
            have r3 : vs 3 = _ := hL 3 (by decide) rfl
            have r4 : vs 4 = _ := hL 4 (by decide) rfl
            have r5 : vs 5 = _ := hL 5 (by decide) rfl
            have r6 : vs 6 = _ := hL 6 (by decide) rfl
            clear hL
            simp only [putAll, Act.put, List.contains_cons, List.contains_nil, Nat.reduceBEq, Nat.reduceAdd, Bool.or_false, cond_true, cond_false, List.setIfInBounds_toArray, List.set_cons_succ, List.set_cons_zero, List.filterMap_cons, List.filterMap_nil, List.getElem?_cons_succ, List.getElem?_cons_zero, r0, r1, r2, r3, r4, r5, r6]
            clear r0 r1 r2 r3 r4 r5 r6
            go_wp2_with fail
            go_ret
            exact ⟨rfl, hE2.tr hC⟩
          rintro e w3 ⟨rfl, hE3⟩
          rw [h4]
          replace f2 : _ = false := (hE3.frozen (lt_of_cell d0)).trans f2
          replace f3 : _ = false := (hE3.frozen (lt_of_cell d1)).trans f3
          replace d0 := hE3.cell d0
          replace d1 := hE3.cell d1
          replace z0 := hE3.cell z0
          replace c0 := hE3.cell c0
          replace c1 := hE3.cell c1
          replace e0 := hE3.cell e0
          replace hE := hE.tr hE3
          clear hE3
          go_wp2_with fail
          exact bodyPost_ret (v := .tuple #[.agg #[.int .i64 0, .slice none 0 0], .int .i64 4]) (by simp [results, Try.results42, go_sem, d0, d1]) rfl (OpRes.no ((hE.setCell (by simp <;> omega) _).setCell (by simp <;> omega) _))
        | false =>
          rw [cops_0 h1 h2 h3 h4]
          have HN := Lib.hid h3
          have HV := Lib.hid (opsOk_all h2)
          have HA := Lib.hid (same_ar h4)
          have H1 := Lib.hid h1
          have har := valid_iff.1 (HV.out _ (List.getElem_mem h0))
          have hm : 1 ≤ ar0 gs ∧ ar0 gs ≤ 3 := by rw [ar0_eq h0]; exact har.2.1
          have hmk : mkOp (SopOf s (ar0 gs) (compF s f gs)) ≤ 1048576 := by rw [mkOp_SopOf]; have := count_eq s (ar0 gs) hs1 hs2 hm.1 (by omega); have := powW_small s (ar0 gs) hs1 hs2 hm.1 (by omega); omega
          have HM := Lib.hid (ar0_eq h0)
          clear har
          go_enter Try.func42, Try.ntmps42
          go_wp2_with fail
          refine (implValidOp_ok s f _ _ (hr.ext hE1)).mono ?_
          rintro e w1 ⟨rfl, hE⟩
          rw [h1]
          have z0 := hE.cell (p := ⟨w.heap.size, 0, none⟩) (v := .int .i64 s) (by simp [go_sem])
          have c0 := hE.cell (p := ⟨w.heap.size + 1, 0, none⟩) (v := .int .i64 f.1) (by simp [go_sem])
          have c1 := hE.cell (p := ⟨w.heap.size + 1, 1, none⟩) (v := .slice ta f.2.length tc) (by simp [go_sem])
          have e0 := hE.cell (p := ⟨w.heap.size + 1 + 1, 0, none⟩) (v := .slice la gs.length lc) (by simp [go_sem])
          have d0 := hE.cell (p := ⟨w.heap.size + 1 + 1 + 1, 0, none⟩) (v := .int .i64 0) (by simp [go_sem])
          have d1 := hE.cell (p := ⟨w.heap.size + 1 + 1 + 1, 1, none⟩) (v := .slice none 0 0) (by simp [go_sem])
          have f2 := hE.frozen (p := ⟨w.heap.size + 1 + 1 + 1, 0, none⟩) (by simp)
          have f3 := hE.frozen (p := ⟨w.heap.size + 1 + 1 + 1, 1, none⟩) (by simp)
          simp [go_sem] at f2 f3
          replace hE := hE1.tr hE
          go_wp2_with fail
          refine (areOps_any s gs _ _ (hs.ext hE)).mono ?_
          rintro e w2 ⟨rfl, hE2⟩
          rw [h2]
          replace f2 : _ = false := (hE2.frozen (lt_of_cell d0)).trans f2
          replace f3 : _ = false := (hE2.frozen (lt_of_cell d1)).trans f3
          replace d0 := hE2.cell d0
          replace d1 := hE2.cell d1
          replace z0 := hE2.cell z0
          replace c0 := hE2.cell c0
          replace c1 := hE2.cell c1
          replace e0 := hE2.cell e0
          replace hE := hE.tr hE2
          clear hE2
          clear h3
          go_wp2_with fail
          refine (containsFuncOpS_any (fun g => g.1 != ar0 gs) gs _ _ _ _ _ (hs.ext hE) Try.call84 ?_).mono ?_
          · intro g _ vg w' hEc hg
            have e0 := hEc.cell e0
            have hbl := lt_of_cell e0
            obtain ⟨tv, rfl, hg'⟩ := hg
            obtain ⟨ga, gc, rfl⟩ := hg'.form
            obtain ⟨xa, xb, xoff, xcap, ts, hsl, hlc, hcm, hxa, hxc⟩ := (hs.ext hE).ext hEc
            simp only [Value.slice.injEq] at hsl
            obtain ⟨rfl, -, rfl⟩ := hsl
            obtain rfl := hxa h0
            obtain ⟨k0, -, -⟩ := hxc 0 h0
            rw [← ar0_eq h0] at k0
            have hE2 : Ext w' (w'.alloc (.cells #[.int .i64 g.1, .slice ga g.2.length gc] 30)) := (Ext.refl' w').alloc (Nat.le_refl _) _
            have g0 : (w'.alloc (.cells #[.int .i64 g.1, .slice ga g.2.length gc] 30)).cell? ⟨w'.heap.size, 0, none⟩ = some (.int .i64 g.1) := by simp [go_sem]
            replace e0 := hE2.cell e0
            replace k0 : _ = _ := hE2.cell (by simpa using k0 : w'.cell? ⟨xb, xoff, none⟩ = some (.int .i64 (ar0 gs)))
            clear hxc
            generalize ar0 gs = m at k0 ⊢
            simp only [List.append_toArray, List.nil_append, List.cons_append]
            go_enter Try.func84, Try.ntmps84
            go_wp2_with fail
            generalize w'.alloc (.cells #[.int .i64 g.1, .slice ga g.2.length gc] 30) = w'' at hE2 g0 e0 k0 ⊢
            go_wp2_with fail
            refine region_sp [] [7] [SP.val (.pointer (some ⟨w'.heap.size, 0, none⟩)), SP.val (.int .i64 g.1), SP.val (.slice (some ⟨xb, xoff, none⟩) gs.length lc), SP.val (.pointer (some ⟨xb, xoff, none⟩)), SP.val (.pointer (some ⟨xb, xoff, none⟩)), SP.val (.int .i64 m), SP.val (.bool (g.1 != m)), SP.any] (by kernel_rfl) (fun _ d _ _ _ h => by cases d <;> exact h) (by kernel_rfl) (by kernel_rfl)
              (.cons (fun vs y hY => Step.fieldAddr ⟨w'.heap.size, 0, none⟩ rfl rfl rfl (by simp [go_sem]) rfl) <|
               .cons (fun vs y hY g0_0 => Step.load ⟨w'.heap.size, 0, none⟩ rfl rfl g0_0 (by simp [go_sem, hY.cell g0]) rfl) <|
               .cons (fun vs y hY => Step.load ⟨(w.heap.size + 1 + 1), 0, none⟩ rfl rfl rfl (by simp [go_sem, hY.cell e0]) rfl) <|
               .cons (fun vs y hY g2_0 => Step.indexAtP (n := .int .i64 0) ⟨xb, xoff, none⟩ rfl rfl g2_0 rfl (by simp [go_sem, Instr.indexAt, Addr.add, h0] <;> omega) rfl) <|
               .cons (fun vs y hY g3_0 => Step.fieldAddr ⟨xb, xoff, none⟩ rfl rfl g3_0 (by simp [go_sem]) rfl) <|
               .cons (fun vs y hY g4_0 => Step.load ⟨xb, xoff, none⟩ rfl rfl g4_0 (by simp [go_sem, hY.cell k0]) rfl) <|
               .cons (fun vs y hY g1_0 g5_1 => Step.bin (u := .int .i64 g.1) (v := .int .i64 m) rfl rfl g1_0 g5_1 (by simp [go_sem]) rfl) <|
               .skip rfl <|
               .nil) ?_
            intro vs w3 hC hL
            have r0 : vs 0 = _ := hL 0 (by decide) rfl
            have r1 : vs 1 = _ := hL 1 (by decide) rfl
            have r2 : vs 2 = _ := hL 2 (by decide) rfl
            have r3 : vs 3 = _ := hL 3 (by decide) rfl
            have r4 : vs 4 = _ := hL 4 (by decide) rfl
            have r5 : vs 5 = _ := hL 5 (by decide) rfl
            have r6 : vs 6 = _ := hL 6 (by decide) rfl
            clear hL
            simp only [putAll, Act.put, List.contains_cons, List.contains_nil, Nat.reduceBEq, Nat.reduceAdd, Bool.or_false, cond_true, cond_false, List.setIfInBounds_toArray, List.set_cons_succ, List.set_cons_zero, List.filterMap_cons, List.filterMap_nil, List.getElem?_cons_succ, List.getElem?_cons_zero, r0, r1, r2, r3, r4, r5, r6]
            clear r0 r1 r2 r3 r4 r5 r6
            go_wp2_with fail
            go_ret
            exact ⟨rfl, hE2.tr hC⟩
          rintro e w3 ⟨rfl, hE3⟩
          rw [h4]
          replace f2 : _ = false := (hE3.frozen (lt_of_cell d0)).trans f2
          replace f3 : _ = false := (hE3.frozen (lt_of_cell d1)).trans f3
          replace d0 := hE3.cell d0
          replace d1 := hE3.cell d1
          replace z0 := hE3.cell z0
          replace c0 := hE3.cell c0
          replace c1 := hE3.cell c1
          replace e0 := hE3.cell e0
          replace hE := hE.tr hE3
          clear hE3
          clear h1 h2 h4
          obtain ⟨xa, xb, xoff, xcap, ts, hsl, hlc, hcm, hxa, hxc⟩ := hs.ext hE
          simp only [Value.slice.injEq] at hsl
          obtain ⟨rfl, -, rfl⟩ := hsl
          obtain rfl := hxa h0
          obtain ⟨k0, -, -⟩ := hxc 0 h0
          replace k0 : _ = _ := (by rw [HM.out]; simpa using k0 : w3.cell? ⟨xb, xoff, none⟩ = some (.int .i64 (ar0 gs)))
          clear hxc
          go_wp2_with fail
          go_wp2_with fail
          refine region_sp [] [6, 7, 8] [SP.val (.int .i64 s), SP.val (.slice (some ⟨xb, xoff, none⟩) gs.length lc), SP.val (.pointer (some ⟨xb, xoff, none⟩)), SP.val (.pointer (some ⟨xb, xoff, none⟩)), SP.val (.int .i64 (ar0 gs)), SP.val (.func (.func 85) #[] #[.pointer (some ⟨(w.heap.size + 1 + 1), 0, none⟩), .pointer (some ⟨w.heap.size, 0, none⟩), .pointer (some ⟨(w.heap.size + 1), 0, none⟩)]), SP.any, SP.any, SP.any] (by kernel_rfl) (fun _ d _ _ _ h => by cases d <;> exact h) (by kernel_rfl) (by kernel_rfl)
            (.cons (fun vs y hY => Step.load ⟨w.heap.size, 0, none⟩ rfl rfl rfl (by simp [go_sem, hY.cell z0]) rfl) <|
             .cons (fun vs y hY => Step.load ⟨(w.heap.size + 1 + 1), 0, none⟩ rfl rfl rfl (by simp [go_sem, hY.cell e0]) rfl) <|
             .cons (fun vs y hY g1_0 => Step.indexAtP (n := .int .i64 0) ⟨xb, xoff, none⟩ rfl rfl g1_0 rfl (by simp [go_sem, Instr.indexAt, Addr.add, h0] <;> omega) rfl) <|
             .cons (fun vs y hY g2_0 => Step.fieldAddr ⟨xb, xoff, none⟩ rfl rfl g2_0 (by simp [go_sem]) rfl) <|
             .cons (fun vs y hY g3_0 => Step.load ⟨xb, xoff, none⟩ rfl rfl g3_0 (by simp [go_sem, hY.cell k0]) rfl) <|
             .cons (fun vs y hY => Step.makeFunc (cap := [.pointer (some ⟨(w.heap.size + 1 + 1), 0, none⟩), .pointer (some ⟨w.heap.size, 0, none⟩), .pointer (some ⟨(w.heap.size + 1), 0, none⟩)]) rfl rfl rfl rfl rfl) <|
             .skip rfl <|
             .skip rfl <|
             .skip rfl <|
             .nil) ?_
          intro vs w4 hC hL
          have r0 : vs 0 = _ := hL 0 (by decide) rfl
          have r1 : vs 1 = _ := hL 1 (by decide) rfl
          have r2 : vs 2 = _ := hL 2 (by decide) rfl
          have r3 : vs 3 = _ := hL 3 (by decide) rfl
          have r4 : vs 4 = _ := hL 4 (by decide) rfl
          have r5 : vs 5 = _ := hL 5 (by decide) rfl
          clear hL
          simp only [putAll, Act.put, List.contains_cons, List.contains_nil, Nat.reduceBEq, Nat.reduceAdd, Bool.or_false, Bool.or_true, cond_true, cond_false, List.setIfInBounds_toArray, List.set_cons_succ, List.set_cons_zero, List.filterMap_cons, List.filterMap_nil, List.getElem?_cons_succ, List.getElem?_cons_zero, r0, r1, r2, r3, r4, r5]
          clear r0 r1 r2 r3 r4 r5
          replace f2 : _ = false := (hC.frozen (lt_of_cell d0)).trans f2
          replace f3 : _ = false := (hC.frozen (lt_of_cell d1)).trans f3
          replace d0 := hC.cell d0
          replace d1 := hC.cell d1
          replace z0 := hC.cell z0
          replace c0 := hC.cell c0
          replace c1 := hC.cell c1
          replace e0 := hC.cell e0
          replace hE := hE.tr hC
          clear hC
          go_wp2_with fail
          refine (opOf_any s (ar0 gs) (compF s f gs) 85 #[] _ _ hs1 hs2 hm.1 (by omega) Try.call85 ?_).mono ?_
          · intro k x w' hk hEc hx
            simp only [List.append_toArray, List.nil_append, List.cons_append]
            exact composeFn_any s f _ gs _ _ _ _ k x w' ((hr.ext hE).ext hEc) ((hs.ext hE).ext hEc) H1.out HN.out HV.out HA.out (hEc.cell e0) (hEc.cell z0) ⟨_, rfl, hEc.cell c0, hEc.cell c1⟩ hx
          rintro e w5 ⟨u, fp, rfl, hE3, hr3, hfr⟩
          have q0 := lt_of_cell d0
          obtain ⟨ua, uc, rfl⟩ := hr3.form
          replace f2 : _ = false := (hE3.frozen (lt_of_cell d0)).trans f2
          replace f3 : _ = false := (hE3.frozen (lt_of_cell d1)).trans f3
          replace d0 := hE3.cell d0
          replace d1 := hE3.cell d1
          go_wp2_with fail
          exact bodyPost_ret (v := .tuple #[.agg #[.int .i64 (SopOf s (ar0 gs) (compF s f gs)).1, .slice ua (SopOf s (ar0 gs) (compF s f gs)).2.length uc], .int .i64 0]) (by simp [results, Try.results42, go_sem, d0, d1]; try rfl) rfl
            (OpRes.of rfl (((hE.tr hE3).setCell (by simp <;> omega) _).setCell (by simp <;> omega) _) (hr3.off ((Off.set (fp := [w.heap.size + 1 + 1 + 1]) (by simp)).trans (Off.set (by simp))) (fun h hh hm => by have := hfr h hh; simp at hm; (try dsimp only at q0); omega)) (fun h hh => by have := hfr h hh; have := hE.size; omega) hmk)
      · have hb : ((gs.length : Int) != f.1) = true := by simp [h3]
        rw [cops_2 h1 h2 h3]
        clear h3
        go_enter Try.func42, Try.ntmps42
        go_wp2_with fail
        refine (implValidOp_ok s f _ _ (hr.ext hE1)).mono ?_
        rintro e w1 ⟨rfl, hE⟩
        rw [h1]
        have z0 := hE.cell (p := ⟨w.heap.size, 0, none⟩) (v := .int .i64 s) (by simp [go_sem])
        have c0 := hE.cell (p := ⟨w.heap.size + 1, 0, none⟩) (v := .int .i64 f.1) (by simp [go_sem])
        have c1 := hE.cell (p := ⟨w.heap.size + 1, 1, none⟩) (v := .slice ta f.2.length tc) (by simp [go_sem])
        have e0 := hE.cell (p := ⟨w.heap.size + 1 + 1, 0, none⟩) (v := .slice la gs.length lc) (by simp [go_sem])
        have d0 := hE.cell (p := ⟨w.heap.size + 1 + 1 + 1, 0, none⟩) (v := .int .i64 0) (by simp [go_sem])
        have d1 := hE.cell (p := ⟨w.heap.size + 1 + 1 + 1, 1, none⟩) (v := .slice none 0 0) (by simp [go_sem])
        have f2 := hE.frozen (p := ⟨w.heap.size + 1 + 1 + 1, 0, none⟩) (by simp)
        have f3 := hE.frozen (p := ⟨w.heap.size + 1 + 1 + 1, 1, none⟩) (by simp)
        simp [go_sem] at f2 f3
        replace hE := hE1.tr hE
        go_wp2_with fail
        refine (areOps_any s gs _ _ (hs.ext hE)).mono ?_
        rintro e w2 ⟨rfl, hE2⟩
        rw [h2]
        replace f2 : _ = false := (hE2.frozen (lt_of_cell d0)).trans f2
        replace f3 : _ = false := (hE2.frozen (lt_of_cell d1)).trans f3
        replace d0 := hE2.cell d0
        replace d1 := hE2.cell d1
        replace z0 := hE2.cell z0
        replace c0 := hE2.cell c0
        replace c1 := hE2.cell c1
        replace e0 := hE2.cell e0
        replace hE := hE.tr hE2
        clear hE2
        go_wp2_with fail
        exact bodyPost_ret (v := .tuple #[.agg #[.int .i64 0, .slice none 0 0], .int .i64 2]) (by simp [results, Try.results42, go_sem, d0, d1]) rfl (OpRes.no ((hE.setCell (by simp <;> omega) _).setCell (by simp <;> omega) _))
set_option maxHeartbeats 4000000 in
set_option maxRecDepth 100000 in
theorem l02Compose_any (s : Int) (f : Int × List Int) (pv : Value) (gs : List (Int × List Int)) (u : Value) (w : World) (hr : PtOp w pv f) (hs : RdOpS w u gs) (hf : SValidOp s f = true) (hn : (gs.length : Int) = f.1) (hv : ∀ g ∈ gs, SValidOp s g = true) (ha : ∀ g ∈ gs, g.1 = ar0 gs) :
    Calls Try.prog 81 #[.int .i64 s, pv, u] w fun e w' => ∃ x fp, e = .returned x ∧ Ext w w' ∧ OwnOp w' x (SopOf s (ar0 gs) (compF s f gs)) fp ∧ ∀ h ∈ fp, w.heap.size ≤ h := by
  obtain ⟨i0, hi, hz0, hz1, hz2⟩ := info_parts infoT
  obtain ⟨⟨hs1, hs2⟩, ⟨hf1, hf2⟩, -, -⟩ := valid_iff.1 hf
  have h0 : 0 < gs.length := by omega
  have hn4 : gs.length ≤ 4 := by omega
  have har := valid_iff.1 (hv _ (List.getElem_mem h0))
  have hm : 1 ≤ ar0 gs ∧ ar0 gs ≤ 3 := by rw [ar0_eq h0]; exact har.2.1
  have hN3 : count s (ar0 gs) ≤ 256 := by have := count_eq s (ar0 gs) hs1 hs2 hm.1 (by omega); have := powW_small s (ar0 gs) hs1 hs2 hm.1 (by omega); omega
  have hcnt : ∀ g ∈ gs, g.2.length = count s (ar0 gs) := fun g hg => by rw [← valid_count (hv g hg), ha g hg]
  have HCNT := Lib.hid hcnt
  have HV := Lib.hid hv
  have HAR := Lib.hid ha
  have HF := Lib.hid hf
  have HN := Lib.hid hn
  have hdv := fun k : Nat => digs_val s hs1 (ar0 gs).toNat k (by omega)
  have HDV := Lib.hid hdv
  have HDL := Lib.hid (fun k : Nat => show ((digs s (ar0 gs).toNat k).length : Int) = ar0 gs by rw [digs_length]; omega)
  have HFG := Lib.hid (show ∀ (j n : Nat) (hj : j < gs.length) (hn : n < gs[j].2.length), apply s gs[j] (digs s (ar0 gs).toNat n) = (gs[j].2)[n] from fun j n hj hn => by
    rw [← ha gs[j] (List.getElem_mem hj)]; exact apply_digs (hv _ (List.getElem_mem hj)) hn)
  have HCF := Lib.hid (show ∀ n : Nat, compF s f gs (digs s (ar0 gs).toNat n) = apply s f (gs.map fun g => apply s g (digs s (ar0 gs).toNat n)) from fun n => rfl)
  have HA0 := Lib.hid (ar0_eq h0)
  obtain ⟨b0, off0, tv, rfl, e0, e1, hr⟩ := hr
  obtain ⟨xa, xb, xoff, xcap, ts, rfl, hlc, hcm, hxa, hxc⟩ := hs
  obtain rfl := hxa h0
  obtain ⟨k0, k1, k2⟩ := hxc 0 h0
  rw [Nat.zero_mul, Nat.add_zero] at k0 k1
  rw [← HA0.out] at k0
  obtain ⟨ta0, tc0, ht0⟩ := k2.form
  rw [ht0, hcnt _ (List.getElem_mem h0)] at k1
  have HXC := Lib.hid hxc
  have hbx := lt_of_cell k0
  have K0 := Lib.hid k0
  have K1 := Lib.hid k1
  have hpm : (⟨xb, xoff, none⟩ : Addr).block < w.heap.size := hbx
  generalize hcc : count s (ar0 gs) = N at *
  have HCC := Lib.hid hcc
  clear har hcnt hv ha hf hn hdv hxc k2 ht0 hcc
  go_enter Try.func81, Try.ntmps81
  go_wp2_with fail
  clear k0 k1
  go_loopw [8] (fun i wr => ∃ (n : Nat) (tv : Value), n ≤ N ∧ i = .int .i64 n ∧ AccT w wr w.heap.size (w.heap.size + 1) (w.heap.size + 2) (ar0 gs) (tableOf s (ar0 gs) (compF s f gs) n) tv) (fun i _ => N - (intOf i).toNat)
  case atStart =>
    refine ⟨0, .slice none 0 0, by omega, rfl, ⟨((Ext.refl' w).alloc (Nat.le_refl _) _).alloc (by simp) _, World.ownsRow_nil _ _ _ _, by simp, by omega, by omega, Nat.le_refl _, ?_, ?_, ?_, ?_, ?_, ?_, ?_⟩⟩ <;> simp [go_sem]
  case round =>
    obtain ⟨n, tw, hn, rfl, hA⟩ := hrel
    obtain ⟨va, vc, rfl⟩ := hA.form
    have hE := hA.hE
    have k1 := hE.cell K1.out
    by_cases hnl : n < N
    · obtain ⟨B, hB1, hB2⟩ : ∃ B, B ≤ wr.heap.size ∧ wr.heap.size ≤ B := ⟨_, Nat.le_refl _, Nat.le_refl _⟩
      go_wp2_with fail
      go_loopw [9, 10] (fun t i wq => ∃ j : Nat, j ≤ gs.length ∧ i = .int .i64 j ∧ Ext wr wq ∧ wq.ownsRow B 2 1 t j (((gs.take j).map fun g => apply s g (digs s (ar0 gs).toNat n)).map (Value.int .i64))) (fun _ i _ => gs.length - (intOf i).toNat)
      case atStart => exact ⟨0, by omega, rfl, (Ext.refl' wr).alloc (Nat.le_refl _) _, World.ownsRow_made wr #[] 0 hB1 (by decide) rfl⟩
      case round =>
        obtain ⟨j, hj, rfl, hEq, hoq⟩ := hrel
        have hEE := hE.tr hEq
        by_cases hjl : j < gs.length
        · obtain ⟨m0, m1, m2⟩ := HXC.out j hjl
          have hcl := HCNT.out gs[j] (List.getElem_mem hjl)
          have hnj : n < gs[j].2.length := by omega
          replace m1 := hEE.cell m1
          generalize ts j = y at m1 m2
          obtain ⟨za, zb, zoff, zc, rfl, hzlc, hzcm, hza, hzc⟩ := m2
          obtain rfl := hza (by omega)
          have hzp := hEE.cell (hzc n hnj)
          have HT := Lib.hid (show (gs.take (j + 1)).map (fun g => apply s g (digs s (ar0 gs).toNat n)) = (gs.take j).map (fun g => apply s g (digs s (ar0 gs).toNat n)) ++ [(gs[j].2)[n]] from by rw [List.take_succ_eq_append_getElem hjl, List.map_append, ← HFG.out j n hjl hnj]; rfl)
          obtain ⟨ta, tb, tc, rfl, -⟩ := own_parts hoq
          clear hzc hcl
          go_wp2_with (at_builtin; refine wpList_append_own _ rfl _ _ 25 rfl B 2 i0 (.int .i64 0) 1 8 Try.underlying25 hi hz0 hz1 hz2 rfl (by decide) _ _ _ rfl (own_ext hoq ((Ext.refl' wr).alloc (Nat.le_refl _) _)) ⟨wr.heap.size, 0, none⟩ 1 1 [.int .i64 (gs[j].2)[n]] rfl rfl (cells_one (by simp [go_sem])) (by simp [Value.oneCell']) (by unfold maxLen; omega) (by omega) (by have := hEq.size; simp; omega) ?_)
          intro v' w4 ho4 hg4 _
          have hA4 : Ext wr (wr.alloc (.cells #[.int .i64 (gs[j].2)[n]] 2)) := (Ext.refl' wr).alloc (Nat.le_refl _) _
          have hE4 := (hEq.tr hA4).grown hg4 (by have := hEq.size; simp; omega) (fun k hk => by have := (hoq.lt k hk).1; omega)
          have ho5 : w4.ownsRow B 2 1 v' (j + 1) (((gs.take (j + 1)).map fun g => apply s g (digs s (ar0 gs).toNat n)).map (Value.int .i64)) := by
            rw [HT.out, List.map_append]
            simpa using ho4
          clear hoq hg4 hA4 ho4 hEq hEE
          go_wp2_with fail
          go_roundw
          case rel => exact ⟨j + 1, by omega, by go_num, hE4, ho5⟩
          case measure => simp [intOf]; omega
        · have hjj : j = gs.length := by omega
          subst hjj
          rw [List.take_length] at hoq
          have hown : OI wr _ (gs.map fun g => apply s g (digs s (ar0 gs).toNat n)) _ := ⟨own_base (base' := 0) (by rw [List.length_map]; exact hoq) (fun _ _ => Nat.zero_le _), rfl⟩
          obtain ⟨ta, tb, tc, rfl, -⟩ := own_parts hoq
          have hpt : PtOp wr (.pointer (some ⟨b0, off0, none⟩)) f := ⟨b0, off0, tv, rfl, hEE.cell e0, hEE.cell e1, hr.ext hEE⟩
          replace hA := hA.ext hEq
          have a0 := hA.c0
          have a1 := hA.c1
          have HTB := Lib.hid (tableOf_succ s (ar0 gs) (compF s f gs) n)
          have htl := tableOf_length s (ar0 gs) (compF s f gs) n
          have htl2 : (tableOf s (ar0 gs) (compF s f gs) n).length ≤ 1048576 := by omega
          have hvv : ∀ a ∈ gs.map (fun g => apply s g (digs s (ar0 gs).toNat n)), 0 ≤ a ∧ a < s := by
            intro a ha
            obtain ⟨g, hg, rfl⟩ := List.mem_map.1 ha
            exact apply_val (HV.out g hg) (by rw [HAR.out g hg]; exact HDL.out n) (HDV.out n)
          have HVV := Lib.hid hvv
          clear hvv htl
          go_wp2_with fail
          go_wp2_with fail
          refine region_sp [] [7, 8, 9] [SP.val (.pointer (some ⟨(w.heap.size + 1), 1, none⟩)), SP.val (.slice va (tableOf s (ar0 gs) (compF s f gs) n).length vc), SP.val (.int .i64 s), SP.val (.pointer (some ⟨b0, off0, none⟩)), SP.val (.slice ta gs.length tc), SP.val (.int .i64 (compF s f gs (digs s (ar0 gs).toNat n))), SP.row1 (.int .i64 (compF s f gs (digs s (ar0 gs).toNat n))), SP.any, SP.any, SP.any] (by kernel_rfl) (fun _ d _ _ _ h => by cases d <;> exact h) (by kernel_rfl) (by kernel_rfl)
            (.cons (fun vs y hY => Step.fieldAddr ⟨(w.heap.size + 1), 0, none⟩ rfl rfl rfl (by simp [go_sem]) rfl) <|
             .cons (fun vs y hY g0_0 => Step.load ⟨(w.heap.size + 1), 1, none⟩ rfl rfl g0_0 (by simp [go_sem, hY.cell a1]) rfl) <|
             .cons (fun vs y hY => Step.move rfl rfl rfl rfl) <|
             .cons (fun vs y hY => Step.move rfl rfl rfl rfl) <|
             .cons (fun vs y hY => Step.move rfl rfl rfl rfl) <|
             .cons (fun vs y hY g2_0 g3_1 g4_2 => Step.call Try.call69 rfl rfl [vs 2, vs 3, vs 4] rfl rfl (by rw [show vs 2 = _ from g2_0, show vs 3 = _ from g3_1, show vs 4 = _ from g4_2]; exact (Calls.spq (l02Value_any s f _ _ _ _ (hpt.ext hY) (hown.rd.ext hY) HF.out (by rw [List.length_map]; exact HN.out) HVV.out) (by rw [HCF.out])))) <|
             .cons (fun vs y hY g5_0 => Step.buildSlice1 (x := .int .i64 (compF s f gs (digs s (ar0 gs).toNat n))) (e := 2) rfl rfl g5_0 (by simp [go_sem]) row1_new) <|
             .skip rfl <|
             .skip rfl <|
             .skip rfl <|
             .nil) ?_
          intro vs w3 hC hL
          have r0 : vs 0 = _ := hL 0 (by decide) rfl
          have r1 : vs 1 = _ := hL 1 (by decide) rfl
          have r2 : vs 2 = _ := hL 2 (by decide) rfl
          have r3 : vs 3 = _ := hL 3 (by decide) rfl
          have r4 : vs 4 = _ := hL 4 (by decide) rfl
          have r5 : vs 5 = _ := hL 5 (by decide) rfl
          have r6 := hL 6 (by decide) rfl
          clear hL
          simp only [putAll, Act.put, List.contains_cons, List.contains_nil, Nat.reduceBEq, Nat.reduceAdd, Bool.or_false, Bool.or_true, cond_true, cond_false, List.setIfInBounds_toArray, List.set_cons_succ, List.set_cons_zero, List.filterMap_cons, List.filterMap_nil, List.getElem?_cons_succ, List.getElem?_cons_zero, r0, r1, r2, r3, r4, r5]
          clear r0 r1 r2 r3 r4 r5
          obtain ⟨b', rb, cb⟩ := r6
          rw [rb]
          replace hA := hA.ext hC
          refine hA.append htl2 cb rfl (.tmp 44) (.tmp 49) rfl rfl rfl ?_
          intro v' w4 k3 k4 hA' _ ⟨ya, yc, hxe⟩
          subst hxe
          rw [← HTB.out] at hA'
          go_wp2_with fail
          go_roundw
          case rel => exact ⟨n + 1, _, by omega, by go_num, hA'⟩
          case measure => simp [intOf]; omega
    · obtain rfl : n = N := by omega
      obtain ⟨fp, hdone⟩ := hA.done (.int .i64 (ar0 gs)) (.slice va (tableOf s (ar0 gs) (compF s f gs) n).length vc)
      have c0 := hA.c0
      have c1 := hA.c1
      have d0 := hA.d0
      have d1 := hA.d1
      have f2 := hA.f2
      have f3 := hA.f3
      have HS := Lib.hid (show SopOf s (ar0 gs) (compF s f gs) = (ar0 gs, tableOf s (ar0 gs) (compF s f gs) n) from by unfold SopOf; rw [HCC.out])
      have HDN := Lib.hid hdone
      clear hdone
      go_wp2_with fail
      rw [HS.out]
      exact bodyPost_ret (v := .agg #[.int .i64 (ar0 gs), .slice va (tableOf s (ar0 gs) (compF s f gs) n).length vc]) (by simp [results, Try.results81, go_sem, d0, d1]) rfl ⟨_, fp, rfl, HDN.out.1, HDN.out.2.1, HDN.out.2.2⟩
set_option maxHeartbeats 4000000 in
set_option maxRecDepth 100000 in
theorem specComposeOps_any (s : Int) (f : Int × List Int) (v : Value) (gs : List (Int × List Int)) (u : Value) (w : World) (hr : RdOp w v f) (hs : RdOpS w u gs) (lo0 : -9223372036854775808 ≤ s) (hi0 : s ≤ 9223372036854775807) (hz1 : szOp f ≤ 1048576) (hz2 : szOpS gs ≤ 1048576) :
    Calls Try.prog 40 #[.int .i64 s, v, u] w (OpRes (SComposeOps s f gs) w) := by
  obtain ⟨tv, rfl, hr'⟩ := hr
  obtain ⟨ta, tc, rfl⟩ := hr'.form
  have hr : RdOp w _ f := ⟨_, rfl, hr'⟩
  obtain ⟨la, lc, rfl⟩ := hs.form
  have hlen : gs.length ≤ 1048576 := Nat.le_trans (len_le_szOpS _) hz2
  have hE1 : Ext w ((w.alloc (.cells #[.int .i64 f.1, .slice ta f.2.length tc] 30)).alloc (.cells #[.int .i64 0, .slice none 0 0] 30)) := ((Ext.refl' w).alloc (Nat.le_refl _) _).alloc (by simp) _
  have hp : PtOp ((w.alloc (.cells #[.int .i64 f.1, .slice ta f.2.length tc] 30)).alloc (.cells #[.int .i64 0, .slice none 0 0] 30)) (.pointer (some ⟨w.heap.size, 0, none⟩)) f := ⟨_, _, _, rfl, by simp [go_sem], by simp [go_sem], hr'.ext hE1⟩
  cases h1 : SValidOp s f with
  | false =>
    rw [cops_1 (by rw [h1]; rfl)]
    go_enter Try.func40, Try.ntmps40
    go_wp2_with fail
    refine (l02Ok_any s f _ _ hp).mono ?_
    rintro e w1 ⟨rfl, hQ⟩
    rw [h1]
    have hE := hQ.ext
    have c0 := hE.cell (p := ⟨w.heap.size, 0, none⟩) (v := .int .i64 f.1) (by simp [go_sem])
    have c1 := hE.cell (p := ⟨w.heap.size, 1, none⟩) (v := .slice ta f.2.length tc) (by simp [go_sem])
    have d0 := hE.cell (p := ⟨w.heap.size + 1, 0, none⟩) (v := .int .i64 0) (by simp [go_sem])
    have d1 := hE.cell (p := ⟨w.heap.size + 1, 1, none⟩) (v := .slice none 0 0) (by simp [go_sem])
    have f2 := hE.frozen (p := ⟨w.heap.size + 1, 0, none⟩) (by simp)
    have f3 := hE.frozen (p := ⟨w.heap.size + 1, 1, none⟩) (by simp)
    simp [go_sem] at f2 f3
    replace hp := hp.ext hE
    replace hE := hE1.tr hE
    go_wp2_with fail
    exact bodyPost_ret (v := .tuple #[.agg #[.int .i64 0, .slice none 0 0], .int .i64 1]) (by simp [results, Try.results40, go_sem, d0, d1]) rfl (OpRes.no ((hE.setCell (by simp <;> omega) _).setCell (by simp <;> omega) _))
  | true =>
    obtain ⟨⟨hs1, hs2⟩, ⟨hf1, hf2⟩, -, -⟩ := valid_iff.1 h1
    cases h2 : opsOk s gs with
    | false =>
      rw [cops_1 (by rw [h1, h2]; rfl)]
      go_enter Try.func40, Try.ntmps40
      go_wp2_with fail
      refine (l02Ok_any s f _ _ hp).mono ?_
      rintro e w1 ⟨rfl, hQ⟩
      rw [h1]
      have hE := hQ.ext
      have c0 := hE.cell (p := ⟨w.heap.size, 0, none⟩) (v := .int .i64 f.1) (by simp [go_sem])
      have c1 := hE.cell (p := ⟨w.heap.size, 1, none⟩) (v := .slice ta f.2.length tc) (by simp [go_sem])
      have d0 := hE.cell (p := ⟨w.heap.size + 1, 0, none⟩) (v := .int .i64 0) (by simp [go_sem])
      have d1 := hE.cell (p := ⟨w.heap.size + 1, 1, none⟩) (v := .slice none 0 0) (by simp [go_sem])
      have f2 := hE.frozen (p := ⟨w.heap.size + 1, 0, none⟩) (by simp)
      have f3 := hE.frozen (p := ⟨w.heap.size + 1, 1, none⟩) (by simp)
      simp [go_sem] at f2 f3
      replace hp := hp.ext hE
      replace hE := hE1.tr hE
      go_wp2_with fail
      refine (l02All_any s gs _ _ (hs.ext hE)).mono ?_
      rintro e w2 ⟨rfl, hQ2⟩
      rw [h2]
      have hE2 := hQ2.ext
      replace f2 : _ = false := (hE2.frozen (lt_of_cell d0)).trans f2
      replace f3 : _ = false := (hE2.frozen (lt_of_cell d1)).trans f3
      replace d0 := hE2.cell d0
      replace d1 := hE2.cell d1
      replace c0 := hE2.cell c0
      replace c1 := hE2.cell c1
      replace hp := hp.ext hE2
      replace hE := hE.tr hE2
      clear hE2
      go_wp2_with fail
      exact bodyPost_ret (v := .tuple #[.agg #[.int .i64 0, .slice none 0 0], .int .i64 1]) (by simp [results, Try.results40, go_sem, d0, d1]) rfl (OpRes.no ((hE.setCell (by simp <;> omega) _).setCell (by simp <;> omega) _))
    | true =>
      by_cases h3 : (gs.length : Int) = f.1
      · have hb : ((gs.length : Int) != f.1) = false := by simp [h3]
        have h0 : 0 < gs.length := by omega
        have HN := Lib.hid h3
        have HV := Lib.hid (opsOk_all h2)
        have H1 := Lib.hid h1
        have H2 := Lib.hid h2
        have HM := Lib.hid (ar0_eq h0)
        go_enter Try.func40, Try.ntmps40
        go_wp2_with fail
        refine (l02Ok_any s f _ _ hp).mono ?_
        rintro e w1 ⟨rfl, hQ⟩
        rw [h1]
        have hE := hQ.ext
        have c0 := hE.cell (p := ⟨w.heap.size, 0, none⟩) (v := .int .i64 f.1) (by simp [go_sem])
        have c1 := hE.cell (p := ⟨w.heap.size, 1, none⟩) (v := .slice ta f.2.length tc) (by simp [go_sem])
        have d0 := hE.cell (p := ⟨w.heap.size + 1, 0, none⟩) (v := .int .i64 0) (by simp [go_sem])
        have d1 := hE.cell (p := ⟨w.heap.size + 1, 1, none⟩) (v := .slice none 0 0) (by simp [go_sem])
        have f2 := hE.frozen (p := ⟨w.heap.size + 1, 0, none⟩) (by simp)
        have f3 := hE.frozen (p := ⟨w.heap.size + 1, 1, none⟩) (by simp)
        simp [go_sem] at f2 f3
        replace hp := hp.ext hE
        replace hE := hE1.tr hE
        go_wp2_with fail
        refine (l02All_any s gs _ _ (hs.ext hE)).mono ?_
        rintro e w2 ⟨rfl, hQ2⟩
        rw [h2]
        have hE2 := hQ2.ext
        replace f2 : _ = false := (hE2.frozen (lt_of_cell d0)).trans f2
        replace f3 : _ = false := (hE2.frozen (lt_of_cell d1)).trans f3
        replace d0 := hE2.cell d0
        replace d1 := hE2.cell d1
        replace c0 := hE2.cell c0
        replace c1 := hE2.cell c1
        replace hp := hp.ext hE2
        replace hE := hE.tr hE2
        clear hE2
        clear h1 h2 h3
        have hs0 := hs
        obtain ⟨xa, xb, xoff, xcap, ts, hsl, hlc, hcm, hxa, hxc⟩ := hs
        simp only [Value.slice.injEq] at hsl
        obtain ⟨rfl, -, rfl⟩ := hsl
        obtain rfl := hxa h0
        obtain ⟨k0, -, -⟩ := hxc 0 h0
        replace k0 : _ = _ := (by rw [HM.out]; simpa using k0 : w.cell? ⟨xb, xoff, none⟩ = some (.int .i64 (ar0 gs)))
        replace k0 := hE.cell k0
        have HXC := Lib.hid hxc
        clear hxc
        go_wp2_with fail
        go_loopw [8] (fun i wr => ∃ k : Nat, 1 ≤ k ∧ k ≤ gs.length ∧ i = .int .i64 k ∧ Qt w2 wr ∧ (gs.take k).any (fun g => g.1 != ar0 gs) = false) (fun i _ => gs.length - (intOf i).toNat)
        case atStart =>
          refine ⟨1, by omega, by omega, rfl, Qt.refl _, ?_⟩
          obtain ⟨g0, gs', rfl⟩ := List.exists_cons_of_length_pos h0
          simp [ar0]
        case round =>
          obtain ⟨k, hk1, hk, rfl, hQ3, ht⟩ := hrel
          have HT := Lib.hid ht
          clear ht
          have hE3 := hQ3.ext
          replace f2 : _ = false := (hE3.frozen (lt_of_cell d0)).trans f2
          replace f3 : _ = false := (hE3.frozen (lt_of_cell d1)).trans f3
          replace d0 := hE3.cell d0
          replace d1 := hE3.cell d1
          replace k0 := hE3.cell k0
          replace hp := hp.ext hE3
          replace hE := hE.tr hE3
          by_cases hkl : k < gs.length
          · obtain ⟨m0, -, -⟩ := HXC.out k hkl
            replace m0 := hE.cell m0
            generalize hm : ar0 gs = m at k0
            by_cases hq : gs[k].1 = m
            · have hbq : (gs[k].1 != m) = false := by simp [hq]
              have HI := Lib.hid (show (gs.take (k + 1)).any (fun g => g.1 != m) = false from by subst hm; rw [any_take_succ _ gs k hkl, HT.out, hbq]; rfl)
              clear hq hm
              go_wp2_with fail
              go_quiet (fail)
              go_wp2_with fail
              go_roundw
              case rel => exact ⟨k + 1, by omega, by omega, by go_num, hQ3.drewN _, HI.out⟩
              case measure => simp [intOf]; omega
            · have hbq : (gs[k].1 != m) = true := by simp [hq]
              have HA := Lib.hid (cops_4 H1.out H2.out HN.out (List.any_eq_true.2 ⟨gs[k], List.getElem_mem hkl, by subst hm; exact hbq⟩))
              clear hq hm
              go_wp2_with fail
              go_quiet (fail)
              have hE4 : Ext wr (wr.drewN nq) := Qt.ext ⟨_, rfl⟩
              generalize wr.drewN nq = w5 at hE4 ⊢
              replace f2 : _ = false := (hE4.frozen (lt_of_cell d0)).trans f2
              replace f3 : _ = false := (hE4.frozen (lt_of_cell d1)).trans f3
              replace d0 := hE4.cell d0
              replace d1 := hE4.cell d1
              replace hE := hE.tr hE4
              go_wp2_with fail
              rw [HA.out]
              exact bodyPost_ret (v := .tuple #[.agg #[.int .i64 0, .slice none 0 0], .int .i64 4]) (by simp [results, Try.results40, go_sem, d0, d1]) rfl (OpRes.no ((hE.setCell (by simp <;> omega) _).setCell (by simp <;> omega) _))
          · have hall : (gs.any fun g => g.1 != ar0 gs) = false := by
              have := HT.out
              rwa [show k = gs.length by omega, List.take_length] at this
            have HA := Lib.hid (cops_0 H1.out H2.out HN.out hall)
            have HAR := Lib.hid (same_ar hall)
            have har := valid_iff.1 (HV.out _ (List.getElem_mem h0))
            have hm : 1 ≤ ar0 gs ∧ ar0 gs ≤ 3 := by rw [HM.out]; exact har.2.1
            have hmk : mkOp (SopOf s (ar0 gs) (compF s f gs)) ≤ 1048576 := by rw [mkOp_SopOf]; have := count_eq s (ar0 gs) hs1 hs2 hm.1 (by omega); have := powW_small s (ar0 gs) hs1 hs2 hm.1 (by omega); omega
            clear hall har
            go_wp2_with fail
            refine (l02Compose_any s f _ gs _ _ hp (hs0.ext hE) H1.out HN.out HV.out HAR.out).mono ?_
            rintro e w5 ⟨u, fp, rfl, hE3, hr3, hfr⟩
            have q0 := lt_of_cell d0
            obtain ⟨ua, uc, rfl⟩ := hr3.form
            replace f2 : _ = false := (hE3.frozen (lt_of_cell d0)).trans f2
            replace f3 : _ = false := (hE3.frozen (lt_of_cell d1)).trans f3
            replace d0 := hE3.cell d0
            replace d1 := hE3.cell d1
            go_wp2_with fail
            rw [HA.out]
            exact bodyPost_ret (v := .tuple #[.agg #[.int .i64 (SopOf s (ar0 gs) (compF s f gs)).1, .slice ua (SopOf s (ar0 gs) (compF s f gs)).2.length uc], .int .i64 0]) (by simp [results, Try.results40, go_sem, d0, d1]; try rfl) rfl
              (OpRes.of rfl (((hE.tr hE3).setCell (by simp <;> omega) _).setCell (by simp <;> omega) _) (hr3.off ((Off.set (fp := [w.heap.size + 1]) (by simp)).trans (Off.set (by simp))) (fun h hh hm => by have := hfr h hh; simp at hm; (try dsimp only at q0); omega)) (fun h hh => by have := hfr h hh; have := hE.size; omega) hmk)
      · have hb : ((gs.length : Int) != f.1) = true := by simp [h3]
        rw [cops_2 h1 h2 h3]
        clear h3
        go_enter Try.func40, Try.ntmps40
        go_wp2_with fail
        refine (l02Ok_any s f _ _ hp).mono ?_
        rintro e w1 ⟨rfl, hQ⟩
        rw [h1]
        have hE := hQ.ext
        have c0 := hE.cell (p := ⟨w.heap.size, 0, none⟩) (v := .int .i64 f.1) (by simp [go_sem])
        have c1 := hE.cell (p := ⟨w.heap.size, 1, none⟩) (v := .slice ta f.2.length tc) (by simp [go_sem])
        have d0 := hE.cell (p := ⟨w.heap.size + 1, 0, none⟩) (v := .int .i64 0) (by simp [go_sem])
        have d1 := hE.cell (p := ⟨w.heap.size + 1, 1, none⟩) (v := .slice none 0 0) (by simp [go_sem])
        have f2 := hE.frozen (p := ⟨w.heap.size + 1, 0, none⟩) (by simp)
        have f3 := hE.frozen (p := ⟨w.heap.size + 1, 1, none⟩) (by simp)
        simp [go_sem] at f2 f3
        replace hp := hp.ext hE
        replace hE := hE1.tr hE
        go_wp2_with fail
        refine (l02All_any s gs _ _ (hs.ext hE)).mono ?_
        rintro e w2 ⟨rfl, hQ2⟩
        rw [h2]
        have hE2 := hQ2.ext
        replace f2 : _ = false := (hE2.frozen (lt_of_cell d0)).trans f2
        replace f3 : _ = false := (hE2.frozen (lt_of_cell d1)).trans f3
        replace d0 := hE2.cell d0
        replace d1 := hE2.cell d1
        replace c0 := hE2.cell c0
        replace c1 := hE2.cell c1
        replace hp := hp.ext hE2
        replace hE := hE.tr hE2
        clear hE2
        go_wp2_with fail
        exact bodyPost_ret (v := .tuple #[.agg #[.int .i64 0, .slice none 0 0], .int .i64 2]) (by simp [results, Try.results40, go_sem, d0, d1]) rfl (OpRes.no ((hE.setCell (by simp <;> omega) _).setCell (by simp <;> omega) _))
end Go.Proofs.Ytfmoekfeajfidaa
