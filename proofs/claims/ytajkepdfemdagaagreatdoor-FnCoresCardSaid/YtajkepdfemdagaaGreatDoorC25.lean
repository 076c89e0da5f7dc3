/- The core of a template: the plain law; the reference's sorted lists of values. What a function leaves that answers numbers and a code. -/
import Derived.Test.YtajkepdfemdagaaGreatDoorC21
import Derived.Test.YtajkepdfemdagaaGreatDoorC24
import Derived.Test.YtajkepdfemdagaaGreatDoorC02
namespace Go.Proofs.YtajkepdfemdagaaGreatDoor
open Go.RowKit
set_option linter.unusedVariables false

def coreStep (t : TmD) (b : List Int) (k : Nat) : List Int :=
  if isMapS t t (digs t.1 t.1.toNat k) && (decide (b.length = 0) || decide ((riseL (digs t.1 t.1.toNat k)).length < b.length)) then riseL (digs t.1 t.1.toNat k) else b
def coreAt (t : TmD) : Nat → List Int
  | 0 => []
  | k + 1 => coreStep t (coreAt t k) k
def coreV (t : TmD) : List Int := coreAt t (count t.1 t.1)
theorem coreStep_yes {t : TmD} {b : List Int} {k : Nat} (h : isMapS t t (digs t.1 t.1.toNat k) = true) (h2 : b.length = 0 ∨ (riseL (digs t.1 t.1.toNat k)).length < b.length) : coreStep t b k = riseL (digs t.1 t.1.toNat k) := by
  unfold coreStep
  rw [h, Bool.true_and, if_pos (by simpa using h2)]
theorem coreStep_no {t : TmD} {b : List Int} {k : Nat} (h : isMapS t t (digs t.1 t.1.toNat k) = false ∨ ¬ (b.length = 0 ∨ (riseL (digs t.1 t.1.toNat k)).length < b.length)) : coreStep t b k = b := by
  unfold coreStep
  rcases h with h | h
  · rw [h, Bool.false_and, if_neg (by decide)]
  · have : (decide (b.length = 0) || decide ((riseL (digs t.1 t.1.toNat k)).length < b.length)) = false := by
      rw [Bool.eq_false_iff]
      intro hh
      exact h (by simpa using hh)
    rw [this, Bool.and_false, if_neg (by decide)]
theorem coreAt_len (t : TmD) : ∀ k, (coreAt t k).length ≤ t.1.toNat
  | 0 => Nat.zero_le _
  | k + 1 => by
    have ih := coreAt_len t k
    have h := riseL_length (digs t.1 t.1.toNat k)
    rw [digs_length] at h
    show (coreStep t (coreAt t k) k).length ≤ _
    unfold coreStep
    split
    · exact h
    · exact ih
/-- a tuple's values told by their places among the ones kept -/
def tellT (vs : List Int) (x : List Int) : List Int := x.map fun a => idx (fun b => decide (b = a)) vs
def restrR (vs : List Int) (r : RelD) : RelD := (r.1, (r.2.map (tellT vs)).filter fun x => !hasI x (-1))
def insideT (vs : List Int) (t : TmD) : TmD := ((vs.length : Int), t.2.map (restrR vs))
theorem tellT_length (vs x : List Int) : (tellT vs x).length = x.length := by simp [tellT]
def SCoreOf (t : TmD) : TmD × List Int × Int := if SValidTemplate t then (insideT (coreV t) t, coreV t, 0) else (noTm, [], 1)
theorem core_1 {t : TmD} (h : SValidTemplate t = false) : SCoreOf t = (noTm, [], 1) := by unfold SCoreOf; rw [h]; rfl
theorem core_0 {t : TmD} (h : SValidTemplate t = true) : SCoreOf t = (insideT (coreV t) t, coreV t, 0) := by unfold SCoreOf; rw [h]; rfl
theorem riseL_nil : riseL [] = [] := riseL_ext List.Pairwise.nil fun t => Iff.rfl
theorem riseL_snoc (L : List Int) (x : Int) : riseL (L ++ [x]) = riseL (x :: riseL L) := by
  refine riseL_ext (riseL_lt _) fun t => ?_
  rw [mem_riseL, List.mem_cons, mem_riseL, List.mem_append, List.mem_singleton]
  exact ⟨fun h => h.symm, fun h => h.symm⟩

set_option maxHeartbeats 4000000 in
set_option maxRecDepth 100000 in
theorem l00Put_any (l : List Int) (v : Value) (n : Int) (w : World) (hr : RdI w v l) (hl : l.Pairwise (· < ·)) (hlen : l.length ≤ 65536) :
    Calls Tryz.prog 160 #[v, .int .i64 n] w fun e w' => ∃ u fp, e = .returned u ∧ Ext w w' ∧ OI w' u (riseL (n :: l)) fp ∧ ∀ g ∈ fp, w.heap.size ≤ g := by
  obtain ⟨a, b, off, c, rfl, hlc, hcm, ha, hc⟩ := hr
  obtain ⟨i0, hi, hz0, hz1, hz2⟩ := info_parts infoI
  have HC := Lib.hid hc
  have HS := Lib.hid (List.pairwise_iff_getElem.1 hl)
  clear hc hl
  go_enter Tryz.func160, Tryz.ntmps160
  go_wp2_with fail
  go_loopw [5, 6, 7] (fun t d i wr => ∃ (k : Nat) (M : List Int) (done : Bool), k ≤ l.length ∧ d = .bool done ∧ i = .int .i64 (k : Nat) ∧ Ext w wr ∧ wr.ownsRow w.heap.size 2 1 t M.length (M.map (Value.int .i64)) ∧ M.length ≤ k + 1 ∧
      Hid (done = false → M = l.take k ∧ ∀ a ∈ M, a < n) ∧ Hid (done = true → M.Pairwise (· < ·) ∧ (∀ x, x ∈ M ↔ x = n ∨ x ∈ l.take k) ∧ ∃ (j : Nat) (hj : j < l.length), j < k ∧ n ≤ l[j])) (fun _ _ i _ => l.length - (intOf i).toNat)
  case atStart => exact ⟨0, [], false, by omega, rfl, rfl, (Ext.refl' w).alloc (Nat.le_refl _) _, World.ownsRow_made w #[] 0 (Nat.le_refl _) (by decide) rfl, by simp, Lib.hid fun _ => by simp, Lib.hid fun h => by cases h⟩
  case round =>
    obtain ⟨k, M, done, hk, rfl, rfl, hE, ho, hMl, H0, H1⟩ := hrel
    obtain ⟨oa, ob, oc, rfl, -⟩ := own_parts ho
    have q2 := hE.size
    by_cases hkl : k < l.length
    · obtain rfl := ha (by omega)
      have ckw := HC.out k hkl
      have ck := hE.cell ckw
      have HTk := Lib.hid (show l.take (k + 1) = l.take k ++ [l[k]] from List.take_succ_eq_append_getElem hkl)
      have HBelow := Lib.hid (show ∀ a ∈ l.take k, a < l[k] from fun a ha' => by
        obtain ⟨j, hj, rfl⟩ := List.getElem_of_mem ha'
        rw [List.length_take] at hj
        rw [List.getElem_take]
        exact HS.out j k (by omega) hkl (by omega))
      cases done with
      | true =>
        have HN := Lib.hid (show (M ++ [l[k]]).Pairwise (· < ·) ∧ (∀ x, x ∈ M ++ [l[k]] ↔ x = n ∨ x ∈ l.take (k + 1)) ∧ ∃ (j : Nat) (hj : j < l.length), j < k + 1 ∧ n ≤ l[j] from by
          obtain ⟨h1, h2, j, hj, hjk, hnj⟩ := H1.out rfl
          refine ⟨List.pairwise_append.2 ⟨h1, by simp, fun a ha' b hb => ?_⟩, fun x => ?_, j, hj, by omega, hnj⟩
          · rw [List.mem_singleton.1 hb]
            rcases (h2 a).1 ha' with rfl | ha2
            · have := HS.out j k hj hkl hjk
              omega
            · exact HBelow.out a ha2
          · rw [HTk.out, List.mem_append, h2, List.mem_append, or_assoc])
        clear H0 H1
        generalize l[k] = X at ck ckw HN HTk
        have hMl2 : (M ++ [X]).length ≤ k + 1 + 1 := by rw [List.length_append]; simp; omega
        go_wp2_with (at_builtin; refine wpList_append_own _ rfl _ _ 37 rfl w.heap.size 2 i0 (.int .i64 0) 1 8 Tryz.underlying37 hi hz0 hz1 hz2 rfl (by decide) _ _ _ rfl (own_ext ho ((Ext.refl' wr).alloc (Nat.le_refl _) _)) ⟨(wr).heap.size, 0, none⟩ 1 1 [.int .i64 X] rfl rfl (cells_one (by simp [go_sem])) (by simp [Value.oneCell']) (by unfold maxLen; omega) (by omega) (by simp; omega) ?_)
        intro v' w5 ho5 hg5 _
        have hA : Ext wr ((wr).alloc (.cells #[.int .i64 X] 2)) := (Ext.refl' wr).alloc (Nat.le_refl _) _
        replace hE : Ext w w5 := (hE.tr hA).grown hg5 (by simp; omega) (fun h hh => (ho.lt h hh).1)
        replace ho : (w5).ownsRow w.heap.size 2 1 v' (M ++ [X]).length ((M ++ [X]).map (Value.int .i64)) := by rw [List.map_append, List.length_append]; exact ho5
        clear hg5 hA ho5
        go_wp2_with fail
        go_roundw
        case rel => exact ⟨k + 1, M ++ [X], true, by omega, rfl, by go_num, hE, ho, hMl2, Lib.hid (fun h => by cases h), Lib.hid fun _ => HN.out⟩
        case measure => simp [intOf]; omega
      | false =>
        obtain ⟨hM, hMn⟩ := H0.out rfl
        have HM := Lib.hid hM
        have HMn := Lib.hid hMn
        have hMk : M.length ≤ k := by rw [hM, List.length_take]; omega
        have HSrt := Lib.hid (show M.Pairwise (· < ·) from by
          rw [hM]
          exact (List.pairwise_iff_getElem.2 HS.out).sublist (List.take_sublist k l))
        clear H0 H1 hM hMn
        by_cases hxn : n ≤ l[k]
        · by_cases hx2 : n < l[k]
          · have HN := Lib.hid (show (M ++ [n] ++ [l[k]]).Pairwise (· < ·) ∧ (∀ x, x ∈ M ++ [n] ++ [l[k]] ↔ x = n ∨ x ∈ l.take (k + 1)) ∧ ∃ (j : Nat) (hj : j < l.length), j < k + 1 ∧ n ≤ l[j] from by
              refine ⟨List.pairwise_append.2 ⟨List.pairwise_append.2 ⟨HSrt.out, by simp, fun a ha' b hb => ?_⟩, by simp, fun a ha' b hb => ?_⟩, fun x => ?_, k, hkl, by omega, hxn⟩
              · rw [List.mem_singleton.1 hb]; exact HMn.out a ha'
              · rw [List.mem_singleton.1 hb]
                rcases List.mem_append.1 ha' with h | h
                · rw [HM.out] at h; exact HBelow.out a h
                · rw [List.mem_singleton.1 h]; exact hx2
              · rw [HTk.out, List.mem_append, List.mem_append, List.mem_append, List.mem_singleton, HM.out]
                constructor
                · rintro ((h | h) | h)
                  · exact .inr (.inl h)
                  · exact .inl h
                  · exact .inr (.inr h)
                · rintro (h | h | h)
                  · exact .inl (.inr h)
                  · exact .inl (.inl h)
                  · exact .inr h)
            have hMl2 : (M ++ [n] ++ [l[k]]).length ≤ k + 1 + 1 := by rw [List.length_append, List.length_append]; simp; omega
            have hMl1 : (M ++ [n]).length ≤ k + 1 := by rw [List.length_append]; simp; omega
            have hx1 : (n ≤ l[k]) = True := by simp; exact hxn
            generalize l[k] = X at ck ckw HN HTk hxn hx2 hMl2 hx1
            go_wp2_with (at_builtin; refine wpList_append_own _ rfl _ _ 37 rfl w.heap.size 2 i0 (.int .i64 0) 1 8 Tryz.underlying37 hi hz0 hz1 hz2 rfl (by decide) _ _ _ rfl (own_ext ho ((Ext.refl' wr).alloc (Nat.le_refl _) _)) ⟨(wr).heap.size, 0, none⟩ 1 1 [.int .i64 n] rfl rfl (cells_one (by simp [go_sem])) (by simp [Value.oneCell']) (by unfold maxLen; omega) (by omega) (by simp; omega) ?_)
            intro v' w5 ho5 hg5 _
            have hA : Ext wr ((wr).alloc (.cells #[.int .i64 n] 2)) := (Ext.refl' wr).alloc (Nat.le_refl _) _
            replace hE : Ext w w5 := (hE.tr hA).grown hg5 (by simp; omega) (fun h hh => (ho.lt h hh).1)
            replace ho : (w5).ownsRow w.heap.size 2 1 v' (M ++ [n]).length ((M ++ [n]).map (Value.int .i64)) := by rw [List.map_append, List.length_append]; exact ho5
            clear hg5 hA ho5
            generalize M ++ [n] = Q at ho HN hMl2 hMl1
            obtain ⟨pa, pb, pc, rfl, -⟩ := own_parts ho
            have ck5 := hE.cell ckw
            have q5 := hE.size
            go_wp2_with (at_builtin; refine wpList_append_own _ rfl _ _ 37 rfl w.heap.size 2 i0 (.int .i64 0) 1 8 Tryz.underlying37 hi hz0 hz1 hz2 rfl (by decide) _ _ _ rfl (own_ext ho ((Ext.refl' w5).alloc (Nat.le_refl _) _)) ⟨(w5).heap.size, 0, none⟩ 1 1 [.int .i64 X] rfl rfl (cells_one (by simp [go_sem])) (by simp [Value.oneCell']) (by unfold maxLen; omega) (by omega) (by simp; omega) ?_)
            intro v' w6 ho5 hg5 _
            have hA : Ext w5 ((w5).alloc (.cells #[.int .i64 X] 2)) := (Ext.refl' w5).alloc (Nat.le_refl _) _
            replace hE : Ext w w6 := (hE.tr hA).grown hg5 (by simp; omega) (fun h hh => (ho.lt h hh).1)
            replace ho : (w6).ownsRow w.heap.size 2 1 v' (Q ++ [X]).length ((Q ++ [X]).map (Value.int .i64)) := by rw [List.map_append, List.length_append]; exact ho5
            clear hg5 hA ho5
            go_wp2_with fail
            go_roundw
            case rel => exact ⟨k + 1, Q ++ [X], true, by omega, rfl, by go_num, hE, ho, hMl2, Lib.hid (fun h => by cases h), Lib.hid fun _ => HN.out⟩
            case measure => simp [intOf]; omega
          · have hxe : l[k] = n := by omega
            have HN := Lib.hid (show (M ++ [l[k]]).Pairwise (· < ·) ∧ (∀ x, x ∈ M ++ [l[k]] ↔ x = n ∨ x ∈ l.take (k + 1)) ∧ ∃ (j : Nat) (hj : j < l.length), j < k + 1 ∧ n ≤ l[j] from by
              refine ⟨List.pairwise_append.2 ⟨HSrt.out, by simp, fun a ha' b hb => ?_⟩, fun x => ?_, k, hkl, by omega, hxn⟩
              · rw [List.mem_singleton.1 hb, hxe]; exact HMn.out a ha'
              · rw [HTk.out, List.mem_append, List.mem_append, List.mem_singleton, HM.out, hxe]
                constructor
                · rintro (h | h)
                  · exact .inr (.inl h)
                  · exact .inl h
                · rintro (h | h | h)
                  · exact .inr h
                  · exact .inl h
                  · exact .inr h)
            have hMl2 : (M ++ [l[k]]).length ≤ k + 1 + 1 := by rw [List.length_append]; simp; omega
            clear hxe
            generalize l[k] = X at ck ckw HN HTk hxn hx2 hMl2
            go_wp2_with (at_builtin; refine wpList_append_own _ rfl _ _ 37 rfl w.heap.size 2 i0 (.int .i64 0) 1 8 Tryz.underlying37 hi hz0 hz1 hz2 rfl (by decide) _ _ _ rfl (own_ext ho ((Ext.refl' wr).alloc (Nat.le_refl _) _)) ⟨(wr).heap.size, 0, none⟩ 1 1 [.int .i64 X] rfl rfl (cells_one (by simp [go_sem])) (by simp [Value.oneCell']) (by unfold maxLen; omega) (by omega) (by simp; omega) ?_)
            intro v' w5 ho5 hg5 _
            have hA : Ext wr ((wr).alloc (.cells #[.int .i64 X] 2)) := (Ext.refl' wr).alloc (Nat.le_refl _) _
            replace hE : Ext w w5 := (hE.tr hA).grown hg5 (by simp; omega) (fun h hh => (ho.lt h hh).1)
            replace ho : (w5).ownsRow w.heap.size 2 1 v' (M ++ [X]).length ((M ++ [X]).map (Value.int .i64)) := by rw [List.map_append, List.length_append]; exact ho5
            clear hg5 hA ho5
            go_wp2_with fail
            go_roundw
            case rel => exact ⟨k + 1, M ++ [X], true, by omega, rfl, by go_num, hE, ho, hMl2, Lib.hid (fun h => by cases h), Lib.hid fun _ => HN.out⟩
            case measure => simp [intOf]; omega
        · have HN := Lib.hid (show M ++ [l[k]] = l.take (k + 1) ∧ ∀ a ∈ M ++ [l[k]], a < n from by
            refine ⟨by rw [HTk.out, HM.out], fun a ha' => ?_⟩
            rcases List.mem_append.1 ha' with h | h
            · exact HMn.out a h
            · rw [List.mem_singleton.1 h]; omega)
          have hMl2 : (M ++ [l[k]]).length ≤ k + 1 + 1 := by rw [List.length_append]; simp; omega
          generalize l[k] = X at ck ckw HN HTk hxn hMl2
          go_wp2_with (at_builtin; refine wpList_append_own _ rfl _ _ 37 rfl w.heap.size 2 i0 (.int .i64 0) 1 8 Tryz.underlying37 hi hz0 hz1 hz2 rfl (by decide) _ _ _ rfl (own_ext ho ((Ext.refl' wr).alloc (Nat.le_refl _) _)) ⟨(wr).heap.size, 0, none⟩ 1 1 [.int .i64 X] rfl rfl (cells_one (by simp [go_sem])) (by simp [Value.oneCell']) (by unfold maxLen; omega) (by omega) (by simp; omega) ?_)
          intro v' w5 ho5 hg5 _
          have hA : Ext wr ((wr).alloc (.cells #[.int .i64 X] 2)) := (Ext.refl' wr).alloc (Nat.le_refl _) _
          replace hE : Ext w w5 := (hE.tr hA).grown hg5 (by simp; omega) (fun h hh => (ho.lt h hh).1)
          replace ho : (w5).ownsRow w.heap.size 2 1 v' (M ++ [X]).length ((M ++ [X]).map (Value.int .i64)) := by rw [List.map_append, List.length_append]; exact ho5
          clear hg5 hA ho5
          go_wp2_with fail
          go_roundw
          case rel => exact ⟨k + 1, M ++ [X], false, by omega, rfl, by go_num, hE, ho, hMl2, Lib.hid fun _ => HN.out, Lib.hid fun h => by cases h⟩
          case measure => simp [intOf]; omega
    · cases done with
      | true =>
        have HN := Lib.hid (show riseL (n :: l) = M from by
          obtain ⟨h1, h2, -⟩ := H1.out rfl
          refine riseL_ext h1 fun x => ?_
          rw [h2, List.take_of_length_le (by omega), List.mem_cons])
        clear H0 H1
        go_wp2_with fail
        go_ret
        exact ⟨_, _, rfl, hE, by rw [HN.out]; exact ⟨own_base ho (fun _ _ => Nat.zero_le _), rfl⟩, fun g hg => (ho.lt g (by simpa using hg)).1⟩
      | false =>
        have HN := Lib.hid (show riseL (n :: l) = M ++ [n] from by
          obtain ⟨h1, h2⟩ := H0.out rfl
          rw [List.take_of_length_le (by omega)] at h1
          refine riseL_ext (List.pairwise_append.2 ⟨?_, by simp, fun a ha' b hb => ?_⟩) fun x => ?_
          · rw [h1]; exact List.pairwise_iff_getElem.2 HS.out
          · rw [List.mem_singleton.1 hb]; exact h2 a ha'
          · rw [List.mem_append, List.mem_singleton, h1, List.mem_cons]
            exact ⟨fun h => h.symm, fun h => h.symm⟩)
        clear H0 H1
        go_wp2_with (at_builtin; refine wpList_append_own _ rfl _ _ 37 rfl w.heap.size 2 i0 (.int .i64 0) 1 8 Tryz.underlying37 hi hz0 hz1 hz2 rfl (by decide) _ _ _ rfl (own_ext ho ((Ext.refl' wr).alloc (Nat.le_refl _) _)) ⟨(wr).heap.size, 0, none⟩ 1 1 [.int .i64 n] rfl rfl (cells_one (by simp [go_sem])) (by simp [Value.oneCell']) (by unfold maxLen; omega) (by omega) (by simp; omega) ?_)
        intro v' w5 ho5 hg5 _
        have hA : Ext wr ((wr).alloc (.cells #[.int .i64 n] 2)) := (Ext.refl' wr).alloc (Nat.le_refl _) _
        replace hE : Ext w w5 := (hE.tr hA).grown hg5 (by simp; omega) (fun h hh => (ho.lt h hh).1)
        replace ho : (w5).ownsRow w.heap.size 2 1 v' (M ++ [n]).length ((M ++ [n]).map (Value.int .i64)) := by rw [List.map_append, List.length_append]; exact ho5
        clear hg5 hA ho5
        obtain ⟨pa, pb, pc, rfl, -⟩ := own_parts ho
        go_wp2_with fail
        go_ret
        exact ⟨_, _, rfl, hE, by rw [HN.out]; exact ⟨own_base ho (fun _ _ => Nat.zero_le _), rfl⟩, fun g hg => (ho.lt g (by simpa using hg)).1⟩
set_option maxHeartbeats 2000000 in
set_option maxRecDepth 100000 in
theorem l01Values_any (l : List Int) (v : Value) (w : World) (hr : RdI w v l) (hlen : l.length ≤ 65536) :
    Calls Tryz.prog 134 #[v] w fun e w' => ∃ u fp, e = .returned u ∧ Ext w w' ∧ OI w' u (riseL l) fp ∧ ∀ g ∈ fp, w.heap.size ≤ g := by
  obtain ⟨a, b, off, c, rfl, hlc, hcm, ha, hc⟩ := hr
  have HC := Lib.hid hc
  clear hc
  go_enter Tryz.func134, Tryz.ntmps134
  go_wp2_with fail
  go_loopw [3, 4] (fun t i wr => ∃ (k : Nat) (fp : List Nat), k ≤ l.length ∧ i = .int .i64 (k : Nat) ∧ Ext w wr ∧ OI wr t (riseL (l.take k)) fp ∧ ∀ g ∈ fp, w.heap.size ≤ g) (fun _ i _ => l.length - (intOf i).toNat)
  case atStart => exact ⟨0, _, by omega, rfl, (Ext.refl' w).alloc (Nat.le_refl _) _, by rw [List.take_zero, riseL_nil]; exact ⟨World.ownsRow_made w #[] 0 (Nat.zero_le _) (by decide) rfl, rfl⟩, by simp [Value.ownBlock]⟩
  case round =>
    obtain ⟨k, fp, hk, rfl, hE, ho, hfp⟩ := hrel
    obtain ⟨oa, oc, rfl⟩ := ho.form
    by_cases hkl : k < l.length
    · obtain rfl := ha (by omega)
      have ck := hE.cell (HC.out k hkl)
      have HT := Lib.hid (show riseL (l.take (k + 1)) = riseL (l[k] :: riseL (l.take k)) from by rw [List.take_succ_eq_append_getElem hkl, riseL_snoc])
      have hle : (riseL (l.take k)).length ≤ 65536 := Nat.le_trans (riseL_length _) (by rw [List.length_take]; omega)
      have hsz := hE.size
      generalize l[k] = X at ck HT
      go_wp2_with fail
      refine (l00Put_any (riseL (l.take k)) _ X _ ho.rd (riseL_lt _) hle).mono ?_
      rintro e w2 ⟨u, fu, rfl, hE2, hu, hfu⟩
      rw [← HT.out] at hu
      obtain ⟨ua, uc, rfl⟩ := hu.form
      go_wp2_with fail
      go_roundw
      case rel => exact ⟨k + 1, fu, by omega, by go_num, hE.tr hE2, hu, fun g hg => by have := hfu g hg; omega⟩
      case measure => simp [intOf]; omega
    · have hTe : l.take k = l := List.take_of_length_le (by omega)
      have ho2 : OI wr (.slice oa (riseL (l.take k)).length oc) (riseL l) fp := by
        have := ho
        rw [hTe] at this ⊢
        exact this
      clear hTe ho
      go_wp2_with fail
      go_ret
      exact ⟨_, fp, rfl, hE, ho2, hfp⟩
set_option maxHeartbeats 1000000 in
theorem l01Index_any (l : List Int) (v : Value) (x : Int) (w : World) (hr : RdI w v l) :
    Calls Tryz.prog 135 #[v, .int .i64 x] w fun e w' => e = .returned (.int .i64 (idx (fun a => decide (a = x)) l)) ∧ Ext w w' := by
  obtain ⟨a, b, off, c, rfl, hlc, hcm, ha, hc⟩ := hr
  go_enter Tryz.func135, Tryz.ntmps135
  go_wp2_with fail
  go_loopw [5] (fun i wr => ∃ k : Nat, k ≤ l.length ∧ i = .int .i64 k ∧ Ext w wr ∧ (l.take k).any (fun a => decide (a = x)) = false) (fun i _ => l.length - (intOf i).toNat)
  case atStart => exact ⟨0, by omega, rfl, Ext.refl' _, rfl⟩
  case round =>
    obtain ⟨k, hk, rfl, hE, ht⟩ := hrel
    have HT := Lib.hid ht
    clear ht
    by_cases hkl : k < l.length
    · obtain rfl := ha (by omega)
      have hck := hE.cell (hc k hkl)
      by_cases hp : l[k] = x
      · have HI := Lib.hid (idx_here (fun a => decide (a = x)) l k hkl HT.out (by simp [hp]))
        have hb : (l[k] == x) = true := by simp [hp]
        clear hp
        go_wp2_with fail
        go_ret
        exact ⟨ret_int HI.out.symm, hE⟩
      · have HI := Lib.hid (show (l.take (k + 1)).any (fun a => decide (a = x)) = false from by rw [any_take_succ _ l k hkl, HT.out]; simp [hp])
        have hb : (l[k] == x) = false := by simp [hp]
        clear hp
        go_wp2_with fail
        go_roundw
        case rel => exact ⟨k + 1, by omega, by go_num, hE, HI.out⟩
        case measure => simp [intOf]; omega
    · go_wp2_with fail
      go_ret
      refine ⟨ret_int ?_, hE⟩
      have hkk : k = l.length := by omega
      have := HT.out
      rw [hkk, List.take_length] at this
      rw [idx_none _ l this]
end Go.Proofs.YtajkepdfemdagaaGreatDoor
namespace Go.Proofs.YtajkepdfemdagaaGreatDoor
open Go.RowKit
set_option linter.unusedVariables false

def IRes (R : List Int × Int) (w : World) (e : Ending) (w' : World) : Prop :=
  ∃ u fp, e = .returned (.tuple #[u, .int .i64 R.2]) ∧ Ext w w' ∧ OI w' u R.1 fp ∧ (∀ h ∈ fp, w.heap.size ≤ h) ∧ R.1.length ≤ 1048576
theorem IRes.of {R : List Int × Int} {w w' : World} {u : Value} {c : Int} {fp : List Nat} (hc : c = R.2) (hE : Ext w w') (ho : OI w' u R.1 fp) (hf : ∀ h ∈ fp, w.heap.size ≤ h) (hb : R.1.length ≤ 1048576) : IRes R w (.returned (.tuple #[u, .int .i64 c])) w' := by
  subst hc
  exact ⟨u, fp, rfl, hE, ho, hf, hb⟩
theorem OI_nil (w : World) : OI w (.slice none 0 0) [] [] := ⟨World.ownsRow_nil _ _ _ _, rfl⟩
theorem IRes.no {c : Int} {w w' : World} (hE : Ext w w') : IRes ([], c) w (.returned (.tuple #[.slice none 0 0, .int .i64 c])) w' := IRes.of rfl hE (OI_nil _) (by simp) (by simp)
theorem IRes.no2 {c : Int} {w w' : World} (hE : Ext w w') {g : Nat} (hg : w.heap.size ≤ g) (ho : w'.ownsRow 0 2 1 (.slice (some ⟨g, 0, none⟩) 0 0) 0 []) : IRes ([], c) w (.returned (.tuple #[.slice (some ⟨g, 0, none⟩) 0 0, .int .i64 c])) w' :=
  IRes.of rfl hE ⟨ho, rfl⟩ (fun h hh => by simp [Value.ownBlock] at hh; omega) (by simp)
end Go.Proofs.YtajkepdfemdagaaGreatDoor
