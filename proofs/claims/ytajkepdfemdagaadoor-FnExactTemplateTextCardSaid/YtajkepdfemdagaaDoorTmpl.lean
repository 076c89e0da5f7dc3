
/- SameTemplate, ValidTemplate: the program's and the reference's give one function's answers. -/
import Derived.Test.YtajkepdfemdagaaDoorTmT
import Derived.Test.YtajkepdfemdagaaDoorRelEq
import Derived.Test.YtajkepdfemdagaaDoorValidR
namespace Go.Proofs.YtajkepdfemdagaaDoor
open Go.RowKit
set_option linter.unusedVariables false

abbrev RelD := Int × List (List Int)
/-- two lists of relations of one length, of which something is so place by place -/
def eqAll (e : RelD → RelD → Bool) (l m : List RelD) : Bool := decide (l.length = m.length) && (List.range l.length).all fun i => e (l.getD i noRel) (m.getD i noRel)
theorem eqAll_len {e : RelD → RelD → Bool} {l m : List RelD} (h : ¬ l.length = m.length) : eqAll e l m = false := by unfold eqAll; rw [decide_eq_false h]; rfl
theorem eqAll_no {e : RelD → RelD → Bool} {l m : List RelD} {k : Nat} (hk : k < l.length) (hm : k < m.length) (h : e l[k] m[k] = false) : eqAll e l m = false := by
  unfold eqAll
  rw [Bool.and_eq_false_iff]
  right
  rw [List.all_eq_false]
  refine ⟨k, List.mem_range.2 hk, ?_⟩
  rw [List.getD_eq_getElem?_getD, List.getD_eq_getElem?_getD, List.getElem?_eq_getElem hk, List.getElem?_eq_getElem hm]
  simp [h]
theorem eqAll_yes {e : RelD → RelD → Bool} {l m : List RelD} (hl : l.length = m.length) (h : ∀ k (hk : k < l.length) (hm : k < m.length), e l[k] m[k] = true) : eqAll e l m = true := by
  unfold eqAll
  rw [decide_eq_true hl, Bool.true_and, List.all_eq_true]
  intro k hk
  have hk := List.mem_range.1 hk
  have hm : k < m.length := by omega
  rw [List.getD_eq_getElem?_getD, List.getD_eq_getElem?_getD, List.getElem?_eq_getElem hk, List.getElem?_eq_getElem hm]
  exact h k hk hm
theorem eqAll_eq {l m : List RelD} : eqAll (fun x y => decide (x = y)) l m = decide (l = m) := by
  by_cases h : l = m
  · subst h
    rw [decide_eq_true rfl]
    exact eqAll_yes rfl fun k _ _ => decide_eq_true rfl
  · rw [decide_eq_false h]
    by_cases hl : l.length = m.length
    · cases he : eqAll (fun x y => decide (x = y)) l m with
      | false => rfl
      | true =>
        exfalso
        apply h
        unfold eqAll at he
        rw [Bool.and_eq_true, List.all_eq_true] at he
        apply List.ext_getElem hl
        intro k h1 h2
        have := he.2 k (List.mem_range.2 h1)
        rw [List.getD_eq_getElem?_getD, List.getD_eq_getElem?_getD, List.getElem?_eq_getElem h1, List.getElem?_eq_getElem h2] at this
        simpa using this
    · exact eqAll_len hl


set_option maxHeartbeats 400000 in
theorem indexFuncRelS_any (p : RelD → Bool) (l : List RelD) (v : Value) (f : FuncId) (first cap : Array Value) (w : World) (hr : RdRelS w v l)
    (hcall : ∀ xs w, (callFunc f xs).run Tryd.prog w = .ok (.enter f xs) w)
    (hf : ∀ a ∈ l, ∀ va w', Ext w w' → RdRel w' va a → Calls Tryd.prog f (first ++ #[va] ++ cap) w' fun e w'' => e = .returned (.bool (p a)) ∧ Ext w' w'') :
    Calls Tryd.prog 95 #[v, .func (.func f) first cap] w fun e w' => e = .returned (.int .i64 (idx p l)) ∧ Ext w w' := by
  obtain ⟨a, b, off, c, ts, rfl, hlc, hcm, ha, hc⟩ := hr
  have HF := Lib.hid hf
  clear hf
  go_enter Tryd.func95, Tryd.ntmps95
  go_wp2_with fail
  go_loopw [8] (fun i wr => ∃ k : Nat, k ≤ l.length ∧ i = .int .i64 k ∧ Ext w wr ∧ (l.take k).any p = false) (fun i _ => l.length - (intOf i).toNat)
  case atStart => exact ⟨0, by omega, rfl, Ext.refl' _, rfl⟩
  case round =>
    obtain ⟨k, hk, rfl, hE, ht⟩ := hrel
    have HT := Lib.hid ht
    clear ht
    by_cases hkl : k < l.length
    · obtain rfl := ha (by omega)
      obtain ⟨k0, k1, k2⟩ := hc k hkl
      replace k0 := hE.cell k0
      replace k1 := hE.cell k1
      have hcc := HF.out l[k] (List.getElem_mem hkl) (.agg #[.int .i64 l[k].1, ts k]) wr hE ⟨_, rfl, k2.ext hE⟩
      generalize ts k = y at k1 k2 hcc
      go_wp2_with fail
      cases hp : p l[k] with
      | true =>
        rw [hp] at hcc
        refine (by simpa using hcc : Calls _ _ _ _ _).mono ?_
        rintro e w2 ⟨rfl, hE2⟩
        have HI := Lib.hid (idx_here p l k hkl HT.out hp)
        clear hp
        go_wp2_with fail
        go_ret
        exact ⟨ret_int HI.out.symm, hE.tr hE2⟩
      | false =>
        rw [hp] at hcc
        refine (by simpa using hcc : Calls _ _ _ _ _).mono ?_
        rintro e w2 ⟨rfl, hE2⟩
        have HI := Lib.hid (show (l.take (k + 1)).any p = false from by rw [any_take_succ p l k hkl, HT.out, hp]; rfl)
        clear hp
        have hE3 := hE.tr hE2
        go_wp2_with fail
        go_roundw
        case rel => exact ⟨k + 1, by omega, by go_num, hE3, HI.out⟩
        case measure => simp [intOf]; omega
    · have HI := Lib.hid (idx_none p l (by have := HT.out; rwa [show k = l.length by omega, List.take_length] at this))
      go_wp2_with fail
      go_ret
      exact ⟨ret_int HI.out.symm, hE⟩
set_option maxHeartbeats 400000 in
theorem containsFuncRelS_any (p : RelD → Bool) (l : List RelD) (v : Value) (f : FuncId) (first cap : Array Value) (w : World) (hr : RdRelS w v l)
    (hcall : ∀ xs w, (callFunc f xs).run Tryd.prog w = .ok (.enter f xs) w)
    (hf : ∀ a ∈ l, ∀ va w', Ext w w' → RdRel w' va a → Calls Tryd.prog f (first ++ #[va] ++ cap) w' fun e w'' => e = .returned (.bool (p a)) ∧ Ext w' w'') :
    Calls Tryd.prog 77 #[v, .func (.func f) first cap] w fun e w' => e = .returned (.bool (l.any p)) ∧ Ext w w' := by
  have HC := Lib.hid (idx_any p l)
  have HF := Lib.hid hf
  clear hf
  go_enter Tryd.func77, Tryd.ntmps77
  go_wp2_with (go_at_call 95; refine (indexFuncRelS_any p l _ _ _ _ _ hr hcall HF.out).mono ?_; rintro e w' ⟨rfl, hE⟩)
  go_ret
  exact ⟨ret_bool HC.out, hE⟩
def SSameTemplate (t u : Int × List RelD) : Bool := decide (t = u)
def SValidTemplate (t : Int × List RelD) : Bool := inB t.1 1 4 && (decide (t.2.length ≤ 6) && !(t.2.any fun r => !SValidRel t.1 r))

set_option maxHeartbeats 1000000 in
theorem implValidTemplate_ok (t : Int × List RelD) (v : Value) (w : World) (hr : RdTm w v t) :
    Calls Tryd.prog 50 #[v] w fun e w' => e = .returned (.bool (SValidTemplate t)) ∧ Ext w w' := by
  have hmf : ∀ (fn : Fn) (first cap : Array Value) (w : World), (Instr.makeFunc fn first cap).run Tryd.prog w = .ok (.func fn first cap) w := fun _ _ _ _ => rfl
  obtain ⟨tv, rfl, hr'⟩ := hr
  obtain ⟨ta, tc, rfl⟩ := hr'.form
  have hE1 : Ext w (w.alloc (.cells #[.int .i64 t.1, .slice ta t.2.length tc] 47)) := (Ext.refl' w).alloc (Nat.le_refl _) _
  have hcell : (w.alloc (.cells #[.int .i64 t.1, .slice ta t.2.length tc] 47)).cell? ⟨w.heap.size, 0, none⟩ = some (.int .i64 t.1) := by simp [go_sem]
  cases h1 : inB t.1 1 4 with
  | false =>
    have HO := Lib.hid (show SValidTemplate t = false from by unfold SValidTemplate; rw [h1]; rfl)
    go_enter Tryd.func50, Tryd.ntmps50
    go_wp2_with (go_at_call 66; refine (isSize_any _ _).mono ?_; rintro e w' ⟨rfl, rfl⟩; rw [h1])
    go_ret
    exact ⟨ret_bool HO.out.symm, hE1⟩
  | true =>
    by_cases h2 : t.2.length ≤ 6
    · have hb : decide ((t.2.length : Int) ≤ 6) = true := by simp; omega
      have HO := Lib.hid (show (!(t.2.any fun r => !SValidRel t.1 r)) = SValidTemplate t from by unfold SValidTemplate; rw [h1, decide_eq_true h2]; rfl)
      go_enter Tryd.func50, Tryd.ntmps50
      go_wp2_with fail
      refine (isSize_any _ _).mono ?_
      rintro e w' ⟨rfl, rfl⟩
      rw [h1]
      go_wp2_with fail
      refine (containsFuncRelS_any (fun r => !SValidRel t.1 r) t.2 _ _ _ _ _ (hr'.ext hE1) Tryd.call78 ?_).mono ?_
      · intro g _ vg w' hEc hg
        have hcell := hEc.cell hcell
        obtain ⟨tv, rfl, hg'⟩ := hg
        obtain ⟨ga, gc, rfl⟩ := hg'.form
        have hE2 : Ext w' (w'.alloc (.cells #[.int .i64 g.1, .slice ga g.2.length gc] 36)) := (Ext.refl' w').alloc (Nat.le_refl _) _
        have hb := lt_of_cell hcell
        simp only [List.append_toArray, List.nil_append, List.cons_append]
        go_enter Tryd.func78, Tryd.ntmps78
        go_wp2_with fail
        refine (implValidRel_ok t.1 g _ _ ⟨_, rfl, hg'.ext hE2⟩).mono ?_
        rintro e w3 ⟨rfl, hE3⟩
        go_wp2_with fail
        go_ret
        exact ⟨rfl, hE2.tr hE3⟩
      rintro e w2 ⟨rfl, hE2⟩
      go_wp2_with fail
      go_ret
      exact ⟨ret_bool HO.out, hE1.tr hE2⟩
    · have hb : decide ((t.2.length : Int) ≤ 6) = false := by simp; omega
      have HO := Lib.hid (show SValidTemplate t = false from by unfold SValidTemplate; rw [decide_eq_false h2, h1]; rfl)
      go_enter Tryd.func50, Tryd.ntmps50
      go_wp2_with fail
      refine (isSize_any _ _).mono ?_
      rintro e w' ⟨rfl, rfl⟩
      rw [h1]
      go_wp2_with fail
      go_ret
      exact ⟨ret_bool HO.out.symm, hE1⟩
set_option maxHeartbeats 400000 in
theorem implValidTemplate_any (t : Int × List RelD) (v : Value) (w : World) (hr : RdTm w v t) (_ : szTm t ≤ 1048576) :
    Calls Tryd.prog 50 #[v] w fun e w' => e = .returned (.bool (SValidTemplate t)) ∧ Ext w w' := implValidTemplate_ok t v w hr
set_option maxHeartbeats 1000000 in
set_option maxRecDepth 100000 in
theorem l01Template_any (t : Int × List RelD) (v : Value) (w : World) (hr : PtTm w v t) :
    Calls Tryd.prog 47 #[v] w fun e w' => e = .returned (.bool (SValidTemplate t)) ∧ Ext w w' := by
  obtain ⟨b0, off0, tv, rfl, c0, c1, hr'⟩ := hr
  obtain ⟨a, b, off, c, ts, rfl, hlc, hcm, ha, hc⟩ := hr'
  go_enter Tryd.func47, Tryd.ntmps47
  go_wp2_with fail
  go_loopw [3] (fun i wr => ∃ k : Nat, k ≤ t.2.length ∧ i = .int .i64 k ∧ Ext w wr ∧ Hid ((t.2.take k).any (fun r => !SValidRel t.1 r) = false)) (fun i _ => t.2.length - (intOf i).toNat)
  case atStart => exact ⟨0, by omega, rfl, Ext.refl' _, Lib.hid rfl⟩
  case round =>
    obtain ⟨k, hk, rfl, hE, HT⟩ := hrel
    replace c0 := hE.cell c0
    replace c1 := hE.cell c1
    by_cases hkl : k < t.2.length
    · obtain rfl := ha (by omega)
      obtain ⟨k0, k1, k2⟩ := hc k hkl
      have hp : PtRel wr (.pointer (some ⟨b, off + k * 2, none⟩)) t.2[k] := ⟨_, _, _, rfl, hE.cell k0, hE.cell k1, k2.ext hE⟩
      cases hT : SValidRel t.1 t.2[k] with
      | true =>
        have HK := Lib.hid (show (t.2.take (k + 1)).any (fun r => !SValidRel t.1 r) = false from by rw [any_take_succ _ t.2 k hkl, HT.out, hT]; rfl)
        go_wp2_with fail
        go_wp2_with fail
        refine region_sp [] [] [SP.val (.pointer (some ⟨b0, off0, none⟩)), SP.val (.pointer (some ⟨b0, off0, none⟩)), SP.val (.pointer (some ⟨b0, off0, none⟩)), SP.val (.int .i64 t.1), SP.val (.pointer (some ⟨b0, off0, none⟩)), SP.val (.pointer (some ⟨b0, off0, none⟩)), SP.val (.pointer (some ⟨b0, off0 + 1, none⟩)), SP.val (.slice (some ⟨b, off, none⟩) t.2.length c), SP.val (.int .i64 (k : Nat)), SP.val (.pointer (some ⟨b, off + k * 2, none⟩)), SP.val (.bool true), SP.val (.bool false)] (by kernel_rfl) (fun _ d _ _ _ h => by cases d <;> exact h) (by kernel_rfl) (by kernel_rfl)
          (.cons (fun vs y hY => Step.move rfl rfl rfl rfl) <|
           .cons (fun vs y hY g0_0 => Step.nilCheck rfl rfl g0_0 rfl) <|
           .cons (fun vs y hY g1_0 => Step.fieldAddr ⟨b0, off0, none⟩ rfl rfl g1_0 (by simp [go_sem]) rfl) <|
           .cons (fun vs y hY g2_0 => Step.load ⟨b0, off0, none⟩ rfl rfl g2_0 (by simp [go_sem, hY.cell c0]) rfl) <|
           .cons (fun vs y hY => Step.move rfl rfl rfl rfl) <|
           .cons (fun vs y hY g4_0 => Step.nilCheck rfl rfl g4_0 rfl) <|
           .cons (fun vs y hY g5_0 => Step.fieldAddr ⟨b0, off0, none⟩ rfl rfl g5_0 (by simp [go_sem]) rfl) <|
           .cons (fun vs y hY g6_0 => Step.load ⟨b0, off0 + 1, none⟩ rfl rfl g6_0 (by simp [go_sem, hY.cell c1]) rfl) <|
           .cons (fun vs y hY => Step.move rfl rfl rfl rfl) <|
           .cons (fun vs y hY g7_0 g8_1 => Step.indexAtP (n := .int .i64 (k : Nat)) ⟨b, off + k * 2, none⟩ rfl rfl g7_0 g8_1 (by simp [go_sem, Instr.indexAt, Addr.add, hkl] <;> omega) rfl) <|
           .cons (fun vs y hY g3_0 g9_1 => Step.call Tryd.call40 rfl rfl [vs 3, vs 9] rfl rfl (by rw [show vs 3 = _ from g3_0, show vs 9 = _ from g9_1]; exact (Calls.spq (l01Ok_any _ _ _ _ (hp.ext hY)) (by rw [hT])))) <|
           .cons (fun vs y hY g10_0 => Step.not rfl rfl g10_0 rfl) <|
           .nil) ?_
        intro vs w2 hC hL
        have r0 : vs 0 = _ := hL 0 (by decide) rfl
        have r1 : vs 1 = _ := hL 1 (by decide) rfl
        have r2 : vs 2 = _ := hL 2 (by decide) rfl
        have r3 : vs 3 = _ := hL 3 (by decide) rfl
        have r4 : vs 4 = _ := hL 4 (by decide) rfl
        have r5 : vs 5 = _ := hL 5 (by decide) rfl
        have r6 : vs 6 = _ := hL 6 (by decide) rfl
        have r7 : vs 7 = _ := hL 7 (by decide) rfl
        have r8 : vs 8 = _ := hL 8 (by decide) rfl
        have r9 : vs 9 = _ := hL 9 (by decide) rfl
        have r10 : vs 10 = _ := hL 10 (by decide) rfl
        have r11 : vs 11 = _ := hL 11 (by decide) rfl
        clear hL
        simp only [putAll, Act.put, List.contains_nil, cond_false, List.setIfInBounds_toArray, List.set_cons_succ, List.set_cons_zero, List.filterMap_nil, r0, r1, r2, r3, r4, r5, r6, r7, r8, r9, r10, r11]
        clear r0 r1 r2 r3 r4 r5 r6 r7 r8 r9 r10 r11
        go_wp2_with fail
        go_roundw
        case rel => exact ⟨k + 1, by omega, by go_num, hE.tr hC, HK⟩
        case measure => simp [intOf]; omega
      | false =>
        have HN := Lib.hid (show SValidTemplate t = false from by
          unfold SValidTemplate
          rw [show (t.2.any fun r => !SValidRel t.1 r) = true from List.any_eq_true.2 ⟨_, List.getElem_mem hkl, by simp [hT]⟩]
          simp)
        go_wp2_with fail
        go_wp2_with fail
        refine region_sp [] [] [SP.val (.pointer (some ⟨b0, off0, none⟩)), SP.val (.pointer (some ⟨b0, off0, none⟩)), SP.val (.pointer (some ⟨b0, off0, none⟩)), SP.val (.int .i64 t.1), SP.val (.pointer (some ⟨b0, off0, none⟩)), SP.val (.pointer (some ⟨b0, off0, none⟩)), SP.val (.pointer (some ⟨b0, off0 + 1, none⟩)), SP.val (.slice (some ⟨b, off, none⟩) t.2.length c), SP.val (.int .i64 (k : Nat)), SP.val (.pointer (some ⟨b, off + k * 2, none⟩)), SP.val (.bool false), SP.val (.bool true)] (by kernel_rfl) (fun _ d _ _ _ h => by cases d <;> exact h) (by kernel_rfl) (by kernel_rfl)
          (.cons (fun vs y hY => Step.move rfl rfl rfl rfl) <|
           .cons (fun vs y hY g0_0 => Step.nilCheck rfl rfl g0_0 rfl) <|
           .cons (fun vs y hY g1_0 => Step.fieldAddr ⟨b0, off0, none⟩ rfl rfl g1_0 (by simp [go_sem]) rfl) <|
           .cons (fun vs y hY g2_0 => Step.load ⟨b0, off0, none⟩ rfl rfl g2_0 (by simp [go_sem, hY.cell c0]) rfl) <|
           .cons (fun vs y hY => Step.move rfl rfl rfl rfl) <|
           .cons (fun vs y hY g4_0 => Step.nilCheck rfl rfl g4_0 rfl) <|
           .cons (fun vs y hY g5_0 => Step.fieldAddr ⟨b0, off0, none⟩ rfl rfl g5_0 (by simp [go_sem]) rfl) <|
           .cons (fun vs y hY g6_0 => Step.load ⟨b0, off0 + 1, none⟩ rfl rfl g6_0 (by simp [go_sem, hY.cell c1]) rfl) <|
           .cons (fun vs y hY => Step.move rfl rfl rfl rfl) <|
           .cons (fun vs y hY g7_0 g8_1 => Step.indexAtP (n := .int .i64 (k : Nat)) ⟨b, off + k * 2, none⟩ rfl rfl g7_0 g8_1 (by simp [go_sem, Instr.indexAt, Addr.add, hkl] <;> omega) rfl) <|
           .cons (fun vs y hY g3_0 g9_1 => Step.call Tryd.call40 rfl rfl [vs 3, vs 9] rfl rfl (by rw [show vs 3 = _ from g3_0, show vs 9 = _ from g9_1]; exact (Calls.spq (l01Ok_any _ _ _ _ (hp.ext hY)) (by rw [hT])))) <|
           .cons (fun vs y hY g10_0 => Step.not rfl rfl g10_0 rfl) <|
           .nil) ?_
        intro vs w2 hC hL
        have r0 : vs 0 = _ := hL 0 (by decide) rfl
        have r1 : vs 1 = _ := hL 1 (by decide) rfl
        have r2 : vs 2 = _ := hL 2 (by decide) rfl
        have r3 : vs 3 = _ := hL 3 (by decide) rfl
        have r4 : vs 4 = _ := hL 4 (by decide) rfl
        have r5 : vs 5 = _ := hL 5 (by decide) rfl
        have r6 : vs 6 = _ := hL 6 (by decide) rfl
        have r7 : vs 7 = _ := hL 7 (by decide) rfl
        have r8 : vs 8 = _ := hL 8 (by decide) rfl
        have r9 : vs 9 = _ := hL 9 (by decide) rfl
        have r10 : vs 10 = _ := hL 10 (by decide) rfl
        have r11 : vs 11 = _ := hL 11 (by decide) rfl
        clear hL
        simp only [putAll, Act.put, List.contains_nil, cond_false, List.setIfInBounds_toArray, List.set_cons_succ, List.set_cons_zero, List.filterMap_nil, r0, r1, r2, r3, r4, r5, r6, r7, r8, r9, r10, r11]
        clear r0 r1 r2 r3 r4 r5 r6 r7 r8 r9 r10 r11
        go_wp2_with fail
        go_ret
        exact ⟨ret_bool HN.out.symm, hE.tr hC⟩
    · have hall : (t.2.any fun r => !SValidRel t.1 r) = false := by have := HT.out; rwa [show k = t.2.length by omega, List.take_length] at this
      cases h1 : inB t.1 1 4 with
      | false =>
        have HN := Lib.hid (show SValidTemplate t = false from by unfold SValidTemplate; rw [h1]; rfl)
        go_wp2_with fail
        refine (l01Size_any _ _).mono ?_
        rintro e w' ⟨rfl, rfl⟩
        rw [h1]
        go_wp2_with fail
        go_ret
        exact ⟨ret_bool HN.out.symm, hE⟩
      | true =>
        have HN := Lib.hid (show SValidTemplate t = decide ((t.2.length : Int) ≤ 6) from by unfold SValidTemplate; rw [h1, hall, Bool.not_false, Bool.and_true, Bool.true_and, decide_eq_decide]; omega)
        clear hall
        go_wp2_with fail
        refine (l01Size_any _ _).mono ?_
        rintro e w' ⟨rfl, rfl⟩
        rw [h1]
        go_wp2_with fail
        go_ret
        exact ⟨ret_bool HN.out.symm, hE⟩
end Go.Proofs.YtajkepdfemdagaaDoor
