
/- OpText: the program's and the reference's give one text. -/
import Derived.Test.YtajkepdfemdagaaDoorText
import Derived.Test.YtajkepdfemdagaaDoorOpV
import Derived.Test.YtajkepdfemdagaaDoorCode
import Derived.Test.YtajkepdfemdagaaDoorCount
import Derived.Test.YtajkepdfemdagaaDoorSteps
namespace Go.Proofs.YtajkepdfemdagaaDoor
open Go.RowKit
set_option linter.unusedVariables false

/-- valid for some size -/
def SAnyOp (f : Int × List Int) : Bool := (List.range 4).any fun k : Nat => SValidOp ((k : Int) + 1) f
theorem anyOp_yes {f : Int × List Int} {k : Nat} (h0 : 1 ≤ k) (h1 : k ≤ 4) (h : SValidOp (k : Int) f = true) : SAnyOp f = true := by
  unfold SAnyOp
  rw [List.any_eq_true]
  refine ⟨k - 1, List.mem_range.2 (by omega), ?_⟩
  rw [show ((k - 1 : Nat) : Int) + 1 = (k : Int) by omega]
  exact h
theorem anyOp_no {f : Int × List Int} (h : ∀ k : Nat, 1 ≤ k → k ≤ 4 → SValidOp (k : Int) f = false) : SAnyOp f = false := by
  unfold SAnyOp
  rw [List.any_eq_false]
  intro k hk
  have := List.mem_range.1 hk
  have h2 := h (k + 1) (by omega) (by omega)
  rw [show ((k + 1 : Nat) : Int) = (k : Int) + 1 by omega] at h2
  simp [h2]
theorem anyOp_parts {f : Int × List Int} (h : SAnyOp f = true) : 1 ≤ f.1 ∧ f.1 ≤ 3 ∧ (∀ x ∈ f.2, 0 ≤ x ∧ x < 4) ∧ f.2.length ≤ 256 := by
  unfold SAnyOp at h
  rw [List.any_eq_true] at h
  obtain ⟨k, hk, h⟩ := h
  have hk4 := List.mem_range.1 hk
  unfold SValidOp at h
  rw [Bool.and_eq_true, Bool.and_eq_true] at h
  obtain ⟨_, h2, h3⟩ := h
  have h2 := inB_iff.1 h2
  obtain ⟨h4, h5⟩ := vals_iff.1 h3
  have hp := powW_small ((k : Int) + 1) f.1 (by omega) (by omega) (by omega) (by omega)
  exact ⟨h2.1, h2.2, fun x hx => by have := h5 x hx; omega, by omega⟩
/-- the text of an operation -/
def opB (f : Int × List Int) : ByteArray := ⟨#[111, 112, 32]⟩ ++ decB f.1 ++ ⟨#[32]⟩ ++ digB f.2
def SOpText (f : Int × List Int) : ByteArray := if SAnyOp f then opB f else ByteArray.empty

set_option maxHeartbeats 1000000 in
theorem isAnyOp_any (f : Int × List Int) (v : Value) (w : World) (hr : RdOp w v f) :
    Calls Tryd.prog 35 #[v] w fun e w' => e = .returned (.bool (SAnyOp f)) ∧ Ext w w' := by
  obtain ⟨tv, rfl, hr⟩ := hr
  have hE1 : Ext w (w.alloc (.cells #[.int .i64 f.1, tv] 27)) := (Ext.refl' w).alloc (Nat.le_refl _) _
  go_enter Tryd.func35, Tryd.ntmps35
  go_wp2_with fail
  go_loopw [3] (fun i wr => ∃ k : Nat, 1 ≤ k ∧ k ≤ 5 ∧ i = .int .i64 k ∧ Ext w wr ∧ wr.cell? ⟨w.heap.size, 0, none⟩ = some (.int .i64 f.1) ∧ wr.cell? ⟨w.heap.size, 1, none⟩ = some tv ∧ ∀ j : Nat, 1 ≤ j → j < k → SValidOp (j : Int) f = false) (fun i _ => 5 - (intOf i).toNat)
  case atStart => exact ⟨1, by omega, by omega, rfl, hE1, by simp [go_sem], by simp [go_sem], fun j h1 h2 => by omega⟩
  case round =>
    obtain ⟨k, k0, k1, rfl, hE, c0, c1, ht⟩ := hrel
    have HT := Lib.hid ht
    clear ht
    by_cases hk : k < 5
    · go_wp2_with fail
      refine (isSize_any _ _).mono ?_
      rintro e w1 ⟨rfl, rfl⟩
      rw [show inB (k : Int) 1 4 = true from inB_iff.2 ⟨by omega, by omega⟩]
      go_wp2_with fail
      refine (implValidOp_ok _ f _ _ ⟨tv, rfl, hr.ext hE⟩).mono ?_
      rintro e w2 ⟨rfl, hE2⟩
      replace c0 := hE2.cell c0
      replace c1 := hE2.cell c1
      cases hv : SValidOp (k : Int) f with
      | true =>
        have HA := Lib.hid (anyOp_yes k0 (by omega) hv)
        go_wp2_with fail
        go_ret
        exact ⟨ret_bool HA.out.symm, hE.tr hE2⟩
      | false =>
        have HA := Lib.hid (show ∀ j : Nat, 1 ≤ j → j < k + 1 → SValidOp (j : Int) f = false from fun j j0 j1 => if h : j = k then by rw [h]; exact hv else HT.out j j0 (by omega))
        go_wp2_with fail
        go_roundw
        case rel => exact ⟨k + 1, by omega, by omega, by go_num, hE.tr hE2, c0, c1, HA.out⟩
        case measure => simp [intOf]; omega
    · have HA := Lib.hid (anyOp_no fun j j0 j1 => HT.out j j0 (by omega))
      go_wp2_with fail
      refine (isSize_any _ _).mono ?_
      rintro e w1 ⟨rfl, rfl⟩
      rw [show inB (k : Int) 1 4 = false from by rw [Bool.eq_false_iff]; intro h; have := inB_iff.1 h; omega]
      go_wp2_with fail
      go_ret
      exact ⟨ret_bool HA.out.symm, hE⟩
set_option maxHeartbeats 1000000 in
theorem l02Sized_any (f : Int × List Int) (v : Value) (w : World) (hr : PtOp w v f) :
    Calls Tryd.prog 32 #[v] w fun e w' => e = .returned (.bool (SAnyOp f)) ∧ Ext w w' := by
  have hr0 := hr
  obtain ⟨b, off, tv, rfl, -⟩ := hr0
  go_enter Tryd.func32, Tryd.ntmps32
  go_wp2_with fail
  go_loopw [3] (fun i wr => ∃ k : Nat, 1 ≤ k ∧ k ≤ 5 ∧ i = .int .i64 k ∧ Ext w wr ∧ ∀ j : Nat, 1 ≤ j → j < k → SValidOp (j : Int) f = false) (fun i _ => 5 - (intOf i).toNat)
  case atStart => exact ⟨1, by omega, by omega, rfl, Ext.refl' w, fun j h1 h2 => by omega⟩
  case round =>
    obtain ⟨k, k0, k1, rfl, hE, ht⟩ := hrel
    have HT := Lib.hid ht
    clear ht
    by_cases hk : k < 5
    · go_wp2_with fail
      refine (l02Ok_any _ f _ _ (hr.ext hE)).mono ?_
      rintro e w2 ⟨rfl, hQ⟩
      have hE2 := hQ.ext
      clear hQ
      cases hv : SValidOp (k : Int) f with
      | true =>
        have HA := Lib.hid (anyOp_yes k0 (by omega) hv)
        go_wp2_with fail
        go_ret
        exact ⟨ret_bool HA.out.symm, hE.tr hE2⟩
      | false =>
        have HA := Lib.hid (show ∀ j : Nat, 1 ≤ j → j < k + 1 → SValidOp (j : Int) f = false from fun j j0 j1 => if h : j = k then by rw [h]; exact hv else HT.out j j0 (by omega))
        go_wp2_with fail
        go_roundw
        case rel => exact ⟨k + 1, by omega, by omega, by go_num, hE.tr hE2, HA.out⟩
        case measure => simp [intOf]; omega
    · have HA := Lib.hid (anyOp_no fun j j0 j1 => HT.out j j0 (by omega))
      go_wp2_with fail
      go_ret
      exact ⟨ret_bool HA.out.symm, hE⟩
set_option maxHeartbeats 1000000 in
set_option maxRecDepth 100000 in
theorem implOpText_any (f : Int × List Int) (v : Value) (w : World) (hr : RdOp w v f) (_ : szOp f ≤ 1048576) :
    Calls Tryd.prog 11 #[v] w fun e w' => e = .returned (.string (SOpText f)) ∧ Ext w w' := by
  obtain ⟨tv, rfl, hr⟩ := hr
  obtain ⟨ta, tc, rfl⟩ := hr.form
  have hE1 : Ext w (w.alloc (.cells #[.int .i64 f.1, .slice ta f.2.length tc] 27)) := (Ext.refl' w).alloc (Nat.le_refl _) _
  cases h : SAnyOp f with
  | false =>
    have HS := Lib.hid (show SOpText f = ByteArray.empty by unfold SOpText; rw [h]; rfl)
    go_enter Tryd.func11, Tryd.ntmps11
    go_wp2_with fail
    refine (isAnyOp_any f _ _ ⟨_, rfl, hr.ext hE1⟩).mono ?_
    rintro e w1 ⟨rfl, hE⟩
    rw [h]
    go_wp2_with fail
    go_ret
    exact ⟨by rw [HS.out]; rfl, hE1.tr hE⟩
  | true =>
    obtain ⟨b0, b1, b2, b3⟩ := anyOp_parts h
    have HS := Lib.hid (show SOpText f = opB f by unfold SOpText; rw [h]; rfl)
    have d1 : (decB f.1).size = 1 := decB_size (by omega) (by omega)
    have dg : (digB f.2).size = f.2.length := digB_size _ fun x hx => by have := b2 x hx; omega
    have hl : 5 + f.2.length ≤ 9223372036854775807 := by omega
    go_enter Tryd.func11, Tryd.ntmps11
    go_wp2_with fail
    refine (isAnyOp_any f _ _ ⟨_, rfl, hr.ext hE1⟩).mono ?_
    rintro e w1 ⟨rfl, hE⟩
    rw [h]
    clear h
    have c0 := hE.cell (p := ⟨w.heap.size, 0, none⟩) (v := .int .i64 f.1) (by simp [go_sem])
    have c1 := hE.cell (p := ⟨w.heap.size, 1, none⟩) (v := .slice ta f.2.length tc) (by simp [go_sem])
    replace hE := hE1.tr hE
    clear hE1
    go_wp2_with fail
    refine region_sp [] [9] [SP.val (.pointer (some ⟨w.heap.size, 0, none⟩)), SP.val (.int .i64 f.1), SP.val (.string (decB f.1)), SP.val (.string ((⟨#[111, 112, 32]⟩ : ByteArray) ++ decB f.1)), SP.val (.string ((⟨#[111, 112, 32]⟩ : ByteArray) ++ decB f.1 ++ (⟨#[32]⟩ : ByteArray))), SP.val (.pointer (some ⟨w.heap.size, 1, none⟩)), SP.val (.slice ta f.2.length tc), SP.val (.string (digB f.2)), SP.val (.string (opB f)), SP.any] (by kernel_rfl) (fun _ d _ _ _ h => by cases d <;> exact h) (by kernel_rfl) (by kernel_rfl)
      (.cons (fun vs y hY => Step.fieldAddr ⟨w.heap.size, 0, none⟩ rfl rfl rfl (by simp [go_sem]) rfl) <|
       .cons (fun vs y hY g0_0 => Step.load ⟨w.heap.size, 0, none⟩ rfl rfl g0_0 (by simp [go_sem, hY.cell c0]) rfl) <|
       .cons (fun vs y hY g1_0 => Step.call Tryd.call36 rfl rfl [vs 1] rfl rfl (by rw [show vs 1 = _ from g1_0]; exact ((dec_any f.1 _ (by omega) (by omega)).mono fun _ _ ⟨he, hw⟩ => ⟨_, he, hw ▸ Ext.refl_ _, rfl⟩))) <|
       .cons (fun vs y hY g2_0 => Step.bin (u := (Value.string { data := #[111, 112, 32] })) (v := .string (decB f.1)) rfl rfl rfl g2_0 (by simp [go_sem, d1]) rfl) <|
       .cons (fun vs y hY g3_0 => Step.bin (u := .string ((⟨#[111, 112, 32]⟩ : ByteArray) ++ decB f.1)) (v := (Value.string { data := #[32] })) rfl rfl g3_0 rfl (by simp [go_sem, d1]) rfl) <|
       .cons (fun vs y hY => Step.fieldAddr ⟨w.heap.size, 0, none⟩ rfl rfl rfl (by simp [go_sem]) rfl) <|
       .cons (fun vs y hY g5_0 => Step.load ⟨w.heap.size, 1, none⟩ rfl rfl g5_0 (by simp [go_sem, hY.cell c1]) rfl) <|
       .cons (fun vs y hY g6_0 g2_1 => Step.call Tryd.call37 rfl rfl [vs 6] rfl rfl (by rw [show vs 6 = _ from g6_0]; exact ((digits_any f.2 _ _ (hr.ext (hE.tr hY)) (fun x hx => by have := b2 x hx; omega) (by omega)).mono fun _ _ ⟨he, hw⟩ => ⟨_, he, hw ▸ Ext.refl_ _, rfl⟩))) <|
       .cons (fun vs y hY g4_0 g7_1 => Step.bin (u := .string ((⟨#[111, 112, 32]⟩ : ByteArray) ++ decB f.1 ++ (⟨#[32]⟩ : ByteArray))) (v := .string (digB f.2)) rfl rfl g4_0 g7_1 (by simp [go_sem, opB, d1, dg, hl]) rfl) <|
       .skip rfl <|
       .nil) ?_
    intro vs w2 hC hL
    have r0 : vs 0 = _ := hL 0 (by decide) rfl
    have r1 : vs 1 = _ := hL 1 (by decide) rfl
    have r2 : vs 2 = _ := hL 2 (by decide) rfl
    have r3 : vs 3 = _ := hL 3 (by decide) rfl
    have r4 : vs 4 = _ := hL 4 (by decide) rfl
    have r5 : vs 5 = _ := hL 5 (by decide) rfl
    have r6 : vs 6 = _ := hL 6 (by decide) rfl
    have r7 : vs 7 = _ := hL 7 (by decide) rfl
    have r8 : vs 8 = _ := hL 8 (by decide) rfl
    clear hL
    simp only [putAll, Act.put, List.contains_cons, List.contains_nil, Nat.reduceBEq, Nat.reduceAdd, Bool.or_false, cond_true, cond_false, List.setIfInBounds_toArray, List.set_cons_succ, List.set_cons_zero, List.filterMap_cons, List.filterMap_nil, List.getElem?_cons_succ, List.getElem?_cons_zero, r0, r1, r2, r3, r4, r5, r6, r7, r8]
    clear r0 r1 r2 r3 r4 r5 r6 r7 r8
    go_wp2_with fail
    go_ret
    exact ⟨by rw [HS.out]; rfl, hE.tr hC⟩
set_option maxHeartbeats 1000000 in
set_option maxRecDepth 100000 in
theorem l02Text_any (f : Int × List Int) (v : Value) (w : World) (hr : PtOp w v f) (h : SAnyOp f = true) :
    Calls Tryd.prog 33 #[v] w fun e w' => e = .returned (.string (opB f)) ∧ Ext w w' := by
  obtain ⟨b0, b1, b2, b3⟩ := anyOp_parts h
  clear h
  have d1 : (decB f.1).size = 1 := decB_size (by omega) (by omega)
  obtain ⟨b, off, tv, rfl, c0, c1, hr⟩ := hr
  obtain ⟨ta, tb, to, tc, rfl, hlc, hcm, ha, hc⟩ := hr
  go_enter Tryd.func33, Tryd.ntmps33
  go_wp2_with fail
  refine (decimal_any f.1 _ (by omega) (by omega)).mono ?_
  rintro e w1 ⟨rfl, hE⟩
  go_wp2_with fail
  go_loopw [3, 4] (fun t i wr => ∃ k : Nat, k ≤ f.2.length ∧ i = .int .i64 k ∧ t = .string (⟨#[111, 112, 32]⟩ ++ decB f.1 ++ ⟨#[32]⟩ ++ digB (f.2.take k)) ∧ Ext w wr) (fun _ i _ => f.2.length - (intOf i).toNat)
  case atStart => exact ⟨0, by omega, rfl, by simp [digB], hE⟩
  case round =>
    obtain ⟨k, hk, rfl, rfl, hE⟩ := hrel
    replace c0 := hE.cell c0
    replace c1 := hE.cell c1
    have dt : (digB (f.2.take k)).size ≤ 256 := by rw [digB_size _ fun x h => by have := b2 x (List.mem_of_mem_take h); omega, List.length_take]; omega
    by_cases hkl : k < f.2.length
    · obtain rfl := ha (by omega)
      have hck := hE.cell (hc k hkl)
      have hx := b2 f.2[k] (List.getElem_mem hkl)
      have HT := Lib.hid (digB_take hkl)
      have dx : (decB f.2[k]).size = 1 := decB_size (by omega) (by omega)
      go_wp2_with fail
      refine (decimal_any f.2[k] _ hx.1 (by omega)).mono ?_
      rintro e w2 ⟨rfl, hE2⟩
      go_wp2_with fail
      go_roundw
      case rel => exact ⟨k + 1, by omega, by go_num, congrArg Value.string (by rw [HT.out, ByteArray.append_assoc]), hE.tr hE2⟩
      case measure => simp [intOf]; omega
    · have HT := Lib.hid (show opB f = ⟨#[111, 112, 32]⟩ ++ decB f.1 ++ ⟨#[32]⟩ ++ digB (f.2.take k) by rw [List.take_of_length_le (by omega)]; rfl)
      go_wp2_with fail
      go_ret
      exact ⟨by rw [HT.out]; rfl, hE⟩
set_option maxHeartbeats 1000000 in
theorem specOpText_any (f : Int × List Int) (v : Value) (w : World) (hr : RdOp w v f) (_ : szOp f ≤ 1048576) :
    Calls Tryd.prog 9 #[v] w fun e w' => e = .returned (.string (SOpText f)) ∧ Ext w w' := by
  obtain ⟨tv, rfl, hr⟩ := hr
  have hE1 : Ext w (w.alloc (.cells #[.int .i64 f.1, tv] 27)) := (Ext.refl' w).alloc (Nat.le_refl _) _
  have hP : PtOp (w.alloc (.cells #[.int .i64 f.1, tv] 27)) (.pointer (some ⟨w.heap.size, 0, none⟩)) f := ⟨_, _, _, rfl, by simp [go_sem], by simp [go_sem], hr.ext hE1⟩
  cases h : SAnyOp f with
  | false =>
    have HS := Lib.hid (show SOpText f = ByteArray.empty by unfold SOpText; rw [h]; rfl)
    go_enter Tryd.func9, Tryd.ntmps9
    go_wp2_with fail
    refine (l02Sized_any f _ _ hP).mono ?_
    rintro e w1 ⟨rfl, hE⟩
    rw [h]
    go_wp2_with fail
    go_ret
    exact ⟨by rw [HS.out]; rfl, hE1.tr hE⟩
  | true =>
    have HS := Lib.hid (show SOpText f = opB f by unfold SOpText; rw [h]; rfl)
    go_enter Tryd.func9, Tryd.ntmps9
    go_wp2_with fail
    refine (l02Sized_any f _ _ hP).mono ?_
    rintro e w1 ⟨rfl, hE⟩
    rw [h]
    go_wp2_with fail
    refine (l02Text_any f _ _ (hP.ext hE) h).mono ?_
    rintro e w2 ⟨rfl, hE2⟩
    go_wp2_with fail
    go_ret
    exact ⟨by rw [HS.out]; rfl, (hE1.tr hE).tr hE2⟩
end Go.Proofs.YtajkepdfemdagaaDoor
