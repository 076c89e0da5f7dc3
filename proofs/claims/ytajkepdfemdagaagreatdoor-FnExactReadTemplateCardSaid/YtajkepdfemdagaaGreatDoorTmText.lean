
/- TemplateText: the program's and the reference's give one text. -/
import Derived.Test.YtajkepdfemdagaaGreatDoorRelText
import Derived.Test.YtajkepdfemdagaaGreatDoorSmall
namespace Go.Proofs.YtajkepdfemdagaaGreatDoor
open Go.RowKit
set_option linter.unusedVariables false

theorem valid_four {s : Int} {r : RelD} (hv : SValidRel s r = true) : SValidRel 4 r = true := by
  obtain ⟨a1, a2, a3⟩ := valid_parts hv
  have h := hv
  unfold SValidRel at h ⊢
  rw [Bool.and_eq_true, Bool.and_eq_true, List.all_eq_true] at h ⊢
  refine ⟨⟨by decide, h.1.2⟩, fun k hk => ?_⟩
  have h1 := h.2 k hk
  unfold okT at h1 ⊢
  rw [Bool.and_eq_true] at h1 ⊢
  refine ⟨?_, h1.2⟩
  obtain ⟨h2, h3⟩ := vals_iff.1 h1.1
  exact vals_iff.2 ⟨h2, fun a ha => by have := h3 a ha; omega⟩
def linesB (L : List RelD) : ByteArray := L.foldl (fun a r => a ++ (relB r ++ ⟨#[10]⟩)) ByteArray.empty
theorem linesB_snoc (L : List RelD) (r : RelD) : linesB (L ++ [r]) = linesB L ++ (relB r ++ ⟨#[10]⟩) := by simp [linesB]
def tmK (t : Int × List RelD) (k : Nat) : ByteArray := (⟨#[116, 101, 109, 112, 108, 97, 116, 101, 32]⟩ : ByteArray) ++ decB t.1 ++ ⟨#[10]⟩ ++ linesB (t.2.take k)
def tmB (t : Int × List RelD) : ByteArray := tmK t t.2.length
theorem tmK_succ {t : Int × List RelD} {k : Nat} (hk : k < t.2.length) : tmK t (k + 1) = tmK t k ++ (relB t.2[k] ++ ⟨#[10]⟩) := by
  unfold tmK
  rw [List.take_succ_eq_append_getElem hk, linesB_snoc]
  simp only [ByteArray.append_assoc]
theorem relB_size {r : RelD} (h : SValidRel 4 r = true) : (relB r).size ≤ 1300 := accB_size h _
theorem linesB_size : ∀ (L : List RelD), (∀ r ∈ L, SValidRel 4 r = true) → (linesB L).size ≤ 1301 * L.length := by
  intro L
  rw [← List.reverse_reverse L]
  generalize L.reverse = L'
  clear L
  induction L' with
  | nil => intro _; simp [linesB]
  | cons a xs ih =>
    intro h
    rw [List.reverse_cons] at h ⊢
    have ha := relB_size (h a (by simp))
    have h1 := ih fun t ht => h t (List.mem_append_left _ ht)
    rw [linesB_snoc, ByteArray.size_append, ByteArray.size_append, List.length_append]
    simp only [List.length_cons, List.length_nil]
    have : (⟨#[10]⟩ : ByteArray).size = 1 := rfl
    omega
theorem tmText_parts {t : Int × List RelD} (h : SValidTemplate t = true) : (1 ≤ t.1 ∧ t.1 ≤ 4) ∧ t.2.length ≤ 6 ∧ (∀ r ∈ t.2, SValidRel 4 r = true) ∧ ∀ k, (tmK t k).size ≤ 8000 := by
  have h1 := valid_tm h
  have h2 := valid_tm_len h
  have h3 : 1 ≤ t.1 ∧ t.1 ≤ 4 := by
    unfold SValidTemplate at h
    rw [Bool.and_eq_true, Bool.and_eq_true] at h
    exact inB_iff.1 h.1
  have h4 : ∀ r ∈ t.2, SValidRel 4 r = true := fun r hr => valid_four (h1 r hr)
  refine ⟨h3, h2, h4, fun k => ?_⟩
  have h5 := linesB_size (t.2.take k) fun r hr => h4 r (List.mem_of_mem_take hr)
  have h6 : (decB t.1).size = 1 := decB_size (by omega) (by omega)
  have h7 : (⟨#[116, 101, 109, 112, 108, 97, 116, 101, 32]⟩ : ByteArray).size = 9 := rfl
  have h8 : (⟨#[10]⟩ : ByteArray).size = 1 := rfl
  rw [List.length_take] at h5
  unfold tmK
  rw [ByteArray.size_append, ByteArray.size_append, ByteArray.size_append]
  omega
def STemplateText (t : Int × List RelD) : ByteArray := if SValidTemplate t then tmB t else ByteArray.empty
theorem tmText_yes {t : Int × List RelD} (h : SValidTemplate t = true) : STemplateText t = tmB t := by unfold STemplateText; rw [h]; rfl
theorem tmText_no {t : Int × List RelD} (h : SValidTemplate t = false) : STemplateText t = ByteArray.empty := by unfold STemplateText; rw [h]; rfl

set_option maxHeartbeats 4000000 in
set_option maxRecDepth 100000 in
theorem templateText_any (t : Int × List RelD) (v : Value) (w : World) (hr : RdTm w v t) (hv : SValidTemplate t = true) :
    Calls Tryz.prog 48 #[v] w fun e w' => e = .returned (.string (tmB t)) ∧ Ext w w' := by
  obtain ⟨b1, b2, b3, b4⟩ := tmText_parts hv
  clear hv
  obtain ⟨tv, rfl, hr⟩ := hr
  obtain ⟨ta, tb, to, tc, tvs, rfl, hlc, hcm, ha, hc⟩ := hr
  have d1 : (decB t.1).size = 1 := decB_size (by omega) (by omega)
  have hE1 : Ext w (w.alloc (.cells #[.int .i64 t.1, .slice ta t.2.length tc] 24)) := (Ext.refl' w).alloc (Nat.le_refl _) _
  go_enter Tryz.func48, Tryz.ntmps48
  go_wp2_with fail
  refine (dec_any t.1 _ (by omega) (by omega)).mono ?_
  rintro e w1 ⟨rfl, rfl⟩
  go_wp2_with fail
  go_loopw [3, 14] (fun u i wr => ∃ k : Nat, k ≤ t.2.length ∧ i = .int .i64 k ∧ u = .string (tmK t k) ∧ Ext w wr) (fun _ i _ => t.2.length - (intOf i).toNat)
  case atStart => exact ⟨0, by omega, rfl, by simp [tmK, linesB], hE1⟩
  case round =>
    obtain ⟨k, hk, rfl, rfl, hE⟩ := hrel
    have hs := b4 k
    by_cases hkl : k < t.2.length
    · obtain rfl := ha (by omega)
      obtain ⟨q0, q1, q2⟩ := hc k hkl
      replace q0 := hE.cell q0
      replace q1 := hE.cell q1
      replace q2 := q2.ext hE
      have hv := b3 t.2[k] (List.getElem_mem hkl)
      have HS := Lib.hid (tmK_succ hkl)
      have hrs := relB_size hv
      clear hc b4
      generalize tmK t k = A at *
      obtain ⟨ka, kc, hkv⟩ := q2.form
      rw [hkv] at q1 q2
      clear hkv
      have hE2 : Ext wr (wr.alloc (.cells #[.int .i64 t.2[k].1, .slice ka t.2[k].2.length kc] 35)) := (Ext.refl' wr).alloc (Nat.le_refl _) _
      go_wp2_with fail
      refine (relText_any t.2[k] _ _ ⟨_, rfl, q2.ext hE2⟩ hv).mono ?_
      rintro e w3 ⟨rfl, hE3⟩
      go_wp2_with fail
      go_roundw
      case rel => exact ⟨k + 1, by omega, by go_num, congrArg Value.string HS.out.symm, (hE.tr hE2).tr hE3⟩
      case measure => simp [intOf]; omega
    · have HT := Lib.hid (show tmK t k = tmB t from by unfold tmB; rw [show k = t.2.length by omega])
      go_wp2_with fail
      go_ret
      exact ⟨by rw [← HT.out]; rfl, hE⟩
set_option maxHeartbeats 1000000 in
theorem implTemplateText_any (t : Int × List RelD) (v : Value) (w : World) (hr : RdTm w v t) (hz : szTm t ≤ 1048576) :
    Calls Tryz.prog 29 #[v] w fun e w' => e = .returned (.string (STemplateText t)) ∧ Ext w w' := by
  obtain ⟨tv, rfl, hr⟩ := hr
  have hE1 : Ext w (w.alloc (.cells #[.int .i64 t.1, tv] 24)) := (Ext.refl' w).alloc (Nat.le_refl _) _
  cases h : SValidTemplate t with
  | false =>
    have HS := Lib.hid (tmText_no h)
    go_enter Tryz.func29, Tryz.ntmps29
    go_wp2_with fail
    refine (implValidTemplate_any t _ _ ⟨_, rfl, hr.ext hE1⟩ hz).mono ?_
    rintro e w1 ⟨rfl, hE⟩
    rw [h]
    go_wp2_with fail
    go_ret
    exact ⟨by rw [HS.out]; rfl, hE1.tr hE⟩
  | true =>
    have HS := Lib.hid (tmText_yes h)
    go_enter Tryz.func29, Tryz.ntmps29
    go_wp2_with fail
    refine (implValidTemplate_any t _ _ ⟨_, rfl, hr.ext hE1⟩ hz).mono ?_
    rintro e w1 ⟨rfl, hE⟩
    rw [h]
    have c0 := hE.cell (p := ⟨w.heap.size, 0, none⟩) (v := .int .i64 t.1) (by simp [go_sem])
    have c1 := hE.cell (p := ⟨w.heap.size, 1, none⟩) (v := tv) (by simp [go_sem])
    go_wp2_with fail
    refine (templateText_any t _ _ ⟨_, rfl, hr.ext (hE1.tr hE)⟩ h).mono ?_
    rintro e w2 ⟨rfl, hE2⟩
    go_wp2_with fail
    go_ret
    exact ⟨by rw [HS.out]; rfl, (hE1.tr hE).tr hE2⟩
end Go.Proofs.YtajkepdfemdagaaGreatDoor
