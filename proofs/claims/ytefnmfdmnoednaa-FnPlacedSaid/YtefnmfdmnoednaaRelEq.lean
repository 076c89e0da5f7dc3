
/- SameRel: the program's and the reference's give one function's answers. -/
import Derived.Test.YtefnmfdmnoednaaRelT
namespace Go.Proofs.Ytefnmfdmnoednaa
open Go.RowKit
set_option linter.unusedVariables false

def SSameRel (r s : Int × List (List Int)) : Bool := decide (r = s)

set_option maxHeartbeats 1000000 in
theorem l01Same_any (f g : Int × List (List Int)) (v u : Value) (w : World) (hr : PtRel w v f) (hs : PtRel w u g) :
    Calls Try.prog 108 #[v, u] w fun e w' => e = .returned (.bool (decide (f = g))) ∧ Qt w w' := by
  obtain ⟨b0, off0, tv, rfl, c0, c1, hr⟩ := hr
  obtain ⟨b1, off1, tv', rfl, d0, d1, hs⟩ := hs
  obtain ⟨a, b, off, cap, vs, rfl, hlc, hcm, ha, hc⟩ := hr
  obtain ⟨a', b', off', cap', vs', rfl, hlc', hcm', ha', hc'⟩ := hs
  by_cases h1 : f.1 = g.1
  · have hbx : (f.1 != g.1) = false := by simp [h1]
    by_cases hlen : f.2.length = g.2.length
    · have hb : ((f.2.length : Int) != (g.2.length : Int)) = false := by simp [hlen]
      have H1 := Lib.hid h1
      clear h1
      go_enter Try.func108, Try.ntmps108
      go_wp2
      go_quiet (fail)
      go_wp2
      go_loopw [5] (fun i wr => ∃ k : Nat, k ≤ f.2.length ∧ i = .int .i64 k ∧ Qt w wr ∧ f.2.take k = g.2.take k) (fun i _ => f.2.length - (intOf i).toNat)
      case atStart => exact ⟨0, by omega, rfl, ⟨_, rfl⟩, rfl⟩
      case round =>
        obtain ⟨k, hk, rfl, hE, ht⟩ := hrel
        have HB := Lib.hid hb
        have HX := Lib.hid hbx
        have HT := Lib.hid ht
        clear hb hbx ht
        replace c1 := hE.ext.cell c1
        replace d1 := hE.ext.cell d1
        by_cases hkl : k < f.2.length
        · have hkm : k < g.2.length := by omega
          obtain rfl := ha (by omega)
          obtain rfl := ha' (by omega)
          obtain ⟨h1, k1⟩ := hc k hkl
          obtain ⟨h2, k2⟩ := hc' k hkm
          replace h1 := hE.ext.cell h1
          replace h2 := hE.ext.cell h2
          replace k1 := k1.ext hE.ext
          replace k2 := k2.ext hE.ext
          have HL := Lib.hid hlen
          clear hlen
          by_cases hlk : f.2[k] = g.2[k]
          · have hT : decide (f.2[k] = g.2[k]) = true := decide_eq_true hlk
            have HK := Lib.hid (show f.2.take (k + 1) = g.2.take (k + 1) from by rw [List.take_succ_eq_append_getElem hkl, List.take_succ_eq_append_getElem hkm, HT.out, hlk])
            clear hlk
            go_wp2_with fail
            go_quiet ((go_at_call 165; refine Calls.quiet_of (v := .bool true) ?_; refine (l00Same_any _ _ _ _ _ (k1.ext (Qt.ext ⟨_, rfl⟩)) (k2.ext (Qt.ext ⟨_, rfl⟩))).mono ?_; rintro e w' ⟨he, hq⟩; exact ⟨by rw [he, hT], hq⟩))
            have hnx : Qt w (wr.drewN nq) := hE.drewN _
            go_wp2_with fail
            go_roundw
            case rel => exact ⟨k + 1, by omega, by go_num, hnx, HK.out⟩
            case measure => simp [intOf]; omega
          · have hT : decide (f.2[k] = g.2[k]) = false := decide_eq_false hlk
            have HN := Lib.hid (show decide (f = g) = false from decide_eq_false fun h => hlk (by subst h; rfl))
            clear hlk
            go_wp2_with fail
            go_quiet ((go_at_call 165; refine Calls.quiet_of (v := .bool false) ?_; refine (l00Same_any _ _ _ _ _ (k1.ext (Qt.ext ⟨_, rfl⟩)) (k2.ext (Qt.ext ⟨_, rfl⟩))).mono ?_; rintro e w' ⟨he, hq⟩; exact ⟨by rw [he, hT], hq⟩))
            have hnx : Qt w (wr.drewN nq) := hE.drewN _
            go_wp2_with fail
            go_ret
            exact ⟨ret_bool HN.out.symm, hnx⟩
        · go_wp2
          go_ret
          refine ⟨ret_bool ?_, hE⟩
          have hkk : k = f.2.length := by omega
          have := HT.out
          rw [hkk, List.take_length, hlen, List.take_length] at this
          exact (rel_eq H1.out this).symm
    · have hb : ((f.2.length : Int) != (g.2.length : Int)) = true := by simp; omega
      have HN := Lib.hid (rel_ne2 (f := f) (g := g) fun h => hlen (by rw [h]))
      clear hlen h1
      go_enter Try.func108, Try.ntmps108
      go_wp2
      go_quiet (fail)
      go_wp2
      go_ret
      exact ⟨ret_bool HN.out.symm, _, rfl⟩
  · have hbx : (f.1 != g.1) = true := by simp [h1]
    have HN := Lib.hid (rel_ne1 h1)
    clear h1
    go_enter Try.func108, Try.ntmps108
    go_wp2
    go_quiet (fail)
    go_wp2
    go_ret
    exact ⟨ret_bool HN.out.symm, _, rfl⟩
set_option maxHeartbeats 400000 in
theorem specSameRel_any (f : Int × List (List Int)) (v : Value) (g : Int × List (List Int)) (u : Value) (w : World) (hr : RdRel w v f) (hs : RdRel w u g) (_ : szRel f ≤ 1048576) (_ : szRel g ≤ 1048576) :
    Calls Try.prog 54 #[v, u] w fun e w' => e = .returned (.bool (SSameRel f g)) ∧ Ext w w' := by
  obtain ⟨tv, rfl, hr⟩ := hr
  obtain ⟨tu, rfl, hs⟩ := hs
  obtain ⟨ta, tc, rfl⟩ := hr.form
  obtain ⟨ua, uc, rfl⟩ := hs.form
  have hE1 : Ext w ((w.alloc (.cells #[.int .i64 f.1, .slice ta f.2.length tc] 25)).alloc (.cells #[.int .i64 g.1, .slice ua g.2.length uc] 25)) := ((Ext.refl' w).alloc (Nat.le_refl _) _).alloc (by simp) _
  go_enter Try.func54, Try.ntmps54
  go_wp2_with (go_at_call 108; refine (l01Same_any f g _ _ _ ⟨_, _, _, rfl, by simp [go_sem], by simp [go_sem], hr.ext hE1⟩ ⟨_, _, _, rfl, by simp [go_sem], by simp [go_sem], hs.ext hE1⟩).mono ?_; rintro e w2 ⟨rfl, hE⟩)
  go_ret
  exact ⟨rfl, hE1.tr hE.ext⟩

end Go.Proofs.Ytefnmfdmnoednaa
