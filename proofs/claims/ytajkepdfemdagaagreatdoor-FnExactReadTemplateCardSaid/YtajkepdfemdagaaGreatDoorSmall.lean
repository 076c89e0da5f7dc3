
/- Small laws and the reference's search in a list of numbers. -/
import Derived.Test.YtajkepdfemdagaaGreatDoorTmpl
import Derived.Test.YtajkepdfemdagaaGreatDoorCanon
import Derived.Test.YtajkepdfemdagaaGreatDoorRise
namespace Go.Proofs.YtajkepdfemdagaaGreatDoor
open Go.RowKit
set_option linter.unusedVariables false

theorem valid_tm {t : Int × List RelD} (h : SValidTemplate t = true) : ∀ r ∈ t.2, SValidRel t.1 r = true := by
  intro r hr
  unfold SValidTemplate at h
  rw [Bool.and_eq_true, Bool.and_eq_true, Bool.not_eq_true', List.any_eq_false] at h
  have := h.2.2 r hr
  simpa using this
theorem valid_tm_len {t : Int × List RelD} (h : SValidTemplate t = true) : t.2.length ≤ 6 := by
  unfold SValidTemplate at h
  rw [Bool.and_eq_true, Bool.and_eq_true, decide_eq_true_eq] at h
  exact h.2.1

theorem find_here {p : Nat → Bool} {k N : Nat} (hk : k < N) (h0 : ∀ j, j < k → p j = false) (h1 : p k = true) : (List.range N).find? p = some k := by
  rw [List.find?_eq_some_iff_append]
  refine ⟨h1, List.range k, (List.range' (k + 1) (N - (k + 1))), ?_, fun a ha => ?_⟩
  · rw [List.range_eq_range', List.range_eq_range', show k :: List.range' (k + 1) (N - (k + 1)) = List.range' k (N - k) from by
      rw [show N - k = (N - (k + 1)) + 1 by omega, List.range'_succ]]
    have := List.range'_append (s := 0) (m := k) (n := N - k) (step := 1)
    rw [Nat.one_mul, Nat.zero_add] at this
    rw [this, show k + (N - k) = N by omega]
  · rw [h0 a (List.mem_range.1 ha)]
    rfl
theorem find_none {p : Nat → Bool} {N : Nat} (h0 : ∀ j, j < N → p j = false) : (List.range N).find? p = none := by
  rw [List.find?_eq_none]
  intro a ha
  rw [h0 a (List.mem_range.1 ha)]
  simp

set_option maxHeartbeats 1000000 in
theorem l00Has_any (l : List Int) (v : Value) (x : Int) (w : World) (hr : RdI w v l) :
    Calls Tryz.prog 136 #[v, .int .i64 x] w fun e w' => e = .returned (.bool (hasI l x)) ∧ Ext w w' := by
  obtain ⟨a, b, off, c, rfl, hlc, hcm, ha, hc⟩ := hr
  go_enter Tryz.func136, Tryz.ntmps136
  go_wp2_with fail
  go_loopw [5] (fun i wr => ∃ k : Nat, k ≤ l.length ∧ i = .int .i64 k ∧ Ext w wr ∧ ∀ j (hj : j < l.length), j < k → l[j] ≠ x) (fun i _ => l.length - (intOf i).toNat)
  case atStart => exact ⟨0, by omega, rfl, Ext.refl' _, fun j _ hj => by omega⟩
  case round =>
    obtain ⟨k, hk, rfl, hE, ht⟩ := hrel
    have HT := Lib.hid ht
    clear ht
    by_cases hkl : k < l.length
    · obtain rfl := ha (by omega)
      have hck := hE.cell (hc k hkl)
      by_cases hp : l[k] = x
      · have HI := Lib.hid (show hasI l x = true from hasI_iff.2 (hp ▸ List.getElem_mem hkl))
        have hb : (l[k] == x) = true := by simp [hp]
        clear hp
        go_wp2_with fail
        go_ret
        exact ⟨ret_bool HI.out.symm, hE⟩
      · have HI := Lib.hid (show ∀ j (hj : j < l.length), j < k + 1 → l[j] ≠ x from fun j hj hjk => if h : j = k then by subst h; exact hp else HT.out j hj (by omega))
        have hb : (l[k] == x) = false := by simp [hp]
        clear hp
        go_wp2_with fail
        go_roundw
        case rel => exact ⟨k + 1, by omega, by go_num, hE, HI.out⟩
        case measure => simp [intOf]; omega
    · have HI := Lib.hid (show hasI l x = false from hasI_no.2 fun h => by
        obtain ⟨j, hj, he⟩ := List.getElem_of_mem h
        exact HT.out j hj (by omega) he)
      go_wp2_with fail
      go_ret
      exact ⟨ret_bool HI.out.symm, hE⟩

end Go.Proofs.YtajkepdfemdagaaGreatDoor
