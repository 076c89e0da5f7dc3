/- A reading of a row of bytes, opened. Texts of numbers: small numbers in decimal, lists of digits. -/
import Derived.Test.YtajkepdfemdagaaGreatDoorC02
import Derived.Test.YtajkepdfemdagaaGreatDoorC14
import Derived.Test.YtajkepdfemdagaaGreatDoorC05
import Derived.Test.YtajkepdfemdagaaGreatDoorShelf
import Derived.Laws.BytesArg
namespace Go.Proofs.YtajkepdfemdagaaGreatDoor
open Go.ChangeShapes Go.WideShapes Go.ChangeAt Go.RowKit Go.Joins Go.Deep

theorem cellsB : Tryz.prog.cellsOf 5 = 1 := by kernel_rfl
section
variable {H : Type} {enc : TypeId × Value → H} {W : World}
set_option maxRecDepth 100000 in
theorem rdB_of {fuel : Nat} {v : Value} {x : DataW H × List MemPlace} (h : DataW.trod enc Tryz.prog W 0 (fun _ => true) true fuel 30 [v] = some x) : ∃ a n c, v = .slice a n c ∧ RdB W (.slice a n c) ∧ (a = none → c = 0) := by
  rcases open_ints Tryz.underlying30 Tryz.underlying5 cellsB h with ⟨hcs, _⟩ | ⟨a, len, cap, zs, hcs, _, hl, hm, hz, _, hcell, hwf⟩
  · simp at hcs
    subst hcs
    exact ⟨none, 0, 0, rfl, ⟨none, 0, 0, 0, 0, rfl, by omega, by omega, fun h => by omega, fun j hj => by omega⟩, fun _ => rfl⟩
  · simp at hcs
    subst hcs
    simp only [if_true] at hz
    by_cases hp : 0 < zs.length
    · obtain ⟨b, off, rfl, hc⟩ := ints_at hcell hp
      refine ⟨_, _, _, rfl, ⟨some ⟨b, off, none⟩, b, off, len, cap, rfl, hl, by unfold maxLen at hm; omega, fun _ => rfl, fun j hj => ?_⟩, fun h => by cases h⟩
      have hj2 : j < zs.length := by omega
      have hw := hwf zs[j] (List.getElem_mem hj2)
      simp [Lit.wf, IntKind.min, IntKind.max, IntKind.signed, IntKind.bits] at hw
      have hcj := hc j hj2
      rw [List.getD_eq_getElem?_getD, List.getElem?_eq_getElem hj2] at hcj
      exact ⟨zs[j], by omega, by omega, lt_of_cell hcj, hcj⟩
    · exact ⟨_, _, _, rfl, ⟨some a, 0, 0, len, cap, rfl, hl, by unfold maxLen at hm; omega, fun h => by omega, fun j hj => by omega⟩, fun h => by cases h⟩
set_option maxRecDepth 100000 in
theorem dB_of {v : Value} {d : DataW H} {p : List MemPlace} {b : Nat} (h : DataW.Trod enc Tryz.prog W 0 (fun _ => true) true 30 v d p) (hv : Value.okWide Tryz.prog W .any b 30 v) : ∃ a n c, v = .slice a n c ∧ RdB W (.slice a n c) ∧ (a = none → c = 0) := by
  obtain ⟨a0, len, cap, rfl⟩ := okWide_slice Tryz.underlying30 hv
  obtain ⟨fuel, hf⟩ := h
  exact rdB_of hf
end
end Go.Proofs.YtajkepdfemdagaaGreatDoor
namespace Go.Proofs.YtajkepdfemdagaaGreatDoor
open Go.RowKit
set_option linter.unusedVariables false

/-- the text of a small number -/
def decB (n : Int) : ByteArray := ⟨(Lib.decDigits n.toNat).toArray⟩
def digB (l : List Int) : ByteArray := l.foldl (fun a x => a ++ decB x) ByteArray.empty
theorem digB_snoc (l : List Int) (x : Int) : digB (l ++ [x]) = digB l ++ decB x := by simp [digB]
theorem digB_take {l : List Int} {k : Nat} (hk : k < l.length) : digB (l.take (k + 1)) = digB (l.take k) ++ decB l[k] := by rw [List.take_succ_eq_append_getElem hk, digB_snoc]
theorem decB_one {n : Int} (h0 : 0 ≤ n) (h1 : n < 10) : decB n = ⟨#[UInt8.ofNat (48 + n.toNat)]⟩ := by
  unfold decB
  rw [Lib.decDigits, dif_pos (by omega)]
theorem decB_size {n : Int} (h0 : 0 ≤ n) (h1 : n < 10) : (decB n).size = 1 := by rw [decB_one h0 h1]; rfl
theorem digB_size : ∀ (l : List Int), (∀ x ∈ l, 0 ≤ x ∧ x < 10) → (digB l).size = l.length := by
  intro l
  rw [← List.reverse_reverse l]
  generalize l.reverse = l'
  clear l
  induction l' with
  | nil => intro _; rfl
  | cons a xs ih =>
    intro h
    rw [List.reverse_cons] at h ⊢
    have ha := h a (by simp)
    rw [digB_snoc, ByteArray.size_append, decB_size ha.1 ha.2, ih fun x hx => h x (List.mem_append_left _ hx)]
    simp

set_option maxHeartbeats 400000 in
theorem dec_any (n : Int) (w : World) (h0 : 0 ≤ n) (h1 : n < 100) : Calls Tryz.prog 97 #[.int .i64 n] w fun e w' => e = .returned (.string (decB n)) ∧ w = w' := by
  obtain ⟨k, rfl⟩ := Int.eq_ofNat_of_zero_le h0
  go_enter Tryz.func97, Tryz.ntmps97
  go_wp2_with fail
  refine (Tryz.strconv_FormatInt_10_small k (by omega) w).mono ?_
  rintro e w1 ⟨rfl, rfl⟩
  go_wp2_with fail
  go_ret
  exact ⟨rfl, rfl⟩
set_option maxHeartbeats 1000000 in
theorem digits_any (l : List Int) (v : Value) (w : World) (hr : RdI w v l) (hv : ∀ x ∈ l, 0 ≤ x ∧ x < 10) (hl : l.length ≤ 1048576) :
    Calls Tryz.prog 116 #[v] w fun e w' => e = .returned (.string (digB l)) ∧ w = w' := by
  obtain ⟨a, b, off, c, rfl, hlc, hcm, ha, hc⟩ := hr
  go_enter Tryz.func116, Tryz.ntmps116
  go_wp2_with fail
  go_loopw [3, 8] (fun t i wr => ∃ k : Nat, k ≤ l.length ∧ i = .int .i64 k ∧ t = .string (digB (l.take k)) ∧ w = wr) (fun _ i _ => l.length - (intOf i).toNat)
  case atStart => exact ⟨0, by omega, rfl, rfl, rfl⟩
  case round =>
    obtain ⟨k, hk, rfl, rfl, rfl⟩ := hrel
    by_cases hkl : k < l.length
    · obtain rfl := ha (by omega)
      have hck := hc k hkl
      have hx := hv l[k] (List.getElem_mem hkl)
      have HT := Lib.hid (digB_take hkl)
      have hsz : ¬ 9223372036854775807 < (digB (l.take k)).size + (decB l[k]).size := by
        rw [decB_size hx.1 hx.2, digB_size _ fun x h => hv x (List.mem_of_mem_take h), List.length_take]
        omega
      go_wp2_with fail
      refine (dec_any l[k] _ hx.1 (by omega)).mono ?_
      rintro e w1 ⟨rfl, rfl⟩
      go_wp2_with fail
      go_roundw
      case rel => exact ⟨k + 1, by omega, by go_num, congrArg Value.string HT.out.symm, trivial⟩
      case measure => simp [intOf]; omega
    · have HT := Lib.hid (show l.take k = l from List.take_of_length_le (by omega))
      go_wp2_with fail
      go_ret
      exact ⟨by rw [HT.out]; rfl, rfl⟩
end Go.Proofs.YtajkepdfemdagaaGreatDoor
