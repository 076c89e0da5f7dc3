/- OpText: the program's and the reference's give one text. An operation's text read: the plain law. -/
import Derived.Test.YtajkepdfemdagaaGreatDoorC15
import Derived.Test.YtajkepdfemdagaaGreatDoorC31
import Derived.Test.YtajkepdfemdagaaGreatDoorC10
import Derived.Test.YtajkepdfemdagaaGreatDoorC06
import Derived.Test.YtajkepdfemdagaaGreatDoorC08
import Derived.Test.YtajkepdfemdagaaGreatDoorC17
import Derived.Lib.ParseIntBTie
namespace Go.Proofs.YtajkepdfemdagaaGreatDoor
open Go.RowKit
set_option linter.unusedVariables false

/-- valid for some size -/
def SAnyOp (f : Int × List Int) : Bool := (List.range 4).any fun k : Nat => SValidOp ((k : Int) + 1) f
theorem anyOp_yes {f : Int × List Int} {k : Nat} (h0 : 1 ≤ k) (h1 : k ≤ 4) (h : SValidOp (k : Int) f = true) : SAnyOp f = true := by
  unfold SAnyOp
  rw [List.any_eq_true]
  refine ⟨k - 1, List.mem_range.2 (by omega), ?_⟩
  rw [show ((k - 1 : Nat) : Int) + 1 = (k : Int) by omega]
  exact h
theorem anyOp_no {f : Int × List Int} (h : ∀ k : Nat, 1 ≤ k → k ≤ 4 → SValidOp (k : Int) f = false) : SAnyOp f = false := by
  unfold SAnyOp
  rw [List.any_eq_false]
  intro k hk
  have := List.mem_range.1 hk
  have h2 := h (k + 1) (by omega) (by omega)
  rw [show ((k + 1 : Nat) : Int) = (k : Int) + 1 by omega] at h2
  simp [h2]
theorem anyOp_parts {f : Int × List Int} (h : SAnyOp f = true) : 1 ≤ f.1 ∧ f.1 ≤ 3 ∧ (∀ x ∈ f.2, 0 ≤ x ∧ x < 4) ∧ f.2.length ≤ 256 := by
  unfold SAnyOp at h
  rw [List.any_eq_true] at h
  obtain ⟨k, hk, h⟩ := h
  have hk4 := List.mem_range.1 hk
  unfold SValidOp at h
  rw [Bool.and_eq_true, Bool.and_eq_true] at h
  obtain ⟨_, h2, h3⟩ := h
  have h2 := inB_iff.1 h2
  obtain ⟨h4, h5⟩ := vals_iff.1 h3
  have hp := powW_small ((k : Int) + 1) f.1 (by omega) (by omega) (by omega) (by omega)
  exact ⟨h2.1, h2.2, fun x hx => by have := h5 x hx; omega, by omega⟩
/-- the text of an operation -/
def opB (f : Int × List Int) : ByteArray := ⟨#[111, 112, 32]⟩ ++ decB f.1 ++ ⟨#[32]⟩ ++ digB f.2
def SOpText (f : Int × List Int) : ByteArray := if SAnyOp f then opB f else ByteArray.empty

end Go.Proofs.YtajkepdfemdagaaGreatDoor
namespace Go.Proofs.YtajkepdfemdagaaGreatDoor
open Go.RowKit
set_option linter.unusedVariables false

/-! ### digits and texts -/
theorem digB_list : ∀ (l : List Int), (digB l).data.toList = (l.map fun x => (decB x).data.toList).flatten := by
  intro l
  rw [← List.reverse_reverse l]
  generalize l.reverse = l'
  clear l
  induction l' with
  | nil => rfl
  | cons a xs ih =>
    rw [List.reverse_cons, digB_snoc]
    simp only [ByteArray.data_append, Array.toList_append, ih, List.map_append, List.flatten_append, List.map_cons, List.map_nil, List.flatten_cons, List.flatten_nil, List.append_nil]
theorem digB_bytes : ∀ (l : List Int), (∀ x ∈ l, 0 ≤ x ∧ x < 10) → (digB l).data.toList = l.map fun x => UInt8.ofNat (48 + x.toNat) := by
  intro l h
  rw [digB_list]
  induction l with
  | nil => rfl
  | cons a l ih =>
    have ha := h a List.mem_cons_self
    rw [List.map_cons, List.flatten_cons, ih fun x hx => h x (List.mem_cons_of_mem _ hx), decB_list ha.1 ha.2]
    rfl
theorem ofNat_dig {x : Int} (h0 : 0 ≤ x) (h1 : x < 10) : (UInt8.ofNat (48 + x.toNat)).toNat = 48 + x.toNat := by rw [UInt8.toNat_ofNat']; omega
theorem rdg_digB {l : List Int} (h : ∀ x ∈ l, 0 ≤ x ∧ x < 10) : rdg (digB l) = l := by
  unfold rdg
  rw [digB_bytes l h, if_pos]
  · rw [List.map_map]
    refine Eq.trans (List.map_congr_left fun x hx => ?_) (List.map_id l)
    have hx := h x hx
    have := ofNat_dig hx.1 hx.2
    simp only [Function.comp_apply, this, id_eq]
    omega
  · rw [List.all_eq_true]
    intro b hb
    obtain ⟨x, hx, rfl⟩ := List.mem_map.1 hb
    have hx := h x hx
    unfold isDig
    rw [ofNat_dig hx.1 hx.2, decide_eq_true_eq]
    omega
/-- bytes less 48, all of them digits: the text again -/
theorem digB_sub {s : ByteArray} (h : ∀ b ∈ s.data.toList, isDig b = true) : digB (s.data.toList.map fun b => (b.toNat : Int) - 48) = s := by
  apply data_inj
  have hd : ∀ x ∈ s.data.toList.map (fun b => (b.toNat : Int) - 48), 0 ≤ x ∧ x < 10 := by
    intro x hx
    obtain ⟨b, hb, rfl⟩ := List.mem_map.1 hx
    have := of_decide_eq_true (h b hb)
    omega
  rw [digB_bytes _ hd, List.map_map]
  refine Eq.trans (List.map_congr_left fun b hb => ?_) (List.map_id _)
  have := of_decide_eq_true (h b hb)
  simp only [Function.comp_apply, id_eq]
  apply UInt8.toNat_inj.1
  rw [UInt8.toNat_ofNat']
  omega
theorem no_space_dec {a : Int} (h0 : 0 ≤ a) (h1 : a < 10) : (32 : UInt8) ∉ (decB a).data.toList := by
  rw [decB_list h0 h1, List.mem_singleton]
  intro h
  have := congrArg UInt8.toNat h
  rw [ofNat_dig h0 h1] at this
  have : (32 : UInt8).toNat = 32 := rfl
  omega
theorem no_space_dig {l : List Int} (h : ∀ x ∈ l, 0 ≤ x ∧ x < 10) : (32 : UInt8) ∉ (digB l).data.toList := by
  rw [digB_bytes l h]
  intro hm
  obtain ⟨x, hx, he⟩ := List.mem_map.1 hm
  have hx := h x hx
  have := congrArg UInt8.toNat he
  rw [ofNat_dig hx.1 hx.2] at this
  have : (32 : UInt8).toNat = 32 := rfl
  omega

/-! ### an operation's text -/
def IsOpOf (s : ByteArray) (f : Int × List Int) : Prop := SAnyOp f = true ∧ opB f = s
theorem anyOp_ne {f : Int × List Int} (h : SAnyOp f = true) : 0 < f.2.length := by
  unfold SAnyOp at h
  rw [List.any_eq_true] at h
  obtain ⟨k, hk, h⟩ := h
  have hk4 := List.mem_range.1 hk
  unfold SValidOp at h
  rw [Bool.and_eq_true, Bool.and_eq_true] at h
  obtain ⟨_, h2, h3⟩ := h
  have h2 := inB_iff.1 h2
  obtain ⟨h4, _⟩ := vals_iff.1 h3
  have hp := powW_small ((k : Int) + 1) f.1 (by omega) (by omega) (by omega) (by omega)
  omega
theorem op_words {s : ByteArray} {f : Int × List Int} (h : IsOpOf s f) : words 32 s = [⟨#[111, 112]⟩, decB f.1, digB f.2] := by
  obtain ⟨h1, rfl⟩ := h
  obtain ⟨b0, b1, b2, b3⟩ := anyOp_parts h1
  have hd : ∀ x ∈ f.2, 0 ≤ x ∧ x < 10 := fun x hx => by have := b2 x hx; omega
  refine words_join ?_ (by simp) ?_
  · unfold opB
    simp only [ByteArray.data_append, Array.toList_append, List.map_cons, List.map_nil, Lib.join_cons, Lib.joinTail, List.flatten_cons, List.flatten_nil, List.append_nil]
    simp
  · intro w hw
    simp only [List.mem_cons, List.not_mem_nil, or_false] at hw
    rcases hw with rfl | rfl | rfl
    · decide
    · exact no_space_dec (by omega) (by omega)
    · exact no_space_dig hd
def numA (s : ByteArray) : Int := ((s.data.toList.headD 0).toNat : Int) - 48
theorem numA_decB {a : Int} (h0 : 0 ≤ a) (h1 : a < 10) : numA (decB a) = a := by
  unfold numA
  rw [decB_list h0 h1, List.headD_cons, ofNat_dig h0 h1]
  omega
def SReadOp (s : ByteArray) : (Int × List Int) × Int :=
  match words 32 s with
  | [w0, w1, w2] => if SAnyOp (numA w1, rdg w2) && decide (opB (numA w1, rdg w2) = s) then ((numA w1, rdg w2), 0) else (noOp, 5)
  | _ => (noOp, 5)
theorem readOp_yes {s : ByteArray} {f : Int × List Int} (h : IsOpOf s f) : SReadOp s = (f, 0) := by
  unfold SReadOp
  rw [op_words h]
  obtain ⟨b0, b1, b2, b3⟩ := anyOp_parts h.1
  have h1 : numA (decB f.1) = f.1 := numA_decB (by omega) (by omega)
  have h2 : rdg (digB f.2) = f.2 := rdg_digB fun x hx => by have := b2 x hx; omega
  simp only [h1, h2, h.1, h.2, decide_true, Bool.and_self, if_true]
theorem readOp_no {s : ByteArray} (h : ∀ f, ¬ IsOpOf s f) : SReadOp s = (noOp, 5) := by
  unfold SReadOp
  split
  · next w0 w1 w2 _ =>
    rw [if_neg]
    intro hh
    rw [Bool.and_eq_true, decide_eq_true_eq] at hh
    exact h _ hh
  · rfl
theorem op_size {s : ByteArray} {f : Int × List Int} (h : IsOpOf s f) : s.size = 5 + f.2.length := by
  obtain ⟨h1, rfl⟩ := h
  obtain ⟨b0, b1, b2, b3⟩ := anyOp_parts h1
  unfold opB
  rw [ByteArray.size_append, ByteArray.size_append, ByteArray.size_append, decB_size (by omega) (by omega), digB_size _ fun x hx => by have := b2 x hx; omega]
  rfl
/-- the parts are as they must be: it is the operation -/
theorem op_from {s w1 w2 : ByteArray} {v : Int} (hw : words 32 s = [⟨#[111, 112]⟩, w1, w2]) (hn : w1 = decB v) (h1 : 0 ≤ v) (h2 : v < 10) (hd : ∀ b ∈ w2.data.toList, isDig b = true) : opB (v, w2.data.toList.map fun b => (b.toNat : Int) - 48) = s := by
  apply data_inj
  rw [← join_words 32 s, hw, hn]
  unfold opB
  rw [digB_sub hd]
  simp only [ByteArray.data_append, Array.toList_append, List.map_cons, List.map_nil, Lib.join_cons, Lib.joinTail, List.flatten_cons, List.flatten_nil, List.append_nil]
  simp
end Go.Proofs.YtajkepdfemdagaaGreatDoor
