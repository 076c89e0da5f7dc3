
/- The codes' names. -/
import Derived.Test.YtfmoekfeajfidaaScal
namespace Go.Proofs.Ytfmoekfeajfidaa
open Go.RowKit
set_option linter.unusedVariables false

def codeNames : List ByteArray := [⟨#[111, 107]⟩, ⟨#[105, 110, 118, 97, 108, 105, 100]⟩, ⟨#[114, 97, 110, 103, 101]⟩, ⟨#[108, 105, 109, 105, 116]⟩, ⟨#[115, 116, 97, 116, 101]⟩, ⟨#[115, 121, 110, 116, 97, 120]⟩, ⟨#[110, 111, 116, 102, 111, 117, 110, 100]⟩, ⟨#[98, 117, 100, 103, 101, 116]⟩, ⟨#[112, 114, 111, 111, 102]⟩]
def SCodeName (c : Int) : ByteArray := if inB c 0 8 then codeNames.getD c.toNat ⟨#[]⟩ else ⟨#[]⟩

set_option maxHeartbeats 1000000 in
theorem implCodeName_any (c : Int) (w : World) (lo : -9223372036854775808 ≤ c) (hi : c ≤ 9223372036854775807) :
    Calls Try.prog 15 #[.int .i64 c] w fun e w' => e = .returned (.string (SCodeName c)) ∧ Ext w w' := by
  have hE1 : Ext w (w.alloc (.cells #[.string ⟨#[111, 107]⟩, .string ⟨#[105, 110, 118, 97, 108, 105, 100]⟩, .string ⟨#[114, 97, 110, 103, 101]⟩, .string ⟨#[108, 105, 109, 105, 116]⟩, .string ⟨#[115, 116, 97, 116, 101]⟩, .string ⟨#[115, 121, 110, 116, 97, 120]⟩, .string ⟨#[110, 111, 116, 102, 111, 117, 110, 100]⟩, .string ⟨#[98, 117, 100, 103, 101, 116]⟩, .string ⟨#[112, 114, 111, 111, 102]⟩] 9)) := (Ext.refl' w).alloc (Nat.le_refl _) _
  cases h : inB c 0 8 with
  | false =>
    rw [show SCodeName c = ⟨#[]⟩ from by unfold SCodeName; rw [h]; rfl]
    go_enter Try.func15, Try.ntmps15
    go_wp2_with (go_at_call 52; refine (within_any _ _ _ _).mono ?_; rintro e w' ⟨rfl, rfl⟩)
    go_ret
    exact ⟨rfl, hE1⟩
  | true =>
    have hb := inB_iff.1 h
    obtain ⟨k, rfl⟩ := Int.eq_ofNat_of_zero_le hb.1
    have hk : k < 9 := by omega
    clear hb
    rw [show SCodeName (k : Int) = codeNames.getD k ⟨#[]⟩ from by unfold SCodeName; rw [h]; rfl]
    rcases (show k = 0 ∨ k = 1 ∨ k = 2 ∨ k = 3 ∨ k = 4 ∨ k = 5 ∨ k = 6 ∨ k = 7 ∨ k = 8 by omega) with rfl | rfl | rfl | rfl | rfl | rfl | rfl | rfl | rfl
    all_goals
      clear hk
      go_enter Try.func15, Try.ntmps15
      go_wp2_with (go_at_call 52; refine (within_any _ _ _ _).mono ?_; rintro e w' ⟨rfl, rfl⟩)
      go_ret
      exact ⟨rfl, hE1⟩
set_option maxHeartbeats 1000000 in
theorem specCodeName_any (c : Int) (w : World) (lo : -9223372036854775808 ≤ c) (hi : c ≤ 9223372036854775807) :
    Calls Try.prog 14 #[.int .i64 c] w fun e w' => e = .returned (.string (SCodeName c)) ∧ Ext w w' := by
  have hE1 : Ext w (w.alloc (.cells #[.string ⟨#[111, 107]⟩, .string ⟨#[105, 110, 118, 97, 108, 105, 100]⟩, .string ⟨#[114, 97, 110, 103, 101]⟩, .string ⟨#[108, 105, 109, 105, 116]⟩, .string ⟨#[115, 116, 97, 116, 101]⟩, .string ⟨#[115, 121, 110, 116, 97, 120]⟩, .string ⟨#[110, 111, 116, 102, 111, 117, 110, 100]⟩, .string ⟨#[98, 117, 100, 103, 101, 116]⟩, .string ⟨#[112, 114, 111, 111, 102]⟩] 9)) := (Ext.refl' w).alloc (Nat.le_refl _) _
  cases h : inB c 0 8 with
  | false =>
    rw [show SCodeName c = ⟨#[]⟩ from by unfold SCodeName; rw [h]; rfl]
    go_enter Try.func14, Try.ntmps14
    go_wp2_with (go_at_call 51; refine (l00In_any _ _ _ _).mono ?_; rintro e w' ⟨rfl, rfl⟩)
    go_ret
    exact ⟨rfl, hE1⟩
  | true =>
    have hb := inB_iff.1 h
    obtain ⟨k, rfl⟩ := Int.eq_ofNat_of_zero_le hb.1
    have hk : k < 9 := by omega
    clear hb
    rw [show SCodeName (k : Int) = codeNames.getD k ⟨#[]⟩ from by unfold SCodeName; rw [h]; rfl]
    rcases (show k = 0 ∨ k = 1 ∨ k = 2 ∨ k = 3 ∨ k = 4 ∨ k = 5 ∨ k = 6 ∨ k = 7 ∨ k = 8 by omega) with rfl | rfl | rfl | rfl | rfl | rfl | rfl | rfl | rfl
    all_goals
      clear hk
      go_enter Try.func14, Try.ntmps14
      go_wp2_with (go_at_call 51; refine (l00In_any _ _ _ _).mono ?_; rintro e w' ⟨rfl, rfl⟩)
      go_ret
      exact ⟨rfl, hE1⟩
end Go.Proofs.Ytfmoekfeajfidaa
