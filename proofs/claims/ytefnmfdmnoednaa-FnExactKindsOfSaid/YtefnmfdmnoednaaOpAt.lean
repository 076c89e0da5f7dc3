
/- The value of a list under an operation. -/
import Derived.Test.YtefnmfdmnoednaaCode
import Derived.Test.YtefnmfdmnoednaaOpV
import Derived.Test.YtefnmfdmnoednaaOpOf
namespace Go.Proofs.Ytefnmfdmnoednaa
open Go.RowKit
set_option linter.unusedVariables false

def apply (s : Int) (f : Int × List Int) (l : List Int) : Int := f.2.getD (code s l).toNat 0

theorem valid_iff {s : Int} {f : Int × List Int} : SValidOp s f = true ↔ (1 ≤ s ∧ s ≤ 4) ∧ (1 ≤ f.1 ∧ f.1 ≤ 3) ∧ (f.2.length : Int) = powW s f.1.toNat ∧ ∀ a ∈ f.2, 0 ≤ a ∧ a < s := by
  unfold SValidOp
  rw [Bool.and_eq_true, Bool.and_eq_true, inB_iff, inB_iff, vals_iff]
theorem powW_eq (s : Int) (n : Nat) (hs : 1 ≤ s) (hs2 : s ≤ 4) (hn : n ≤ 4) : powW s n = s ^ n := by
  have h1 : s = 1 ∨ s = 2 ∨ s = 3 ∨ s = 4 := by omega
  have h2 : n = 0 ∨ n = 1 ∨ n = 2 ∨ n = 3 ∨ n = 4 := by omega
  rcases h1 with rfl | rfl | rfl | rfl <;> rcases h2 with rfl | rfl | rfl | rfl | rfl <;> decide +kernel
/-- the number of a list of values is an index of the table -/
theorem code_lt {s : Int} {f : Int × List Int} {l : List Int} (hf : SValidOp s f = true) (hl : (l.length : Int) = f.1) (hv : ∀ a ∈ l, 0 ≤ a ∧ a < s) : 0 ≤ code s l ∧ code s l < f.2.length := by
  obtain ⟨h1, h2, h3, h4⟩ := valid_iff.1 hf
  have := code_bd s l (by omega) hv l.length (Nat.le_refl _)
  rw [List.take_length] at this
  rw [h3, powW_eq s _ h1.1 h1.2 (by omega), show f.1.toNat = l.length by omega]
  exact this
theorem apply_val {s : Int} {f : Int × List Int} {l : List Int} (hf : SValidOp s f = true) (hl : (l.length : Int) = f.1) (hv : ∀ a ∈ l, 0 ≤ a ∧ a < s) : 0 ≤ apply s f l ∧ apply s f l < s := by
  have hc := code_lt hf hl hv
  obtain ⟨_, _, _, h4⟩ := valid_iff.1 hf
  unfold apply
  have hk : (code s l).toNat < f.2.length := by omega
  rw [List.getD_eq_getElem?_getD, List.getElem?_eq_getElem hk]
  exact h4 _ (List.getElem_mem hk)

set_option maxHeartbeats 1000000 in
theorem opAt_any (s : Int) (f : Int × List Int) (v : Value) (l : List Int) (u : Value) (w : World) (hr : RdOp w v f) (hs : RdI w u l) (hf : SValidOp s f = true) (hl : (l.length : Int) = f.1) (hv : ∀ a ∈ l, 0 ≤ a ∧ a < s) :
    Calls Try.prog 140 #[v, .int .i64 s, u] w fun e w' => e = .returned (.int .i64 (apply s f l)) ∧ Ext w w' := by
  obtain ⟨tv, rfl, hr⟩ := hr
  have hE : Ext w (w.alloc (.cells #[.int .i64 f.1, tv] 49)) := (Ext.refl' w).alloc (Nat.le_refl _) _
  have hs := hs.ext hE
  obtain ⟨a, b, off, c, rfl, hlc, hcm, ha, hc⟩ := hr.ext hE
  have hb := (valid_iff.1 hf)
  obtain ⟨k1, k2⟩ := code_lt hf hl hv
  obtain rfl := ha (by omega)
  have hk : (code s l).toNat < f.2.length := by omega
  have hck := hc _ hk
  have HA := Lib.hid (show apply s f l = f.2[(code s l).toNat] from by unfold apply; rw [List.getD_eq_getElem?_getD, List.getElem?_eq_getElem hk]; rfl)
  have hb1 := hb.1
  have hb2 := hb.2.1
  clear hb hc
  go_enter Try.func140, Try.ntmps140
  go_wp2_with fail
  go_quiet ((go_at_call 176; exact Calls.qs (indexOf_any _ _ _ _ (hs.ext (Qt.ext ⟨_, rfl⟩)) (by omega) (by omega) (by omega) hv)))
  go_wp2_with fail
  go_ret
  exact ⟨ret_int HA.out.symm, hE.tr (Qt.ext ⟨_, rfl⟩)⟩

set_option maxHeartbeats 1000000 in
theorem l02Value_any (s : Int) (f : Int × List Int) (p : Value) (l : List Int) (u : Value) (w : World) (hr : PtOp w p f) (hs : RdI w u l) (hf : SValidOp s f = true) (hl : (l.length : Int) = f.1) (hv : ∀ a ∈ l, 0 ≤ a ∧ a < s) :
    Calls Try.prog 172 #[.int .i64 s, p, u] w fun e w' => e = .returned (.int .i64 (apply s f l)) ∧ Qt w w' := by
  obtain ⟨b0, off0, tv, rfl, c0, c1, hr⟩ := hr
  obtain ⟨a, b, off, c, rfl, hlc, hcm, ha, hc⟩ := hr
  have hb := (valid_iff.1 hf)
  obtain ⟨k1, k2⟩ := code_lt hf hl hv
  obtain rfl := ha (by omega)
  have hk : (code s l).toNat < f.2.length := by omega
  have hck := hc _ hk
  have HA := Lib.hid (show apply s f l = f.2[(code s l).toNat] from by unfold apply; rw [List.getD_eq_getElem?_getD, List.getElem?_eq_getElem hk]; rfl)
  have hb1 := hb.1
  have hb2 := hb.2.1
  clear hb hc
  go_enter Try.func172, Try.ntmps172
  go_wp2_with fail
  go_quiet ((go_at_call 115; exact Calls.qs (l01Code_any _ _ _ _ (hs.ext (Qt.ext ⟨_, rfl⟩)) (by omega) (by omega) (by omega) hv)))
  go_wp2_with fail
  go_ret
  exact ⟨ret_int HA.out.symm, _, rfl⟩
end Go.Proofs.Ytefnmfdmnoednaa
