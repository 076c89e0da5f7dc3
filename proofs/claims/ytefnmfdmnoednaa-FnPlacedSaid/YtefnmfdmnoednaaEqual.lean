
/- EqualRel: the program's and the reference's give one function's answers. -/
import Derived.Test.YtefnmfdmnoednaaFull
namespace Go.Proofs.Ytefnmfdmnoednaa
open Go.RowKit
set_option linter.unusedVariables false

def eqP (t : List Int) : Bool := t.getD 0 0 == t.getD 1 0
def SEqualRel (s : Int) : (Int × List (List Int)) × Int := if inB s 1 4 then (SrelOf s 2 eqP, 0) else (noRel, 1)
def pairsE (n : Nat) : List (List Int) := (List.range n).map fun k : Nat => [(k : Int), (k : Int)]
theorem pairsE_succ (n : Nat) : pairsE (n + 1) = pairsE n ++ [[(n : Int), (n : Int)]] := by simp [pairsE, List.range_succ]
theorem pairsE_length (n : Nat) : (pairsE n).length = n := by simp [pairsE]
theorem pairsE_eq (s : Int) (h1 : 1 ≤ s) (h2 : s ≤ 4) : (2, pairsE s.toNat) = SrelOf s 2 eqP := by
  have h : s = 1 ∨ s = 2 ∨ s = 3 ∨ s = 4 := by omega
  rcases h with rfl | rfl | rfl | rfl <;> decide +kernel

theorem len_two {α : Type} : ∀ {l : List α}, l.length = 2 → ∃ x y, l = [x, y]
  | [x, y], _ => ⟨x, y, rfl⟩
theorem len_three {α : Type} : ∀ {l : List α}, l.length = 3 → ∃ x y z, l = [x, y, z]
  | [x, y, z], _ => ⟨x, y, z, rfl⟩

set_option maxHeartbeats 1000000 in
theorem implEqualRel_any (s : Int) (w : World) (lo0 : -9223372036854775808 ≤ s) (hi0 : s ≤ 9223372036854775807) :
    Calls Try.prog 56 #[.int .i64 s] w (RelRes (SEqualRel s) w) := by
  have hE1 : Ext w (w.alloc (.cells #[.int .i64 0, .slice none 0 0] 25)) := (Ext.refl' w).alloc (Nat.le_refl _) _
  cases h1 : inB s 1 4 with
  | false =>
    rw [show SEqualRel s = (noRel, 1) from by unfold SEqualRel; rw [h1]; rfl]
    go_enter Try.func56, Try.ntmps56
    go_wp2_with (go_at_call 65; refine (isSize_any _ _).mono ?_; rintro e w' ⟨rfl, rfl⟩)
    exact bodyPost_ret (v := .tuple #[.agg #[.int .i64 0, .slice none 0 0], .int .i64 1]) (by simp [results, Try.results56, go_sem]) rfl (RelRes.no hE1)
  | true =>
    have hb1 := inB_iff.1 h1
    rw [show SEqualRel s = (SrelOf s 2 eqP, 0) from by unfold SEqualRel; rw [h1]; rfl]
    have hmk := mkRel_SrelOf (p := eqP) hb1.1 hb1.2 (show 1 ≤ (2 : Int) by omega) (by omega)
    go_enter Try.func56, Try.ntmps56
    go_wp2_with (go_at_call 65; refine (isSize_any _ _).mono ?_; rintro e w' ⟨rfl, rfl⟩)
    refine (relOf_any s 2 eqP 112 #[] #[] _ hb1.1 hb1.2 (by omega) (by omega) Try.call112 ?_).mono ?_
    · intro k x w' _ hE' hx
      have hl := digs_length s (2 : Int).toNat k
      have HP := Lib.hid (show eqP (digs s (2 : Int).toNat k) = ((digs s (2 : Int).toNat k).getD 0 0 == (digs s (2 : Int).toNat k).getD 1 0) from rfl)
      generalize digs s (2 : Int).toNat k = l at hx hl HP
      obtain ⟨a, b, off, c, rfl, hlc, hcm, ha, hc⟩ := hx
      obtain ⟨x0, x1, rfl⟩ : ∃ x0 x1, l = [x0, x1] := len_two hl
      obtain rfl := ha (by simp)
      have hc0 : w'.cell? ⟨b, off, none⟩ = some (.int .i64 x0) := by simpa using hc 0 (by simp)
      have hc1 : w'.cell? ⟨b, off + 1, none⟩ = some (.int .i64 x1) := by simpa using hc 1 (by simp)
      clear hc
      simp only [List.append_toArray, List.nil_append, List.append_nil]
      clear hl
      go_enter Try.func112, Try.ntmps112
      go_wp2_with fail
      go_quiet (fail)
      go_wp2_with fail
      go_ret
      exact ⟨ret_bool (by rw [HP.out]; rfl), Qt.ext ⟨_, rfl⟩⟩
    rintro e w3 ⟨u, fp, rfl, hE3, hr3, hfr⟩
    obtain ⟨ua, uc, rfl⟩ := hr3.form
    have hE := hE3
    have d0 := hE.cell (p := ⟨w.heap.size, 0, none⟩) (v := .int .i64 0) (by simp [go_sem])
    have d1 := hE.cell (p := ⟨w.heap.size, 1, none⟩) (v := .slice none 0 0) (by simp [go_sem])
    have f2 := hE.frozen (p := ⟨w.heap.size, 0, none⟩) (by simp)
    have f3 := hE.frozen (p := ⟨w.heap.size, 1, none⟩) (by simp)
    simp [go_sem] at f2 f3
    replace hE := hE1
    have q0 := hE.size
    simp at q0
    have hfr : ∀ h ∈ fp, w.heap.size + 1 ≤ h := fun g hg => by have := hfr g hg; simpa using this
    go_wp2_with fail
    exact bodyPost_ret (v := .tuple #[.agg #[.int .i64 (SrelOf s 2 eqP).1, .slice ua (SrelOf s 2 eqP).2.length uc], .int .i64 0]) (by simp [results, Try.results56, go_sem, d0, d1]; try rfl) rfl
      (RelRes.of rfl (((hE.tr hE3).setCell (by simp <;> omega) _).setCell (by simp <;> omega) _) (hr3.off ((Off.set (fp := [w.heap.size]) (by simp)).trans (Off.set (by simp))) (fun h hh hm => by have := hfr h hh; simp at hm; (try dsimp only at q0); omega)) (fun h hh => by have := hfr h hh; have := hE.size; omega) hmk)
end Go.Proofs.Ytefnmfdmnoednaa
