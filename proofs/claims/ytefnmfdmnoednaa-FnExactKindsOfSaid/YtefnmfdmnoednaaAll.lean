
/- What is so of all lists of values: the program's allLists, with what its function value says of each. -/
import Derived.Test.YtefnmfdmnoednaaOpAt
import Derived.Test.YtefnmfdmnoednaaAt
namespace Go.Proofs.Ytefnmfdmnoednaa
open Go.RowKit
set_option linter.unusedVariables false

/-- a store into an owned row of numbers -/
theorem OI_store {w : World} {v : Value} {l : List Int} {fp : List Nat} (h : OI w v l fp) (k : Nat) (hk : k < l.length) (x : Int) :
    ∃ b cap, v = .slice (some ⟨b, 0, none⟩) l.length cap ∧ (∃ u, w.cell? ⟨b, k, none⟩ = some u) ∧ w.frozen? ⟨b, k, none⟩ = false ∧ b ∈ fp ∧ l.length ≤ cap ∧ cap ≤ 9223372036854775807 ∧ OI (w.setCell ⟨b, k, none⟩ (.int .i64 x)) v (l.set k x) fp := by
  obtain ⟨ho, hfp⟩ := h
  obtain ⟨a, b, cap, rfl, h1, h2, h3, h4, h5, -, -⟩ := own_parts ho
  obtain rfl := h4 (by omega)
  obtain ⟨u, hu⟩ := own_cell ho k hk
  refine ⟨b, cap, rfl, ⟨u, hu⟩, ho.frozenAt k, by rw [hfp]; simp [Value.ownBlock], h2, h3, ?_, hfp⟩
  have := (ho.stored k (.int .i64 x)).1
  rw [← List.map_set] at this
  rw [List.length_set]
  exact this

theorem digs_code (s : Int) (hs : 1 ≤ s) : ∀ (k : Nat) (n : Int), 0 ≤ n → n < s ^ k → code s (digs s k n) = n
  | 0, n, h0, h1 => by simp at h1; simp [digs, code]; omega
  | k + 1, n, h0, h1 => by
    have hq : n / s < s ^ k := Int.ediv_lt_of_lt_mul (by omega) (by rw [← Int.pow_succ]; exact h1)
    have hq0 : 0 ≤ n / s := Int.ediv_nonneg h0 (by omega)
    rw [digs, code_snoc, digs_code s hs k _ hq0 hq, Int.mul_comm]
    exact Int.mul_ediv_add_emod n s

def allL (s m : Int) (g : List Int → Bool) : Bool := (List.range (count s m)).all fun k : Nat => g (digs s m.toNat k)
theorem allL_false {s m : Int} {g : List Int → Bool} {k : Nat} (hk : k < count s m) (h : g (digs s m.toNat k) = false) : allL s m g = false := by
  unfold allL
  rw [List.all_eq_false]
  exact ⟨k, List.mem_range.2 hk, by simp [h]⟩
theorem allL_true {s m : Int} {g : List Int → Bool} (h : ∀ k : Nat, k < count s m → g (digs s m.toNat k) = true) : allL s m g = true := by
  unfold allL
  rw [List.all_eq_true]
  exact fun k hk => h k (List.mem_range.1 hk)

set_option maxHeartbeats 2000000 in
set_option maxRecDepth 100000 in
theorem allLists_any (s m : Int) (g : List Int → Bool) (f : FuncId) (first cap : Array Value) (w : World) (hs : 1 ≤ s) (hs2 : s ≤ 4) (hm : 1 ≤ m) (hm2 : m ≤ 4)
    (hcall : ∀ xs w, (callFunc f xs).run Try.prog w = .ok (.enter f xs) w)
    (hf : ∀ (k : Nat) u fp w', k < count s m → Ext w w' → OI w' u (digs s m.toNat k) fp → (∀ h ∈ fp, w.heap.size ≤ h) → Calls Try.prog f (first ++ #[u] ++ cap) w' fun e w'' => e = .returned (.bool (g (digs s m.toNat k))) ∧ Ext w w'') :
    Calls Try.prog 138 #[.int .i64 s, .int .i64 m, .func (.func f) first cap] w fun e w' => e = .returned (.bool (allL s m g)) ∧ Ext w w' := by
  have hN := count_eq s m hs hs2 hm hm2
  have hN2 := powW_small s m hs hs2 hm hm2
  have hN3 : count s m ≤ 256 := by omega
  have HN := Lib.hid hN
  have HF := Lib.hid hf
  clear hN hf
  go_enter Try.func138, Try.ntmps138
  go_wp2_with (go_at_call 91; refine (power_any _ _ _ (by omega)).mono ?_; rintro e w' ⟨rfl, rfl⟩)
  rw [← HN.out]
  go_loopw [11] (fun i wr => ∃ (k : Nat), k ≤ count s m ∧ i = .int .i64 k ∧ Ext w wr ∧ ∀ j : Nat, j < k → g (digs s m.toNat j) = true)
    (fun i _ => count s m - (intOf i).toNat)
  case atStart => exact ⟨0, by omega, rfl, Ext.refl' _, fun j hj => by omega⟩
  case round =>
    obtain ⟨k, hk, rfl, hE, hT⟩ := hrel
    have HT := Lib.hid hT
    clear hT
    by_cases hkl : k < count s m
    · go_wp2_with fail
      refine (listOf_any _ _ _ _ (by omega) (by omega) hs (by omega) (by omega) (by omega)).mono ?_
      rintro e w1 ⟨u, fp, rfl, hE1, ho, hfr⟩
      obtain ⟨ua, uc, rfl⟩ := ho.form
      have hC := HF.out k _ fp w1 hkl (hE.tr hE1) ho (fun h hh => by have := hfr h hh; have := hE.size; omega)
      cases hg : g (digs s m.toNat k) with
      | true =>
        rw [hg] at hC
        have HT2 := Lib.hid (show ∀ j : Nat, j < k + 1 → g (digs s m.toNat j) = true from fun j hj => if h : j = k then by rw [h]; exact hg else HT.out j (by omega))
        go_wp2_with fail
        refine hC.mono ?_
        rintro e w2 ⟨rfl, hE2⟩
        go_wp2_with fail
        go_roundw
        case rel => exact ⟨k + 1, by omega, by go_num, hE2, HT2.out⟩
        case measure => simp [intOf]; omega
      | false =>
        rw [hg] at hC
        have HA := Lib.hid (allL_false hkl hg)
        go_wp2_with fail
        refine hC.mono ?_
        rintro e w2 ⟨rfl, hE2⟩
        go_wp2_with fail
        go_ret
        exact ⟨ret_bool HA.out.symm, hE2⟩
    · go_wp2_with fail
      go_ret
      rw [allL_true (fun j hj => HT.out j (by omega))]
      exact ⟨rfl, hE⟩
end Go.Proofs.Ytefnmfdmnoednaa
