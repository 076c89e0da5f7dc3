/- How many lists of values there are. The relation of all tuples for which something is so: the program's relOf, with what its function value says of each tuple. -/
import Derived.Test.YtajkepdfemdagaaGreatDoorC04
import Derived.Test.YtajkepdfemdagaaGreatDoorC05
namespace Go.Proofs.YtajkepdfemdagaaGreatDoor
open Go.RowKit
set_option linter.unusedVariables false

def count (s m : Int) : Nat := (powW s m.toNat).toNat
theorem powW_small (s m : Int) (hs : 1 ≤ s) (hs2 : s ≤ 4) (hm : 1 ≤ m) (hm2 : m ≤ 4) : 1 ≤ powW s m.toNat ∧ powW s m.toNat ≤ 256 := by
  have h1 : s = 1 ∨ s = 2 ∨ s = 3 ∨ s = 4 := by omega
  have h2 : m = 1 ∨ m = 2 ∨ m = 3 ∨ m = 4 := by omega
  rcases h1 with rfl | rfl | rfl | rfl <;> rcases h2 with rfl | rfl | rfl | rfl <;> decide +kernel
theorem count_eq (s m : Int) (hs : 1 ≤ s) (hs2 : s ≤ 4) (hm : 1 ≤ m) (hm2 : m ≤ 4) : (count s m : Int) = powW s m.toNat := by
  have := powW_small s m hs hs2 hm hm2
  unfold count
  omega

end Go.Proofs.YtajkepdfemdagaaGreatDoor
namespace Go.Proofs.YtajkepdfemdagaaGreatDoor
open Go.RowKit
set_option linter.unusedVariables false

def allD (s m : Int) (p : List Int → Bool) (n : Nat) : List (List Int) := ((List.range n).map fun k : Nat => digs s m.toNat k).filter p
theorem allD_yes {s m : Int} {p : List Int → Bool} {k : Nat} (h : p (digs s m.toNat k) = true) : allD s m p (k + 1) = allD s m p k ++ [digs s m.toNat k] := by simp [allD, List.range_succ, List.filter_append, h]
theorem allD_no {s m : Int} {p : List Int → Bool} {k : Nat} (h : p (digs s m.toNat k) = false) : allD s m p (k + 1) = allD s m p k := by simp [allD, List.range_succ, List.filter_append, h]
theorem allD_length (s m : Int) (p : List Int → Bool) (n : Nat) : (allD s m p n).length ≤ n := by
  unfold allD
  exact Nat.le_trans (List.length_filter_le _ _) (by simp)
def SrelOf (s m : Int) (p : List Int → Bool) : Int × List (List Int) := (m, allD s m p (count s m))
theorem mkII_allD (s m : Int) (p : List Int → Bool) (n : Nat) : mkII (allD s m p n) ≤ n * m.toNat := by
  induction n with
  | zero => simp [allD, mkII]
  | succ n ih =>
    cases h : p (digs s m.toNat n) with
    | true =>
      rw [allD_yes h]
      have : ∀ (a b : List (List Int)), mkII (a ++ b) = mkII a + mkII b := by
        intro a b
        induction a with
        | nil => simp [mkII]
        | cons x xs ihx => simp only [List.cons_append, mkII, ihx]; omega
      rw [this]
      simp only [mkII, digs_length]
      rw [Nat.add_mul]
      omega
    | false =>
      rw [allD_no h, Nat.add_mul]
      omega
theorem mkRel_SrelOf {s m : Int} {p : List Int → Bool} (h1 : 1 ≤ s) (h2 : s ≤ 4) (h3 : 1 ≤ m) (h4 : m ≤ 4) : mkRel (SrelOf s m p) ≤ 1048576 := by
  have k1 := mkII_allD s m p (count s m)
  have k2 := powW_small s m h1 h2 h3 h4
  have k3 := count_eq s m h1 h2 h3 h4
  have k4 : count s m * m.toNat ≤ 256 * 4 := Nat.mul_le_mul (by omega) (by omega)
  show mkII (allD s m p (count s m)) ≤ _
  omega

theorem infoIS : (Tryz.prog.info? 37).map (fun i => (i.zero, i.size, i.bytes)) = some (some (.slice none 0 0), 1, 24) := by kernel_rfl
set_option maxHeartbeats 2000000 in
set_option maxRecDepth 100000 in
theorem relOf_any (s m : Int) (p : List Int → Bool) (f : FuncId) (first cap : Array Value) (w : World) (hs : 1 ≤ s) (hs2 : s ≤ 4) (hm : 1 ≤ m) (hm2 : m ≤ 4)
    (hcall : ∀ xs w, (callFunc f xs).run Tryz.prog w = .ok (.enter f xs) w)
    (hf : ∀ (k : Nat) u w', k < count s m → Ext w w' → RdI w' u (digs s m.toNat k) → Calls Tryz.prog f (first ++ #[u] ++ cap) w' fun e w'' => e = .returned (.bool (p (digs s m.toNat k))) ∧ Ext w' w'') :
    Calls Tryz.prog 55 #[.int .i64 s, .int .i64 m, .func (.func f) first cap] w fun e w' => ∃ u fp, e = .returned u ∧ Ext w w' ∧ OwnRel w' u (SrelOf s m p) fp ∧ ∀ h ∈ fp, w.heap.size ≤ h := by
  obtain ⟨i0, hi, hz0, hz1, hz2⟩ := info_parts infoIS
  have hN := count_eq s m hs hs2 hm hm2
  have hN2 := powW_small s m hs hs2 hm hm2
  have hN3 : count s m ≤ 256 := by omega
  have HN := Lib.hid hN
  have HF := Lib.hid hf
  clear hN hf
  go_enter Tryz.func55, Tryz.ntmps55
  go_wp2_with (go_at_call 76; refine (power_any _ _ _ (by omega)).mono ?_; rintro e w' ⟨rfl, rfl⟩)
  rw [← HN.out]
  go_loopw [15] (fun i wr => ∃ (k : Nat) (tv : Value) (fp : List Nat), k ≤ count s m ∧ i = .int .i64 k ∧ Ext w wr ∧ OII wr tv (allD s m p k) fp ∧ (∀ g ∈ fp, w.heap.size + 2 ≤ g) ∧
      wr.cell? ⟨w.heap.size + 1, 0, none⟩ = some (.int .i64 m) ∧ wr.cell? ⟨w.heap.size + 1, 1, none⟩ = some tv ∧ wr.frozen? ⟨w.heap.size + 1, 1, none⟩ = false ∧
      wr.cell? ⟨w.heap.size, 0, none⟩ = some (.int .i64 0) ∧ wr.cell? ⟨w.heap.size, 1, none⟩ = some (.slice none 0 0) ∧ wr.frozen? ⟨w.heap.size, 0, none⟩ = false ∧ wr.frozen? ⟨w.heap.size, 1, none⟩ = false)
    (fun i _ => count s m - (intOf i).toNat)
  case atStart =>
    refine ⟨0, .slice none 0 0, [], by omega, rfl, ((Ext.refl' w).alloc (Nat.le_refl _) _).alloc (by simp) _, OII_nil _, by simp, ?_, ?_, ?_, ?_, ?_, ?_, ?_⟩ <;> simp [go_sem]
  case round =>
    obtain ⟨k, tv, fp, hk, rfl, hE, ho, hfp, c0, c1, f1, d0, d1, f2, f3⟩ := hrel
    have q0 : w.heap.size < wr.heap.size := lt_of_cell d0
    have q1 : w.heap.size + 1 < wr.heap.size := lt_of_cell c0
    obtain ⟨va, vc, rfl⟩ := ho.form
    have hlen := allD_length s m p k
    by_cases hkl : k < count s m
    · go_wp2_with fail
      refine (listOf_any _ _ _ _ (by omega) (by omega) hs (by omega) (by omega) (by omega)).mono ?_
      rintro e w1 ⟨u, fx, rfl, hE1, hx, hfx⟩
      obtain ⟨ua, uc, rfl⟩ := hx.form
      have hC := HF.out k _ w1 hkl (hE.tr hE1) hx.rd
      have hd : ∀ g ∈ fx, g ∉ fp := fun g hg hm => by have := hfx g hg; have := ho.lt g hm; omega
      cases hp : p (digs s m.toNat k) with
      | false =>
        rw [hp] at hC
        have HD := Lib.hid (allD_no (m := m) hp)
        go_wp2_with fail
        refine (by simpa using hC : Calls _ _ _ _ _).mono ?_
        rintro e w2 ⟨rfl, hE2⟩
        have hEE := hE1.tr hE2
        replace ho := ho.ext hEE
        replace hE := hE.tr hEE
        replace f1 : w2.frozen? ⟨w.heap.size + 1, 1, none⟩ = false := by rw [(hEE).frozen (lt_of_cell c1)]; exact f1
        replace f2 : w2.frozen? ⟨w.heap.size, 0, none⟩ = false := by rw [(hEE).frozen (lt_of_cell d0)]; exact f2
        replace f3 : w2.frozen? ⟨w.heap.size, 1, none⟩ = false := by rw [(hEE).frozen (lt_of_cell d1)]; exact f3
        replace c0 := Ext.cell hEE c0
        replace c1 := Ext.cell hEE c1
        replace d0 := Ext.cell hEE d0
        replace d1 := Ext.cell hEE d1
        go_wp2_with fail
        go_roundw
        case rel => exact ⟨k + 1, _, fp, by omega, by go_num, hE, by rw [HD.out]; exact ho, hfp, c0, c1, f1, d0, d1, f2, f3⟩
        case measure => simp [intOf]; omega
      | true =>
        rw [hp] at hC
        have HD := Lib.hid (allD_yes (m := m) hp)
        go_wp2_with fail
        refine (by simpa using hC : Calls _ _ _ _ _).mono ?_
        rintro e w2 ⟨rfl, hE2⟩
        have hEE := hE1.tr hE2
        replace hx := hx.ext hE2
        replace ho := ho.ext hEE
        replace hE := hE.tr hEE
        replace f1 : w2.frozen? ⟨w.heap.size + 1, 1, none⟩ = false := by rw [(hEE).frozen (lt_of_cell c1)]; exact f1
        replace f2 : w2.frozen? ⟨w.heap.size, 0, none⟩ = false := by rw [(hEE).frozen (lt_of_cell d0)]; exact f2
        replace f3 : w2.frozen? ⟨w.heap.size, 1, none⟩ = false := by rw [(hEE).frozen (lt_of_cell d1)]; exact f3
        replace c0 := Ext.cell hEE c0
        replace c1 := Ext.cell hEE c1
        replace d0 := Ext.cell hEE d0
        replace d1 := Ext.cell hEE d1
        have hA : Ext w2 (w2.alloc (.cells #[.slice ua (digs s m.toNat k).length uc] 37)) := (Ext.refl' w2).alloc (Nat.le_refl _) _
        have q2 := hE.size
        have q3 : w.heap.size + 1 < w2.heap.size := lt_of_cell c0
        obtain ⟨cs, hrow, hin, hpush⟩ := OwnL.row eI_ok (ho.ext hA)
        have hrow2 := own_base (base' := w.heap.size + 2) hrow fun g hg => hfp g (hin g hg)
        go_wp2_with (at_builtin; refine wpList_append_own_at _ rfl _ _ 33 rfl (w.heap.size + 2) 37 i0 (.slice none 0 0) 1 24 Tryz.underlying33 hi hz0 hz1 hz2 rfl (by decide) _ _ _ rfl hrow2 ⟨w2.heap.size, 0, none⟩ 1 1 [.slice ua (digs s m.toNat k).length uc] rfl rfl (cells_one (by simp [go_sem])) (by simp [Value.oneCell']) (by unfold maxLen; omega) (by omega) (by simp; omega) ?_)
        intro v' w4 ho4 hg4 _ hat
        obtain ⟨fp', hL, hfp'⟩ := hpush ⟨_, rfl, hx.ext hA⟩ rfl hd ho4 hg4 (by rw [World.size_alloc]; exact hat)
        rw [← HD.out] at hL
        have hf4 : ∀ g ∈ fp', w.heap.size + 2 ≤ g := fun g hg => by
          rcases hfp' g hg with h | h | h
          · exact hfp g h
          · have := hfx g h
            omega
          · rw [h]
            simp
            omega
        have hE4 := (hE.tr hA).grown hg4 (by simp; omega) (fun g hg => by have := hfp g (hin g hg); omega)
        obtain ⟨wa, wc, rfl⟩ := hL.form
        have n0 : some (w.heap.size + 1) ≠ Value.ownBlock (.slice va (allD s m p k).length vc) := fun h => by have := hfp _ (hin _ h.symm); omega
        have n1 : some w.heap.size ≠ Value.ownBlock (.slice va (allD s m p k).length vc) := fun h => by have := hfp _ (hin _ h.symm); omega
        replace c0 := hg4.cell (hA.cell c0) n0
        replace c1 := hg4.cell (hA.cell c1) n0
        replace d0 := hg4.cell (hA.cell d0) n1
        replace d1 := hg4.cell (hA.cell d1) n1
        replace f1 : w4.frozen? ⟨w.heap.size + 1, 1, none⟩ = false := by rw [grown_frozen hg4 (by simp; omega) n0, hA.frozen (by dsimp only; omega)]; exact f1
        replace f2 : w4.frozen? ⟨w.heap.size, 0, none⟩ = false := by rw [grown_frozen hg4 (by simp; omega) n1, hA.frozen (by dsimp only; omega)]; exact f2
        replace f3 : w4.frozen? ⟨w.heap.size, 1, none⟩ = false := by rw [grown_frozen hg4 (by simp; omega) n1, hA.frozen (by dsimp only; omega)]; exact f3
        have hL2 := hL
        clear ho hE hg4 hA hrow hrow2 hpush ho4 n0 n1 hx hL q0 q1
        go_wp2_with fail
        go_roundw
        case rel =>
          exact ⟨k + 1, _, fp', by omega, by go_num, hE4.setCell (by simp) _, OII.set hL2 (fun hm => by have := hf4 _ hm; dsimp only at this; omega) _, hf4,
            cell_set c0 (by simp), cell_same c1, by simpa using f1, cell_set d0 (by simp), cell_set d1 (by simp), by simpa using f2, by simpa using f3⟩
        case measure => simp [intOf]; omega
    · have hkk : k = count s m := by omega
      subst hkk
      go_wp2_with fail
      have b1 : (⟨w.heap.size, 0, none⟩ : Addr).block ∉ fp := fun hm => by have := hfp _ hm; simp at this; omega
      have ho3 := OII.set (OII.set ho (p := ⟨w.heap.size, 0, none⟩) b1 (.int .i64 m)) (p := ⟨w.heap.size, 1, none⟩) b1 (.slice va (allD s m p (count s m)).length vc)
      exact bodyPost_ret (v := .agg #[.int .i64 m, .slice va (allD s m p (count s m)).length vc]) (by simp [results, Tryz.results55, go_sem, d0, d1]) rfl
        ⟨_, fp, rfl, (hE.setCell (by simp) _).setCell (by simp) _, ⟨_, rfl, ho3⟩, fun h hh => by have := hfp h hh; omega⟩
end Go.Proofs.YtajkepdfemdagaaGreatDoor
