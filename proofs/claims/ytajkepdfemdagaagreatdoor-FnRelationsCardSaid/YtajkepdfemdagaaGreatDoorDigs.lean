
/- The list of digits of a number; the number of a list. -/
import Derived.Test.YtajkepdfemdagaaGreatDoorVals
namespace Go.Proofs.YtajkepdfemdagaaGreatDoor
open Go.RowKit
set_option linter.unusedVariables false

/-- so many digits of n, the last one last -/
def digs (s : Int) : Nat → Int → List Int
  | 0, _ => []
  | k + 1, n => digs s k (n / s) ++ [n % s]
theorem digs_length (s : Int) : ∀ k n, (digs s k n).length = k
  | 0, _ => rfl
  | k + 1, n => by simp [digs, digs_length s k]
theorem digs_val (s : Int) (hs : 1 ≤ s) : ∀ k n, 0 ≤ n → ∀ a ∈ digs s k n, 0 ≤ a ∧ a < s
  | 0, _, _, a, ha => by simp [digs] at ha
  | k + 1, n, hn, a, ha => by
    simp only [digs, List.mem_append, List.mem_singleton] at ha
    rcases ha with ha | rfl
    · exact digs_val s hs k (n / s) (Int.ediv_nonneg hn (by omega)) a ha
    · exact ⟨Int.emod_nonneg _ (by omega), Int.emod_lt_of_pos _ (by omega)⟩
/-- the number of a list -/
def code (s : Int) (l : List Int) : Int := l.foldl (fun n a => n * s + a) 0
theorem code_snoc (s : Int) (l : List Int) (a : Int) : code s (l ++ [a]) = code s l * s + a := by simp [code]

theorem fill_down {l : List Value} {z x : Value} {k : Nat} :
    (List.replicate (k + 1) z ++ l).set k x = List.replicate k z ++ (x :: l) := by
  rw [List.set_append_left _ _ (by simp), List.replicate_succ', List.set_append_right _ _ (by simp)]
  simp

set_option maxHeartbeats 1000000 in
theorem listOf_any (s m i : Int) (w : World) (hm : 0 ≤ m) (hm2 : m ≤ 1048576) (hs : 1 ≤ s) (hs2 : s ≤ 9223372036854775807) (hi0 : 0 ≤ i) (hi2 : i ≤ 9223372036854775807) :
    Calls Tryz.prog 77 #[.int .i64 s, .int .i64 m, .int .i64 i] w fun e w' => ∃ u fp, e = .returned u ∧ Ext w w' ∧ OI w' u (digs s m.toNat i) fp ∧ ∀ g ∈ fp, w.heap.size ≤ g := by
  obtain ⟨n, rfl⟩ := Int.eq_ofNat_of_zero_le hm
  obtain ⟨i0, hi, hz0, hz1, hz2⟩ := info_parts infoI
  rw [Int.toNat_natCast]
  go_enter Tryz.func77, Tryz.ntmps77
  go_wp2_with (at_make; refine wpList_make_full _ rfl _ _ 37 rfl 0 2 i0 (.int .i64 0) 1 Tryz.underlying37 hi hz0 hz1 _ _ _ _ n rfl rfl rfl rfl (by rw [hz2]; omega) (by unfold maxLen; omega) (by omega) ?_)
  intro w1 hown hgr
  go_wp2_with fail
  go_loopw [2, 8] (fun q j wr => ∃ (k : Nat) (x : Int) (D : List Int), k ≤ n ∧ j = .int .i64 ((k : Int) - 1) ∧ q = .int .i64 x ∧ 0 ≤ x ∧ x ≤ 9223372036854775807 ∧ Ext w wr ∧ w.heap.size < wr.heap.size ∧
      Hid (k + D.length = n ∧ digs s n i = digs s k x ++ D) ∧ wr.ownsRow 0 2 1 (.slice (some ⟨w.heap.size, 0, none⟩) n n) n (List.replicate k (.int .i64 0) ++ D.map (Value.int .i64)))
    (fun _ j _ => (intOf j + 1).toNat)
  case atStart =>
    refine ⟨n, i, [], by omega, rfl, rfl, hi0, hi2, ?_, ?_, ⟨by simp, by simp⟩, ?_⟩
    · exact (Ext.refl' w).grown hgr (Nat.le_refl _) (by simp)
    · exact (hown.lt _ rfl).2
    · simpa [Value.cells, toList_madeCells_one] using hown
  case round =>
    obtain ⟨k, x, D, hk, rfl, rfl, hx0, hx2, hE, hlt, hD, ho⟩ := hrel
    by_cases hk0 : k = 0
    · subst hk0
      go_wp2_with fail
      go_ret
      obtain ⟨hD1, hD2⟩ := hD.out
      have hh : digs s n i = D := by rw [hD2]; rfl
      refine ⟨_, _, rfl, hE, ⟨?_, rfl⟩, by simp [Value.ownBlock]⟩
      rw [hh]
      have : D.length = n := by omega
      simpa [this] using ho
    · obtain ⟨k', rfl⟩ : ∃ k', k = k' + 1 := ⟨k - 1, by omega⟩
      obtain ⟨u, hu⟩ := own_cell ho k' (by omega)
      have hfz := ho.frozenAt k'
      have hst := (ho.stored k' (.int .i64 (x % s))).1
      rw [fill_down] at hst
      have hE2 := hE.setCell (p := ⟨w.heap.size, k', none⟩) (Nat.le_refl _) (.int .i64 (x % s))
      have hq := IntWalk.tdiv_le x s hx0 hs
      have hkk : ((k' + 1 : Nat) : Int) - 1 = (k' : Int) := by omega
      rw [hkk]
      have hH : Hid (k' + (x % s :: D).length = n ∧ digs s n i = digs s k' (x / s) ++ (x % s :: D)) := ⟨by have := hD.out.1; simp; omega, by rw [hD.out.2]; simp [digs]⟩
      clear hD hkk
      have hge : (0 : Int) ≤ (k' : Int) := by omega
      go_wp2_with fail
      go_roundw
      case rel => exact ⟨k', x / s, x % s :: D, by omega, by go_num, rfl, hq.1, by omega, hE2, by simpa using hlt, hH, by simpa using hst⟩
      case measure => simp [intOf]
set_option maxHeartbeats 1000000 in
theorem l01Digits_any (s m i : Int) (w : World) (hm : 0 ≤ m) (hm2 : m ≤ 1048576) (hs : 1 ≤ s) (hs2 : s ≤ 9223372036854775807) (hi0 : 0 ≤ i) (hi2 : i ≤ 9223372036854775807) :
    Calls Tryz.prog 90 #[.int .i64 s, .int .i64 m, .int .i64 i] w fun e w' => ∃ u fp, e = .returned u ∧ Ext w w' ∧ OI w' u (digs s m.toNat i) fp ∧ ∀ g ∈ fp, w.heap.size ≤ g := by
  obtain ⟨n, rfl⟩ := Int.eq_ofNat_of_zero_le hm
  obtain ⟨i0, hi, hz0, hz1, hz2⟩ := info_parts infoI
  rw [Int.toNat_natCast]
  go_enter Tryz.func90, Tryz.ntmps90
  go_wp2_with (at_make; refine wpList_make_full _ rfl _ _ 37 rfl 0 2 i0 (.int .i64 0) 1 Tryz.underlying37 hi hz0 hz1 _ _ _ _ n rfl rfl rfl rfl (by rw [hz2]; omega) (by unfold maxLen; omega) (by omega) ?_)
  intro w1 hown hgr
  go_wp2_with fail
  go_loopw [2, 8] (fun q j wr => ∃ (k : Nat) (x : Int) (D : List Int), k ≤ n ∧ j = .int .i64 ((k : Int) - 1) ∧ q = .int .i64 x ∧ 0 ≤ x ∧ x ≤ 9223372036854775807 ∧ Ext w wr ∧ w.heap.size < wr.heap.size ∧
      Hid (k + D.length = n ∧ digs s n i = digs s k x ++ D) ∧ wr.ownsRow 0 2 1 (.slice (some ⟨w.heap.size, 0, none⟩) n n) n (List.replicate k (.int .i64 0) ++ D.map (Value.int .i64)))
    (fun _ j _ => (intOf j + 1).toNat)
  case atStart =>
    refine ⟨n, i, [], by omega, rfl, rfl, hi0, hi2, ?_, ?_, ⟨by simp, by simp⟩, ?_⟩
    · exact (Ext.refl' w).grown hgr (Nat.le_refl _) (by simp)
    · exact (hown.lt _ rfl).2
    · simpa [Value.cells, toList_madeCells_one] using hown
  case round =>
    obtain ⟨k, x, D, hk, rfl, rfl, hx0, hx2, hE, hlt, hD, ho⟩ := hrel
    by_cases hk0 : k = 0
    · subst hk0
      go_wp2_with fail
      go_ret
      obtain ⟨hD1, hD2⟩ := hD.out
      have hh : digs s n i = D := by rw [hD2]; rfl
      refine ⟨_, _, rfl, hE, ⟨?_, rfl⟩, by simp [Value.ownBlock]⟩
      rw [hh]
      have : D.length = n := by omega
      simpa [this] using ho
    · obtain ⟨k', rfl⟩ : ∃ k', k = k' + 1 := ⟨k - 1, by omega⟩
      obtain ⟨u, hu⟩ := own_cell ho k' (by omega)
      have hfz := ho.frozenAt k'
      have hst := (ho.stored k' (.int .i64 (x % s))).1
      rw [fill_down] at hst
      have hE2 := hE.setCell (p := ⟨w.heap.size, k', none⟩) (Nat.le_refl _) (.int .i64 (x % s))
      have hq := IntWalk.tdiv_le x s hx0 hs
      have hkk : ((k' + 1 : Nat) : Int) - 1 = (k' : Int) := by omega
      rw [hkk]
      have hH : Hid (k' + (x % s :: D).length = n ∧ digs s n i = digs s k' (x / s) ++ (x % s :: D)) := ⟨by have := hD.out.1; simp; omega, by rw [hD.out.2]; simp [digs]⟩
      clear hD hkk
      have hge : (0 : Int) ≤ (k' : Int) := by omega
      go_wp2_with fail
      go_roundw
      case rel => exact ⟨k', x / s, x % s :: D, by omega, by go_num, rfl, hq.1, by omega, hE2, by simpa using hlt, hH, by simpa using hst⟩
      case measure => simp [intOf]
end Go.Proofs.YtajkepdfemdagaaGreatDoor
