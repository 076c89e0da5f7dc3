/- Numbers sorted, made different, looked for: by the library's contracts; the program's rising. Rows of cells made two by two. -/
import Derived.Test.YtajkepdfemdagaaGreatDoorC20
import Derived.Test.YtajkepdfemdagaaGreatDoorC09
import Derived.Test.YtajkepdfemdagaaGreatDoorShelf
import Derived.Sort.OwnSortedInts
import Derived.Test.YtajkepdfemdagaaGreatDoorC03
import Derived.Test.YtajkepdfemdagaaGreatDoorC02
namespace Go.Proofs.YtajkepdfemdagaaGreatDoor
open Go.RowKit
set_option linter.unusedVariables false

/-- an owned row of numbers, sorted where it lies -/
theorem sort_any (l : List Int) (u : Value) (fp : List Nat) (w : World) (ho : OI w u l fp) (h0 : 0 < l.length) (hl : l.length ≤ 1048576) :
    Calls Tryz.prog 128 #[u] w fun e w' => e = .returned (.tuple #[]) ∧ Off fp w w' ∧ OI w' u (sortI l) fp := by
  obtain ⟨ho, rfl⟩ := ho
  rcases id ho.2 with ⟨_, hn⟩ | ⟨g, cap, cur, rfl, hbase, hg, hn, hm, hs, ht⟩
  · omega
  · refine (Tryz.slices_Sort_int g 0 cap l w (holds_of_blockI hg (by simpa using ht)) (own_lt ho g rfl) (by omega)).mono ?_
    rintro e w' ⟨rfl, n, os, rfl⟩
    have hG := grownBy_sortedI (w := w) (g := g) (n := n) (os := os) (sortI l).toArray
    have hR := ownsRow_sortedI (n := n) (os := os) (base := 0) (ts := sortI l) (sortI_length l) (Nat.zero_le g) hg hn hm hs
    refine ⟨rfl, ⟨hG.os, hG.tape, hG.output, hG.size, fun k hk hnk => hG.block k hk fun h => hnk (by cases h; simp [Value.ownBlock])⟩, ?_, rfl⟩
    rw [sortI_length]
    exact hR
theorem compact_len (zs : List Int) : (Lib.compact zs).length ≤ zs.length := by
  unfold Lib.compact Lib.compactUpTo
  rw [List.length_map]
  exact Nat.le_trans (List.length_filter_le _ _) (by simp)
theorem grow_nil (w : World) : Go.Sort.grow w #[] = w := by simp [Go.Sort.grow]
theorem compact_any (l : List Int) (u : Value) (fp : List Nat) (w : World) (ho : OI w u l fp) (h0 : 0 < l.length) (hl : l.length ≤ 1048576) :
    Calls Tryz.prog 129 #[u] w fun e w' => ∃ v, e = .returned v ∧ Off fp w w' ∧ OI w' v (Lib.compact l) fp := by
  obtain ⟨ho, rfl⟩ := ho
  rcases id ho.2 with ⟨_, hn⟩ | ⟨g, cap, cur, rfl, hbase, hg, hn, hm, hs, ht⟩
  · omega
  · have hcl := compact_len l
    refine (Tryz.slices_Compact_int g 0 cap l w (holds_of_blockI hg (by simpa using ht)) (by omega) hn).mono ?_
    rintro e w' ⟨rfl, q, rfl⟩
    generalize hts : Lib.compact l ++ List.replicate (l.length - (Lib.compact l).length) 0 = ts
    have htl : ts.length = l.length := by rw [← hts]; simp; omega
    have hG := grownBy_sortedI (w := w) (g := g) (n := q) (os := #[]) ts.toArray
    have hR := ownsRow_sortedI (n := q) (os := #[]) (base := 0) (ts := ts) htl (Nat.zero_le g) hg hn hm hs
    rw [show Go.Sort.grow (Go.Sort.putRow (Value.int .i64) (Go.Sort.ahead w q) g 0 ts.toArray) #[] = Go.Sort.putRow (Value.int .i64) (Go.Sort.ahead w q) g 0 ts.toArray from by apply grow_nil] at hG hR
    refine ⟨_, rfl, ⟨hG.os, hG.tape, hG.output, hG.size, fun k hk hnk => hG.block k hk fun h => hnk (by cases h; simp [Value.ownBlock])⟩, ?_, rfl⟩
    rcases hR.2 with ⟨h', _⟩ | ⟨g', cap', cur', h', hbase', hg', hn', hm', hs', ht'⟩
    · cases h'
    · cases h'
      refine ⟨by simp, .inr ⟨g, cap, cur', rfl, Nat.zero_le _, hg', by omega, hm', hs', ?_⟩⟩
      have := congrArg (List.take (Lib.compact l).length) ht'
      rw [List.take_take, Nat.mul_one, Nat.min_eq_left (by omega)] at this
      rw [Nat.mul_one, this, ← hts, List.map_append, List.take_left' (by simp)]
set_option maxHeartbeats 1000000 in
theorem rising_any (l : List Int) (v : Value) (w : World) (hr : RdI w v l) (h0 : 0 < l.length) (hl : l.length ≤ 1048576) :
    Calls Tryz.prog 78 #[v] w fun e w' => ∃ u fp, e = .returned u ∧ Ext w w' ∧ OI w' u (riseL l) fp ∧ ∀ g ∈ fp, w.heap.size ≤ g := by
  obtain ⟨va, vc, rfl⟩ := hr.form
  have HL := Lib.hid (sortI_length l)
  have hl1 : 0 < (sortI l).length := by rw [HL.out]; exact h0
  have hl2 : (sortI l).length ≤ 1048576 := by rw [HL.out]; exact hl
  have HL1 := Lib.hid hl1
  have HL2 := Lib.hid hl2
  clear hl1 hl2
  go_enter Tryz.func78, Tryz.ntmps78
  go_wp2_with fail
  refine (clone_any _ _ _ hr h0 hl).mono ?_
  rintro e w1 ⟨u, fp, rfl, hE, ho, hfp⟩
  obtain ⟨ua, uc, rfl⟩ := ho.form
  go_wp2_with fail
  refine (sort_any l _ fp _ ho h0 hl).mono ?_
  rintro e w2 ⟨rfl, hO, ho2⟩
  have hE2 : Ext w w2 := Below.trans hE (hO.below hE.size hfp)
  go_wp2_with fail
  refine (compact_any (sortI l) _ fp _ ho2 HL1.out HL2.out).mono ?_
  rintro e w3 ⟨u3, rfl, hO3, ho3⟩
  have hE3 : Ext w w3 := Below.trans hE2 (hO3.below hE2.size hfp)
  obtain ⟨ua', uc', rfl⟩ := ho3.form
  go_wp2_with fail
  go_ret
  exact ⟨_, fp, rfl, hE3, ho3, hfp⟩

/-! ### looking for a number -/
set_option maxHeartbeats 1000000 in
theorem indexI_any (l : List Int) (v : Value) (x : Int) (w : World) (hr : RdI w v l) :
    Calls Tryz.prog 132 #[v, .int .i64 x] w fun e w' => e = .returned (.int .i64 (idx (fun a => decide (a = x)) l)) ∧ Ext w w' := by
  obtain ⟨a, b, off, c, rfl, hlc, hcm, ha, hc⟩ := hr
  go_enter Tryz.func132, Tryz.ntmps132
  go_wp2_with fail
  go_loopw [8] (fun i wr => ∃ k : Nat, k ≤ l.length ∧ i = .int .i64 k ∧ Ext w wr ∧ (l.take k).any (fun a => decide (a = x)) = false) (fun i _ => l.length - (intOf i).toNat)
  case atStart => exact ⟨0, by omega, rfl, Ext.refl' _, rfl⟩
  case round =>
    obtain ⟨k, hk, rfl, hE, ht⟩ := hrel
    have HT := Lib.hid ht
    clear ht
    by_cases hkl : k < l.length
    · obtain rfl := ha (by omega)
      have hck := hE.cell (hc k hkl)
      by_cases hp : l[k] = x
      · have HI := Lib.hid (idx_here (fun a => decide (a = x)) l k hkl HT.out (by simp [hp]))
        have hb : (x == l[k]) = true := by simp [hp]
        clear hp
        go_wp2_with fail
        go_ret
        exact ⟨ret_int HI.out.symm, hE⟩
      · have HI := Lib.hid (show (l.take (k + 1)).any (fun a => decide (a = x)) = false from by rw [any_take_succ _ l k hkl, HT.out]; simp [hp])
        have hb : (x == l[k]) = false := by simp; exact fun h => hp h.symm
        clear hp
        go_wp2_with fail
        go_roundw
        case rel => exact ⟨k + 1, by omega, by go_num, hE, HI.out⟩
        case measure => simp [intOf]; omega
    · go_wp2_with fail
      go_ret
      refine ⟨ret_int ?_, hE⟩
      have hkk : k = l.length := by omega
      have := HT.out
      rw [hkk, List.take_length] at this
      rw [idx_none _ l this]
theorem containsI_any (l : List Int) (v : Value) (x : Int) (w : World) (hr : RdI w v l) :
    Calls Tryz.prog 133 #[v, .int .i64 x] w fun e w' => e = .returned (.bool (hasI l x)) ∧ Ext w w' := by
  have HC := Lib.hid (show decide (0 ≤ idx (fun a => decide (a = x)) l) = hasI l x from by rw [idx_any]; rfl)
  go_enter Tryz.func133, Tryz.ntmps133
  go_wp2_with (go_at_call 132; refine (indexI_any l _ _ _ hr).mono ?_; rintro e w' ⟨rfl, hE⟩)
  go_ret
  exact ⟨ret_bool HC.out, hE⟩
end Go.Proofs.YtajkepdfemdagaaGreatDoor
namespace Go.Proofs.YtajkepdfemdagaaGreatDoor
open Go.RowKit
set_option linter.unusedVariables false

theorem len_two' {α : Type} : ∀ {l : List α}, l.length = 2 → ∃ x y, l = [x, y]
  | [x, y], _ => ⟨x, y, rfl⟩
theorem madeCells_two (a b : Value) : ∀ n : Nat, (madeCells #[a, b] (n * 2)).toList = (List.replicate n [a, b]).flatten := by
  intro n
  unfold madeCells
  rw [Array.toList_map, Array.toList_range]
  induction n with
  | zero => rfl
  | succ n ih =>
    rw [show (n + 1) * 2 = n * 2 + 1 + 1 by omega, List.range_succ, List.range_succ, List.map_append, List.map_append, ih, List.replicate_succ', List.flatten_append]
    have h1 : n * 2 % (#[a, b] : Array Value).size = 0 := by simp
    have h2 : (n * 2 + 1) % (#[a, b] : Array Value).size = 1 := by simp
    simp only [List.map_cons, List.map_nil, h1, h2, List.flatten_cons, List.flatten_nil, List.append_nil, List.append_assoc]
    rfl

end Go.Proofs.YtajkepdfemdagaaGreatDoor
