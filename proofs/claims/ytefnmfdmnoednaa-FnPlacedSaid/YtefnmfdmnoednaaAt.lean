
/- The numbers of a list at some places. -/
import Derived.Test.YtefnmfdmnoednaaVals
namespace Go.Proofs.Ytefnmfdmnoednaa
open Go.RowKit
set_option linter.unusedVariables false

def atP (l places : List Int) : List Int := places.map fun p => l.getD p.toNat 0
theorem atP_length (l places : List Int) : (atP l places).length = places.length := by simp [atP]
theorem atP_take (l places : List Int) (k : Nat) (hk : k < places.length) : atP l (places.take (k + 1)) = atP l (places.take k) ++ [l.getD (places[k]).toNat 0] := by
  unfold atP
  rw [List.take_succ_eq_append_getElem hk, List.map_append]
  rfl
theorem atP_val {l places : List Int} {s : Int} (hl : ∀ a ∈ l, 0 ≤ a ∧ a < s) (hp : ∀ p ∈ places, 0 ≤ p ∧ p < l.length) : ∀ a ∈ atP l places, 0 ≤ a ∧ a < s := by
  intro a ha
  unfold atP at ha
  obtain ⟨p, hpp, rfl⟩ := List.mem_map.1 ha
  have := hp p hpp
  have hk : p.toNat < l.length := by omega
  rw [List.getD_eq_getElem?_getD, List.getElem?_eq_getElem hk]
  exact hl _ (List.getElem_mem hk)

set_option maxHeartbeats 1000000 in
theorem chosen_any (l : List Int) (v : Value) (places : List Int) (u : Value) (w : World) (hr : RdI w v l) (hs : RdI w u places) (hp : ∀ p ∈ places, 0 ≤ p ∧ p < l.length) (hlen : places.length ≤ 1048576) :
    Calls Try.prog 75 #[v, u] w fun e w' => ∃ x fp, e = .returned x ∧ Ext w w' ∧ OI w' x (atP l places) fp ∧ ∀ g ∈ fp, w.heap.size ≤ g := by
  obtain ⟨a, b, off, c, rfl, hlc, hcm, ha, hc⟩ := hr
  obtain ⟨a', b', off', c', rfl, hlc', hcm', ha', hc'⟩ := hs
  obtain ⟨i0, hi, hz0, hz1, hz2⟩ := info_parts infoI
  have HP := Lib.hid hp
  have HC := Lib.hid hc
  have HC' := Lib.hid hc'
  clear hp hc hc'
  go_enter Try.func75, Try.ntmps75
  go_wp2_with fail
  go_loopw [5, 11] (fun t i wr => ∃ k : Nat, k ≤ places.length ∧ i = .int .i64 k ∧ Ext w wr ∧ wr.ownsRow w.heap.size 2 1 t k ((atP l (places.take k)).map (Value.int .i64)))
    (fun _ i _ => places.length - (intOf i).toNat)
  case atStart =>
    exact ⟨0, by omega, rfl, (Ext.refl' w).alloc (Nat.le_refl _) _, World.ownsRow_made w #[] 0 (Nat.le_refl _) (by decide) rfl⟩
  case round =>
    obtain ⟨k, hk, rfl, hE, ho⟩ := hrel
    by_cases hkl : k < places.length
    · obtain rfl := ha' (by omega)
      have hck := hE.cell (HC'.out k hkl)
      have hpk := HP.out places[k] (List.getElem_mem hkl)
      obtain rfl := ha (by omega)
      obtain ⟨y, hy⟩ := Int.eq_ofNat_of_zero_le hpk.1
      have hyl : y < l.length := by omega
      have hcl := hE.cell (HC.out y hyl)
      rw [hy] at hck hpk
      have HT := Lib.hid (show atP l (places.take (k + 1)) = atP l (places.take k) ++ [l[y]] from by
        rw [atP_take l places k hkl, hy, Int.toNat_natCast, List.getD_eq_getElem?_getD, List.getElem?_eq_getElem hyl]; rfl)
      have hpl := hpk.2
      clear hy hpk
      obtain ⟨ta, tb, tc, rfl, -⟩ := own_parts ho
      go_wp2_with (at_builtin; refine wpList_append_own _ rfl _ _ 34 rfl w.heap.size 2 i0 (.int .i64 0) 1 8 Try.underlying34 hi hz0 hz1 hz2 rfl (by decide) _ _ _ rfl (own_ext ho ((Ext.refl' wr).alloc (Nat.le_refl _) _)) ⟨wr.heap.size, 0, none⟩ 1 1 [.int .i64 l[y]] rfl rfl (cells_one (by simp [go_sem])) (by simp [Value.oneCell']) (by unfold maxLen; omega) (by omega) (by have := hE.size; simp; omega) ?_)
      intro v' w4 ho4 hg4 _
      have hA : Ext wr (wr.alloc (.cells #[.int .i64 l[y]] 2)) := (Ext.refl' wr).alloc (Nat.le_refl _) _
      have hE4 : Ext w w4 := (hE.tr hA).grown hg4 (by have := hE.size; simp; omega) (fun k hk => (ho.lt k hk).1)
      have ho5 : w4.ownsRow w.heap.size 2 1 v' (k + 1) ((atP l (places.take (k + 1))).map (Value.int .i64)) := by rw [HT.out, List.map_append]; exact ho4
      clear ho hE hg4 hA ho4 HT
      go_wp2_with fail
      go_roundw
      case rel => exact ⟨k + 1, by omega, by go_num, hE4, ho5⟩
      case measure => simp [intOf]; omega
    · go_wp2_with fail
      go_ret
      have hkk : k = places.length := by omega
      subst hkk
      rw [List.take_length] at ho
      exact ⟨_, _, rfl, hE, ⟨own_base (by rw [atP_length]; exact ho) (fun _ _ => Nat.zero_le _), rfl⟩, fun g hg => (ho.lt g (by simpa using hg)).1⟩
set_option maxHeartbeats 1000000 in
theorem l01At_any (l : List Int) (v : Value) (places : List Int) (u : Value) (w : World) (hr : RdI w v l) (hs : RdI w u places) (hp : ∀ p ∈ places, 0 ≤ p ∧ p < l.length) (hlen : places.length ≤ 1048576) :
    Calls Try.prog 106 #[v, u] w fun e w' => ∃ x fp, e = .returned x ∧ Ext w w' ∧ OI w' x (atP l places) fp ∧ ∀ g ∈ fp, w.heap.size ≤ g := by
  obtain ⟨a, b, off, c, rfl, hlc, hcm, ha, hc⟩ := hr
  obtain ⟨a', b', off', c', rfl, hlc', hcm', ha', hc'⟩ := hs
  obtain ⟨i0, hi, hz0, hz1, hz2⟩ := info_parts infoI
  have HP := Lib.hid hp
  have HC := Lib.hid hc
  have HC' := Lib.hid hc'
  clear hp hc hc'
  go_enter Try.func106, Try.ntmps106
  go_wp2_with fail
  go_loopw [5, 6] (fun t i wr => ∃ k : Nat, k ≤ places.length ∧ i = .int .i64 k ∧ Ext w wr ∧ wr.ownsRow w.heap.size 2 1 t k ((atP l (places.take k)).map (Value.int .i64)))
    (fun _ i _ => places.length - (intOf i).toNat)
  case atStart =>
    exact ⟨0, by omega, rfl, (Ext.refl' w).alloc (Nat.le_refl _) _, World.ownsRow_made w #[] 0 (Nat.le_refl _) (by decide) rfl⟩
  case round =>
    obtain ⟨k, hk, rfl, hE, ho⟩ := hrel
    by_cases hkl : k < places.length
    · obtain rfl := ha' (by omega)
      have hck := hE.cell (HC'.out k hkl)
      have hpk := HP.out places[k] (List.getElem_mem hkl)
      obtain rfl := ha (by omega)
      obtain ⟨y, hy⟩ := Int.eq_ofNat_of_zero_le hpk.1
      have hyl : y < l.length := by omega
      have hcl := hE.cell (HC.out y hyl)
      rw [hy] at hck hpk
      have HT := Lib.hid (show atP l (places.take (k + 1)) = atP l (places.take k) ++ [l[y]] from by
        rw [atP_take l places k hkl, hy, Int.toNat_natCast, List.getD_eq_getElem?_getD, List.getElem?_eq_getElem hyl]; rfl)
      have hpl := hpk.2
      clear hy hpk
      obtain ⟨ta, tb, tc, rfl, -⟩ := own_parts ho
      go_wp2_with (at_builtin; refine wpList_append_own _ rfl _ _ 34 rfl w.heap.size 2 i0 (.int .i64 0) 1 8 Try.underlying34 hi hz0 hz1 hz2 rfl (by decide) _ _ _ rfl (own_ext ho ((Ext.refl' wr).alloc (Nat.le_refl _) _)) ⟨wr.heap.size, 0, none⟩ 1 1 [.int .i64 l[y]] rfl rfl (cells_one (by simp [go_sem])) (by simp [Value.oneCell']) (by unfold maxLen; omega) (by omega) (by have := hE.size; simp; omega) ?_)
      intro v' w4 ho4 hg4 _
      have hA : Ext wr (wr.alloc (.cells #[.int .i64 l[y]] 2)) := (Ext.refl' wr).alloc (Nat.le_refl _) _
      have hE4 : Ext w w4 := (hE.tr hA).grown hg4 (by have := hE.size; simp; omega) (fun k hk => (ho.lt k hk).1)
      have ho5 : w4.ownsRow w.heap.size 2 1 v' (k + 1) ((atP l (places.take (k + 1))).map (Value.int .i64)) := by rw [HT.out, List.map_append]; exact ho4
      clear ho hE hg4 hA ho4 HT
      go_wp2_with fail
      go_roundw
      case rel => exact ⟨k + 1, by omega, by go_num, hE4, ho5⟩
      case measure => simp [intOf]; omega
    · go_wp2_with fail
      go_ret
      have hkk : k = places.length := by omega
      subst hkk
      rw [List.take_length] at ho
      exact ⟨_, _, rfl, hE, ⟨own_base (by rw [atP_length]; exact ho) (fun _ _ => Nat.zero_le _), rfl⟩, fun g hg => (ho.lt g (by simpa using hg)).1⟩

set_option maxHeartbeats 1000000 in
theorem l01Mapped_any (l : List Int) (v : Value) (places : List Int) (u : Value) (w : World) (hr : RdI w v l) (hs : RdI w u places) (hp : ∀ p ∈ places, 0 ≤ p ∧ p < l.length) (hlen : places.length ≤ 1048576) :
    Calls Try.prog 73 #[u, v] w fun e w' => ∃ x fp, e = .returned x ∧ Ext w w' ∧ OI w' x (atP l places) fp ∧ ∀ g ∈ fp, w.heap.size ≤ g := by
  obtain ⟨a, b, off, c, rfl, hlc, hcm, ha, hc⟩ := hr
  obtain ⟨a', b', off', c', rfl, hlc', hcm', ha', hc'⟩ := hs
  obtain ⟨i0, hi, hz0, hz1, hz2⟩ := info_parts infoI
  have HP := Lib.hid hp
  have HC := Lib.hid hc
  have HC' := Lib.hid hc'
  clear hp hc hc'
  go_enter Try.func73, Try.ntmps73
  go_wp2_with fail
  go_loopw [5, 6] (fun t i wr => ∃ k : Nat, k ≤ places.length ∧ i = .int .i64 k ∧ Ext w wr ∧ wr.ownsRow w.heap.size 2 1 t k ((atP l (places.take k)).map (Value.int .i64)))
    (fun _ i _ => places.length - (intOf i).toNat)
  case atStart =>
    exact ⟨0, by omega, rfl, (Ext.refl' w).alloc (Nat.le_refl _) _, World.ownsRow_made w #[] 0 (Nat.le_refl _) (by decide) rfl⟩
  case round =>
    obtain ⟨k, hk, rfl, hE, ho⟩ := hrel
    by_cases hkl : k < places.length
    · obtain rfl := ha' (by omega)
      have hck := hE.cell (HC'.out k hkl)
      have hpk := HP.out places[k] (List.getElem_mem hkl)
      obtain rfl := ha (by omega)
      obtain ⟨y, hy⟩ := Int.eq_ofNat_of_zero_le hpk.1
      have hyl : y < l.length := by omega
      have hcl := hE.cell (HC.out y hyl)
      rw [hy] at hck hpk
      have HT := Lib.hid (show atP l (places.take (k + 1)) = atP l (places.take k) ++ [l[y]] from by
        rw [atP_take l places k hkl, hy, Int.toNat_natCast, List.getD_eq_getElem?_getD, List.getElem?_eq_getElem hyl]; rfl)
      have hpl := hpk.2
      clear hy hpk
      obtain ⟨ta, tb, tc, rfl, -⟩ := own_parts ho
      go_wp2_with (at_builtin; refine wpList_append_own _ rfl _ _ 34 rfl w.heap.size 2 i0 (.int .i64 0) 1 8 Try.underlying34 hi hz0 hz1 hz2 rfl (by decide) _ _ _ rfl (own_ext ho ((Ext.refl' wr).alloc (Nat.le_refl _) _)) ⟨wr.heap.size, 0, none⟩ 1 1 [.int .i64 l[y]] rfl rfl (cells_one (by simp [go_sem])) (by simp [Value.oneCell']) (by unfold maxLen; omega) (by omega) (by have := hE.size; simp; omega) ?_)
      intro v' w4 ho4 hg4 _
      have hA : Ext wr (wr.alloc (.cells #[.int .i64 l[y]] 2)) := (Ext.refl' wr).alloc (Nat.le_refl _) _
      have hE4 : Ext w w4 := (hE.tr hA).grown hg4 (by have := hE.size; simp; omega) (fun k hk => (ho.lt k hk).1)
      have ho5 : w4.ownsRow w.heap.size 2 1 v' (k + 1) ((atP l (places.take (k + 1))).map (Value.int .i64)) := by rw [HT.out, List.map_append]; exact ho4
      clear ho hE hg4 hA ho4 HT
      go_wp2_with fail
      go_roundw
      case rel => exact ⟨k + 1, by omega, by go_num, hE4, ho5⟩
      case measure => simp [intOf]; omega
    · go_wp2_with fail
      go_ret
      have hkk : k = places.length := by omega
      subst hkk
      rw [List.take_length] at ho
      exact ⟨_, _, rfl, hE, ⟨own_base (by rw [atP_length]; exact ho) (fun _ _ => Nat.zero_le _), rfl⟩, fun g hg => (ho.lt g (by simpa using hg)).1⟩
set_option maxHeartbeats 400000 in
theorem l01Places_any (l : List Int) (v : Value) (m : Int) (w : World) (hr : RdI w v l) (hs : -9223372036854775807 ≤ m) (hs2 : m ≤ 9223372036854775807) :
    Calls Try.prog 76 #[v, .int .i64 m] w fun e w' => e = .returned (.bool (l.all fun a => inB a 0 (m - 1))) ∧ w = w' := by
  obtain ⟨a, b, off, c, rfl, hlc, hcm, ha, hc⟩ := hr
  go_enter Try.func76, Try.ntmps76
  go_wp2_with fail
  go_loop [5] (fun i => ∃ k : Nat, k ≤ l.length ∧ i = .int .i64 k ∧ (l.take k).any (fun a => !inB a 0 (m - 1)) = false) (fun i => l.length - (intOf i).toNat)
  case atStart => exact ⟨0, by omega, rfl, rfl⟩
  case round =>
    obtain ⟨k, hk, rfl, ht⟩ := hrel
    have HT := Lib.hid ht
    clear ht
    by_cases hkl : k < l.length
    · obtain rfl := ha (by omega)
      have hck := hc k hkl
      cases hp : inB l[k] 0 (m - 1) with
      | true =>
        have HI := Lib.hid (show (l.take (k + 1)).any (fun a => !inB a 0 (m - 1)) = false from by rw [any_take_succ _ l k hkl, HT.out, hp]; rfl)
        go_wp2_with (go_at_call 80; refine (l00In_any _ _ _ _).mono ?_; rintro e w' ⟨rfl, rfl⟩)
        go_round
        case rel => exact ⟨k + 1, by omega, by go_num, HI.out⟩
        case measure => simp [intOf]; omega
      | false =>
        have HI := Lib.hid (show (l.all fun a => inB a 0 (m - 1)) = false from by
          rw [List.all_eq_false]
          exact ⟨l[k], List.getElem_mem hkl, by simp [hp]⟩)
        go_wp2_with (go_at_call 80; refine (l00In_any _ _ _ _).mono ?_; rintro e w' ⟨rfl, rfl⟩)
        go_ret
        exact ⟨ret_bool HI.out.symm, rfl⟩
    · have HV := Lib.hid (show (l.all fun a => inB a 0 (m - 1)) = true from by
        have hkk : k = l.length := by omega
        have := HT.out
        rw [hkk, List.take_length] at this
        rw [List.all_eq_true]
        intro x hx
        rw [List.any_eq_false] at this
        simpa using this x hx)
      go_wp2_with fail
      go_ret
      exact ⟨ret_bool HV.out.symm, rfl⟩
theorem arePlaces_any (l : List Int) (v : Value) (m k : Int) (w : World) (hr : RdI w v l) (hs : -9223372036854775807 ≤ m) (hs2 : m ≤ 9223372036854775807) :
    Calls Try.prog 78 #[v, .int .i64 m, .int .i64 k] w fun e w' => e = .returned (.bool (vals m l k)) ∧ Ext w w' := by
  obtain ⟨a, c, rfl⟩ := hr.form
  go_enter Try.func78, Try.ntmps78
  go_wp2_with (go_at_call 69; refine (areValues_any _ _ _ _ _ hr hs hs2).mono ?_; rintro e w' ⟨rfl, hE⟩)
  go_ret
  exact ⟨rfl, hE⟩
end Go.Proofs.Ytefnmfdmnoednaa
