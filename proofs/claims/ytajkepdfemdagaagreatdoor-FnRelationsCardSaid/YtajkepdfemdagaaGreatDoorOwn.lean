
/- Owned lists of lists: an append, a copy of numbers, a copy of lists. -/
import Derived.Test.YtajkepdfemdagaaGreatDoorAcc
namespace Go.Proofs.YtajkepdfemdagaaGreatDoor
open Go.RowKit
set_option linter.unusedVariables false

theorem OII.app {w1 : World} {B : Nat} {L : List (List Int)} {tv : Value} {fp : List Nat} {x : List Int} {u : Value} {fx : List Nat} {ops : Array Oper} {rest : List Oper} {o : Oper} {a : Act} {Q : Exit → Act → World → Prop}
    (h : OII w1 tv L fp) (hfp : ∀ g ∈ fp, B ≤ g) (hB : B ≤ w1.heap.size) (hx : OI w1 u x fx) (hfx : ∀ g ∈ fx, B ≤ g) (hd : ∀ g ∈ fx, g ∉ fp) (hlen : L.length ≤ 1048576) {b' : Nat} (cb : w1.cell? ⟨b', 0, none⟩ = some u)
    (hgd : o.guard = none) (s y : Operand) (ho : o.op = .call { callee := .builtin .append, args := #[s, y], argTypes := #[33, 33] }) (hs : a.eval s = tv) (hy : a.eval y = .slice (some ⟨b', 0, none⟩) 1 1)
    (hk : ∀ v' w4 fp', OII w4 v' (L ++ [x]) fp' → (∀ g ∈ fp', B ≤ g) → (∀ w0, Ext w0 w1 → w0.heap.size ≤ B → Ext w0 w4) → wpList Tryz.prog ops Q rest (a.put o.dst v') w4) :
    wpList Tryz.prog ops Q (o :: rest) a w1 := by
  obtain ⟨i0, hi, hz0, hz1, hz2⟩ := info_parts infoIS'
  obtain ⟨cs, hrow, hin, hpush⟩ := OwnL.row eI_ok h
  have hrow2 := own_base (base' := B) hrow fun g hg => hfp g (hin g hg)
  refine wpList_append_own_at _ hgd s y 33 ho B 37 i0 (.slice none 0 0) 1 24 Tryz.underlying33 hi hz0 hz1 hz2 rfl (by decide) tv _ _ hs hrow2 ⟨b', 0, none⟩ 1 1 [u] hy rfl (cells_one cb) (by obtain ⟨xa, xc, rfl⟩ := hx.form; simp [Value.oneCell']) (by unfold maxLen; omega) (by omega) hB ?_
  intro v' w4 ho4 hg4 _ hat
  obtain ⟨fp', hL, hfp'⟩ := hpush ⟨u, rfl, hx⟩ rfl hd ho4 hg4 hat
  refine hk v' w4 fp' hL (fun g hg => ?_) fun w0 hE0 hw0 => hE0.grown hg4 (by omega) (fun g hg => Nat.le_trans hw0 (hfp g (hin g hg)))
  rcases hfp' g hg with h' | h' | h'
  · exact hfp g h'
  · exact hfx g h'
  · rw [h']; exact hB

def firstT (L : List (List Int)) (j : Nat) : List (List Int) := L.take j
theorem eqlNil_some (w : World) (a : Addr) (n c n' c' : Nat) : (binOp .eql 37 (.slice (some a) n c) (.slice none n' c')).run Tryz.prog w = .ok (.bool false) w := by kernel_rfl
theorem eqlNil_none (w : World) (n c n' c' : Nat) : (binOp .eql 37 (.slice none n c) (.slice none n' c')).run Tryz.prog w = .ok (.bool true) w := by kernel_rfl
set_option maxHeartbeats 1000000 in
theorem clone_any (l : List Int) (v : Value) (w : World) (hr : RdI w v l) (h0 : 0 < l.length) (hl : l.length ≤ 1048576) :
    Calls Tryz.prog 127 #[v] w fun e w' => ∃ u fp, e = .returned u ∧ Ext w w' ∧ OI w' u l fp ∧ ∀ g ∈ fp, w.heap.size ≤ g := by
  have q1 := eqlNil_some
  obtain ⟨a, b, off, c, rfl, hlc, hcm, ha, hc⟩ := hr
  obtain ⟨i0, hi, hz0, hz1, hz2⟩ := info_parts infoI
  obtain rfl := ha h0
  have hA : Ext w (w.alloc (.cells #[] 2)) := (Ext.refl' w).alloc (Nat.le_refl _) _
  have hx : ∀ (j : Nat) u, (l.map (Value.int .i64))[j]? = some u → (w.alloc (.cells #[] 2)).cell? ((⟨b, off, none⟩ : Addr).add j) = some u := by
    intro j u hj
    rw [List.getElem?_map] at hj
    by_cases hjl : j < l.length
    · rw [List.getElem?_eq_getElem hjl] at hj
      simp at hj
      subst hj
      have := hA.cell (hc j hjl)
      simp only [Addr.add]
      split
      · rename_i h0
        subst h0
        simpa using this
      · exact this
    · rw [List.getElem?_eq_none (by omega)] at hj
      simp at hj
  have ho := World.ownsRow_made (e := 2) (size := 1) w #[] 0 (Nat.le_refl _) (by decide) rfl
  go_enter Tryz.func127, Tryz.ntmps127
  go_wp2_with (at_builtin; refine wpList_append_own _ rfl _ _ 37 rfl w.heap.size 2 i0 (.int .i64 0) 1 8 Tryz.underlying37 hi hz0 hz1 hz2 rfl (by decide) _ _ _ rfl ho ⟨b, off, none⟩ l.length c (l.map (Value.int .i64)) rfl (by simp) hx (by simp [Value.oneCell']) (by unfold maxLen; omega) (by omega) (by simp) ?_)
  intro v' w4 ho4 hg4 _
  have hE4 : Ext w w4 := hA.grown hg4 (by simp) (fun k hk => by have := (ho.lt k hk).1; omega)
  clear hg4 hA ho hx
  go_wp2_with fail
  go_ret
  exact ⟨_, _, rfl, hE4, ⟨own_base ho4 (fun _ _ => Nat.zero_le _), rfl⟩, fun g hg => (ho4.lt g (by simpa using hg)).1⟩
set_option maxHeartbeats 2000000 in
theorem ownLists_any (ll : List (List Int)) (v : Value) (w : World) (hr : RdII w v ll) (hl : ll.length ≤ 1048576) (hv : ∀ t ∈ ll, 0 < t.length ∧ t.length ≤ 1048576) :
    Calls Tryz.prog 118 #[v] w fun e w' => ∃ u fp, e = .returned u ∧ Ext w w' ∧ OII w' u ll fp ∧ ∀ g ∈ fp, w.heap.size ≤ g := by
  obtain ⟨a, b, off, c, ls, rfl, hlc, hcm, ha, hc⟩ := hr
  have HV := Lib.hid hv
  have HC := Lib.hid hc
  clear hv hc
  have hA6 : Ext w (w.alloc (.cells #[] 37)) := (Ext.refl' w).alloc (Nat.le_refl _) _
  have hnew : OII (w.alloc (.cells #[] 37)) (.slice (.some ⟨w.heap.size, 0, none⟩) 0 0) (firstT ll 0) [w.heap.size] := OwnL.made _ _ (World.ownsRow_made w #[] 0 (Nat.zero_le _) (by decide) rfl)
  go_enter Tryz.func118, Tryz.ntmps118
  go_wp2_with fail
  go_loopw [3, 9] (fun t i wz => ∃ (j : Nat) (fp : List Nat), j ≤ ll.length ∧ i = .int .i64 j ∧ Ext w wz ∧ OII wz t (firstT ll j) fp ∧ ∀ g ∈ fp, w.heap.size ≤ g) (fun _ i _ => ll.length - (intOf i).toNat)
  case atStart => exact ⟨0, _, by omega, rfl, hA6, hnew, by simp⟩
  case round =>
    obtain ⟨j, fp, hj, rfl, hE6, ho6, hfp⟩ := hrel
    obtain ⟨va, vc, hvf⟩ := ho6.form
    subst hvf
    by_cases hjl : j < ll.length
    · obtain rfl := ha (by omega)
      obtain ⟨k1, k2⟩ := HC.out j hjl
      replace k1 := hE6.cell k1
      replace k2 := k2.ext hE6
      obtain ⟨hjl1, hjl2⟩ := HV.out _ (List.getElem_mem hjl)
      have HT := Lib.hid (show firstT ll (j + 1) = firstT ll j ++ [ll[j]] from List.take_succ_eq_append_getElem hjl)
      generalize ls j = yy at k1 k2
      obtain ⟨ya, yc, rfl⟩ := k2.form
      have hlt : (firstT ll j).length ≤ 1048576 := by unfold firstT; rw [List.length_take]; omega
      have HLT := Lib.hid hlt
      clear hlt
      generalize ll[j] = X at *
      go_wp2_with fail
      refine (clone_any _ _ _ k2 hjl1 hjl2).mono ?_
      rintro e w7 ⟨u, fu, rfl, hE7, hu, hfu⟩
      obtain ⟨xa', xc', rfl⟩ := hu.form
      have hsz7 := hE6.size
      have hA7 : Ext w7 (w7.alloc (.cells #[.slice xa' X.length xc'] 37)) := (Ext.refl' w7).alloc (Nat.le_refl _) _
      have hd7 : ∀ g ∈ fu, g ∉ fp := fun g hg hm => by have := hfu g hg; have := ho6.lt g hm; omega
      go_wp2_with (at_builtin; (refine OII.app (ho6.ext (hE7.tr hA7)) hfp (by have := hE7.size; have := hA7.size; omega) (hu.ext hA7) (fun g hg => by have := hfu g hg; omega) hd7 HLT.out (b' := w7.heap.size) (u := .slice xa' X.length xc') (by simp [go_sem]) rfl (.tmp 13) (.tmp 16) rfl rfl rfl ?_))
      intro v' w8 fp' ho8 hfp8 hkeep
      have hE8 := hkeep w (hE6.tr (hE7.tr hA7)) (Nat.le_refl _)
      rw [← HT.out] at ho8
      clear hkeep ho6 hu hE7 hA7 hE6
      go_wp2_with fail
      go_roundw
      case rel => exact ⟨j + 1, fp', by omega, by go_num, hE8, ho8, hfp8⟩
      case measure => simp [intOf]; omega
    · have hTe : firstT ll j = ll := List.take_of_length_le (by omega)
      have ho7 : OII wr (.slice va (firstT ll j).length vc) ll fp := by
        have := ho6
        rw [hTe] at this ⊢
        exact this
      clear hTe
      go_wp2_with fail
      go_ret
      exact ⟨_, fp, rfl, hE6, ho7, hfp⟩
end Go.Proofs.YtajkepdfemdagaaGreatDoor
