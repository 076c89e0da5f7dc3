/- Owned lists of lists: an append, a copy of numbers, a copy of lists. ValidRel: the program's and the reference's give one function's answers. -/
import Derived.Test.YtajkepdfemdagaaGreatDoorC08
import Derived.Test.YtajkepdfemdagaaGreatDoorC04
import Derived.Test.YtajkepdfemdagaaGreatDoorC05
namespace Go.Proofs.YtajkepdfemdagaaGreatDoor
open Go.RowKit
set_option linter.unusedVariables false

theorem OII.app {w1 : World} {B : Nat} {L : List (List Int)} {tv : Value} {fp : List Nat} {x : List Int} {u : Value} {fx : List Nat} {ops : Array Oper} {rest : List Oper} {o : Oper} {a : Act} {Q : Exit → Act → World → Prop}
    (h : OII w1 tv L fp) (hfp : ∀ g ∈ fp, B ≤ g) (hB : B ≤ w1.heap.size) (hx : OI w1 u x fx) (hfx : ∀ g ∈ fx, B ≤ g) (hd : ∀ g ∈ fx, g ∉ fp) (hlen : L.length ≤ 1048576) {b' : Nat} (cb : w1.cell? ⟨b', 0, none⟩ = some u)
    (hgd : o.guard = none) (s y : Operand) (ho : o.op = .call { callee := .builtin .append, args := #[s, y], argTypes := #[33, 33] }) (hs : a.eval s = tv) (hy : a.eval y = .slice (some ⟨b', 0, none⟩) 1 1)
    (hk : ∀ v' w4 fp', OII w4 v' (L ++ [x]) fp' → (∀ g ∈ fp', B ≤ g) → (∀ w0, Ext w0 w1 → w0.heap.size ≤ B → Ext w0 w4) → wpList Tryz.prog ops Q rest (a.put o.dst v') w4) :
    wpList Tryz.prog ops Q (o :: rest) a w1 := by
  obtain ⟨i0, hi, hz0, hz1, hz2⟩ := info_parts infoIS'
  obtain ⟨cs, hrow, hin, hpush⟩ := OwnL.row eI_ok h
  have hrow2 := own_base (base' := B) hrow fun g hg => hfp g (hin g hg)
  refine wpList_append_own_at _ hgd s y 33 ho B 37 i0 (.slice none 0 0) 1 24 Tryz.underlying33 hi hz0 hz1 hz2 rfl (by decide) tv _ _ hs hrow2 ⟨b', 0, none⟩ 1 1 [u] hy rfl (cells_one cb) (by obtain ⟨xa, xc, rfl⟩ := hx.form; simp [Value.oneCell']) (by unfold maxLen; omega) (by omega) hB ?_
  intro v' w4 ho4 hg4 _ hat
  obtain ⟨fp', hL, hfp'⟩ := hpush ⟨u, rfl, hx⟩ rfl hd ho4 hg4 hat
  refine hk v' w4 fp' hL (fun g hg => ?_) fun w0 hE0 hw0 => hE0.grown hg4 (by omega) (fun g hg => Nat.le_trans hw0 (hfp g (hin g hg)))
  rcases hfp' g hg with h' | h' | h'
  · exact hfp g h'
  · exact hfx g h'
  · rw [h']; exact hB

def firstT (L : List (List Int)) (j : Nat) : List (List Int) := L.take j
theorem eqlNil_some (w : World) (a : Addr) (n c n' c' : Nat) : (binOp .eql 37 (.slice (some a) n c) (.slice none n' c')).run Tryz.prog w = .ok (.bool false) w := by kernel_rfl
theorem eqlNil_none (w : World) (n c n' c' : Nat) : (binOp .eql 37 (.slice none n c) (.slice none n' c')).run Tryz.prog w = .ok (.bool true) w := by kernel_rfl
set_option maxHeartbeats 1000000 in
theorem clone_any (l : List Int) (v : Value) (w : World) (hr : RdI w v l) (h0 : 0 < l.length) (hl : l.length ≤ 1048576) :
    Calls Tryz.prog 127 #[v] w fun e w' => ∃ u fp, e = .returned u ∧ Ext w w' ∧ OI w' u l fp ∧ ∀ g ∈ fp, w.heap.size ≤ g := by
  have q1 := eqlNil_some
  obtain ⟨a, b, off, c, rfl, hlc, hcm, ha, hc⟩ := hr
  obtain ⟨i0, hi, hz0, hz1, hz2⟩ := info_parts infoI
  obtain rfl := ha h0
  have hA : Ext w (w.alloc (.cells #[] 2)) := (Ext.refl' w).alloc (Nat.le_refl _) _
  have hx : ∀ (j : Nat) u, (l.map (Value.int .i64))[j]? = some u → (w.alloc (.cells #[] 2)).cell? ((⟨b, off, none⟩ : Addr).add j) = some u := by
    intro j u hj
    rw [List.getElem?_map] at hj
    by_cases hjl : j < l.length
    · rw [List.getElem?_eq_getElem hjl] at hj
      simp at hj
      subst hj
      have := hA.cell (hc j hjl)
      simp only [Addr.add]
      split
      · rename_i h0
        subst h0
        simpa using this
      · exact this
    · rw [List.getElem?_eq_none (by omega)] at hj
      simp at hj
  have ho := World.ownsRow_made (e := 2) (size := 1) w #[] 0 (Nat.le_refl _) (by decide) rfl
  go_enter Tryz.func127, Tryz.ntmps127
  go_wp2_with (at_builtin; refine wpList_append_own _ rfl _ _ 37 rfl w.heap.size 2 i0 (.int .i64 0) 1 8 Tryz.underlying37 hi hz0 hz1 hz2 rfl (by decide) _ _ _ rfl ho ⟨b, off, none⟩ l.length c (l.map (Value.int .i64)) rfl (by simp) hx (by simp [Value.oneCell']) (by unfold maxLen; omega) (by omega) (by simp) ?_)
  intro v' w4 ho4 hg4 _
  have hE4 : Ext w w4 := hA.grown hg4 (by simp) (fun k hk => by have := (ho.lt k hk).1; omega)
  clear hg4 hA ho hx
  go_wp2_with fail
  go_ret
  exact ⟨_, _, rfl, hE4, ⟨own_base ho4 (fun _ _ => Nat.zero_le _), rfl⟩, fun g hg => (ho4.lt g (by simpa using hg)).1⟩
set_option maxHeartbeats 2000000 in
theorem ownLists_any (ll : List (List Int)) (v : Value) (w : World) (hr : RdII w v ll) (hl : ll.length ≤ 1048576) (hv : ∀ t ∈ ll, 0 < t.length ∧ t.length ≤ 1048576) :
    Calls Tryz.prog 118 #[v] w fun e w' => ∃ u fp, e = .returned u ∧ Ext w w' ∧ OII w' u ll fp ∧ ∀ g ∈ fp, w.heap.size ≤ g := by
  obtain ⟨a, b, off, c, ls, rfl, hlc, hcm, ha, hc⟩ := hr
  have HV := Lib.hid hv
  have HC := Lib.hid hc
  clear hv hc
  have hA6 : Ext w (w.alloc (.cells #[] 37)) := (Ext.refl' w).alloc (Nat.le_refl _) _
  have hnew : OII (w.alloc (.cells #[] 37)) (.slice (.some ⟨w.heap.size, 0, none⟩) 0 0) (firstT ll 0) [w.heap.size] := OwnL.made _ _ (World.ownsRow_made w #[] 0 (Nat.zero_le _) (by decide) rfl)
  go_enter Tryz.func118, Tryz.ntmps118
  go_wp2_with fail
  go_loopw [3, 9] (fun t i wz => ∃ (j : Nat) (fp : List Nat), j ≤ ll.length ∧ i = .int .i64 j ∧ Ext w wz ∧ OII wz t (firstT ll j) fp ∧ ∀ g ∈ fp, w.heap.size ≤ g) (fun _ i _ => ll.length - (intOf i).toNat)
  case atStart => exact ⟨0, _, by omega, rfl, hA6, hnew, by simp⟩
  case round =>
    obtain ⟨j, fp, hj, rfl, hE6, ho6, hfp⟩ := hrel
    obtain ⟨va, vc, hvf⟩ := ho6.form
    subst hvf
    by_cases hjl : j < ll.length
    · obtain rfl := ha (by omega)
      obtain ⟨k1, k2⟩ := HC.out j hjl
      replace k1 := hE6.cell k1
      replace k2 := k2.ext hE6
      obtain ⟨hjl1, hjl2⟩ := HV.out _ (List.getElem_mem hjl)
      have HT := Lib.hid (show firstT ll (j + 1) = firstT ll j ++ [ll[j]] from List.take_succ_eq_append_getElem hjl)
      generalize ls j = yy at k1 k2
      obtain ⟨ya, yc, rfl⟩ := k2.form
      have hlt : (firstT ll j).length ≤ 1048576 := by unfold firstT; rw [List.length_take]; omega
      have HLT := Lib.hid hlt
      clear hlt
      generalize ll[j] = X at *
      go_wp2_with fail
      refine (clone_any _ _ _ k2 hjl1 hjl2).mono ?_
      rintro e w7 ⟨u, fu, rfl, hE7, hu, hfu⟩
      obtain ⟨xa', xc', rfl⟩ := hu.form
      have hsz7 := hE6.size
      have hA7 : Ext w7 (w7.alloc (.cells #[.slice xa' X.length xc'] 37)) := (Ext.refl' w7).alloc (Nat.le_refl _) _
      have hd7 : ∀ g ∈ fu, g ∉ fp := fun g hg hm => by have := hfu g hg; have := ho6.lt g hm; omega
      go_wp2_with (at_builtin; (refine OII.app (ho6.ext (hE7.tr hA7)) hfp (by have := hE7.size; have := hA7.size; omega) (hu.ext hA7) (fun g hg => by have := hfu g hg; omega) hd7 HLT.out (b' := w7.heap.size) (u := .slice xa' X.length xc') (by simp [go_sem]) rfl (.tmp 13) (.tmp 16) rfl rfl rfl ?_))
      intro v' w8 fp' ho8 hfp8 hkeep
      have hE8 := hkeep w (hE6.tr (hE7.tr hA7)) (Nat.le_refl _)
      rw [← HT.out] at ho8
      clear hkeep ho6 hu hE7 hA7 hE6
      go_wp2_with fail
      go_roundw
      case rel => exact ⟨j + 1, fp', by omega, by go_num, hE8, ho8, hfp8⟩
      case measure => simp [intOf]; omega
    · have hTe : firstT ll j = ll := List.take_of_length_le (by omega)
      have ho7 : OII wr (.slice va (firstT ll j).length vc) ll fp := by
        have := ho6
        rw [hTe] at this ⊢
        exact this
      clear hTe
      go_wp2_with fail
      go_ret
      exact ⟨_, fp, rfl, hE6, ho7, hfp⟩
end Go.Proofs.YtajkepdfemdagaaGreatDoor
namespace Go.Proofs.YtajkepdfemdagaaGreatDoor
open Go.RowKit
set_option linter.unusedVariables false

def cmpI (a b : Int) : Int := if a < b then -1 else if b < a then 1 else 0
/-- lists in order: the first place where they differ; what ends first comes first -/
def cmpL : List Int → List Int → Int
  | [], [] => 0
  | [], _ :: _ => -1
  | _ :: _, [] => 1
  | a :: xs, b :: ys => if a = b then cmpL xs ys else cmpI a b
def before (a b : List Int) : Bool := decide (cmpL a b < 0)
def okT (s m : Int) (ts : List (List Int)) (k : Nat) : Bool := vals s (ts.getD k []) m && (k == 0 || before (ts.getD (k - 1) []) (ts.getD k []))
def SValidRel (s : Int) (r : Int × List (List Int)) : Bool := inB s 1 4 && inB r.1 1 4 && (List.range r.2.length).all (okT s r.1 r.2)

theorem cmpL_drop : ∀ (a b : List Int) (k : Nat), a.take k = b.take k → k ≤ a.length → k ≤ b.length → cmpL a b = cmpL (a.drop k) (b.drop k)
  | _, _, 0, _, _, _ => by simp
  | [], _, k + 1, _, h, _ => by simp at h
  | _, [], k + 1, _, _, h => by simp at h
  | a :: xs, b :: ys, k + 1, h, h1, h2 => by
    simp only [List.take_succ_cons, List.cons.injEq] at h
    simp only [cmpL, if_pos h.1, List.drop_succ_cons]
    exact cmpL_drop xs ys k h.2 (by simpa using h1) (by simpa using h2)
theorem cmpL_here {a b : List Int} {k : Nat} (h : a.take k = b.take k) (h1 : k < a.length) (h2 : k < b.length) (hne : ¬ a[k] = b[k]) : cmpL a b = cmpI a[k] b[k] := by
  rw [cmpL_drop a b k h (by omega) (by omega), List.drop_eq_getElem_cons h1, List.drop_eq_getElem_cons h2, cmpL, if_neg hne]
theorem cmpL_short {a b : List Int} {k : Nat} (h : a.take k = b.take k) (h1 : k < a.length) (h2 : k = b.length) : cmpL a b = 1 := by
  rw [cmpL_drop a b k h (by omega) (by omega), List.drop_eq_getElem_cons h1, List.drop_of_length_le (show b.length ≤ k by omega)]
  rfl
theorem cmpL_end {a b : List Int} (h : a = b.take a.length) (hl : a.length ≤ b.length) : cmpL a b = if a.length < b.length then -1 else 0 := by
  rw [cmpL_drop a b a.length (by rw [List.take_length]; exact h) (Nat.le_refl _) hl, List.drop_length]
  by_cases hh : a.length < b.length
  · rw [if_pos hh, List.drop_eq_getElem_cons hh]
    rfl
  · rw [if_neg hh, List.drop_of_length_le (by omega)]
    rfl

theorem cmpInt_any (a b : Int) (w : World) :
    Calls Tryz.prog 111 #[.int .i64 a, .int .i64 b] w fun e w' => e = .returned (.int .i64 (cmpI a b)) ∧ w = w' := by
  have hn : ∀ x w, Calls Tryz.prog 153 #[.int .i64 x] w fun e w' => e = .returned (.bool false) ∧ w = w' := by
    intro x w
    go_enter Tryz.func153, Tryz.ntmps153
    go_wp2_with fail
    go_ret
    exact ⟨rfl, rfl⟩
  by_cases h1 : a < b
  · have HC := Lib.hid (show cmpI a b = -1 from if_pos h1)
    go_enter Tryz.func111, Tryz.ntmps111
    go_wp2_with (go_at_call 153; refine (hn _ _).mono ?_; rintro e w' ⟨rfl, rfl⟩)
    go_ret
    exact ⟨ret_int HC.out.symm, rfl⟩
  · by_cases h2 : b < a
    · have HC := Lib.hid (show cmpI a b = 1 from by unfold cmpI; rw [if_neg h1, if_pos h2])
      go_enter Tryz.func111, Tryz.ntmps111
      go_wp2_with (go_at_call 153; refine (hn _ _).mono ?_; rintro e w' ⟨rfl, rfl⟩)
      go_ret
      exact ⟨ret_int HC.out.symm, rfl⟩
    · have HC := Lib.hid (show cmpI a b = 0 from by unfold cmpI; rw [if_neg h1, if_neg h2])
      go_enter Tryz.func111, Tryz.ntmps111
      go_wp2_with (go_at_call 153; refine (hn _ _).mono ?_; rintro e w' ⟨rfl, rfl⟩)
      go_ret
      exact ⟨ret_int HC.out.symm, rfl⟩
theorem cmpI_eq (a : Int) : cmpI a a = 0 := by simp [cmpI]
theorem cmpI_ne {a b : Int} (h : ¬ a = b) : ¬ cmpI a b = 0 := by
  unfold cmpI
  split
  · omega
  · split
    · omega
    · omega
set_option maxHeartbeats 1000000 in
theorem compare_any (l m : List Int) (v u : Value) (w : World) (hr : RdI w v l) (hs : RdI w u m) :
    Calls Tryz.prog 66 #[v, u] w fun e w' => e = .returned (.int .i64 (cmpL l m)) ∧ w = w' := by
  obtain ⟨a, b, off, c, rfl, hlc, hcm, ha, hc⟩ := hr
  obtain ⟨a', b', off', c', rfl, hlc', hcm', ha', hc'⟩ := hs
  go_enter Tryz.func66, Tryz.ntmps66
  go_wp2_with fail
  go_loop [11] (fun i => ∃ k : Nat, k ≤ l.length ∧ k ≤ m.length ∧ i = .int .i64 k ∧ l.take k = m.take k) (fun i => l.length - (intOf i).toNat)
  case atStart => exact ⟨0, by omega, by omega, rfl, rfl⟩
  case round =>
    obtain ⟨k, hk, hk2, rfl, ht⟩ := hrel
    have HT := Lib.hid ht
    clear ht
    by_cases hkl : k < l.length
    · obtain rfl := ha (by omega)
      have h1 := hc k hkl
      by_cases hkm : k < m.length
      · obtain rfl := ha' (by omega)
        have h2 := hc' k hkm
        by_cases hlk : l[k] = m[k]
        · have HK := Lib.hid (show l.take (k + 1) = m.take (k + 1) from by rw [List.take_succ_eq_append_getElem hkl, List.take_succ_eq_append_getElem hkm, HT.out, hlk])
          have hz : cmpI l[k] m[k] = 0 := by rw [hlk]; exact cmpI_eq _
          clear hlk
          go_wp2_with (go_at_call 111; refine (cmpInt_any _ _ _).mono ?_; rintro e w' ⟨rfl, rfl⟩; rw [hz])
          go_round
          case rel => exact ⟨k + 1, by omega, by omega, by go_num, HK.out⟩
          case measure => simp [intOf]; omega
        · have HC := Lib.hid (cmpL_here HT.out hkl hkm hlk)
          have hnz := cmpI_ne hlk
          clear hlk
          go_wp2_with (go_at_call 111; refine (cmpInt_any _ _ _).mono ?_; rintro e w' ⟨rfl, rfl⟩)
          go_ret
          exact ⟨ret_int HC.out.symm, rfl⟩
      · have HC := Lib.hid (cmpL_short HT.out hkl (by omega))
        go_wp2_with fail
        go_ret
        exact ⟨ret_int HC.out.symm, rfl⟩
    · have hkk : k = l.length := by omega
      have hE := cmpL_end (a := l) (b := m) (by have := HT.out; rw [hkk, List.take_length] at this; exact this) (by omega)
      have HC := Lib.hid hE
      clear hE
      by_cases hlt : l.length < m.length
      · have HD := Lib.hid (HC.out.trans (if_pos hlt))
        go_wp2_with fail
        go_ret
        exact ⟨ret_int HD.out.symm, rfl⟩
      · have HD := Lib.hid (HC.out.trans (if_neg hlt))
        go_wp2_with fail
        go_ret
        exact ⟨ret_int HD.out.symm, rfl⟩
set_option maxHeartbeats 1000000 in
theorem l01Before_any (l m : List Int) (v u : Value) (w : World) (hr : RdI w v l) (hs : RdI w u m) (hlen : l.length = m.length) :
    Calls Tryz.prog 114 #[v, u] w fun e w' => e = .returned (.bool (before l m)) ∧ Qt w w' := by
  obtain ⟨a, b, off, c, rfl, hlc, hcm, ha, hc⟩ := hr
  obtain ⟨a', b', off', c', rfl, hlc', hcm', ha', hc'⟩ := hs
  have HL := Lib.hid hlen
  clear hlen
  go_enter Tryz.func114, Tryz.ntmps114
  go_wp2_with fail
  go_loopw [5] (fun i wr => ∃ k : Nat, k ≤ l.length ∧ i = .int .i64 k ∧ Qt w wr ∧ l.take k = m.take k) (fun i _ => l.length - (intOf i).toNat)
  case atStart => exact ⟨0, by omega, rfl, Qt.refl _, rfl⟩
  case round =>
    obtain ⟨k, hk, rfl, hE, ht⟩ := hrel
    have HT := Lib.hid ht
    clear ht
    by_cases hkl : k < l.length
    · have hkm : k < m.length := by have := HL.out; omega
      obtain rfl := ha (by omega)
      obtain rfl := ha' (by omega)
      have h1 := hE.ext.cell (hc k hkl)
      have h2 := hE.ext.cell (hc' k hkm)
      by_cases hlk : l[k] = m[k]
      · have HK := Lib.hid (show l.take (k + 1) = m.take (k + 1) from by rw [List.take_succ_eq_append_getElem hkl, List.take_succ_eq_append_getElem hkm, HT.out, hlk])
        have hz : (l[k] != m[k]) = false := by simp [hlk]
        clear hlk
        go_wp2_with fail
        go_quiet (fail)
        have hnx : Qt w (wr.drewN nq) := hE.drewN _
        go_wp2_with fail
        go_roundw
        case rel => exact ⟨k + 1, by omega, by go_num, hnx, HK.out⟩
        case measure => simp [intOf]; omega
      · have HC := Lib.hid (show before l m = decide (l[k] < m[k]) from by
          unfold before
          rw [cmpL_here HT.out hkl hkm hlk]
          unfold cmpI
          by_cases h : l[k] < m[k]
          · simp [h]
          · rw [if_neg h, if_pos (by omega)]; simp [h])
        have hz : (l[k] != m[k]) = true := by simp [hlk]
        clear hlk
        go_wp2_with fail
        go_quiet (fail)
        have hnx : Qt w (wr.drewN nq) := hE.drewN _
        have h1 := hnx.ext.cell (hc k hkl)
        have h2 := hnx.ext.cell (hc' k hkm)
        generalize wr.drewN nq = w2 at hnx h1 h2 ⊢
        go_wp2_with fail
        go_quiet (fail)
        have hnx : Qt w (w2.drewN nq) := hnx.drewN _
        go_wp2_with fail
        go_ret
        exact ⟨ret_bool HC.out.symm, hnx⟩
    · have hkk : k = l.length := by omega
      have HC := Lib.hid (show before l m = false from by
        have h1 := HL.out
        have h2 := HT.out
        rw [hkk, List.take_length] at h2
        unfold before
        rw [cmpL_end h2 (by omega), if_neg (by omega)]
        rfl)
      go_wp2_with fail
      go_ret
      exact ⟨ret_bool HC.out.symm, hE⟩

theorem vals_len {s m : Int} {l : List Int} (h : vals s l m = true) : (l.length : Int) = m := by
  unfold vals at h
  rw [Bool.and_eq_true, decide_eq_true_eq] at h
  exact h.1
theorem okT_zero {s m : Int} {ts : List (List Int)} (h : 0 < ts.length) : okT s m ts 0 = vals s ts[0] m := by
  unfold okT
  rw [List.getD_eq_getElem?_getD, List.getElem?_eq_getElem h]
  simp
theorem okT_succ {s m : Int} {ts : List (List Int)} {j : Nat} (h : j + 1 < ts.length) : okT s m ts (j + 1) = (vals s ts[j + 1] m && before ts[j] ts[j + 1]) := by
  unfold okT
  rw [List.getD_eq_getElem?_getD, List.getElem?_eq_getElem h, Nat.add_sub_cancel, List.getD_eq_getElem?_getD, List.getElem?_eq_getElem (by omega)]
  simp
theorem okT_vals {s m : Int} {ts : List (List Int)} {j : Nat} (h : j < ts.length) (ho : okT s m ts j = true) : vals s ts[j] m = true := by
  unfold okT at ho
  rw [List.getD_eq_getElem?_getD, List.getElem?_eq_getElem h, Bool.and_eq_true] at ho
  exact ho.1
theorem SValidRel_size {s : Int} {r : Int × List (List Int)} (h : inB s 1 4 = false) : SValidRel s r = false := by unfold SValidRel; rw [h]; rfl
theorem SValidRel_arity {s : Int} {r : Int × List (List Int)} (h : inB r.1 1 4 = false) : SValidRel s r = false := by unfold SValidRel; rw [h]; simp
theorem SValidRel_no {s : Int} {r : Int × List (List Int)} {k : Nat} (hk : k < r.2.length) (h : okT s r.1 r.2 k = false) : SValidRel s r = false := by
  unfold SValidRel
  rw [show (List.range r.2.length).all (okT s r.1 r.2) = false from by rw [List.all_eq_false]; exact ⟨k, List.mem_range.2 hk, by simp [h]⟩, Bool.and_false]
theorem SValidRel_yes {s : Int} {r : Int × List (List Int)} (h1 : inB s 1 4 = true) (h2 : inB r.1 1 4 = true) (h : ∀ j, j < r.2.length → okT s r.1 r.2 j = true) : SValidRel s r = true := by
  unfold SValidRel
  rw [h1, h2, show (List.range r.2.length).all (okT s r.1 r.2) = true from by rw [List.all_eq_true]; exact fun k hk => h k (List.mem_range.1 hk)]
  rfl
theorem okT_next {s m : Int} {ts : List (List Int)} {k : Nat} (h : ∀ j, j < k → okT s m ts j = true) (hk : okT s m ts k = true) : ∀ j, j < k + 1 → okT s m ts j = true := fun j hj => if hh : j = k then by rw [hh]; exact hk else h j (by omega)
theorem before_ge {a b : List Int} {x : Bool} (h : before a b = x) : decide (cmpL a b ≥ 0) = !x := by
  subst h
  unfold before
  rw [Bool.eq_iff_iff]
  simp

set_option maxHeartbeats 2000000 in
theorem implValidRel_ok (s : Int) (r : Int × List (List Int)) (v : Value) (w : World) (hr : RdRel w v r) :
    Calls Tryz.prog 20 #[.int .i64 s, v] w fun e w' => e = .returned (.bool (SValidRel s r)) ∧ Ext w w' := by
  obtain ⟨tv, rfl, hr⟩ := hr
  obtain ⟨a, b, off, cap, vs, rfl, hlc, hcm, ha, hc⟩ := hr
  have hE1 : Ext w (w.alloc (.cells #[.int .i64 r.1, .slice a r.2.length cap] 35)) := (Ext.refl' w).alloc (Nat.le_refl _) _
  cases h1 : inB s 1 4 with
  | false =>
    have HV := Lib.hid (SValidRel_size (r := r) h1)
    go_enter Tryz.func20, Tryz.ntmps20
    go_wp2_with (first | (go_at_call 61; refine (isSize_any _ _).mono ?_; rintro e w' ⟨rfl, rfl⟩) | (go_at_call 62; refine (isArity_any _ _).mono ?_; rintro e w' ⟨rfl, rfl⟩))
    go_ret
    exact ⟨ret_bool HV.out.symm, hE1⟩
  | true =>
    have hb1 := inB_iff.1 h1
    cases h2 : inB r.1 1 4 with
    | false =>
      have HV := Lib.hid (SValidRel_arity (s := s) h2)
      go_enter Tryz.func20, Tryz.ntmps20
      go_wp2_with (first | (go_at_call 61; refine (isSize_any _ _).mono ?_; rintro e w' ⟨rfl, rfl⟩) | (go_at_call 62; refine (isArity_any _ _).mono ?_; rintro e w' ⟨rfl, rfl⟩))
      go_ret
      exact ⟨ret_bool HV.out.symm, hE1⟩
    | true =>
      have hb2 := inB_iff.1 h2
      go_enter Tryz.func20, Tryz.ntmps20
      go_wp2_with (first | (go_at_call 61; refine (isSize_any _ _).mono ?_; rintro e w' ⟨rfl, rfl⟩) | (go_at_call 62; refine (isArity_any _ _).mono ?_; rintro e w' ⟨rfl, rfl⟩))
      have H1 := Lib.hid h1
      have H2 := Lib.hid h2
      clear h1 h2
      go_loopw [19] (fun i wr => ∃ k : Nat, k ≤ r.2.length ∧ i = .int .i64 k ∧ Ext (w.alloc (.cells #[.int .i64 r.1, .slice a r.2.length cap] 35)) wr ∧ ∀ j, j < k → okT s r.1 r.2 j = true)
        (fun i _ => r.2.length - (intOf i).toNat)
      case atStart => exact ⟨0, by omega, rfl, Ext.refl' _, fun j hj => by omega⟩
      case round =>
        obtain ⟨k, hk, rfl, hE, hT⟩ := hrel
        have HT := Lib.hid hT
        clear hT
        have c0 := hE.cell (p := ⟨w.heap.size, 0, none⟩) (v := .int .i64 r.1) (by simp [go_sem])
        have c1 := hE.cell (p := ⟨w.heap.size, 1, none⟩) (v := .slice a r.2.length cap) (by simp [go_sem])
        have hE2 := hE1.tr hE
        by_cases hkl : k < r.2.length
        · obtain rfl := ha (by omega)
          obtain ⟨k1, k2⟩ := hc k hkl
          have e1 := hE2.cell k1
          cases hv : vals s r.2[k] r.1 with
          | false =>
            have HN := Lib.hid (SValidRel_no (s := s) hkl (by unfold okT; rw [List.getD_eq_getElem?_getD, List.getElem?_eq_getElem hkl]; simp [hv]))
            go_wp2_with fail
            refine (areValues_any s _ _ _ _ (k2.ext hE2) (by omega) (by omega)).mono ?_
            rintro e w2 ⟨rfl, hE3⟩
            rw [hv]
            go_wp2_with fail
            go_ret
            exact ⟨ret_bool HN.out.symm, hE2.tr hE3⟩
          | true =>
            rcases Nat.eq_zero_or_pos k with rfl | hpos
            · have HK := Lib.hid (okT_next HT.out (show okT s r.1 r.2 0 = true from by rw [okT_zero hkl]; exact hv))
              have e1 : wr.cell? ⟨b, off, none⟩ = some (vs 0) := by simpa using e1
              go_wp2_with fail
              refine (areValues_any s _ _ _ _ (k2.ext hE2) (by omega) (by omega)).mono ?_
              rintro e w2 ⟨rfl, hE3⟩
              rw [hv]
              go_wp2_with fail
              go_roundw
              case rel => exact ⟨0 + 1, by omega, by go_num, hE.tr hE3, HK.out⟩
              case measure => simp [intOf]; omega
            · obtain ⟨j, rfl⟩ : ∃ j, k = j + 1 := ⟨k - 1, by omega⟩
              obtain ⟨k3, k4⟩ := hc j (by omega)
              have e2 := hE2.cell k3
              cases hbf : before r.2[j] r.2[j + 1] with
              | true =>
                have HK := Lib.hid (okT_next HT.out (show okT s r.1 r.2 (j + 1) = true from by rw [okT_succ hkl, hv, hbf]; rfl))
                have hcmp := before_ge hbf
                go_wp2_with fail
                refine (areValues_any s _ _ _ _ (k2.ext hE2) (by omega) (by omega)).mono ?_
                rintro e w2 ⟨rfl, hE3⟩
                rw [hv]
                have c1 := hE3.cell c1
                have e2 := hE3.cell e2
                go_wp2_with (go_at_call 66; refine (compare_any _ _ _ _ _ ((k4.ext hE2).ext hE3) ((k2.ext hE2).ext hE3)).mono ?_; rintro e w' ⟨rfl, rfl⟩)
                go_roundw
                case rel => exact ⟨j + 1 + 1, by omega, by go_num, hE.tr hE3, HK.out⟩
                case measure => simp [intOf]; omega
              | false =>
                have HN := Lib.hid (SValidRel_no (s := s) hkl (show okT s r.1 r.2 (j + 1) = false from by rw [okT_succ hkl, hbf, Bool.and_false]))
                have hcmp := before_ge hbf
                go_wp2_with fail
                refine (areValues_any s _ _ _ _ (k2.ext hE2) (by omega) (by omega)).mono ?_
                rintro e w2 ⟨rfl, hE3⟩
                rw [hv]
                have c1 := hE3.cell c1
                have e2 := hE3.cell e2
                go_wp2_with (go_at_call 66; refine (compare_any _ _ _ _ _ ((k4.ext hE2).ext hE3) ((k2.ext hE2).ext hE3)).mono ?_; rintro e w' ⟨rfl, rfl⟩)
                go_ret
                exact ⟨ret_bool HN.out.symm, hE2.tr hE3⟩
        · have HY := Lib.hid (SValidRel_yes H1.out H2.out fun j hj => HT.out j (by omega))
          go_wp2_with fail
          go_ret
          exact ⟨ret_bool HY.out.symm, hE2⟩
theorem implValidRel_any (s : Int) (r : Int × List (List Int)) (v : Value) (w : World) (hr : RdRel w v r) (_ : -9223372036854775808 ≤ s) (_ : s ≤ 9223372036854775807) (_ : szRel r ≤ 1048576) :
    Calls Tryz.prog 20 #[.int .i64 s, v] w fun e w' => e = .returned (.bool (SValidRel s r)) ∧ Ext w w' := implValidRel_ok s r v w hr
set_option maxHeartbeats 2000000 in
theorem l01Ok_any (s : Int) (r : Int × List (List Int)) (v : Value) (w : World) (hr : PtRel w v r) :
    Calls Tryz.prog 67 #[.int .i64 s, v] w fun e w' => e = .returned (.bool (SValidRel s r)) ∧ Qt w w' := by
  obtain ⟨b0, off0, tv, rfl, c0, c1, hr⟩ := hr
  obtain ⟨a, b, off, cap, vs, rfl, hlc, hcm, ha, hc⟩ := hr
  cases h1 : inB s 1 4 with
  | false =>
    have HV := Lib.hid (SValidRel_size (r := r) h1)
    go_enter Tryz.func67, Tryz.ntmps67
    go_wp2_with (first | (go_at_call 92; refine (l01Size_any _ _).mono ?_; rintro e w' ⟨rfl, rfl⟩) | (go_at_call 112; refine (l01Arity_any _ _).mono ?_; rintro e w' ⟨rfl, rfl⟩))
    go_ret
    exact ⟨ret_bool HV.out.symm, Qt.refl _⟩
  | true =>
    have hb1 := inB_iff.1 h1
    cases h2 : inB r.1 1 4 with
    | false =>
      have HV := Lib.hid (SValidRel_arity (s := s) h2)
      go_enter Tryz.func67, Tryz.ntmps67
      go_wp2_with (first | (go_at_call 92; refine (l01Size_any _ _).mono ?_; rintro e w' ⟨rfl, rfl⟩) | (go_at_call 112; refine (l01Arity_any _ _).mono ?_; rintro e w' ⟨rfl, rfl⟩))
      go_ret
      exact ⟨ret_bool HV.out.symm, Qt.refl _⟩
    | true =>
      have hb2 := inB_iff.1 h2
      go_enter Tryz.func67, Tryz.ntmps67
      go_wp2_with (first | (go_at_call 92; refine (l01Size_any _ _).mono ?_; rintro e w' ⟨rfl, rfl⟩) | (go_at_call 112; refine (l01Arity_any _ _).mono ?_; rintro e w' ⟨rfl, rfl⟩))
      have H1 := Lib.hid h1
      have H2 := Lib.hid h2
      clear h1 h2
      go_loopw [5] (fun i wr => ∃ k : Nat, k ≤ r.2.length ∧ i = .int .i64 k ∧ Qt w wr ∧ ∀ j, j < k → okT s r.1 r.2 j = true)
        (fun i _ => r.2.length - (intOf i).toNat)
      case atStart => exact ⟨0, by omega, rfl, Qt.refl _, fun j hj => by omega⟩
      case round =>
        obtain ⟨k, hk, rfl, hE, hT⟩ := hrel
        have HT := Lib.hid hT
        clear hT
        replace c0 := hE.ext.cell c0
        replace c1 := hE.ext.cell c1
        by_cases hkl : k < r.2.length
        · obtain rfl := ha (by omega)
          obtain ⟨k1, k2⟩ := hc k hkl
          replace k2 := k2.ext hE.ext
          have e1 := hE.ext.cell k1
          cases hv : vals s r.2[k] r.1 with
          | false =>
            have HN := Lib.hid (SValidRel_no (s := s) hkl (by unfold okT; rw [List.getD_eq_getElem?_getD, List.getElem?_eq_getElem hkl]; simp [hv]))
            go_wp2_with fail
            go_quiet ((go_at_call 113; exact Calls.qsv (.bool false) (l01Tuple_any s r.1 _ _ _ (k2.ext (Qt.ext ⟨_, rfl⟩)) (by omega) (by omega)) (by rw [hv])))
            go_wp2_with fail
            go_ret
            exact ⟨ret_bool HN.out.symm, hE.drewN _⟩
          | true =>
            rcases Nat.eq_zero_or_pos k with rfl | hpos
            · have HK := Lib.hid (okT_next HT.out (show okT s r.1 r.2 0 = true from by rw [okT_zero hkl]; exact hv))
              have e1 : wr.cell? ⟨b, off, none⟩ = some (vs 0) := by simpa using e1
              go_wp2_with fail
              go_quiet ((go_at_call 113; exact Calls.qsv (.bool true) (l01Tuple_any s r.1 _ _ _ (k2.ext (Qt.ext ⟨_, rfl⟩)) (by omega) (by omega)) (by rw [hv])))
              go_wp2_with fail
              go_roundw
              case rel => exact ⟨0 + 1, by omega, by go_num, hE.drewN _, HK.out⟩
              case measure => simp [intOf]; omega
            · obtain ⟨j, rfl⟩ : ∃ j, k = j + 1 := ⟨k - 1, by omega⟩
              obtain ⟨k3, k4⟩ := hc j (by omega)
              replace k4 := k4.ext hE.ext
              have e2 := hE.ext.cell k3
              have hll : r.2[j].length = r.2[j + 1].length := by
                have q1 := vals_len hv
                have q2 := vals_len (okT_vals (by omega) (HT.out j (by omega)))
                omega
              cases hbf : before r.2[j] r.2[j + 1] with
              | true =>
                have HK := Lib.hid (okT_next HT.out (show okT s r.1 r.2 (j + 1) = true from by rw [okT_succ hkl, hv, hbf]; rfl))
                go_wp2_with fail
                go_quiet ((first | (go_at_call 113; exact Calls.qsv (.bool true) (l01Tuple_any s r.1 _ _ _ (k2.ext (Qt.ext ⟨_, rfl⟩)) (by omega) (by omega)) (by rw [hv])) | (go_at_call 114; refine Calls.quiet_of (v := .bool true) ?_; refine (l01Before_any _ _ _ _ _ (k4.ext (Qt.ext ⟨_, rfl⟩)) (k2.ext (Qt.ext ⟨_, rfl⟩)) hll).mono ?_; rintro e w' ⟨he, hq⟩; exact ⟨by rw [he, hbf], hq⟩)))
                go_wp2_with fail
                go_roundw
                case rel => exact ⟨j + 1 + 1, by omega, by go_num, hE.drewN _, HK.out⟩
                case measure => simp [intOf]; omega
              | false =>
                have HN := Lib.hid (SValidRel_no (s := s) hkl (show okT s r.1 r.2 (j + 1) = false from by rw [okT_succ hkl, hbf, Bool.and_false]))
                go_wp2_with fail
                go_quiet ((first | (go_at_call 113; exact Calls.qsv (.bool true) (l01Tuple_any s r.1 _ _ _ (k2.ext (Qt.ext ⟨_, rfl⟩)) (by omega) (by omega)) (by rw [hv])) | (go_at_call 114; refine Calls.quiet_of (v := .bool false) ?_; refine (l01Before_any _ _ _ _ _ (k4.ext (Qt.ext ⟨_, rfl⟩)) (k2.ext (Qt.ext ⟨_, rfl⟩)) hll).mono ?_; rintro e w' ⟨he, hq⟩; exact ⟨by rw [he, hbf], hq⟩)))
                go_wp2_with fail
                go_ret
                exact ⟨ret_bool HN.out.symm, hE.drewN _⟩
        · have HY := Lib.hid (SValidRel_yes H1.out H2.out fun j hj => HT.out j (by omega))
          go_wp2_with fail
          go_ret
          exact ⟨ret_bool HY.out.symm, hE⟩
end Go.Proofs.YtajkepdfemdagaaGreatDoor
