
/- The laws' own functions over a list of lists of integers. -/
import Derived.Test.YtajkepdfemdagaaGreatDoorLists
namespace Go.Proofs.YtajkepdfemdagaaGreatDoor
open Go.RowKit
set_option linter.unusedVariables false

def eI (w : World) (c : List Value) (l : List Int) (f : List Nat) : Prop := ∃ u, c = [u] ∧ OI w u l f
theorem OI.nodup {w : World} {v : Value} {l : List Int} {fp : List Nat} (h : OI w v l fp) : fp.Nodup := by
  rw [h.2]
  cases v.ownBlock <;> simp
theorem eI_ok : ElemOk eI :=
  ⟨fun ⟨u, h1, h2⟩ hb => ⟨u, h1, h2.kept hb⟩, fun ⟨u, h1, h2⟩ => h2.lt, fun ⟨u, h1, h2⟩ => h2.nodup⟩
/-- v owns the lists ll, all blocks: fp -/
abbrev OII (w : World) (v : Value) (ll : List (List Int)) (fp : List Nat) : Prop := OwnL 1 37 eI w v ll fp
theorem OII.ext {w w' : World} {v : Value} {ll : List (List Int)} {fp : List Nat} (h : OII w v ll fp) (hE : Ext w w') : OII w' v ll fp := OwnL.ext eI_ok h hE
theorem OII.off {w w' : World} {v : Value} {ll : List (List Int)} {fp fp' : List Nat} (h : OII w v ll fp) (hO : Off fp' w w') (hd : ∀ g ∈ fp, g ∉ fp') : OII w' v ll fp := OwnL.off eI_ok h hO hd
theorem OII.lt {w : World} {v : Value} {ll : List (List Int)} {fp : List Nat} (h : OII w v ll fp) : ∀ g ∈ fp, g < w.heap.size := OwnL.lt eI_ok h
theorem OII.form {w : World} {v : Value} {ll : List (List Int)} {fp : List Nat} (h : OII w v ll fp) : ∃ a c, v = .slice a ll.length c := OwnL.form h
theorem OII.rd {w : World} {v : Value} {ll : List (List Int)} {fp : List Nat} (h : OII w v ll fp) : RdII w v ll := by
  obtain ⟨a, b, cap, cs, hv, h1, h2, h3, h4⟩ := OwnL.at (by omega) h
  refine ⟨a, b, 0, cap, fun j => ((cs j)[0]?).getD undef, hv, h1, h2, h3, fun j hj => ?_⟩
  obtain ⟨k1, k2, f, u, k3, k4⟩ := h4 j hj
  dsimp only
  rw [k3] at k2 ⊢
  have := k2 0 u rfl
  rw [Nat.mul_one, Nat.add_zero] at this
  exact ⟨this, k4.rd⟩
theorem RdII.form {w : World} {v : Value} {ll : List (List Int)} (h : RdII w v ll) : ∃ a c, v = .slice a ll.length c := by
  obtain ⟨a, b, off, cap, vs, hv, _⟩ := h
  exact ⟨a, cap, hv⟩
theorem OII_nil (w : World) : OII w (.slice none 0 0) [] [] := OwnL.nil w

/-- how many cells a list of lists has -/
def szII : List (List Int) → Nat
  | [] => 0
  | l :: ls => 1 + l.length + szII ls
def mkII : List (List Int) → Nat
  | [] => 0
  | l :: ls => l.length + mkII ls
def marksII (k : Int) : List (List Int) → List (List Int)
  | [] => []
  | l :: ls => marksI k l.length :: marksII (k + l.length) ls
def heldII : List (List Int) → Int → Int
  | [], k => k
  | l :: ls, k => if heldI l k < 0 then -1 else heldII ls (heldI l k)
theorem mkII_le : ∀ ll, mkII ll ≤ szII ll
  | [] => Nat.le_refl _
  | l :: ls => by have := mkII_le ls; unfold mkII szII; omega
theorem mkII_marks : ∀ k ll, mkII (marksII k ll) = mkII ll
  | _, [] => rfl
  | k, l :: ls => by simp [marksII, mkII, marksI_length, mkII_marks _ ls]
theorem marksII_length : ∀ k ll, (marksII k ll).length = ll.length
  | _, [] => rfl
  | k, l :: ls => by simp [marksII, marksII_length _ ls]
theorem mkII_take : ∀ (ll : List (List Int)) (k : Nat) (hk : k < ll.length), mkII (ll.take (k + 1)) = mkII (ll.take k) + ll[k].length
  | l :: ls, 0, _ => by simp [mkII]
  | l :: ls, k + 1, h => by simp only [List.take_succ_cons, mkII, mkII_take ls k (by simpa using h), List.getElem_cons_succ]; omega
theorem mkII_take_le : ∀ (ll : List (List Int)) (k : Nat), mkII (ll.take k) ≤ mkII ll
  | [], k => by simp
  | l :: ls, 0 => by simp [mkII]
  | l :: ls, k + 1 => by have := mkII_take_le ls k; simp only [List.take_succ_cons, mkII]; omega
theorem szII_take : ∀ (ll : List (List Int)) (k : Nat) (hk : k < ll.length), szII (ll.take (k + 1)) = szII (ll.take k) + 1 + ll[k].length
  | l :: ls, 0, _ => by simp [szII]
  | l :: ls, k + 1, h => by simp only [List.take_succ_cons, szII, szII_take ls k (by simpa using h), List.getElem_cons_succ]; omega
theorem szII_eq : ∀ ll : List (List Int), szII ll = ll.length + mkII ll
  | [] => rfl
  | l :: ls => by simp only [szII, mkII, List.length_cons, szII_eq ls]; omega
theorem len_le_szII (ll : List (List Int)) : ll.length ≤ szII ll := by have := szII_eq ll; omega
theorem elem_le_szII {ll : List (List Int)} {k : Nat} (hk : k < ll.length) : ll[k].length ≤ szII ll := by
  have h1 := mkII_take ll k hk
  have h2 := mkII_take_le ll (k + 1)
  have h3 := mkII_le ll
  omega
theorem marksII_take : ∀ (ll : List (List Int)) (k0 : Int) (k : Nat) (hk : k < ll.length), marksII k0 (ll.take (k + 1)) = marksII k0 (ll.take k) ++ [marksI (k0 + mkII (ll.take k)) ll[k].length]
  | l :: ls, k0, 0, _ => by simp [marksII, mkII]
  | l :: ls, k0, k + 1, h => by
    simp only [List.take_succ_cons, marksII, mkII, marksII_take ls _ k (by simpa using h), List.getElem_cons_succ, List.cons_append]
    rw [show k0 + (l.length : Int) + (mkII (ls.take k) : Int) = k0 + ((l.length + mkII (ls.take k) : Nat) : Int) by omega]
theorem heldII_marks : ∀ (k : Int) ll, 0 ≤ k → heldII (marksII k ll) k = k + mkII ll
  | k, [], _ => by simp [marksII, heldII, mkII]
  | k, l :: ls, h => by
    simp only [marksII, heldII, mkII]
    rw [heldI_marks, if_neg (by omega), heldII_marks _ ls (by omega)]
    omega
theorem heldI_ge {l : List Int} {k : Int} (hk : 0 ≤ k) (h : ¬ heldI l k < 0) : heldI l k = k + l.length := by
  unfold heldI at h ⊢
  split at h
  · rename_i hh; rw [if_pos hh]
  · omega
theorem heldII_take : ∀ (ll : List (List Int)) (k0 : Int) (k : Nat) (hk : k ≤ ll.length), 0 ≤ k0 → (∀ x, heldII (ll.take k) k0 = x → 0 ≤ x → heldII ll k0 = heldII (ll.drop k) x)
  | ll, k0, 0, _, h0 => fun x hx h => by simp [heldII] at hx; simp [hx]
  | l :: ls, k0, k + 1, hk, h0 => fun x hx h => by
    simp only [List.take_succ_cons, heldII, List.drop_succ_cons] at hx ⊢
    by_cases hh : heldI l k0 < 0
    · rw [if_pos hh] at hx
      omega
    · rw [if_neg hh] at hx ⊢
      exact heldII_take ls _ k (by simpa using hk) (by omega) x hx h



set_option maxHeartbeats 1000000 in
theorem eqInt64SS_any (l m : List (List Int)) (v u : Value) (w : World) (hr : RdII w v l) (hs : RdII w u m) :
    Calls Tryz.prog 149 #[v, u] w fun e w' => e = .returned (.bool (decide (l = m))) ∧ Ext w w' := by
  obtain ⟨a, b, off, cap, vs, rfl, hlc, hcm, ha, hc⟩ := hr
  obtain ⟨a', b', off', cap', vs', rfl, hlc', hcm', ha', hc'⟩ := hs
  by_cases hlen : l.length = m.length
  · have hb : ((l.length : Int) != (m.length : Int)) = false := by simp [hlen]
    go_enter Tryz.func149, Tryz.ntmps149
    go_wp2
    go_loopw [5] (fun i wr => ∃ k : Nat, k ≤ l.length ∧ i = .int .i64 k ∧ Qt w wr ∧ l.take k = m.take k) (fun i _ => l.length - (intOf i).toNat)
    case atStart => exact ⟨0, by omega, rfl, Qt.refl _, rfl⟩
    case round =>
      obtain ⟨k, hk, rfl, hE, ht⟩ := hrel
      have HB := Lib.hid hb
      have HT := Lib.hid ht
      clear hb ht
      by_cases hkl : k < l.length
      · have hkm : k < m.length := by omega
        obtain rfl := ha (by omega)
        obtain rfl := ha' (by omega)
        obtain ⟨h1, k1⟩ := hc k hkl
        obtain ⟨h2, k2⟩ := hc' k hkm
        replace h1 := hE.ext.cell h1
        replace h2 := hE.ext.cell h2
        replace k1 := k1.ext hE.ext
        replace k2 := k2.ext hE.ext
        have HL := Lib.hid hlen
        clear hlen
        by_cases hlk : l[k] = m[k]
        · have hT : decide (l[k] = m[k]) = true := decide_eq_true hlk
          have HK := Lib.hid (show l.take (k + 1) = m.take (k + 1) from by rw [List.take_succ_eq_append_getElem hkl, List.take_succ_eq_append_getElem hkm, HT.out, hlk])
          clear hlk
          go_wp2_with fail
          go_quiet ((go_at_call 171; refine Calls.quiet_of (v := .bool true) ?_; refine (eqInt64S_q _ _ _ _ _ (k1.ext (Qt.ext ⟨_, rfl⟩)) (k2.ext (Qt.ext ⟨_, rfl⟩))).mono ?_; rintro e w' ⟨he, hq⟩; exact ⟨by rw [he, hT], hq⟩))
          have hnx : Qt w (wr.drewN nq) := hE.drewN _
          go_wp2_with fail
          go_roundw
          case rel => exact ⟨k + 1, by omega, by go_num, hnx, HK.out⟩
          case measure => simp [intOf]; omega
        · have hT : decide (l[k] = m[k]) = false := decide_eq_false hlk
          have HN := Lib.hid (show decide (l = m) = false from decide_eq_false fun h => hlk (by subst h; rfl))
          clear hlk
          go_wp2_with fail
          go_quiet ((go_at_call 171; refine Calls.quiet_of (v := .bool false) ?_; refine (eqInt64S_q _ _ _ _ _ (k1.ext (Qt.ext ⟨_, rfl⟩)) (k2.ext (Qt.ext ⟨_, rfl⟩))).mono ?_; rintro e w' ⟨he, hq⟩; exact ⟨by rw [he, hT], hq⟩))
          have hnx : Qt w (wr.drewN nq) := hE.drewN _
          go_wp2_with fail
          go_ret
          exact ⟨ret_bool HN.out.symm, hnx.ext⟩
      · go_wp2
        go_ret
        refine ⟨ret_bool ?_, hE.ext⟩
        have hkk : k = l.length := by omega
        have := HT.out
        rw [hkk, List.take_length, hlen, List.take_length] at this
        simp [this]
  · have hb : ((l.length : Int) != (m.length : Int)) = true := by simp; omega
    have hne : ¬ l = m := fun h => hlen (by rw [h])
    have HN := Lib.hid hne
    clear hne hlen
    go_enter Tryz.func149, Tryz.ntmps149
    go_wp2
    go_ret
    exact ⟨ret_bool (by simp [HN.out]), Ext.refl' _⟩

set_option maxHeartbeats 1000000 in
theorem markInt64SS_any (ll : List (List Int)) (v : Value) (fp : List Nat) (k0 : Int) (w : World) (ho : OII w v ll fp) (hk0 : 0 ≤ k0) (hb : k0 + mkII ll ≤ 4611686018427387904) :
    Calls Tryz.prog 100 #[v, .int .i64 k0] w fun e w' => e = .returned (.int .i64 (k0 + mkII ll)) ∧ Off fp w w' ∧ OII w' v (marksII k0 ll) fp := by
  obtain ⟨a, c, rfl⟩ := ho.form
  have hlen : (ll.length : Int) ≤ 9223372036854775807 := by
    obtain ⟨a', b', off', cap', vs, hv, h1, h2, _⟩ := ho.rd
    omega
  go_enter Tryz.func100, Tryz.ntmps100
  go_wp2
  go_loopw [1, 5] (fun q i wr => ∃ k : Nat, k ≤ ll.length ∧ i = .int .i64 k ∧ q = .int .i64 (k0 + mkII (ll.take k)) ∧ Off fp w wr ∧ OII wr (.slice a ll.length c) (marksII k0 (ll.take k) ++ ll.drop k) fp)
    (fun _ i _ => ll.length - (intOf i).toNat)
  case atStart => exact ⟨0, by omega, rfl, by simp [mkII], Off.refl _ _, by simpa [marksII] using ho⟩
  case round =>
    obtain ⟨k, hk, rfl, rfl, hO, ho1⟩ := hrel
    by_cases hkl : k < ll.length
    · have hT := mkII_take ll k hkl
      have hT2 := mkII_take_le ll (k + 1)
      rw [List.drop_eq_getElem_cons hkl] at ho1
      obtain ⟨cs, b2, cap2, f, fo, hOp, ⟨u, rfl, hu⟩, hd, hfo⟩ := OwnL.open eI_ok ho1
      obtain ⟨hv, q1, q2, q3, q4, q5, q6, q7⟩ := hOp.parts
      simp only [Value.slice.injEq] at hv
      obtain ⟨rfl, hl2, rfl⟩ := hv
      have hA : (marksII k0 (ll.take k)).length = k := by rw [marksII_length]; simp; omega
      have hck := q7 0 u rfl
      rw [hA, Nat.mul_one, Nat.add_zero] at hck
      clear hl2 q1 q7
      go_wp2_with fail
      refine (markInt64S_any _ _ _ _ _ hu (by omega) (by omega)).mono ?_
      rintro e w2 ⟨rfl, hO2, hu2⟩
      have hOp2 := OwnO.off eI_ok hOp hO2 (fun g hg hm => hd g hm hg)
      have hX := OwnO.close (fp := fp) eI_ok hOp2 ⟨_, rfl, hu2⟩ hd hfo
      have hO3 : Off fp w w2 := hO.trans (hO2.mono fun g hg => (hfo g).2 (.inr hg))
      have hM := marksII_take ll k0 k hkl
      have hX2 : OII w2 (.slice (some ⟨b2, 0, none⟩) ll.length c) (marksII k0 (ll.take (k + 1)) ++ ll.drop (k + 1)) fp := by rw [hM, List.append_assoc]; exact hX
      have hQ := Lib.hid (show k0 + (mkII (ll.take k) : Int) + (ll[k].length : Int) = k0 + (mkII (ll.take (k + 1)) : Int) from by omega)
      clear ho1 hOp hOp2 hX hM q6 hA hT
      go_wp2_with fail
      go_roundw
      case rel => exact ⟨k + 1, by omega, by go_num, by rw [hQ.out], hO3, hX2⟩
      case measure => simp [intOf]; omega
    · go_wp2
      go_ret
      have hkk : k = ll.length := by omega
      subst hkk
      rw [List.take_length] at ho1 ⊢
      rw [List.drop_length, List.append_nil] at ho1
      exact ⟨rfl, hO, ho1⟩

set_option maxHeartbeats 1000000 in
theorem heldInt64SS_any (ll : List (List Int)) (v : Value) (k0 : Int) (w : World) (hr : RdII w v ll) (hk0 : 0 ≤ k0) (hb : k0 + mkII ll ≤ 4611686018427387904) :
    Calls Tryz.prog 101 #[v, .int .i64 k0] w fun e w' => e = .returned (.int .i64 (heldII ll k0)) ∧ Ext w w' := by
  obtain ⟨a, b, off, cap, vs, rfl, hlc, hcm, ha, hc⟩ := hr
  go_enter Tryz.func101, Tryz.ntmps101
  go_wp2
  go_loopw [1, 5] (fun q i wr => ∃ k : Nat, k ≤ ll.length ∧ i = .int .i64 k ∧ q = .int .i64 (k0 + mkII (ll.take k)) ∧ Ext w wr ∧ heldII ll k0 = heldII (ll.drop k) (k0 + mkII (ll.take k)))
    (fun _ i _ => ll.length - (intOf i).toNat)
  case atStart => exact ⟨0, by omega, rfl, by simp [mkII], Ext.refl' _, by simp [mkII]⟩
  case round =>
    obtain ⟨k, hk, rfl, rfl, hE, ht⟩ := hrel
    have HT := Lib.hid ht
    clear ht
    by_cases hkl : k < ll.length
    · obtain rfl := ha (by omega)
      obtain ⟨hck, hrk⟩ := hc k hkl
      have hT := mkII_take ll k hkl
      have hT2 := mkII_take_le ll (k + 1)
      replace hck := hE.cell hck
      have hdrop := List.drop_eq_getElem_cons hkl
      by_cases hneg : heldI ll[k] (k0 + mkII (ll.take k)) < 0
      · have HN := Lib.hid (show heldII ll k0 = -1 from by rw [HT.out, hdrop, heldII, if_pos hneg])
        clear hdrop
        go_wp2_with fail
        refine (heldInt64S_any _ _ _ _ (hrk.ext hE) (by omega) (by omega)).mono ?_
        rintro e w2 ⟨rfl, hE2⟩
        go_wp2_with fail
        go_ret
        exact ⟨ret_int HN.out.symm, hE.tr hE2⟩
      · have hge := heldI_ge (by omega) hneg
        have hQ := Lib.hid (show heldI ll[k] (k0 + (mkII (ll.take k) : Int)) = k0 + (mkII (ll.take (k + 1)) : Int) from by rw [hge]; omega)
        have HN := Lib.hid (show heldII ll k0 = heldII (ll.drop (k + 1)) (k0 + mkII (ll.take (k + 1))) from by rw [HT.out, hdrop, heldII, if_neg hneg, hQ.out])
        clear hdrop hge
        go_wp2_with fail
        refine (heldInt64S_any _ _ _ _ (hrk.ext hE) (by omega) (by omega)).mono ?_
        rintro e w2 ⟨rfl, hE2⟩
        go_wp2_with fail
        go_roundw
        case rel => exact ⟨k + 1, by omega, by go_num, by rw [hQ.out], hE.tr hE2, HN.out⟩
        case measure => simp [intOf]; omega
    · go_wp2
      go_ret
      have hkk : k = ll.length := by omega
      have := HT.out
      subst hkk
      rw [List.drop_length] at this
      exact ⟨ret_int (by rw [this]; rfl), hE⟩
end Go.Proofs.YtajkepdfemdagaaGreatDoor
