
/- The laws' own functions over a list of relations. -/
import Derived.Test.YtajkepdfemdagaaDoorII
import Derived.Test.YtajkepdfemdagaaDoorRelT
import Derived.Test.YtajkepdfemdagaaDoorOpSB
import Derived.Test.YtajkepdfemdagaaDoorSteps
namespace Go.Proofs.YtajkepdfemdagaaDoor
open Go.RowKit
set_option linter.unusedVariables false

theorem OII_kept {w w' : World} {v : Value} {l : List (List Int)} {fp : List Nat} (h : OII w v l fp) (hb : ∀ g ∈ fp, w'.heap[g]? = w.heap[g]?) : OII w' v l fp := OwnL.kept eI_ok h hb
theorem OII_canon {w : World} {v : Value} {l : List (List Int)} {fp : List Nat} (h : OII w v l fp) : ∃ fp', fp'.Nodup ∧ (∀ g, g ∈ fp' ↔ g ∈ fp) ∧ OII w v l fp' := by
  obtain ⟨zs, h1, h2, h3, h4, h5⟩ := h
  exact ⟨_, h4, fun g => (h3 g).symm, zs, h1, h2, fun _ => Iff.rfl, h4, h5⟩
theorem heldII_ge : ∀ {l : List (List Int)} {k : Int}, 0 ≤ k → ¬ heldII l k < 0 → heldII l k = k + mkII l
  | [], k, h, _ => by simp [heldII, mkII]
  | l :: ls, k, h, hn => by
    simp only [heldII, mkII] at *
    by_cases hh : heldI l k < 0
    · rw [if_pos hh] at hn; omega
    · rw [if_neg hh] at hn ⊢
      have := heldI_ge h hh
      rw [heldII_ge (by omega) hn]
      omega
/-- v reads as the relations fs -/
def RdRelS (w : World) (v : Value) (fs : List (Int × List (List Int))) : Prop :=
  ∃ a b off cap, ∃ ts : Nat → Value, v = .slice a fs.length cap ∧ fs.length ≤ cap ∧ cap ≤ 9223372036854775807 ∧ (0 < fs.length → a = some ⟨b, off, none⟩) ∧
    ∀ j (h : j < fs.length), w.cell? ⟨b, off + j * 2, none⟩ = some (.int .i64 fs[j].1) ∧ w.cell? ⟨b, off + j * 2 + 1, none⟩ = some (ts j) ∧ RdII w (ts j) fs[j].2
theorem RdRelS.ext {w w' : World} {v : Value} {fs : List (Int × List (List Int))} (h : RdRelS w v fs) (hE : Ext w w') : RdRelS w' v fs := by
  obtain ⟨a, b, off, cap, ts, hv, h1, h2, h3, h4⟩ := h
  exact ⟨a, b, off, cap, ts, hv, h1, h2, h3, fun j hj => ⟨hE.cell (h4 j hj).1, hE.cell (h4 j hj).2.1, (h4 j hj).2.2.ext hE⟩⟩
theorem RdRelS.form {w : World} {v : Value} {fs : List (Int × List (List Int))} (h : RdRelS w v fs) : ∃ a c, v = .slice a fs.length c := by
  obtain ⟨a, b, off, cap, ts, hv, _⟩ := h
  exact ⟨a, cap, hv⟩
theorem RdRelS.nil (w : World) : RdRelS w (.slice none 0 0) [] := ⟨none, 0, 0, 0, fun _ => undef, rfl, by simp, by omega, by simp, by simp⟩

def eRel (w : World) (c : List Value) (f : Int × List (List Int)) (fp : List Nat) : Prop := ∃ tv, c = [.int .i64 f.1, tv] ∧ OII w tv f.2 fp ∧ fp.Nodup
theorem eRel_ok : ElemOk eRel := ⟨fun ⟨u, h1, h2, h3⟩ hb => ⟨u, h1, OII_kept h2 hb, h3⟩, fun ⟨u, h1, h2, _⟩ => h2.lt, fun ⟨u, h1, _, h3⟩ => h3⟩
abbrev OwnRelS (w : World) (v : Value) (fs : List (Int × List (List Int))) (fp : List Nat) : Prop := OwnL 2 36 eRel w v fs fp
theorem OwnRelS.ext {w w' : World} {v : Value} {fs : List (Int × List (List Int))} {fp : List Nat} (h : OwnRelS w v fs fp) (hE : Ext w w') : OwnRelS w' v fs fp := OwnL.ext eRel_ok h hE
theorem OwnRelS.off {w w' : World} {v : Value} {fs : List (Int × List (List Int))} {fp fp' : List Nat} (h : OwnRelS w v fs fp) (hO : Off fp' w w') (hd : ∀ g ∈ fp, g ∉ fp') : OwnRelS w' v fs fp := OwnL.off eRel_ok h hO hd
theorem OwnRelS.lt {w : World} {v : Value} {fs : List (Int × List (List Int))} {fp : List Nat} (h : OwnRelS w v fs fp) : ∀ g ∈ fp, g < w.heap.size := OwnL.lt eRel_ok h
theorem OwnRelS.form {w : World} {v : Value} {fs : List (Int × List (List Int))} {fp : List Nat} (h : OwnRelS w v fs fp) : ∃ a c, v = .slice a fs.length c := OwnL.form h
theorem OwnRelS.rd {w : World} {v : Value} {fs : List (Int × List (List Int))} {fp : List Nat} (h : OwnRelS w v fs fp) : RdRelS w v fs := by
  obtain ⟨a, b, cap, cs, hv, h1, h2, h3, h4⟩ := OwnL.at (by omega) h
  refine ⟨a, b, 0, cap, fun j => ((cs j)[1]?).getD undef, hv, h1, h2, h3, fun j hj => ?_⟩
  obtain ⟨k1, k2, f, u, k3, k4⟩ := h4 j hj
  dsimp only
  rw [k3] at k2 ⊢
  have q0 := k2 0 _ rfl
  have q1 := k2 1 _ rfl
  exact ⟨q0, q1, k4.1.rd⟩

/-- how many cells a list of relations has; its marks -/
def szRelS : List (Int × List (List Int)) → Nat
  | [] => 0
  | f :: fs => 1 + szRel f + szRelS fs
def mkRelS : List (Int × List (List Int)) → Nat
  | [] => 0
  | f :: fs => 1 + mkRel f + mkRelS fs
def marksRelS (k : Int) : List (Int × List (List Int)) → List (Int × List (List Int))
  | [] => []
  | f :: fs => (k, (marksRel (k + 1) f).2) :: marksRelS (k + 1 + mkRel f) fs
def heldRelS : List (Int × List (List Int)) → Int → Int
  | [], k => k
  | f :: fs, k => if f.1 = k then (if heldRel f (k + 1) < 0 then -1 else heldRelS fs (heldRel f (k + 1))) else -1
theorem mkRelS_le : ∀ fs, mkRelS fs ≤ szRelS fs
  | [] => Nat.le_refl _
  | f :: fs => by have := mkRelS_le fs; have := mkRel_le f; unfold mkRelS szRelS; omega
def tbRelS : List (Int × List (List Int)) → Nat
  | [] => 0
  | f :: fs => szRel f + tbRelS fs
theorem szRelS_eq : ∀ fs, szRelS fs = fs.length + tbRelS fs
  | [] => rfl
  | f :: fs => by simp only [szRelS, tbRelS, List.length_cons, szRelS_eq fs]; omega
theorem tbRelS_take : ∀ (fs : List (Int × List (List Int))) (k : Nat) (hk : k < fs.length), tbRelS (fs.take (k + 1)) = tbRelS (fs.take k) + szRel fs[k]
  | f :: fs, 0, _ => by simp [tbRelS]
  | f :: fs, k + 1, h => by simp only [List.take_succ_cons, tbRelS, tbRelS_take fs k (by simpa using h), List.getElem_cons_succ]; omega
theorem tbRelS_take_le : ∀ (fs : List (Int × List (List Int))) (k : Nat), tbRelS (fs.take k) ≤ tbRelS fs
  | [], k => by simp
  | f :: fs, 0 => by simp [tbRelS]
  | f :: fs, k + 1 => by have := tbRelS_take_le fs k; simp only [List.take_succ_cons, tbRelS]; omega
theorem marksRelS_length : ∀ k fs, (marksRelS k fs).length = fs.length
  | _, [] => rfl
  | k, f :: fs => by simp [marksRelS, marksRelS_length _ fs]
theorem mkRel_pair (k : Int) (f : Int × List (List Int)) (a : Int) : mkRel (a, (marksRel k f).2) = mkRel f := mkRel_marks k f
theorem mkRelS_marks : ∀ k fs, mkRelS (marksRelS k fs) = mkRelS fs
  | _, [] => rfl
  | k, f :: fs => by simp only [marksRelS, mkRelS, mkRel_pair, mkRelS_marks _ fs]
theorem mkRelS_take : ∀ (fs : List (Int × List (List Int))) (k : Nat) (hk : k < fs.length), mkRelS (fs.take (k + 1)) = mkRelS (fs.take k) + 1 + mkRel fs[k]
  | f :: fs, 0, _ => by simp [mkRelS]
  | f :: fs, k + 1, h => by simp only [List.take_succ_cons, mkRelS, mkRelS_take fs k (by simpa using h), List.getElem_cons_succ]; omega
theorem mkRelS_take_le : ∀ (fs : List (Int × List (List Int))) (k : Nat), mkRelS (fs.take k) ≤ mkRelS fs
  | [], k => by simp
  | f :: fs, 0 => by simp [mkRelS]
  | f :: fs, k + 1 => by have := mkRelS_take_le fs k; simp only [List.take_succ_cons, mkRelS]; omega
theorem szRelS_take : ∀ (fs : List (Int × List (List Int))) (k : Nat) (hk : k < fs.length), szRelS (fs.take (k + 1)) = szRelS (fs.take k) + 1 + szRel fs[k]
  | f :: fs, 0, _ => by simp [szRelS]
  | f :: fs, k + 1, h => by simp only [List.take_succ_cons, szRelS, szRelS_take fs k (by simpa using h), List.getElem_cons_succ]; omega
theorem szRelS_take_le : ∀ (fs : List (Int × List (List Int))) (k : Nat), szRelS (fs.take k) ≤ szRelS fs
  | [], k => by simp
  | f :: fs, 0 => by simp [szRelS]
  | f :: fs, k + 1 => by have := szRelS_take_le fs k; simp only [List.take_succ_cons, szRelS]; omega
theorem len_le_szRelS : ∀ fs, fs.length ≤ szRelS fs
  | [] => Nat.le_refl _
  | f :: fs => by have := len_le_szRelS fs; simp only [List.length_cons, szRelS]; omega
theorem elem_le_szRelS {fs : List (Int × List (List Int))} {k : Nat} (hk : k < fs.length) : szRel fs[k] ≤ szRelS fs := by
  have h1 := szRelS_take fs k hk
  have h2 := szRelS_take_le fs (k + 1)
  omega
theorem marksRelS_take : ∀ (fs : List (Int × List (List Int))) (k0 : Int) (k : Nat) (hk : k < fs.length), marksRelS k0 (fs.take (k + 1)) = marksRelS k0 (fs.take k) ++ [(k0 + mkRelS (fs.take k), (marksRel (k0 + mkRelS (fs.take k) + 1) fs[k]).2)]
  | f :: fs, k0, 0, _ => by simp [marksRelS, mkRelS]
  | f :: fs, k0, k + 1, h => by
    simp only [List.take_succ_cons, marksRelS, mkRelS, marksRelS_take fs _ k (by simpa using h), List.getElem_cons_succ, List.cons_append]
    rw [show k0 + 1 + (mkRel f : Int) + (mkRelS (fs.take k) : Int) = k0 + ((1 + mkRel f + mkRelS (fs.take k) : Nat) : Int) by omega]
theorem heldRel_ge {f : Int × List (List Int)} {k : Int} (hk : 0 ≤ k) (h : ¬ heldRel f k < 0) : heldRel f k = k + mkRel f := heldII_ge hk h
theorem heldRelS_marks : ∀ (k : Int) fs, 0 ≤ k → heldRelS (marksRelS k fs) k = k + mkRelS fs
  | k, [], _ => by simp [marksRelS, heldRelS, mkRelS]
  | k, f :: fs, h => by
    have e : heldRel (k, (marksRel (k + 1) f).2) (k + 1) = k + 1 + mkRel f := heldRel_marks (k + 1) f (by omega)
    simp only [marksRelS, heldRelS, mkRelS]
    rw [if_pos trivial, e, if_neg (by omega), heldRelS_marks _ fs (by omega)]
    omega
theorem eqRelS_take {l m : List (Int × List (List Int))} {k : Nat} (hl : k < l.length) (hm : k < m.length) (ht : l.take k = m.take k) (h : l[k] = m[k]) : l.take (k + 1) = m.take (k + 1) := by
  rw [List.take_succ_eq_append_getElem hl, List.take_succ_eq_append_getElem hm, ht, h]

set_option maxHeartbeats 1000000 in
theorem szRelS_any (fs : List (Int × List (List Int))) (v : Value) (left : Int) (w : World) (hr : RdRelS w v fs) (h0 : 0 ≤ left) (h1 : left ≤ 1048576) :
    Calls Tryd.prog 46 #[v, .int .i64 left] w fun e w' => e = .returned (.int .i64 (szL left (szRelS fs))) ∧ Ext w w' := by
  obtain ⟨a, b, off, cap, ts, rfl, hlc, hcm, ha, hc⟩ := hr
  have hse := szRelS_eq fs
  by_cases hlt : left < fs.length
  · go_enter Tryd.func46, Tryd.ntmps46
    go_wp2
    go_ret
    exact ⟨ret_int (by unfold szL; rw [if_pos (by omega)]), Ext.refl' _⟩
  · have hl0 : szL left fs.length = left - fs.length := by unfold szL; rw [if_neg hlt]
    go_enter Tryd.func46, Tryd.ntmps46
    go_wp2
    go_loopw [1, 5] (fun q i wr => ∃ k : Nat, k ≤ fs.length ∧ i = .int .i64 k ∧ Ext w wr ∧ q = .int .i64 (szL left (fs.length + tbRelS (fs.take k))) ∧ 0 ≤ szL left (fs.length + tbRelS (fs.take k)) ∧ szL left (fs.length + tbRelS (fs.take k)) ≤ left)
      (fun _ i _ => fs.length - (intOf i).toNat)
    case atStart => exact ⟨0, by omega, rfl, Ext.refl' _, by simp [tbRelS, hl0], by simp [tbRelS, hl0]; omega, by simp [tbRelS, hl0]; omega⟩
    case round =>
      obtain ⟨k, hk, rfl, hE, rfl, hp, hpl⟩ := hrel
      by_cases hkl : k < fs.length
      · obtain rfl := ha (by omega)
        obtain ⟨hc0, hc1, hrk⟩ := hc k hkl
        replace hc0 := hE.cell hc0
        replace hc1 := hE.cell hc1
        have hrd : RdRel wr (.agg #[.int .i64 fs[k].1, ts k]) fs[k] := ⟨_, rfl, hrk.ext hE⟩
        generalize ts k = y at hc1 hrk hrd
        have hT := tbRelS_take fs k hkl
        have hT2 := tbRelS_take_le fs (k + 1)
        have hz := szL_szL (a := left) (n := fs.length + tbRelS (fs.take k)) (m := szRel fs[k]) (by omega)
        by_cases hneg : szL (szL left (fs.length + tbRelS (fs.take k))) (szRel fs[k]) < 0
        · have HN := Lib.hid (show szL left (szRelS fs) = -1 from szL_neg (n := fs.length + tbRelS (fs.take k) + szRel fs[k]) (by rw [← hz]; exact hneg) (by omega) h0)
          clear hz
          go_wp2_with (go_at_call 13; refine (szRel_any _ _ _ _ hrd hp (by omega)).mono ?_; rintro e w' ⟨rfl, hE2⟩)
          go_ret
          exact ⟨ret_int HN.out.symm, hE.tr hE2⟩
        · have HS := Lib.hid (show szL left (fs.length + tbRelS (fs.take (k + 1))) = szL (szL left (fs.length + tbRelS (fs.take k))) (szRel fs[k]) from by rw [hz, hT, Nat.add_assoc])
          have hle := (szL_le hneg)
          clear hz
          go_wp2_with (go_at_call 13; refine (szRel_any _ _ _ _ hrd hp (by omega)).mono ?_; rintro e w' ⟨rfl, hE2⟩)
          go_roundw
          case rel => exact ⟨k + 1, by omega, by go_num, hE.tr hE2, by rw [HS.out], by rw [HS.out]; omega, by rw [HS.out]; omega⟩
          case measure => simp [intOf]; omega
      · go_wp2
        go_ret
        have hkk : k = fs.length := by omega
        rw [hkk, List.take_length, ← hse]
        exact ⟨rfl, hE⟩

set_option maxHeartbeats 1000000 in
theorem eqRelS_any (l m : List (Int × List (List Int))) (v u : Value) (w : World) (hr : RdRelS w v l) (hs : RdRelS w u m) :
    Calls Tryd.prog 52 #[v, u] w fun e w' => e = .returned (.bool (decide (l = m))) ∧ Ext w w' := by
  obtain ⟨a, b, off, cap, ts, rfl, hlc, hcm, ha, hc⟩ := hr
  obtain ⟨a', b', off', cap', ts', rfl, hlc', hcm', ha', hc'⟩ := hs
  by_cases hlen : l.length = m.length
  · have hb : ((l.length : Int) != (m.length : Int)) = false := by simp [hlen]
    go_enter Tryd.func52, Tryd.ntmps52
    go_wp2_with fail
    go_loopw [5] (fun i wr => ∃ k : Nat, k ≤ l.length ∧ i = .int .i64 k ∧ Ext w wr ∧ l.take k = m.take k) (fun i _ => l.length - (intOf i).toNat)
    case atStart => exact ⟨0, by omega, rfl, Ext.refl' _, rfl⟩
    case round =>
      obtain ⟨k, hk, rfl, hE, ht⟩ := hrel
      have HB := Lib.hid hb
      have HT := Lib.hid ht
      clear hb ht
      by_cases hkl : k < l.length
      · have hkm : k < m.length := by omega
        obtain rfl := ha (by omega)
        obtain rfl := ha' (by omega)
        obtain ⟨h0, h1, k1⟩ := hc k hkl
        obtain ⟨g0, g1, k2⟩ := hc' k hkm
        replace h0 := hE.cell h0
        replace h1 := hE.cell h1
        replace g0 := hE.cell g0
        replace g1 := hE.cell g1
        have r1 : RdRel wr (.agg #[.int .i64 l[k].1, ts k]) l[k] := ⟨_, rfl, k1.ext hE⟩
        have r2 : RdRel wr (.agg #[.int .i64 m[k].1, ts' k]) m[k] := ⟨_, rfl, k2.ext hE⟩
        generalize ts k = y at h1 k1 r1
        generalize ts' k = y' at g1 k2 r2
        have HL := Lib.hid hlen
        clear hlen
        by_cases hlk : l[k] = m[k]
        · have hT : decide (l[k] = m[k]) = true := decide_eq_true hlk
          have HK := Lib.hid (eqRelS_take hkl hkm HT.out hlk)
          clear hlk
          go_wp2_with fail
          go_wp2_with fail
          refine region_sp [] [] [SP.val (.slice (some ⟨b, off, none⟩) l.length cap), SP.val (.int .i64 (k : Nat)), SP.val (.pointer (some ⟨b, off + k * 2, none⟩)), SP.val (.agg #[.int .i64 l[k].1, y]), SP.val (.slice (some ⟨b', off', none⟩) m.length cap'), SP.val (.int .i64 (k : Nat)), SP.val (.pointer (some ⟨b', off' + k * 2, none⟩)), SP.val (.agg #[.int .i64 m[k].1, y']), SP.val (.bool true), SP.val (.bool false)] (by kernel_rfl) (fun _ d _ _ _ h => by cases d <;> exact h) (by kernel_rfl) (by kernel_rfl)
            (.cons (fun vs y hY => Step.move rfl rfl rfl rfl) <|
             .cons (fun vs y hY => Step.move rfl rfl rfl rfl) <|
             .cons (fun vs y hY g0_0 g1_1 => Step.indexAtP (n := .int .i64 (k : Nat)) ⟨b, off + k * 2, none⟩ rfl rfl g0_0 g1_1 (by simp [go_sem, Instr.indexAt, Addr.add, hkl] <;> omega) rfl) <|
             .cons (fun vs y hY g2_0 => Step.load ⟨b, off + k * 2, none⟩ rfl rfl g2_0 (by simp [go_sem, hY.cell h0, hY.cell h1]) rfl) <|
             .cons (fun vs y hY => Step.move rfl rfl rfl rfl) <|
             .cons (fun vs y hY => Step.move rfl rfl rfl rfl) <|
             .cons (fun vs y hY g4_0 g5_1 => Step.indexAtP (n := .int .i64 (k : Nat)) ⟨b', off' + k * 2, none⟩ rfl rfl g4_0 g5_1 (by simp [go_sem, Instr.indexAt, Addr.add, hkm] <;> omega) rfl) <|
             .cons (fun vs y hY g6_0 => Step.load ⟨b', off' + k * 2, none⟩ rfl rfl g6_0 (by simp [go_sem, hY.cell g0, hY.cell g1]) rfl) <|
             .cons (fun vs y hY g3_0 g7_1 => Step.call Tryd.call17 rfl rfl [vs 3, vs 7] rfl rfl (by rw [show vs 3 = _ from g3_0, show vs 7 = _ from g7_1]; exact (Calls.spe (eqRel_any _ _ _ _ _ (r1.ext hY) (r2.ext hY)) (by rw [hT])))) <|
             .cons (fun vs y hY g8_0 => Step.not rfl rfl g8_0 rfl) <|
             .nil) ?_
          intro vs w2 hC hL
          have r0 : vs 0 = _ := hL 0 (by decide) rfl
          have r1 : vs 1 = _ := hL 1 (by decide) rfl
          have r2 : vs 2 = _ := hL 2 (by decide) rfl
          have r3 : vs 3 = _ := hL 3 (by decide) rfl
          have r4 : vs 4 = _ := hL 4 (by decide) rfl
          have r5 : vs 5 = _ := hL 5 (by decide) rfl
          have r6 : vs 6 = _ := hL 6 (by decide) rfl
          have r7 : vs 7 = _ := hL 7 (by decide) rfl
          have r8 : vs 8 = _ := hL 8 (by decide) rfl
          have r9 : vs 9 = _ := hL 9 (by decide) rfl
          clear hL
          simp only [putAll, Act.put, List.contains_nil, cond_false, List.setIfInBounds_toArray, List.set_cons_succ, List.set_cons_zero, List.filterMap_nil, r0, r1, r2, r3, r4, r5, r6, r7, r8, r9]
          clear r0 r1 r2 r3 r4 r5 r6 r7 r8 r9
          go_wp2_with fail
          go_roundw
          case rel => exact ⟨k + 1, by omega, by go_num, hE.tr hC, HK.out⟩
          case measure => simp [intOf]; omega
        · have hT : decide (l[k] = m[k]) = false := decide_eq_false hlk
          have HN := Lib.hid (show decide (l = m) = false from decide_eq_false fun h => hlk (by subst h; rfl))
          clear hlk
          go_wp2_with fail
          go_wp2_with fail
          refine region_sp [] [] [SP.val (.slice (some ⟨b, off, none⟩) l.length cap), SP.val (.int .i64 (k : Nat)), SP.val (.pointer (some ⟨b, off + k * 2, none⟩)), SP.val (.agg #[.int .i64 l[k].1, y]), SP.val (.slice (some ⟨b', off', none⟩) m.length cap'), SP.val (.int .i64 (k : Nat)), SP.val (.pointer (some ⟨b', off' + k * 2, none⟩)), SP.val (.agg #[.int .i64 m[k].1, y']), SP.val (.bool false), SP.val (.bool true)] (by kernel_rfl) (fun _ d _ _ _ h => by cases d <;> exact h) (by kernel_rfl) (by kernel_rfl)
            (.cons (fun vs y hY => Step.move rfl rfl rfl rfl) <|
             .cons (fun vs y hY => Step.move rfl rfl rfl rfl) <|
             .cons (fun vs y hY g0_0 g1_1 => Step.indexAtP (n := .int .i64 (k : Nat)) ⟨b, off + k * 2, none⟩ rfl rfl g0_0 g1_1 (by simp [go_sem, Instr.indexAt, Addr.add, hkl] <;> omega) rfl) <|
             .cons (fun vs y hY g2_0 => Step.load ⟨b, off + k * 2, none⟩ rfl rfl g2_0 (by simp [go_sem, hY.cell h0, hY.cell h1]) rfl) <|
             .cons (fun vs y hY => Step.move rfl rfl rfl rfl) <|
             .cons (fun vs y hY => Step.move rfl rfl rfl rfl) <|
             .cons (fun vs y hY g4_0 g5_1 => Step.indexAtP (n := .int .i64 (k : Nat)) ⟨b', off' + k * 2, none⟩ rfl rfl g4_0 g5_1 (by simp [go_sem, Instr.indexAt, Addr.add, hkm] <;> omega) rfl) <|
             .cons (fun vs y hY g6_0 => Step.load ⟨b', off' + k * 2, none⟩ rfl rfl g6_0 (by simp [go_sem, hY.cell g0, hY.cell g1]) rfl) <|
             .cons (fun vs y hY g3_0 g7_1 => Step.call Tryd.call17 rfl rfl [vs 3, vs 7] rfl rfl (by rw [show vs 3 = _ from g3_0, show vs 7 = _ from g7_1]; exact (Calls.spe (eqRel_any _ _ _ _ _ (r1.ext hY) (r2.ext hY)) (by rw [hT])))) <|
             .cons (fun vs y hY g8_0 => Step.not rfl rfl g8_0 rfl) <|
             .nil) ?_
          intro vs w2 hC hL
          have r0 : vs 0 = _ := hL 0 (by decide) rfl
          have r1 : vs 1 = _ := hL 1 (by decide) rfl
          have r2 : vs 2 = _ := hL 2 (by decide) rfl
          have r3 : vs 3 = _ := hL 3 (by decide) rfl
          have r4 : vs 4 = _ := hL 4 (by decide) rfl
          have r5 : vs 5 = _ := hL 5 (by decide) rfl
          have r6 : vs 6 = _ := hL 6 (by decide) rfl
          have r7 : vs 7 = _ := hL 7 (by decide) rfl
          have r8 : vs 8 = _ := hL 8 (by decide) rfl
          have r9 : vs 9 = _ := hL 9 (by decide) rfl
          clear hL
          simp only [putAll, Act.put, List.contains_nil, cond_false, List.setIfInBounds_toArray, List.set_cons_succ, List.set_cons_zero, List.filterMap_nil, r0, r1, r2, r3, r4, r5, r6, r7, r8, r9]
          clear r0 r1 r2 r3 r4 r5 r6 r7 r8 r9
          go_wp2_with fail
          go_ret
          exact ⟨ret_bool HN.out.symm, hE.tr hC⟩
      · go_wp2_with fail
        go_ret
        refine ⟨ret_bool ?_, hE⟩
        have hkk : k = l.length := by omega
        have := HT.out
        rw [hkk, List.take_length, hlen, List.take_length] at this
        simp [this]
  · have hb : ((l.length : Int) != (m.length : Int)) = true := by simp; omega
    have hne : ¬ l = m := fun h => hlen (by rw [h])
    have HN := Lib.hid hne
    clear hne hlen
    go_enter Tryd.func52, Tryd.ntmps52
    go_wp2_with fail
    go_ret
    exact ⟨ret_bool (by simp [HN.out]), Ext.refl' _⟩


theorem infoRel : (Tryd.prog.info? 36).map (fun i => (i.zero, i.size, i.bytes)) = some (some (.agg #[.int .i64 0, .slice none 0 0]), 2, 32) := by kernel_rfl
set_option maxHeartbeats 1000000 in
set_option maxRecDepth 100000 in
theorem toRelS_any (fs : List (Int × List (List Int))) (v : Value) (w : World) (hr : RdRelS w v fs) (hl : szRelS fs ≤ 1048576) :
    Calls Tryd.prog 49 #[v] w fun e w' => ∃ u fp, e = .returned u ∧ Ext w w' ∧ OwnRelS w' u fs fp ∧ ∀ g ∈ fp, w.heap.size ≤ g := by
  obtain ⟨a, b, off, cap, ts, rfl, hlc, hcm, ha, hc⟩ := hr
  obtain ⟨i0, hi, hz0, hz1, hz2⟩ := info_parts infoRel
  have hlen := len_le_szRelS fs
  go_enter Tryd.func49, Tryd.ntmps49
  go_wp2_with (at_make; refine wpList_make_full _ rfl _ _ 45 rfl 0 36 i0 (.agg #[.int .i64 0, .slice none 0 0]) 2 Tryd.underlying45 hi hz0 hz1 _ _ _ _ fs.length rfl rfl rfl rfl (by rw [hz2]; omega) (by unfold maxLen; omega) (by omega) ?_)
  intro w1 hown hgr
  go_wp2_with fail
  go_loopw [4] (fun i wr => ∃ (k : Nat) (fp : List Nat), k ≤ fs.length ∧ i = .int .i64 k ∧ Ext w wr ∧ OwnRelS wr (.slice (some ⟨w.heap.size, 0, none⟩) fs.length fs.length) (fs.take k ++ List.replicate (fs.length - k) (0, [])) fp ∧ ∀ g ∈ fp, w.heap.size ≤ g)
    (fun i _ => fs.length - (intOf i).toNat)
  case atStart =>
    refine ⟨0, [w.heap.size], by omega, rfl, ?_, ?_, by simp⟩
    · exact (Ext.refl' w).grown hgr (Nat.le_refl _) (by simp)
    · refine OwnL.replicate (z := [.int .i64 0, .slice none 0 0]) rfl ⟨_, rfl, OII_nil _, List.nodup_nil⟩ ?_
      rw [← madeCells_two]
      simpa [Value.cells] using hown
  case round =>
    obtain ⟨k, fp, hk, rfl, hE, ho, hf⟩ := hrel
    by_cases hkl : k < fs.length
    · obtain rfl := ha (by omega)
      obtain ⟨hc0, hc1, hrk⟩ := hc k hkl
      replace hc0 := hE.cell hc0
      replace hc1 := hE.cell hc1
      have hel := elem_le_szRelS hkl
      have hrd : RdRel wr (.agg #[.int .i64 fs[k].1, ts k]) fs[k] := ⟨_, rfl, hrk.ext hE⟩
      generalize ts k = y at hc1 hrk hrd
      rw [replicate_pred _ _ _ hkl] at ho
      obtain ⟨c, b2, cap2, f, fo, hO, -, -, hfo⟩ := OwnL.open eRel_ok ho
      obtain ⟨hv, q1, q2, q3, q4, q5, q6, q7⟩ := hO.parts
      simp only [Value.slice.injEq, Option.some.injEq, Addr.mk.injEq, and_true] at hv
      obtain ⟨rfl, hl2, rfl⟩ := hv
      have hA : (fs.take k).length = k := by simp; omega
      clear hl2 q1 q7
      go_wp2_with fail
      refine (toRel_any _ _ _ hrd (by omega)).mono ?_
      rintro e w2 ⟨u, f2, rfl, hE2, ho2, hf2⟩
      obtain ⟨tu, rfl, ho2⟩ := ho2
      obtain ⟨f3, hnd, hiff, ho2⟩ := OII_canon ho2
      replace hf2 : ∀ g ∈ f3, _ ≤ g := fun g hg => hf2 g ((hiff g).1 hg)
      clear hiff
      obtain ⟨ua, uc, rfl⟩ := ho2.form
      replace hO := hO.ext eRel_ok hE2
      obtain ⟨-, -, -, -, -, r5, r6, r7⟩ := hO.parts
      have hfz := r6 (k * 2)
      have hfz2 := r6 (k * 2 + 1)
      obtain ⟨x0, x1, hc0'⟩ := len_two' q3
      have hcu := r7 0 x0 (by rw [hc0']; rfl)
      have hcu2 := r7 1 x1 (by rw [hc0']; rfl)
      rw [hA, Nat.add_zero] at hcu
      rw [hA] at hcu2
      have hS := OwnO.store eRel_ok hO 0 (by omega) (.int .i64 fs[k].1)
      rw [hA, Nat.add_zero, hc0', List.set_cons_zero] at hS
      have hS := OwnO.store eRel_ok hS 1 (by omega) (.slice ua fs[k].2.length uc)
      rw [hA, List.set_cons_succ, List.set_cons_zero] at hS
      have hd : ∀ g ∈ f3, g ∉ fo := fun g hg hm => by have := hf2 g hg; have := OwnL.lt eRel_ok ho g ((hfo g).2 (.inl hm)); omega
      have hb2 : w.heap.size ∉ f3 := fun hm => by have := hf2 _ hm; omega
      have hX := OwnO.close (fp := fo ++ f3) eRel_ok hS ⟨_, rfl, (ho2.set hb2 _).set hb2 _, hnd⟩ hd (fun g => List.mem_append)
      have hE3 : Ext w ((w2.setCell ⟨w.heap.size, k * 2, none⟩ (.int .i64 fs[k].1)).setCell ⟨w.heap.size, k * 2 + 1, none⟩ (.slice ua fs[k].2.length uc)) := ((hE.tr hE2).setCell (p := ⟨w.heap.size, k * 2, none⟩) (Nat.le_refl _) _).setCell (p := ⟨w.heap.size, k * 2 + 1, none⟩) (Nat.le_refl _) _
      rw [show fs.take k ++ (fs[k].1, fs[k].2) :: List.replicate (fs.length - (k + 1)) (0, []) = fs.take (k + 1) ++ List.replicate (fs.length - (k + 1)) (0, []) from by rw [List.take_succ_eq_append_getElem hkl, List.append_assoc]; rfl] at hX
      have hf4 : ∀ g ∈ fo ++ f3, w.heap.size ≤ g := fun g hg => by
        rcases List.mem_append.1 hg with h | h
        · exact hf g ((hfo g).2 (.inl h))
        · have := hf2 g h
          omega
      clear ho hO hS r6 r7 q6 hA
      go_wp2_with fail
      go_roundw
      case rel => exact ⟨k + 1, fo ++ f3, by omega, by go_num, hE3, hX, hf4⟩
      case measure => simp [intOf]; omega
    · go_wp2_with fail
      go_ret
      have hkk : k = fs.length := by omega
      subst hkk
      rw [List.take_length, Nat.sub_self, List.replicate_zero, List.append_nil] at ho
      exact ⟨_, _, rfl, hE, ho, hf⟩

def SP.ownRelS (fs : List (Int × List (List Int))) : SP := ⟨fun v w => ∃ fp, OwnRelS w v fs fp, fun _ _ _ ⟨fp, h⟩ hE => ⟨fp, h.ext hE⟩⟩
theorem rdRelS_of_sp {w : World} {v : Value} {fs : List (Int × List (List Int))} (h : ∃ fp, OwnRelS w v fs fp) : RdRelS w v fs := let ⟨_, h⟩ := h; h.rd
end Go.Proofs.YtajkepdfemdagaaDoor
