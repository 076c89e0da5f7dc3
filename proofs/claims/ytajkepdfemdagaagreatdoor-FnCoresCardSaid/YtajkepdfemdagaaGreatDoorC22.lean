/- The laws' own functions over a list of relations. The laws' own functions over one template. -/
import Derived.Test.YtajkepdfemdagaaGreatDoorC03
import Derived.Test.YtajkepdfemdagaaGreatDoorC04
import Derived.Test.YtajkepdfemdagaaGreatDoorC21
import Derived.Test.YtajkepdfemdagaaGreatDoorC08
namespace Go.Proofs.YtajkepdfemdagaaGreatDoor
open Go.RowKit
set_option linter.unusedVariables false

theorem OII_kept {w w' : World} {v : Value} {l : List (List Int)} {fp : List Nat} (h : OII w v l fp) (hb : ∀ g ∈ fp, w'.heap[g]? = w.heap[g]?) : OII w' v l fp := OwnL.kept eI_ok h hb
theorem OII_canon {w : World} {v : Value} {l : List (List Int)} {fp : List Nat} (h : OII w v l fp) : ∃ fp', fp'.Nodup ∧ (∀ g, g ∈ fp' ↔ g ∈ fp) ∧ OII w v l fp' := by
  obtain ⟨zs, h1, h2, h3, h4, h5⟩ := h
  exact ⟨_, h4, fun g => (h3 g).symm, zs, h1, h2, fun _ => Iff.rfl, h4, h5⟩
theorem heldII_ge : ∀ {l : List (List Int)} {k : Int}, 0 ≤ k → ¬ heldII l k < 0 → heldII l k = k + mkII l
  | [], k, h, _ => by simp [heldII, mkII]
  | l :: ls, k, h, hn => by
    simp only [heldII, mkII] at *
    by_cases hh : heldI l k < 0
    · rw [if_pos hh] at hn; omega
    · rw [if_neg hh] at hn ⊢
      have := heldI_ge h hh
      rw [heldII_ge (by omega) hn]
      omega
/-- v reads as the relations fs -/
def RdRelS (w : World) (v : Value) (fs : List (Int × List (List Int))) : Prop :=
  ∃ a b off cap, ∃ ts : Nat → Value, v = .slice a fs.length cap ∧ fs.length ≤ cap ∧ cap ≤ 9223372036854775807 ∧ (0 < fs.length → a = some ⟨b, off, none⟩) ∧
    ∀ j (h : j < fs.length), w.cell? ⟨b, off + j * 2, none⟩ = some (.int .i64 fs[j].1) ∧ w.cell? ⟨b, off + j * 2 + 1, none⟩ = some (ts j) ∧ RdII w (ts j) fs[j].2
theorem RdRelS.ext {w w' : World} {v : Value} {fs : List (Int × List (List Int))} (h : RdRelS w v fs) (hE : Ext w w') : RdRelS w' v fs := by
  obtain ⟨a, b, off, cap, ts, hv, h1, h2, h3, h4⟩ := h
  exact ⟨a, b, off, cap, ts, hv, h1, h2, h3, fun j hj => ⟨hE.cell (h4 j hj).1, hE.cell (h4 j hj).2.1, (h4 j hj).2.2.ext hE⟩⟩
theorem RdRelS.form {w : World} {v : Value} {fs : List (Int × List (List Int))} (h : RdRelS w v fs) : ∃ a c, v = .slice a fs.length c := by
  obtain ⟨a, b, off, cap, ts, hv, _⟩ := h
  exact ⟨a, cap, hv⟩
theorem RdRelS.nil (w : World) : RdRelS w (.slice none 0 0) [] := ⟨none, 0, 0, 0, fun _ => undef, rfl, by simp, by omega, by simp, by simp⟩

def eRel (w : World) (c : List Value) (f : Int × List (List Int)) (fp : List Nat) : Prop := ∃ tv, c = [.int .i64 f.1, tv] ∧ OII w tv f.2 fp ∧ fp.Nodup
theorem eRel_ok : ElemOk eRel := ⟨fun ⟨u, h1, h2, h3⟩ hb => ⟨u, h1, OII_kept h2 hb, h3⟩, fun ⟨u, h1, h2, _⟩ => h2.lt, fun ⟨u, h1, _, h3⟩ => h3⟩
abbrev OwnRelS (w : World) (v : Value) (fs : List (Int × List (List Int))) (fp : List Nat) : Prop := OwnL 2 35 eRel w v fs fp
theorem OwnRelS.ext {w w' : World} {v : Value} {fs : List (Int × List (List Int))} {fp : List Nat} (h : OwnRelS w v fs fp) (hE : Ext w w') : OwnRelS w' v fs fp := OwnL.ext eRel_ok h hE
theorem OwnRelS.off {w w' : World} {v : Value} {fs : List (Int × List (List Int))} {fp fp' : List Nat} (h : OwnRelS w v fs fp) (hO : Off fp' w w') (hd : ∀ g ∈ fp, g ∉ fp') : OwnRelS w' v fs fp := OwnL.off eRel_ok h hO hd
theorem OwnRelS.lt {w : World} {v : Value} {fs : List (Int × List (List Int))} {fp : List Nat} (h : OwnRelS w v fs fp) : ∀ g ∈ fp, g < w.heap.size := OwnL.lt eRel_ok h
theorem OwnRelS.form {w : World} {v : Value} {fs : List (Int × List (List Int))} {fp : List Nat} (h : OwnRelS w v fs fp) : ∃ a c, v = .slice a fs.length c := OwnL.form h
theorem OwnRelS.rd {w : World} {v : Value} {fs : List (Int × List (List Int))} {fp : List Nat} (h : OwnRelS w v fs fp) : RdRelS w v fs := by
  obtain ⟨a, b, cap, cs, hv, h1, h2, h3, h4⟩ := OwnL.at (by omega) h
  refine ⟨a, b, 0, cap, fun j => ((cs j)[1]?).getD undef, hv, h1, h2, h3, fun j hj => ?_⟩
  obtain ⟨k1, k2, f, u, k3, k4⟩ := h4 j hj
  dsimp only
  rw [k3] at k2 ⊢
  have q0 := k2 0 _ rfl
  have q1 := k2 1 _ rfl
  exact ⟨q0, q1, k4.1.rd⟩

/-- how many cells a list of relations has; its marks -/
def szRelS : List (Int × List (List Int)) → Nat
  | [] => 0
  | f :: fs => 1 + szRel f + szRelS fs
def mkRelS : List (Int × List (List Int)) → Nat
  | [] => 0
  | f :: fs => 1 + mkRel f + mkRelS fs
def marksRelS (k : Int) : List (Int × List (List Int)) → List (Int × List (List Int))
  | [] => []
  | f :: fs => (k, (marksRel (k + 1) f).2) :: marksRelS (k + 1 + mkRel f) fs
def heldRelS : List (Int × List (List Int)) → Int → Int
  | [], k => k
  | f :: fs, k => if f.1 = k then (if heldRel f (k + 1) < 0 then -1 else heldRelS fs (heldRel f (k + 1))) else -1
theorem mkRelS_le : ∀ fs, mkRelS fs ≤ szRelS fs
  | [] => Nat.le_refl _
  | f :: fs => by have := mkRelS_le fs; have := mkRel_le f; unfold mkRelS szRelS; omega
def tbRelS : List (Int × List (List Int)) → Nat
  | [] => 0
  | f :: fs => szRel f + tbRelS fs
theorem szRelS_eq : ∀ fs, szRelS fs = fs.length + tbRelS fs
  | [] => rfl
  | f :: fs => by simp only [szRelS, tbRelS, List.length_cons, szRelS_eq fs]; omega
theorem tbRelS_take : ∀ (fs : List (Int × List (List Int))) (k : Nat) (hk : k < fs.length), tbRelS (fs.take (k + 1)) = tbRelS (fs.take k) + szRel fs[k]
  | f :: fs, 0, _ => by simp [tbRelS]
  | f :: fs, k + 1, h => by simp only [List.take_succ_cons, tbRelS, tbRelS_take fs k (by simpa using h), List.getElem_cons_succ]; omega
theorem tbRelS_take_le : ∀ (fs : List (Int × List (List Int))) (k : Nat), tbRelS (fs.take k) ≤ tbRelS fs
  | [], k => by simp
  | f :: fs, 0 => by simp [tbRelS]
  | f :: fs, k + 1 => by have := tbRelS_take_le fs k; simp only [List.take_succ_cons, tbRelS]; omega
theorem marksRelS_length : ∀ k fs, (marksRelS k fs).length = fs.length
  | _, [] => rfl
  | k, f :: fs => by simp [marksRelS, marksRelS_length _ fs]
theorem mkRel_pair (k : Int) (f : Int × List (List Int)) (a : Int) : mkRel (a, (marksRel k f).2) = mkRel f := mkRel_marks k f
theorem mkRelS_marks : ∀ k fs, mkRelS (marksRelS k fs) = mkRelS fs
  | _, [] => rfl
  | k, f :: fs => by simp only [marksRelS, mkRelS, mkRel_pair, mkRelS_marks _ fs]
theorem mkRelS_take : ∀ (fs : List (Int × List (List Int))) (k : Nat) (hk : k < fs.length), mkRelS (fs.take (k + 1)) = mkRelS (fs.take k) + 1 + mkRel fs[k]
  | f :: fs, 0, _ => by simp [mkRelS]
  | f :: fs, k + 1, h => by simp only [List.take_succ_cons, mkRelS, mkRelS_take fs k (by simpa using h), List.getElem_cons_succ]; omega
theorem mkRelS_take_le : ∀ (fs : List (Int × List (List Int))) (k : Nat), mkRelS (fs.take k) ≤ mkRelS fs
  | [], k => by simp
  | f :: fs, 0 => by simp [mkRelS]
  | f :: fs, k + 1 => by have := mkRelS_take_le fs k; simp only [List.take_succ_cons, mkRelS]; omega
theorem szRelS_take : ∀ (fs : List (Int × List (List Int))) (k : Nat) (hk : k < fs.length), szRelS (fs.take (k + 1)) = szRelS (fs.take k) + 1 + szRel fs[k]
  | f :: fs, 0, _ => by simp [szRelS]
  | f :: fs, k + 1, h => by simp only [List.take_succ_cons, szRelS, szRelS_take fs k (by simpa using h), List.getElem_cons_succ]; omega
theorem szRelS_take_le : ∀ (fs : List (Int × List (List Int))) (k : Nat), szRelS (fs.take k) ≤ szRelS fs
  | [], k => by simp
  | f :: fs, 0 => by simp [szRelS]
  | f :: fs, k + 1 => by have := szRelS_take_le fs k; simp only [List.take_succ_cons, szRelS]; omega
theorem len_le_szRelS : ∀ fs, fs.length ≤ szRelS fs
  | [] => Nat.le_refl _
  | f :: fs => by have := len_le_szRelS fs; simp only [List.length_cons, szRelS]; omega
theorem elem_le_szRelS {fs : List (Int × List (List Int))} {k : Nat} (hk : k < fs.length) : szRel fs[k] ≤ szRelS fs := by
  have h1 := szRelS_take fs k hk
  have h2 := szRelS_take_le fs (k + 1)
  omega
theorem marksRelS_take : ∀ (fs : List (Int × List (List Int))) (k0 : Int) (k : Nat) (hk : k < fs.length), marksRelS k0 (fs.take (k + 1)) = marksRelS k0 (fs.take k) ++ [(k0 + mkRelS (fs.take k), (marksRel (k0 + mkRelS (fs.take k) + 1) fs[k]).2)]
  | f :: fs, k0, 0, _ => by simp [marksRelS, mkRelS]
  | f :: fs, k0, k + 1, h => by
    simp only [List.take_succ_cons, marksRelS, mkRelS, marksRelS_take fs _ k (by simpa using h), List.getElem_cons_succ, List.cons_append]
    rw [show k0 + 1 + (mkRel f : Int) + (mkRelS (fs.take k) : Int) = k0 + ((1 + mkRel f + mkRelS (fs.take k) : Nat) : Int) by omega]
theorem heldRel_ge {f : Int × List (List Int)} {k : Int} (hk : 0 ≤ k) (h : ¬ heldRel f k < 0) : heldRel f k = k + mkRel f := heldII_ge hk h
theorem heldRelS_marks : ∀ (k : Int) fs, 0 ≤ k → heldRelS (marksRelS k fs) k = k + mkRelS fs
  | k, [], _ => by simp [marksRelS, heldRelS, mkRelS]
  | k, f :: fs, h => by
    have e : heldRel (k, (marksRel (k + 1) f).2) (k + 1) = k + 1 + mkRel f := heldRel_marks (k + 1) f (by omega)
    simp only [marksRelS, heldRelS, mkRelS]
    rw [if_pos trivial, e, if_neg (by omega), heldRelS_marks _ fs (by omega)]
    omega
theorem eqRelS_take {l m : List (Int × List (List Int))} {k : Nat} (hl : k < l.length) (hm : k < m.length) (ht : l.take k = m.take k) (h : l[k] = m[k]) : l.take (k + 1) = m.take (k + 1) := by
  rw [List.take_succ_eq_append_getElem hl, List.take_succ_eq_append_getElem hm, ht, h]


set_option maxHeartbeats 1000000 in
theorem eqRelS_any (l m : List (Int × List (List Int))) (v u : Value) (w : World) (hr : RdRelS w v l) (hs : RdRelS w u m) :
    Calls Tryz.prog 49 #[v, u] w fun e w' => e = .returned (.bool (decide (l = m))) ∧ Ext w w' := by
  obtain ⟨a, b, off, cap, ts, rfl, hlc, hcm, ha, hc⟩ := hr
  obtain ⟨a', b', off', cap', ts', rfl, hlc', hcm', ha', hc'⟩ := hs
  by_cases hlen : l.length = m.length
  · have hb : ((l.length : Int) != (m.length : Int)) = false := by simp [hlen]
    go_enter Tryz.func49, Tryz.ntmps49
    go_wp2_with fail
    go_loopw [5] (fun i wr => ∃ k : Nat, k ≤ l.length ∧ i = .int .i64 k ∧ Ext w wr ∧ l.take k = m.take k) (fun i _ => l.length - (intOf i).toNat)
    case atStart => exact ⟨0, by omega, rfl, Ext.refl' _, rfl⟩
    case round =>
      obtain ⟨k, hk, rfl, hE, ht⟩ := hrel
      have HB := Lib.hid hb
      have HT := Lib.hid ht
      clear hb ht
      by_cases hkl : k < l.length
      · have hkm : k < m.length := by omega
        obtain rfl := ha (by omega)
        obtain rfl := ha' (by omega)
        obtain ⟨h0, h1, k1⟩ := hc k hkl
        obtain ⟨g0, g1, k2⟩ := hc' k hkm
        replace h0 := hE.cell h0
        replace h1 := hE.cell h1
        replace g0 := hE.cell g0
        replace g1 := hE.cell g1
        have r1 : RdRel wr (.agg #[.int .i64 l[k].1, ts k]) l[k] := ⟨_, rfl, k1.ext hE⟩
        have r2 : RdRel wr (.agg #[.int .i64 m[k].1, ts' k]) m[k] := ⟨_, rfl, k2.ext hE⟩
        generalize ts k = y at h1 k1 r1
        generalize ts' k = y' at g1 k2 r2
        have HL := Lib.hid hlen
        clear hlen
        by_cases hlk : l[k] = m[k]
        · have hT : decide (l[k] = m[k]) = true := decide_eq_true hlk
          have HK := Lib.hid (eqRelS_take hkl hkm HT.out hlk)
          clear hlk
          go_wp2_with fail
          go_wp2_with fail
          refine region_sp [] [] [SP.val (.slice (some ⟨b, off, none⟩) l.length cap), SP.val (.int .i64 (k : Nat)), SP.val (.pointer (some ⟨b, off + k * 2, none⟩)), SP.val (.agg #[.int .i64 l[k].1, y]), SP.val (.slice (some ⟨b', off', none⟩) m.length cap'), SP.val (.int .i64 (k : Nat)), SP.val (.pointer (some ⟨b', off' + k * 2, none⟩)), SP.val (.agg #[.int .i64 m[k].1, y']), SP.val (.bool true), SP.val (.bool false)] (by kernel_rfl) (fun _ d _ _ _ h => by cases d <;> exact h) (by kernel_rfl) (by kernel_rfl)
            (.cons (fun vs y hY => Step.move rfl rfl rfl rfl) <|
             .cons (fun vs y hY => Step.move rfl rfl rfl rfl) <|
             .cons (fun vs y hY g0_0 g1_1 => Step.indexAtP (n := .int .i64 (k : Nat)) ⟨b, off + k * 2, none⟩ rfl rfl g0_0 g1_1 (by simp [go_sem, Instr.indexAt, Addr.add, hkl] <;> omega) rfl) <|
             .cons (fun vs y hY g2_0 => Step.load ⟨b, off + k * 2, none⟩ rfl rfl g2_0 (by simp [go_sem, hY.cell h0, hY.cell h1]) rfl) <|
             .cons (fun vs y hY => Step.move rfl rfl rfl rfl) <|
             .cons (fun vs y hY => Step.move rfl rfl rfl rfl) <|
             .cons (fun vs y hY g4_0 g5_1 => Step.indexAtP (n := .int .i64 (k : Nat)) ⟨b', off' + k * 2, none⟩ rfl rfl g4_0 g5_1 (by simp [go_sem, Instr.indexAt, Addr.add, hkm] <;> omega) rfl) <|
             .cons (fun vs y hY g6_0 => Step.load ⟨b', off' + k * 2, none⟩ rfl rfl g6_0 (by simp [go_sem, hY.cell g0, hY.cell g1]) rfl) <|
             .cons (fun vs y hY g3_0 g7_1 => Step.call Tryz.call99 rfl rfl [vs 3, vs 7] rfl rfl (by rw [show vs 3 = _ from g3_0, show vs 7 = _ from g7_1]; exact (Calls.spe (eqRel_any _ _ _ _ _ (r1.ext hY) (r2.ext hY)) (by rw [hT])))) <|
             .cons (fun vs y hY g8_0 => Step.not rfl rfl g8_0 rfl) <|
             .nil) ?_
          intro vs w2 hC hL
          have r0 : vs 0 = _ := hL 0 (by decide) rfl
          have r1 : vs 1 = _ := hL 1 (by decide) rfl
          have r2 : vs 2 = _ := hL 2 (by decide) rfl
          have r3 : vs 3 = _ := hL 3 (by decide) rfl
          have r4 : vs 4 = _ := hL 4 (by decide) rfl
          have r5 : vs 5 = _ := hL 5 (by decide) rfl
          have r6 : vs 6 = _ := hL 6 (by decide) rfl
          have r7 : vs 7 = _ := hL 7 (by decide) rfl
          have r8 : vs 8 = _ := hL 8 (by decide) rfl
          have r9 : vs 9 = _ := hL 9 (by decide) rfl
          clear hL
          simp only [putAll, Act.put, List.contains_nil, cond_false, List.setIfInBounds_toArray, List.set_cons_succ, List.set_cons_zero, List.filterMap_nil, r0, r1, r2, r3, r4, r5, r6, r7, r8, r9]
          clear r0 r1 r2 r3 r4 r5 r6 r7 r8 r9
          go_wp2_with fail
          go_roundw
          case rel => exact ⟨k + 1, by omega, by go_num, hE.tr hC, HK.out⟩
          case measure => simp [intOf]; omega
        · have hT : decide (l[k] = m[k]) = false := decide_eq_false hlk
          have HN := Lib.hid (show decide (l = m) = false from decide_eq_false fun h => hlk (by subst h; rfl))
          clear hlk
          go_wp2_with fail
          go_wp2_with fail
          refine region_sp [] [] [SP.val (.slice (some ⟨b, off, none⟩) l.length cap), SP.val (.int .i64 (k : Nat)), SP.val (.pointer (some ⟨b, off + k * 2, none⟩)), SP.val (.agg #[.int .i64 l[k].1, y]), SP.val (.slice (some ⟨b', off', none⟩) m.length cap'), SP.val (.int .i64 (k : Nat)), SP.val (.pointer (some ⟨b', off' + k * 2, none⟩)), SP.val (.agg #[.int .i64 m[k].1, y']), SP.val (.bool false), SP.val (.bool true)] (by kernel_rfl) (fun _ d _ _ _ h => by cases d <;> exact h) (by kernel_rfl) (by kernel_rfl)
            (.cons (fun vs y hY => Step.move rfl rfl rfl rfl) <|
             .cons (fun vs y hY => Step.move rfl rfl rfl rfl) <|
             .cons (fun vs y hY g0_0 g1_1 => Step.indexAtP (n := .int .i64 (k : Nat)) ⟨b, off + k * 2, none⟩ rfl rfl g0_0 g1_1 (by simp [go_sem, Instr.indexAt, Addr.add, hkl] <;> omega) rfl) <|
             .cons (fun vs y hY g2_0 => Step.load ⟨b, off + k * 2, none⟩ rfl rfl g2_0 (by simp [go_sem, hY.cell h0, hY.cell h1]) rfl) <|
             .cons (fun vs y hY => Step.move rfl rfl rfl rfl) <|
             .cons (fun vs y hY => Step.move rfl rfl rfl rfl) <|
             .cons (fun vs y hY g4_0 g5_1 => Step.indexAtP (n := .int .i64 (k : Nat)) ⟨b', off' + k * 2, none⟩ rfl rfl g4_0 g5_1 (by simp [go_sem, Instr.indexAt, Addr.add, hkm] <;> omega) rfl) <|
             .cons (fun vs y hY g6_0 => Step.load ⟨b', off' + k * 2, none⟩ rfl rfl g6_0 (by simp [go_sem, hY.cell g0, hY.cell g1]) rfl) <|
             .cons (fun vs y hY g3_0 g7_1 => Step.call Tryz.call99 rfl rfl [vs 3, vs 7] rfl rfl (by rw [show vs 3 = _ from g3_0, show vs 7 = _ from g7_1]; exact (Calls.spe (eqRel_any _ _ _ _ _ (r1.ext hY) (r2.ext hY)) (by rw [hT])))) <|
             .cons (fun vs y hY g8_0 => Step.not rfl rfl g8_0 rfl) <|
             .nil) ?_
          intro vs w2 hC hL
          have r0 : vs 0 = _ := hL 0 (by decide) rfl
          have r1 : vs 1 = _ := hL 1 (by decide) rfl
          have r2 : vs 2 = _ := hL 2 (by decide) rfl
          have r3 : vs 3 = _ := hL 3 (by decide) rfl
          have r4 : vs 4 = _ := hL 4 (by decide) rfl
          have r5 : vs 5 = _ := hL 5 (by decide) rfl
          have r6 : vs 6 = _ := hL 6 (by decide) rfl
          have r7 : vs 7 = _ := hL 7 (by decide) rfl
          have r8 : vs 8 = _ := hL 8 (by decide) rfl
          have r9 : vs 9 = _ := hL 9 (by decide) rfl
          clear hL
          simp only [putAll, Act.put, List.contains_nil, cond_false, List.setIfInBounds_toArray, List.set_cons_succ, List.set_cons_zero, List.filterMap_nil, r0, r1, r2, r3, r4, r5, r6, r7, r8, r9]
          clear r0 r1 r2 r3 r4 r5 r6 r7 r8 r9
          go_wp2_with fail
          go_ret
          exact ⟨ret_bool HN.out.symm, hE.tr hC⟩
      · go_wp2_with fail
        go_ret
        refine ⟨ret_bool ?_, hE⟩
        have hkk : k = l.length := by omega
        have := HT.out
        rw [hkk, List.take_length, hlen, List.take_length] at this
        simp [this]
  · have hb : ((l.length : Int) != (m.length : Int)) = true := by simp; omega
    have hne : ¬ l = m := fun h => hlen (by rw [h])
    have HN := Lib.hid hne
    clear hne hlen
    go_enter Tryz.func49, Tryz.ntmps49
    go_wp2_with fail
    go_ret
    exact ⟨ret_bool (by simp [HN.out]), Ext.refl' _⟩

theorem heldRel_neg {f : Int × List (List Int)} {k : Int} (h : heldRel f k < 0) (hk : 0 ≤ k) : heldRel f k = -1 := heldII_neg h hk
set_option maxHeartbeats 1000000 in
theorem heldRelS_any (fs : List (Int × List (List Int))) (v : Value) (k0 : Int) (w : World) (hr : RdRelS w v fs) (hk0 : 0 ≤ k0) (hb : k0 + mkRelS fs ≤ 4611686018427387904) :
    Calls Tryz.prog 51 #[v, .int .i64 k0] w fun e w' => e = .returned (.int .i64 (heldRelS fs k0)) ∧ Ext w w' := by
  obtain ⟨a, b, off, cap, ts, rfl, hlc, hcm, ha, hc⟩ := hr
  go_enter Tryz.func51, Tryz.ntmps51
  go_wp2_with fail
  go_loopw [1, 5] (fun q i wr => ∃ k : Nat, k ≤ fs.length ∧ i = .int .i64 k ∧ q = .int .i64 (k0 + mkRelS (fs.take k)) ∧ Ext w wr ∧ heldRelS fs k0 = heldRelS (fs.drop k) (k0 + mkRelS (fs.take k)))
    (fun _ i _ => fs.length - (intOf i).toNat)
  case atStart => exact ⟨0, by omega, rfl, by simp [mkRelS], Ext.refl' _, by simp [mkRelS]⟩
  case round =>
    obtain ⟨k, hk, rfl, rfl, hE, ht⟩ := hrel
    have HT := Lib.hid ht
    clear ht
    by_cases hkl : k < fs.length
    · obtain rfl := ha (by omega)
      obtain ⟨hc0, hc1, hrk⟩ := hc k hkl
      have hT := mkRelS_take fs k hkl
      have hT2 := mkRelS_take_le fs (k + 1)
      replace hc0 := hE.cell hc0
      replace hc1 := hE.cell hc1
      replace hrk := hrk.ext hE
      generalize ts k = y at hc1 hrk
      obtain ⟨ya, yc, rfl⟩ := hrk.form
      have hdrop := List.drop_eq_getElem_cons hkl
      by_cases hfst : fs[k].1 = k0 + mkRelS (fs.take k)
      · have hbe : (fs[k].1 != k0 + (mkRelS (fs.take k) : Int)) = false := by simp [hfst]
        by_cases hneg : heldRel fs[k] (k0 + mkRelS (fs.take k) + 1) < 0
        · have HN := Lib.hid (show heldRelS fs k0 = -1 from by rw [HT.out, hdrop, heldRelS, if_pos hfst, if_pos hneg])
          clear hdrop hfst
          go_wp2_with fail
          refine (heldInt64SS_any _ _ _ _ hrk (by omega) (by have : mkRel fs[k] = mkRel fs[k] := rfl; unfold mkRel at hT; omega)).mono ?_
          rintro e w2 ⟨rfl, hE2⟩
          change heldII fs[k].2 _ < 0 at hneg
          go_wp2_with fail
          go_ret
          exact ⟨ret_int HN.out.symm, hE.tr hE2⟩
        · have hge := heldRel_ge (by omega) hneg
          have HQ := Lib.hid (show heldRel fs[k] (k0 + (mkRelS (fs.take k) : Int) + 1) = k0 + (mkRelS (fs.take (k + 1)) : Int) from by rw [hge]; omega)
          have HN := Lib.hid (show heldRelS fs k0 = heldRelS (fs.drop (k + 1)) (k0 + mkRelS (fs.take (k + 1))) from by rw [HT.out, hdrop, heldRelS, if_pos hfst, if_neg hneg, HQ.out])
          clear hdrop hge hfst
          go_wp2_with fail
          refine (heldInt64SS_any _ _ _ _ hrk (by omega) (by unfold mkRel at hT; omega)).mono ?_
          rintro e w2 ⟨rfl, hE2⟩
          replace hneg : ¬ heldII fs[k].2 (k0 + (mkRelS (fs.take k) : Int) + 1) < 0 := by first | exact hneg | exact Int.not_lt.2 hneg
          go_wp2_with fail
          go_roundw
          case rel => exact ⟨k + 1, by omega, by go_num, by rw [← HQ.out]; rfl, hE.tr hE2, HN.out⟩
          case measure => simp [intOf]; omega
      · have hbe : (fs[k].1 != k0 + (mkRelS (fs.take k) : Int)) = true := by simp [hfst]
        have HN := Lib.hid (show heldRelS fs k0 = -1 from by rw [HT.out, hdrop, heldRelS, if_neg hfst])
        clear hdrop hfst
        go_wp2_with fail
        go_ret
        exact ⟨ret_int HN.out.symm, hE⟩
    · go_wp2_with fail
      go_ret
      have hkk : k = fs.length := by omega
      have := HT.out
      subst hkk
      rw [List.drop_length] at this
      exact ⟨ret_int (by rw [this]; rfl), hE⟩

theorem infoRel : (Tryz.prog.info? 35).map (fun i => (i.zero, i.size, i.bytes)) = some (some (.agg #[.int .i64 0, .slice none 0 0]), 2, 32) := by kernel_rfl

set_option maxHeartbeats 1000000 in
set_option maxRecDepth 100000 in
theorem markRelS_any (fs : List (Int × List (List Int))) (v : Value) (fp : List Nat) (k0 : Int) (w : World) (ho : OwnRelS w v fs fp) (hk0 : 0 ≤ k0) (hb : k0 + mkRelS fs ≤ 4611686018427387904) :
    Calls Tryz.prog 50 #[v, .int .i64 k0] w fun e w' => e = .returned (.int .i64 (k0 + mkRelS fs)) ∧ Off fp w w' ∧ OwnRelS w' v (marksRelS k0 fs) fp := by
  obtain ⟨a, c, rfl⟩ := ho.form
  have hlen : (fs.length : Int) ≤ 9223372036854775807 := by
    obtain ⟨a', b', off', cap', vs, hv, h1, h2, _⟩ := ho.rd
    omega
  go_enter Tryz.func50, Tryz.ntmps50
  go_wp2_with fail
  go_loopw [1, 5] (fun q i wr => ∃ k : Nat, k ≤ fs.length ∧ i = .int .i64 k ∧ q = .int .i64 (k0 + mkRelS (fs.take k)) ∧ Off fp w wr ∧ OwnRelS wr (.slice a fs.length c) (marksRelS k0 (fs.take k) ++ fs.drop k) fp)
    (fun _ i _ => fs.length - (intOf i).toNat)
  case atStart => exact ⟨0, by omega, rfl, by simp [mkRelS], Off.refl _ _, by simpa [marksRelS] using ho⟩
  case round =>
    obtain ⟨k, hk, rfl, rfl, hO, ho1⟩ := hrel
    by_cases hkl : k < fs.length
    · have hT := mkRelS_take fs k hkl
      have hT2 := mkRelS_take_le fs (k + 1)
      rw [List.drop_eq_getElem_cons hkl] at ho1
      obtain ⟨cs, b2, cap2, f, fo, hOp, ⟨u, rfl, hu, hnd⟩, hd, hfo⟩ := OwnL.open eRel_ok ho1
      obtain ⟨hv, q1, q2, q3, q4, q5, q6, q7⟩ := hOp.parts
      simp only [Value.slice.injEq] at hv
      obtain ⟨rfl, hl2, rfl⟩ := hv
      have hA : (marksRelS k0 (fs.take k)).length = k := by rw [marksRelS_length]; simp; omega
      have hck := q7 0 _ rfl
      have hck2 := q7 1 _ rfl
      rw [hA, Nat.add_zero] at hck
      rw [hA] at hck2
      have hfz := q6 (k * 2)
      have hS := OwnO.store eRel_ok hOp 0 (by omega) (.int .i64 (k0 + mkRelS (fs.take k)))
      rw [hA, Nat.add_zero, List.set_cons_zero] at hS
      have hbf : b2 ∉ f := fun hm => hd _ hm (by have := q4; exact this)
      have hbfp : b2 ∈ fp := (hfo _).2 (.inl q4)
      replace hu := hu.set (p := ⟨b2, k * 2, none⟩) hbf (.int .i64 (k0 + mkRelS (fs.take k)))
      have hO1 : Off fp w (wr.setCell ⟨b2, k * 2, none⟩ (.int .i64 (k0 + mkRelS (fs.take k)))) := hO.trans (Off.set hbfp)
      have hck3 : (wr.setCell ⟨b2, k * 2, none⟩ (.int .i64 (k0 + mkRelS (fs.take k)))).cell? ⟨b2, k * 2 + 1, none⟩ = some u := cell_set hck2 (.inr (by dsimp only; omega))
      obtain ⟨ua, uc, rfl⟩ := hu.form
      clear hl2 q1 q7 hck2 hOp ho1
      go_wp2_with fail
      refine (markInt64SS_any _ _ _ _ _ hu (by omega) (by unfold mkRel at hT; omega)).mono ?_
      rintro e w2 ⟨rfl, hO2, hu2⟩
      have hOp2 := OwnO.off eRel_ok hS hO2 (fun g hg hm => hd g hm hg)
      have hX := OwnO.close (y := (k0 + (mkRelS (fs.take k) : Int), (marksRel (k0 + mkRelS (fs.take k) + 1) fs[k]).2)) (fp := fp) eRel_ok hOp2 ⟨_, rfl, hu2, hnd⟩ hd hfo
      have hO3 : Off fp w w2 := hO1.trans (hO2.mono fun g hg => (hfo g).2 (.inr hg))
      have hM := marksRelS_take fs k0 k hkl
      have hX2 : OwnRelS w2 (.slice (some ⟨b2, 0, none⟩) fs.length c) (marksRelS k0 (fs.take (k + 1)) ++ fs.drop (k + 1)) fp := by rw [hM, List.append_assoc]; exact hX
      have hQ := Lib.hid (show k0 + (mkRelS (fs.take k) : Int) + 1 + (mkRel fs[k] : Int) = k0 + (mkRelS (fs.take (k + 1)) : Int) from by omega)
      clear hS hOp2 hX hM q6 hA hT
      go_wp2_with fail
      go_roundw
      case rel => exact ⟨k + 1, by omega, by go_num, by rw [← hQ.out]; rfl, hO3, hX2⟩
      case measure => simp [intOf]; omega
    · go_wp2_with fail
      go_ret
      have hkk : k = fs.length := by omega
      subst hkk
      rw [List.take_length] at ho1 ⊢
      rw [List.drop_length, List.append_nil] at ho1
      exact ⟨rfl, hO, ho1⟩
def SP.ownRelS (fs : List (Int × List (List Int))) : SP := ⟨fun v w => ∃ fp, OwnRelS w v fs fp, fun _ _ _ ⟨fp, h⟩ hE => ⟨fp, h.ext hE⟩⟩
theorem rdRelS_of_sp {w : World} {v : Value} {fs : List (Int × List (List Int))} (h : ∃ fp, OwnRelS w v fs fp) : RdRelS w v fs := let ⟨_, h⟩ := h; h.rd
end Go.Proofs.YtajkepdfemdagaaGreatDoor
namespace Go.Proofs.YtajkepdfemdagaaGreatDoor
open Go.RowKit
set_option linter.unusedVariables false

theorem heldRelS_neg : ∀ {l : List (Int × List (List Int))} {k : Int}, heldRelS l k < 0 → 0 ≤ k → heldRelS l k = -1
  | [], k, h, hk => by simp [heldRelS] at h; omega
  | f :: fs, k, h, hk => by
    simp only [heldRelS] at *
    by_cases h1 : f.1 = k
    · rw [if_pos h1] at h ⊢
      by_cases hh : heldRel f (k + 1) < 0
      · rw [if_pos hh]
      · rw [if_neg hh] at h ⊢
        have := heldRel_ge (by omega) hh
        exact heldRelS_neg h (by omega)
    · rw [if_neg h1]
theorem OwnRelS.set {w : World} {v : Value} {ll : List (Int × List (List Int))} {fp : List Nat} (h : OwnRelS w v ll fp) {p : Addr} (hp : p.block ∉ fp) (u : Value) : OwnRelS (w.setCell p u) v ll fp :=
  OwnRelS.off h (Off.set (fp := [p.block]) (by simp)) fun g hg hm => hp (by rw [List.mem_singleton] at hm; exact hm ▸ hg)

/-- v reads as the template f: its arity, its table -/
def RdTm (w : World) (v : Value) (f : Int × List (Int × List (List Int))) : Prop := ∃ tv, v = .agg #[.int .i64 f.1, tv] ∧ RdRelS w tv f.2
theorem RdTm.ext {w w' : World} {v : Value} {f : Int × List (Int × List (List Int))} (h : RdTm w v f) (hE : Ext w w') : RdTm w' v f := let ⟨tv, h1, h2⟩ := h; ⟨tv, h1, h2.ext hE⟩
def OwnTm (w : World) (v : Value) (f : Int × List (Int × List (List Int))) (fp : List Nat) : Prop := ∃ tv, v = .agg #[.int .i64 f.1, tv] ∧ OwnRelS w tv f.2 fp
theorem OwnTm.rd {w : World} {v : Value} {f : Int × List (Int × List (List Int))} {fp : List Nat} (h : OwnTm w v f fp) : RdTm w v f := let ⟨tv, h1, h2⟩ := h; ⟨tv, h1, h2.rd⟩
theorem OwnTm.ext {w w' : World} {v : Value} {f : Int × List (Int × List (List Int))} {fp : List Nat} (h : OwnTm w v f fp) (hE : Ext w w') : OwnTm w' v f fp := let ⟨tv, h1, h2⟩ := h; ⟨tv, h1, h2.ext hE⟩
theorem OwnTm.lt {w : World} {v : Value} {f : Int × List (Int × List (List Int))} {fp : List Nat} (h : OwnTm w v f fp) : ∀ g ∈ fp, g < w.heap.size := let ⟨_, _, h2⟩ := h; h2.lt
theorem OwnTm.off {w w' : World} {v : Value} {f : Int × List (Int × List (List Int))} {fp fp' : List Nat} (h : OwnTm w v f fp) (hO : Off fp' w w') (hd : ∀ g ∈ fp, g ∉ fp') : OwnTm w' v f fp := let ⟨tv, h1, h2⟩ := h; ⟨tv, h1, h2.off hO hd⟩

theorem RdTm.form {w : World} {v : Value} {f : Int × List (Int × List (List Int))} (h : RdTm w v f) : ∃ tv, v = .agg #[.int .i64 f.1, tv] := let ⟨tv, h1, _⟩ := h; ⟨tv, h1⟩
theorem OwnTm.form {w : World} {v : Value} {f : Int × List (Int × List (List Int))} {fp : List Nat} (h : OwnTm w v f fp) : ∃ a c, v = .agg #[.int .i64 f.1, .slice a f.2.length c] := by
  obtain ⟨tv, rfl, h⟩ := h
  obtain ⟨a, c, rfl⟩ := h.form
  exact ⟨a, c, rfl⟩
/-- a template's size, its marks, what is held of them -/
def szTm (f : Int × List (Int × List (List Int))) : Nat := szRelS f.2
def mkTm (f : Int × List (Int × List (List Int))) : Nat := mkRelS f.2
def marksTm (k : Int) (f : Int × List (Int × List (List Int))) : Int × List (Int × List (List Int)) := (f.1, marksRelS k f.2)
def heldTm (f : Int × List (Int × List (List Int))) (k : Int) : Int := heldRelS f.2 k
theorem heldTm_marks (k : Int) (f : Int × List (Int × List (List Int))) (hk : 0 ≤ k) : heldTm (marksTm k f) k = k + mkTm f := heldRelS_marks k _ hk
theorem mkTm_le (f : Int × List (Int × List (List Int))) : mkTm f ≤ szTm f := mkRelS_le _
theorem mkTm_marks (k : Int) (f : Int × List (Int × List (List Int))) : mkTm (marksTm k f) = mkTm f := mkRelS_marks _ _

def SP.ownTm (f : Int × List (Int × List (List Int))) : SP := ⟨fun v w => ∃ fp, OwnTm w v f fp, fun _ _ _ ⟨fp, h⟩ hE => ⟨fp, h.ext hE⟩⟩
theorem rdTm_of_sp {w : World} {v : Value} {f : Int × List (Int × List (List Int))} (h : ∃ fp, OwnTm w v f fp) : RdTm w v f := let ⟨_, h⟩ := h; h.rd

/-- what a function leaves that answers a template and a code -/
def TmRes (R : (Int × List (Int × List (List Int))) × Int) (w : World) (e : Ending) (w' : World) : Prop :=
  ∃ u fp, e = .returned (.tuple #[u, .int .i64 R.2]) ∧ Ext w w' ∧ OwnTm w' u R.1 fp ∧ (∀ h ∈ fp, w.heap.size ≤ h) ∧ mkTm R.1 ≤ 1048576
theorem TmRes.of {R : (Int × List (Int × List (List Int))) × Int} {w w' : World} {u : Value} {c : Int} {fp : List Nat} (hc : c = R.2) (hE : Ext w w') (ho : OwnTm w' u R.1 fp) (hf : ∀ h ∈ fp, w.heap.size ≤ h) (hb : mkTm R.1 ≤ 1048576) : TmRes R w (.returned (.tuple #[u, .int .i64 c])) w' := by
  subst hc
  exact ⟨u, fp, rfl, hE, ho, hf, hb⟩
def noTm : Int × List (Int × List (List Int)) := (0, [])
theorem noTm_own (w : World) : OwnTm w (.agg #[.int .i64 0, .slice none 0 0]) noTm [] := ⟨_, rfl, OwnL.nil _⟩
theorem TmRes.no {c : Int} {w w' : World} (hE : Ext w w') : TmRes (noTm, c) w (.returned (.tuple #[.agg #[.int .i64 0, .slice none 0 0], .int .i64 c])) w' := TmRes.of rfl hE (noTm_own _) (by simp) (show (0 : Nat) ≤ 1048576 by omega)



theorem tm_ne1 {f g : Int × List (Int × List (List Int))} (h : ¬ f.1 = g.1) : decide (f = g) = false := by simp; intro hh; exact h (by rw [hh])
theorem tm_ne2 {f g : Int × List (Int × List (List Int))} (h : ¬ f.2 = g.2) : decide (f = g) = false := by simp; intro hh; exact h (by rw [hh])
theorem tm_eq {f g : Int × List (Int × List (List Int))} (h1 : f.1 = g.1) (h2 : f.2 = g.2) : decide (f = g) = true := by simp; exact Prod.ext h1 h2

set_option maxHeartbeats 400000 in
theorem eqTemplate_any (f g : Int × List (Int × List (List Int))) (v u : Value) (w : World) (hr : RdTm w v f) (hs : RdTm w u g) :
    Calls Tryz.prog 8 #[v, u] w fun e w' => e = .returned (.bool (decide (f = g))) ∧ Ext w w' := by
  obtain ⟨tv, rfl, hr⟩ := hr
  obtain ⟨tu, rfl, hs⟩ := hs
  have hE1 : Ext w ((w.alloc (.cells #[.int .i64 f.1, tv] 24)).alloc (.cells #[.int .i64 g.1, tu] 24)) := ((Ext.refl' w).alloc (Nat.le_refl _) _).alloc (by simp) _
  by_cases h1 : f.1 = g.1
  · have hb : (f.1 != g.1) = false := by simp [h1]
    by_cases h2 : f.2 = g.2
    · have hd : decide (f.2 = g.2) = true := by simp [h2]
      have HF := Lib.hid (tm_eq h1 h2)
      clear h1 h2
      go_enter Tryz.func8, Tryz.ntmps8
      go_wp2_with (go_at_call 49; refine (eqRelS_any _ _ _ _ _ (hr.ext hE1) (hs.ext hE1)).mono ?_; rintro e w2 ⟨rfl, hE⟩)
      go_ret
      exact ⟨ret_bool HF.out.symm, hE1.tr hE⟩
    · have hd : decide (f.2 = g.2) = false := by simp [h2]
      have HF := Lib.hid (tm_ne2 h2)
      clear h1 h2
      go_enter Tryz.func8, Tryz.ntmps8
      go_wp2_with (go_at_call 49; refine (eqRelS_any _ _ _ _ _ (hr.ext hE1) (hs.ext hE1)).mono ?_; rintro e w2 ⟨rfl, hE⟩)
      go_ret
      exact ⟨ret_bool HF.out.symm, hE1.tr hE⟩
  · have hb : (f.1 != g.1) = true := by simp [h1]
    have HF := Lib.hid (tm_ne1 h1)
    clear h1
    go_enter Tryz.func8, Tryz.ntmps8
    go_wp2_with fail
    go_ret
    exact ⟨ret_bool HF.out.symm, hE1⟩

set_option maxHeartbeats 400000 in
theorem markTemplate_any (f : Int × List (Int × List (List Int))) (v : Value) (fp : List Nat) (k0 : Int) (w : World) (ho : OwnTm w v f fp) (hk0 : 0 ≤ k0) (hb : k0 + mkTm f ≤ 4611686018427387904) :
    Calls Tryz.prog 9 #[v, .int .i64 k0] w fun e w' => e = .returned (.int .i64 (k0 + mkTm f)) ∧ Off fp w w' ∧ OwnTm w' v (marksTm k0 f) fp := by
  unfold mkTm at hb ⊢
  obtain ⟨tv, rfl, ho⟩ := ho
  have hE1 : Ext w (w.alloc (.cells #[.int .i64 f.1, tv] 24)) := (Ext.refl' w).alloc (Nat.le_refl _) _
  go_enter Tryz.func9, Tryz.ntmps9
  go_wp2_with (go_at_call 50; refine (markRelS_any _ _ _ _ _ (ho.ext hE1) hk0 hb).mono ?_; rintro e w2 ⟨rfl, hO, ho2⟩)
  go_ret
  exact ⟨rfl, (Off.of_ext hE1).trans hO, _, rfl, ho2⟩

set_option maxHeartbeats 400000 in
theorem heldTemplate_any (f : Int × List (Int × List (List Int))) (v : Value) (k0 : Int) (w : World) (hr : RdTm w v f) (hk0 : 0 ≤ k0) (hb : k0 + mkTm f ≤ 4611686018427387904) :
    Calls Tryz.prog 10 #[v, .int .i64 k0] w fun e w' => e = .returned (.int .i64 (heldTm f k0)) ∧ Ext w w' := by
  unfold mkTm at hb
  unfold heldTm
  obtain ⟨tv, rfl, hr⟩ := hr
  have hE1 : Ext w (w.alloc (.cells #[.int .i64 f.1, tv] 24)) := (Ext.refl' w).alloc (Nat.le_refl _) _
  by_cases hlt : heldRelS f.2 k0 < 0
  · go_enter Tryz.func10, Tryz.ntmps10
    go_wp2_with (go_at_call 51; refine (heldRelS_any _ _ _ _ (hr.ext hE1) hk0 hb).mono ?_; rintro e w2 ⟨rfl, hE⟩)
    go_ret
    exact ⟨ret_int (by rw [heldRelS_neg hlt hk0]), hE1.tr hE⟩
  · go_enter Tryz.func10, Tryz.ntmps10
    go_wp2_with (go_at_call 51; refine (heldRelS_any _ _ _ _ (hr.ext hE1) hk0 hb).mono ?_; rintro e w2 ⟨rfl, hE⟩)
    go_ret
    exact ⟨rfl, hE1.tr hE⟩

/-- a pointer at a template's two cells -/
def PtTm (w : World) (p : Value) (f : Int × List (Int × List (List Int))) : Prop := ∃ b off tv, p = .pointer (some ⟨b, off, none⟩) ∧ w.cell? ⟨b, off, none⟩ = some (.int .i64 f.1) ∧ w.cell? ⟨b, off + 1, none⟩ = some tv ∧ RdRelS w tv f.2
theorem PtTm.ext {w w' : World} {p : Value} {f : Int × List (Int × List (List Int))} (h : PtTm w p f) (hE : Ext w w') : PtTm w' p f := let ⟨b, off, tv, h1, h2, h3, h4⟩ := h; ⟨b, off, tv, h1, hE.cell h2, hE.cell h3, h4.ext hE⟩

end Go.Proofs.YtajkepdfemdagaaGreatDoor
