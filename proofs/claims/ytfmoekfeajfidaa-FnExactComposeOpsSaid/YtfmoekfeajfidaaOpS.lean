
/- The laws' own functions over a list of operations. -/
import Derived.Test.YtfmoekfeajfidaaII
import Derived.Test.YtfmoekfeajfidaaOpT
import Derived.Test.YtfmoekfeajfidaaSteps
namespace Go.Proofs.Ytfmoekfeajfidaa
open Go.RowKit
set_option linter.unusedVariables false

theorem len_two' {α : Type} : ∀ {l : List α}, l.length = 2 → ∃ x y, l = [x, y]
  | [x, y], _ => ⟨x, y, rfl⟩
theorem madeCells_two (a b : Value) : ∀ n : Nat, (madeCells #[a, b] (n * 2)).toList = (List.replicate n [a, b]).flatten := by
  intro n
  unfold madeCells
  rw [Array.toList_map, Array.toList_range]
  induction n with
  | zero => rfl
  | succ n ih =>
    rw [show (n + 1) * 2 = n * 2 + 1 + 1 by omega, List.range_succ, List.range_succ, List.map_append, List.map_append, ih, List.replicate_succ', List.flatten_append]
    have h1 : n * 2 % (#[a, b] : Array Value).size = 0 := by simp
    have h2 : (n * 2 + 1) % (#[a, b] : Array Value).size = 1 := by simp
    simp only [List.map_cons, List.map_nil, h1, h2, List.flatten_cons, List.flatten_nil, List.append_nil, List.append_assoc]
    rfl

/-- v reads as the operations fs -/
def RdOpS (w : World) (v : Value) (fs : List (Int × List Int)) : Prop :=
  ∃ a b off cap, ∃ ts : Nat → Value, v = .slice a fs.length cap ∧ fs.length ≤ cap ∧ cap ≤ 9223372036854775807 ∧ (0 < fs.length → a = some ⟨b, off, none⟩) ∧
    ∀ j (h : j < fs.length), w.cell? ⟨b, off + j * 2, none⟩ = some (.int .i64 fs[j].1) ∧ w.cell? ⟨b, off + j * 2 + 1, none⟩ = some (ts j) ∧ RdI w (ts j) fs[j].2
theorem RdOpS.ext {w w' : World} {v : Value} {fs : List (Int × List Int)} (h : RdOpS w v fs) (hE : Ext w w') : RdOpS w' v fs := by
  obtain ⟨a, b, off, cap, ts, hv, h1, h2, h3, h4⟩ := h
  exact ⟨a, b, off, cap, ts, hv, h1, h2, h3, fun j hj => ⟨hE.cell (h4 j hj).1, hE.cell (h4 j hj).2.1, (h4 j hj).2.2.ext hE⟩⟩
theorem RdOpS.form {w : World} {v : Value} {fs : List (Int × List Int)} (h : RdOpS w v fs) : ∃ a c, v = .slice a fs.length c := by
  obtain ⟨a, b, off, cap, ts, hv, _⟩ := h
  exact ⟨a, cap, hv⟩
theorem RdOpS.nil (w : World) : RdOpS w (.slice none 0 0) [] := ⟨none, 0, 0, 0, fun _ => undef, rfl, by simp, by omega, by simp, by simp⟩

def eOp (w : World) (c : List Value) (f : Int × List Int) (fp : List Nat) : Prop := ∃ tv, c = [.int .i64 f.1, tv] ∧ OI w tv f.2 fp
theorem eOp_ok : ElemOk eOp := ⟨fun ⟨u, h1, h2⟩ hb => ⟨u, h1, h2.kept hb⟩, fun ⟨u, h1, h2⟩ => h2.lt, fun ⟨u, h1, h2⟩ => h2.nodup⟩
abbrev OwnOpS (w : World) (v : Value) (fs : List (Int × List Int)) (fp : List Nat) : Prop := OwnL 2 30 eOp w v fs fp
theorem OwnOpS.ext {w w' : World} {v : Value} {fs : List (Int × List Int)} {fp : List Nat} (h : OwnOpS w v fs fp) (hE : Ext w w') : OwnOpS w' v fs fp := OwnL.ext eOp_ok h hE
theorem OwnOpS.off {w w' : World} {v : Value} {fs : List (Int × List Int)} {fp fp' : List Nat} (h : OwnOpS w v fs fp) (hO : Off fp' w w') (hd : ∀ g ∈ fp, g ∉ fp') : OwnOpS w' v fs fp := OwnL.off eOp_ok h hO hd
theorem OwnOpS.lt {w : World} {v : Value} {fs : List (Int × List Int)} {fp : List Nat} (h : OwnOpS w v fs fp) : ∀ g ∈ fp, g < w.heap.size := OwnL.lt eOp_ok h
theorem OwnOpS.form {w : World} {v : Value} {fs : List (Int × List Int)} {fp : List Nat} (h : OwnOpS w v fs fp) : ∃ a c, v = .slice a fs.length c := OwnL.form h
theorem OwnOpS.rd {w : World} {v : Value} {fs : List (Int × List Int)} {fp : List Nat} (h : OwnOpS w v fs fp) : RdOpS w v fs := by
  obtain ⟨a, b, cap, cs, hv, h1, h2, h3, h4⟩ := OwnL.at (by omega) h
  refine ⟨a, b, 0, cap, fun j => ((cs j)[1]?).getD undef, hv, h1, h2, h3, fun j hj => ?_⟩
  obtain ⟨k1, k2, f, u, k3, k4⟩ := h4 j hj
  dsimp only
  rw [k3] at k2 ⊢
  have q0 := k2 0 _ rfl
  have q1 := k2 1 _ rfl
  exact ⟨q0, q1, k4.rd⟩

/-- how many cells a list of operations has; its marks -/
def szOpS : List (Int × List Int) → Nat
  | [] => 0
  | f :: fs => 1 + szOp f + szOpS fs
def mkOpS : List (Int × List Int) → Nat
  | [] => 0
  | f :: fs => 1 + mkOp f + mkOpS fs
def marksOpS (k : Int) : List (Int × List Int) → List (Int × List Int)
  | [] => []
  | f :: fs => (k, (marksOp (k + 1) f).2) :: marksOpS (k + 1 + mkOp f) fs
def heldOpS : List (Int × List Int) → Int → Int
  | [], k => k
  | f :: fs, k => if f.1 = k then (if heldOp f (k + 1) < 0 then -1 else heldOpS fs (heldOp f (k + 1))) else -1
theorem mkOpS_le : ∀ fs, mkOpS fs ≤ szOpS fs
  | [] => Nat.le_refl _
  | f :: fs => by have := mkOpS_le fs; have := mkOp_le f; unfold mkOpS szOpS; omega
def tbOpS : List (Int × List Int) → Nat
  | [] => 0
  | f :: fs => szOp f + tbOpS fs
theorem szOpS_eq : ∀ fs, szOpS fs = fs.length + tbOpS fs
  | [] => rfl
  | f :: fs => by simp only [szOpS, tbOpS, List.length_cons, szOpS_eq fs]; omega
theorem tbOpS_take : ∀ (fs : List (Int × List Int)) (k : Nat) (hk : k < fs.length), tbOpS (fs.take (k + 1)) = tbOpS (fs.take k) + szOp fs[k]
  | f :: fs, 0, _ => by simp [tbOpS]
  | f :: fs, k + 1, h => by simp only [List.take_succ_cons, tbOpS, tbOpS_take fs k (by simpa using h), List.getElem_cons_succ]; omega
theorem tbOpS_take_le : ∀ (fs : List (Int × List Int)) (k : Nat), tbOpS (fs.take k) ≤ tbOpS fs
  | [], k => by simp
  | f :: fs, 0 => by simp [tbOpS]
  | f :: fs, k + 1 => by have := tbOpS_take_le fs k; simp only [List.take_succ_cons, tbOpS]; omega
theorem marksOpS_length : ∀ k fs, (marksOpS k fs).length = fs.length
  | _, [] => rfl
  | k, f :: fs => by simp [marksOpS, marksOpS_length _ fs]
theorem mkOp_pair (k : Int) (f : Int × List Int) (a : Int) : mkOp (a, (marksOp k f).2) = mkOp f := mkOp_marks k f
theorem mkOpS_marks : ∀ k fs, mkOpS (marksOpS k fs) = mkOpS fs
  | _, [] => rfl
  | k, f :: fs => by simp only [marksOpS, mkOpS, mkOp_pair, mkOpS_marks _ fs]
theorem mkOpS_take : ∀ (fs : List (Int × List Int)) (k : Nat) (hk : k < fs.length), mkOpS (fs.take (k + 1)) = mkOpS (fs.take k) + 1 + mkOp fs[k]
  | f :: fs, 0, _ => by simp [mkOpS]
  | f :: fs, k + 1, h => by simp only [List.take_succ_cons, mkOpS, mkOpS_take fs k (by simpa using h), List.getElem_cons_succ]; omega
theorem mkOpS_take_le : ∀ (fs : List (Int × List Int)) (k : Nat), mkOpS (fs.take k) ≤ mkOpS fs
  | [], k => by simp
  | f :: fs, 0 => by simp [mkOpS]
  | f :: fs, k + 1 => by have := mkOpS_take_le fs k; simp only [List.take_succ_cons, mkOpS]; omega
theorem szOpS_take : ∀ (fs : List (Int × List Int)) (k : Nat) (hk : k < fs.length), szOpS (fs.take (k + 1)) = szOpS (fs.take k) + 1 + szOp fs[k]
  | f :: fs, 0, _ => by simp [szOpS]
  | f :: fs, k + 1, h => by simp only [List.take_succ_cons, szOpS, szOpS_take fs k (by simpa using h), List.getElem_cons_succ]; omega
theorem szOpS_take_le : ∀ (fs : List (Int × List Int)) (k : Nat), szOpS (fs.take k) ≤ szOpS fs
  | [], k => by simp
  | f :: fs, 0 => by simp [szOpS]
  | f :: fs, k + 1 => by have := szOpS_take_le fs k; simp only [List.take_succ_cons, szOpS]; omega
theorem len_le_szOpS : ∀ fs, fs.length ≤ szOpS fs
  | [] => Nat.le_refl _
  | f :: fs => by have := len_le_szOpS fs; simp only [List.length_cons, szOpS]; omega
theorem elem_le_szOpS {fs : List (Int × List Int)} {k : Nat} (hk : k < fs.length) : szOp fs[k] ≤ szOpS fs := by
  have h1 := szOpS_take fs k hk
  have h2 := szOpS_take_le fs (k + 1)
  omega
theorem marksOpS_take : ∀ (fs : List (Int × List Int)) (k0 : Int) (k : Nat) (hk : k < fs.length), marksOpS k0 (fs.take (k + 1)) = marksOpS k0 (fs.take k) ++ [(k0 + mkOpS (fs.take k), (marksOp (k0 + mkOpS (fs.take k) + 1) fs[k]).2)]
  | f :: fs, k0, 0, _ => by simp [marksOpS, mkOpS]
  | f :: fs, k0, k + 1, h => by
    simp only [List.take_succ_cons, marksOpS, mkOpS, marksOpS_take fs _ k (by simpa using h), List.getElem_cons_succ, List.cons_append]
    rw [show k0 + 1 + (mkOp f : Int) + (mkOpS (fs.take k) : Int) = k0 + ((1 + mkOp f + mkOpS (fs.take k) : Nat) : Int) by omega]
theorem heldOp_ge {f : Int × List Int} {k : Int} (hk : 0 ≤ k) (h : ¬ heldOp f k < 0) : heldOp f k = k + mkOp f := heldI_ge hk h
theorem heldOpS_marks : ∀ (k : Int) fs, 0 ≤ k → heldOpS (marksOpS k fs) k = k + mkOpS fs
  | k, [], _ => by simp [marksOpS, heldOpS, mkOpS]
  | k, f :: fs, h => by
    have e : heldOp (k, (marksOp (k + 1) f).2) (k + 1) = k + 1 + mkOp f := heldOp_marks (k + 1) f
    simp only [marksOpS, heldOpS, mkOpS]
    rw [if_pos trivial, e, if_neg (by omega), heldOpS_marks _ fs (by omega)]
    omega
theorem eqOpS_take {l m : List (Int × List Int)} {k : Nat} (hl : k < l.length) (hm : k < m.length) (ht : l.take k = m.take k) (h : l[k] = m[k]) : l.take (k + 1) = m.take (k + 1) := by
  rw [List.take_succ_eq_append_getElem hl, List.take_succ_eq_append_getElem hm, ht, h]

set_option maxHeartbeats 1000000 in
theorem szOpS_any (fs : List (Int × List Int)) (v : Value) (left : Int) (w : World) (hr : RdOpS w v fs) (h0 : 0 ≤ left) (h1 : left ≤ 1048576) :
    Calls Try.prog 39 #[v, .int .i64 left] w fun e w' => e = .returned (.int .i64 (szL left (szOpS fs))) ∧ Ext w w' := by
  obtain ⟨a, b, off, cap, ts, rfl, hlc, hcm, ha, hc⟩ := hr
  have hse := szOpS_eq fs
  by_cases hlt : left < fs.length
  · go_enter Try.func39, Try.ntmps39
    go_wp2
    go_ret
    exact ⟨ret_int (by unfold szL; rw [if_pos (by omega)]), Ext.refl' _⟩
  · have hl0 : szL left fs.length = left - fs.length := by unfold szL; rw [if_neg hlt]
    go_enter Try.func39, Try.ntmps39
    go_wp2
    go_loopw [1, 5] (fun q i wr => ∃ k : Nat, k ≤ fs.length ∧ i = .int .i64 k ∧ Ext w wr ∧ q = .int .i64 (szL left (fs.length + tbOpS (fs.take k))) ∧ 0 ≤ szL left (fs.length + tbOpS (fs.take k)) ∧ szL left (fs.length + tbOpS (fs.take k)) ≤ left)
      (fun _ i _ => fs.length - (intOf i).toNat)
    case atStart => exact ⟨0, by omega, rfl, Ext.refl' _, by simp [tbOpS, hl0], by simp [tbOpS, hl0]; omega, by simp [tbOpS, hl0]; omega⟩
    case round =>
      obtain ⟨k, hk, rfl, hE, rfl, hp, hpl⟩ := hrel
      by_cases hkl : k < fs.length
      · obtain rfl := ha (by omega)
        obtain ⟨hc0, hc1, hrk⟩ := hc k hkl
        replace hc0 := hE.cell hc0
        replace hc1 := hE.cell hc1
        have hrd : RdOp wr (.agg #[.int .i64 fs[k].1, ts k]) fs[k] := ⟨_, rfl, hrk.ext hE⟩
        generalize ts k = y at hc1 hrk hrd
        have hT := tbOpS_take fs k hkl
        have hT2 := tbOpS_take_le fs (k + 1)
        have hz := szL_szL (a := left) (n := fs.length + tbOpS (fs.take k)) (m := szOp fs[k]) (by omega)
        by_cases hneg : szL (szL left (fs.length + tbOpS (fs.take k))) (szOp fs[k]) < 0
        · have HN := Lib.hid (show szL left (szOpS fs) = -1 from szL_neg (n := fs.length + tbOpS (fs.take k) + szOp fs[k]) (by rw [← hz]; exact hneg) (by omega) h0)
          clear hz
          go_wp2_with (go_at_call 16; refine (szOp_any _ _ _ _ hrd hp (by omega)).mono ?_; rintro e w' ⟨rfl, hE2⟩)
          go_ret
          exact ⟨ret_int HN.out.symm, hE.tr hE2⟩
        · have HS := Lib.hid (show szL left (fs.length + tbOpS (fs.take (k + 1))) = szL (szL left (fs.length + tbOpS (fs.take k))) (szOp fs[k]) from by rw [hz, hT, Nat.add_assoc])
          have hle := (szL_le hneg)
          clear hz
          go_wp2_with (go_at_call 16; refine (szOp_any _ _ _ _ hrd hp (by omega)).mono ?_; rintro e w' ⟨rfl, hE2⟩)
          go_roundw
          case rel => exact ⟨k + 1, by omega, by go_num, hE.tr hE2, by rw [HS.out], by rw [HS.out]; omega, by rw [HS.out]; omega⟩
          case measure => simp [intOf]; omega
      · go_wp2
        go_ret
        have hkk : k = fs.length := by omega
        rw [hkk, List.take_length, ← hse]
        exact ⟨rfl, hE⟩

set_option maxHeartbeats 1000000 in
theorem eqOpS_any (l m : List (Int × List Int)) (v u : Value) (w : World) (hr : RdOpS w v l) (hs : RdOpS w u m) :
    Calls Try.prog 43 #[v, u] w fun e w' => e = .returned (.bool (decide (l = m))) ∧ Ext w w' := by
  obtain ⟨a, b, off, cap, ts, rfl, hlc, hcm, ha, hc⟩ := hr
  obtain ⟨a', b', off', cap', ts', rfl, hlc', hcm', ha', hc'⟩ := hs
  by_cases hlen : l.length = m.length
  · have hb : ((l.length : Int) != (m.length : Int)) = false := by simp [hlen]
    go_enter Try.func43, Try.ntmps43
    go_wp2_with fail
    go_loopw [5] (fun i wr => ∃ k : Nat, k ≤ l.length ∧ i = .int .i64 k ∧ Ext w wr ∧ l.take k = m.take k) (fun i _ => l.length - (intOf i).toNat)
    case atStart => exact ⟨0, by omega, rfl, Ext.refl' _, rfl⟩
    case round =>
      obtain ⟨k, hk, rfl, hE, ht⟩ := hrel
      have HB := Lib.hid hb
      have HT := Lib.hid ht
      clear hb ht
      by_cases hkl : k < l.length
      · have hkm : k < m.length := by omega
        obtain rfl := ha (by omega)
        obtain rfl := ha' (by omega)
        obtain ⟨h0, h1, k1⟩ := hc k hkl
        obtain ⟨g0, g1, k2⟩ := hc' k hkm
        replace h0 := hE.cell h0
        replace h1 := hE.cell h1
        replace g0 := hE.cell g0
        replace g1 := hE.cell g1
        have r1 : RdOp wr (.agg #[.int .i64 l[k].1, ts k]) l[k] := ⟨_, rfl, k1.ext hE⟩
        have r2 : RdOp wr (.agg #[.int .i64 m[k].1, ts' k]) m[k] := ⟨_, rfl, k2.ext hE⟩
        generalize ts k = y at h1 k1 r1
        generalize ts' k = y' at g1 k2 r2
        have HL := Lib.hid hlen
        clear hlen
        by_cases hlk : l[k] = m[k]
        · have hT : decide (l[k] = m[k]) = true := decide_eq_true hlk
          have HK := Lib.hid (eqOpS_take hkl hkm HT.out hlk)
          clear hlk
          go_wp2_with fail
          go_wp2_with fail
          refine region_sp [] [] [SP.val (.slice (some ⟨b, off, none⟩) l.length cap), SP.val (.int .i64 (k : Nat)), SP.val (.pointer (some ⟨b, off + k * 2, none⟩)), SP.val (.agg #[.int .i64 l[k].1, y]), SP.val (.slice (some ⟨b', off', none⟩) m.length cap'), SP.val (.int .i64 (k : Nat)), SP.val (.pointer (some ⟨b', off' + k * 2, none⟩)), SP.val (.agg #[.int .i64 m[k].1, y']), SP.val (.bool true), SP.val (.bool false)] (by kernel_rfl) (fun _ d _ _ _ h => by cases d <;> exact h) (by kernel_rfl) (by kernel_rfl)
            (.cons (fun vs y hY => Step.move rfl rfl rfl rfl) <|
             .cons (fun vs y hY => Step.move rfl rfl rfl rfl) <|
             .cons (fun vs y hY g0_0 g1_1 => Step.indexAtP (n := .int .i64 (k : Nat)) ⟨b, off + k * 2, none⟩ rfl rfl g0_0 g1_1 (by simp [go_sem, Instr.indexAt, Addr.add, hkl] <;> omega) rfl) <|
             .cons (fun vs y hY g2_0 => Step.load ⟨b, off + k * 2, none⟩ rfl rfl g2_0 (by simp [go_sem, hY.cell h0, hY.cell h1]) rfl) <|
             .cons (fun vs y hY => Step.move rfl rfl rfl rfl) <|
             .cons (fun vs y hY => Step.move rfl rfl rfl rfl) <|
             .cons (fun vs y hY g4_0 g5_1 => Step.indexAtP (n := .int .i64 (k : Nat)) ⟨b', off' + k * 2, none⟩ rfl rfl g4_0 g5_1 (by simp [go_sem, Instr.indexAt, Addr.add, hkm] <;> omega) rfl) <|
             .cons (fun vs y hY g6_0 => Step.load ⟨b', off' + k * 2, none⟩ rfl rfl g6_0 (by simp [go_sem, hY.cell g0, hY.cell g1]) rfl) <|
             .cons (fun vs y hY g3_0 g7_1 => Step.call Try.call20 rfl rfl [vs 3, vs 7] rfl rfl (by rw [show vs 3 = _ from g3_0, show vs 7 = _ from g7_1]; exact (Calls.spe (eqOp_any _ _ _ _ _ (r1.ext hY) (r2.ext hY)) (by rw [hT])))) <|
             .cons (fun vs y hY g8_0 => Step.not rfl rfl g8_0 rfl) <|
             .nil) ?_
          intro vs w2 hC hL
          have r0 : vs 0 = _ := hL 0 (by decide) rfl
          have r1 : vs 1 = _ := hL 1 (by decide) rfl
          have r2 : vs 2 = _ := hL 2 (by decide) rfl
          have r3 : vs 3 = _ := hL 3 (by decide) rfl
          have r4 : vs 4 = _ := hL 4 (by decide) rfl
          have r5 : vs 5 = _ := hL 5 (by decide) rfl
          have r6 : vs 6 = _ := hL 6 (by decide) rfl
          have r7 : vs 7 = _ := hL 7 (by decide) rfl
          have r8 : vs 8 = _ := hL 8 (by decide) rfl
          have r9 : vs 9 = _ := hL 9 (by decide) rfl
          clear hL
          simp only [putAll, Act.put, List.contains_nil, cond_false, List.setIfInBounds_toArray, List.set_cons_succ, List.set_cons_zero, List.filterMap_nil, r0, r1, r2, r3, r4, r5, r6, r7, r8, r9]
          clear r0 r1 r2 r3 r4 r5 r6 r7 r8 r9
          go_wp2_with fail
          go_roundw
          case rel => exact ⟨k + 1, by omega, by go_num, hE.tr hC, HK.out⟩
          case measure => simp [intOf]; omega
        · have hT : decide (l[k] = m[k]) = false := decide_eq_false hlk
          have HN := Lib.hid (show decide (l = m) = false from decide_eq_false fun h => hlk (by subst h; rfl))
          clear hlk
          go_wp2_with fail
          go_wp2_with fail
          refine region_sp [] [] [SP.val (.slice (some ⟨b, off, none⟩) l.length cap), SP.val (.int .i64 (k : Nat)), SP.val (.pointer (some ⟨b, off + k * 2, none⟩)), SP.val (.agg #[.int .i64 l[k].1, y]), SP.val (.slice (some ⟨b', off', none⟩) m.length cap'), SP.val (.int .i64 (k : Nat)), SP.val (.pointer (some ⟨b', off' + k * 2, none⟩)), SP.val (.agg #[.int .i64 m[k].1, y']), SP.val (.bool false), SP.val (.bool true)] (by kernel_rfl) (fun _ d _ _ _ h => by cases d <;> exact h) (by kernel_rfl) (by kernel_rfl)
            (.cons (fun vs y hY => Step.move rfl rfl rfl rfl) <|
             .cons (fun vs y hY => Step.move rfl rfl rfl rfl) <|
             .cons (fun vs y hY g0_0 g1_1 => Step.indexAtP (n := .int .i64 (k : Nat)) ⟨b, off + k * 2, none⟩ rfl rfl g0_0 g1_1 (by simp [go_sem, Instr.indexAt, Addr.add, hkl] <;> omega) rfl) <|
             .cons (fun vs y hY g2_0 => Step.load ⟨b, off + k * 2, none⟩ rfl rfl g2_0 (by simp [go_sem, hY.cell h0, hY.cell h1]) rfl) <|
             .cons (fun vs y hY => Step.move rfl rfl rfl rfl) <|
             .cons (fun vs y hY => Step.move rfl rfl rfl rfl) <|
             .cons (fun vs y hY g4_0 g5_1 => Step.indexAtP (n := .int .i64 (k : Nat)) ⟨b', off' + k * 2, none⟩ rfl rfl g4_0 g5_1 (by simp [go_sem, Instr.indexAt, Addr.add, hkm] <;> omega) rfl) <|
             .cons (fun vs y hY g6_0 => Step.load ⟨b', off' + k * 2, none⟩ rfl rfl g6_0 (by simp [go_sem, hY.cell g0, hY.cell g1]) rfl) <|
             .cons (fun vs y hY g3_0 g7_1 => Step.call Try.call20 rfl rfl [vs 3, vs 7] rfl rfl (by rw [show vs 3 = _ from g3_0, show vs 7 = _ from g7_1]; exact (Calls.spe (eqOp_any _ _ _ _ _ (r1.ext hY) (r2.ext hY)) (by rw [hT])))) <|
             .cons (fun vs y hY g8_0 => Step.not rfl rfl g8_0 rfl) <|
             .nil) ?_
          intro vs w2 hC hL
          have r0 : vs 0 = _ := hL 0 (by decide) rfl
          have r1 : vs 1 = _ := hL 1 (by decide) rfl
          have r2 : vs 2 = _ := hL 2 (by decide) rfl
          have r3 : vs 3 = _ := hL 3 (by decide) rfl
          have r4 : vs 4 = _ := hL 4 (by decide) rfl
          have r5 : vs 5 = _ := hL 5 (by decide) rfl
          have r6 : vs 6 = _ := hL 6 (by decide) rfl
          have r7 : vs 7 = _ := hL 7 (by decide) rfl
          have r8 : vs 8 = _ := hL 8 (by decide) rfl
          have r9 : vs 9 = _ := hL 9 (by decide) rfl
          clear hL
          simp only [putAll, Act.put, List.contains_nil, cond_false, List.setIfInBounds_toArray, List.set_cons_succ, List.set_cons_zero, List.filterMap_nil, r0, r1, r2, r3, r4, r5, r6, r7, r8, r9]
          clear r0 r1 r2 r3 r4 r5 r6 r7 r8 r9
          go_wp2_with fail
          go_ret
          exact ⟨ret_bool HN.out.symm, hE.tr hC⟩
      · go_wp2_with fail
        go_ret
        refine ⟨ret_bool ?_, hE⟩
        have hkk : k = l.length := by omega
        have := HT.out
        rw [hkk, List.take_length, hlen, List.take_length] at this
        simp [this]
  · have hb : ((l.length : Int) != (m.length : Int)) = true := by simp; omega
    have hne : ¬ l = m := fun h => hlen (by rw [h])
    have HN := Lib.hid hne
    clear hne hlen
    go_enter Try.func43, Try.ntmps43
    go_wp2_with fail
    go_ret
    exact ⟨ret_bool (by simp [HN.out]), Ext.refl' _⟩


theorem infoOp : (Try.prog.info? 30).map (fun i => (i.zero, i.size, i.bytes)) = some (some (.agg #[.int .i64 0, .slice none 0 0]), 2, 32) := by kernel_rfl
set_option maxHeartbeats 1000000 in
set_option maxRecDepth 100000 in
theorem toOpS_any (fs : List (Int × List Int)) (v : Value) (w : World) (hr : RdOpS w v fs) (hl : szOpS fs ≤ 1048576) :
    Calls Try.prog 41 #[v] w fun e w' => ∃ u fp, e = .returned u ∧ Ext w w' ∧ OwnOpS w' u fs fp ∧ ∀ g ∈ fp, w.heap.size ≤ g := by
  obtain ⟨a, b, off, cap, ts, rfl, hlc, hcm, ha, hc⟩ := hr
  obtain ⟨i0, hi, hz0, hz1, hz2⟩ := info_parts infoOp
  have hlen := len_le_szOpS fs
  go_enter Try.func41, Try.ntmps41
  go_wp2_with (at_make; refine wpList_make_full _ rfl _ _ 52 rfl 0 30 i0 (.agg #[.int .i64 0, .slice none 0 0]) 2 Try.underlying52 hi hz0 hz1 _ _ _ _ fs.length rfl rfl rfl rfl (by rw [hz2]; omega) (by unfold maxLen; omega) (by omega) ?_)
  intro w1 hown hgr
  go_wp2_with fail
  go_loopw [4] (fun i wr => ∃ (k : Nat) (fp : List Nat), k ≤ fs.length ∧ i = .int .i64 k ∧ Ext w wr ∧ OwnOpS wr (.slice (some ⟨w.heap.size, 0, none⟩) fs.length fs.length) (fs.take k ++ List.replicate (fs.length - k) (0, [])) fp ∧ ∀ g ∈ fp, w.heap.size ≤ g)
    (fun i _ => fs.length - (intOf i).toNat)
  case atStart =>
    refine ⟨0, [w.heap.size], by omega, rfl, ?_, ?_, by simp⟩
    · exact (Ext.refl' w).grown hgr (Nat.le_refl _) (by simp)
    · refine OwnL.replicate (z := [.int .i64 0, .slice none 0 0]) rfl ⟨_, rfl, World.ownsRow_nil _ _ _ _, rfl⟩ ?_
      rw [← madeCells_two]
      simpa [Value.cells] using hown
  case round =>
    obtain ⟨k, fp, hk, rfl, hE, ho, hf⟩ := hrel
    by_cases hkl : k < fs.length
    · obtain rfl := ha (by omega)
      obtain ⟨hc0, hc1, hrk⟩ := hc k hkl
      replace hc0 := hE.cell hc0
      replace hc1 := hE.cell hc1
      have hel := elem_le_szOpS hkl
      have hrd : RdOp wr (.agg #[.int .i64 fs[k].1, ts k]) fs[k] := ⟨_, rfl, hrk.ext hE⟩
      generalize ts k = y at hc1 hrk hrd
      rw [replicate_pred _ _ _ hkl] at ho
      obtain ⟨c, b2, cap2, f, fo, hO, -, -, hfo⟩ := OwnL.open eOp_ok ho
      obtain ⟨hv, q1, q2, q3, q4, q5, q6, q7⟩ := hO.parts
      simp only [Value.slice.injEq, Option.some.injEq, Addr.mk.injEq, and_true] at hv
      obtain ⟨rfl, hl2, rfl⟩ := hv
      have hA : (fs.take k).length = k := by simp; omega
      clear hl2 q1 q7
      go_wp2_with fail
      refine (toOp_any _ _ _ hrd (by omega)).mono ?_
      rintro e w2 ⟨u, f2, rfl, hE2, ho2, hf2⟩
      obtain ⟨tu, rfl, ho2⟩ := ho2
      obtain ⟨ua, uc, rfl⟩ := ho2.form
      replace hO := hO.ext eOp_ok hE2
      obtain ⟨-, -, -, -, -, r5, r6, r7⟩ := hO.parts
      have hfz := r6 (k * 2)
      have hfz2 := r6 (k * 2 + 1)
      obtain ⟨x0, x1, hc0'⟩ := len_two' q3
      have hcu := r7 0 x0 (by rw [hc0']; rfl)
      have hcu2 := r7 1 x1 (by rw [hc0']; rfl)
      rw [hA, Nat.add_zero] at hcu
      rw [hA] at hcu2
      have hS := OwnO.store eOp_ok hO 0 (by omega) (.int .i64 fs[k].1)
      rw [hA, Nat.add_zero, hc0', List.set_cons_zero] at hS
      have hS := OwnO.store eOp_ok hS 1 (by omega) (.slice ua fs[k].2.length uc)
      rw [hA, List.set_cons_succ, List.set_cons_zero] at hS
      have hd : ∀ g ∈ f2, g ∉ fo := fun g hg hm => by have := hf2 g hg; have := OwnL.lt eOp_ok ho g ((hfo g).2 (.inl hm)); omega
      have hb2 : w.heap.size ∉ f2 := fun hm => by have := hf2 _ hm; omega
      have hX := OwnO.close (fp := fo ++ f2) eOp_ok hS ⟨_, rfl, (ho2.set hb2 _).set hb2 _⟩ hd (fun g => List.mem_append)
      have hE3 : Ext w ((w2.setCell ⟨w.heap.size, k * 2, none⟩ (.int .i64 fs[k].1)).setCell ⟨w.heap.size, k * 2 + 1, none⟩ (.slice ua fs[k].2.length uc)) := ((hE.tr hE2).setCell (p := ⟨w.heap.size, k * 2, none⟩) (Nat.le_refl _) _).setCell (p := ⟨w.heap.size, k * 2 + 1, none⟩) (Nat.le_refl _) _
      rw [show fs.take k ++ (fs[k].1, fs[k].2) :: List.replicate (fs.length - (k + 1)) (0, []) = fs.take (k + 1) ++ List.replicate (fs.length - (k + 1)) (0, []) from by rw [List.take_succ_eq_append_getElem hkl, List.append_assoc]; rfl] at hX
      have hf3 : ∀ g ∈ fo ++ f2, w.heap.size ≤ g := fun g hg => by
        rcases List.mem_append.1 hg with h | h
        · exact hf g ((hfo g).2 (.inl h))
        · have := hf2 g h
          omega
      clear ho hO hS r6 r7 q6 hA
      go_wp2_with fail
      go_roundw
      case rel => exact ⟨k + 1, fo ++ f2, by omega, by go_num, hE3, hX, hf3⟩
      case measure => simp [intOf]; omega
    · go_wp2_with fail
      go_ret
      have hkk : k = fs.length := by omega
      subst hkk
      rw [List.take_length, Nat.sub_self, List.replicate_zero, List.append_nil] at ho
      exact ⟨_, _, rfl, hE, ho, hf⟩

set_option maxHeartbeats 1000000 in
set_option maxRecDepth 100000 in
theorem markOpS_any (fs : List (Int × List Int)) (v : Value) (fp : List Nat) (k0 : Int) (w : World) (ho : OwnOpS w v fs fp) (hk0 : 0 ≤ k0) (hb : k0 + mkOpS fs ≤ 4611686018427387904) :
    Calls Try.prog 44 #[v, .int .i64 k0] w fun e w' => e = .returned (.int .i64 (k0 + mkOpS fs)) ∧ Off fp w w' ∧ OwnOpS w' v (marksOpS k0 fs) fp := by
  obtain ⟨a, c, rfl⟩ := ho.form
  have hlen : (fs.length : Int) ≤ 9223372036854775807 := by
    obtain ⟨a', b', off', cap', vs, hv, h1, h2, _⟩ := ho.rd
    omega
  go_enter Try.func44, Try.ntmps44
  go_wp2_with fail
  go_loopw [1, 5] (fun q i wr => ∃ k : Nat, k ≤ fs.length ∧ i = .int .i64 k ∧ q = .int .i64 (k0 + mkOpS (fs.take k)) ∧ Off fp w wr ∧ OwnOpS wr (.slice a fs.length c) (marksOpS k0 (fs.take k) ++ fs.drop k) fp)
    (fun _ i _ => fs.length - (intOf i).toNat)
  case atStart => exact ⟨0, by omega, rfl, by simp [mkOpS], Off.refl _ _, by simpa [marksOpS] using ho⟩
  case round =>
    obtain ⟨k, hk, rfl, rfl, hO, ho1⟩ := hrel
    by_cases hkl : k < fs.length
    · have hT := mkOpS_take fs k hkl
      have hT2 := mkOpS_take_le fs (k + 1)
      rw [List.drop_eq_getElem_cons hkl] at ho1
      obtain ⟨cs, b2, cap2, f, fo, hOp, ⟨u, rfl, hu⟩, hd, hfo⟩ := OwnL.open eOp_ok ho1
      obtain ⟨hv, q1, q2, q3, q4, q5, q6, q7⟩ := hOp.parts
      simp only [Value.slice.injEq] at hv
      obtain ⟨rfl, hl2, rfl⟩ := hv
      have hA : (marksOpS k0 (fs.take k)).length = k := by rw [marksOpS_length]; simp; omega
      have hck := q7 0 _ rfl
      have hck2 := q7 1 _ rfl
      rw [hA, Nat.add_zero] at hck
      rw [hA] at hck2
      have hfz := q6 (k * 2)
      have hS := OwnO.store eOp_ok hOp 0 (by omega) (.int .i64 (k0 + mkOpS (fs.take k)))
      rw [hA, Nat.add_zero, List.set_cons_zero] at hS
      have hbf : b2 ∉ f := fun hm => hd _ hm (by have := q4; exact this)
      have hbfp : b2 ∈ fp := (hfo _).2 (.inl q4)
      replace hu := hu.set (p := ⟨b2, k * 2, none⟩) hbf (.int .i64 (k0 + mkOpS (fs.take k)))
      have hO1 : Off fp w (wr.setCell ⟨b2, k * 2, none⟩ (.int .i64 (k0 + mkOpS (fs.take k)))) := hO.trans (Off.set hbfp)
      have hck3 : (wr.setCell ⟨b2, k * 2, none⟩ (.int .i64 (k0 + mkOpS (fs.take k)))).cell? ⟨b2, k * 2 + 1, none⟩ = some u := cell_set hck2 (.inr (by dsimp only; omega))
      obtain ⟨ua, uc, rfl⟩ := hu.form
      clear hl2 q1 q7 hck2 hOp ho1
      go_wp2_with fail
      refine (markInt64S_any _ _ _ _ _ hu (by omega) (by unfold mkOp at hT; omega)).mono ?_
      rintro e w2 ⟨rfl, hO2, hu2⟩
      have hOp2 := OwnO.off eOp_ok hS hO2 (fun g hg hm => hd g hm hg)
      have hX := OwnO.close (y := (k0 + (mkOpS (fs.take k) : Int), (marksOp (k0 + mkOpS (fs.take k) + 1) fs[k]).2)) (fp := fp) eOp_ok hOp2 ⟨_, rfl, hu2⟩ hd hfo
      have hO3 : Off fp w w2 := hO1.trans (hO2.mono fun g hg => (hfo g).2 (.inr hg))
      have hM := marksOpS_take fs k0 k hkl
      have hX2 : OwnOpS w2 (.slice (some ⟨b2, 0, none⟩) fs.length c) (marksOpS k0 (fs.take (k + 1)) ++ fs.drop (k + 1)) fp := by rw [hM, List.append_assoc]; exact hX
      have hQ := Lib.hid (show k0 + (mkOpS (fs.take k) : Int) + 1 + (mkOp fs[k] : Int) = k0 + (mkOpS (fs.take (k + 1)) : Int) from by omega)
      clear hS hOp2 hX hM q6 hA hT
      go_wp2_with fail
      go_roundw
      case rel => exact ⟨k + 1, by omega, by go_num, by rw [← hQ.out]; rfl, hO3, hX2⟩
      case measure => simp [intOf]; omega
    · go_wp2_with fail
      go_ret
      have hkk : k = fs.length := by omega
      subst hkk
      rw [List.take_length] at ho1 ⊢
      rw [List.drop_length, List.append_nil] at ho1
      exact ⟨rfl, hO, ho1⟩
def SP.ownOpS (fs : List (Int × List Int)) : SP := ⟨fun v w => ∃ fp, OwnOpS w v fs fp, fun _ _ _ ⟨fp, h⟩ hE => ⟨fp, h.ext hE⟩⟩
theorem rdOpS_of_sp {w : World} {v : Value} {fs : List (Int × List Int)} (h : ∃ fp, OwnOpS w v fs fp) : RdOpS w v fs := let ⟨_, h⟩ := h; h.rd
end Go.Proofs.Ytfmoekfeajfidaa
