/- SameRel: the program's and the reference's give one function's answers. What the reference's loops over relations lean on: a fresh owned value through a region that draws; sets of tuples told by their numbers. -/
import Derived.Test.YtajkepdfemdagaaGreatDoorC04
import Derived.Test.YtajkepdfemdagaaGreatDoorC06
namespace Go.Proofs.YtajkepdfemdagaaGreatDoor
open Go.RowKit
set_option linter.unusedVariables false

def SSameRel (r s : Int × List (List Int)) : Bool := decide (r = s)

set_option maxHeartbeats 1000000 in
theorem l01Same_any (f g : Int × List (List Int)) (v u : Value) (w : World) (hr : PtRel w v f) (hs : PtRel w u g) :
    Calls Tryz.prog 64 #[v, u] w fun e w' => e = .returned (.bool (decide (f = g))) ∧ Qt w w' := by
  obtain ⟨b0, off0, tv, rfl, c0, c1, hr⟩ := hr
  obtain ⟨b1, off1, tv', rfl, d0, d1, hs⟩ := hs
  obtain ⟨a, b, off, cap, vs, rfl, hlc, hcm, ha, hc⟩ := hr
  obtain ⟨a', b', off', cap', vs', rfl, hlc', hcm', ha', hc'⟩ := hs
  by_cases h1 : f.1 = g.1
  · have hbx : (f.1 != g.1) = false := by simp [h1]
    by_cases hlen : f.2.length = g.2.length
    · have hb : ((f.2.length : Int) != (g.2.length : Int)) = false := by simp [hlen]
      have H1 := Lib.hid h1
      clear h1
      go_enter Tryz.func64, Tryz.ntmps64
      go_wp2
      go_quiet (fail)
      go_wp2
      go_loopw [5] (fun i wr => ∃ k : Nat, k ≤ f.2.length ∧ i = .int .i64 k ∧ Qt w wr ∧ f.2.take k = g.2.take k) (fun i _ => f.2.length - (intOf i).toNat)
      case atStart => exact ⟨0, by omega, rfl, ⟨_, rfl⟩, rfl⟩
      case round =>
        obtain ⟨k, hk, rfl, hE, ht⟩ := hrel
        have HB := Lib.hid hb
        have HX := Lib.hid hbx
        have HT := Lib.hid ht
        clear hb hbx ht
        replace c1 := hE.ext.cell c1
        replace d1 := hE.ext.cell d1
        by_cases hkl : k < f.2.length
        · have hkm : k < g.2.length := by omega
          obtain rfl := ha (by omega)
          obtain rfl := ha' (by omega)
          obtain ⟨h1, k1⟩ := hc k hkl
          obtain ⟨h2, k2⟩ := hc' k hkm
          replace h1 := hE.ext.cell h1
          replace h2 := hE.ext.cell h2
          replace k1 := k1.ext hE.ext
          replace k2 := k2.ext hE.ext
          have HL := Lib.hid hlen
          clear hlen
          by_cases hlk : f.2[k] = g.2[k]
          · have hT : decide (f.2[k] = g.2[k]) = true := decide_eq_true hlk
            have HK := Lib.hid (show f.2.take (k + 1) = g.2.take (k + 1) from by rw [List.take_succ_eq_append_getElem hkl, List.take_succ_eq_append_getElem hkm, HT.out, hlk])
            clear hlk
            go_wp2_with fail
            go_quiet ((go_at_call 86; refine Calls.quiet_of (v := .bool true) ?_; refine (l00Same_any _ _ _ _ _ (k1.ext (Qt.ext ⟨_, rfl⟩)) (k2.ext (Qt.ext ⟨_, rfl⟩))).mono ?_; rintro e w' ⟨he, hq⟩; exact ⟨by rw [he, hT], hq⟩))
            have hnx : Qt w (wr.drewN nq) := hE.drewN _
            go_wp2_with fail
            go_roundw
            case rel => exact ⟨k + 1, by omega, by go_num, hnx, HK.out⟩
            case measure => simp [intOf]; omega
          · have hT : decide (f.2[k] = g.2[k]) = false := decide_eq_false hlk
            have HN := Lib.hid (show decide (f = g) = false from decide_eq_false fun h => hlk (by subst h; rfl))
            clear hlk
            go_wp2_with fail
            go_quiet ((go_at_call 86; refine Calls.quiet_of (v := .bool false) ?_; refine (l00Same_any _ _ _ _ _ (k1.ext (Qt.ext ⟨_, rfl⟩)) (k2.ext (Qt.ext ⟨_, rfl⟩))).mono ?_; rintro e w' ⟨he, hq⟩; exact ⟨by rw [he, hT], hq⟩))
            have hnx : Qt w (wr.drewN nq) := hE.drewN _
            go_wp2_with fail
            go_ret
            exact ⟨ret_bool HN.out.symm, hnx⟩
        · go_wp2
          go_ret
          refine ⟨ret_bool ?_, hE⟩
          have hkk : k = f.2.length := by omega
          have := HT.out
          rw [hkk, List.take_length, hlen, List.take_length] at this
          exact (rel_eq H1.out this).symm
    · have hb : ((f.2.length : Int) != (g.2.length : Int)) = true := by simp; omega
      have HN := Lib.hid (rel_ne2 (f := f) (g := g) fun h => hlen (by rw [h]))
      clear hlen h1
      go_enter Tryz.func64, Tryz.ntmps64
      go_wp2
      go_quiet (fail)
      go_wp2
      go_ret
      exact ⟨ret_bool HN.out.symm, _, rfl⟩
  · have hbx : (f.1 != g.1) = true := by simp [h1]
    have HN := Lib.hid (rel_ne1 h1)
    clear h1
    go_enter Tryz.func64, Tryz.ntmps64
    go_wp2
    go_quiet (fail)
    go_wp2
    go_ret
    exact ⟨ret_bool HN.out.symm, _, rfl⟩
set_option maxHeartbeats 400000 in
theorem specSameRel_any (f : Int × List (List Int)) (v : Value) (g : Int × List (List Int)) (u : Value) (w : World) (hr : RdRel w v f) (hs : RdRel w u g) (_ : szRel f ≤ 1048576) (_ : szRel g ≤ 1048576) :
    Calls Tryz.prog 19 #[v, u] w fun e w' => e = .returned (.bool (SSameRel f g)) ∧ Ext w w' := by
  obtain ⟨tv, rfl, hr⟩ := hr
  obtain ⟨tu, rfl, hs⟩ := hs
  obtain ⟨ta, tc, rfl⟩ := hr.form
  obtain ⟨ua, uc, rfl⟩ := hs.form
  have hE1 : Ext w ((w.alloc (.cells #[.int .i64 f.1, .slice ta f.2.length tc] 35)).alloc (.cells #[.int .i64 g.1, .slice ua g.2.length uc] 35)) := ((Ext.refl' w).alloc (Nat.le_refl _) _).alloc (by simp) _
  go_enter Tryz.func19, Tryz.ntmps19
  go_wp2_with (go_at_call 64; refine (l01Same_any f g _ _ _ ⟨_, _, _, rfl, by simp [go_sem], by simp [go_sem], hr.ext hE1⟩ ⟨_, _, _, rfl, by simp [go_sem], by simp [go_sem], hs.ext hE1⟩).mono ?_; rintro e w2 ⟨rfl, hE⟩)
  go_ret
  exact ⟨rfl, hE1.tr hE.ext⟩

set_option maxHeartbeats 1000000 in
theorem equalFuncII_any (l m : List (List Int)) (v u : Value) (f : FuncId) (first cap : Array Value) (w : World) (hr : RdII w v l) (hs : RdII w u m)
    (hcall : ∀ xs w, (callFunc f xs).run Tryz.prog w = .ok (.enter f xs) w)
    (hf : ∀ x y vx vy w', RdI w' vx x → RdI w' vy y → Calls Tryz.prog f (first ++ #[vx, vy] ++ cap) w' fun e w'' => e = .returned (.bool (decide (x = y))) ∧ Qt w' w'') :
    Calls Tryz.prog 124 #[v, u, .func (.func f) first cap] w fun e w' => e = .returned (.bool (decide (l = m))) ∧ Qt w w' := by
  obtain ⟨a, b, off, cap1, vs, rfl, hlc, hcm, ha, hc⟩ := hr
  obtain ⟨a', b', off', cap', vs', rfl, hlc', hcm', ha', hc'⟩ := hs
  have HF := Lib.hid hf
  clear hf
  by_cases hlen : l.length = m.length
  · have hb : ((l.length : Int) != (m.length : Int)) = false := by simp [hlen]
    go_enter Tryz.func124, Tryz.ntmps124
    go_wp2
    go_loopw [17] (fun i wr => ∃ k : Nat, k ≤ l.length ∧ i = .int .i64 k ∧ Qt w wr ∧ l.take k = m.take k) (fun i _ => l.length - (intOf i).toNat)
    case atStart => exact ⟨0, by omega, rfl, Qt.refl _, rfl⟩
    case round =>
      obtain ⟨k, hk, rfl, hE, ht⟩ := hrel
      have HB := Lib.hid hb
      have HT := Lib.hid ht
      clear hb ht
      by_cases hkl : k < l.length
      · have hkm : k < m.length := by omega
        obtain rfl := ha (by omega)
        obtain rfl := ha' (by omega)
        obtain ⟨h1, k1⟩ := hc k hkl
        obtain ⟨h2, k2⟩ := hc' k hkm
        replace h1 := hE.ext.cell h1
        replace h2 := hE.ext.cell h2
        have hC := HF.out _ _ _ _ wr (k1.ext hE.ext) (k2.ext hE.ext)
        have HL := Lib.hid hlen
        clear hlen
        by_cases hlk : l[k] = m[k]
        · rw [decide_eq_true hlk] at hC
          have HK := Lib.hid (show l.take (k + 1) = m.take (k + 1) from by rw [List.take_succ_eq_append_getElem hkl, List.take_succ_eq_append_getElem hkm, HT.out, hlk])
          clear hlk
          go_wp2_with fail
          refine (by simpa using hC : Calls _ _ _ _ _).mono ?_
          rintro e w2 ⟨rfl, hQ⟩
          go_wp2_with fail
          go_roundw
          case rel => exact ⟨k + 1, by omega, by go_num, Qt.trans hE hQ, HK.out⟩
          case measure => simp [intOf]; omega
        · rw [decide_eq_false hlk] at hC
          have HN := Lib.hid (show decide (l = m) = false from decide_eq_false fun h => hlk (by subst h; rfl))
          clear hlk
          go_wp2_with fail
          refine (by simpa using hC : Calls _ _ _ _ _).mono ?_
          rintro e w2 ⟨rfl, hQ⟩
          go_wp2_with fail
          go_ret
          exact ⟨ret_bool HN.out.symm, Qt.trans hE hQ⟩
      · go_wp2
        go_ret
        refine ⟨ret_bool ?_, hE⟩
        have hkk : k = l.length := by omega
        have := HT.out
        rw [hkk, List.take_length, hlen, List.take_length] at this
        simp [this]
  · have hb : ((l.length : Int) != (m.length : Int)) = true := by simp; omega
    have hne : ¬ l = m := fun h => hlen (by rw [h])
    have HN := Lib.hid hne
    clear hne hlen
    go_enter Tryz.func124, Tryz.ntmps124
    go_wp2
    go_ret
    exact ⟨ret_bool (by simp [HN.out]), Qt.refl _⟩
set_option maxHeartbeats 400000 in
theorem sameLists_any (l m : List (List Int)) (v u : Value) (w : World) (hr : RdII w v l) (hs : RdII w u m) :
    Calls Tryz.prog 74 #[v, u] w fun e w' => e = .returned (.bool (decide (l = m))) ∧ Qt w w' := by
  go_enter Tryz.func74, Tryz.ntmps74
  go_wp2_with fail
  refine (equalFuncII_any l m _ _ 125 #[] #[] _ hr hs Tryz.call125 ?_).mono ?_
  · intro x y vx vy w' h1 h2
    simp only [List.append_toArray, List.nil_append, List.append_nil]
    go_enter Tryz.func125, Tryz.ntmps125
    go_wp2_with fail
    refine (slicesEqual_any _ _ _ _ _ h1 h2).mono ?_
    rintro e w2 ⟨rfl, hE⟩
    go_wp2_with fail
    go_ret
    exact ⟨rfl, hE⟩
  rintro e w2 ⟨rfl, hE⟩
  go_wp2_with fail
  go_ret
  exact ⟨rfl, hE⟩
set_option maxHeartbeats 400000 in
theorem implSameRel_ok (f : Int × List (List Int)) (v : Value) (g : Int × List (List Int)) (u : Value) (w : World) (hr : RdRel w v f) (hs : RdRel w u g) :
    Calls Tryz.prog 27 #[v, u] w fun e w' => e = .returned (.bool (SSameRel f g)) ∧ Ext w w' := by
  obtain ⟨tv, rfl, hr⟩ := hr
  obtain ⟨tu, rfl, hs⟩ := hs
  obtain ⟨ta, tc, rfl⟩ := hr.form
  obtain ⟨ua, uc, rfl⟩ := hs.form
  have hE1 : Ext w ((w.alloc (.cells #[.int .i64 f.1, .slice ta f.2.length tc] 35)).alloc (.cells #[.int .i64 g.1, .slice ua g.2.length uc] 35)) := ((Ext.refl' w).alloc (Nat.le_refl _) _).alloc (by simp) _
  by_cases h1 : f.1 = g.1
  · have hb : (f.1 == g.1) = true := by simp [h1]
    have HF := Lib.hid (show decide (f = g) = decide (f.2 = g.2) from by rw [decide_eq_decide]; exact ⟨fun h => by rw [h], fun h => Prod.ext h1 h⟩)
    clear h1
    go_enter Tryz.func27, Tryz.ntmps27
    go_wp2_with (go_at_call 74; refine (sameLists_any _ _ _ _ _ (hr.ext hE1) (hs.ext hE1)).mono ?_; rintro e w2 ⟨rfl, hE⟩)
    go_ret
    exact ⟨ret_bool HF.out.symm, hE1.tr hE.ext⟩
  · have hb : (f.1 == g.1) = false := by simp [h1]
    have HF := Lib.hid (rel_ne1 h1)
    clear h1
    go_enter Tryz.func27, Tryz.ntmps27
    go_wp2_with fail
    go_ret
    exact ⟨ret_bool HF.out.symm, hE1⟩
theorem implSameRel_any (f : Int × List (List Int)) (v : Value) (g : Int × List (List Int)) (u : Value) (w : World) (hr : RdRel w v f) (hs : RdRel w u g) (_ : szRel f ≤ 1048576) (_ : szRel g ≤ 1048576) :
    Calls Tryz.prog 27 #[v, u] w fun e w' => e = .returned (.bool (SSameRel f g)) ∧ Ext w w' := implSameRel_ok f v g u w hr hs
end Go.Proofs.YtajkepdfemdagaaGreatDoor
namespace Go.Proofs.YtajkepdfemdagaaGreatDoor
open Go.RowKit
set_option linter.unusedVariables false

def SP.ownIb (B : Nat) (l : List Int) : SP := ⟨fun v w => ∃ fp, OI w v l fp ∧ ∀ g ∈ fp, B ≤ g, fun _ _ _ ⟨fp, h, hb⟩ hE => ⟨fp, h.ext hE, hb⟩⟩
theorem rdI_of_spb {w : World} {v : Value} {l : List Int} {B : Nat} (h : ∃ fp, OI w v l fp ∧ ∀ g ∈ fp, B ≤ g) : RdI w v l := let ⟨_, h, _⟩ := h; h.rd
def SP.rowIb (B : Nat) (l : List Int) : SP := ⟨fun v w => ∃ b u fp, v = .slice (some ⟨b, 0, none⟩) 1 1 ∧ w.cell? ⟨b, 0, none⟩ = some u ∧ OI w u l fp ∧ ∀ g ∈ fp, B ≤ g,
  fun _ w _ ⟨b, u, fp, h1, h2, h3, h4⟩ hE => ⟨b, u, fp, h1, Ext.cell hE h2, h3.ext hE, h4⟩⟩
theorem rowIb_new {B : Nat} {l : List Int} {w : World} {x : Value} {e : TypeId} (h : ∃ fp, OI w x l fp ∧ ∀ g ∈ fp, B ≤ g) :
    ∃ b u fp, (Value.slice (some ⟨w.heap.size, 0, none⟩) 1 1) = .slice (some ⟨b, 0, none⟩) 1 1 ∧ (w.alloc (.cells #[x] e)).cell? ⟨b, 0, none⟩ = some u ∧ OI (w.alloc (.cells #[x] e)) u l fp ∧ ∀ g ∈ fp, B ≤ g := by
  obtain ⟨fp, h1, h2⟩ := h
  exact ⟨_, x, fp, rfl, by simp [go_sem], h1.alloc _, h2⟩

theorem Step.rowIb {ops : List Oper} {o : Oper} {ρ : Operand → Value} {w : World} {B : Nat} {l : List Int} {t e : TypeId} {y : Operand} (hg : o.guard = none) (hop : o.op = .buildSlice t 1 #[(0, y)]) (hy : ∃ fp, OI w (ρ y) l fp ∧ ∀ g ∈ fp, B ≤ g)
    (hr : ∀ (a : Option Addr) (n c : Nat) (w : World), (Instr.buildSlice t 1 #[(0, .slice a n c)]).run Tryz.prog w = .ok (.slice (some ⟨w.heap.size, 0, none⟩) 1 1) (w.alloc (.cells #[.slice a n c] e))) :
    Step Tryz.prog ops o ρ w (SP.rowIb B l).R := by
  obtain ⟨fp, h1, h2⟩ := hy
  obtain ⟨a, c, hv⟩ := h1.form
  rw [hv] at h1
  exact Step.buildSlice1 hg hop hv (hr a _ c w) (rowIb_new ⟨fp, h1, h2⟩)

/-- the tuples with the numbers that h says, in order -/
def allC (s m : Int) (h : Nat → Bool) (n : Nat) : List (List Int) := ((List.range n).filter h).map fun k : Nat => digs s m.toNat k
theorem allC_yes {s m : Int} {h : Nat → Bool} {k : Nat} (hk : h k = true) : allC s m h (k + 1) = allC s m h k ++ [digs s m.toNat k] := by simp [allC, List.range_succ, List.filter_append, hk]
theorem allC_no {s m : Int} {h : Nat → Bool} {k : Nat} (hk : h k = false) : allC s m h (k + 1) = allC s m h k := by simp [allC, List.range_succ, List.filter_append, hk]
theorem allC_length (s m : Int) (h : Nat → Bool) (n : Nat) : (allC s m h n).length ≤ n := by
  unfold allC
  rw [List.length_map]
  exact Nat.le_trans (List.length_filter_le _ _) (by simp)
theorem allD_eq (s m : Int) (p : List Int → Bool) (n : Nat) : allD s m p n = allC s m (fun k => p (digs s m.toNat k)) n := by
  unfold allD allC
  rw [List.filter_map]
  rfl
end Go.Proofs.YtajkepdfemdagaaGreatDoor
