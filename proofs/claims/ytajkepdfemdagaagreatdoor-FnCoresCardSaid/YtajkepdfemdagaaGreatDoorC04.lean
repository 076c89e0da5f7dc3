/- The laws' own functions over one rel. Numbers: ranges, sizes, arities, powers. -/
import Derived.Test.YtajkepdfemdagaaGreatDoorC03
import Derived.Test.YtajkepdfemdagaaGreatDoorC02
namespace Go.Proofs.YtajkepdfemdagaaGreatDoor
open Go.RowKit
set_option linter.unusedVariables false

theorem heldII_neg : ∀ {l : List (List Int)} {k : Int}, heldII l k < 0 → 0 ≤ k → heldII l k = -1
  | [], k, h, hk => by simp [heldII] at h; omega
  | l :: ls, k, h, hk => by
    simp only [heldII] at *
    by_cases hh : heldI l k < 0
    · rw [if_pos hh]
    · rw [if_neg hh] at h ⊢
      exact heldII_neg h (by omega)
theorem OII.set {w : World} {v : Value} {ll : List (List Int)} {fp : List Nat} (h : OII w v ll fp) {p : Addr} (hp : p.block ∉ fp) (u : Value) : OII (w.setCell p u) v ll fp :=
  OII.off h (Off.set (fp := [p.block]) (by simp)) fun g hg hm => hp (by rw [List.mem_singleton] at hm; exact hm ▸ hg)

/-- v reads as the rel f: its arity, its table -/
def RdRel (w : World) (v : Value) (f : Int × List (List Int)) : Prop := ∃ tv, v = .agg #[.int .i64 f.1, tv] ∧ RdII w tv f.2
theorem RdRel.ext {w w' : World} {v : Value} {f : Int × List (List Int)} (h : RdRel w v f) (hE : Ext w w') : RdRel w' v f := let ⟨tv, h1, h2⟩ := h; ⟨tv, h1, h2.ext hE⟩
def OwnRel (w : World) (v : Value) (f : Int × List (List Int)) (fp : List Nat) : Prop := ∃ tv, v = .agg #[.int .i64 f.1, tv] ∧ OII w tv f.2 fp
theorem OwnRel.rd {w : World} {v : Value} {f : Int × List (List Int)} {fp : List Nat} (h : OwnRel w v f fp) : RdRel w v f := let ⟨tv, h1, h2⟩ := h; ⟨tv, h1, h2.rd⟩
theorem OwnRel.ext {w w' : World} {v : Value} {f : Int × List (List Int)} {fp : List Nat} (h : OwnRel w v f fp) (hE : Ext w w') : OwnRel w' v f fp := let ⟨tv, h1, h2⟩ := h; ⟨tv, h1, h2.ext hE⟩
theorem OwnRel.lt {w : World} {v : Value} {f : Int × List (List Int)} {fp : List Nat} (h : OwnRel w v f fp) : ∀ g ∈ fp, g < w.heap.size := let ⟨_, _, h2⟩ := h; h2.lt
theorem OwnRel.off {w w' : World} {v : Value} {f : Int × List (List Int)} {fp fp' : List Nat} (h : OwnRel w v f fp) (hO : Off fp' w w') (hd : ∀ g ∈ fp, g ∉ fp') : OwnRel w' v f fp := let ⟨tv, h1, h2⟩ := h; ⟨tv, h1, h2.off hO hd⟩

theorem RdRel.form {w : World} {v : Value} {f : Int × List (List Int)} (h : RdRel w v f) : ∃ tv, v = .agg #[.int .i64 f.1, tv] := let ⟨tv, h1, _⟩ := h; ⟨tv, h1⟩
theorem OwnRel.form {w : World} {v : Value} {f : Int × List (List Int)} {fp : List Nat} (h : OwnRel w v f fp) : ∃ a c, v = .agg #[.int .i64 f.1, .slice a f.2.length c] := by
  obtain ⟨tv, rfl, h⟩ := h
  obtain ⟨a, c, rfl⟩ := h.form
  exact ⟨a, c, rfl⟩
/-- a rel's size, its marks, what is held of them -/
def szRel (f : Int × List (List Int)) : Nat := szII f.2
def mkRel (f : Int × List (List Int)) : Nat := mkII f.2
def marksRel (k : Int) (f : Int × List (List Int)) : Int × List (List Int) := (f.1, marksII k f.2)
def heldRel (f : Int × List (List Int)) (k : Int) : Int := heldII f.2 k
theorem heldRel_marks (k : Int) (f : Int × List (List Int)) (hk : 0 ≤ k) : heldRel (marksRel k f) k = k + mkRel f := heldII_marks k _ hk
theorem mkRel_le (f : Int × List (List Int)) : mkRel f ≤ szRel f := mkII_le _
theorem mkRel_marks (k : Int) (f : Int × List (List Int)) : mkRel (marksRel k f) = mkRel f := mkII_marks _ _

def SP.ownRel (f : Int × List (List Int)) : SP := ⟨fun v w => ∃ fp, OwnRel w v f fp, fun _ _ _ ⟨fp, h⟩ hE => ⟨fp, h.ext hE⟩⟩
theorem rdRel_of_sp {w : World} {v : Value} {f : Int × List (List Int)} (h : ∃ fp, OwnRel w v f fp) : RdRel w v f := let ⟨_, h⟩ := h; h.rd

/-- what a function leaves that answers a rel and a code -/
def RelRes (R : (Int × List (List Int)) × Int) (w : World) (e : Ending) (w' : World) : Prop :=
  ∃ u fp, e = .returned (.tuple #[u, .int .i64 R.2]) ∧ Ext w w' ∧ OwnRel w' u R.1 fp ∧ (∀ h ∈ fp, w.heap.size ≤ h) ∧ mkRel R.1 ≤ 1048576
theorem RelRes.of {R : (Int × List (List Int)) × Int} {w w' : World} {u : Value} {c : Int} {fp : List Nat} (hc : c = R.2) (hE : Ext w w') (ho : OwnRel w' u R.1 fp) (hf : ∀ h ∈ fp, w.heap.size ≤ h) (hb : mkRel R.1 ≤ 1048576) : RelRes R w (.returned (.tuple #[u, .int .i64 c])) w' := by
  subst hc
  exact ⟨u, fp, rfl, hE, ho, hf, hb⟩
def noRel : Int × List (List Int) := (0, [])
theorem noRel_own (w : World) : OwnRel w (.agg #[.int .i64 0, .slice none 0 0]) noRel [] := ⟨_, rfl, OwnL.nil _⟩
theorem RelRes.no {c : Int} {w w' : World} (hE : Ext w w') : RelRes (noRel, c) w (.returned (.tuple #[.agg #[.int .i64 0, .slice none 0 0], .int .i64 c])) w' := RelRes.of rfl hE (noRel_own _) (by simp) (show (0 : Nat) ≤ 1048576 by omega)



theorem rel_ne1 {f g : Int × List (List Int)} (h : ¬ f.1 = g.1) : decide (f = g) = false := by simp; intro hh; exact h (by rw [hh])
theorem rel_ne2 {f g : Int × List (List Int)} (h : ¬ f.2 = g.2) : decide (f = g) = false := by simp; intro hh; exact h (by rw [hh])
theorem rel_eq {f g : Int × List (List Int)} (h1 : f.1 = g.1) (h2 : f.2 = g.2) : decide (f = g) = true := by simp; exact Prod.ext h1 h2

set_option maxHeartbeats 400000 in
theorem eqRel_any (f g : Int × List (List Int)) (v u : Value) (w : World) (hr : RdRel w v f) (hs : RdRel w u g) :
    Calls Tryz.prog 99 #[v, u] w fun e w' => e = .returned (.bool (decide (f = g))) ∧ Ext w w' := by
  obtain ⟨tv, rfl, hr⟩ := hr
  obtain ⟨tu, rfl, hs⟩ := hs
  have hE1 : Ext w ((w.alloc (.cells #[.int .i64 f.1, tv] 35)).alloc (.cells #[.int .i64 g.1, tu] 35)) := ((Ext.refl' w).alloc (Nat.le_refl _) _).alloc (by simp) _
  by_cases h1 : f.1 = g.1
  · have hb : (f.1 != g.1) = false := by simp [h1]
    by_cases h2 : f.2 = g.2
    · have hd : decide (f.2 = g.2) = true := by simp [h2]
      have HF := Lib.hid (rel_eq h1 h2)
      clear h1 h2
      go_enter Tryz.func99, Tryz.ntmps99
      go_wp2_with (go_at_call 149; refine (eqInt64SS_any _ _ _ _ _ (hr.ext hE1) (hs.ext hE1)).mono ?_; rintro e w2 ⟨rfl, hE⟩)
      go_ret
      exact ⟨ret_bool HF.out.symm, hE1.tr hE⟩
    · have hd : decide (f.2 = g.2) = false := by simp [h2]
      have HF := Lib.hid (rel_ne2 h2)
      clear h1 h2
      go_enter Tryz.func99, Tryz.ntmps99
      go_wp2_with (go_at_call 149; refine (eqInt64SS_any _ _ _ _ _ (hr.ext hE1) (hs.ext hE1)).mono ?_; rintro e w2 ⟨rfl, hE⟩)
      go_ret
      exact ⟨ret_bool HF.out.symm, hE1.tr hE⟩
  · have hb : (f.1 != g.1) = true := by simp [h1]
    have HF := Lib.hid (rel_ne1 h1)
    clear h1
    go_enter Tryz.func99, Tryz.ntmps99
    go_wp2_with fail
    go_ret
    exact ⟨ret_bool HF.out.symm, hE1⟩



/-- a pointer at a rel's two cells -/
def PtRel (w : World) (p : Value) (f : Int × List (List Int)) : Prop := ∃ b off tv, p = .pointer (some ⟨b, off, none⟩) ∧ w.cell? ⟨b, off, none⟩ = some (.int .i64 f.1) ∧ w.cell? ⟨b, off + 1, none⟩ = some tv ∧ RdII w tv f.2
theorem PtRel.ext {w w' : World} {p : Value} {f : Int × List (List Int)} (h : PtRel w p f) (hE : Ext w w') : PtRel w' p f := let ⟨b, off, tv, h1, h2, h3, h4⟩ := h; ⟨b, off, tv, h1, hE.cell h2, hE.cell h3, h4.ext hE⟩

end Go.Proofs.YtajkepdfemdagaaGreatDoor
namespace Go.Proofs.YtajkepdfemdagaaGreatDoor
open Go.RowKit
set_option linter.unusedVariables false

/-- n is from lo to hi -/
def inB (n lo hi : Int) : Bool := decide (lo ≤ n) && decide (n ≤ hi)
theorem inB_iff {n lo hi : Int} : inB n lo hi = true ↔ lo ≤ n ∧ n ≤ hi := by simp [inB]
theorem inB_false {n lo hi : Int} : inB n lo hi = false ↔ ¬ (lo ≤ n ∧ n ≤ hi) := by rw [← inB_iff]; simp

/-- the power, as Go reckons it -/
def powW (s : Int) : Nat → Int
  | 0 => 1
  | n + 1 => wrap64 (powW s n * s)

theorem Calls.qs {P : Program} {f : FuncId} {args : Array Value} {w : World} {n : Nat} {v : Value} (h : Calls P f args (w.drewN n) fun e w' => e = .returned v ∧ w.drewN n = w') :
    Calls P f args (w.drewN n) fun e w'' => e = .returned v ∧ ∃ m, w'' = w.drewN m := Calls.quiet_of_same (h.mono fun _ _ ⟨a, b⟩ => ⟨a, b.symm⟩)
theorem Calls.qq {P : Program} {f : FuncId} {args : Array Value} {w : World} {n : Nat} {v : Value} (h : Calls P f args (w.drewN n) fun e w' => e = .returned v ∧ Qt (w.drewN n) w') :
    Calls P f args (w.drewN n) fun e w'' => e = .returned v ∧ ∃ m, w'' = w.drewN m := Calls.quiet_of h

theorem Calls.qsv {P : Program} {f : FuncId} {args : Array Value} {w : World} {n : Nat} {u : Value} (v : Value) (h : Calls P f args (w.drewN n) fun e w' => e = .returned u ∧ w.drewN n = w') (hu : u = v) :
    Calls P f args (w.drewN n) fun e w'' => e = .returned v ∧ ∃ m, w'' = w.drewN m := by subst hu; exact Calls.qs h

theorem within_any (n lo hi : Int) (w : World) :
    Calls Tryz.prog 106 #[.int .i64 n, .int .i64 lo, .int .i64 hi] w fun e w' => e = .returned (.bool (inB n lo hi)) ∧ w = w' := by
  unfold inB
  by_cases h : lo ≤ n
  · go_enter Tryz.func106, Tryz.ntmps106
    go_wp2
    go_ret
    exact ⟨ret_bool (by simp [h]), rfl⟩
  · go_enter Tryz.func106, Tryz.ntmps106
    go_wp2
    go_ret
    exact ⟨ret_bool (by simp; omega), rfl⟩
theorem l00In_any (n lo hi : Int) (w : World) :
    Calls Tryz.prog 140 #[.int .i64 n, .int .i64 lo, .int .i64 hi] w fun e w' => e = .returned (.bool (inB n lo hi)) ∧ w = w' := by
  unfold inB
  by_cases h : lo ≤ n
  · go_enter Tryz.func140, Tryz.ntmps140
    go_wp2
    go_ret
    exact ⟨ret_bool (by simp [h]), rfl⟩
  · go_enter Tryz.func140, Tryz.ntmps140
    go_wp2
    go_ret
    exact ⟨ret_bool (by simp; omega), rfl⟩

theorem isSize_any (n : Int) (w : World) :
    Calls Tryz.prog 61 #[.int .i64 n] w fun e w' => e = .returned (.bool (inB n 1 4)) ∧ w = w' := by
  go_enter Tryz.func61, Tryz.ntmps61
  go_wp2_with (go_at_call 106; refine (within_any _ _ _ _).mono ?_; rintro e w' ⟨rfl, rfl⟩)
  go_ret
  exact ⟨rfl, rfl⟩
theorem isArity_any (n : Int) (w : World) :
    Calls Tryz.prog 62 #[.int .i64 n] w fun e w' => e = .returned (.bool (inB n 1 4)) ∧ w = w' := by
  go_enter Tryz.func62, Tryz.ntmps62
  go_wp2_with (go_at_call 106; refine (within_any _ _ _ _).mono ?_; rintro e w' ⟨rfl, rfl⟩)
  go_ret
  exact ⟨rfl, rfl⟩
theorem l01Size_any (n : Int) (w : World) :
    Calls Tryz.prog 92 #[.int .i64 n] w fun e w' => e = .returned (.bool (inB n 1 4)) ∧ w = w' := by
  go_enter Tryz.func92, Tryz.ntmps92
  go_wp2_with (go_at_call 140; refine (l00In_any _ _ _ _).mono ?_; rintro e w' ⟨rfl, rfl⟩)
  go_ret
  exact ⟨rfl, rfl⟩
theorem l01Arity_any (n : Int) (w : World) :
    Calls Tryz.prog 112 #[.int .i64 n] w fun e w' => e = .returned (.bool (inB n 1 4)) ∧ w = w' := by
  go_enter Tryz.func112, Tryz.ntmps112
  go_wp2_with (go_at_call 140; refine (l00In_any _ _ _ _).mono ?_; rintro e w' ⟨rfl, rfl⟩)
  go_ret
  exact ⟨rfl, rfl⟩

theorem isValue_any (s n : Int) (w : World) (hs : -9223372036854775807 ≤ s) (hs2 : s ≤ 9223372036854775807) :
    Calls Tryz.prog 110 #[.int .i64 s, .int .i64 n] w fun e w' => e = .returned (.bool (inB n 0 (s - 1))) ∧ w = w' := by
  go_enter Tryz.func110, Tryz.ntmps110
  go_wp2_with (go_at_call 106; refine (within_any _ _ _ _).mono ?_; rintro e w' ⟨rfl, rfl⟩)
  go_ret
  exact ⟨rfl, rfl⟩

set_option maxHeartbeats 400000 in
theorem power_any (s m : Int) (w : World) (hm : m ≤ 9223372036854775807):
    Calls Tryz.prog 76 #[.int .i64 s, .int .i64 m] w fun e w' => e = .returned (.int .i64 (powW s m.toNat)) ∧ w = w' := by
  go_enter Tryz.func76, Tryz.ntmps76
  go_wp2
  go_loop [5, 7] (fun t i => ∃ k : Nat, (k:Int) ≤ max m 0 ∧ i = .int .i64 k ∧ t = .int .i64 (powW s k)) (fun _ i => (m - intOf i).toNat)
  case atStart => exact ⟨0, by omega, rfl, rfl⟩
  case round =>
    obtain ⟨k, hk, rfl, rfl⟩ := hrel
    go_wp2
    · go_round
      case rel => exact ⟨k + 1, by omega, by go_num, rfl⟩
      case measure => simp [intOf]; omega
    · go_ret
      refine ⟨ret_int ?_, rfl⟩
      have : m.toNat = k := by omega
      rw [this]

set_option maxHeartbeats 400000 in
theorem l01Power_any (s m : Int) (w : World) (hm : m ≤ 9223372036854775807) (hm0 : -9223372036854775808 ≤ m) :
    Calls Tryz.prog 89 #[.int .i64 s, .int .i64 m] w fun e w' => e = .returned (.int .i64 (powW s m.toNat)) ∧ w = w' := by
  go_enter Tryz.func89, Tryz.ntmps89
  go_wp2
  go_loop [1, 5] (fun i t => ∃ k : Nat, (k:Int) ≤ max m 0 ∧ i = .int .i64 (m - k) ∧ t = .int .i64 (powW s k)) (fun i _ => (intOf i).toNat)
  case atStart => exact ⟨0, by omega, by simp, rfl⟩
  case round =>
    obtain ⟨k, hk, rfl, rfl⟩ := hrel
    go_wp2
    · go_round
      case rel => exact ⟨k + 1, by omega, by go_num, rfl⟩
      case measure => simp [intOf]; omega
    · go_ret
      refine ⟨ret_int ?_, rfl⟩
      have : m.toNat = k := by omega
      rw [this]

end Go.Proofs.YtajkepdfemdagaaGreatDoor
