/- Relations of some tuples: the program's makeRel. The reference's source of numbers, drawn from bytes: what it answers is a number below the bound. -/
import Derived.Test.YtajkepdfemdagaaGreatDoorC13
import Derived.Test.YtajkepdfemdagaaGreatDoorC06
import Derived.Test.YtajkepdfemdagaaGreatDoorC08
import Derived.Laws.Bits64b
namespace Go.Proofs.YtajkepdfemdagaaGreatDoor
open Go.RowKit
set_option linter.unusedVariables false

theorem len_szII : ∀ ll : List (List Int), ll.length ≤ szII ll
  | [] => Nat.le_refl _
  | l :: ls => by have := len_szII ls; unfold szII; rw [List.length_cons]; omega
theorem Off.frz {fp : List Nat} {w w' : World} (h : Off fp w w') {p : Addr} (hp : p.block < w.heap.size) (hn : p.block ∉ fp) : w'.frozen? p = w.frozen? p := World.frozen?_of_block (h.block _ hp hn)
theorem cmpFn_any (a b : List Int) (x y : Value) (w : World) (h1 : RdI w x a) (h2 : RdI w y b) : Calls Tryz.prog 120 #[x, y] w fun e w' => e = .returned (.int .i64 (cmpL a b)) ∧ w = w' := by
  obtain ⟨xa, xc, rfl⟩ := h1.form
  obtain ⟨ya, yc, rfl⟩ := h2.form
  go_enter Tryz.func120, Tryz.ntmps120
  go_wp2_with fail
  refine (compare_any a b _ _ _ h1 h2).mono ?_
  rintro e w' ⟨rfl, rfl⟩
  go_wp2_with fail
  go_ret
  exact ⟨rfl, rfl⟩
theorem eqFn_any (a b : List Int) (x y : Value) (w : World) (h1 : RdI w x a) (h2 : RdI w y b) : Calls Tryz.prog 122 #[x, y] w fun e w' => e = .returned (.bool (decide (a = b))) ∧ Qt w w' := by
  obtain ⟨xa, xc, rfl⟩ := h1.form
  obtain ⟨ya, yc, rfl⟩ := h2.form
  go_enter Tryz.func122, Tryz.ntmps122
  go_wp2_with fail
  refine (slicesEqual_any a b _ _ _ h1 h2).mono ?_
  rintro e w' ⟨rfl, hQ⟩
  go_wp2_with fail
  go_ret
  exact ⟨rfl, hQ⟩
set_option maxHeartbeats 2000000 in
set_option maxRecDepth 100000 in
theorem makeRel_any (s m : Int) (ll : List (List Int)) (v : Value) (w : World) (hr : RdII w v ll) (hl : ll.length ≤ 1048576) (hv : ∀ t ∈ ll, vals s t m = true) (hs : 1 ≤ s) (hs2 : s ≤ 4) (hm : 1 ≤ m) (hm2 : m ≤ 4) :
    Calls Tryz.prog 73 #[.int .i64 m, v] w fun e w' => ∃ u fp, e = .returned u ∧ Ext w w' ∧ OwnRel w' u (SrelOf s m fun t => decide (t ∈ ll)) fp ∧ ∀ h ∈ fp, w.heap.size ≤ h := by
  obtain ⟨va, vc, rfl⟩ := hr.form
  have hA : Ext w (w.alloc (.cells #[.int .i64 0, .slice none 0 0] 35)) := (Ext.refl' w).alloc (Nat.le_refl _) _
  have hlen : ∀ t ∈ ll, 0 < t.length ∧ t.length ≤ 1048576 := fun t ht => by have := (vals_iff.1 (hv t ht)).1; omega
  have HV := Lib.hid hv
  clear hv
  go_enter Tryz.func73, Tryz.ntmps73
  go_wp2_with fail
  refine (ownLists_any ll _ _ (hr.ext hA) hl hlen).mono ?_
  rintro e w1 ⟨u, fp, rfl, hE, ho, hfp⟩
  have d0 := hE.cell (p := ⟨w.heap.size, 0, none⟩) (v := .int .i64 0) (by simp [go_sem])
  have d1 := hE.cell (p := ⟨w.heap.size, 1, none⟩) (v := .slice none 0 0) (by simp [go_sem])
  have f2 := hE.frozen (p := ⟨w.heap.size, 0, none⟩) (by simp)
  have f3 := hE.frozen (p := ⟨w.heap.size, 1, none⟩) (by simp)
  simp [go_sem] at f2 f3
  replace hE := hA.tr hE
  have hfp' : ∀ h ∈ fp, w.heap.size + 1 ≤ h := fun g hg => by have := hfp g hg; simpa using this
  have hn0 : w.heap.size ∉ fp := fun h => by have := hfp' _ h; omega
  obtain ⟨ua, uc, rfl⟩ := ho.form
  go_wp2_with fail
  refine (sortLL_any ll _ fp _ ho hl 120 Tryz.call120 cmpFn_any).mono ?_
  rintro e w2 ⟨rfl, T, fp2, hperm, hsrt, hO, ho2, hsub⟩
  replace f2 : _ = false := (hO.frz (lt_of_cell d0) hn0).trans f2
  replace f3 : _ = false := (hO.frz (lt_of_cell d1) hn0).trans f3
  replace d0 := hO.cell d0 hn0
  replace d1 := hO.cell d1 hn0
  have hE2 : Ext w w2 := Below.trans hE (hO.below hE.size fun k hk => by have := hfp' k hk; omega)
  have hTl : T.length = ll.length := hperm.length_eq
  have hn2 : w.heap.size ∉ fp2 := fun h => hn0 (hsub _ h)
  have hmade := made_rel hs hs2 hm hm2 (fun t => hperm.mem_iff) hsrt HV.out
  have HM := Lib.hid hmade
  have hTl2 : T.length ≤ 1048576 := by omega
  clear hmade hperm hO
  go_wp2_with fail
  refine (compactLL_any T _ fp2 _ ho2 hTl2 122 Tryz.call122 eqFn_any).mono ?_
  rintro e w3 ⟨x, fp3, rfl, hO3, ho3, hsub3⟩
  replace f2 : _ = false := (hO3.frz (lt_of_cell d0) hn2).trans f2
  replace f3 : _ = false := (hO3.frz (lt_of_cell d1) hn2).trans f3
  replace d0 := hO3.cell d0 hn2
  replace d1 := hO3.cell d1 hn2
  have hE3 : Ext w w3 := Below.trans hE2 (hO3.below hE2.size fun k hk => by have := hfp' k (hsub _ hk); omega)
  have hn3 : w.heap.size ∉ fp3 := fun h => hn2 (hsub3 _ h)
  have hfp3 : ∀ g ∈ fp3, w.heap.size ≤ g := fun g hg => by have := hfp' g (hsub _ (hsub3 _ hg)); omega
  obtain ⟨xa, xc, rfl⟩ := ho3.form
  have ho4 := OII.set (OII.set ho3 (p := ⟨w.heap.size, 0, none⟩) hn3 (.int .i64 m)) (p := ⟨w.heap.size, 1, none⟩) hn3 (.slice xa (dedup T).length xc)
  clear ho ho2 hr hsub hsub3 hO3
  go_wp2_with fail
  exact bodyPost_ret (v := .agg #[.int .i64 m, .slice xa (dedup T).length xc]) (by simp [results, Tryz.results73, go_sem, d0, d1]) rfl
    ⟨_, fp3, rfl, (hE3.setCell (by simp) _).setCell (by simp) _, by rw [← HM.out]; exact ⟨_, rfl, ho4⟩, hfp3⟩
end Go.Proofs.YtajkepdfemdagaaGreatDoor
namespace Go.Proofs.YtajkepdfemdagaaGreatDoor
open Go.RowKit
set_option linter.unusedVariables false

/-- v reads as bytes -/
def RdB (w : World) (v : Value) : Prop :=
  ∃ a b off n c, v = .slice a n c ∧ n ≤ c ∧ c ≤ 9223372036854775807 ∧ (0 < n → a = some ⟨b, off, none⟩) ∧ ∀ j, j < n → ∃ x : Int, 0 ≤ x ∧ x < 256 ∧ b < w.heap.size ∧ w.cell? ⟨b, off + j, none⟩ = some (.int .u8 x)
theorem RdB.ext {w w' : World} {v : Value} (h : RdB w v) (hE : Ext w w') : RdB w' v := by
  obtain ⟨a, b, off, n, c, h1, h2, h3, h4, h5⟩ := h
  exact ⟨a, b, off, n, c, h1, h2, h3, h4, fun j hj => let ⟨x, x1, x2, x3, x4⟩ := h5 j hj; ⟨x, x1, x2, Nat.lt_of_lt_of_le x3 hE.size, hE.cell x4⟩⟩
/-- the bytes stand apart from block g -/
def RdBx (g : Nat) (w : World) (v : Value) : Prop :=
  ∃ a b off n c, v = .slice a n c ∧ n ≤ c ∧ c ≤ 9223372036854775807 ∧ (0 < n → a = some ⟨b, off, none⟩ ∧ b < g) ∧ ∀ j, j < n → ∃ x : Int, 0 ≤ x ∧ x < 256 ∧ w.cell? ⟨b, off + j, none⟩ = some (.int .u8 x)
theorem RdBx.off {g : Nat} {w w' : World} {v : Value} (h : RdBx g w v) (hO : Off [g] w w') : RdBx g w' v := by
  obtain ⟨a, b, off, n, c, h1, h2, h3, h4, h5⟩ := h
  exact ⟨a, b, off, n, c, h1, h2, h3, h4, fun j hj => let ⟨x, x1, x2, x4⟩ := h5 j hj; ⟨x, x1, x2, hO.cell x4 (by rw [List.mem_singleton]; have := (h4 (by omega)).2; dsimp only; omega)⟩⟩
theorem RdBx.below {g : Nat} {w w' : World} {v : Value} (h : RdBx g w v) (hO : Below (g + 1) w w') : RdBx g w' v := by
  obtain ⟨a, b, off, n, c, h1, h2, h3, h4, h5⟩ := h
  exact ⟨a, b, off, n, c, h1, h2, h3, h4, fun j hj => let ⟨x, x1, x2, x4⟩ := h5 j hj; ⟨x, x1, x2, by rw [Below.cell hO (by have := (h4 (by omega)).2; dsimp only; omega)]; exact x4⟩⟩
/-- a source in block g, that has answered k times -/
def Src (w : World) (g : Nat) (k : Int) : Prop :=
  ∃ v s, RdBx g w v ∧ w.cell? ⟨g, 0, none⟩ = some v ∧ w.cell? ⟨g, 1, none⟩ = some (.int .i64 k) ∧ w.cell? ⟨g, 2, none⟩ = some (.int .u64 s) ∧ w.frozen? ⟨g, 1, none⟩ = false ∧ w.frozen? ⟨g, 2, none⟩ = false
theorem Src.below {w w' : World} {g : Nat} {k : Int} (h : Src w g k) (hB : Below (g + 1) w w') : Src w' g k := by
  obtain ⟨v, s, h1, h2, h3, h4, h5, h6⟩ := h
  exact ⟨v, s, h1.below hB, by rw [Below.cell hB (by dsimp only; omega)]; exact h2, by rw [Below.cell hB (by dsimp only; omega)]; exact h3, by rw [Below.cell hB (by dsimp only; omega)]; exact h4, by rw [Below.frozen hB (by dsimp only; omega)]; exact h5, by rw [Below.frozen hB (by dsimp only; omega)]; exact h6⟩
theorem Src.lt {w : World} {g : Nat} {k : Int} (h : Src w g k) : g < w.heap.size := let ⟨_, _, _, h2, _⟩ := h; lt_of_cell h2
theorem own_off {e : TypeId} {base size n : Nat} {w w' : World} {v : Value} {xs : List Value} {g : Nat} (h : w.ownsRow base e size v n xs) (hO : Off [g] w w') (hg : g < base) : w'.ownsRow base e size v n xs :=
  own_kept h fun k hk => hO.block k (own_lt h k hk) (by rw [List.mem_singleton]; have := (h.lt k hk).1; omega)
/-- what a function leaves that draws a tuple -/
def TupRes (N m : Int) (w : World) (e : Ending) (w' : World) : Prop :=
  ∃ u l fp, e = .returned u ∧ Ext w w' ∧ OI w' u l fp ∧ (∀ g ∈ fp, w.heap.size ≤ g) ∧ (l.length : Int) = m ∧ ∀ x ∈ l, 0 ≤ x ∧ x < N
theorem Src.step {w : World} {g : Nat} {v : Value} {k s : Int} (hv : RdBx g w v) (c0 : w.cell? ⟨g, 0, none⟩ = some v) (c1 : w.cell? ⟨g, 1, none⟩ = some (.int .i64 k)) (c2 : w.cell? ⟨g, 2, none⟩ = some (.int .u64 s)) (f1 : w.frozen? ⟨g, 1, none⟩ = false) (f2 : w.frozen? ⟨g, 2, none⟩ = false) (k' s' : Int) :
    Off [g] w ((w.setCell ⟨g, 1, none⟩ (.int .i64 k')).setCell ⟨g, 2, none⟩ (.int .u64 s')) ∧ RdBx g ((w.setCell ⟨g, 1, none⟩ (.int .i64 k')).setCell ⟨g, 2, none⟩ (.int .u64 s')) v ∧
      ((w.setCell ⟨g, 1, none⟩ (.int .i64 k')).setCell ⟨g, 2, none⟩ (.int .u64 s')).cell? ⟨g, 0, none⟩ = some v ∧ ((w.setCell ⟨g, 1, none⟩ (.int .i64 k')).setCell ⟨g, 2, none⟩ (.int .u64 s')).cell? ⟨g, 1, none⟩ = some (.int .i64 k') ∧
      ((w.setCell ⟨g, 1, none⟩ (.int .i64 k')).setCell ⟨g, 2, none⟩ (.int .u64 s')).cell? ⟨g, 2, none⟩ = some (.int .u64 s') ∧ ((w.setCell ⟨g, 1, none⟩ (.int .i64 k')).setCell ⟨g, 2, none⟩ (.int .u64 s')).frozen? ⟨g, 1, none⟩ = false ∧
      ((w.setCell ⟨g, 1, none⟩ (.int .i64 k')).setCell ⟨g, 2, none⟩ (.int .u64 s')).frozen? ⟨g, 2, none⟩ = false := by
  have hO : Off [g] w ((w.setCell ⟨g, 1, none⟩ (.int .i64 k')).setCell ⟨g, 2, none⟩ (.int .u64 s')) := (Off.set (by simp)).trans (Off.set (by simp))
  exact ⟨hO, hv.off hO, cell_set (cell_set c0 (.inr (by simp))) (.inr (by simp)), cell_set (cell_same c1) (.inr (by simp)), cell_same (cell_set c2 (.inr (by simp))), by simpa using f1, by simpa using f2⟩
theorem wrap64_range (x : Int) : 0 ≤ IntKind.u64.wrap x ∧ IntKind.u64.wrap x < 18446744073709551616 := by
  simp only [IntKind.wrap]
  constructor <;> (simp [IntKind.bits, IntKind.signed] <;> omega)
theorem low_byte (s : Int) (h0 : 0 ≤ s) (h1 : s < 18446744073709551616) : ∃ n : Int, 0 ≤ n ∧ n < 256 ∧ wrap64 (bits BinOp.and IntKind.u64 (s / 1099511627776) 255) = n := by
  obtain ⟨a, ha⟩ := Int.eq_ofNat_of_zero_le (show 0 ≤ s / 1099511627776 by omega)
  have h := Go.bits_and_u64_nat a 255 (by omega) (by decide)
  have hl : a &&& 255 ≤ 255 := Nat.and_le_right
  rw [ha, show (255 : Int) = ((255 : Nat) : Int) from rfl, h]
  exact ⟨((a &&& 255 : Nat) : Int), by omega, by omega, (by unfold wrap64; omega)⟩

set_option maxHeartbeats 4000000 in
set_option maxRecDepth 100000 in
theorem next_any (g : Nat) (k : Int) (w : World) (h : Src w g k) (hk : 0 ≤ k) (hk2 : k < 4611686018427387904) :
    Calls Tryz.prog 102 #[.pointer (some ⟨g, 0, none⟩)] w fun e w' => ∃ n : Int, 0 ≤ n ∧ n < 256 ∧ e = .returned (.int .i64 n) ∧ Off [g] w w' ∧ Src w' g (k + 1) := by
  obtain ⟨v, s, hv, c0, c1, c2, f1, f2⟩ := h
  have hv0 := hv
  obtain ⟨a, b, off, n, c, rfl, hnc, hc, ha, hb⟩ := hv
  obtain ⟨j, rfl⟩ := Int.eq_ofNat_of_zero_le hk
  go_enter Tryz.func102, Tryz.ntmps102
  go_wp2_with fail
  by_cases hj : j < n
  · obtain ⟨rfl, hne⟩ := ha (by omega)
    obtain ⟨x, x0, x1, hx⟩ := hb j hj
    go_wp2_with fail
    refine region_sp [] [] [SP.val (.pointer (some ⟨g, 0, none⟩)), SP.val (.pointer (some ⟨g, 0, none⟩)), SP.val (.pointer (some ⟨g, 1, none⟩)), SP.val (.int .i64 (j : Nat)), SP.val (.pointer (some ⟨g, 0, none⟩)), SP.val (.pointer (some ⟨g, 0, none⟩)), SP.val (.pointer (some ⟨g, 0, none⟩)), SP.val (.slice (some ⟨b, off, none⟩) n c), SP.val (.int .i64 (n : Nat)), SP.val (.bool true)] (by kernel_rfl) (fun _ d _ _ _ h => by cases d <;> exact h) (by kernel_rfl) (by kernel_rfl)
      (.cons (fun vs y hY => Step.move rfl rfl rfl rfl) <|
       .cons (fun vs y hY g0_0 => Step.nilCheck rfl rfl g0_0 rfl) <|
       .cons (fun vs y hY g1_0 => Step.fieldAddr ⟨g, 0, none⟩ rfl rfl g1_0 (by simp [go_sem]) rfl) <|
       .cons (fun vs y hY g2_0 => Step.load ⟨g, 1, none⟩ rfl rfl g2_0 (by simp [go_sem, hY.cell c1]) rfl) <|
       .cons (fun vs y hY => Step.move rfl rfl rfl rfl) <|
       .cons (fun vs y hY g4_0 => Step.nilCheck rfl rfl g4_0 rfl) <|
       .cons (fun vs y hY g5_0 => Step.fieldAddr ⟨g, 0, none⟩ rfl rfl g5_0 (by simp [go_sem]) rfl) <|
       .cons (fun vs y hY g6_0 => Step.load ⟨g, 0, none⟩ rfl rfl g6_0 (by simp [go_sem, hY.cell c0]) rfl) <|
       .cons (fun vs y hY g7_0 => Step.len Tryz.underlying30 rfl rfl g7_0 rfl) <|
       .cons (fun vs y hY g3_0 g8_1 => Step.bin (u := .int .i64 (j : Nat)) (v := .int .i64 (n : Nat)) rfl rfl g3_0 g8_1 (by simp [go_sem, hj]) rfl) <|
       .nil) ?_
    intro vs w1 hC hL
    have r0 : vs 0 = _ := hL 0 (by decide) rfl
    have r1 : vs 1 = _ := hL 1 (by decide) rfl
    have r2 : vs 2 = _ := hL 2 (by decide) rfl
    have r3 : vs 3 = _ := hL 3 (by decide) rfl
    have r4 : vs 4 = _ := hL 4 (by decide) rfl
    have r5 : vs 5 = _ := hL 5 (by decide) rfl
    have r6 : vs 6 = _ := hL 6 (by decide) rfl
    have r7 : vs 7 = _ := hL 7 (by decide) rfl
    have r8 : vs 8 = _ := hL 8 (by decide) rfl
    have r9 : vs 9 = _ := hL 9 (by decide) rfl
    clear hL
    simp only [putAll, Act.put, List.contains_nil, cond_false, List.setIfInBounds_toArray, List.set_cons_succ, List.set_cons_zero, List.filterMap_nil, r0, r1, r2, r3, r4, r5, r6, r7, r8, r9]
    clear r0 r1 r2 r3 r4 r5 r6 r7 r8 r9
    have l1 := lt_of_cell c1
    have l2 := lt_of_cell c2
    replace c0 := hC.cell c0
    replace c1 := hC.cell c1
    replace c2 := hC.cell c2
    replace hx := hC.cell hx
    have hE1 := hC
    clear hC
    go_wp2_with fail
    refine region_sp [] [10, 11] [SP.val (.pointer (some ⟨g, 0, none⟩)), SP.val (.pointer (some ⟨g, 0, none⟩)), SP.val (.pointer (some ⟨g, 0, none⟩)), SP.val (.slice (some ⟨b, off, none⟩) n c), SP.val (.pointer (some ⟨g, 0, none⟩)), SP.val (.pointer (some ⟨g, 0, none⟩)), SP.val (.pointer (some ⟨g, 1, none⟩)), SP.val (.int .i64 (j : Nat)), SP.val (.pointer (some ⟨b, off + j, none⟩)), SP.val (.int .u8 x), SP.any, SP.any] (by kernel_rfl) (fun _ d _ _ _ h => by cases d <;> exact h) (by kernel_rfl) (by kernel_rfl)
      (.cons (fun vs y hY => Step.move rfl rfl rfl rfl) <|
       .cons (fun vs y hY g0_0 => Step.nilCheck rfl rfl g0_0 rfl) <|
       .cons (fun vs y hY g1_0 => Step.fieldAddr ⟨g, 0, none⟩ rfl rfl g1_0 (by simp [go_sem]) rfl) <|
       .cons (fun vs y hY g2_0 => Step.load ⟨g, 0, none⟩ rfl rfl g2_0 (by simp [go_sem, hY.cell c0]) rfl) <|
       .cons (fun vs y hY => Step.move rfl rfl rfl rfl) <|
       .cons (fun vs y hY g4_0 => Step.nilCheck rfl rfl g4_0 rfl) <|
       .cons (fun vs y hY g5_0 => Step.fieldAddr ⟨g, 0, none⟩ rfl rfl g5_0 (by simp [go_sem]) rfl) <|
       .cons (fun vs y hY g6_0 => Step.load ⟨g, 1, none⟩ rfl rfl g6_0 (by simp [go_sem, hY.cell c1]) rfl) <|
       .cons (fun vs y hY g3_0 g7_1 => Step.indexAtP (n := .int .i64 (j : Nat)) ⟨b, off + j, none⟩ rfl rfl g3_0 g7_1 (by simp [go_sem, Instr.indexAt, Addr.add, hj] <;> omega) rfl) <|
       .cons (fun vs y hY g8_0 => Step.load ⟨b, off + j, none⟩ rfl rfl g8_0 (by simp [go_sem, hY.cell hx]) rfl) <|
       .skip rfl <|
       .skip rfl <|
       .nil) ?_
    intro vs w2 hC hL
    have r0 : vs 0 = _ := hL 0 (by decide) rfl
    have r1 : vs 1 = _ := hL 1 (by decide) rfl
    have r2 : vs 2 = _ := hL 2 (by decide) rfl
    have r3 : vs 3 = _ := hL 3 (by decide) rfl
    have r4 : vs 4 = _ := hL 4 (by decide) rfl
    have r5 : vs 5 = _ := hL 5 (by decide) rfl
    have r6 : vs 6 = _ := hL 6 (by decide) rfl
    have r7 : vs 7 = _ := hL 7 (by decide) rfl
    have r8 : vs 8 = _ := hL 8 (by decide) rfl
    have r9 : vs 9 = _ := hL 9 (by decide) rfl
    clear hL
    simp only [putAll, Act.put, List.contains_cons, List.contains_nil, Nat.reduceBEq, Nat.reduceAdd, Bool.or_false, Bool.or_true, cond_true, cond_false, List.setIfInBounds_toArray, List.set_cons_succ, List.set_cons_zero, List.filterMap_cons, List.filterMap_nil, List.getElem?_cons_succ, List.getElem?_cons_zero, r0, r1, r2, r3, r4, r5, r6, r7, r8, r9]
    clear r0 r1 r2 r3 r4 r5 r6 r7 r8 r9
    replace c0 := hC.cell c0
    replace c1 := hC.cell c1
    replace c2 := hC.cell c2
    have hE2 := hE1.tr hC
    have f1 : w2.frozen? ⟨g, 1, none⟩ = false := (hE2.frozen l1).trans f1
    have f2 : w2.frozen? ⟨g, 2, none⟩ = false := (hE2.frozen l2).trans f2
    have hjk : (j : Int) + 1 < 9223372036854775807 := by omega
    clear hE1 hC
    go_wp2_with fail
    generalize IntKind.u64.wrap (IntKind.u64.wrap (IntKind.u64.wrap (s * 6364136223846793005) + x) + 1442695040888963407) = s2
    obtain ⟨hO, hv2, e0, e1, e2, g1, g2⟩ := Src.step (hv0.off (.of_ext hE2)) c0 c1 c2 f1 f2 ((j : Int) + 1) s2
    replace hO := (Off.of_ext hE2).trans hO
    generalize (w2.setCell ⟨g, 1, none⟩ (.int .i64 ((j : Int) + 1))).setCell ⟨g, 2, none⟩ (.int .u64 s2) = W at hO hv2 e0 e1 e2 g1 g2 ⊢
    clear c0 c1 c2 f1 f2
    have hj3 : ((j : Int) + 1 ≤ (n : Int)) := by omega
    go_wp2_with fail
    refine region_sp [] [] [SP.val (.pointer (some ⟨g, 0, none⟩)), SP.val (.pointer (some ⟨g, 0, none⟩)), SP.val (.pointer (some ⟨g, 1, none⟩)), SP.val (.int .i64 ((j : Int) + 1)), SP.val (.pointer (some ⟨g, 0, none⟩)), SP.val (.pointer (some ⟨g, 0, none⟩)), SP.val (.pointer (some ⟨g, 0, none⟩)), SP.val (.slice (some ⟨b, off, none⟩) n c), SP.val (.int .i64 (n : Nat)), SP.val (.bool true)] (by kernel_rfl) (fun _ d _ _ _ h => by cases d <;> exact h) (by kernel_rfl) (by kernel_rfl)
      (.cons (fun vs y hY => Step.move rfl rfl rfl rfl) <|
       .cons (fun vs y hY g0_0 => Step.nilCheck rfl rfl g0_0 rfl) <|
       .cons (fun vs y hY g1_0 => Step.fieldAddr ⟨g, 0, none⟩ rfl rfl g1_0 (by simp [go_sem]) rfl) <|
       .cons (fun vs y hY g2_0 => Step.load ⟨g, 1, none⟩ rfl rfl g2_0 (by simp [go_sem, hY.cell e1]) rfl) <|
       .cons (fun vs y hY => Step.move rfl rfl rfl rfl) <|
       .cons (fun vs y hY g4_0 => Step.nilCheck rfl rfl g4_0 rfl) <|
       .cons (fun vs y hY g5_0 => Step.fieldAddr ⟨g, 0, none⟩ rfl rfl g5_0 (by simp [go_sem]) rfl) <|
       .cons (fun vs y hY g6_0 => Step.load ⟨g, 0, none⟩ rfl rfl g6_0 (by simp [go_sem, hY.cell e0]) rfl) <|
       .cons (fun vs y hY g7_0 => Step.len Tryz.underlying30 rfl rfl g7_0 rfl) <|
       .cons (fun vs y hY g3_0 g8_1 => Step.bin (u := .int .i64 ((j : Int) + 1)) (v := .int .i64 (n : Nat)) rfl rfl g3_0 g8_1 (by simp [go_sem, hj3]) rfl) <|
       .nil) ?_
    intro vs w3 hC hL
    have r0 : vs 0 = _ := hL 0 (by decide) rfl
    have r1 : vs 1 = _ := hL 1 (by decide) rfl
    have r2 : vs 2 = _ := hL 2 (by decide) rfl
    have r3 : vs 3 = _ := hL 3 (by decide) rfl
    have r4 : vs 4 = _ := hL 4 (by decide) rfl
    have r5 : vs 5 = _ := hL 5 (by decide) rfl
    have r6 : vs 6 = _ := hL 6 (by decide) rfl
    have r7 : vs 7 = _ := hL 7 (by decide) rfl
    have r8 : vs 8 = _ := hL 8 (by decide) rfl
    have r9 : vs 9 = _ := hL 9 (by decide) rfl
    clear hL
    simp only [putAll, Act.put, List.contains_nil, cond_false, List.setIfInBounds_toArray, List.set_cons_succ, List.set_cons_zero, List.filterMap_nil, r0, r1, r2, r3, r4, r5, r6, r7, r8, r9]
    clear r0 r1 r2 r3 r4 r5 r6 r7 r8 r9
    go_wp2_with fail
    go_ret
    exact ⟨x, x0, x1, rfl, hO.trans (.of_ext hC), _, s2, hv2.off (.of_ext hC), hC.cell e0, hC.cell e1, hC.cell e2, (hC.frozen (lt_of_cell e1)).trans g1, (hC.frozen (lt_of_cell e2)).trans g2⟩
  · skip
    go_wp2_with fail
    refine region_sp [] [] [SP.val (.pointer (some ⟨g, 0, none⟩)), SP.val (.pointer (some ⟨g, 0, none⟩)), SP.val (.pointer (some ⟨g, 1, none⟩)), SP.val (.int .i64 (j : Nat)), SP.val (.pointer (some ⟨g, 0, none⟩)), SP.val (.pointer (some ⟨g, 0, none⟩)), SP.val (.pointer (some ⟨g, 0, none⟩)), SP.val (.slice a n c), SP.val (.int .i64 (n : Nat)), SP.val (.bool false)] (by kernel_rfl) (fun _ d _ _ _ h => by cases d <;> exact h) (by kernel_rfl) (by kernel_rfl)
      (.cons (fun vs y hY => Step.move rfl rfl rfl rfl) <|
       .cons (fun vs y hY g0_0 => Step.nilCheck rfl rfl g0_0 rfl) <|
       .cons (fun vs y hY g1_0 => Step.fieldAddr ⟨g, 0, none⟩ rfl rfl g1_0 (by simp [go_sem]) rfl) <|
       .cons (fun vs y hY g2_0 => Step.load ⟨g, 1, none⟩ rfl rfl g2_0 (by simp [go_sem, hY.cell c1]) rfl) <|
       .cons (fun vs y hY => Step.move rfl rfl rfl rfl) <|
       .cons (fun vs y hY g4_0 => Step.nilCheck rfl rfl g4_0 rfl) <|
       .cons (fun vs y hY g5_0 => Step.fieldAddr ⟨g, 0, none⟩ rfl rfl g5_0 (by simp [go_sem]) rfl) <|
       .cons (fun vs y hY g6_0 => Step.load ⟨g, 0, none⟩ rfl rfl g6_0 (by simp [go_sem, hY.cell c0]) rfl) <|
       .cons (fun vs y hY g7_0 => Step.len Tryz.underlying30 rfl rfl g7_0 rfl) <|
       .cons (fun vs y hY g3_0 g8_1 => Step.bin (u := .int .i64 (j : Nat)) (v := .int .i64 (n : Nat)) rfl rfl g3_0 g8_1 (by simp [go_sem, hj]) rfl) <|
       .nil) ?_
    intro vs w2 hC hL
    have r0 : vs 0 = _ := hL 0 (by decide) rfl
    have r1 : vs 1 = _ := hL 1 (by decide) rfl
    have r2 : vs 2 = _ := hL 2 (by decide) rfl
    have r3 : vs 3 = _ := hL 3 (by decide) rfl
    have r4 : vs 4 = _ := hL 4 (by decide) rfl
    have r5 : vs 5 = _ := hL 5 (by decide) rfl
    have r6 : vs 6 = _ := hL 6 (by decide) rfl
    have r7 : vs 7 = _ := hL 7 (by decide) rfl
    have r8 : vs 8 = _ := hL 8 (by decide) rfl
    have r9 : vs 9 = _ := hL 9 (by decide) rfl
    clear hL
    simp only [putAll, Act.put, List.contains_nil, cond_false, List.setIfInBounds_toArray, List.set_cons_succ, List.set_cons_zero, List.filterMap_nil, r0, r1, r2, r3, r4, r5, r6, r7, r8, r9]
    clear r0 r1 r2 r3 r4 r5 r6 r7 r8 r9
    have l1 := lt_of_cell c1
    have l2 := lt_of_cell c2
    replace c0 := hC.cell c0
    replace c1 := hC.cell c1
    replace c2 := hC.cell c2
    have hE2 := hC
    have f1 : w2.frozen? ⟨g, 1, none⟩ = false := (hE2.frozen l1).trans f1
    have f2 : w2.frozen? ⟨g, 2, none⟩ = false := (hE2.frozen l2).trans f2
    have hjk : (j : Int) + 1 < 9223372036854775807 := by omega
    clear hC
    go_wp2_with fail
    obtain ⟨s0, s1⟩ := wrap64_range (IntKind.u64.wrap (IntKind.u64.wrap (s * 6364136223846793005)) + 1442695040888963407)
    generalize IntKind.u64.wrap (IntKind.u64.wrap (IntKind.u64.wrap (s * 6364136223846793005)) + 1442695040888963407) = s2 at s0 s1 ⊢
    obtain ⟨hO, hv2, e0, e1, e2, g1, g2⟩ := Src.step (hv0.off (.of_ext hE2)) c0 c1 c2 f1 f2 ((j : Int) + 1) s2
    replace hO := (Off.of_ext hE2).trans hO
    generalize (w2.setCell ⟨g, 1, none⟩ (.int .i64 ((j : Int) + 1))).setCell ⟨g, 2, none⟩ (.int .u64 s2) = W at hO hv2 e0 e1 e2 g1 g2 ⊢
    clear c0 c1 c2 f1 f2
    have hj3 : (n : Int) < (j : Int) + 1 := by omega
    go_wp2_with fail
    refine region_sp [] [] [SP.val (.pointer (some ⟨g, 0, none⟩)), SP.val (.pointer (some ⟨g, 0, none⟩)), SP.val (.pointer (some ⟨g, 1, none⟩)), SP.val (.int .i64 ((j : Int) + 1)), SP.val (.pointer (some ⟨g, 0, none⟩)), SP.val (.pointer (some ⟨g, 0, none⟩)), SP.val (.pointer (some ⟨g, 0, none⟩)), SP.val (.slice a n c), SP.val (.int .i64 (n : Nat)), SP.val (.bool false)] (by kernel_rfl) (fun _ d _ _ _ h => by cases d <;> exact h) (by kernel_rfl) (by kernel_rfl)
      (.cons (fun vs y hY => Step.move rfl rfl rfl rfl) <|
       .cons (fun vs y hY g0_0 => Step.nilCheck rfl rfl g0_0 rfl) <|
       .cons (fun vs y hY g1_0 => Step.fieldAddr ⟨g, 0, none⟩ rfl rfl g1_0 (by simp [go_sem]) rfl) <|
       .cons (fun vs y hY g2_0 => Step.load ⟨g, 1, none⟩ rfl rfl g2_0 (by simp [go_sem, hY.cell e1]) rfl) <|
       .cons (fun vs y hY => Step.move rfl rfl rfl rfl) <|
       .cons (fun vs y hY g4_0 => Step.nilCheck rfl rfl g4_0 rfl) <|
       .cons (fun vs y hY g5_0 => Step.fieldAddr ⟨g, 0, none⟩ rfl rfl g5_0 (by simp [go_sem]) rfl) <|
       .cons (fun vs y hY g6_0 => Step.load ⟨g, 0, none⟩ rfl rfl g6_0 (by simp [go_sem, hY.cell e0]) rfl) <|
       .cons (fun vs y hY g7_0 => Step.len Tryz.underlying30 rfl rfl g7_0 rfl) <|
       .cons (fun vs y hY g3_0 g8_1 => Step.bin (u := .int .i64 ((j : Int) + 1)) (v := .int .i64 (n : Nat)) rfl rfl g3_0 g8_1 (by simp [go_sem, hj3]) rfl) <|
       .nil) ?_
    intro vs w3 hC hL
    have r0 : vs 0 = _ := hL 0 (by decide) rfl
    have r1 : vs 1 = _ := hL 1 (by decide) rfl
    have r2 : vs 2 = _ := hL 2 (by decide) rfl
    have r3 : vs 3 = _ := hL 3 (by decide) rfl
    have r4 : vs 4 = _ := hL 4 (by decide) rfl
    have r5 : vs 5 = _ := hL 5 (by decide) rfl
    have r6 : vs 6 = _ := hL 6 (by decide) rfl
    have r7 : vs 7 = _ := hL 7 (by decide) rfl
    have r8 : vs 8 = _ := hL 8 (by decide) rfl
    have r9 : vs 9 = _ := hL 9 (by decide) rfl
    clear hL
    simp only [putAll, Act.put, List.contains_nil, cond_false, List.setIfInBounds_toArray, List.set_cons_succ, List.set_cons_zero, List.filterMap_nil, r0, r1, r2, r3, r4, r5, r6, r7, r8, r9]
    clear r0 r1 r2 r3 r4 r5 r6 r7 r8 r9
    have e3 := hC.cell e2
    go_wp2_with fail
    obtain ⟨m, m0, m1, hm⟩ := low_byte s2 s0 s1
    rw [hm]
    go_ret
    exact ⟨m, m0, m1, rfl, hO.trans (.of_ext hC), _, s2, hv2.off (.of_ext hC), hC.cell e0, hC.cell e1, hC.cell e2, (hC.frozen (lt_of_cell e1)).trans g1, (hC.frozen (lt_of_cell e2)).trans g2⟩

set_option maxHeartbeats 1000000 in
theorem pick_any (g : Nat) (k N : Int) (w : World) (h : Src w g k) (hk : 0 ≤ k) (hk2 : k < 4611686018427387904) (hN : 1 ≤ N) (hN2 : N ≤ 200) :
    Calls Tryz.prog 53 #[.pointer (some ⟨g, 0, none⟩), .int .i64 N] w fun e w' => ∃ n k' : Int, 0 ≤ n ∧ n < N ∧ k ≤ k' ∧ k' ≤ k + 1 ∧ e = .returned (.int .i64 n) ∧ Off [g] w w' ∧ Src w' g k' := by
  go_enter Tryz.func53, Tryz.ntmps53
  by_cases h1 : N ≤ 1
  · go_wp2_with fail
    go_ret
    exact ⟨0, k, by omega, by omega, by omega, by omega, rfl, Off.refl _ _, h⟩
  · have h2 : ¬ 200 < N := by omega
    have h3 : N ≠ 0 := by omega
    go_wp2_with fail
    refine (next_any g k _ h hk hk2).mono ?_
    rintro e w1 ⟨x, x0, x1, rfl, hO, hS⟩
    have m0 := Int.emod_nonneg x h3
    have m1 := Int.emod_lt_of_pos x (show 0 < N by omega)
    go_wp2_with fail
    go_ret
    exact ⟨x % N, k + 1, m0, m1, by omega, by omega, rfl, hO, hS⟩
theorem one_any (g : Nat) (k N : Int) (w : World) (h : Src w g k) (hk : 0 ≤ k) (hk2 : k < 4611686018427387904) (hN : 1 ≤ N) (hN2 : N ≤ 200) :
    Calls Tryz.prog 103 #[.pointer (some ⟨g, 0, none⟩), .int .i64 N] w fun e w' => ∃ (b : Bool) (k' : Int), k ≤ k' ∧ k' ≤ k + 1 ∧ e = .returned (.bool b) ∧ Off [g] w w' ∧ Src w' g k' := by
  go_enter Tryz.func103, Tryz.ntmps103
  go_wp2_with fail
  refine (pick_any g k N _ h hk hk2 hN hN2).mono ?_
  rintro e w1 ⟨x, k', x0, x1, k0, k1, rfl, hO, hS⟩
  go_wp2_with fail
  go_ret
  exact ⟨_, k', k0, k1, rfl, hO, hS⟩
theorem from_any (v : Value) (w : World) (h : RdB w v) :
    Calls Tryz.prog 52 #[v] w fun e w' => e = .returned (.pointer (some ⟨w.heap.size, 0, none⟩)) ∧ Ext w w' ∧ w'.heap.size = w.heap.size + 1 ∧ Src w' w.heap.size 0 := by
  obtain ⟨a, b, off, n, c, rfl, hnc, hc, ha, hb⟩ := h
  go_enter Tryz.func52, Tryz.ntmps52
  go_wp2_with fail
  go_ret
  have hA : Ext w (w.alloc (.cells #[.slice a n c, .int .i64 0, .int .u64 0] 119)) := (Ext.refl' w).alloc (Nat.le_refl _) _
  exact ⟨rfl, hA, by simp, _, 0, ⟨a, b, off, n, c, rfl, hnc, hc, fun h0 => ⟨ha h0, by obtain ⟨_, _, _, hb', _⟩ := hb 0 h0; omega⟩, fun j hj => let ⟨x, x0, x1, _, hx⟩ := hb j hj; ⟨x, x0, x1, hA.cell hx⟩⟩, by simp [go_sem], by simp [go_sem], by simp [go_sem], by simp [go_sem], by simp [go_sem]⟩
theorem p6Pick_any (v : Value) (N : Int) (w : World) (h : RdB w v) (hN : 1 ≤ N) (hN2 : N ≤ 200) :
    Calls Tryz.prog 12 #[v, .int .i64 N] w fun e w' => ∃ n : Int, 0 ≤ n ∧ n < N ∧ e = .returned (.int .i64 n) ∧ Ext w w' := by
  have h0 := h
  obtain ⟨a, b, off, n, c, rfl, -⟩ := h0
  go_enter Tryz.func12, Tryz.ntmps12
  go_wp2_with fail
  refine (from_any _ _ h).mono ?_
  rintro e w1 ⟨rfl, hE, hz, hS⟩
  go_wp2_with fail
  refine (pick_any _ 0 N _ hS (by omega) (by omega) hN hN2).mono ?_
  rintro e w2 ⟨x, k', x0, x1, -, -, rfl, hO, -⟩
  go_wp2_with fail
  go_ret
  exact ⟨x, x0, x1, rfl, Below.trans hE (hO.below hE.size fun g hg => by rw [List.mem_singleton] at hg; omega)⟩
set_option maxHeartbeats 4000000 in
set_option maxRecDepth 100000 in
theorem p6Tuple_any (v : Value) (N m : Int) (w : World) (h : RdB w v) (hN : 1 ≤ N) (hN2 : N ≤ 200) (hm : 0 ≤ m) (hm2 : m ≤ 100) :
    Calls Tryz.prog 14 #[v, .int .i64 N, .int .i64 m] w (TupRes N m w) := by
  obtain ⟨i0, hi, hz0, hz1, hz2⟩ := info_parts infoI
  have h0 := h
  obtain ⟨a, b, off, n, c, rfl, -⟩ := h0
  go_enter Tryz.func14, Tryz.ntmps14
  go_wp2_with fail
  refine (from_any _ _ h).mono ?_
  rintro e w1 ⟨rfl, hE, hz, hS⟩
  go_wp2_with fail
  have hmd : (w1.alloc (.cells #[] 2)).ownsRow (w.heap.size + 1) 2 1 (.slice (some ⟨w.heap.size + 1, 0, none⟩) 0 0) 0 [] := by
    have h : (w1.alloc (.cells #[] 2)).ownsRow (w.heap.size + 1) 2 1 (.slice (some ⟨w1.heap.size, 0, none⟩) 0 0) 0 [] := World.ownsRow_made w1 #[] 0 (by omega) (by decide) rfl
    rw [hz] at h
    exact h
  go_loopw [8, 9] (fun b i wr => ∃ (j : Nat) (k : Int) (l : List Int), (j : Int) ≤ m ∧ l.length = j ∧ i = .int .i64 (j : Nat) ∧ Ext w wr ∧ Src wr w.heap.size k ∧ 0 ≤ k ∧ k ≤ j ∧ wr.ownsRow (w.heap.size + 1) 2 1 b l.length (l.map (Value.int .i64)) ∧ ∀ x ∈ l, 0 ≤ x ∧ x < N) (fun _ i _ => m.toNat - (intOf i).toNat)
  case atStart => exact ⟨0, 0, [], by omega, rfl, rfl, hE.tr ((Ext.refl' _).alloc (Nat.le_refl _) _), hS.below ((Below.refl (w.heap.size + 1) w1).alloc (by omega) _), by omega, by omega, hmd, by simp⟩
  case round =>
    obtain ⟨j, k, l, hj, hl, rfl, hE2, hS2, k0, k1, ho, hx⟩ := hrel
    have hll : l.length ≤ 100 := by omega
    have HL := Lib.hid hl
    clear hl
    obtain ⟨oa, ob, oc, rfl, -⟩ := own_parts ho
    have q2 := hS2.lt
    have q3 := hE2.size
    by_cases hjm : (j : Int) < m
    · go_wp2_with fail
      refine (pick_any _ k N _ hS2 k0 (by omega) hN hN2).mono ?_
      rintro e w3 ⟨x, k', x0, x1, k2, k3, rfl, hO, hS3⟩
      have ho3 := own_off ho hO (by omega)
      have hE3 : Ext w w3 := Below.trans hE2 (hO.below hE2.size fun g hg => by rw [List.mem_singleton] at hg; omega)
      have q4 := hO.size
      go_wp2_with (at_builtin; refine wpList_append_own _ rfl _ _ 37 rfl (w.heap.size + 1) 2 i0 (.int .i64 0) 1 8 Tryz.underlying37 hi hz0 hz1 hz2 rfl (by decide) _ _ _ rfl (own_ext ho3 ((Ext.refl' w3).alloc (Nat.le_refl _) _)) ⟨w3.heap.size, 0, none⟩ 1 1 [.int .i64 x] rfl rfl (cells_one (by simp [go_sem])) (by simp [Value.oneCell']) (by unfold maxLen; omega) (by omega) (by simp; omega) ?_)
      intro v' w5 ho5 hg5 _
      have hAA : Ext w3 (w3.alloc (.cells #[.int .i64 x] 2)) := (Ext.refl' w3).alloc (Nat.le_refl _) _
      have hE5 : Ext w w5 := (hE3.tr hAA).grown hg5 (by simp; omega) (fun h hh => by have := (ho3.lt h hh).1; omega)
      have hS5 : Src w5 w.heap.size k' := hS3.below (((Below.refl (w.heap.size + 1) w3).alloc (by omega) _).grown hg5 (by simp; omega) (fun h hh => (ho3.lt h hh).1))
      have ho6 : w5.ownsRow (w.heap.size + 1) 2 1 v' (l ++ [x]).length ((l ++ [x]).map (Value.int .i64)) := by rw [List.map_append, List.length_append]; exact ho5
      have hx6 : ∀ y ∈ l ++ [x], 0 ≤ y ∧ y < N := fun y hy => by
        rcases List.mem_append.1 hy with h | h
        · exact hx y h
        · rw [List.mem_singleton.1 h]; exact ⟨x0, x1⟩
      have HL2 := Lib.hid (show (l ++ [x]).length = j + 1 from by rw [List.length_append, HL.out]; rfl)
      generalize l ++ [x] = l2 at ho6 hx6 HL2
      clear ho ho3 hg5 hAA ho5 hE2 hS2 hO hS3 hE3
      go_wp2_with fail
      go_roundw
      case rel => exact ⟨j + 1, k', l2, by omega, HL2.out, by go_num, hE5, hS5, by omega, by omega, ho6, hx6⟩
      case measure => simp [intOf]; omega
    · go_wp2_with fail
      go_ret
      exact ⟨_, l, _, rfl, hE2, ⟨own_base ho (fun _ _ => Nat.zero_le _), rfl⟩, fun g hg => by have := (ho.lt g (by simpa using hg)).1; omega, by have := HL.out; omega, hx⟩
theorem f6big_any (a : Option Addr) (n c : Nat) (w : World) :
    Calls Tryz.prog 11 #[.slice a n c] w fun e w' => e = .returned (.bool (decide ((4096 : Int) < n))) ∧ Ext w w' := by
  go_enter Tryz.func11, Tryz.ntmps11
  go_wp2_with fail
  go_ret
  exact ⟨rfl, Ext.refl' w⟩
end Go.Proofs.YtajkepdfemdagaaGreatDoor
