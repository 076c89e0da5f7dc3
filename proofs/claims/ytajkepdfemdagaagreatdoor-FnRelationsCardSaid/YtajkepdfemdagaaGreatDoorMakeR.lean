
/- Relations of some tuples: the program's makeRel. -/
import Derived.Test.YtajkepdfemdagaaGreatDoorCompF
import Derived.Test.YtajkepdfemdagaaGreatDoorRelOf
import Derived.Test.YtajkepdfemdagaaGreatDoorAcc
namespace Go.Proofs.YtajkepdfemdagaaGreatDoor
open Go.RowKit
set_option linter.unusedVariables false

theorem len_szII : ∀ ll : List (List Int), ll.length ≤ szII ll
  | [] => Nat.le_refl _
  | l :: ls => by have := len_szII ls; unfold szII; rw [List.length_cons]; omega
theorem Off.frz {fp : List Nat} {w w' : World} (h : Off fp w w') {p : Addr} (hp : p.block < w.heap.size) (hn : p.block ∉ fp) : w'.frozen? p = w.frozen? p := World.frozen?_of_block (h.block _ hp hn)
theorem cmpFn_any (a b : List Int) (x y : Value) (w : World) (h1 : RdI w x a) (h2 : RdI w y b) : Calls Tryz.prog 120 #[x, y] w fun e w' => e = .returned (.int .i64 (cmpL a b)) ∧ w = w' := by
  obtain ⟨xa, xc, rfl⟩ := h1.form
  obtain ⟨ya, yc, rfl⟩ := h2.form
  go_enter Tryz.func120, Tryz.ntmps120
  go_wp2_with fail
  refine (compare_any a b _ _ _ h1 h2).mono ?_
  rintro e w' ⟨rfl, rfl⟩
  go_wp2_with fail
  go_ret
  exact ⟨rfl, rfl⟩
theorem eqFn_any (a b : List Int) (x y : Value) (w : World) (h1 : RdI w x a) (h2 : RdI w y b) : Calls Tryz.prog 122 #[x, y] w fun e w' => e = .returned (.bool (decide (a = b))) ∧ Qt w w' := by
  obtain ⟨xa, xc, rfl⟩ := h1.form
  obtain ⟨ya, yc, rfl⟩ := h2.form
  go_enter Tryz.func122, Tryz.ntmps122
  go_wp2_with fail
  refine (slicesEqual_any a b _ _ _ h1 h2).mono ?_
  rintro e w' ⟨rfl, hQ⟩
  go_wp2_with fail
  go_ret
  exact ⟨rfl, hQ⟩
set_option maxHeartbeats 2000000 in
set_option maxRecDepth 100000 in
theorem makeRel_any (s m : Int) (ll : List (List Int)) (v : Value) (w : World) (hr : RdII w v ll) (hl : ll.length ≤ 1048576) (hv : ∀ t ∈ ll, vals s t m = true) (hs : 1 ≤ s) (hs2 : s ≤ 4) (hm : 1 ≤ m) (hm2 : m ≤ 4) :
    Calls Tryz.prog 73 #[.int .i64 m, v] w fun e w' => ∃ u fp, e = .returned u ∧ Ext w w' ∧ OwnRel w' u (SrelOf s m fun t => decide (t ∈ ll)) fp ∧ ∀ h ∈ fp, w.heap.size ≤ h := by
  obtain ⟨va, vc, rfl⟩ := hr.form
  have hA : Ext w (w.alloc (.cells #[.int .i64 0, .slice none 0 0] 35)) := (Ext.refl' w).alloc (Nat.le_refl _) _
  have hlen : ∀ t ∈ ll, 0 < t.length ∧ t.length ≤ 1048576 := fun t ht => by have := (vals_iff.1 (hv t ht)).1; omega
  have HV := Lib.hid hv
  clear hv
  go_enter Tryz.func73, Tryz.ntmps73
  go_wp2_with fail
  refine (ownLists_any ll _ _ (hr.ext hA) hl hlen).mono ?_
  rintro e w1 ⟨u, fp, rfl, hE, ho, hfp⟩
  have d0 := hE.cell (p := ⟨w.heap.size, 0, none⟩) (v := .int .i64 0) (by simp [go_sem])
  have d1 := hE.cell (p := ⟨w.heap.size, 1, none⟩) (v := .slice none 0 0) (by simp [go_sem])
  have f2 := hE.frozen (p := ⟨w.heap.size, 0, none⟩) (by simp)
  have f3 := hE.frozen (p := ⟨w.heap.size, 1, none⟩) (by simp)
  simp [go_sem] at f2 f3
  replace hE := hA.tr hE
  have hfp' : ∀ h ∈ fp, w.heap.size + 1 ≤ h := fun g hg => by have := hfp g hg; simpa using this
  have hn0 : w.heap.size ∉ fp := fun h => by have := hfp' _ h; omega
  obtain ⟨ua, uc, rfl⟩ := ho.form
  go_wp2_with fail
  refine (sortLL_any ll _ fp _ ho hl 120 Tryz.call120 cmpFn_any).mono ?_
  rintro e w2 ⟨rfl, T, fp2, hperm, hsrt, hO, ho2, hsub⟩
  replace f2 : _ = false := (hO.frz (lt_of_cell d0) hn0).trans f2
  replace f3 : _ = false := (hO.frz (lt_of_cell d1) hn0).trans f3
  replace d0 := hO.cell d0 hn0
  replace d1 := hO.cell d1 hn0
  have hE2 : Ext w w2 := Below.trans hE (hO.below hE.size fun k hk => by have := hfp' k hk; omega)
  have hTl : T.length = ll.length := hperm.length_eq
  have hn2 : w.heap.size ∉ fp2 := fun h => hn0 (hsub _ h)
  have hmade := made_rel hs hs2 hm hm2 (fun t => hperm.mem_iff) hsrt HV.out
  have HM := Lib.hid hmade
  have hTl2 : T.length ≤ 1048576 := by omega
  clear hmade hperm hO
  go_wp2_with fail
  refine (compactLL_any T _ fp2 _ ho2 hTl2 122 Tryz.call122 eqFn_any).mono ?_
  rintro e w3 ⟨x, fp3, rfl, hO3, ho3, hsub3⟩
  replace f2 : _ = false := (hO3.frz (lt_of_cell d0) hn2).trans f2
  replace f3 : _ = false := (hO3.frz (lt_of_cell d1) hn2).trans f3
  replace d0 := hO3.cell d0 hn2
  replace d1 := hO3.cell d1 hn2
  have hE3 : Ext w w3 := Below.trans hE2 (hO3.below hE2.size fun k hk => by have := hfp' k (hsub _ hk); omega)
  have hn3 : w.heap.size ∉ fp3 := fun h => hn2 (hsub3 _ h)
  have hfp3 : ∀ g ∈ fp3, w.heap.size ≤ g := fun g hg => by have := hfp' g (hsub _ (hsub3 _ hg)); omega
  obtain ⟨xa, xc, rfl⟩ := ho3.form
  have ho4 := OII.set (OII.set ho3 (p := ⟨w.heap.size, 0, none⟩) hn3 (.int .i64 m)) (p := ⟨w.heap.size, 1, none⟩) hn3 (.slice xa (dedup T).length xc)
  clear ho ho2 hr hsub hsub3 hO3
  go_wp2_with fail
  exact bodyPost_ret (v := .agg #[.int .i64 m, .slice xa (dedup T).length xc]) (by simp [results, Tryz.results73, go_sem, d0, d1]) rfl
    ⟨_, fp3, rfl, (hE3.setCell (by simp) _).setCell (by simp) _, by rw [← HM.out]; exact ⟨_, rfl, ho4⟩, hfp3⟩
end Go.Proofs.YtajkepdfemdagaaGreatDoor
