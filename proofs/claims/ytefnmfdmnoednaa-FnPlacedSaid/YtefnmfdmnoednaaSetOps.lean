
/- Sets of tuples: a tuple put in; the set of a relation; a list in new memory. -/
import Derived.Test.YtefnmfdmnoednaaCanon
import Derived.Test.YtefnmfdmnoednaaSteps
namespace Go.Proofs.Ytefnmfdmnoednaa
open Go.RowKit
set_option linter.unusedVariables false

set_option maxHeartbeats 1000000 in
theorem put_any (s m : Int) (q : List Int → Bool) (p u : Value) (t : List Int) (fs : List Nat) (w : World) (h : OSet w p s m (mks s m q) fs) (hr : RdI w u t) (hs : 1 ≤ s) (hs2 : s ≤ 4) (hm : 1 ≤ m) (hm2 : m ≤ 4) (ht : vals s t m = true) :
    Calls Try.prog 63 #[p, u] w fun e w' => e = .returned (.tuple #[]) ∧ Off fs w w' ∧ OSet w' p s m (mks s m fun x => q x || decide (x = t)) fs := by
  obtain ⟨h1, h2⟩ := code_ltc hs hs2 hm hm2 ht
  have hput := mks_put hs hs2 hm hm2 q ht
  obtain ⟨c, hcd⟩ := Int.eq_ofNat_of_zero_le h1
  rw [hcd, Int.toNat_natCast] at h2 hput
  obtain ⟨b, g, cap, rfl, c0, c1, c2, cb, fz, hg, hcap, hcm, -⟩ := h.store c (by rw [mks_length]; exact h2) true
  rw [mks_length] at c2 hcap
  obtain ⟨hv1, hv2⟩ := vals_iff.1 ht
  obtain ⟨ua, uc, rfl⟩ := hr.form
  go_enter Try.func63, Try.ntmps63
  go_wp2_with fail
  refine region_sp [] [11] [SP.val (.pointer (some ⟨b, 0, none⟩)), SP.val (.pointer (some ⟨b, 0, none⟩)), SP.val (.pointer (some ⟨b, 2, none⟩)), SP.val (.slice (some ⟨g, 0, none⟩) (count s m) cap), SP.val (.pointer (some ⟨b, 0, none⟩)), SP.val (.pointer (some ⟨b, 0, none⟩)), SP.val (.pointer (some ⟨b, 0, none⟩)), SP.val (.int .i64 s), SP.val (.slice ua t.length uc), SP.val (.int .i64 (c : Nat)), SP.val (.pointer (some ⟨g, c, none⟩)), SP.any] (by kernel_rfl) (fun _ d _ _ _ h => by cases d <;> exact h) (by kernel_rfl) (by kernel_rfl)
    (.cons (fun vs y hY => Step.move rfl rfl rfl rfl) <|
     .cons (fun vs y hY g0_0 => Step.nilCheck rfl rfl g0_0 rfl) <|
     .cons (fun vs y hY g1_0 => Step.fieldAddr ⟨b, 0, none⟩ rfl rfl g1_0 (by simp [go_sem]) rfl) <|
     .cons (fun vs y hY g2_0 => Step.load ⟨b, 2, none⟩ rfl rfl g2_0 (by simp [go_sem, hY.cell c2]) rfl) <|
     .cons (fun vs y hY => Step.move rfl rfl rfl rfl) <|
     .cons (fun vs y hY g4_0 => Step.nilCheck rfl rfl g4_0 rfl) <|
     .cons (fun vs y hY g5_0 => Step.fieldAddr ⟨b, 0, none⟩ rfl rfl g5_0 (by simp [go_sem]) rfl) <|
     .cons (fun vs y hY g6_0 => Step.load ⟨b, 0, none⟩ rfl rfl g6_0 (by simp [go_sem, hY.cell c0]) rfl) <|
     .cons (fun vs y hY => Step.move rfl rfl rfl rfl) <|
     .cons (fun vs y hY g7_0 g8_1 => Step.call Try.call115 rfl rfl [vs 7, vs 8] rfl rfl (by rw [show vs 7 = _ from g7_0, show vs 8 = _ from g8_1]; exact (Calls.sps (l01Code_any s t _ _ (hr.ext hY) (by omega) (by omega) (by omega) hv2) (by rw [hcd])))) <|
     .cons (fun vs y hY g3_0 g9_1 g0_2 g1_3 g2_4 g3_5 g4_6 g5_7 g6_8 g7_9 g8_10 g9_11 => Step.indexAtP (n := .int .i64 (c : Nat)) ⟨g, c, none⟩ rfl rfl g3_0 g9_1 (by simp [go_sem, Instr.indexAt, Addr.add, h2] <;> omega) rfl) <|
     .skip rfl <|
     .nil) ?_
  intro vs w1 hC hL
  have r0 : vs 0 = _ := hL 0 (by decide) rfl
  have r1 : vs 1 = _ := hL 1 (by decide) rfl
  have r2 : vs 2 = _ := hL 2 (by decide) rfl
  have r3 : vs 3 = _ := hL 3 (by decide) rfl
  have r4 : vs 4 = _ := hL 4 (by decide) rfl
  have r5 : vs 5 = _ := hL 5 (by decide) rfl
  have r6 : vs 6 = _ := hL 6 (by decide) rfl
  have r7 : vs 7 = _ := hL 7 (by decide) rfl
  have r8 : vs 8 = _ := hL 8 (by decide) rfl
  have r9 : vs 9 = _ := hL 9 (by decide) rfl
  have r10 : vs 10 = _ := hL 10 (by decide) rfl
  clear hL
  simp only [putAll, Act.put, List.contains_cons, List.contains_nil, Nat.reduceBEq, Nat.reduceAdd, Bool.or_false, cond_true, cond_false, List.setIfInBounds_toArray, List.set_cons_succ, List.set_cons_zero, List.filterMap_cons, List.filterMap_nil, List.getElem?_cons_succ, List.getElem?_cons_zero, r0, r1, r2, r3, r4, r5, r6, r7, r8, r9, r10]
  clear r0 r1 r2 r3 r4 r5 r6 r7 r8 r9 r10
  replace h := h.ext hC
  obtain ⟨b', g', cap', hbv, d0, d1, d2, db, dz, hg', hcap', hcm', hst⟩ := h.store c (by rw [mks_length]; exact h2) true
  simp only [Value.pointer.injEq, Option.some.injEq, Addr.mk.injEq, and_true] at hbv
  subst hbv
  have hgg := d2.symm.trans (hC.cell c2)
  simp only [Option.some.injEq, Value.slice.injEq, Addr.mk.injEq, and_true] at hgg
  obtain ⟨rfl, -, rfl⟩ := hgg
  rw [hput] at hst
  replace db : ∃ x, w1.cell? ⟨g', c, none⟩ = some x := ⟨_, db⟩
  obtain ⟨old, db⟩ := db
  clear hcd hv1 hput
  go_wp2_with fail
  ((try simp only [Exit.inBlock, Exit.then]); refine bodyPost_end (results_none rfl _ _ _) rfl ?_)
  exact ⟨rfl, (Off.of_ext hC).trans (Off.set hg), hst⟩
theorem mks_take {s m : Int} {L : List (List Int)} {k : Nat} (hk : k < L.length) : (mks s m fun x => decide (x ∈ L.take k) || decide (x = L[k])) = mks s m fun x => decide (x ∈ L.take (k + 1)) := by
  congr 1
  funext x
  rw [List.take_succ_eq_append_getElem hk, Bool.eq_iff_iff, Bool.or_eq_true, decide_eq_true_eq, decide_eq_true_eq, decide_eq_true_eq, List.mem_append, List.mem_singleton]

set_option maxHeartbeats 1000000 in
theorem l00Own_any (l : List Int) (v : Value) (w : World) (hr : RdI w v l) (h0 : 0 < l.length) (hl : l.length ≤ 1048576) :
    Calls Try.prog 173 #[v] w fun e w' => ∃ u fp, e = .returned u ∧ Ext w w' ∧ OI w' u l fp ∧ ∀ g ∈ fp, w.heap.size ≤ g := by
  obtain ⟨a, b, off, c, rfl, hlc, hcm, ha, hc⟩ := hr
  obtain ⟨i0, hi, hz0, hz1, hz2⟩ := info_parts infoI
  obtain rfl := ha h0
  have hA : Ext w (w.alloc (.cells #[] 2)) := (Ext.refl' w).alloc (Nat.le_refl _) _
  have hx : ∀ (j : Nat) u, (l.map (Value.int .i64))[j]? = some u → (w.alloc (.cells #[] 2)).cell? ((⟨b, off, none⟩ : Addr).add j) = some u := by
    intro j u hj
    rw [List.getElem?_map] at hj
    by_cases hjl : j < l.length
    · rw [List.getElem?_eq_getElem hjl] at hj
      simp at hj
      subst hj
      have := hA.cell (hc j hjl)
      simp only [Addr.add]
      split
      · rename_i h0
        subst h0
        simpa using this
      · exact this
    · rw [List.getElem?_eq_none (by omega)] at hj
      simp at hj
  have ho := World.ownsRow_made (e := 2) (size := 1) w #[] 0 (Nat.le_refl _) (by decide) rfl
  go_enter Try.func173, Try.ntmps173
  go_wp2_with (at_builtin; refine wpList_append_own _ rfl _ _ 34 rfl w.heap.size 2 i0 (.int .i64 0) 1 8 Try.underlying34 hi hz0 hz1 hz2 rfl (by decide) _ _ _ rfl ho ⟨b, off, none⟩ l.length c (l.map (Value.int .i64)) rfl (by simp) hx (by simp [Value.oneCell']) (by unfold maxLen; omega) (by omega) (by simp) ?_)
  intro v' w4 ho4 hg4 _
  have hE4 : Ext w w4 := hA.grown hg4 (by simp) (fun k hk => by have := (ho.lt k hk).1; omega)
  clear hg4 hA ho hx
  go_wp2_with fail
  go_ret
  exact ⟨_, _, rfl, hE4, ⟨own_base ho4 (fun _ _ => Nat.zero_le _), rfl⟩, fun g hg => (ho4.lt g (by simpa using hg)).1⟩
end Go.Proofs.Ytefnmfdmnoednaa
