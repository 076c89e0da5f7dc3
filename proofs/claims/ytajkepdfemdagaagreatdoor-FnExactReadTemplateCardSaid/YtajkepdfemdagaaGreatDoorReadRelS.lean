
/- ReadRel: the reference reads a relation. -/
import Derived.Test.YtajkepdfemdagaaGreatDoorReadRel
import Derived.Test.YtajkepdfemdagaaGreatDoorReadOp
namespace Go.Proofs.YtajkepdfemdagaaGreatDoor
open Go.RowKit
set_option linter.unusedVariables false

theorem subK_subB (s : ByteArray) : subK s s.size = subB s := subK_all s
theorem take_drop_succ {α : Type} {l : List α} {p : Nat} (h2 : 2 ≤ p) (hp : p < l.length) : (l.take (p + 1)).drop 2 = (l.take p).drop 2 ++ [l[p]] := by
  rw [List.take_succ_eq_append_getElem hp, List.drop_append_of_le_length (by rw [List.length_take]; omega)]
/-- what the reference's reading of a relation leaves -/
def ReadPost (s : ByteArray) (w : World) (e : Ending) (w' : World) : Prop :=
  ∃ r ok u fp, e = .returned (.tuple #[u, .bool ok]) ∧ Ext w w' ∧ OwnRel w' u r fp ∧ (∀ g ∈ fp, w.heap.size ≤ g) ∧ (ok = true → IsRelOf s r) ∧ (ok = false → ∀ g, ¬ IsRelOf s g)
theorem ReadPost.no {s : ByteArray} {w w' : World} {r : Int × List (List Int)} {u : Value} {fp : List Nat} (hE : Ext w w') (ho : OwnRel w' u r fp) (hf : ∀ g ∈ fp, w.heap.size ≤ g) (h : ∀ g, ¬ IsRelOf s g) : ReadPost s w (.returned (.tuple #[u, .bool false])) w' :=
  ⟨r, false, u, fp, rfl, hE, ho, hf, (fun h => absurd h (by decide)), fun _ => h⟩
theorem ReadPost.yes {s : ByteArray} {w w' : World} {r : Int × List (List Int)} {u : Value} {fp : List Nat} (hE : Ext w w') (ho : OwnRel w' u r fp) (hf : ∀ g ∈ fp, w.heap.size ≤ g) (h : IsRelOf s r) : ReadPost s w (.returned (.tuple #[u, .bool true])) w' :=
  ⟨r, true, u, fp, rfl, hE, ho, hf, fun _ => h, (fun h => absurd h (by decide))⟩
theorem free_pick {P : Program} {o : Oper} {ρ : Operand → Value} {c x y : Operand} {b : Bool} {u v : Value} {R : Value → World → Prop} {w : World} (hop : o.op = .pick c x y) (hc : ρ c = .bool b) (hx : ρ x = u) (hy : ρ y = v) (h : R (if b then u else v) w) : ∃ z, (∀ w', (execOp ρ o).run P w' = .ok (.value z) w') ∧ R z w := by
  obtain ⟨dst, op, type, pos, after, guard⟩ := o
  subst hop
  subst hx hy
  refine ⟨_, fun w' => ?_, h⟩
  cases b <;> simp [execOp, hc, asBool]
/-- what the outer loop keeps -/
def SRel (w w2 : World) (b off : Nat) (wl ws : List ByteArray) (n : Int) (ok0 : Bool) (okv i : Value) (wr : World) : Prop :=
  ∃ (p : Nat) (ok : Bool) (tv : Value) (fp : List Nat), 2 ≤ p ∧ p ≤ wl.length ∧ i = .int .i64 (p : Nat) ∧ okv = .bool ok ∧ Acc w wr w.heap.size w2.heap.size (w2.heap.size + 1) n (((wl.take p).drop 2).map subB) tv fp ∧ Hid (∀ j (h : j < wl.length), wr.cell? ⟨b, off + j, none⟩ = some (.string wl[j])) ∧
    Hid ((ok = true → ok0 = true) ∧ (ok = false → ok0 = false ∨ ∃ x ∈ ws, x.size = 0))
set_option maxHeartbeats 8000000 in
set_option maxRecDepth 100000 in
theorem l01Read_any (s : ByteArray) (w : World) (hs : s.size ≤ 1048576) : Calls Tryz.prog 41 #[.string s] w (ReadPost s w) := by
  have hE1 : Ext w (w.alloc (.cells #[.int .i64 0, .slice none 0 0] 35)) := (Ext.refl' w).alloc (Nat.le_refl _) _
  have hwl := words_length 32 s
  obtain ⟨i0, hi, hz0, hz1, hz2⟩ := info_parts infoI
  obtain ⟨w0, wt, hws⟩ : ∃ x t, words 32 s = x :: t := by
    have := words_ne 32 s
    generalize words 32 s = ws at *
    match ws, this with
    | x :: t, _ => exact ⟨x, t, rfl⟩
  by_cases hw0 : w0 = ⟨#[114, 101, 108]⟩
  · subst hw0
    cases wt with
    | nil =>
      have hno : ∀ g, ¬ IsRelOf s g := fun g hg => by have := rel_words hg; rw [hws] at this; simp at this
      have HW := Lib.hid hws
      clear hws hwl
      go_enter Tryz.func41, Tryz.ntmps41
      go_wp2_with fail
      refine (show Calls Tryz.prog 39 #[.string s, .int .u8 32] _ _ from l01Split_any 32 s _ hs).mono ?_
      rintro e w1 ⟨v, rfl, hE, hv⟩
      have d0 := hE.cell (p := ⟨w.heap.size, 0, none⟩) (v := .int .i64 0) (by simp [go_sem])
      have d1 := hE.cell (p := ⟨w.heap.size, 1, none⟩) (v := .slice none 0 0) (by simp [go_sem])
      have f2 := hE.frozen (p := ⟨w.heap.size, 0, none⟩) (by simp)
      have f3 := hE.frozen (p := ⟨w.heap.size, 1, none⟩) (by simp)
      simp [go_sem] at f2 f3
      replace hE := hE1.tr hE
      rw [HW.out] at hv
      obtain ⟨b, off, cap, rfl, hcap, hcells⟩ := cells_all hv
      have q0 := hcells 0 (by simp)
      simp only [List.getElem_cons_zero, Nat.add_zero] at q0
      clear hv
      clear hcells
      simp only [List.length_cons, List.length_nil, Nat.zero_add] at hcap ⊢
      go_wp2_with fail
      exact bodyPost_ret (v := .tuple #[.agg #[.int .i64 0, .slice none 0 0], .bool false]) (by simp [results, Tryz.results41, go_sem, d0, d1]) rfl (ReadPost.no ((hE.setCell (by simp <;> omega) _).setCell (by simp <;> omega) _) (noRel_own _) (by simp) hno)
    | cons wa ws =>
      have HW := Lib.hid hws
      have hsa : wa.size ≤ s.size := words_size (c := 32) (by rw [hws]; simp)
      have HSZ := Lib.hid (show ∀ x ∈ words 32 s, x.size ≤ s.size from fun x hx => words_size hx)
      have HUN : ∀ g, IsRelOf s g → wa = decB g.1 ∧ ws = g.2.map digB := fun g hg => by
        have h1 := rel_words hg
        rw [hws] at h1
        simp only [List.cons.injEq, true_and] at h1
        exact h1
      have HU := Lib.hid HUN
      clear HUN
      go_enter Tryz.func41, Tryz.ntmps41
      go_wp2_with fail
      refine (show Calls Tryz.prog 39 #[.string s, .int .u8 32] _ _ from l01Split_any 32 s _ hs).mono ?_
      rintro e w1 ⟨v, rfl, hE, hv⟩
      have d0 := hE.cell (p := ⟨w.heap.size, 0, none⟩) (v := .int .i64 0) (by simp [go_sem])
      have d1 := hE.cell (p := ⟨w.heap.size, 1, none⟩) (v := .slice none 0 0) (by simp [go_sem])
      have f2 := hE.frozen (p := ⟨w.heap.size, 0, none⟩) (by simp)
      have f3 := hE.frozen (p := ⟨w.heap.size, 1, none⟩) (by simp)
      simp [go_sem] at f2 f3
      replace hE := hE1.tr hE
      rw [HW.out] at hv
      obtain ⟨b, off, cap, rfl, hcap, hcells⟩ := cells_all hv
      have q0 := hcells 0 (by simp)
      simp only [List.getElem_cons_zero, Nat.add_zero] at q0
      clear hv
      have q1 := hcells 1 (by simp)
      simp only [List.getElem_cons_zero, List.getElem_cons_succ] at q1
      obtain ⟨wl, hwlE⟩ : ∃ wl, wl = (⟨#[114, 101, 108]⟩ :: wa :: ws : List ByteArray) := ⟨_, rfl⟩
      have hN2 : 2 ≤ wl.length := by rw [hwlE]; simp
      have hNL : wl.length ≤ 1048577 := by rw [hwlE, ← hws]; omega
      have HD := Lib.hid (show wl.drop 2 = ws by rw [hwlE]; rfl)
      have HZ := Lib.hid (show ∀ x ∈ wl, x.size ≤ 1048576 from fun x hx => by rw [hwlE, ← hws] at hx; have := HSZ.out x hx; omega)
      rw [← hwlE] at hcells hcap ⊢
      have HC := Lib.hid hcells
      clear hcells hws hwl hwlE HSZ
      go_wp2_with fail
      refine (l01Number_any wa _ (by omega)).mono ?_
      rintro e w2 ⟨n, ok0, rfl, hE2, hn, n0, n1⟩
      have HN := Lib.hid hn
      clear hn
      replace f2 : _ = false := (hE2.frozen (lt_of_cell d0)).trans f2
      replace f3 : _ = false := (hE2.frozen (lt_of_cell d1)).trans f3
      replace d0 := hE2.cell d0
      replace d1 := hE2.cell d1
      have HC2 := Lib.hid (show ∀ j (h : j < wl.length), w2.cell? ⟨b, off + j, none⟩ = some (.string wl[j]) from fun j hj => hE2.cell (HC.out j hj))
      replace q0 := hE2.cell q0
      replace hE := hE.tr hE2
      have hb2 := lt_of_cell q0
      have hdl := lt_of_cell d0
      dsimp only at hb2 hdl
      have hA1 : Ext w2 (w2.alloc (.cells #[.int .i64 n, .slice none 0 0] 35)) := (Ext.refl' w2).alloc (Nat.le_refl _) _
      have hAcc : Acc w (w2.alloc (.cells #[.int .i64 n, .slice none 0 0] 35)) w.heap.size w2.heap.size (w2.heap.size + 1) n (((wl.take 2).drop 2).map subB) (.slice none 0 0) [] := by
        have : (((wl.take 2).drop 2).map subB) = [] := by simp
        rw [this]
        exact ⟨hE.tr hA1, OII_none _, by simp, by simp, by omega, hdl, by omega, by simp [go_sem], by simp [go_sem], by simp [go_sem], hA1.cell d0, hA1.cell d1, (hA1.frozen (lt_of_cell d0)).trans f2, (hA1.frozen (lt_of_cell d1)).trans f3⟩
      have HC3 := Lib.hid (show ∀ j (h : j < wl.length), (w2.alloc (.cells #[.int .i64 n, .slice none 0 0] 35)).cell? ⟨b, off + j, none⟩ = some (.string wl[j]) from fun j hj => hA1.cell (HC2.out j hj))
      clear hA1 d0 d1 f2 f3 hE q0 q1 HC HC2 hE2
      go_wp2_with fail
      go_loopw [6, 8] (fun okv i wr => SRel w w2 b off wl ws n ok0 okv i wr) (fun _ i _ => wl.length - (intOf i).toNat)
      case atStart => exact ⟨2, ok0, _, _, by omega, hN2, rfl, rfl, hAcc, HC3, Lib.hid ⟨id, fun h => .inl h⟩⟩
      case round =>
        obtain ⟨p, ok, tv, fp, hp2, hpl, rfl, rfl, hA, HCr, HOK⟩ := hrel
        clear hAcc HC3
        have hfp1 := hA.ho.lt
        obtain ⟨ka, kc, rfl⟩ := hA.ho.form
        cases ok with
        | false =>
          have hno : ∀ g, ¬ IsRelOf s g := fun g hg => by
            obtain ⟨u1, u2⟩ := HU.out g hg
            obtain ⟨b1, b2, b3, b4⟩ := text_parts hg.1
            rcases HOK.out.2 rfl with h | ⟨x, hx, h0⟩
            · exact HN.out.2 h g.1 b1 b2 u1
            · rw [u2] at hx
              obtain ⟨t, ht, rfl⟩ := List.mem_map.1 hx
              obtain ⟨_, _, a3⟩ := valid_parts hg.1
              have hl := (vals_iff.1 (a3 t ht)).1
              rw [digB_size t (b4 t ht).2] at h0
              omega
          have HNO := Lib.hid hno
          clear hno HOK
          generalize ((wl.take p).drop 2).map subB = L at *
          have hv : True := trivial
          by_cases hpk : p < wl.length
          · skip
            have a0 := hA.c0
            have a1 := hA.c1
            have d0 := hA.d0
            have d1 := hA.d1
            have f2 := hA.f2
            have f3 := hA.f3
            have hE := hA.hE
            have hrd : PtRel wr (.pointer (some ⟨w2.heap.size, 0, none⟩)) (n, L) := ⟨_, _, _, rfl, a0, a1, hA.ho.rd⟩
            go_wp2_with fail
            go_wp2_with fail
            refine region_sp [4] [5, 6] [SP.val (.agg #[.int .i64 n, .slice ka L.length kc]), SP.val (.bool false), SP.val (.bool false), SP.val undef, SP.val (.bool false), SP.any, SP.any] (by kernel_rfl) (fun _ d _ _ _ h => by cases d <;> exact h) (by kernel_rfl) (by kernel_rfl)
              (.cons (fun vs y hY => Step.load ⟨w2.heap.size, 0, none⟩ rfl rfl rfl (by simp [go_sem, hY.cell a0, hY.cell a1]) rfl) <|
               .cons (fun vs y hY => Step.move rfl rfl rfl rfl) <|
               .cons (fun vs y hY g1_0 => Step.move rfl rfl g1_0 rfl) <|
               .cons (fun vs y hY g2_0 g2_1 => Step.off rfl rfl g2_0 (by decide) rfl) <|
               .free (Step.free rfl (fun vs y hY g2_0 g3_1 => free_pick (b := false) rfl g2_0 g3_1 rfl rfl)) <|
               .skip rfl <|
               .skip rfl <|
               .nil) ?_
            intro vs w3 hC hL
            have r0 : vs 0 = _ := hL 0 (by decide) rfl
            have r1 : vs 1 = _ := hL 1 (by decide) rfl
            have r2 : vs 2 = _ := hL 2 (by decide) rfl
            have r3 : vs 3 = _ := hL 3 (by decide) rfl
            have r4 : vs 4 = _ := hL 4 (by decide) rfl
            clear hL
            simp only [putAll, Act.put, List.contains_cons, List.contains_nil, Nat.reduceBEq, Nat.reduceAdd, Bool.or_false, Bool.or_true, cond_true, cond_false, List.setIfInBounds_toArray, List.set_cons_succ, List.set_cons_zero, List.filterMap_cons, List.filterMap_nil, List.getElem?_cons_succ, List.getElem?_cons_zero, r0, r1, r2, r3, r4]
            clear r0 r1 r2 r3 r4
            replace hA := hA.ext hC
            have d0 := hA.d0
            have d1 := hA.d1
            have f2 := hA.f2
            have f3 := hA.f3
            obtain ⟨g1, g2, g3⟩ := hA.done (.int .i64 n) (.slice ka L.length kc)
            clear hA hrd hC a0 a1 hE
            go_wp2_with fail
            exact bodyPost_ret (v := .tuple #[.agg #[.int .i64 n, .slice ka L.length kc], .bool false]) (by simp [results, Tryz.results41, go_sem, d0, d1]) rfl (ReadPost.no g1 g2 g3 HNO.out)
          have a0 := hA.c0
          have a1 := hA.c1
          have d0 := hA.d0
          have d1 := hA.d1
          have f2 := hA.f2
          have f3 := hA.f3
          have hE := hA.hE
          have hrd : PtRel wr (.pointer (some ⟨w2.heap.size, 0, none⟩)) (n, L) := ⟨_, _, _, rfl, a0, a1, hA.ho.rd⟩
          go_wp2_with fail
          go_wp2_with fail
          refine region_sp [4] [5, 6] [SP.val (.agg #[.int .i64 n, .slice ka L.length kc]), SP.val (.bool false), SP.val (.bool false), SP.val undef, SP.val (.bool false), SP.any, SP.any] (by kernel_rfl) (fun _ d _ _ _ h => by cases d <;> exact h) (by kernel_rfl) (by kernel_rfl)
            (.cons (fun vs y hY => Step.load ⟨w2.heap.size, 0, none⟩ rfl rfl rfl (by simp [go_sem, hY.cell a0, hY.cell a1]) rfl) <|
             .cons (fun vs y hY => Step.move rfl rfl rfl rfl) <|
             .cons (fun vs y hY g1_0 => Step.move rfl rfl g1_0 rfl) <|
             .cons (fun vs y hY g2_0 g2_1 => Step.off rfl rfl g2_0 (by decide) rfl) <|
             .free (Step.free rfl (fun vs y hY g2_0 g3_1 => free_pick (b := false) rfl g2_0 g3_1 rfl rfl)) <|
             .skip rfl <|
             .skip rfl <|
             .nil) ?_
          intro vs w3 hC hL
          have r0 : vs 0 = _ := hL 0 (by decide) rfl
          have r1 : vs 1 = _ := hL 1 (by decide) rfl
          have r2 : vs 2 = _ := hL 2 (by decide) rfl
          have r3 : vs 3 = _ := hL 3 (by decide) rfl
          have r4 : vs 4 = _ := hL 4 (by decide) rfl
          clear hL
          simp only [putAll, Act.put, List.contains_cons, List.contains_nil, Nat.reduceBEq, Nat.reduceAdd, Bool.or_false, Bool.or_true, cond_true, cond_false, List.setIfInBounds_toArray, List.set_cons_succ, List.set_cons_zero, List.filterMap_cons, List.filterMap_nil, List.getElem?_cons_succ, List.getElem?_cons_zero, r0, r1, r2, r3, r4]
          clear r0 r1 r2 r3 r4
          replace hA := hA.ext hC
          have d0 := hA.d0
          have d1 := hA.d1
          have f2 := hA.f2
          have f3 := hA.f3
          obtain ⟨g1, g2, g3⟩ := hA.done (.int .i64 n) (.slice ka L.length kc)
          clear hA hrd hC a0 a1 hE
          go_wp2_with fail
          exact bodyPost_ret (v := .tuple #[.agg #[.int .i64 n, .slice ka L.length kc], .bool false]) (by simp [results, Tryz.results41, go_sem, d0, d1]) rfl (ReadPost.no g1 g2 g3 HNO.out)
        | true =>
          have HOK0 := Lib.hid (HOK.out.1 rfl)
          by_cases hpk : p < wl.length
          · have q0 := HCr.out p hpk
            have hxm : wl[p] ∈ wl := List.getElem_mem hpk
            have hxs := HZ.out wl[p] hxm
            have HXW := Lib.hid (show wl[p] ∈ ws by
              rw [← HD.out]
              have hp' : p - 2 < (wl.drop 2).length := by rw [List.length_drop]; omega
              have hg : (wl.drop 2)[p - 2] = wl[p] := by rw [List.getElem_drop]; congr 1; omega
              rw [← hg]
              exact List.getElem_mem hp')
            have HS := Lib.hid (show ((wl.take (p + 1)).drop 2).map subB = ((wl.take p).drop 2).map subB ++ [subB wl[p]] by rw [take_drop_succ hp2 hpk, List.map_append]; rfl)
            have hsl : (((wl.take p).drop 2).map subB).length ≤ 1048576 := by rw [List.length_map, List.length_drop, List.length_take]; omega
            clear hxm
            generalize ((wl.take p).drop 2).map subB = L at *
            generalize wl[p] = x at *
            have hqB := hA.hB
            obtain ⟨wo, hwo⟩ : ∃ y, y = wr := ⟨wr, rfl⟩
            subst hwo
            have hmade := madeI wo
            have hEm : Ext wo (wo.alloc (.cells #[] 2)) := (Ext.refl' wo).alloc (Nat.le_refl _) _
            go_wp2_with fail
            go_loopw [9, 10] (fun t i wr => ∃ j : Nat, j ≤ x.size ∧ i = .int .i64 (j : Nat) ∧ Ext wo wr ∧ wo.heap.size < wr.heap.size ∧ wr.ownsRow wo.heap.size 2 1 t (subK x j).length ((subK x j).map (Value.int .i64))) (fun _ i _ => x.size - (intOf i).toNat)
            case atStart => exact ⟨0, by omega, rfl, hEm, by simp, hmade⟩
            case round =>
              obtain ⟨j, hj, rfl, hEi, hzi, ho⟩ := hrel
              clear hmade hEm
              have q1 := hEi.cell q0
              have hkl := Lib.hid (subK_length hj)
              obtain ⟨oa, ob, oc, rfl, -⟩ := own_parts ho
              by_cases hjl : j < x.size
              · have HK := Lib.hid (subK_succ hjl)
                have hbl := UInt8.toNat_lt x[j]
                have hwr : IntKind.i64.wrap ((x[j].toNat : Nat) : Int) = ((x[j].toNat : Nat) : Int) := by
                  simp only [IntKind.wrap]
                  simp [IntKind.bits, IntKind.signed]
                  omega
                have hwr2 : IntKind.i64.wrap (((x[j].toNat : Nat) : Int) - 48) = ((x[j].toNat : Nat) : Int) - 48 := by
                  simp only [IntKind.wrap]
                  simp [IntKind.bits, IntKind.signed]
                  omega
                have hkle : (subK x j).length ≤ 1048576 := by rw [hkl.out]; omega
                generalize subK x j = K at *
                go_wp2_with (at_builtin; refine wpList_append_own _ rfl _ _ 37 rfl wo.heap.size 2 i0 (.int .i64 0) 1 8 Tryz.underlying37 hi hz0 hz1 hz2 rfl (by decide) _ _ _ rfl (own_ext ho ((Ext.refl' wr).alloc (Nat.le_refl _) _)) ⟨wr.heap.size, 0, none⟩ 1 1 [.int .i64 (((x[j].toNat : Nat) : Int) - 48)] rfl rfl (cells_one (by simp [go_sem])) (by simp [Value.oneCell']) (by unfold maxLen; omega) (by omega) (by simp; omega) ?_)
                intro v' w5 ho5 hg5 _
                have hAA : Ext wr (wr.alloc (.cells #[.int .i64 (((x[j].toNat : Nat) : Int) - 48)] 2)) := (Ext.refl' wr).alloc (Nat.le_refl _) _
                have hE5 : Ext wo w5 := (hEi.tr hAA).grown hg5 (by simp; omega) (fun h hh => (ho.lt h hh).1)
                have hz5 : wo.heap.size < w5.heap.size := by have := hg5.size; simp at this; omega
                have ho6 : w5.ownsRow wo.heap.size 2 1 v' (subK x (j + 1)).length ((subK x (j + 1)).map (Value.int .i64)) := by rw [HK.out, List.map_append, List.length_append]; exact ho5
                clear ho hg5 hAA ho5 hEi hzi
                go_wp2_with fail
                go_roundw
                case rel => exact ⟨j + 1, by omega, by go_num, hE5, hz5, ho6⟩
                case measure => simp [intOf]; omega
              · have hje : j = x.size := by omega
                have HSB := Lib.hid (show subK x j = subB x by rw [hje]; exact subK_subB x)
                rw [HSB.out] at ho ⊢
                have hlen : (subB x).length = x.size := subB_len x
                have hOI : OI wr (.slice oa (subB x).length oc) (subB x) (Value.ownBlock (.slice oa (subB x).length oc)).toList := ⟨own_base ho (fun _ _ => Nat.zero_le _), rfl⟩
                have hofp : ∀ g ∈ (Value.ownBlock (.slice oa (subB x).length oc)).toList, wo.heap.size ≤ g := fun g hg => (ho.lt g (by simpa using hg)).1
                have hAi := hA.ext hEi
                have HCi := Lib.hid (show ∀ j (h : j < wl.length), wr.cell? ⟨b, off + j, none⟩ = some (.string wl[j]) from fun j hj => hEi.cell (HCr.out j hj))
                have a0 := hAi.c0
                have a1 := hAi.c1
                have hAl : Ext wr (wr.alloc (.cells #[.slice oa (subB x).length oc] 37)) := (Ext.refl' wr).alloc (Nat.le_refl _) _
                have HLB := Lib.hid hlen
                clear hlen hA ho hkl HCr
                generalize (Value.ownBlock (.slice oa (subB x).length oc)).toList = fx at *
                by_cases hx0 : x.size = 0
                · have hgt : (0 < (subB x).length) = False := eq_false (by rw [HLB.out]; omega)
                  go_wp2_with (at_builtin; refine (hAi.ext hAl).append (hOI.ext hAl) (fun g hg => by have := hofp g hg; omega) (fun g hg hm => by have := hofp g hg; have := hfp1 g hm; omega) (by omega) (b' := wr.heap.size) (by simp [go_sem]) rfl (.tmp 66) (.tmp 68) rfl rfl rfl ?_)
                  intro v' w7 fp' k7 k8 hA4 hK xa xc hxe
                  subst hxe
                  rw [← HS.out] at hA4
                  have HC4 := Lib.hid (show ∀ j (h : j < wl.length), (w7.setCell ⟨w2.heap.size, 1, none⟩ (.slice xa (L.length + 1) xc)).cell? ⟨b, off + j, none⟩ = some (.string wl[j]) from fun j hj => hK.cell (hAl.cell (HCi.out j hj)) (by dsimp only; omega) (by dsimp only; omega))
                  clear hAi HCi hK q0 q1 a0 a1 hOI
                  go_wp2_with fail
                  go_roundw
                  case rel => exact ⟨p + 1, false, _, fp', by omega, by omega, by go_num, rfl, hA4, HC4, Lib.hid ⟨(fun h => absurd h (by decide)), fun _ => .inr ⟨x, HXW.out, hx0⟩⟩⟩
                  case measure => simp [intOf]; omega
                · have hgt : (0 < (subB x).length) = True := eq_true (by rw [HLB.out]; omega)
                  go_wp2_with (at_builtin; refine (hAi.ext hAl).append (hOI.ext hAl) (fun g hg => by have := hofp g hg; omega) (fun g hg hm => by have := hofp g hg; have := hfp1 g hm; omega) (by omega) (b' := wr.heap.size) (by simp [go_sem]) rfl (.tmp 66) (.tmp 68) rfl rfl rfl ?_)
                  intro v' w7 fp' k7 k8 hA4 hK xa xc hxe
                  subst hxe
                  rw [← HS.out] at hA4
                  have HC4 := Lib.hid (show ∀ j (h : j < wl.length), (w7.setCell ⟨w2.heap.size, 1, none⟩ (.slice xa (L.length + 1) xc)).cell? ⟨b, off + j, none⟩ = some (.string wl[j]) from fun j hj => hK.cell (hAl.cell (HCi.out j hj)) (by dsimp only; omega) (by dsimp only; omega))
                  clear hAi HCi hK q0 q1 a0 a1 hOI
                  go_wp2_with fail
                  go_roundw
                  case rel => exact ⟨p + 1, true, _, fp', by omega, by omega, by go_num, rfl, hA4, HC4, Lib.hid ⟨fun _ => HOK0.out, (fun h => absurd h (by decide))⟩⟩
                  case measure => simp [intOf]; omega
          · have hpe : p = wl.length := by omega
            have HL := Lib.hid (show ((wl.take p).drop 2).map subB = ws.map subB by rw [List.take_of_length_le (by omega), HD.out])
            have HL2 : ((wl.take p).drop 2).map subB = ws.map subB := HL.out
            generalize ((wl.take p).drop 2).map subB = L at *
            cases hv : SValidRel 4 (n, L) with
            | false =>
              have HNO := Lib.hid (show ∀ g, ¬ IsRelOf s g from fun g hg => by
                obtain ⟨u1, u2⟩ := HU.out g hg
                obtain ⟨b1, b2, b3, b4⟩ := text_parts hg.1
                have h1 : n = g.1 := ((HN.out.1 HOK0.out).2 g.1 b1 b2).2 u1
                have h2 : L = g.2 := by
                  rw [HL2, u2, List.map_map]
                  refine Eq.trans (List.map_congr_left fun t ht => ?_) (List.map_id _)
                  exact subB_digB (b4 t ht).2
                have h3 : (n, L) = g := by rw [h1, h2]
                rw [h3, hg.1] at hv
                cases hv)
              clear HL HL2 HOK HOK0
              have a0 := hA.c0
              have a1 := hA.c1
              have d0 := hA.d0
              have d1 := hA.d1
              have f2 := hA.f2
              have f3 := hA.f3
              have hE := hA.hE
              have hrd : PtRel wr (.pointer (some ⟨w2.heap.size, 0, none⟩)) (n, L) := ⟨_, _, _, rfl, a0, a1, hA.ho.rd⟩
              go_wp2_with fail
              go_wp2_with fail
              refine region_sp [4] [5, 6] [SP.val (.agg #[.int .i64 n, .slice ka L.length kc]), SP.val (.bool true), SP.val (.bool true), SP.val (.bool false), SP.val (.bool false), SP.any, SP.any] (by kernel_rfl) (fun _ d _ _ _ h => by cases d <;> exact h) (by kernel_rfl) (by kernel_rfl)
                (.cons (fun vs y hY => Step.load ⟨w2.heap.size, 0, none⟩ rfl rfl rfl (by simp [go_sem, hY.cell a0, hY.cell a1]) rfl) <|
                 .cons (fun vs y hY => Step.move rfl rfl rfl rfl) <|
                 .cons (fun vs y hY g1_0 => Step.move rfl rfl g1_0 rfl) <|
                 .cons (fun vs y hY g2_0 g2_1 => Step.on rfl rfl g2_0 (GivesR.call rfl [.int .i64 4, .pointer (some ⟨w2.heap.size, 0, none⟩)] rfl rfl Tryz.call67 (Calls.spq (l01Ok_any 4 (n, L) _ _ (hrd.ext hY)) (by rw [hv])))) <|
                 .free (Step.free rfl (fun vs y hY g2_0 g3_1 => free_pick (b := true) rfl g2_0 g3_1 rfl rfl)) <|
                 .skip rfl <|
                 .skip rfl <|
                 .nil) ?_
              intro vs w3 hC hL
              have r0 : vs 0 = _ := hL 0 (by decide) rfl
              have r1 : vs 1 = _ := hL 1 (by decide) rfl
              have r2 : vs 2 = _ := hL 2 (by decide) rfl
              have r3 : vs 3 = _ := hL 3 (by decide) rfl
              have r4 : vs 4 = _ := hL 4 (by decide) rfl
              clear hL
              simp only [putAll, Act.put, List.contains_cons, List.contains_nil, Nat.reduceBEq, Nat.reduceAdd, Bool.or_false, Bool.or_true, cond_true, cond_false, List.setIfInBounds_toArray, List.set_cons_succ, List.set_cons_zero, List.filterMap_cons, List.filterMap_nil, List.getElem?_cons_succ, List.getElem?_cons_zero, r0, r1, r2, r3, r4]
              clear r0 r1 r2 r3 r4
              replace hA := hA.ext hC
              have d0 := hA.d0
              have d1 := hA.d1
              have f2 := hA.f2
              have f3 := hA.f3
              obtain ⟨g1, g2, g3⟩ := hA.done (.int .i64 n) (.slice ka L.length kc)
              clear hA hrd hC a0 a1 hE
              go_wp2_with fail
              exact bodyPost_ret (v := .tuple #[.agg #[.int .i64 n, .slice ka L.length kc], .bool false]) (by simp [results, Tryz.results41, go_sem, d0, d1]) rfl (ReadPost.no g1 g2 g3 HNO.out)
            | true =>
              have HOKR := Lib.hid (show IsRelOf s (n, L) by
                rw [HL2] at hv ⊢
                exact rel_from HW.out (HN.out.1 HOK0.out) hv)
              clear HL HL2 HOK HOK0
              have a0 := hA.c0
              have a1 := hA.c1
              have d0 := hA.d0
              have d1 := hA.d1
              have f2 := hA.f2
              have f3 := hA.f3
              have hE := hA.hE
              have hrd : PtRel wr (.pointer (some ⟨w2.heap.size, 0, none⟩)) (n, L) := ⟨_, _, _, rfl, a0, a1, hA.ho.rd⟩
              go_wp2_with fail
              go_wp2_with fail
              refine region_sp [4] [5, 6] [SP.val (.agg #[.int .i64 n, .slice ka L.length kc]), SP.val (.bool true), SP.val (.bool true), SP.val (.bool true), SP.val (.bool true), SP.any, SP.any] (by kernel_rfl) (fun _ d _ _ _ h => by cases d <;> exact h) (by kernel_rfl) (by kernel_rfl)
                (.cons (fun vs y hY => Step.load ⟨w2.heap.size, 0, none⟩ rfl rfl rfl (by simp [go_sem, hY.cell a0, hY.cell a1]) rfl) <|
                 .cons (fun vs y hY => Step.move rfl rfl rfl rfl) <|
                 .cons (fun vs y hY g1_0 => Step.move rfl rfl g1_0 rfl) <|
                 .cons (fun vs y hY g2_0 g2_1 => Step.on rfl rfl g2_0 (GivesR.call rfl [.int .i64 4, .pointer (some ⟨w2.heap.size, 0, none⟩)] rfl rfl Tryz.call67 (Calls.spq (l01Ok_any 4 (n, L) _ _ (hrd.ext hY)) (by rw [hv])))) <|
                 .free (Step.free rfl (fun vs y hY g2_0 g3_1 => free_pick (b := true) rfl g2_0 g3_1 rfl rfl)) <|
                 .skip rfl <|
                 .skip rfl <|
                 .nil) ?_
              intro vs w3 hC hL
              have r0 : vs 0 = _ := hL 0 (by decide) rfl
              have r1 : vs 1 = _ := hL 1 (by decide) rfl
              have r2 : vs 2 = _ := hL 2 (by decide) rfl
              have r3 : vs 3 = _ := hL 3 (by decide) rfl
              have r4 : vs 4 = _ := hL 4 (by decide) rfl
              clear hL
              simp only [putAll, Act.put, List.contains_cons, List.contains_nil, Nat.reduceBEq, Nat.reduceAdd, Bool.or_false, Bool.or_true, cond_true, cond_false, List.setIfInBounds_toArray, List.set_cons_succ, List.set_cons_zero, List.filterMap_cons, List.filterMap_nil, List.getElem?_cons_succ, List.getElem?_cons_zero, r0, r1, r2, r3, r4]
              clear r0 r1 r2 r3 r4
              replace hA := hA.ext hC
              have d0 := hA.d0
              have d1 := hA.d1
              have f2 := hA.f2
              have f3 := hA.f3
              obtain ⟨g1, g2, g3⟩ := hA.done (.int .i64 n) (.slice ka L.length kc)
              clear hA hrd hC a0 a1 hE
              go_wp2_with fail
              exact bodyPost_ret (v := .tuple #[.agg #[.int .i64 n, .slice ka L.length kc], .bool true]) (by simp [results, Tryz.results41, go_sem, d0, d1]) rfl (ReadPost.yes g1 g2 g3 HOKR.out)
  · have hno : ∀ g, ¬ IsRelOf s g := fun g hg => by
      have := rel_words hg
      rw [hws] at this
      simp only [List.cons.injEq] at this
      exact hw0 this.1
    have HW := Lib.hid hws
    have hbb2 : (w0.toList == ([114, 101, 108] : List UInt8)) = false := by have := text_ne hw0; rw [toList_eq ⟨#[114, 101, 108]⟩] at this; exact this
    clear hws hw0 hwl
    go_enter Tryz.func41, Tryz.ntmps41
    go_wp2_with fail
    refine (show Calls Tryz.prog 39 #[.string s, .int .u8 32] _ _ from l01Split_any 32 s _ hs).mono ?_
    rintro e w1 ⟨v, rfl, hE, hv⟩
    have d0 := hE.cell (p := ⟨w.heap.size, 0, none⟩) (v := .int .i64 0) (by simp [go_sem])
    have d1 := hE.cell (p := ⟨w.heap.size, 1, none⟩) (v := .slice none 0 0) (by simp [go_sem])
    have f2 := hE.frozen (p := ⟨w.heap.size, 0, none⟩) (by simp)
    have f3 := hE.frozen (p := ⟨w.heap.size, 1, none⟩) (by simp)
    simp [go_sem] at f2 f3
    replace hE := hE1.tr hE
    rw [HW.out] at hv
    obtain ⟨b, off, cap, rfl, hcap, hcells⟩ := cells_all hv
    have q0 := hcells 0 (by simp)
    simp only [List.getElem_cons_zero, Nat.add_zero] at q0
    clear hv
    clear hcells
    have hlen : (w0 :: wt).length = wt.length + 1 := by simp
    rw [hlen] at hcap ⊢
    clear hlen
    by_cases hl1 : (wt.length : Int) + 1 < 2
    · skip
      go_wp2_with fail
      exact bodyPost_ret (v := .tuple #[.agg #[.int .i64 0, .slice none 0 0], .bool false]) (by simp [results, Tryz.results41, go_sem, d0, d1]) rfl (ReadPost.no ((hE.setCell (by simp <;> omega) _).setCell (by simp <;> omega) _) (noRel_own _) (by simp) hno)
    · skip
      go_wp2_with fail
      exact bodyPost_ret (v := .tuple #[.agg #[.int .i64 0, .slice none 0 0], .bool false]) (by simp [results, Tryz.results41, go_sem, d0, d1]) rfl (ReadPost.no ((hE.setCell (by simp <;> omega) _).setCell (by simp <;> omega) _) (noRel_own _) (by simp) hno)
end Go.Proofs.YtajkepdfemdagaaGreatDoor
