/- A template drawn from a source: some valid template of the size, of at most three relations. The core of a template, the program's way. -/
import Derived.Test.YtajkepdfemdagaaGreatDoorC18
import Derived.Test.YtajkepdfemdagaaGreatDoorC20
import Derived.Test.YtajkepdfemdagaaGreatDoorC27
import Derived.Test.YtajkepdfemdagaaGreatDoorC28
import Derived.Test.YtajkepdfemdagaaGreatDoorC23
import Derived.Test.YtajkepdfemdagaaGreatDoorC25
import Derived.Test.YtajkepdfemdagaaGreatDoorC08
namespace Go.Proofs.YtajkepdfemdagaaGreatDoor
open Go.RowKit
set_option linter.unusedVariables false

/-- a valid template of a size, with few relations -/
structure IsTm (s : Int) (T : Int × List RelD) : Prop where
  valid : SValidTemplate T = true
  size : T.1 = s
  few : T.2.length ≤ 3
theorem IsTm.of {s : Int} {L : List RelD} (hs : 1 ≤ s) (hs2 : s ≤ 4) (hl : L.length ≤ 3) (h : ∀ r ∈ L, SValidRel s r = true) : IsTm s (s, L) := by
  refine ⟨?_, rfl, hl⟩
  unfold SValidTemplate
  rw [Bool.and_eq_true, Bool.and_eq_true, Bool.not_eq_true', List.any_eq_false, decide_eq_true_eq]
  refine ⟨inB_iff.2 ⟨hs, hs2⟩, by dsimp only; omega, fun r hr => ?_⟩
  rw [h r hr]
  simp

theorem AccR.offg {w wr w' : World} {C B : Nat} {m : Int} {L : List (Int × List (List Int))} {tv : Value} {fp : List Nat} {g : Nat} (h : AccR w wr C B m L tv fp) (hO : Off [g] wr w') (hg : w.heap.size ≤ g) (hg2 : g < C) : AccR w w' C B m L tv fp := by
  have q1 := h.hC
  exact ⟨Below.trans h.hE (hO.below h.hE.size fun k hk => by rw [List.mem_singleton] at hk; omega), h.ho.off hO fun k hk hm => by have := h.hfp k hk; rw [List.mem_singleton] at hm; omega, h.hfp, Nat.le_trans h.hB hO.size, h.hC, h.hw,
    hO.cell h.c0 (by simp; omega), hO.cell h.c1 (by simp; omega), (hO.frz (lt_of_cell h.c1) (by simp; omega)).trans h.f1⟩
/-- the append; what lies below the gathered template stays -/
theorem AccR.append2 {w w1 : World} {C B : Nat} {m : Int} {L : List (Int × List (List Int))} {tv : Value} {fp : List Nat} {r : Int × List (List Int)} {u : Value} {fx : List Nat} {ops : Array Oper} {rest : List Oper} {o : Oper} {a : Act} {Q : Exit → Act → World → Prop}
    (h : AccR w w1 C B m L tv fp) (hx : OII w1 u r.2 fx) (hfx : ∀ g ∈ fx, B ≤ g) (hd : ∀ g ∈ fx, g ∉ fp) (hlen : L.length ≤ 1048576) {b' : Nat} (cb : w1.cell? ⟨b', 0, none⟩ = some (.int .i64 r.1)) (cb1 : w1.cell? ⟨b', 1, none⟩ = some u)
    (hgd : o.guard = none) (s y : Operand) (ho : o.op = .call { callee := .builtin .append, args := #[s, y], argTypes := #[22, 22] }) (hs : a.eval s = tv) (hy : a.eval y = .slice (some ⟨b', 0, none⟩) 1 1)
    (hk : ∀ v' w4 fp', w4.cell? ⟨C, 1, none⟩ = some tv → w4.frozen? ⟨C, 1, none⟩ = false → AccR w (w4.setCell ⟨C, 1, none⟩ v') C B m (L ++ [r]) v' fp' → (∀ G, G ≤ C → Below G w1 (w4.setCell ⟨C, 1, none⟩ v')) → (∃ xa xc, v' = .slice xa (L.length + 1) xc) → wpList Tryz.prog ops Q rest (a.put o.dst v') w4) :
    wpList Tryz.prog ops Q (o :: rest) a w1 := by
  refine OwnRelS.app h.ho h.hfp h.hB hx hfx hd hlen cb cb1 hgd s y ho hs hy ?_
  intro v' w4 fp' k1 k2 k3 k4 k5
  have q1 := h.hC
  have q2 := h.hw
  have q3 := h.hB
  have q4 := k3.size
  have n0 : some C ≠ tv.ownBlock := fun hh => by have := k4 _ hh.symm; omega
  have c0 := k3.cell h.c0 n0
  have c1 := k3.cell h.c1 n0
  have f1 : w4.frozen? ⟨C, 1, none⟩ = false := by rw [grown_frozen k3 (by dsimp only; omega) n0]; exact h.f1
  obtain ⟨xa, xc, hxf⟩ := k1.form
  refine hk v' w4 fp' c1 f1 ⟨(k5 w h.hE (by omega)).setCell (by dsimp only; omega) _, ?_, k2, by simp; omega, q1, q2, cell_set c0 (.inr (by simp)), cell_same c1, by simpa using f1⟩ (fun G hG => ((Below.refl G w1).grown k3 (by omega) (fun g hg => by have := k4 g hg; omega)).setCell (by dsimp only; omega) _) ⟨xa, xc, by rw [hxf, List.length_append]; rfl⟩
  exact OwnRelS.off k1 (Off.set (fp := [C]) (by simp)) fun g hg hm => by have := k2 g hg; simp at hm; omega

/-- some relation that is so, in new memory -/
def SP.relG (B : Nat) (p : Int × List (List Int) → Prop) : SP := ⟨fun v w => ∃ r fp, p r ∧ OwnRel w v r fp ∧ ∀ g ∈ fp, B ≤ g, fun _ _ _ ⟨r, fp, h0, h1, h2⟩ hE => ⟨r, fp, h0, h1.ext hE, h2⟩⟩
def SP.rowRelG (B : Nat) (p : Int × List (List Int) → Prop) : SP := ⟨fun v w => ∃ r b u fp, p r ∧ v = .slice (some ⟨b, 0, none⟩) 1 1 ∧ B ≤ b ∧ w.cell? ⟨b, 0, none⟩ = some (.int .i64 r.1) ∧ w.cell? ⟨b, 1, none⟩ = some u ∧ OII w u r.2 fp ∧ ∀ g ∈ fp, B ≤ g,
  fun _ w _ ⟨r, b, u, fp, h0, h1, hb, h2, h3, h4, h5⟩ hE => ⟨r, b, u, fp, h0, h1, hb, Ext.cell hE h2, Ext.cell hE h3, h4.ext hE, h5⟩⟩
theorem SP.rowRelG_off {B g : Nat} {p : Int × List (List Int) → Prop} {v : Value} {w w' : World} (h : (SP.rowRelG B p).R v w) (hO : Off [g] w w') (hg : g < B) : (SP.rowRelG B p).R v w' := by
  obtain ⟨r, b, u, fp, h0, h1, hb, h2, h3, h4, h5⟩ := h
  exact ⟨r, b, u, fp, h0, h1, hb, hO.cell h2 (by simp; omega), hO.cell h3 (by simp; omega), h4.off hO fun k hk hm => by have := h5 k hk; rw [List.mem_singleton] at hm; omega, h5⟩
theorem Step.rowRelG {ops : List Oper} {o : Oper} {ρ : Operand → Value} {w : World} {B : Nat} {p : Int × List (List Int) → Prop} {t e : TypeId} {y : Operand} (hg : o.guard = none) (hop : o.op = .buildSlice t 1 #[(0, y)]) (hB : B ≤ w.heap.size) (hy : (SP.relG B p).R (ρ y) w)
    (hr : ∀ (n : Int) (a : Option Addr) (l c : Nat) (w : World), (Instr.buildSlice t 1 #[(0, .agg #[.int .i64 n, .slice a l c])]).run Tryz.prog w = .ok (.slice (some ⟨w.heap.size, 0, none⟩) 1 1) (w.alloc (.cells #[.int .i64 n, .slice a l c] e))) :
    Step Tryz.prog ops o ρ w (SP.rowRelG B p).R := by
  obtain ⟨r, fp, hp, ⟨tv, h0, h1⟩, h2⟩ := hy
  obtain ⟨a, c, rfl⟩ := h1.form
  obtain ⟨dst, op, type, pos, after, guard⟩ := o
  subst hop
  have hE : Ext w (w.alloc (.cells #[.int .i64 r.1, .slice a r.2.length c] e)) := (Ext.refl' w).alloc (Nat.le_refl _) _
  refine Step.run hg (w' := w.alloc (.cells #[.int .i64 r.1, .slice a r.2.length c] e)) (v := .slice (some ⟨w.heap.size, 0, none⟩) 1 1) ?_ hE ⟨r, _, _, fp, hp, rfl, hB, by simp [go_sem], by simp [go_sem], h1.ext hE, h2⟩
  have hrr := hr r.1 a r.2.length c w
  simp [execOp, h0, hrr]
/-- five numbers in a new block -/
def SP.fiveI (B : Nat) (a b c d e : Int) : SP := ⟨fun v w => ∃ k, v = .slice (some ⟨k, 0, none⟩) 5 5 ∧ B ≤ k ∧ w.heap[k]? = some (.cells #[.int .i64 a, .int .i64 b, .int .i64 c, .int .i64 d, .int .i64 e] 2 (0, 0)),
  fun v w w' ⟨k, h1, h2, h3⟩ hE => ⟨k, h1, h2, by rw [hE.block k (Array.getElem?_eq_some_iff.1 h3).1]; exact h3⟩⟩
theorem SP.fiveI_off {B g : Nat} {a b c d e : Int} {v : Value} {w w' : World} (h : (SP.fiveI B a b c d e).R v w) (hO : Off [g] w w') (hg : g < B) : (SP.fiveI B a b c d e).R v w' := by
  obtain ⟨k, h1, h2, h3⟩ := h
  exact ⟨k, h1, h2, by rw [hO.block k (Array.getElem?_eq_some_iff.1 h3).1 (by simp; omega)]; exact h3⟩
theorem Step.fiveI {ops : List Oper} {o : Oper} {ρ : Operand → Value} {w : World} {B : Nat} {a b c d e : Int} {x1 x2 x3 x4 x5 : Operand} (hg : o.guard = none) (hop : o.op = .buildSlice 37 5 #[(0, x1), (1, x2), (2, x3), (3, x4), (4, x5)])
    (h1 : ρ x1 = .int .i64 a) (h2 : ρ x2 = .int .i64 b) (h3 : ρ x3 = .int .i64 c) (h4 : ρ x4 = .int .i64 d) (h5 : ρ x5 = .int .i64 e) (hB : B ≤ w.heap.size) : Step Tryz.prog ops o ρ w (SP.fiveI B a b c d e).R := by
  obtain ⟨dst, op, type, pos, after, guard⟩ := o
  subst hop
  have hr : (Instr.buildSlice 37 5 #[(0, .int .i64 a), (1, .int .i64 b), (2, .int .i64 c), (3, .int .i64 d), (4, .int .i64 e)]).run Tryz.prog w = .ok (.slice (some ⟨w.heap.size, 0, none⟩) 5 5) (w.alloc (.cells #[.int .i64 a, .int .i64 b, .int .i64 c, .int .i64 d, .int .i64 e] 2)) := by kernel_rfl
  refine Step.run hg (w' := w.alloc (.cells #[.int .i64 a, .int .i64 b, .int .i64 c, .int .i64 d, .int .i64 e] 2)) (v := .slice (some ⟨w.heap.size, 0, none⟩) 5 5) ?_ ((Ext.refl' w).alloc (Nat.le_refl _) _) ⟨_, rfl, hB, heap_alloc_new w _⟩
  simp [execOp, h1, h2, h3, h4, h5, hr]

set_option maxHeartbeats 4000000 in
set_option maxRecDepth 100000 in
theorem among_any (g k : Nat) (k0 : Int) (w : World) (hS : Src w g k0) (hk0 : 0 ≤ k0) (hk1 : k0 < 4611686018427387904) (hgk : g ≠ k) (hc : w.heap[k]? = some (.cells #[.int .i64 1, .int .i64 2, .int .i64 2, .int .i64 2, .int .i64 3] 2 (0, 0))) :
    Calls Tryz.prog 126 #[.pointer (some ⟨g, 0, none⟩), .slice (some ⟨k, 0, none⟩) 5 5] w fun e w' => ∃ m k' : Int, e = .returned (.int .i64 m) ∧ 1 ≤ m ∧ m ≤ 3 ∧ Off [g] w w' ∧ Src w' g k' ∧ 0 ≤ k' ∧ k' ≤ k0 + 1 := by
  go_enter Tryz.func126, Tryz.ntmps126
  go_wp2_with fail
  refine (pick_any g k0 5 _ hS hk0 hk1 (by omega) (by omega)).mono ?_
  rintro e w1 ⟨x, k', x0, x1, p0, p1, rfl, hO, hS1⟩
  have hh : w1.heap[k]? = some (.cells #[.int .i64 1, .int .i64 2, .int .i64 2, .int .i64 2, .int .i64 3] 2 (0, 0)) := by
    rw [hO.block k (Array.getElem?_eq_some_iff.1 hc).1 (by simp; omega)]
    exact hc
  have c0 : w1.cell? ⟨k, 0, none⟩ = some (.int .i64 1) := by simp [World.cell?, hh]
  have c1 : w1.cell? ⟨k, 1, none⟩ = some (.int .i64 2) := by simp [World.cell?, hh]
  have c2 : w1.cell? ⟨k, 2, none⟩ = some (.int .i64 2) := by simp [World.cell?, hh]
  have c3 : w1.cell? ⟨k, 3, none⟩ = some (.int .i64 2) := by simp [World.cell?, hh]
  have c4 : w1.cell? ⟨k, 4, none⟩ = some (.int .i64 3) := by simp [World.cell?, hh]
  clear hh hc hS
  have hx : x = 0 ∨ x = 1 ∨ x = 2 ∨ x = 3 ∨ x = 4 := by omega
  clear x0 x1
  rcases hx with rfl | rfl | rfl | rfl | rfl <;>
  · go_wp2_with fail
    go_ret
    exact ⟨_, k', rfl, by omega, by omega, hO, hS1, by omega, by omega⟩

/-- what a function leaves that draws a template -/
def TmDrawn (s : Int) (w : World) (e : Ending) (w' : World) : Prop :=
  ∃ u T fp, e = .returned u ∧ Ext w w' ∧ OwnTm w' u T fp ∧ (∀ h ∈ fp, w.heap.size ≤ h) ∧ IsTm s T
set_option maxHeartbeats 8000000 in
set_option maxRecDepth 100000 in
theorem l01TemplateDrawn_any (w0 : World) (g : Nat) (k0 s : Int) (w : World) (hE0 : Ext w0 w) (hg : w0.heap.size ≤ g) (hS : Src w g k0) (hk0 : 0 ≤ k0) (hk1 : k0 ≤ 1000) (hs : 1 ≤ s) (hs2 : s ≤ 4) :
    Calls Tryz.prog 75 #[.pointer (some ⟨g, 0, none⟩), .int .i64 s] w (TmDrawn s w0) := by
  have hgw := hS.lt
  have hE0s := hE0.size
  have hA1 : Ext w ((w.alloc (.cells #[.int .i64 0, .slice none 0 0] 24)).alloc (.cells #[.int .i64 s, .slice none 0 0] 24)) := ((Ext.refl' w).alloc (Nat.le_refl _) _).alloc (by simp) _
  have hA : AccR w0 ((w.alloc (.cells #[.int .i64 0, .slice none 0 0] 24)).alloc (.cells #[.int .i64 s, .slice none 0 0] 24)) (w.heap.size + 1) (w.heap.size + 1 + 1) s [] (.slice none 0 0) [] :=
    ⟨hE0.tr hA1, OwnL.nil _, by simp, by simp, by omega, by omega, by simp [go_sem], by simp [go_sem], by simp [go_sem]⟩
  have hS1 : Src ((w.alloc (.cells #[.int .i64 0, .slice none 0 0] 24)).alloc (.cells #[.int .i64 s, .slice none 0 0] 24)) g k0 := hS.below (hA1.mono (by omega))
  have d0 : ((w.alloc (.cells #[.int .i64 0, .slice none 0 0] 24)).alloc (.cells #[.int .i64 s, .slice none 0 0] 24)).cell? ⟨w.heap.size, 0, none⟩ = some (.int .i64 0) := by simp [go_sem]
  have d1 : ((w.alloc (.cells #[.int .i64 0, .slice none 0 0] 24)).alloc (.cells #[.int .i64 s, .slice none 0 0] 24)).cell? ⟨w.heap.size, 1, none⟩ = some (.slice none 0 0) := by simp [go_sem]
  have f2 : ((w.alloc (.cells #[.int .i64 0, .slice none 0 0] 24)).alloc (.cells #[.int .i64 s, .slice none 0 0] 24)).frozen? ⟨w.heap.size, 0, none⟩ = false := by simp [go_sem]
  have f3 : ((w.alloc (.cells #[.int .i64 0, .slice none 0 0] 24)).alloc (.cells #[.int .i64 s, .slice none 0 0] 24)).frozen? ⟨w.heap.size, 1, none⟩ = false := by simp [go_sem]
  go_enter Tryz.func75, Tryz.ntmps75
  go_wp2_with fail
  refine (pick_any g k0 4 _ hS1 hk0 (by omega) (by omega) (by omega)).mono ?_
  rintro e w1 ⟨many, k1, o0, o1, k2, k3, rfl, hO, hS2⟩
  replace hA := hA.offg hO hg (by omega)
  replace f2 := (hO.frz (lt_of_cell d0) (by simp; omega)).trans f2
  replace f3 := (hO.frz (lt_of_cell d1) (by simp; omega)).trans f3
  replace d0 := hO.cell d0 (by simp; omega)
  replace d1 := hO.cell d1 (by simp; omega)
  clear hS1 hS hA1 hO
  obtain ⟨mn, rfl⟩ := Int.eq_ofNat_of_zero_le o0
  go_wp2_with fail
  go_loopw [6] (fun i wr => ∃ (j : Nat) (k : Int) (L : List RelD) (tv : Value) (fp : List Nat), j ≤ 3 ∧ i = .int .i64 (j : Nat) ∧ AccR w0 wr (w.heap.size + 1) (w.heap.size + 1 + 1) s L tv fp ∧ L.length + j ≤ 3 ∧ (∀ r ∈ L, SValidRel s r = true) ∧ Src wr g k ∧ 0 ≤ k ∧ k ≤ 1001 + 8400 * (3 - (j : Int)) ∧
    wr.cell? ⟨w.heap.size, 0, none⟩ = some (.int .i64 0) ∧ wr.cell? ⟨w.heap.size, 1, none⟩ = some (.slice none 0 0) ∧ wr.frozen? ⟨w.heap.size, 0, none⟩ = false ∧ wr.frozen? ⟨w.heap.size, 1, none⟩ = false) (fun i _ => (intOf i).toNat)
  case atStart => exact ⟨mn, k1, [], _, _, by omega, rfl, hA, by simp; omega, by simp, hS2, by omega, by omega, d0, d1, f2, f3⟩
  case round =>
    clear d0 d1 f2 f3 hA hS2
    obtain ⟨j, k, L, tv, fp, hj, rfl, hA, hlj, hval, hS3, h0, h1, d0, d1, f2, f3⟩ := hrel
    obtain ⟨xa, xc, rfl⟩ := hA.ho.form
    have HV := Lib.hid hval
    clear hval
    cases j with
    | succ j =>
      have a0 := hA.c0
      have a1 := hA.c1
      have hfp1 := hA.ho.lt
      have hqB := hA.hB
      have hgl := hS3.lt
      go_wp2_with fail
      refine region_spJ (fun n y => Off [g] wr y ∧ ∃ q : Int, Src y g q ∧ 0 ≤ q ∧ q ≤ k + 700 * (12 - (n : Int))) (fun n y y' ⟨h1, q, h2, h3, h4⟩ hE => ⟨h1.behind (hE.mono h1.size), q, h2.below (hE.mono h2.lt), h3, h4⟩) (fun n y ⟨h1, q, h2, h3, h4⟩ => ⟨h1, q, h2, h3, by omega⟩) ⟨Off.refl _ _, k, hS3, h0, by simp⟩ [] [9, 10, 11]
        [SP.val (.pointer (some ⟨w.heap.size + 1, 1, none⟩)), SP.val (.slice xa L.length xc), SP.val (.pointer (some ⟨g, 0, none⟩)), SP.val (.int .i64 s), SP.val (.pointer (some ⟨g, 0, none⟩)), SP.fiveI wr.heap.size 1 2 2 2 3, ⟨fun v _ => ∃ m : Int, v = .int .i64 m ∧ 1 ≤ m ∧ m ≤ 3, fun _ _ _ h _ => h⟩,
         SP.relG wr.heap.size (fun r => SValidRel s r = true), SP.rowRelG wr.heap.size (fun r => SValidRel s r = true), SP.any, SP.any, SP.any] (by kernel_rfl) (fun _ d _ _ _ h => by cases d <;> exact h) (by kernel_rfl) (by kernel_rfl)
        (.cons (fun n vs y hY => Step.fieldAddr ⟨w.heap.size + 1, 0, none⟩ rfl rfl rfl (by simp [go_sem]) rfl) <|
         .cons (fun n vs y hY g0_0 => Step.load ⟨w.heap.size + 1, 1, none⟩ rfl rfl g0_0 (by simp [go_sem, hY.1.cell a1 (by simp; omega)]) rfl) <|
         .cons (fun n vs y hY => Step.move rfl rfl rfl rfl) <|
         .cons (fun n vs y hY => Step.move rfl rfl rfl rfl) <|
         .cons (fun n vs y hY => Step.move rfl rfl rfl rfl) <|
         .cons (fun n vs y hY => Step.fiveI rfl rfl rfl rfl rfl rfl rfl hY.1.size) <|
         .keep ⟨rfl, fun n vs y hY g4_0 g5_1 => GivesR.call rfl [vs 4, vs 5] rfl rfl Tryz.call126 (by
            rw [show vs 4 = _ from g4_0]
            obtain ⟨hOy, q, hq1, hq2, hq3⟩ := hY
            obtain ⟨b, hv, hb, hcells⟩ := g5_1
            rw [show vs 5 = _ from hv]
            refine (among_any g b q y hq1 hq2 (by omega) (by omega) hcells).mono ?_
            rintro e y' ⟨m, q', rfl, m1, m2, hO, hS', p1, p2⟩
            refine ⟨_, rfl, ⟨hOy.trans hO, q', hS', p1, by omega⟩, ⟨m, rfl, m1, m2⟩, ?_⟩
            intro j' o' u hj' hd hne hR
            have hlt := (List.getElem?_eq_some_iff.1 hj').1
            simp only [List.length_cons, List.length_nil] at hlt
            rcases (show j' = 0 ∨ j' = 1 ∨ j' = 2 ∨ j' = 3 ∨ j' = 4 ∨ j' = 5 ∨ j' = 6 ∨ j' = 7 ∨ j' = 8 ∨ j' = 9 ∨ j' = 10 ∨ j' = 11 by omega) with rfl | rfl | rfl | rfl | rfl | rfl | rfl | rfl | rfl | rfl | rfl | rfl <;>
              first | exact SP.fiveI_off hR hO hgl | exact SP.rowRelG_off hR hO hgl | exact absurd rfl hne | (obtain rfl := Option.some.inj hj'; exact absurd hd (by decide)) | exact hR)⟩ <|
         .keep ⟨rfl, fun n vs y hY g2_0 g3_1 g6_2 g6_3 => GivesR.call rfl [vs 2, vs 3, vs 6] rfl rfl Tryz.call54 (by
            rw [show vs 2 = _ from g2_0, show vs 3 = _ from g3_1]
            obtain ⟨hOy, q, hq1, hq2, hq3⟩ := hY
            obtain ⟨m, hv, m1, m2⟩ := g6_2
            rw [show vs 6 = _ from hv]
            have hsy := hOy.size
            refine (l01DrawnK_any w0 g q s m y (Below.trans hA.hE (hOy.below hA.hE.size fun z hz => by rw [List.mem_singleton] at hz; omega)) hg hq1 hq2 (by omega) hs hs2 m1 (by omega)).mono ?_
            rintro e y' ⟨u, p, fu, q', rfl, hE', ho', hfu, hO, hS', p1, p2⟩
            refine ⟨_, rfl, ⟨hOy.trans hO, q', hS', p1, by omega⟩, ⟨_, fu, srel_valid hs hs2 m1 (by omega) p, ho', fun h hh => Nat.le_trans hsy (hfu h hh)⟩, ?_⟩
            intro j' o' u' hj' hd hne hR
            have hlt := (List.getElem?_eq_some_iff.1 hj').1
            simp only [List.length_cons, List.length_nil] at hlt
            rcases (show j' = 0 ∨ j' = 1 ∨ j' = 2 ∨ j' = 3 ∨ j' = 4 ∨ j' = 5 ∨ j' = 6 ∨ j' = 7 ∨ j' = 8 ∨ j' = 9 ∨ j' = 10 ∨ j' = 11 by omega) with rfl | rfl | rfl | rfl | rfl | rfl | rfl | rfl | rfl | rfl | rfl | rfl <;>
              first | exact SP.fiveI_off hR hO hgl | exact absurd rfl hne | (obtain rfl := Option.some.inj hj'; exact absurd hd (by decide)) | exact hR)⟩ <|
         .cons (fun n vs y hY g7_0 => Step.rowRelG (e := 35) rfl rfl hY.1.size g7_0 (by intros; simp [go_sem])) <|
         .skip rfl <|
         .skip rfl <|
         .skip rfl <|
         .nil) ?_
      intro n vs w6 hJ hL
      obtain ⟨hO6, q, hS6, q0, q1⟩ := hJ
      have r1 : vs 1 = _ := hL 1 (by decide) rfl
      have r0 : vs 0 = _ := hL 0 (by decide) rfl
      have r2 : vs 2 = _ := hL 2 (by decide) rfl
      have r3 : vs 3 = _ := hL 3 (by decide) rfl
      have r4 : vs 4 = _ := hL 4 (by decide) rfl
      have r8 := hL 8 (by decide) rfl
      clear hL
      simp only [putAll, Act.put, List.contains_cons, List.contains_nil, Nat.reduceBEq, Nat.reduceAdd, Bool.or_false, Bool.or_true, cond_true, cond_false, List.setIfInBounds_toArray, List.set_cons_succ, List.set_cons_zero, List.filterMap_cons, List.filterMap_nil, List.getElem?_cons_succ, List.getElem?_cons_zero, r0, r1, r2, r3, r4]
      clear r0 r1 r2 r3 r4
      obtain ⟨r, b', u, fx, hvr, r8, hb', y0, y1, hx, hfx⟩ := r8
      have hA6 := hA.offg hO6 hg (by omega)
      have e2 := (hO6.frz (lt_of_cell d0) (by simp; omega)).trans f2
      have e3 := (hO6.frz (lt_of_cell d1) (by simp; omega)).trans f3
      have e0 := hO6.cell d0 (by simp; omega)
      have e1 := hO6.cell d1 (by simp; omega)
      clear hA hO6 d0 d1 f2 f3 hS3 a0 a1
      refine AccR.append2 hA6 hx (fun g hg => by have := hfx g hg; omega) (fun g hg hm => by have := hfx g hg; have := hfp1 g hm; omega) (by omega) y0 y1 rfl (.tmp 16) (.tmp 23) rfl rfl r8 ?_
      rintro v' w7 fp' k7 k8 hA4 hBel ⟨xa', xc', rfl⟩
      have hS7 := hS6.below (hBel (g + 1) (by omega))
      have b1 := hBel (w.heap.size + 1) (Nat.le_refl _)
      replace e2 := (Below.frozen b1 (p := ⟨w.heap.size, 0, none⟩) (by simp)).trans e2
      replace e3 := (Below.frozen b1 (p := ⟨w.heap.size, 1, none⟩) (by simp)).trans e3
      replace e0 := (Below.cell b1 (p := ⟨w.heap.size, 0, none⟩) (by simp)).trans e0
      replace e1 := (Below.cell b1 (p := ⟨w.heap.size, 1, none⟩) (by simp)).trans e1
      have hlj2 : (L ++ [r]).length + j ≤ 3 := by rw [List.length_append, List.length_singleton]; omega
      have hval2 : ∀ x ∈ L ++ [r], SValidRel s x = true := fun x hx => by
        rcases List.mem_append.1 hx with h | h
        · exact HV.out x h
        · rw [List.mem_singleton.1 h]; exact hvr
      clear hBel b1 HV hS6 hx hfx hvr r8 y0 y1
      have hj1 : ((j + 1 : Nat) : Int) - 1 = (j : Nat) := by omega
      go_wp2_with fail
      go_roundw
      case rel => exact ⟨j, q, _, _, fp', by omega, by go_num, hA4, hlj2, hval2, hS7, q0, by omega, e0, e1, e2, e3⟩
      case measure => simp [intOf]
    | zero =>
      have hfpB := hA.hfp
      have hE := hA.hE
      have ho := hA.ho
      have c0 := hA.c0
      have c1 := hA.c1
      clear hA
      have hlb : L.length ≤ 3 := by omega
      go_wp2_with fail
      exact bodyPost_ret (v := .agg #[.int .i64 s, .slice xa L.length xc]) (by simp [results, Tryz.results75, go_sem, d0, d1]) rfl ⟨_, (s, L), fp, rfl, (hE.setCell (by simp <;> omega) _).setCell (by simp <;> omega) _, ⟨_, rfl, (ho.set (fun hm => by have := hfpB _ hm; dsimp only at this; omega) _).set (fun hm => by have := hfpB _ hm; dsimp only at this; omega) _⟩, fun h hh => by have := hfpB h hh; omega, .of hs hs2 hlb HV.out⟩
set_option maxHeartbeats 2000000 in
set_option maxRecDepth 100000 in
theorem p6Template_any (v : Value) (s : Int) (w : World) (h : RdB w v) (hs : 1 ≤ s) (hs2 : s ≤ 4) :
    Calls Tryz.prog 28 #[v, .int .i64 s] w (TmDrawn s w) := by
  have h0 := h
  obtain ⟨a, b, off, n, c, rfl, -⟩ := h0
  have hE1 : Ext w (w.alloc (.cells #[.int .i64 0, .slice none 0 0] 24)) := (Ext.refl' w).alloc (Nat.le_refl _) _
  go_enter Tryz.func28, Tryz.ntmps28
  go_wp2_with fail
  refine (from_any _ _ (h.ext hE1)).mono ?_
  rintro e w1 ⟨rfl, hE, hz, hS⟩
  have d0 := hE.cell (p := ⟨w.heap.size, 0, none⟩) (v := .int .i64 0) (by simp [go_sem])
  have d1 := hE.cell (p := ⟨w.heap.size, 1, none⟩) (v := .slice none 0 0) (by simp [go_sem])
  have f2 := hE.frozen (p := ⟨w.heap.size, 0, none⟩) (by simp)
  have f3 := hE.frozen (p := ⟨w.heap.size, 1, none⟩) (by simp)
  simp [go_sem] at f2 f3
  simp only [World.size_alloc] at hS hz ⊢
  go_wp2_with fail
  refine (l01TemplateDrawn_any _ _ 0 s _ hE (by simp) hS (by omega) (by omega) hs hs2).mono ?_
  rintro e w2 ⟨u, T, fp, rfl, hE2, hr, hfp, hT⟩
  clear d0 d1 f2 f3 hE
  have hE := hE2
  have d0 := hE.cell (p := ⟨w.heap.size, 0, none⟩) (v := .int .i64 0) (by simp [go_sem])
  have d1 := hE.cell (p := ⟨w.heap.size, 1, none⟩) (v := .slice none 0 0) (by simp [go_sem])
  have f2 := hE.frozen (p := ⟨w.heap.size, 0, none⟩) (by simp)
  have f3 := hE.frozen (p := ⟨w.heap.size, 1, none⟩) (by simp)
  simp [go_sem] at f2 f3
  obtain ⟨ua, uc, rfl⟩ := hr.form
  simp only [World.size_alloc] at hfp
  go_wp2_with fail
  exact bodyPost_ret (v := .agg #[.int .i64 T.1, .slice ua T.2.length uc]) (by simp [results, Tryz.results28, go_sem, d0, d1]) rfl
    ⟨_, T, fp, rfl, ((hE1.tr hE).setCell (by simp <;> omega) _).setCell (by simp <;> omega) _, hr.off ((Off.set (fp := [w.heap.size]) (by simp)).trans (Off.set (by simp))) (fun h hh hm => by have := hfp h hh; simp at hm; omega), fun h hh => by have := hfp h hh; omega, hT⟩
end Go.Proofs.YtajkepdfemdagaaGreatDoor
namespace Go.Proofs.YtajkepdfemdagaaGreatDoor
open Go.RowKit
set_option linter.unusedVariables false

def tellAt (vs x : List Int) (j : Nat) : List Int := tellT vs (x.take j)
theorem tellAt_zero (vs x : List Int) : tellAt vs x 0 = [] := rfl
theorem tellAt_succ {vs x : List Int} {j : Nat} (hj : j < x.length) : tellAt vs x (j + 1) = tellAt vs x j ++ [idx (fun b => decide (b = x[j])) vs] := by
  unfold tellAt tellT
  rw [List.take_succ_eq_append_getElem hj, List.map_append]
  rfl
theorem tellAt_le (vs x : List Int) (j : Nat) : (tellAt vs x j).length ≤ x.length := by
  unfold tellAt
  rw [tellT_length, List.length_take]
  omega
theorem tellAt_all {vs x : List Int} {j : Nat} (hj : x.length ≤ j) : tellAt vs x j = tellT vs x := by unfold tellAt; rw [List.take_of_length_le hj]
def restrL (vs : List Int) (L : List (List Int)) : List (List Int) := (L.map (tellT vs)).filter fun x => !hasI x (-1)
def restrAt (vs : List Int) (L : List (List Int)) (k : Nat) : List (List Int) := restrL vs (L.take k)
theorem restrR_eq (vs : List Int) (r : RelD) : restrR vs r = (r.1, restrL vs r.2) := rfl
theorem restrAt_yes {vs : List Int} {L : List (List Int)} {k : Nat} (hk : k < L.length) (h : hasI (tellT vs L[k]) (-1) = false) : restrAt vs L (k + 1) = restrAt vs L k ++ [tellT vs L[k]] := by
  unfold restrAt restrL
  rw [List.take_succ_eq_append_getElem hk, List.map_append, List.filter_append]
  simp [h]
theorem restrAt_no {vs : List Int} {L : List (List Int)} {k : Nat} (hk : k < L.length) (h : hasI (tellT vs L[k]) (-1) = true) : restrAt vs L (k + 1) = restrAt vs L k := by
  unfold restrAt restrL
  rw [List.take_succ_eq_append_getElem hk, List.map_append, List.filter_append]
  simp [h]
theorem restrAt_le (vs : List Int) (L : List (List Int)) (k : Nat) : (restrAt vs L k).length ≤ L.length := by
  unfold restrAt restrL
  refine Nat.le_trans (List.length_filter_le _ _) ?_
  rw [List.length_map, List.length_take]
  omega
theorem restrAt_all {vs : List Int} {L : List (List Int)} {k : Nat} (hk : L.length ≤ k) : restrAt vs L k = restrL vs L := by unfold restrAt; rw [List.take_of_length_le hk]

set_option maxHeartbeats 8000000 in
set_option maxRecDepth 100000 in
theorem restricted_any (r : RelD) (v : Value) (vs : List Int) (vv : Value) (w : World) (hr : RdRel w v r) (hvs : RdI w vv vs) (hlen : r.2.length ≤ 1048576) (hlt : ∀ t ∈ r.2, t.length ≤ 1048576) :
    Calls Tryz.prog 80 #[v, vv] w fun e w' => ∃ u fp, e = .returned u ∧ Ext w w' ∧ OwnRel w' u (restrR vs r) fp ∧ ∀ h ∈ fp, w.heap.size ≤ h := by
  obtain ⟨i0, hi, hz0, hz1, hz2⟩ := info_parts infoI
  obtain ⟨tv, rfl, hr'⟩ := hr
  obtain ⟨a, b, off, cap, el, rfl, hlc, hcm, ha, hc⟩ := hr'
  obtain ⟨va, vc, rfl⟩ := hvs.form
  have HC := Lib.hid hc
  have HLT := Lib.hid hlt
  have HR := Lib.hid (restrR_eq vs r)
  clear hc hlt
  have hE1 : Ext w (((w.alloc (.cells #[.int .i64 r.1, .slice a r.2.length cap] 35)).alloc (.cells #[.int .i64 0, .slice none 0 0] 35)).alloc (.cells #[.int .i64 r.1, .slice none 0 0] 35)) := (((Ext.refl' w).alloc (Nat.le_refl _) _).alloc (by simp) _).alloc (by simp; omega) _
  go_enter Tryz.func80, Tryz.ntmps80
  go_wp2_with fail
  go_loopw [17] (fun i wr => ∃ (k : Nat) (tv : Value) (fp : List Nat), k ≤ r.2.length ∧ i = .int .i64 k ∧ Acc w wr (w.heap.size + 1) (w.heap.size + 1 + 1) (w.heap.size + 1 + 1 + 1) r.1 (restrAt vs r.2 k) tv fp)
    (fun i _ => r.2.length - (intOf i).toNat)
  case atStart =>
    refine ⟨0, .slice none 0 0, [], by omega, rfl, ⟨hE1, OII_nil _, by simp, by simp, by omega, by omega, by omega, ?_, ?_, ?_, ?_, ?_, ?_, ?_⟩⟩ <;> simp [go_sem]
  case round =>
    rename World => wo
    obtain ⟨k, tv, fp, hk, rfl, hA⟩ := hrel
    have hE := hA.hE
    have hBo := hA.hB
    have hfpw := hA.ho.lt
    obtain ⟨xa, xc, rfl⟩ := hA.ho.form
    by_cases hkl : k < r.2.length
    · obtain rfl := ha (by omega)
      obtain ⟨k1, k2⟩ := HC.out k hkl
      replace k1 := hE.cell k1
      replace k2 := k2.ext hE
      have hXl := HLT.out r.2[k] (List.getElem_mem hkl)
      have HY := Lib.hid (fun h : hasI (tellT vs r.2[k]) (-1) = false => restrAt_yes (vs := vs) hkl h)
      have HN := Lib.hid (fun h : hasI (tellT vs r.2[k]) (-1) = true => restrAt_no (vs := vs) hkl h)
      generalize el k = y at k1 k2
      generalize r.2[k] = X at k2 hXl HY HN
      obtain ⟨ya, yb, yoff, yc, rfl, ylc, ycm, hya, hyc⟩ := k2
      have HYC := Lib.hid hyc
      clear hyc
      go_wp2_with fail
      go_loopw [8, 24] (fun t i wr => ∃ j : Nat, j ≤ X.length ∧ i = .int .i64 (j : Nat) ∧ Ext wo wr ∧ wr.ownsRow wo.heap.size 2 1 t (tellAt vs X j).length ((tellAt vs X j).map (Value.int .i64))) (fun _ i _ => X.length - (intOf i).toNat)
      case atStart => exact ⟨0, by omega, rfl, (Ext.refl' wo).alloc (Nat.le_refl _) _, World.ownsRow_made wo #[] 0 (Nat.le_refl _) (by decide) rfl⟩
      case round =>
        obtain ⟨j, hj, rfl, hE2, ho⟩ := hrel
        obtain ⟨oa, ob, oc, rfl, -⟩ := own_parts ho
        have q2 := hE2.size
        have hle := tellAt_le vs X j
        by_cases hjl : j < X.length
        · obtain rfl := hya (by omega)
          have cj := hE2.cell (HYC.out j hjl)
          have HT := Lib.hid (tellAt_succ (vs := vs) hjl)
          generalize X[j] = z at cj HT
          go_wp2_with fail
          refine (indexI_any vs _ z _ ((hvs.ext hE).ext hE2)).mono ?_
          rintro e w3 ⟨rfl, hE3⟩
          have hE4 := hE2.tr hE3
          have q3 := hE4.size
          have ho3 := own_ext ho hE3
          generalize idx (fun a => decide (a = z)) vs = I at HT ⊢
          go_wp2_with (at_builtin; refine wpList_append_own _ rfl _ _ 37 rfl wo.heap.size 2 i0 (.int .i64 0) 1 8 Tryz.underlying37 hi hz0 hz1 hz2 rfl (by decide) _ _ _ rfl (own_ext ho3 ((Ext.refl' w3).alloc (Nat.le_refl _) _)) ⟨w3.heap.size, 0, none⟩ 1 1 [.int .i64 I] rfl rfl (cells_one (by simp [go_sem])) (by simp [Value.oneCell']) (by unfold maxLen; omega) (by omega) (by simp; omega) ?_)
          intro v' w5 ho5 hg5 _
          have hAA : Ext w3 (w3.alloc (.cells #[.int .i64 I] 2)) := (Ext.refl' w3).alloc (Nat.le_refl _) _
          have hE5 : Ext wo w5 := (hE4.tr hAA).grown hg5 (by simp; omega) (fun h hh => (ho3.lt h hh).1)
          have ho6 : w5.ownsRow wo.heap.size 2 1 v' (tellAt vs X (j + 1)).length ((tellAt vs X (j + 1)).map (Value.int .i64)) := by rw [HT.out, List.map_append, List.length_append]; exact ho5
          clear ho ho3 hg5 hAA ho5
          go_wp2_with fail
          go_roundw
          case rel => exact ⟨j + 1, by omega, by go_num, hE5, ho6⟩
          case measure => simp [intOf]; omega
        · have HTe := Lib.hid (tellAt_all (vs := vs) (x := X) (j := j) (by omega))
          have hxO : OI wr (.slice oa (tellAt vs X j).length oc) (tellAt vs X j) _ := ⟨own_base ho (fun _ _ => Nat.zero_le _), rfl⟩
          have hfx : ∀ g ∈ (Value.slice oa (tellAt vs X j).length oc).ownBlock.toList, wo.heap.size ≤ g := fun g hg => (ho.lt g (by simpa using hg)).1
          replace HY : Hid (hasI (tellAt vs X j) (-1) = false → restrAt vs r.2 (k + 1) = restrAt vs r.2 k ++ [tellAt vs X j]) := Lib.hid (by rw [HTe.out]; exact HY.out)
          replace HN : Hid (hasI (tellAt vs X j) (-1) = true → restrAt vs r.2 (k + 1) = restrAt vs r.2 k) := Lib.hid (by rw [HTe.out]; exact HN.out)
          generalize tellAt vs X j = Z at ho hxO hfx HY HN hle
          clear HTe
          replace hA := hA.ext hE2
          go_wp2_with fail
          refine (containsI_any Z _ (-1) _ hxO.rd).mono ?_
          rintro e w3 ⟨rfl, hE3⟩
          replace hA := hA.ext hE3
          replace hxO := hxO.ext hE3
          cases hb : hasI Z (-1) with
          | true =>
            have HN2 := Lib.hid (HN.out hb)
            clear hb ho
            go_wp2_with fail
            go_roundw
            case rel => exact ⟨k + 1, _, fp, by omega, by go_num, by rw [HN2.out]; exact hA⟩
            case measure => simp [intOf]; omega
          | false =>
            have HY2 := Lib.hid (HY.out hb)
            clear hb ho
            have a0 := hA.c0
            have a1 := hA.c1
            have hA7 : Ext w3 (w3.alloc (.cells #[.slice oa Z.length oc] 37)) := (Ext.refl' w3).alloc (Nat.le_refl _) _
            have hle2 := restrAt_le vs r.2 k
            have HLA := Lib.hid (show (restrAt vs r.2 k).length ≤ 1048576 by omega)
            clear hle2
            have b1 := hA7.cell a1
            go_wp2_with (at_builtin; (refine Acc.append (hA.ext hA7) (hxO.ext hA7) (fun g hg => Nat.le_trans hBo (hfx g hg)) (fun g hg hm => by have := hfx g hg; have := hfpw g hm; omega) HLA.out (b' := w3.heap.size) (u := .slice oa Z.length oc) (by simp [go_sem]) rfl (.tmp 39) (.tmp 41) rfl rfl rfl ?_))
            intro v' w4 fp' k3 k4 hA4 _ xa' xc' hxe
            subst hxe
            rw [← HY2.out] at hA4
            have b0 := hA4.c0
            clear hA hxO hA7 hE3
            go_wp2_with fail
            go_roundw
            case rel => exact ⟨k + 1, _, fp', by omega, by go_num, hA4⟩
            case measure => simp [intOf]; omega
    · have hTe : restrAt vs r.2 k = restrL vs r.2 := restrAt_all (by omega)
      have hA2 : Acc w wo (w.heap.size + 1) (w.heap.size + 1 + 1) (w.heap.size + 1 + 1 + 1) r.1 (restrL vs r.2) (.slice xa (restrAt vs r.2 k).length xc) fp := hTe ▸ hA
      have hdone := hA2.done
      have c0 := hA2.c0
      have c1 := hA2.c1
      have d0 := hA2.d0
      have d1 := hA2.d1
      have f2 := hA2.f2
      have f3 := hA2.f3
      clear hTe hA
      go_wp2_with fail
      obtain ⟨g1, g2, g3⟩ := hdone (.int .i64 r.1) (.slice xa (restrAt vs r.2 k).length xc)
      exact bodyPost_ret (v := .agg #[.int .i64 r.1, .slice xa (restrAt vs r.2 k).length xc]) (by simp [results, Tryz.results80, go_sem, d0, d1]) rfl ⟨_, fp, rfl, g1, by rw [HR.out]; exact g2, g3⟩
end Go.Proofs.YtajkepdfemdagaaGreatDoor
