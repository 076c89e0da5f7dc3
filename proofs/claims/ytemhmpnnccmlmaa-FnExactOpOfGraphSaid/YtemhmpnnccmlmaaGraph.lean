
/- GraphOfOp: the program's and the reference's give one function's answers. -/
import Derived.Test.YtemhmpnnccmlmaaPair
import Derived.Test.YtemhmpnnccmlmaaOpAt
import Derived.Test.YtemhmpnnccmlmaaDep
namespace Go.Proofs.Ytemhmpnnccmlmaa
open Go.RowKit
set_option linter.unusedVariables false

def graphP (s : Int) (f : Int × List Int) (t : List Int) : Bool := decide (apply s f (t.take f.1.toNat) = t.getD f.1.toNat 0)
def SGraphOfOp (s : Int) (f : Int × List Int) : (Int × List (List Int)) × Int := if SValidOp s f then (SrelOf s (f.1 + 1) (graphP s f), 0) else (noRel, 1)
theorem graph_1 {s : Int} {f : Int × List Int} (h : SValidOp s f = false) : SGraphOfOp s f = (noRel, 1) := by unfold SGraphOfOp; rw [h]; rfl
theorem graph_0 {s : Int} {f : Int × List Int} (h : SValidOp s f = true) : SGraphOfOp s f = (SrelOf s (f.1 + 1) (graphP s f), 0) := by unfold SGraphOfOp; rw [h]; rfl
/-- the graph's tuples up to a number -/
def graphUp (s : Int) (f : Int × List Int) (k : Nat) : List (List Int) := (List.range k).map fun n : Nat => digs s f.1.toNat n ++ [f.2.getD n 0]
theorem graphUp_length (s : Int) (f : Int × List Int) (k : Nat) : (graphUp s f k).length = k := by simp [graphUp]
theorem graphUp_succ {s : Int} {f : Int × List Int} {k : Nat} (hk : k < f.2.length) : graphUp s f (k + 1) = graphUp s f k ++ [digs s f.1.toNat k ++ [f.2[k]]] := by
  simp [graphUp, List.range_succ, List.getElem?_eq_getElem hk]
theorem graph_len {s : Int} {f : Int × List Int} (h : SValidOp s f = true) : f.2.length = count s f.1 := by
  obtain ⟨h1, h2, h3, -⟩ := valid_iff.1 h
  have := count_eq s f.1 h1.1 h1.2 h2.1 (by omega)
  omega
theorem graph_eq {s : Int} {f : Int × List Int} (h : SValidOp s f = true) : (f.1 + 1, graphUp s f f.2.length) = SrelOf s (f.1 + 1) (graphP s f) := by
  obtain ⟨h1, h2, h3, h4⟩ := valid_iff.1 h
  have hl := graph_len h
  have hdl : ∀ k : Int, (digs s f.1.toNat k).length = f.1.toNat := fun k => digs_length s f.1.toNat k
  refine srel_of h1.1 h1.2 (by omega) (by omega) ?_ fun t => ?_
  · have hS := allD_srt h1.1 h1.2 h2.1 (by omega) (fun _ => true) (m := f.1)
    unfold Srt allD at hS
    rw [List.filter_eq_self.2 (by simp), List.pairwise_map] at hS
    unfold Srt graphUp
    rw [List.pairwise_map, hl]
    refine List.Pairwise.imp (fun {i j} hij => ?_) hS
    rw [cmpL_append _ _ _ _ (by rw [hdl, hdl]), if_neg (by omega)]
    exact hij
  · unfold graphUp graphP
    rw [List.mem_map, decide_eq_true_eq]
    constructor
    · rintro ⟨n, hn, rfl⟩
      have hn := List.mem_range.1 hn
      have ht : (digs s f.1.toNat n ++ [f.2.getD n 0]).take f.1.toNat = digs s f.1.toNat n := List.take_left' (hdl n)
      have hg : f.2.getD n 0 = f.2[n] := by rw [List.getD_eq_getElem?_getD, List.getElem?_eq_getElem hn]; rfl
      refine ⟨vals_append (vals_iff.2 ⟨by rw [hdl]; omega, fun a ha => digs_val s h1.1 _ n (by omega) a ha⟩) (vals_iff.2 ⟨rfl, fun a ha => ?_⟩), ?_⟩
      · rw [List.mem_singleton] at ha
        rw [ha, hg]
        exact h4 _ (List.getElem_mem hn)
      · rw [ht, apply_digs h hn, hg, List.getD_eq_getElem?_getD, List.getElem?_append_right (by rw [hdl]; exact Nat.le_refl _), hdl, Nat.sub_self]
        rfl
    · rintro ⟨hv, hg⟩
      obtain ⟨v1, v2⟩ := vals_iff.1 hv
      have hv' : vals s (t.take f.1.toNat) f.1 = true := vals_iff.2 ⟨by rw [List.length_take]; omega, fun a ha => v2 a (List.mem_of_mem_take ha)⟩
      have hc := code_ltc h1.1 h1.2 h2.1 (by omega) hv'
      refine ⟨(code s (t.take f.1.toNat)).toNat, List.mem_range.2 (by omega), ?_⟩
      have hcc : (((code s (t.take f.1.toNat)).toNat : Nat) : Int) = code s (t.take f.1.toNat) := by omega
      rw [hcc, digs_of_code' h1.1 hv']
      unfold apply at hg
      rw [hg]
      have hlt : f.1.toNat < t.length := by omega
      rw [List.getD_eq_getElem?_getD, List.getElem?_eq_getElem hlt, Option.getD_some, ← List.take_succ_eq_append_getElem hlt, List.take_of_length_le (by omega)]

set_option maxHeartbeats 1000000 in
set_option maxRecDepth 100000 in
theorem implGraphOfOp_any (s : Int) (f : Int × List Int) (v : Value) (w : World) (hr : RdOp w v f) (_ : -9223372036854775808 ≤ s) (_ : s ≤ 9223372036854775807) (hz : szOp f ≤ 1048576) :
    Calls Try.prog 26 #[.int .i64 s, v] w (RelRes (SGraphOfOp s f) w) := by
  have hmf : ∀ (fn : Fn) (first cap : Array Value) (w : World), (Instr.makeFunc fn first cap).run Try.prog w = .ok (.func fn first cap) w := fun _ _ _ _ => rfl
  obtain ⟨tv, rfl, hr'⟩ := hr
  obtain ⟨ta, tc, rfl⟩ := hr'.form
  have hr : RdOp w _ f := ⟨_, rfl, hr'⟩
  have hE1 : Ext w (((w.alloc (.cells #[.int .i64 s] 2)).alloc (.cells #[.int .i64 f.1, .slice ta f.2.length tc] 41)).alloc (.cells #[.int .i64 0, .slice none 0 0] 27)) := (((Ext.refl' w).alloc (Nat.le_refl _) _).alloc (by simp) _).alloc (by simp; omega) _
  cases h1 : SValidOp s f with
  | false =>
    rw [graph_1 h1]
    go_enter Try.func26, Try.ntmps26
    go_wp2_with fail
    refine (implValidOp_ok s f _ _ (hr.ext hE1)).mono ?_
    rintro e w1 ⟨rfl, hE⟩
    rw [h1]
    have b0 := hE.cell (p := ⟨w.heap.size, 0, none⟩) (v := .int .i64 s) (by simp [go_sem])
    have c0 := hE.cell (p := ⟨w.heap.size + 1, 0, none⟩) (v := .int .i64 f.1) (by simp [go_sem])
    have c1 := hE.cell (p := ⟨w.heap.size + 1, 1, none⟩) (v := .slice ta f.2.length tc) (by simp [go_sem])
    have d0 := hE.cell (p := ⟨w.heap.size + 1 + 1, 0, none⟩) (v := .int .i64 0) (by simp [go_sem])
    have d1 := hE.cell (p := ⟨w.heap.size + 1 + 1, 1, none⟩) (v := .slice none 0 0) (by simp [go_sem])
    have f2 := hE.frozen (p := ⟨w.heap.size + 1 + 1, 0, none⟩) (by simp)
    have f3 := hE.frozen (p := ⟨w.heap.size + 1 + 1, 1, none⟩) (by simp)
    simp [go_sem] at f2 f3
    replace hE := hE1.tr hE
    go_wp2_with fail
    exact bodyPost_ret (v := .tuple #[.agg #[.int .i64 0, .slice none 0 0], .int .i64 1]) (by simp [results, Try.results26, go_sem, d0, d1]) rfl (RelRes.no ((hE.setCell (by simp <;> omega) _).setCell (by simp <;> omega) _))
  | true =>
    rw [graph_0 h1]
    obtain ⟨⟨hs1, hs2⟩, ⟨hm1, hm2⟩, -, -⟩ := valid_iff.1 h1
    have hmk := mkRel_SrelOf (s := s) (m := f.1 + 1) (p := graphP s f) hs1 hs2 (by omega) (by omega)
    go_enter Try.func26, Try.ntmps26
    go_wp2_with fail
    refine (implValidOp_ok s f _ _ (hr.ext hE1)).mono ?_
    rintro e w1 ⟨rfl, hE⟩
    rw [h1]
    have b0 := hE.cell (p := ⟨w.heap.size, 0, none⟩) (v := .int .i64 s) (by simp [go_sem])
    have c0 := hE.cell (p := ⟨w.heap.size + 1, 0, none⟩) (v := .int .i64 f.1) (by simp [go_sem])
    have c1 := hE.cell (p := ⟨w.heap.size + 1, 1, none⟩) (v := .slice ta f.2.length tc) (by simp [go_sem])
    have d0 := hE.cell (p := ⟨w.heap.size + 1 + 1, 0, none⟩) (v := .int .i64 0) (by simp [go_sem])
    have d1 := hE.cell (p := ⟨w.heap.size + 1 + 1, 1, none⟩) (v := .slice none 0 0) (by simp [go_sem])
    have f2 := hE.frozen (p := ⟨w.heap.size + 1 + 1, 0, none⟩) (by simp)
    have f3 := hE.frozen (p := ⟨w.heap.size + 1 + 1, 1, none⟩) (by simp)
    simp [go_sem] at f2 f3
    replace hE := hE1.tr hE
    have H1 := Lib.hid h1
    clear h1
    go_wp2_with fail
    refine (relOf_any s (f.1 + 1) (graphP s f) 71 #[] _ _ hs1 hs2 (by omega) (by omega) Try.call71 ?_).mono ?_
    · intro k u w' _ hEc hx
      have b0 := hEc.cell b0
      have c0 := hEc.cell c0
      have c1 := hEc.cell c1
      obtain ⟨n, hn⟩ := Int.eq_ofNat_of_zero_le (show 0 ≤ f.1 by omega)
      have hl := digs_length s (f.1 + 1).toNat k
      have hdv := digs_val s hs1 (f.1 + 1).toNat k (by omega)
      generalize digs s (f.1 + 1).toNat k = l at hx hl hdv ⊢
      obtain ⟨a, b, off, c, rfl, hlc, hcm, ha, hc⟩ := hx
      obtain rfl := ha (by omega)
      have hrt := RdI.take hc hlc hcm n (by omega)
      have hnl : n < l.length ∧ n ≤ c := by omega
      obtain ⟨hnl1, hnl3⟩ := hnl
      have hcn := hc n hnl1
      have HP := Lib.hid (show graphP s f l = decide (apply s f (l.take n) = l[n]) from by unfold graphP; rw [hn, Int.toNat_natCast, List.getD_eq_getElem?_getD, List.getElem?_eq_getElem hnl1]; rfl)
      have HTL := Lib.hid (show ((l.take n).length : Int) = f.1 from by rw [List.length_take]; omega)
      have HTV := Lib.hid (show ∀ a ∈ l.take n, 0 ≤ a ∧ a < s from fun a ha => by have := hdv a (List.mem_of_mem_take ha); omega)
      have hNr : RdOp w' (.agg #[.int .i64 (n : Nat), .slice ta f.2.length tc]) f := hn ▸ (hr.ext hE).ext hEc
      rw [hn] at c0
      have hneg : ¬ ((n : Int) < 0) := by omega
      clear hc hl hn hdv
      simp only [List.append_toArray, List.nil_append, List.cons_append]
      go_enter Try.func71, Try.ntmps71
      go_wp2_with fail
      refine region_sp [] [13] [SP.val (.agg #[.int .i64 (n : Nat), .slice ta f.2.length tc]), SP.val (.int .i64 s), SP.val (.slice (some ⟨b, off, none⟩) l.length c), SP.val (.pointer (some ⟨(w.heap.size + 1), 0, none⟩)), SP.val (.int .i64 (n : Nat)), SP.val (.slice (some ⟨b, off, none⟩) n c), SP.val (.int .i64 (apply s f (l.take n))), SP.val (.slice (some ⟨b, off, none⟩) l.length c), SP.val (.pointer (some ⟨(w.heap.size + 1), 0, none⟩)), SP.val (.int .i64 (n : Nat)), SP.val (.pointer (some ⟨b, off + n, none⟩)), SP.val (.int .i64 l[n]), SP.val (.bool (apply s f (l.take n) == l[n])), SP.any] (by kernel_rfl) (fun _ d _ _ _ h => by cases d <;> exact h) (by kernel_rfl) (by kernel_rfl)
        (.cons (fun vs y hY => Step.load ⟨(w.heap.size + 1), 0, none⟩ rfl rfl rfl (by simp [go_sem, hY.cell c0, hY.cell c1]) rfl) <|
         .cons (fun vs y hY => Step.load ⟨w.heap.size, 0, none⟩ rfl rfl rfl (by simp [go_sem, hY.cell b0]) rfl) <|
         .cons (fun vs y hY => Step.move rfl rfl rfl rfl) <|
         .cons (fun vs y hY => Step.fieldAddr ⟨(w.heap.size + 1), 0, none⟩ rfl rfl rfl (by simp [go_sem]) rfl) <|
         .cons (fun vs y hY g3_0 => Step.load ⟨(w.heap.size + 1), 0, none⟩ rfl rfl g3_0 (by simp [go_sem, hY.cell c0]) rfl) <|
         .cons (fun vs y hY g2_0 g4_1 => Step.slice rfl rfl g2_0 rfl (congrArg some g4_1) rfl (by simp [go_sem, Instr.sliceAt, hnl3]) rfl) <|
         .cons (fun vs y hY g0_0 g1_1 g5_2 => Step.call Try.call72 rfl rfl [vs 0, vs 1, vs 5] rfl rfl (by rw [show vs 0 = _ from g0_0, show vs 1 = _ from g1_1, show vs 5 = _ from g5_2]; exact (Calls.spe (opAt_any s f _ _ _ _ (hNr.ext hY) (hrt.ext hY) H1.out HTL.out HTV.out)))) <|
         .cons (fun vs y hY => Step.move rfl rfl rfl rfl) <|
         .cons (fun vs y hY => Step.fieldAddr ⟨(w.heap.size + 1), 0, none⟩ rfl rfl rfl (by simp [go_sem]) rfl) <|
         .cons (fun vs y hY g8_0 => Step.load ⟨(w.heap.size + 1), 0, none⟩ rfl rfl g8_0 (by simp [go_sem, hY.cell c0]) rfl) <|
         .cons (fun vs y hY g7_0 g9_1 => Step.indexAtP (n := .int .i64 (n : Nat)) ⟨b, off + n, none⟩ rfl rfl g7_0 g9_1 (by simp [go_sem, Instr.indexAt, Addr.add, hnl1] <;> omega) rfl) <|
         .cons (fun vs y hY g10_0 => Step.load ⟨b, off + n, none⟩ rfl rfl g10_0 (by simp [go_sem, hY.cell hcn]) rfl) <|
         .cons (fun vs y hY g6_0 g11_1 => Step.bin (u := .int .i64 (apply s f (l.take n))) (v := .int .i64 l[n]) rfl rfl g6_0 g11_1 (by simp [go_sem]) rfl) <|
         .skip rfl <|
         .nil) ?_
      intro vs w3 hC hL
      have r0 : vs 0 = _ := hL 0 (by decide) rfl
      have r1 : vs 1 = _ := hL 1 (by decide) rfl
      have r2 : vs 2 = _ := hL 2 (by decide) rfl
      have r3 : vs 3 = _ := hL 3 (by decide) rfl
      have r4 : vs 4 = _ := hL 4 (by decide) rfl
      have r5 : vs 5 = _ := hL 5 (by decide) rfl
      have r6 : vs 6 = _ := hL 6 (by decide) rfl
      have r7 : vs 7 = _ := hL 7 (by decide) rfl
      have r8 : vs 8 = _ := hL 8 (by decide) rfl
      have r9 : vs 9 = _ := hL 9 (by decide) rfl
      have r10 : vs 10 = _ := hL 10 (by decide) rfl
      have r11 : vs 11 = _ := hL 11 (by decide) rfl
      have r12 : vs 12 = _ := hL 12 (by decide) rfl
      clear hL
      simp only [putAll, Act.put, List.contains_cons, List.contains_nil, Nat.reduceBEq, Nat.reduceAdd, Bool.or_false, cond_true, cond_false, List.setIfInBounds_toArray, List.set_cons_succ, List.set_cons_zero, List.filterMap_cons, List.filterMap_nil, List.getElem?_cons_succ, List.getElem?_cons_zero, r0, r1, r2, r3, r4, r5, r6, r7, r8, r9, r10, r11, r12]
      clear r0 r1 r2 r3 r4 r5 r6 r7 r8 r9 r10 r11 r12
      go_wp2_with fail
      go_ret
      exact ⟨ret_bool (by rw [HP.out]; rfl), hC⟩
    rintro e w3 ⟨u, fp, rfl, hE3, hr3, hfr⟩
    have q0 := lt_of_cell d0
    obtain ⟨ua, uc, rfl⟩ := hr3.form
    replace f2 : _ = false := (hE3.frozen (lt_of_cell d0)).trans f2
    replace f3 : _ = false := (hE3.frozen (lt_of_cell d1)).trans f3
    replace d0 := hE3.cell d0
    replace d1 := hE3.cell d1
    go_wp2_with fail
    exact bodyPost_ret (v := .tuple #[.agg #[.int .i64 (SrelOf s (f.1 + 1) (graphP s f)).1, .slice ua (SrelOf s (f.1 + 1) (graphP s f)).2.length uc], .int .i64 0]) (by simp [results, Try.results26, go_sem, d0, d1]; try rfl) rfl
      (RelRes.of rfl (((hE.tr hE3).setCell (by simp <;> omega) _).setCell (by simp <;> omega) _) (hr3.off ((Off.set (fp := [w.heap.size + 1 + 1]) (by simp)).trans (Off.set (by simp))) (fun h hh hm => by have := hfr h hh; simp at hm; (try dsimp only at q0); omega)) (fun h hh => by have := hfr h hh; have := hE.size; omega) hmk)
set_option maxHeartbeats 2000000 in
set_option maxRecDepth 100000 in
theorem specGraphOfOp_any (s : Int) (f : Int × List Int) (v : Value) (w : World) (hr : RdOp w v f) (_ : -9223372036854775808 ≤ s) (_ : s ≤ 9223372036854775807) (hz : szOp f ≤ 1048576) :
    Calls Try.prog 24 #[.int .i64 s, v] w (RelRes (SGraphOfOp s f) w) := by
  obtain ⟨tv, rfl, hr'⟩ := hr
  obtain ⟨ta, tc, rfl⟩ := hr'.form
  have hE1 : Ext w ((w.alloc (.cells #[.int .i64 f.1, .slice ta f.2.length tc] 41)).alloc (.cells #[.int .i64 0, .slice none 0 0] 27)) := ((Ext.refl' w).alloc (Nat.le_refl _) _).alloc (by simp) _
  have hp : PtOp ((w.alloc (.cells #[.int .i64 f.1, .slice ta f.2.length tc] 41)).alloc (.cells #[.int .i64 0, .slice none 0 0] 27)) (.pointer (some ⟨w.heap.size, 0, none⟩)) f := ⟨_, _, _, rfl, by simp [go_sem], by simp [go_sem], hr'.ext hE1⟩
  cases h1 : SValidOp s f with
  | false =>
    rw [graph_1 h1]
    go_enter Try.func24, Try.ntmps24
    go_wp2_with fail
    refine (l02Ok_any s f _ _ hp).mono ?_
    rintro e w1 ⟨rfl, hQ⟩
    rw [h1]
    have hE := hQ.ext
    have d0 := hE.cell (p := ⟨w.heap.size + 1, 0, none⟩) (v := .int .i64 0) (by simp [go_sem])
    have d1 := hE.cell (p := ⟨w.heap.size + 1, 1, none⟩) (v := .slice none 0 0) (by simp [go_sem])
    have f2 := hE.frozen (p := ⟨w.heap.size + 1, 0, none⟩) (by simp)
    have f3 := hE.frozen (p := ⟨w.heap.size + 1, 1, none⟩) (by simp)
    simp [go_sem] at f2 f3
    have c0 := hE.cell (p := ⟨w.heap.size, 0, none⟩) (v := .int .i64 f.1) (by simp [go_sem])
    have c1 := hE.cell (p := ⟨w.heap.size, 1, none⟩) (v := .slice ta f.2.length tc) (by simp [go_sem])
    replace hE := hE1.tr hE
    go_wp2_with fail
    exact bodyPost_ret (v := .tuple #[.agg #[.int .i64 0, .slice none 0 0], .int .i64 1]) (by simp [results, Try.results24, go_sem, d0, d1]) rfl (RelRes.no ((hE.setCell (by simp <;> omega) _).setCell (by simp <;> omega) _))
  | true =>
    obtain ⟨⟨hs1, hs2⟩, ⟨hm1, hm2⟩, -, -⟩ := valid_iff.1 h1
    have hmk := mkRel_SrelOf (s := s) (m := f.1 + 1) (p := graphP s f) hs1 hs2 (by omega) (by omega)
    rw [graph_0 h1, ← graph_eq h1]
    rw [← graph_eq h1] at hmk
    have hlen : f.2.length ≤ 256 := by have := graph_len h1; have := count_eq s f.1 hs1 hs2 hm1 (by omega); have := powW_small s f.1 hs1 hs2 hm1 (by omega); omega
    go_enter Try.func24, Try.ntmps24
    go_wp2_with fail
    refine (l02Ok_any s f _ _ hp).mono ?_
    rintro e w1 ⟨rfl, hQ⟩
    rw [h1]
    have hE := hQ.ext
    have d0 := hE.cell (p := ⟨w.heap.size + 1, 0, none⟩) (v := .int .i64 0) (by simp [go_sem])
    have d1 := hE.cell (p := ⟨w.heap.size + 1, 1, none⟩) (v := .slice none 0 0) (by simp [go_sem])
    have f2 := hE.frozen (p := ⟨w.heap.size + 1, 0, none⟩) (by simp)
    have f3 := hE.frozen (p := ⟨w.heap.size + 1, 1, none⟩) (by simp)
    simp [go_sem] at f2 f3
    have c0 := hE.cell (p := ⟨w.heap.size, 0, none⟩) (v := .int .i64 f.1) (by simp [go_sem])
    have c1 := hE.cell (p := ⟨w.heap.size, 1, none⟩) (v := .slice ta f.2.length tc) (by simp [go_sem])
    replace hE := hE1.tr hE
    clear h1
    obtain ⟨a, b, off, cap, hsl, hlc, hcm, ha, hc⟩ := hr'
    simp only [Value.slice.injEq] at hsl
    obtain ⟨rfl, -, rfl⟩ := hsl
    have hq1 := lt_of_cell d0
    have hA1 : Ext w1 (w1.alloc (.cells #[.int .i64 (f.1 + 1), .slice none 0 0] 27)) := (Ext.refl' w1).alloc (Nat.le_refl _) _
    have HC := Lib.hid hc
    clear hc
    go_wp2_with fail
    go_loopw [7] (fun i wr => ∃ (k : Nat) (tv : Value) (fp : List Nat), k ≤ f.2.length ∧ i = .int .i64 k ∧ Acc w wr (w.heap.size + 1) w1.heap.size (w1.heap.size + 1) (f.1 + 1) (graphUp s f k) tv fp ∧ wr.cell? ⟨w.heap.size, 0, none⟩ = some (.int .i64 f.1) ∧ wr.cell? ⟨w.heap.size, 1, none⟩ = some (.slice ta f.2.length tc))
      (fun i _ => f.2.length - (intOf i).toNat)
    case atStart =>
      exact ⟨0, .slice none 0 0, [], by omega, rfl, ⟨hE.tr hA1, OII_nil _, by simp, by simp, by omega, hq1, by omega, by simp [go_sem], by simp [go_sem], by simp [go_sem], hA1.cell d0, hA1.cell d1, (hA1.frozen (lt_of_cell d0)).trans f2, (hA1.frozen (lt_of_cell d1)).trans f3⟩, hA1.cell c0, hA1.cell c1⟩
    case round =>
      obtain ⟨k, tv, fp, hk, rfl, hA, c0, c1⟩ := hrel
      have hE := hA.hE
      obtain ⟨va, vc, rfl⟩ := hA.ho.form
      by_cases hkl : k < f.2.length
      · obtain rfl := ha (by omega)
        have hck := hE.cell (HC.out k hkl)
        have HLU := Lib.hid (graphUp_length s f k)
        have hdl : 0 < (digs s f.1.toNat k).length ∧ (digs s f.1.toNat k).length ≤ 4 := by rw [digs_length]; omega
        have HD := Lib.hid (graphUp_succ (s := s) hkl)
        have a0 := hA.c0
        have a1 := hA.c1
        obtain ⟨hd1, hd2⟩ := hdl
        go_wp2_with fail
        go_wp2_with fail
        refine region_spC [] [15, 16, 17] [SP.val (.pointer (some ⟨w1.heap.size, 1, none⟩)), SP.val (.slice va (graphUp s f k).length vc), SP.val (.int .i64 s), SP.val (.pointer (some ⟨w.heap.size, 0, none⟩)), SP.val (.int .i64 f.1), SP.val (.int .i64 (k : Nat)), SP.ownIb wr.heap.size (digs s f.1.toNat k), SP.val (.pointer (some ⟨w.heap.size, 1, none⟩)), SP.val (.slice (some ⟨b, off, none⟩) f.2.length tc), SP.val (.int .i64 (k : Nat)), SP.val (.pointer (some ⟨b, off + k, none⟩)), SP.val (.int .i64 f.2[k]), SP.row1 (.int .i64 f.2[k]), SP.ownIb wr.heap.size ((digs s f.1.toNat k) ++ [f.2[k]]), SP.rowIb wr.heap.size ((digs s f.1.toNat k) ++ [f.2[k]]), SP.any, SP.any, SP.any] (by kernel_rfl) (fun _ d _ _ _ h => by cases d <;> exact h) (by kernel_rfl) (by kernel_rfl)
          (.cons (fun vs y hY => Step.fieldAddr ⟨w1.heap.size, 0, none⟩ rfl rfl rfl (by simp [go_sem]) rfl) <|
           .cons (fun vs y hY g0_0 => Step.load ⟨w1.heap.size, 1, none⟩ rfl rfl g0_0 (by simp [go_sem, hY.cell a1]) rfl) <|
           .cons (fun vs y hY => Step.move rfl rfl rfl rfl) <|
           .cons (fun vs y hY => Step.fieldAddr ⟨w.heap.size, 0, none⟩ rfl rfl rfl (by simp [go_sem]) rfl) <|
           .cons (fun vs y hY g3_0 => Step.load ⟨w.heap.size, 0, none⟩ rfl rfl g3_0 (by simp [go_sem, hY.cell c0]) rfl) <|
           .cons (fun vs y hY => Step.move rfl rfl rfl rfl) <|
           .cons (fun vs y hY g2_0 g4_1 g5_2 => Step.call Try.call69 rfl rfl [vs 2, vs 4, vs 5] rfl rfl (by rw [show vs 2 = _ from g2_0, show vs 4 = _ from g4_1, show vs 5 = _ from g5_2]; exact ((l01Digits_any _ _ _ _ (by omega) (by omega) hs1 (by omega) (by omega) (by omega)).mono fun _ _ ⟨u, fp, he, hE, ho, hg⟩ => ⟨u, he, hE, fp, ho, fun g h => Nat.le_trans hY.size (hg g h)⟩))) <|
           .cons (fun vs y hY => Step.fieldAddr ⟨w.heap.size, 0, none⟩ rfl rfl rfl (by simp [go_sem]) rfl) <|
           .cons (fun vs y hY g7_0 => Step.load ⟨w.heap.size, 1, none⟩ rfl rfl g7_0 (by simp [go_sem, hY.cell c1]) rfl) <|
           .cons (fun vs y hY => Step.move rfl rfl rfl rfl) <|
           .cons (fun vs y hY g8_0 g9_1 => Step.indexAtP (n := .int .i64 (k : Nat)) ⟨b, off + k, none⟩ rfl rfl g8_0 g9_1 (by simp [go_sem, Instr.indexAt, Addr.add, hkl] <;> omega) rfl) <|
           .cons (fun vs y hY g10_0 => Step.load ⟨b, off + k, none⟩ rfl rfl g10_0 (by simp [go_sem, hY.cell hck]) rfl) <|
           .cons (fun vs y hY g11_0 => Step.buildSlice1 (x := .int .i64 f.2[k]) (e := 2) rfl rfl g11_0 (by simp [go_sem]) row1_new) <|
           .keep ⟨rfl, fun vs y hY g6_0 g12_1 g6_2 => GivesR.appendK (l := (digs s f.1.toNat k)) (m := [f.2[k]]) (xv := vs 6) (yv := vs 12) hY rfl (by exact rfl) g6_0 (by exact rfl) (rdI_of_row1 g12_1) (by simp) (by simp; omega) (fun v' w' k1 k2 k3 k4 => ⟨k1, k2, by intro j o' u hj hd hne hR; have hlt := (List.getElem?_eq_some_iff.1 hj).1; simp only [List.length_cons, List.length_nil] at hlt; rcases (show j = 0 ∨ j = 1 ∨ j = 2 ∨ j = 3 ∨ j = 4 ∨ j = 5 ∨ j = 6 ∨ j = 7 ∨ j = 8 ∨ j = 9 ∨ j = 10 ∨ j = 11 ∨ j = 12 ∨ j = 13 ∨ j = 14 ∨ j = 15 ∨ j = 16 ∨ j = 17 by omega) with rfl | rfl | rfl | rfl | rfl | rfl | rfl | rfl | rfl | rfl | rfl | rfl | rfl | rfl | rfl | rfl | rfl | rfl <;> first | exact hR | exact k3 u hR | exact k4 u _ hd1 hR | exact absurd rfl hne | (obtain rfl := Option.some.inj hj; exact absurd hd (by decide))⟩)⟩ <|
           .cons (fun vs y hY g13_0 => Step.rowIb (e := 25) rfl rfl g13_0 (by simp [go_sem])) <|
           .skip rfl <|
           .skip rfl <|
           .skip rfl <|
           .nil) ?_
        intro vs w3 hC hL
        have r0 : vs 0 = _ := hL 0 (by decide) rfl
        have r1 : vs 1 = _ := hL 1 (by decide) rfl
        have r2 : vs 2 = _ := hL 2 (by decide) rfl
        have r3 : vs 3 = _ := hL 3 (by decide) rfl
        have r4 : vs 4 = _ := hL 4 (by decide) rfl
        have r5 : vs 5 = _ := hL 5 (by decide) rfl
        have r6 := hL 6 (by decide) rfl
        have r7 : vs 7 = _ := hL 7 (by decide) rfl
        have r8 : vs 8 = _ := hL 8 (by decide) rfl
        have r9 : vs 9 = _ := hL 9 (by decide) rfl
        have r10 : vs 10 = _ := hL 10 (by decide) rfl
        have r11 : vs 11 = _ := hL 11 (by decide) rfl
        have r12 := hL 12 (by decide) rfl
        have r13 := hL 13 (by decide) rfl
        have r14 := hL 14 (by decide) rfl
        clear hL
        simp only [putAll, Act.put, List.contains_cons, List.contains_nil, Nat.reduceBEq, Nat.reduceAdd, Bool.or_false, Bool.or_true, cond_true, cond_false, List.setIfInBounds_toArray, List.set_cons_succ, List.set_cons_zero, List.filterMap_cons, List.filterMap_nil, List.getElem?_cons_succ, List.getElem?_cons_zero, r0, r1, r2, r3, r4, r5, r7, r8, r9, r10, r11]
        clear r0 r1 r2 r3 r4 r5 r7 r8 r9 r10 r11
        obtain ⟨b', u, fx, rb, cb, hx, hfx⟩ := r14
        rw [rb]
        have q5 := hA.hB
        have hd : ∀ g ∈ fx, g ∉ fp := fun g hg hm => by have := hfx g hg; have := hA.ho.lt g hm; omega
        replace hA := hA.ext hC
        replace c0 := hC.cell c0
        replace c1 := hC.cell c1
        refine hA.append hx (fun g hg => Nat.le_trans q5 (hfx g hg)) hd (by have := HLU.out; omega) cb rfl (.tmp 24) (.tmp 37) rfl rfl rfl ?_
        intro v' w4 fp' k3 k4 hA' hK ⟨xa, xc, hxe⟩
        subst hxe
        rw [← HD.out] at hA'
        replace c0 := hK.cell c0 (by dsimp only; omega) (by dsimp only; omega)
        replace c1 := hK.cell c1 (by dsimp only; omega) (by dsimp only; omega)
        go_wp2_with fail
        go_roundw
        case rel => exact ⟨k + 1, _, fp', by omega, by go_num, hA', c0, c1⟩
        case measure => simp [intOf]; omega
      · have hkk : k = f.2.length := by omega
        subst hkk
        have hdone := hA.done
        have c0 := hA.c0
        have c1 := hA.c1
        have d0 := hA.d0
        have d1 := hA.d1
        have f2 := hA.f2
        have f3 := hA.f3
        go_wp2_with fail
        obtain ⟨g1, g2, g3⟩ := hdone (.int .i64 (f.1 + 1)) (.slice va (graphUp s f f.2.length).length vc)
        exact bodyPost_ret (v := .tuple #[.agg #[.int .i64 (f.1 + 1), .slice va (graphUp s f f.2.length).length vc], .int .i64 0]) (by simp [results, Try.results24, go_sem, d0, d1]) rfl (RelRes.of rfl g1 g2 g3 hmk)
end Go.Proofs.Ytemhmpnnccmlmaa
