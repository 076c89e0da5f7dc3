/- An owned list of lists, its elements taken in another order, or some of them; slices.SortFunc by slices.Compare. slices.CompactFunc with equality, on an owned list of lists. -/
import Derived.Test.YtajkepdfemdagaaGreatDoorC09
import Derived.Test.YtajkepdfemdagaaGreatDoorC12
import Derived.Test.YtajkepdfemdagaaGreatDoorShelf
import Derived.Sort.OwnSortedInts
import Derived.Lib.SliceRun
namespace Go.Proofs.YtajkepdfemdagaaGreatDoor
open Go.RowKit
set_option linter.unusedVariables false

/-- a row as its block holds it; what takes some of its elements leaves a list of them -/
theorem OII.parts {w : World} {u : Value} {T : List (List Int)} {fp : List Nat} (h : OII w u T fp) (h0 : 0 < T.length) :
    ∃ (g cap : Nat) (cur : Array Value) (vs : Nat → Value), u = .slice (some ⟨g, 0, none⟩) T.length cap ∧ T.length ≤ cap ∧ cap ≤ maxLen ∧ cur.size = cap * 1 ∧ w.heap[g]? = some (.cells cur 37 (0, 0)) ∧ g ∈ fp ∧ (∀ i, i < T.length → cur[i]? = some (vs i)) ∧
      (∀ i, T.length ≤ i → vs i = .slice none 0 0) ∧ (∀ i (hi : i < T.length), ∃ fi, OI w (vs i) T[i] fi ∧ g ∉ fi) ∧
      ∀ (K : List Nat) (w' : World), (∀ i ∈ K, i < T.length) → K.Nodup → Off [g] w w' → w'.ownsRow 0 37 1 (.slice (some ⟨g, 0, none⟩) K.length cap) K.length (K.map vs) →
        ∃ fp', OII w' (.slice (some ⟨g, 0, none⟩) K.length cap) (K.map fun i => T.getD i []) fp' ∧ ∀ q ∈ fp', q ∈ fp := by
  obtain ⟨zs, h1, h2, h3, h4, h5⟩ := h
  have hlen : T.length = zs.length := by rw [h1, List.length_map]
  rcases id h2.2 with ⟨_, hn⟩ | ⟨g, cap, cur, rfl, hbg, hg, hn, hm, hs, ht⟩
  · omega
  · have hgT : ∀ i (hi : i < T.length), T[i] = (zs[i]'(by omega)).2.1 := fun i hi => by
      subst h1
      simp
    have hne : ∀ z ∈ zs, z.1 = [z.1.headD undef] := fun z hz => by
      obtain ⟨u, hu, _⟩ := (h5 z hz).2
      rw [hu]; rfl
    have hfl : zs.flatMap (·.1) = zs.map fun z => z.1.headD undef := by
      clear h1 h2 h3 h4 h5 hn ht hlen hgT hg hs
      induction zs with
      | nil => rfl
      | cons z zs ih =>
        rw [List.flatMap_cons, List.map_cons, hne z (List.mem_cons_self ..), ih fun y hy => hne y (List.mem_cons_of_mem _ hy)]
        rfl
    refine ⟨g, cap, cur, fun i => ((zs[i]?).map fun z => z.1.headD undef).getD (.slice none 0 0), by rw [hlen], by omega, hm, hs, hg, (h3 g).2 (by simp [Value.ownBlock]), ?_, ?_, ?_, ?_⟩
    · intro i hi
      have e := congrArg (·[i]?) ht
      simp only [hfl] at e
      rw [List.getElem?_take_of_lt (by omega), List.getElem?_map, List.getElem?_eq_getElem (by omega : i < zs.length)] at e
      dsimp only
      rw [← Array.getElem?_toList, e, List.getElem?_eq_getElem (by omega : i < zs.length)]
      rfl
    · intro i hi
      dsimp only
      rw [List.getElem?_eq_none (by omega)]
      rfl
    · intro i hi
      have hzi : zs[i]'(by omega) ∈ zs := List.getElem_mem _
      obtain ⟨u, hu, hO⟩ := (h5 _ hzi).2
      dsimp only
      rw [List.getElem?_eq_getElem (by omega : i < zs.length), hgT i hi]
      refine ⟨(zs[i]'(by omega)).2.2, by simpa [hu] using hO, fun hm' => ?_⟩
      have := (List.nodup_append.1 h4).2.2 g (by simp [Value.ownBlock]) g (List.mem_flatMap.2 ⟨_, hzi, hm'⟩)
      exact this rfl
    · intro K w' hK hnd hO hrow
      have hz : ∀ i ∈ K, ∃ h : i < zs.length, True := fun i hi => ⟨by have := hK i hi; omega, trivial⟩
      let pick : Nat → List Value × List Int × List Nat := fun i => (zs[i]?).getD ([], [], [])
      have hpick : ∀ i (hi : i < zs.length), pick i = zs[i] := fun i hi => by show (zs[i]?).getD _ = _; rw [List.getElem?_eq_getElem hi]; rfl
      have hdis : ∀ i j (hi : i < zs.length) (hj : j < zs.length), i < j → ∀ x ∈ zs[i].2.2, x ∉ zs[j].2.2 := by
        intro i j hi hj hij x hx hx'
        have hnf := (List.nodup_append.1 h4).2.1
        rw [List.flatMap_def] at hnf
        have := List.pairwise_iff_getElem.1 (List.pairwise_flatten.1 hnf).2 i j (by simpa using hi) (by simpa using hj) hij
        simp only [List.getElem_map] at this
        exact this x hx x hx' rfl
      refine ⟨[g] ++ K.flatMap fun i => (pick i).2.2, ⟨K.map pick, ?_, ?_, ?_, ?_, ?_⟩, ?_⟩
      · rw [List.map_map]
        refine List.map_congr_left fun i hi => ?_
        have hi' := hK i hi
        show T.getD i [] = (pick i).2.1
        rw [hpick i (by omega), List.getD_eq_getElem?_getD, List.getElem?_eq_getElem hi', ← hgT i hi']
        rfl
      · rw [List.length_map]
        have e : (K.map pick).flatMap (·.1) = K.map fun i => ((zs[i]?).map fun z => z.1.headD undef).getD (.slice none 0 0) := by
          clear hrow hnd hz
          induction K with
          | nil => rfl
          | cons i K ih =>
            have hi' := hK i (List.mem_cons_self ..)
            have hi2 : i < zs.length := by omega
            rw [List.map_cons, List.flatMap_cons, List.map_cons, ih fun j hj => hK j (List.mem_cons_of_mem _ hj), hpick i hi2, List.getElem?_eq_getElem hi2, hne _ (List.getElem_mem hi2)]
            rfl
        rw [e]
        exact hrow
      · intro q
        simp [Value.ownBlock, List.flatMap_map]
      · rw [List.flatMap_map]
        refine List.nodup_append.2 ⟨by simp [Value.ownBlock], ?_, ?_⟩
        · rw [List.flatMap_def]
          refine List.pairwise_flatten.2 ⟨fun l hl => ?_, ?_⟩
          · obtain ⟨i, hi, rfl⟩ := List.mem_map.1 hl
            have hi' := hK i hi
            rw [hpick i (by omega)]
            exact eI_ok.nodup (h5 _ (List.getElem_mem (by omega))).2
          · refine List.pairwise_map.2 (hnd.imp_of_mem fun {i j} hi hj hne' => ?_)
            have hi' := hK i hi
            have hj' := hK j hj
            rw [hpick i (by omega), hpick j (by omega)]
            intro x hx y hy hxy
            subst hxy
            rcases Nat.lt_or_gt_of_ne hne' with h | h
            · exact hdis i j (by omega) (by omega) h x hx hy
            · exact hdis j i (by omega) (by omega) h x hy hx
        · intro a ha b hb hab
          subst hab
          have hag : a = g := by simpa [Value.ownBlock] using ha
          subst hag
          obtain ⟨i, hi, hai⟩ := List.mem_flatMap.1 hb
          have hi' := hK i hi
          rw [hpick i (by omega)] at hai
          exact (List.nodup_append.1 h4).2.2 a (by simp [Value.ownBlock]) a (List.mem_flatMap.2 ⟨_, List.getElem_mem (by omega), hai⟩) rfl
      · intro z hz'
        obtain ⟨i, hi, rfl⟩ := List.mem_map.1 hz'
        have hi' := hK i hi
        have hi2 : i < zs.length := by omega
        rw [hpick i hi2]
        refine ⟨(h5 _ (List.getElem_mem hi2)).1, eI_ok.kept (h5 _ (List.getElem_mem hi2)).2 fun x hx => hO.block x (eI_ok.lt (h5 _ (List.getElem_mem hi2)).2 x hx) fun hxg => ?_⟩
        have hxg : x = g := by simpa using hxg
        subst hxg
        exact (List.nodup_append.1 h4).2.2 x (by simp [Value.ownBlock]) x (List.mem_flatMap.2 ⟨_, List.getElem_mem hi2, hx⟩) rfl
      · intro q hq
        rcases List.mem_append.1 hq with hq | hq
        · exact (h3 q).2 (by simp [Value.ownBlock] at hq ⊢; exact .inl hq)
        · obtain ⟨i, hi, hqi⟩ := List.mem_flatMap.1 hq
          have hi' := hK i hi
          rw [hpick i (by omega)] at hqi
          exact (h3 q).2 (List.mem_append.2 (.inr (List.mem_flatMap.2 ⟨_, List.getElem_mem (by omega), hqi⟩)))

/-! ### slices.SortFunc -/
section
open Go.Sort Go.Shelf Go.Lib
theorem swo_cmpL {α : Type} (lst : α → List Int) : SWO (ltOf fun x y => cmpL (lst x) (lst y)) where
  irrefl x := by simp only [ltOf, decide_eq_false_iff_not]; exact cmpL_irr _
  trans x y z h1 h2 := by
    simp only [ltOf, decide_eq_true_eq] at *
    exact cmpL_trans _ _ _ h1 h2
  ntrans x y z h1 h2 := by
    simp only [ltOf, decide_eq_false_iff_not] at *
    intro h
    by_cases e : lst x = lst y
    · rw [e] at h; exact h2 h
    · by_cases e2 : cmpL (lst x) (lst y) = 0
      · exact e (cmpL_zero _ _ e2)
      · have := cmpL_flip _ _ (show 0 < cmpL (lst x) (lst y) by omega)
        exact h2 (cmpL_trans _ _ _ this h)
theorem grownBy_putRow {α : Type} [Inhabited α] (enc : α → Value) {w : World} {g n : Nat} {os : Array Obj} (d : Array α) : w.grownBy (grow (putRow enc (Sort.ahead w n) g 0 d) os) (some g) := by
  refine ⟨rfl, rfl, rfl, by simp, fun k hk hne => ?_⟩
  rw [heap_grow_old _ _ (by simpa using hk)]
  have : g ≠ k := fun e => hne (by rw [e])
  simp [putRow, mapBlock, Sort.ahead, Array.getElem?_modify, this]
theorem heap_putRow {α : Type} [Inhabited α] (enc : α → Value) {w : World} {g n : Nat} {os : Array Obj} {cur : Array Value} {e : TypeId} {fr : Nat × Nat} (d : Array α) (hb : w.heap[g]? = some (.cells cur e fr)) :
    (grow (putRow enc (Sort.ahead w n) g 0 d) os).heap[g]? = some (.cells (putCells enc 0 d cur) e fr) := by
  have hg : g < w.heap.size := (Array.getElem?_eq_some_iff.1 hb).1
  rw [heap_grow_old _ _ (by simpa using hg)]
  simp [putRow, mapBlock, Sort.ahead, Array.getElem?_modify, hb, onCells]
theorem take_putRow {α : Type} [Inhabited α] (enc : α → Value) (cur : Array Value) (ts : List α) (h : ts.length ≤ cur.size) : (putCells enc 0 ts.toArray cur).toList.take ts.length = ts.map enc := by
  apply List.ext_getElem?
  intro j
  by_cases hj : j < ts.length
  · rw [List.getElem?_take_of_lt hj, Array.getElem?_toList]
    simp [putCells, hj, show j < cur.size by omega]
  · rw [List.getElem?_take_eq_none (by omega), List.getElem?_eq_none (by simp; omega)]
theorem map_range_getD (T : List (List Int)) : (List.range T.length).map (fun i => T.getD i []) = T := by
  apply List.ext_getElem
  · simp
  · intro i h1 h2
    simp [h2]
theorem OI_one {w : World} {v : Value} {l : List Int} {fp : List Nat} (h : OI w v l fp) : v.oneCell' = true := by
  obtain ⟨a, c, rfl⟩ := h.form
  rfl

theorem sortLL_any (ll : List (List Int)) (u : Value) (fp : List Nat) (w : World) (ho : OII w u ll fp) (hl : ll.length ≤ 1048576)
    (F : FuncId) (hcall : ∀ xs w, (callFunc F xs).run Tryz.prog w = .ok (.enter F xs) w)
    (hF : ∀ (a b : List Int) (x y : Value) (w : World), RdI w x a → RdI w y b → Calls Tryz.prog F #[x, y] w fun e w' => e = .returned (.int .i64 (cmpL a b)) ∧ w = w') :
    Calls Tryz.prog 119 #[u, .func (.func F) #[] #[]] w fun e w' => e = .returned (.tuple #[]) ∧ ∃ T fp', T.Perm ll ∧ SrtW T ∧ Off fp w w' ∧ OII w' u T fp' ∧ ∀ g ∈ fp', g ∈ fp := by
  by_cases h0 : 0 < ll.length
  · obtain ⟨g, cap, cur, vs, rfl, hn, hm, hs, hg, hgf, hcur, hout, helem, hpick⟩ := OII.parts ho h0
    have hd : ((List.range ll.length).toArray : Array Nat).size = ll.length := by simp
    have hdj : ∀ j, j < ll.length → ((List.range ll.length).toArray : Array Nat)[j]! = j := fun j hj => by simp [hj]
    have hH : Holds vs w g 0 (List.range ll.length).toArray := by
      intro j hj
      rw [hd] at hj
      rw [hdj j hj]
      exact ⟨by simp [World.cell?, hg, hcur j hj], by simp [World.frozen?, hg]⟩
    have h1 : OneCell vs := fun i => by
      by_cases hi : i < ll.length
      · obtain ⟨fi, hO, _⟩ := helem i hi
        exact OI_one hO
      · rw [hout i (by omega)]; rfl
    have hcmp : CmpLays1 Tryz.prog F #[] vs (fun x y => cmpL (ll.getD x []) (ll.getD y [])) g 0 ((List.range ll.length).toArray : Array Nat).size w := by
      intro m os dk _ x y
      have hG := grownBy_putRow vs (w := w) (g := g) (n := m) (os := os) dk
      have hO : Off [g] w (sortWorld vs w g 0 m dk os) := ⟨hG.os, hG.tape, hG.output, hG.size, fun k hk hnk => hG.block k hk fun h => hnk (by cases h; simp)⟩
      have hrd : ∀ i, RdI (sortWorld vs w g 0 m dk os) (vs i) (ll.getD i []) := fun i => by
        by_cases hi : i < ll.length
        · obtain ⟨fi, hOI, hgi⟩ := helem i hi
          rw [List.getD_eq_getElem?_getD, List.getElem?_eq_getElem hi]
          exact (hOI.off hO fun q hq hm => hgi (by simp at hm; exact hm ▸ hq)).rd
        · rw [hout i (by omega), List.getD_eq_getElem?_getD, List.getElem?_eq_none (by omega)]
          exact RdI.nil _
      refine (hF _ _ _ _ _ (hrd x) (hrd y)).mono ?_
      rintro e w' ⟨rfl, rfl⟩
      exact ⟨rfl, 0, #[], by rw [grow_empty]; rfl⟩
    have hc := Tryz.slices_SortFunc vs h1 (fun x y => cmpL (ll.getD x []) (ll.getD y [])) (swo_cmpL _) F #[] g 0 cap (List.range ll.length).toArray w hcall hcmp hH (Array.getElem?_eq_some_iff.1 hg).1 (by rw [hd]; omega)
    rw [hd] at hc
    refine hc.mono ?_
    rintro e w' ⟨rfl, d', n, os, hp, hsr, rfl⟩
    obtain ⟨hp1, -, hp3⟩ := hp
    rw [hd] at hp1
    have hperm : d'.toList.Perm (List.range ll.length) := by
      have e1 : (d'.extract 0 ll.length).toList = d'.toList := by rw [← hp1]; simp
      have e2 : ((List.range ll.length).toArray.extract 0 ll.length).toList = List.range ll.length := by simp
      rw [e1, e2] at hp3
      exact hp3
    have hKl : d'.toList.length = ll.length := by simpa using hp1
    have hG := grownBy_putRow vs (w := w) (g := g) (n := n) (os := os) d'
    have hO : Off [g] w (sortWorld vs w g 0 n d' os) := ⟨hG.os, hG.tape, hG.output, hG.size, fun k hk hnk => hG.block k hk fun h => hnk (by cases h; simp)⟩
    obtain ⟨fp', hII, hfp'⟩ := hpick d'.toList (sortWorld vs w g 0 n d' os) (fun i hi => List.mem_range.1 (hperm.mem_iff.1 hi)) (hperm.nodup_iff.2 List.nodup_range) hO (by
      refine ⟨by simp, .inr ⟨g, cap, _, rfl, Nat.zero_le _, heap_putRow vs d' hg, by omega, hm, by simp [putCells, hs], ?_⟩⟩
      have := take_putRow vs cur d'.toList (by omega)
      rw [Nat.mul_one]
      simpa using this)
    rw [hKl] at hII
    refine ⟨rfl, _, fp', ?_, ?_, hO.mono fun k hk => by simp at hk; exact hk ▸ hgf, hII, hfp'⟩
    · have := hperm.map fun i => ll.getD i []
      rw [map_range_getD] at this
      exact this
    · refine List.pairwise_map.2 (List.pairwise_iff_getElem.2 fun i j hi hj hij => ?_)
      have := hsr i j (Nat.zero_le _) hij (by omega)
      simp only [ltOf, decide_eq_false_iff_not] at this
      have gi : d'[i]! = d'.toList[i] := by simp at hi; simp [hi]
      have gj : d'[j]! = d'.toList[j] := by simp at hj; simp [hj]
      rw [gi, gj] at this
      exact this
  · have hnil : ll = [] := List.eq_nil_of_length_eq_zero (by omega)
    subst hnil
    obtain ⟨a, c, rfl⟩ := ho.form
    refine (Tryz.slices_SortFunc_none (α := Nat) a c _ w).mono ?_
    rintro e w' ⟨rfl, rfl⟩
    exact ⟨rfl, [], fp, List.Perm.refl _, List.Pairwise.nil, Off.refl _ _, ho, fun g hg => hg⟩
end
end Go.Proofs.YtajkepdfemdagaaGreatDoor
namespace Go.Proofs.YtajkepdfemdagaaGreatDoor
open Go.RowKit
set_option linter.unusedVariables false

/-- the places of what is kept of the first m -/
def keepIdx (T : List (List Int)) (m : Nat) : List Nat := (List.range m).filter fun j => decide (j = 0 ∨ T.getD j [] ≠ T.getD (j - 1) [])
theorem keepIdx_yes {T : List (List Int)} {m : Nat} (h : m = 0 ∨ T.getD m [] ≠ T.getD (m - 1) []) : keepIdx T (m + 1) = keepIdx T m ++ [m] := by
  unfold keepIdx
  rw [List.range_succ, List.filter_append, List.filter_cons, if_pos (decide_eq_true h)]
  rfl
theorem keepIdx_no {T : List (List Int)} {m : Nat} (hm : m ≠ 0) (h : T.getD m [] = T.getD (m - 1) []) : keepIdx T (m + 1) = keepIdx T m := by
  unfold keepIdx
  rw [List.range_succ, List.filter_append, List.filter_cons, if_neg (by
    rw [decide_eq_true_eq]
    rintro (h1 | h1)
    · exact hm h1
    · exact h1 h)]
  simp
theorem keepIdx_lt {T : List (List Int)} {m : Nat} : ∀ i ∈ keepIdx T m, i < m := fun i hi => List.mem_range.1 (List.mem_filter.1 hi).1
theorem keepIdx_nodup (T : List (List Int)) (m : Nat) : (keepIdx T m).Nodup := List.Pairwise.filter _ List.nodup_range
theorem keepIdx_le (T : List (List Int)) (m : Nat) : (keepIdx T m).length ≤ m := by
  have := List.length_filter_le (fun j => decide (j = 0 ∨ T.getD j [] ≠ T.getD (j - 1) [])) (List.range m)
  simpa [keepIdx] using this
theorem keepIdx_all {T : List (List Int)} : ∀ m : Nat, (∀ j, 0 < j → j < m → T.getD j [] ≠ T.getD (j - 1) []) → keepIdx T m = List.range m
  | 0, _ => rfl
  | m + 1, h => by
    rw [keepIdx_yes (if hm : m = 0 then .inl hm else .inr (h m (by omega) (by omega))), keepIdx_all m fun j h0 h1 => h j h0 (by omega), List.range_succ]
theorem keepIdx_dedup (T : List (List Int)) : ∀ m, m ≤ T.length → (keepIdx T m).map (fun i => T.getD i []) = dedup (T.take m)
  | 0, _ => by simp [keepIdx, dedup]
  | 1, h => by
    match T, h with
    | a :: r, _ => simp [keepIdx, dedup]
  | m + 2, h => by
    have ih := keepIdx_dedup T (m + 1) (by omega)
    have e1 : T.take (m + 1) = T.take m ++ [T[m]] := List.take_succ_eq_append_getElem (by omega)
    have e2 : T.take (m + 2) = T.take m ++ [T[m], T[m + 1]] := by
      rw [List.take_succ_eq_append_getElem (i := m + 1) (by omega), e1, List.append_assoc]
      rfl
    have g1 : T.getD (m + 1) [] = T[m + 1] := by rw [List.getD_eq_getElem?_getD, List.getElem?_eq_getElem (by omega)]; rfl
    have g0 : T.getD (m + 1 - 1) [] = T[m] := by rw [List.getD_eq_getElem?_getD, show m + 1 - 1 = m by omega, List.getElem?_eq_getElem (by omega)]; rfl
    rw [e2, dedup_snoc, ← e1, ← ih]
    by_cases hx : T[m] = T[m + 1]
    · rw [if_pos hx, keepIdx_no (by omega) (by rw [g1, g0, hx])]
    · rw [if_neg hx, keepIdx_yes (.inr (by rw [g1, g0]; exact fun h => hx h.symm)), List.map_append, List.map_cons, g1]
      rfl
theorem dedup_self {T : List (List Int)} (h : ∀ j, 0 < j → j < T.length → T.getD j [] ≠ T.getD (j - 1) []) : dedup T = T := by
  have := keepIdx_dedup T T.length (Nat.le_refl _)
  rw [List.take_length, keepIdx_all _ h, map_range_getD] at this
  exact this.symm
theorem dedup_short : ∀ {T : List (List Int)}, T.length < 2 → dedup T = T
  | [], _ => rfl
  | [_], _ => rfl
  | _ :: _ :: _, h => by simp at h; omega

/-! ### cells of one block -/
theorem heap_set_self {w : World} {g k : Nat} {cur : Array Value} {e : TypeId} {fr : Nat × Nat} (h : w.heap[g]? = some (.cells cur e fr)) (v : Value) : (w.setCell ⟨g, k, none⟩ v).heap[g]? = some (.cells (cur.setIfInBounds k v) e fr) := by
  rw [Go.Sort.setCell_eq]
  simp [Go.Sort.mapBlock, Array.getElem?_modify, h, Go.Sort.onCells]
theorem setCells_keeps {g : Nat} {e : TypeId} {fr : Nat × Nat} : ∀ (l : List Value) (w : World) (o : Nat) (cur : Array Value), w.heap[g]? = some (.cells cur e fr) →
    Off [g] w (w.setCells g o l) ∧ ∃ c, (w.setCells g o l).heap[g]? = some (.cells c e fr) ∧ c.size = cur.size ∧ ∀ j, j < o → c[j]? = cur[j]?
  | [], w, o, cur, h => ⟨Off.refl _ _, cur, h, rfl, fun _ _ => rfl⟩
  | v :: l, w, o, cur, h => by
    have h1 := heap_set_self (k := o) h v
    obtain ⟨h2, c, h3, h4, h5⟩ := setCells_keeps l (w.setCell ⟨g, o, none⟩ v) (o + 1) _ h1
    refine ⟨(Off.set (p := ⟨g, o, none⟩) (by simp)).trans h2, c, h3, by rw [h4]; simp, fun j hj => ?_⟩
    rw [h5 j (by omega), Array.getElem?_setIfInBounds, if_neg (by omega)]

theorem wrap_nat {n : Nat} (h : n ≤ 1048576) : IntKind.i64.wrap (n : Int) = (n : Int) := by
  simp [IntKind.wrap, IntKind.bits, IntKind.signed]
  omega
/-- the row as the second loop leaves it: m looked at, kk kept at its head -/
structure CRow (T : List (List Int)) (g : Nat) (cur : Array Value) (el : Nat → Value) (w wr : World) (m kk : Nat) : Prop where
  len : kk = (keepIdx T m).length
  lt : kk < m
  off : Off [g] w wr
  row : ∃ c : Array Value, wr.heap[g]? = some (.cells c 37 (0, 0)) ∧ c.size = cur.size ∧ (∀ j (hj : j < (keepIdx T m).length), c[j]? = some (el (keepIdx T m)[j])) ∧ ∀ j, kk ≤ j → c[j]? = cur[j]?
theorem CRow.ext {T : List (List Int)} {g : Nat} {cur : Array Value} {el : Nat → Value} {w wr w' : World} {m kk : Nat} (h : CRow T g cur el w wr m kk) (hE : Ext wr w') : CRow T g cur el w w' m kk := by
  obtain ⟨h1, h2, h3, c, h4, h5, h6, h7⟩ := h
  exact ⟨h1, h2, h3.trans (Off.of_ext hE), c, (hE.block _ (Array.getElem?_eq_some_iff.1 h4).1).trans h4, h5, h6, h7⟩
theorem CRow.skip {T : List (List Int)} {g : Nat} {cur : Array Value} {el : Nat → Value} {w wr : World} {m kk : Nat} (h : CRow T g cur el w wr m kk) (he : T.getD m [] = T.getD (m - 1) []) : CRow T g cur el w wr (m + 1) kk := by
  obtain ⟨h1, h2, h3, c, h4, h5, h6, h7⟩ := h
  have e := keepIdx_no (T := T) (by omega) he
  exact ⟨by rw [e]; exact h1, by omega, h3, c, h4, h5, fun j hj => by simp only [e] at hj ⊢; exact h6 j hj, h7⟩
theorem CRow.keep {T : List (List Int)} {g : Nat} {cur : Array Value} {el : Nat → Value} {w wr : World} {m kk : Nat} (h : CRow T g cur el w wr m kk) (hsz : m < cur.size) (he : T.getD m [] ≠ T.getD (m - 1) []) : CRow T g cur el w (wr.setCell ⟨g, kk, none⟩ (el m)) (m + 1) (kk + 1) := by
  obtain ⟨h1, h2, h3, c, h4, h5, h6, h7⟩ := h
  have e := keepIdx_yes (T := T) (.inr he)
  refine ⟨by rw [e, List.length_append, ← h1]; rfl, by omega, h3.trans (Off.set (by simp)), _, heap_set_self h4 _, by simpa using h5, fun j hj => ?_, fun j hj => ?_⟩
  · simp only [e] at hj ⊢
    rw [List.length_append, ← h1] at hj
    rw [Array.getElem?_setIfInBounds]
    by_cases hjk : kk = j
    · subst hjk
      rw [if_pos rfl, if_pos (by omega), List.getElem_append_right (by omega)]
      simp
    · rw [if_neg hjk, h6 j (by simp at hj; omega), List.getElem_append_left (by simp at hj; omega)]
  · rw [Array.getElem?_setIfInBounds, if_neg (by omega), h7 j (by omega)]
theorem CRow.start {T : List (List Int)} {g : Nat} {cur : Array Value} {el : Nat → Value} {w wr : World} {k : Nat} (hE : Ext w wr) (hg : w.heap[g]? = some (.cells cur 37 (0, 0))) (hcur : ∀ i, i < T.length → cur[i]? = some (el i)) (hk0 : k ≠ 0) (hk : k < T.length)
    (ht : ∀ j, 0 < j → j < k → T.getD j [] ≠ T.getD (j - 1) []) (hx : T.getD k [] = T.getD (k - 1) []) : CRow T g cur el w wr (k + 1) k := by
  have e : keepIdx T (k + 1) = List.range k := by rw [keepIdx_no hk0 hx, keepIdx_all k ht]
  refine ⟨by rw [e]; simp, by omega, Off.of_ext hE, cur, (hE.block _ (Array.getElem?_eq_some_iff.1 hg).1).trans hg, rfl, fun j hj => ?_, fun _ _ => rfl⟩
  simp only [e] at hj ⊢
  rw [List.getElem_range]
  exact hcur j (by simp at hj; omega)
set_option maxHeartbeats 8000000 in
set_option maxRecDepth 100000 in
theorem compactLL_any (T : List (List Int)) (u : Value) (fp : List Nat) (w : World) (ho : OII w u T fp) (hl : T.length ≤ 1048576)
    (F : FuncId) (hcall : ∀ xs w, (callFunc F xs).run Tryz.prog w = .ok (.enter F xs) w)
    (hF : ∀ (a b : List Int) (x y : Value) (w : World), RdI w x a → RdI w y b → Calls Tryz.prog F #[x, y] w fun e w' => e = .returned (.bool (decide (a = b))) ∧ Qt w w') :
    Calls Tryz.prog 121 #[u, .func (.func F) #[] #[]] w fun e w' => ∃ v fp', e = .returned v ∧ Off fp w w' ∧ OII w' v (dedup T) fp' ∧ ∀ g ∈ fp', g ∈ fp := by
  by_cases h2 : T.length < 2
  · obtain ⟨a, c, rfl⟩ := ho.form
    have HD := Lib.hid (dedup_short h2)
    have h2' : (T.length : Int) < 2 := by omega
    go_enter Tryz.func121, Tryz.ntmps121
    go_wp2_with fail
    go_ret
    exact ⟨_, fp, rfl, Off.refl _ _, by rw [HD.out]; exact ho, fun g hg => hg⟩
  · have ho1 := ho
    obtain ⟨g, cap, cur, el, rfl, hn, hm, hs, hg, hgf, hcur, hout, helem, hpick⟩ := OII.parts ho (by omega)
    have hcap : cap ≤ 9223372036854775807 := by unfold maxLen at hm; omega
    have hrd : ∀ (w' : World), Off [g] w w' → ∀ i, i < T.length → RdI w' (el i) (T.getD i []) := fun w' hO i hi => by
      obtain ⟨fi, hOI, hgi⟩ := helem i hi
      rw [List.getD_eq_getElem?_getD, List.getElem?_eq_getElem hi]
      exact (hOI.off hO fun q hq hm => hgi (by simp at hm; exact hm ▸ hq)).rd
    have HR := Lib.hid hrd
    have HPk := Lib.hid hpick
    have HCu := Lib.hid hcur
    have hF2 : ∀ (a b : List Int) (x y : Value) (w : World), RdI w x a → RdI w y b → Calls Tryz.prog F (#[] ++ [x, y].toArray ++ #[]) w fun e w' => e = .returned (.bool (decide (a = b))) ∧ Ext w w' := fun a b x y w h1 h2 => by
      have := (hF a b x y w h1 h2).mono fun e w' (h : _ ∧ _) => (⟨h.1, h.2.ext⟩ : e = .returned (.bool (decide (a = b))) ∧ Ext w w')
      simpa using this
    have HF2 := Lib.hid hF2
    have hcell : ∀ (w' : World) (c : Array Value), w'.heap[g]? = some (.cells c 37 (0, 0)) → ∀ i v, c[i]? = some v → w'.cell? ⟨g, i, none⟩ = some v := fun w' c h i v hv => by simp [World.cell?, h, hv]
    have HCe := Lib.hid hcell
    clear hrd hpick hcur hF2 hF helem hcell hout
    have h2' : ¬ ((T.length : Int) < 2) := by omega
    go_enter Tryz.func121, Tryz.ntmps121
    go_wp2_with fail
    go_loopw [5] (fun i wr => ∃ k : Nat, 1 ≤ k ∧ k ≤ T.length ∧ i = .int .i64 (k : Nat) ∧ Ext w wr ∧ ∀ j, 0 < j → j < k → T.getD j [] ≠ T.getD (j - 1) []) (fun i _ => T.length - (intOf i).toNat)
    case atStart => exact ⟨1, by omega, by omega, rfl, Ext.refl' _, fun j h0 h1 => by omega⟩
    case round =>
      obtain ⟨k, hk1, hk, rfl, hE, ht⟩ := hrel
      have HT := Lib.hid ht
      clear ht
      by_cases hkl : k < T.length
      · have ck := hE.cell (HCe.out w cur hg k _ (HCu.out k hkl))
        have cp := hE.cell (HCe.out w cur hg (k - 1) _ (HCu.out (k - 1) (by omega)))
        have r1 := HR.out wr (Off.of_ext hE) k hkl
        have r2 := HR.out wr (Off.of_ext hE) (k - 1) (by omega)
        have hkp : (k : Int) - 1 = ((k - 1 : Nat) : Int) := by omega
        have hkp2 : k - 1 < T.length := by omega
        have hkw : IntKind.i64.wrap ((k - 1 : Nat) : Int) = ((k - 1 : Nat) : Int) := wrap_nat (by omega)
        by_cases hx : T.getD k [] = T.getD (k - 1) []
        · have hb : decide (T.getD k [] = T.getD (k - 1) []) = true := decide_eq_true hx
          have HX := Lib.hid hx
          clear hx
          go_wp2_with fail
          go_wp2_with fail
          refine region_sp [] [] [SP.val (.func (.func F) #[] #[]), SP.val (.slice (some ⟨g, 0, none⟩) T.length cap), SP.val (.int .i64 (k : Nat)), SP.val (.pointer (some ⟨g, k, none⟩)), SP.val (el k), SP.val (.slice (some ⟨g, 0, none⟩) T.length cap), SP.val (.int .i64 (k : Nat)), SP.val (.int .i64 ((k - 1 : Nat) : Int)), SP.val (.pointer (some ⟨g, (k - 1), none⟩)), SP.val (el (k - 1)), SP.val (.bool true)] (by kernel_rfl) (fun _ d _ _ _ h => by cases d <;> exact h) (by kernel_rfl) (by kernel_rfl)
            (.cons (fun vs y hY => Step.move rfl rfl rfl rfl) <|
             .cons (fun vs y hY => Step.move rfl rfl rfl rfl) <|
             .cons (fun vs y hY => Step.move rfl rfl rfl rfl) <|
             .cons (fun vs y hY g1_0 g2_1 => Step.indexAtP (n := .int .i64 (k : Nat)) ⟨g, k, none⟩ rfl rfl g1_0 g2_1 (by simp [go_sem, Instr.indexAt, Addr.add, hkl] <;> omega) rfl) <|
             .cons (fun vs y hY g3_0 => Step.load ⟨g, k, none⟩ rfl rfl g3_0 (by simp [go_sem, hY.cell ck]) rfl) <|
             .cons (fun vs y hY => Step.move rfl rfl rfl rfl) <|
             .cons (fun vs y hY => Step.move rfl rfl rfl rfl) <|
             .cons (fun vs y hY g6_0 => Step.bin (u := .int .i64 (k : Nat)) (v := .int .i64 1) rfl rfl g6_0 rfl (by simp [go_sem, hkp, hkw]) rfl) <|
             .cons (fun vs y hY g5_0 g7_1 => Step.indexAtP (n := .int .i64 ((k - 1 : Nat) : Int)) ⟨g, (k - 1), none⟩ rfl rfl g5_0 g7_1 (by simp [go_sem, Instr.indexAt, Addr.add, hkp2] <;> omega) rfl) <|
             .cons (fun vs y hY g8_0 => Step.load ⟨g, (k - 1), none⟩ rfl rfl g8_0 (by simp [go_sem, hY.cell cp]) rfl) <|
             .cons (fun vs y hY g0_0 g4_1 g9_2 => Step.callv hcall rfl rfl g0_0 [vs 4, vs 9] rfl (by rw [show vs 4 = _ from g4_1, show vs 9 = _ from g9_2]; exact (Calls.spe (HF2.out (T.getD k []) (T.getD (k - 1) []) _ _ _ (r1.ext hY) (r2.ext hY)) (by rw [hb])))) <|
             .nil) ?_
          intro vs w3 hC hL
          have r0 : vs 0 = _ := hL 0 (by decide) rfl
          have r1 : vs 1 = _ := hL 1 (by decide) rfl
          have r2 : vs 2 = _ := hL 2 (by decide) rfl
          have r3 : vs 3 = _ := hL 3 (by decide) rfl
          have r4 : vs 4 = _ := hL 4 (by decide) rfl
          have r5 : vs 5 = _ := hL 5 (by decide) rfl
          have r6 : vs 6 = _ := hL 6 (by decide) rfl
          have r7 : vs 7 = _ := hL 7 (by decide) rfl
          have r8 : vs 8 = _ := hL 8 (by decide) rfl
          have r9 : vs 9 = _ := hL 9 (by decide) rfl
          have r10 : vs 10 = _ := hL 10 (by decide) rfl
          clear hL
          simp only [putAll, Act.put, List.contains_nil, cond_false, List.setIfInBounds_toArray, List.set_cons_succ, List.set_cons_zero, List.filterMap_nil, r0, r1, r2, r3, r4, r5, r6, r7, r8, r9, r10]
          clear r0 r1 r2 r3 r4 r5 r6 r7 r8 r9 r10
          clear hb
          have hnk : ¬ T.length = k := by omega
          have hck : ¬ cap = k := by omega
          go_wp2_with fail
          go_loopw [5, 7] (fun i j wr => ∃ kk k2 : Nat, i = .int .i64 (kk : Nat) ∧ j = .int .i64 (k2 : Nat) ∧ 1 ≤ k2 ∧ k + k2 ≤ T.length ∧ CRow T g cur el w wr (k + k2) kk) (fun _ j _ => T.length - k - (intOf j).toNat)
          case atStart => exact ⟨k, 1, rfl, rfl, by omega, by omega, CRow.start (hE.tr hC) hg HCu.out (by omega) hkl HT.out HX.out⟩
          case round =>
            obtain ⟨kk, k2, rfl, rfl, h21, h22, hR⟩ := hrel
            have hlt := hR.lt
            by_cases hml : k + k2 < T.length
            · obtain ⟨c, hc4, hc5, hc6, hc7⟩ := hR.row
              have cm : wr.cell? ⟨g, k + k2, none⟩ = some (el (k + k2)) := HCe.out wr c hc4 _ _ (by rw [hc7 _ (by omega)]; exact HCu.out _ hml)
              have cm1 : wr.cell? ⟨g, k + (k2 - 1), none⟩ = some (el (k + k2 - 1)) := HCe.out wr c hc4 _ _ (by rw [hc7 _ (by omega), show k + (k2 - 1) = k + k2 - 1 by omega]; exact HCu.out _ (by omega))
              have ckk : wr.cell? ⟨g, kk, none⟩ = some ((c[kk]?).getD undef) := HCe.out wr c hc4 _ _ (by rw [hc7 _ (Nat.le_refl _), HCu.out kk (by omega)]; rfl)
              have fkk : wr.frozen? ⟨g, kk, none⟩ = false := by simp [World.frozen?, hc4]
              have s1 := HR.out wr hR.off (k + k2) hml
              have s2 := HR.out wr hR.off (k + k2 - 1) (by omega)
              have hcs : k + k2 < cur.size := by omega
              have HRow := Lib.hid hR
              clear hc4 hc5 hc6 hc7 hR
              have KEEP := Lib.hid (fun hh : T.getD (k + k2) [] ≠ T.getD (k + k2 - 1) [] => fun (w'' : World) (hE'' : Ext wr w'') => (HRow.out.ext hE'').keep hcs hh)
              generalize el (k + k2) = X at cm s1 KEEP
              obtain ⟨ea, ec, rfl⟩ := s1.form
              generalize (T.getD (k + k2) []).length = L at cm s1 KEEP
              have i1 : k2 < T.length - k := by omega
              have i2 : k2 - 1 < T.length - k := by omega
              have i1' : ((k2 : Nat) : Int) < ((T.length - k : Nat) : Int) := by omega
              have hkp3 : (k2 : Int) - 1 = ((k2 - 1 : Nat) : Int) := by omega
              have hkw3 : IntKind.i64.wrap ((k2 - 1 : Nat) : Int) = ((k2 - 1 : Nat) : Int) := wrap_nat (by omega)
              by_cases hy : T.getD (k + k2) [] = T.getD (k + k2 - 1) []
              · have hb : decide (T.getD (k + k2) [] = T.getD (k + k2 - 1) []) = true := decide_eq_true hy
                have HN := Lib.hid (HRow.out.skip hy)
                clear hy
                go_wp2_with fail
                go_wp2_with fail
                refine region_sp [] [] [SP.val (.func (.func F) #[] #[]), SP.val (.slice (some ⟨g, k, none⟩) (T.length - k) (cap - k)), SP.val (.int .i64 (k2 : Nat)), SP.val (.pointer (some ⟨g, k + k2, none⟩)), SP.val (.slice ea L ec), SP.val (.slice (some ⟨g, k, none⟩) (T.length - k) (cap - k)), SP.val (.int .i64 (k2 : Nat)), SP.val (.int .i64 ((k2 - 1 : Nat) : Int)), SP.val (.pointer (some ⟨g, k + (k2 - 1), none⟩)), SP.val (el (k + k2 - 1)), SP.val (.bool true), SP.val (.bool false)] (by kernel_rfl) (fun _ d _ _ _ h => by cases d <;> exact h) (by kernel_rfl) (by kernel_rfl)
                  (.cons (fun vs y hY => Step.move rfl rfl rfl rfl) <|
                   .cons (fun vs y hY => Step.move rfl rfl rfl rfl) <|
                   .cons (fun vs y hY => Step.move rfl rfl rfl rfl) <|
                   .cons (fun vs y hY g1_0 g2_1 => Step.indexAtP (n := .int .i64 (k2 : Nat)) ⟨g, k + k2, none⟩ rfl rfl g1_0 g2_1 (by simp [go_sem, Instr.indexAt, Addr.add, i1] <;> omega) rfl) <|
                   .cons (fun vs y hY g3_0 => Step.load ⟨g, k + k2, none⟩ rfl rfl g3_0 (by simp [go_sem, hY.cell cm]) rfl) <|
                   .cons (fun vs y hY => Step.move rfl rfl rfl rfl) <|
                   .cons (fun vs y hY => Step.move rfl rfl rfl rfl) <|
                   .cons (fun vs y hY g6_0 => Step.bin (u := .int .i64 (k2 : Nat)) (v := .int .i64 1) rfl rfl g6_0 rfl (by simp [go_sem, hkp3, hkw3]) rfl) <|
                   .cons (fun vs y hY g5_0 g7_1 => Step.indexAtP (n := .int .i64 ((k2 - 1 : Nat) : Int)) ⟨g, k + (k2 - 1), none⟩ rfl rfl g5_0 g7_1 (by simp [go_sem, Instr.indexAt, Addr.add, i2] <;> omega) rfl) <|
                   .cons (fun vs y hY g8_0 => Step.load ⟨g, k + (k2 - 1), none⟩ rfl rfl g8_0 (by simp [go_sem, hY.cell cm1]) rfl) <|
                   .cons (fun vs y hY g0_0 g4_1 g9_2 => Step.callv hcall rfl rfl g0_0 [vs 4, vs 9] rfl (by rw [show vs 4 = _ from g4_1, show vs 9 = _ from g9_2]; exact (Calls.spe (HF2.out (T.getD (k + k2) []) (T.getD (k + k2 - 1) []) _ _ _ (s1.ext hY) (s2.ext hY)) (by rw [hb])))) <|
                   .cons (fun vs y hY g10_0 => Step.not rfl rfl g10_0 rfl) <|
                   .nil) ?_
                intro vs w5 hC hL
                have r0 : vs 0 = _ := hL 0 (by decide) rfl
                have r1 : vs 1 = _ := hL 1 (by decide) rfl
                have r2 : vs 2 = _ := hL 2 (by decide) rfl
                have r3 : vs 3 = _ := hL 3 (by decide) rfl
                have r4 : vs 4 = _ := hL 4 (by decide) rfl
                have r5 : vs 5 = _ := hL 5 (by decide) rfl
                have r6 : vs 6 = _ := hL 6 (by decide) rfl
                have r7 : vs 7 = _ := hL 7 (by decide) rfl
                have r8 : vs 8 = _ := hL 8 (by decide) rfl
                have r9 : vs 9 = _ := hL 9 (by decide) rfl
                have r10 : vs 10 = _ := hL 10 (by decide) rfl
                have r11 : vs 11 = _ := hL 11 (by decide) rfl
                clear hL
                simp only [putAll, Act.put, List.contains_nil, cond_false, List.setIfInBounds_toArray, List.set_cons_succ, List.set_cons_zero, List.filterMap_nil, r0, r1, r2, r3, r4, r5, r6, r7, r8, r9, r10, r11]
                clear r0 r1 r2 r3 r4 r5 r6 r7 r8 r9 r10 r11
                clear hb
                go_wp2_with fail
                go_roundw
                case rel => exact ⟨kk, k2 + 1, rfl, by go_num, by omega, by omega, HN.out.ext hC⟩
                case measure => simp [intOf]; omega
              · have hb : decide (T.getD (k + k2) [] = T.getD (k + k2 - 1) []) = false := decide_eq_false hy
                have HN := Lib.hid hy
                clear hy
                go_wp2_with fail
                go_wp2_with fail
                refine region_sp [] [] [SP.val (.func (.func F) #[] #[]), SP.val (.slice (some ⟨g, k, none⟩) (T.length - k) (cap - k)), SP.val (.int .i64 (k2 : Nat)), SP.val (.pointer (some ⟨g, k + k2, none⟩)), SP.val (.slice ea L ec), SP.val (.slice (some ⟨g, k, none⟩) (T.length - k) (cap - k)), SP.val (.int .i64 (k2 : Nat)), SP.val (.int .i64 ((k2 - 1 : Nat) : Int)), SP.val (.pointer (some ⟨g, k + (k2 - 1), none⟩)), SP.val (el (k + k2 - 1)), SP.val (.bool false), SP.val (.bool true)] (by kernel_rfl) (fun _ d _ _ _ h => by cases d <;> exact h) (by kernel_rfl) (by kernel_rfl)
                  (.cons (fun vs y hY => Step.move rfl rfl rfl rfl) <|
                   .cons (fun vs y hY => Step.move rfl rfl rfl rfl) <|
                   .cons (fun vs y hY => Step.move rfl rfl rfl rfl) <|
                   .cons (fun vs y hY g1_0 g2_1 => Step.indexAtP (n := .int .i64 (k2 : Nat)) ⟨g, k + k2, none⟩ rfl rfl g1_0 g2_1 (by simp [go_sem, Instr.indexAt, Addr.add, i1] <;> omega) rfl) <|
                   .cons (fun vs y hY g3_0 => Step.load ⟨g, k + k2, none⟩ rfl rfl g3_0 (by simp [go_sem, hY.cell cm]) rfl) <|
                   .cons (fun vs y hY => Step.move rfl rfl rfl rfl) <|
                   .cons (fun vs y hY => Step.move rfl rfl rfl rfl) <|
                   .cons (fun vs y hY g6_0 => Step.bin (u := .int .i64 (k2 : Nat)) (v := .int .i64 1) rfl rfl g6_0 rfl (by simp [go_sem, hkp3, hkw3]) rfl) <|
                   .cons (fun vs y hY g5_0 g7_1 => Step.indexAtP (n := .int .i64 ((k2 - 1 : Nat) : Int)) ⟨g, k + (k2 - 1), none⟩ rfl rfl g5_0 g7_1 (by simp [go_sem, Instr.indexAt, Addr.add, i2] <;> omega) rfl) <|
                   .cons (fun vs y hY g8_0 => Step.load ⟨g, k + (k2 - 1), none⟩ rfl rfl g8_0 (by simp [go_sem, hY.cell cm1]) rfl) <|
                   .cons (fun vs y hY g0_0 g4_1 g9_2 => Step.callv hcall rfl rfl g0_0 [vs 4, vs 9] rfl (by rw [show vs 4 = _ from g4_1, show vs 9 = _ from g9_2]; exact (Calls.spe (HF2.out (T.getD (k + k2) []) (T.getD (k + k2 - 1) []) _ _ _ (s1.ext hY) (s2.ext hY)) (by rw [hb])))) <|
                   .cons (fun vs y hY g10_0 => Step.not rfl rfl g10_0 rfl) <|
                   .nil) ?_
                intro vs w5 hC hL
                have r0 : vs 0 = _ := hL 0 (by decide) rfl
                have r1 : vs 1 = _ := hL 1 (by decide) rfl
                have r2 : vs 2 = _ := hL 2 (by decide) rfl
                have r3 : vs 3 = _ := hL 3 (by decide) rfl
                have r4 : vs 4 = _ := hL 4 (by decide) rfl
                have r5 : vs 5 = _ := hL 5 (by decide) rfl
                have r6 : vs 6 = _ := hL 6 (by decide) rfl
                have r7 : vs 7 = _ := hL 7 (by decide) rfl
                have r8 : vs 8 = _ := hL 8 (by decide) rfl
                have r9 : vs 9 = _ := hL 9 (by decide) rfl
                have r10 : vs 10 = _ := hL 10 (by decide) rfl
                have r11 : vs 11 = _ := hL 11 (by decide) rfl
                clear hL
                simp only [putAll, Act.put, List.contains_nil, cond_false, List.setIfInBounds_toArray, List.set_cons_succ, List.set_cons_zero, List.filterMap_nil, r0, r1, r2, r3, r4, r5, r6, r7, r8, r9, r10, r11]
                clear r0 r1 r2 r3 r4 r5 r6 r7 r8 r9 r10 r11
                clear hb
                have cm' := hC.cell cm
                have ckk' := hC.cell ckk
                have fkk' : w5.frozen? ⟨g, kk, none⟩ = false := by rw [hC.frozen (lt_of_cell ckk)]; exact fkk
                have hkn : kk < T.length := by omega
                go_wp2_with fail
                go_roundw
                case rel => exact ⟨kk + 1, k2 + 1, by go_num, by go_num, by omega, by omega, KEEP.out HN.out _ hC⟩
                case measure => simp [intOf]; omega
            · have hend : k + k2 = T.length := by omega
              rw [hend] at hR hlt
              obtain ⟨c, hc4, hc5, hc6, hc7⟩ := hR.row
              have hcl : ∀ ty, (Builtin.clear_ #[33] ty #[.slice (some ⟨g, kk, none⟩) (T.length - kk) (cap - kk)]).run Tryz.prog wr = .ok (.tuple #[]) (wr.setCells g kk (List.replicate (T.length - kk) (.slice none 0 0))) :=
                fun ty => Lib.run_clear_slice wr _ 37 ty _ Tryz.underlying33 Tryz.zeroValue37 rfl rfl g kk _ _ (by omega) (fun j hj => by simp [World.cell?, hc4]; omega) (fun j hj => by simp [World.frozen?, hc4])
              obtain ⟨hO2, c2, hd4, hd5, hd6⟩ := setCells_keeps (List.replicate (T.length - kk) (.slice none 0 0)) wr kk c hc4
              have HO2 := Lib.hid (hR.off.trans hO2)
              have HRow := Lib.hid hR
              have hfin : ∃ fp', OII (wr.setCells g kk (List.replicate (T.length - kk) (.slice none 0 0))) (.slice (some ⟨g, 0, none⟩) kk cap) (dedup T) fp' ∧ ∀ q ∈ fp', q ∈ fp := by
                have hkl' := hR.len
                have := HPk.out (keepIdx T T.length) (wr.setCells g kk (List.replicate (T.length - kk) (.slice none 0 0))) (fun i hi => keepIdx_lt i hi) (keepIdx_nodup _ _) HO2.out (by
                  refine ⟨by simp, .inr ⟨g, cap, c2, rfl, Nat.zero_le _, hd4, by omega, hm, by omega, ?_⟩⟩
                  apply List.ext_getElem?
                  intro j
                  by_cases hj : j < (keepIdx T T.length).length
                  · rw [List.getElem?_take_of_lt (by omega), Array.getElem?_toList, hd6 j (by omega), hc6 j hj, List.getElem?_map, List.getElem?_eq_getElem hj]
                    rfl
                  · rw [List.getElem?_take_eq_none (by omega), List.getElem?_eq_none (by simp; omega)])
                rw [keepIdx_dedup T T.length (Nat.le_refl _), List.take_length, ← hkl'] at this
                exact this
              have HFin := Lib.hid hfin
              have hkn : kk < T.length := hlt
              have hck2 : ¬ cap = kk := by omega
              clear hR hc4 hc5 hc6 hc7 hO2 hd4 hd5 hd6 hfin
              go_wp2_with fail
              go_ret
              obtain ⟨fp', f1, f2⟩ := HFin.out
              exact ⟨_, fp', rfl, HO2.out.mono fun q hq => by simp at hq; exact hq ▸ hgf, f1, f2⟩
        · have hb : decide (T.getD k [] = T.getD (k - 1) []) = false := decide_eq_false hx
          have HT2 := Lib.hid (show ∀ j, 0 < j → j < k + 1 → T.getD j [] ≠ T.getD (j - 1) [] from fun j h0 h1 => if e : j = k then by subst e; exact hx else HT.out j h0 (by omega))
          clear hx
          go_wp2_with fail
          go_wp2_with fail
          refine region_sp [] [] [SP.val (.func (.func F) #[] #[]), SP.val (.slice (some ⟨g, 0, none⟩) T.length cap), SP.val (.int .i64 (k : Nat)), SP.val (.pointer (some ⟨g, k, none⟩)), SP.val (el k), SP.val (.slice (some ⟨g, 0, none⟩) T.length cap), SP.val (.int .i64 (k : Nat)), SP.val (.int .i64 ((k - 1 : Nat) : Int)), SP.val (.pointer (some ⟨g, (k - 1), none⟩)), SP.val (el (k - 1)), SP.val (.bool false)] (by kernel_rfl) (fun _ d _ _ _ h => by cases d <;> exact h) (by kernel_rfl) (by kernel_rfl)
            (.cons (fun vs y hY => Step.move rfl rfl rfl rfl) <|
             .cons (fun vs y hY => Step.move rfl rfl rfl rfl) <|
             .cons (fun vs y hY => Step.move rfl rfl rfl rfl) <|
             .cons (fun vs y hY g1_0 g2_1 => Step.indexAtP (n := .int .i64 (k : Nat)) ⟨g, k, none⟩ rfl rfl g1_0 g2_1 (by simp [go_sem, Instr.indexAt, Addr.add, hkl] <;> omega) rfl) <|
             .cons (fun vs y hY g3_0 => Step.load ⟨g, k, none⟩ rfl rfl g3_0 (by simp [go_sem, hY.cell ck]) rfl) <|
             .cons (fun vs y hY => Step.move rfl rfl rfl rfl) <|
             .cons (fun vs y hY => Step.move rfl rfl rfl rfl) <|
             .cons (fun vs y hY g6_0 => Step.bin (u := .int .i64 (k : Nat)) (v := .int .i64 1) rfl rfl g6_0 rfl (by simp [go_sem, hkp, hkw]) rfl) <|
             .cons (fun vs y hY g5_0 g7_1 => Step.indexAtP (n := .int .i64 ((k - 1 : Nat) : Int)) ⟨g, (k - 1), none⟩ rfl rfl g5_0 g7_1 (by simp [go_sem, Instr.indexAt, Addr.add, hkp2] <;> omega) rfl) <|
             .cons (fun vs y hY g8_0 => Step.load ⟨g, (k - 1), none⟩ rfl rfl g8_0 (by simp [go_sem, hY.cell cp]) rfl) <|
             .cons (fun vs y hY g0_0 g4_1 g9_2 => Step.callv hcall rfl rfl g0_0 [vs 4, vs 9] rfl (by rw [show vs 4 = _ from g4_1, show vs 9 = _ from g9_2]; exact (Calls.spe (HF2.out (T.getD k []) (T.getD (k - 1) []) _ _ _ (r1.ext hY) (r2.ext hY)) (by rw [hb])))) <|
             .nil) ?_
          intro vs w3 hC hL
          have r0 : vs 0 = _ := hL 0 (by decide) rfl
          have r1 : vs 1 = _ := hL 1 (by decide) rfl
          have r2 : vs 2 = _ := hL 2 (by decide) rfl
          have r3 : vs 3 = _ := hL 3 (by decide) rfl
          have r4 : vs 4 = _ := hL 4 (by decide) rfl
          have r5 : vs 5 = _ := hL 5 (by decide) rfl
          have r6 : vs 6 = _ := hL 6 (by decide) rfl
          have r7 : vs 7 = _ := hL 7 (by decide) rfl
          have r8 : vs 8 = _ := hL 8 (by decide) rfl
          have r9 : vs 9 = _ := hL 9 (by decide) rfl
          have r10 : vs 10 = _ := hL 10 (by decide) rfl
          clear hL
          simp only [putAll, Act.put, List.contains_nil, cond_false, List.setIfInBounds_toArray, List.set_cons_succ, List.set_cons_zero, List.filterMap_nil, r0, r1, r2, r3, r4, r5, r6, r7, r8, r9, r10]
          clear r0 r1 r2 r3 r4 r5 r6 r7 r8 r9 r10
          clear hb
          go_wp2_with fail
          go_roundw
          case rel => exact ⟨k + 1, by omega, by omega, by go_num, hE.tr hC, HT2.out⟩
          case measure => simp [intOf]; omega
      · have HD := Lib.hid (dedup_self (T := T) fun j h0 h1 => HT.out j h0 (by omega))
        go_wp2_with fail
        go_ret
        exact ⟨_, fp, rfl, Off.of_ext hE, by rw [HD.out]; exact ho1.ext hE, fun g hg => hg⟩
end Go.Proofs.YtajkepdfemdagaaGreatDoor
