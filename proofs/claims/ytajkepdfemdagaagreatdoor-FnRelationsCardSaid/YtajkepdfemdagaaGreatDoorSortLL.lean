
/- An owned list of lists, its elements taken in another order, or some of them; slices.SortFunc by slices.Compare. -/
import Derived.Test.YtajkepdfemdagaaGreatDoorOwn
import Derived.Test.YtajkepdfemdagaaGreatDoorSorted
import Derived.Test.YtajkepdfemdagaaGreatDoorShelf
import Derived.Sort.OwnSortedInts
namespace Go.Proofs.YtajkepdfemdagaaGreatDoor
open Go.RowKit
set_option linter.unusedVariables false

/-- a row as its block holds it; what takes some of its elements leaves a list of them -/
theorem OII.parts {w : World} {u : Value} {T : List (List Int)} {fp : List Nat} (h : OII w u T fp) (h0 : 0 < T.length) :
    ∃ (g cap : Nat) (cur : Array Value) (vs : Nat → Value), u = .slice (some ⟨g, 0, none⟩) T.length cap ∧ T.length ≤ cap ∧ cap ≤ maxLen ∧ cur.size = cap * 1 ∧ w.heap[g]? = some (.cells cur 37 (0, 0)) ∧ g ∈ fp ∧ (∀ i, i < T.length → cur[i]? = some (vs i)) ∧
      (∀ i, T.length ≤ i → vs i = .slice none 0 0) ∧ (∀ i (hi : i < T.length), ∃ fi, OI w (vs i) T[i] fi ∧ g ∉ fi) ∧
      ∀ (K : List Nat) (w' : World), (∀ i ∈ K, i < T.length) → K.Nodup → Off [g] w w' → w'.ownsRow 0 37 1 (.slice (some ⟨g, 0, none⟩) K.length cap) K.length (K.map vs) →
        ∃ fp', OII w' (.slice (some ⟨g, 0, none⟩) K.length cap) (K.map fun i => T.getD i []) fp' ∧ ∀ q ∈ fp', q ∈ fp := by
  obtain ⟨zs, h1, h2, h3, h4, h5⟩ := h
  have hlen : T.length = zs.length := by rw [h1, List.length_map]
  rcases id h2.2 with ⟨_, hn⟩ | ⟨g, cap, cur, rfl, hbg, hg, hn, hm, hs, ht⟩
  · omega
  · have hgT : ∀ i (hi : i < T.length), T[i] = (zs[i]'(by omega)).2.1 := fun i hi => by
      subst h1
      simp
    have hne : ∀ z ∈ zs, z.1 = [z.1.headD undef] := fun z hz => by
      obtain ⟨u, hu, _⟩ := (h5 z hz).2
      rw [hu]; rfl
    have hfl : zs.flatMap (·.1) = zs.map fun z => z.1.headD undef := by
      clear h1 h2 h3 h4 h5 hn ht hlen hgT hg hs
      induction zs with
      | nil => rfl
      | cons z zs ih =>
        rw [List.flatMap_cons, List.map_cons, hne z (List.mem_cons_self ..), ih fun y hy => hne y (List.mem_cons_of_mem _ hy)]
        rfl
    refine ⟨g, cap, cur, fun i => ((zs[i]?).map fun z => z.1.headD undef).getD (.slice none 0 0), by rw [hlen], by omega, hm, hs, hg, (h3 g).2 (by simp [Value.ownBlock]), ?_, ?_, ?_, ?_⟩
    · intro i hi
      have e := congrArg (·[i]?) ht
      simp only [hfl] at e
      rw [List.getElem?_take_of_lt (by omega), List.getElem?_map, List.getElem?_eq_getElem (by omega : i < zs.length)] at e
      dsimp only
      rw [← Array.getElem?_toList, e, List.getElem?_eq_getElem (by omega : i < zs.length)]
      rfl
    · intro i hi
      dsimp only
      rw [List.getElem?_eq_none (by omega)]
      rfl
    · intro i hi
      have hzi : zs[i]'(by omega) ∈ zs := List.getElem_mem _
      obtain ⟨u, hu, hO⟩ := (h5 _ hzi).2
      dsimp only
      rw [List.getElem?_eq_getElem (by omega : i < zs.length), hgT i hi]
      refine ⟨(zs[i]'(by omega)).2.2, by simpa [hu] using hO, fun hm' => ?_⟩
      have := (List.nodup_append.1 h4).2.2 g (by simp [Value.ownBlock]) g (List.mem_flatMap.2 ⟨_, hzi, hm'⟩)
      exact this rfl
    · intro K w' hK hnd hO hrow
      have hz : ∀ i ∈ K, ∃ h : i < zs.length, True := fun i hi => ⟨by have := hK i hi; omega, trivial⟩
      let pick : Nat → List Value × List Int × List Nat := fun i => (zs[i]?).getD ([], [], [])
      have hpick : ∀ i (hi : i < zs.length), pick i = zs[i] := fun i hi => by show (zs[i]?).getD _ = _; rw [List.getElem?_eq_getElem hi]; rfl
      have hdis : ∀ i j (hi : i < zs.length) (hj : j < zs.length), i < j → ∀ x ∈ zs[i].2.2, x ∉ zs[j].2.2 := by
        intro i j hi hj hij x hx hx'
        have hnf := (List.nodup_append.1 h4).2.1
        rw [List.flatMap_def] at hnf
        have := List.pairwise_iff_getElem.1 (List.pairwise_flatten.1 hnf).2 i j (by simpa using hi) (by simpa using hj) hij
        simp only [List.getElem_map] at this
        exact this x hx x hx' rfl
      refine ⟨[g] ++ K.flatMap fun i => (pick i).2.2, ⟨K.map pick, ?_, ?_, ?_, ?_, ?_⟩, ?_⟩
      · rw [List.map_map]
        refine List.map_congr_left fun i hi => ?_
        have hi' := hK i hi
        show T.getD i [] = (pick i).2.1
        rw [hpick i (by omega), List.getD_eq_getElem?_getD, List.getElem?_eq_getElem hi', ← hgT i hi']
        rfl
      · rw [List.length_map]
        have e : (K.map pick).flatMap (·.1) = K.map fun i => ((zs[i]?).map fun z => z.1.headD undef).getD (.slice none 0 0) := by
          clear hrow hnd hz
          induction K with
          | nil => rfl
          | cons i K ih =>
            have hi' := hK i (List.mem_cons_self ..)
            have hi2 : i < zs.length := by omega
            rw [List.map_cons, List.flatMap_cons, List.map_cons, ih fun j hj => hK j (List.mem_cons_of_mem _ hj), hpick i hi2, List.getElem?_eq_getElem hi2, hne _ (List.getElem_mem hi2)]
            rfl
        rw [e]
        exact hrow
      · intro q
        simp [Value.ownBlock, List.flatMap_map]
      · rw [List.flatMap_map]
        refine List.nodup_append.2 ⟨by simp [Value.ownBlock], ?_, ?_⟩
        · rw [List.flatMap_def]
          refine List.pairwise_flatten.2 ⟨fun l hl => ?_, ?_⟩
          · obtain ⟨i, hi, rfl⟩ := List.mem_map.1 hl
            have hi' := hK i hi
            rw [hpick i (by omega)]
            exact eI_ok.nodup (h5 _ (List.getElem_mem (by omega))).2
          · refine List.pairwise_map.2 (hnd.imp_of_mem fun {i j} hi hj hne' => ?_)
            have hi' := hK i hi
            have hj' := hK j hj
            rw [hpick i (by omega), hpick j (by omega)]
            intro x hx y hy hxy
            subst hxy
            rcases Nat.lt_or_gt_of_ne hne' with h | h
            · exact hdis i j (by omega) (by omega) h x hx hy
            · exact hdis j i (by omega) (by omega) h x hy hx
        · intro a ha b hb hab
          subst hab
          have hag : a = g := by simpa [Value.ownBlock] using ha
          subst hag
          obtain ⟨i, hi, hai⟩ := List.mem_flatMap.1 hb
          have hi' := hK i hi
          rw [hpick i (by omega)] at hai
          exact (List.nodup_append.1 h4).2.2 a (by simp [Value.ownBlock]) a (List.mem_flatMap.2 ⟨_, List.getElem_mem (by omega), hai⟩) rfl
      · intro z hz'
        obtain ⟨i, hi, rfl⟩ := List.mem_map.1 hz'
        have hi' := hK i hi
        have hi2 : i < zs.length := by omega
        rw [hpick i hi2]
        refine ⟨(h5 _ (List.getElem_mem hi2)).1, eI_ok.kept (h5 _ (List.getElem_mem hi2)).2 fun x hx => hO.block x (eI_ok.lt (h5 _ (List.getElem_mem hi2)).2 x hx) fun hxg => ?_⟩
        have hxg : x = g := by simpa using hxg
        subst hxg
        exact (List.nodup_append.1 h4).2.2 x (by simp [Value.ownBlock]) x (List.mem_flatMap.2 ⟨_, List.getElem_mem hi2, hx⟩) rfl
      · intro q hq
        rcases List.mem_append.1 hq with hq | hq
        · exact (h3 q).2 (by simp [Value.ownBlock] at hq ⊢; exact .inl hq)
        · obtain ⟨i, hi, hqi⟩ := List.mem_flatMap.1 hq
          have hi' := hK i hi
          rw [hpick i (by omega)] at hqi
          exact (h3 q).2 (List.mem_append.2 (.inr (List.mem_flatMap.2 ⟨_, List.getElem_mem (by omega), hqi⟩)))

/-! ### slices.SortFunc -/
section
open Go.Sort Go.Shelf Go.Lib
theorem swo_cmpL {α : Type} (lst : α → List Int) : SWO (ltOf fun x y => cmpL (lst x) (lst y)) where
  irrefl x := by simp only [ltOf, decide_eq_false_iff_not]; exact cmpL_irr _
  trans x y z h1 h2 := by
    simp only [ltOf, decide_eq_true_eq] at *
    exact cmpL_trans _ _ _ h1 h2
  ntrans x y z h1 h2 := by
    simp only [ltOf, decide_eq_false_iff_not] at *
    intro h
    by_cases e : lst x = lst y
    · rw [e] at h; exact h2 h
    · by_cases e2 : cmpL (lst x) (lst y) = 0
      · exact e (cmpL_zero _ _ e2)
      · have := cmpL_flip _ _ (show 0 < cmpL (lst x) (lst y) by omega)
        exact h2 (cmpL_trans _ _ _ this h)
theorem grownBy_putRow {α : Type} [Inhabited α] (enc : α → Value) {w : World} {g n : Nat} {os : Array Obj} (d : Array α) : w.grownBy (grow (putRow enc (Sort.ahead w n) g 0 d) os) (some g) := by
  refine ⟨rfl, rfl, rfl, by simp, fun k hk hne => ?_⟩
  rw [heap_grow_old _ _ (by simpa using hk)]
  have : g ≠ k := fun e => hne (by rw [e])
  simp [putRow, mapBlock, Sort.ahead, Array.getElem?_modify, this]
theorem heap_putRow {α : Type} [Inhabited α] (enc : α → Value) {w : World} {g n : Nat} {os : Array Obj} {cur : Array Value} {e : TypeId} {fr : Nat × Nat} (d : Array α) (hb : w.heap[g]? = some (.cells cur e fr)) :
    (grow (putRow enc (Sort.ahead w n) g 0 d) os).heap[g]? = some (.cells (putCells enc 0 d cur) e fr) := by
  have hg : g < w.heap.size := (Array.getElem?_eq_some_iff.1 hb).1
  rw [heap_grow_old _ _ (by simpa using hg)]
  simp [putRow, mapBlock, Sort.ahead, Array.getElem?_modify, hb, onCells]
theorem take_putRow {α : Type} [Inhabited α] (enc : α → Value) (cur : Array Value) (ts : List α) (h : ts.length ≤ cur.size) : (putCells enc 0 ts.toArray cur).toList.take ts.length = ts.map enc := by
  apply List.ext_getElem?
  intro j
  by_cases hj : j < ts.length
  · rw [List.getElem?_take_of_lt hj, Array.getElem?_toList]
    simp [putCells, hj, show j < cur.size by omega]
  · rw [List.getElem?_take_eq_none (by omega), List.getElem?_eq_none (by simp; omega)]
theorem map_range_getD (T : List (List Int)) : (List.range T.length).map (fun i => T.getD i []) = T := by
  apply List.ext_getElem
  · simp
  · intro i h1 h2
    simp [h2]
theorem OI_one {w : World} {v : Value} {l : List Int} {fp : List Nat} (h : OI w v l fp) : v.oneCell' = true := by
  obtain ⟨a, c, rfl⟩ := h.form
  rfl

theorem sortLL_any (ll : List (List Int)) (u : Value) (fp : List Nat) (w : World) (ho : OII w u ll fp) (hl : ll.length ≤ 1048576)
    (F : FuncId) (hcall : ∀ xs w, (callFunc F xs).run Tryz.prog w = .ok (.enter F xs) w)
    (hF : ∀ (a b : List Int) (x y : Value) (w : World), RdI w x a → RdI w y b → Calls Tryz.prog F #[x, y] w fun e w' => e = .returned (.int .i64 (cmpL a b)) ∧ w = w') :
    Calls Tryz.prog 119 #[u, .func (.func F) #[] #[]] w fun e w' => e = .returned (.tuple #[]) ∧ ∃ T fp', T.Perm ll ∧ SrtW T ∧ Off fp w w' ∧ OII w' u T fp' ∧ ∀ g ∈ fp', g ∈ fp := by
  by_cases h0 : 0 < ll.length
  · obtain ⟨g, cap, cur, vs, rfl, hn, hm, hs, hg, hgf, hcur, hout, helem, hpick⟩ := OII.parts ho h0
    have hd : ((List.range ll.length).toArray : Array Nat).size = ll.length := by simp
    have hdj : ∀ j, j < ll.length → ((List.range ll.length).toArray : Array Nat)[j]! = j := fun j hj => by simp [hj]
    have hH : Holds vs w g 0 (List.range ll.length).toArray := by
      intro j hj
      rw [hd] at hj
      rw [hdj j hj]
      exact ⟨by simp [World.cell?, hg, hcur j hj], by simp [World.frozen?, hg]⟩
    have h1 : OneCell vs := fun i => by
      by_cases hi : i < ll.length
      · obtain ⟨fi, hO, _⟩ := helem i hi
        exact OI_one hO
      · rw [hout i (by omega)]; rfl
    have hcmp : CmpLays1 Tryz.prog F #[] vs (fun x y => cmpL (ll.getD x []) (ll.getD y [])) g 0 ((List.range ll.length).toArray : Array Nat).size w := by
      intro m os dk _ x y
      have hG := grownBy_putRow vs (w := w) (g := g) (n := m) (os := os) dk
      have hO : Off [g] w (sortWorld vs w g 0 m dk os) := ⟨hG.os, hG.tape, hG.output, hG.size, fun k hk hnk => hG.block k hk fun h => hnk (by cases h; simp)⟩
      have hrd : ∀ i, RdI (sortWorld vs w g 0 m dk os) (vs i) (ll.getD i []) := fun i => by
        by_cases hi : i < ll.length
        · obtain ⟨fi, hOI, hgi⟩ := helem i hi
          rw [List.getD_eq_getElem?_getD, List.getElem?_eq_getElem hi]
          exact (hOI.off hO fun q hq hm => hgi (by simp at hm; exact hm ▸ hq)).rd
        · rw [hout i (by omega), List.getD_eq_getElem?_getD, List.getElem?_eq_none (by omega)]
          exact RdI.nil _
      refine (hF _ _ _ _ _ (hrd x) (hrd y)).mono ?_
      rintro e w' ⟨rfl, rfl⟩
      exact ⟨rfl, 0, #[], by rw [grow_empty]; rfl⟩
    have hc := Tryz.slices_SortFunc vs h1 (fun x y => cmpL (ll.getD x []) (ll.getD y [])) (swo_cmpL _) F #[] g 0 cap (List.range ll.length).toArray w hcall hcmp hH (Array.getElem?_eq_some_iff.1 hg).1 (by rw [hd]; omega)
    rw [hd] at hc
    refine hc.mono ?_
    rintro e w' ⟨rfl, d', n, os, hp, hsr, rfl⟩
    obtain ⟨hp1, -, hp3⟩ := hp
    rw [hd] at hp1
    have hperm : d'.toList.Perm (List.range ll.length) := by
      have e1 : (d'.extract 0 ll.length).toList = d'.toList := by rw [← hp1]; simp
      have e2 : ((List.range ll.length).toArray.extract 0 ll.length).toList = List.range ll.length := by simp
      rw [e1, e2] at hp3
      exact hp3
    have hKl : d'.toList.length = ll.length := by simpa using hp1
    have hG := grownBy_putRow vs (w := w) (g := g) (n := n) (os := os) d'
    have hO : Off [g] w (sortWorld vs w g 0 n d' os) := ⟨hG.os, hG.tape, hG.output, hG.size, fun k hk hnk => hG.block k hk fun h => hnk (by cases h; simp)⟩
    obtain ⟨fp', hII, hfp'⟩ := hpick d'.toList (sortWorld vs w g 0 n d' os) (fun i hi => List.mem_range.1 (hperm.mem_iff.1 hi)) (hperm.nodup_iff.2 List.nodup_range) hO (by
      refine ⟨by simp, .inr ⟨g, cap, _, rfl, Nat.zero_le _, heap_putRow vs d' hg, by omega, hm, by simp [putCells, hs], ?_⟩⟩
      have := take_putRow vs cur d'.toList (by omega)
      rw [Nat.mul_one]
      simpa using this)
    rw [hKl] at hII
    refine ⟨rfl, _, fp', ?_, ?_, hO.mono fun k hk => by simp at hk; exact hk ▸ hgf, hII, hfp'⟩
    · have := hperm.map fun i => ll.getD i []
      rw [map_range_getD] at this
      exact this
    · refine List.pairwise_map.2 (List.pairwise_iff_getElem.2 fun i j hi hj hij => ?_)
      have := hsr i j (Nat.zero_le _) hij (by omega)
      simp only [ltOf, decide_eq_false_iff_not] at this
      have gi : d'[i]! = d'.toList[i] := by simp at hi; simp [hi]
      have gj : d'[j]! = d'.toList[j] := by simp at hj; simp [hj]
      rw [gi, gj] at this
      exact this
  · have hnil : ll = [] := List.eq_nil_of_length_eq_zero (by omega)
    subst hnil
    obtain ⟨a, c, rfl⟩ := ho.form
    refine (Tryz.slices_SortFunc_none (α := Nat) a c _ w).mono ?_
    rintro e w' ⟨rfl, rfl⟩
    exact ⟨rfl, [], fp, List.Perm.refl _, List.Pairwise.nil, Off.refl _ _, ho, fun g hg => hg⟩
end
end Go.Proofs.YtajkepdfemdagaaGreatDoor
