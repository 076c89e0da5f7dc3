/- Owned lists whose elements own rows of their own: opened at one place, stored to, closed again; pushed to. The laws' own functions over a list of lists of integers. -/
import Derived.Test.YtajkepdfemdagaaGreatDoorC02
import Derived.Maps.AppendAt
namespace Go.Proofs.YtajkepdfemdagaaGreatDoor
open Go.RowKit
set_option linter.unusedVariables false

theorem Qt.trans {a b c : World} (h : Qt a b) (k : Qt b c) : Qt a c := by
  obtain ⟨n, rfl⟩ := k
  exact h.drewN n

structure ElemOk {α : Type} (E : World → List Value → α → List Nat → Prop) : Prop where
  kept : ∀ {w w' c x f}, E w c x f → (∀ g ∈ f, w'.heap[g]? = w.heap[g]?) → E w' c x f
  lt : ∀ {w c x f}, E w c x f → ∀ g ∈ f, g < w.heap.size
  nodup : ∀ {w c x f}, E w c x f → f.Nodup
section
variable {α : Type} {size e2 : Nat} {E : World → List Value → α → List Nat → Prop}

def OwnL (size e2 : Nat) (E : World → List Value → α → List Nat → Prop) (w : World) (v : Value) (xs : List α) (fp : List Nat) : Prop :=
  ∃ zs : List (List Value × α × List Nat), xs = zs.map (·.2.1) ∧ w.ownsRow 0 e2 size v zs.length (zs.flatMap (·.1)) ∧ (∀ g, g ∈ fp ↔ g ∈ v.ownBlock.toList ++ zs.flatMap (·.2.2)) ∧ (v.ownBlock.toList ++ zs.flatMap (·.2.2)).Nodup ∧
    ∀ z ∈ zs, z.1.length = size ∧ E w z.1 z.2.1 z.2.2

/-- the same, open at one place: cells c stand there; fo: the blocks of all else -/
def OwnO (size e2 : Nat) (E : World → List Value → α → List Nat → Prop) (w : World) (v : Value) (A : List α) (c : List Value) (B : List α) (b cap : Nat) (fo : List Nat) : Prop :=
  ∃ zA zB : List (List Value × α × List Nat), A = zA.map (·.2.1) ∧ B = zB.map (·.2.1) ∧ v = .slice (some ⟨b, 0, none⟩) (zA.length + 1 + zB.length) cap ∧ w.ownsRow 0 e2 size v (zA.length + 1 + zB.length) (zA.flatMap (·.1) ++ (c ++ zB.flatMap (·.1))) ∧ c.length = size ∧
    fo = b :: (zA.flatMap (·.2.2) ++ zB.flatMap (·.2.2)) ∧ fo.Nodup ∧ (∀ z ∈ zA, z.1.length = size ∧ E w z.1 z.2.1 z.2.2) ∧ ∀ z ∈ zB, z.1.length = size ∧ E w z.1 z.2.1 z.2.2

theorem flat_length {zs : List (List Value × α × List Nat)} (h : ∀ z ∈ zs, z.1.length = size) : (zs.flatMap (·.1)).length = zs.length * size := by
  induction zs with
  | nil => simp
  | cons z zs ih =>
    simp only [List.flatMap_cons, List.length_append, List.length_cons]
    rw [ih fun y hy => h y (List.mem_cons_of_mem _ hy), h z (List.mem_cons_self), Nat.add_mul]
    omega

theorem OwnL.kept (ok : ElemOk E) {w w' : World} {v : Value} {xs : List α} {fp : List Nat} (h : OwnL size e2 E w v xs fp) (hb : ∀ g ∈ fp, w'.heap[g]? = w.heap[g]?) : OwnL size e2 E w' v xs fp := by
  obtain ⟨zs, h1, h2, h3, h4, h5⟩ := h
  refine ⟨zs, h1, own_kept h2 fun g hg => hb g ((h3 g).2 (by simp [hg])), h3, h4, fun z hz => ⟨(h5 z hz).1, ok.kept (h5 z hz).2 fun g hg => hb g ((h3 g).2 ?_)⟩⟩
  exact List.mem_append_right _ (List.mem_flatMap.2 ⟨z, hz, hg⟩)
theorem OwnL.lt (ok : ElemOk E) {w : World} {v : Value} {xs : List α} {fp : List Nat} (h : OwnL size e2 E w v xs fp) : ∀ g ∈ fp, g < w.heap.size := by
  obtain ⟨zs, h1, h2, h3, h4, h5⟩ := h
  intro g hg
  rcases List.mem_append.1 ((h3 g).1 hg) with hg | hg
  · exact own_lt h2 g (by simpa using hg)
  · obtain ⟨z, hz, hg⟩ := List.mem_flatMap.1 hg
    exact ok.lt (h5 z hz).2 g hg
theorem OwnL.same {w : World} {v : Value} {xs : List α} {fp fp' : List Nat} (h : OwnL size e2 E w v xs fp) (hf : ∀ g, g ∈ fp' ↔ g ∈ fp) : OwnL size e2 E w v xs fp' := by
  obtain ⟨zs, h1, h2, h3, h4, h5⟩ := h
  exact ⟨zs, h1, h2, fun g => (hf g).trans (h3 g), h4, h5⟩
theorem OwnL.ext (ok : ElemOk E) {w w' : World} {v : Value} {xs : List α} {fp : List Nat} (h : OwnL size e2 E w v xs fp) (hE : Ext w w') : OwnL size e2 E w' v xs fp := h.kept ok fun g hg => hE.block g (h.lt ok g hg)
theorem OwnL.off (ok : ElemOk E) {w w' : World} {v : Value} {xs : List α} {fp fp' : List Nat} (h : OwnL size e2 E w v xs fp) (hO : Off fp' w w') (hd : ∀ g ∈ fp, g ∉ fp') : OwnL size e2 E w' v xs fp := h.kept ok fun g hg => hO.block g (h.lt ok g hg) (hd g hg)
theorem OwnL.nodupF {w : World} {v : Value} {xs : List α} {fp : List Nat} (h : OwnL size e2 E w v xs fp) : ∃ fp', fp'.Nodup ∧ OwnL size e2 E w v xs fp' ∧ ∀ g, g ∈ fp' ↔ g ∈ fp := by
  obtain ⟨zs, h1, h2, h3, h4, h5⟩ := h
  exact ⟨_, h4, ⟨zs, h1, h2, fun _ => Iff.rfl, h4, h5⟩, fun g => (h3 g).symm⟩
theorem OwnL.nil (w : World) : OwnL size e2 E w (.slice none 0 0) [] [] :=
  ⟨[], rfl, World.ownsRow_nil _ _ _ _, by simp [Value.ownBlock], by simp [Value.ownBlock], by simp⟩
theorem OwnL.made (w : World) (g : Nat) (hr : w.ownsRow 0 e2 size (.slice (some ⟨g, 0, none⟩) 0 0) 0 []) : OwnL size e2 E w (.slice (some ⟨g, 0, none⟩) 0 0) [] [g] :=
  ⟨[], rfl, hr, by simp [Value.ownBlock], by simp [Value.ownBlock], by simp⟩
theorem OwnL.form {w : World} {v : Value} {xs : List α} {fp : List Nat} (h : OwnL size e2 E w v xs fp) : ∃ a c, v = .slice a xs.length c := by
  obtain ⟨zs, h1, h2, h3, h4, h5⟩ := h
  rcases h2.2 with ⟨rfl, hn⟩ | ⟨g, cap, cur, rfl, _⟩
  · exact ⟨none, 0, by rw [h1, List.length_map, hn]⟩
  · exact ⟨_, cap, by rw [h1, List.length_map]⟩

/-- what is read at each place -/
theorem OwnL.at (h0 : 0 < size) {w : World} {v : Value} {xs : List α} {fp : List Nat} (h : OwnL size e2 E w v xs fp) :
    ∃ a b cap, ∃ cs : Nat → List Value, v = .slice a xs.length cap ∧ xs.length ≤ cap ∧ cap ≤ 9223372036854775807 ∧ (0 < xs.length → a = some ⟨b, 0, none⟩) ∧
      ∀ j (hj : j < xs.length), (cs j).length = size ∧ (∀ i u, (cs j)[i]? = some u → w.cell? ⟨b, 0 + j * size + i, none⟩ = some u) ∧ ∃ f, E w (cs j) xs[j] f := by
  obtain ⟨zs, rfl, h2, h3, h4, h5⟩ := h
  have hz : ∀ z ∈ zs, z.1.length = size := fun z hz => (h5 z hz).1
  rcases id h2.2 with ⟨rfl, hn⟩ | ⟨g, cap, cur, rfl, hbg, hg, hn, hm, hs, ht⟩
  · refine ⟨none, 0, 0, fun _ => [], by simp [hn], by simp [hn], by omega, by simp [hn], fun j hj => ?_⟩
    simp [hn] at hj
  · refine ⟨_, g, cap, fun j => (zs[j]?.map (·.1)).getD [], by simp, by simpa using hn, by unfold maxLen at hm; omega, fun _ => rfl, fun j hj => ?_⟩
    have hj' : j < zs.length := by simpa using hj
    have hmem : zs[j] ∈ zs := List.getElem_mem _
    simp only [List.getElem?_eq_getElem hj', Option.map_some, Option.getD_some, List.getElem_map]
    refine ⟨hz _ hmem, fun i u hu => ?_, _, (h5 _ hmem).2⟩
    have hi : i < zs[j].1.length := by
      rcases Nat.lt_or_ge i zs[j].1.length with h | h
      · exact h
      · rw [List.getElem?_eq_none h] at hu; cases hu
    rw [hz _ hmem] at hi
    have hb : j * size + i < zs.length * size := by
      have : (j + 1) * size ≤ zs.length * size := Nat.mul_le_mul_right _ hj'
      rw [Nat.add_mul] at this
      omega
    have hc := h2.cellAt (j * size + i) hb
    rw [Nat.zero_add, hc]
    have hsplit : zs = zs.take j ++ zs[j] :: zs.drop (j + 1) := by rw [← List.drop_eq_getElem_cons hj', List.take_append_drop]
    have hl : ((zs.take j).flatMap (·.1)).length = j * size := by
      rw [flat_length fun z hz' => hz z (List.mem_of_mem_take hz'), List.length_take, Nat.min_eq_left (Nat.le_of_lt hj')]
    have : (zs.flatMap (·.1))[j * size + i]? = ((zs.take j ++ zs[j] :: zs.drop (j + 1)).flatMap (·.1))[j * size + i]? := by rw [← hsplit]
    rw [this, List.flatMap_append, List.flatMap_cons, List.getElem?_append_right (by omega), hl, Nat.add_sub_cancel_left, List.getElem?_append_left (by rw [hz _ hmem]; exact hi)]
    exact hu

theorem OwnL.open {w : World} {v : Value} {A B : List α} {x : α} {fp : List Nat} (ok : ElemOk E) (h : OwnL size e2 E w v (A ++ x :: B) fp) :
    ∃ c b cap f fo, OwnO size e2 E w v A c B b cap fo ∧ E w c x f ∧ (∀ g ∈ f, g ∉ fo) ∧ ∀ g, g ∈ fp ↔ g ∈ fo ∨ g ∈ f := by
  obtain ⟨zs, h1, h2, h3, h4, h5⟩ := h
  obtain ⟨zA, zR, rfl, hA, hR⟩ := List.map_eq_append_iff.1 h1.symm
  obtain ⟨z, zB, rfl, hx, hB⟩ := List.map_eq_cons_iff.1 hR
  rcases id h2.2 with ⟨_, hn⟩ | ⟨g, cap, cur, rfl, -⟩
  · simp at hn
  · have hlen : (zA ++ z :: zB).length = zA.length + 1 + zB.length := by simp; omega
    have hz := h5 z (by simp)
    simp only [Value.ownBlock, Option.toList_some, List.flatMap_append, List.flatMap_cons, List.cons_append, List.nil_append] at h3 h4
    rw [hlen] at h2 ⊢
    rw [List.nodup_cons] at h4
    obtain ⟨hb, h4⟩ := h4
    obtain ⟨hnA, hnR, hdA⟩ := List.nodup_append.1 h4
    obtain ⟨hnz, hnB, hdB⟩ := List.nodup_append.1 hnR
    refine ⟨z.1, g, cap, z.2.2, _, ⟨zA, zB, hA.symm, hB.symm, rfl, by simpa [List.flatMap_append, List.flatMap_cons] using h2, hz.1, rfl, ?_, fun y hy => h5 y (by simp [hy]), fun y hy => h5 y (by simp [hy])⟩, hx ▸ hz.2, ?_, ?_⟩
    · rw [List.nodup_cons]
      refine ⟨fun hm => hb ?_, List.nodup_append.2 ⟨hnA, hnB, fun a ha b' hb' => hdA a ha b' (List.mem_append_right _ hb')⟩⟩
      rcases List.mem_append.1 hm with h | h
      · exact List.mem_append_left _ h
      · exact List.mem_append_right _ (List.mem_append_right _ h)
    · intro y hy hm
      rcases List.mem_cons.1 hm with rfl | hm
      · exact hb (List.mem_append_right _ (List.mem_append_left _ hy))
      · rcases List.mem_append.1 hm with h | h
        · exact hdA y h y (List.mem_append_left _ hy) rfl
        · exact hdB y hy y h rfl
    · intro y
      rw [h3]
      simp only [List.mem_cons, List.mem_append]
      constructor
      · rintro (h | h | h | h) <;> simp [h]
      · rintro ((h | h | h) | h) <;> simp [h]

theorem OwnO.close {w : World} {v : Value} {A B : List α} {c : List Value} {b cap : Nat} {fo f fp : List Nat} {y : α} (ok : ElemOk E) (h : OwnO size e2 E w v A c B b cap fo) (hy : E w c y f) (hd : ∀ g ∈ f, g ∉ fo) (hf : ∀ g, g ∈ fp ↔ g ∈ fo ∨ g ∈ f) :
    OwnL size e2 E w v (A ++ y :: B) fp := by
  obtain ⟨zA, zB, rfl, rfl, rfl, h2, hc, rfl, h4, hA, hB⟩ := h
  refine ⟨zA ++ (c, y, f) :: zB, by simp, ?_, ?_, ?_, ?_⟩
  · have hlen : (zA ++ (c, y, f) :: zB).length = zA.length + 1 + zB.length := by simp; omega
    rw [hlen]
    simpa [List.flatMap_append, List.flatMap_cons] using h2
  · intro g
    rw [hf]
    simp only [Value.ownBlock, Option.toList_some, List.flatMap_append, List.flatMap_cons, List.mem_cons, List.mem_append, List.not_mem_nil, or_false]
    constructor
    · rintro ((h | h | h) | h) <;> simp [h]
    · rintro (h | h | h | h) <;> simp [h]
  · simp only [Value.ownBlock, Option.toList_some, List.flatMap_append, List.flatMap_cons, List.cons_append, List.nil_append]
    rw [List.nodup_cons] at h4 ⊢
    obtain ⟨hb, h4⟩ := h4
    obtain ⟨hnA, hnB, hdAB⟩ := List.nodup_append.1 h4
    refine ⟨fun hm => ?_, List.nodup_append.2 ⟨hnA, List.nodup_append.2 ⟨ok.nodup hy, hnB, fun a ha b' hb' h => hd a ha (List.mem_cons_of_mem _ (List.mem_append_right _ (h ▸ hb')))⟩, fun a ha b' hb' h => ?_⟩⟩
    · rcases List.mem_append.1 hm with h | h
      · exact hb (List.mem_append_left _ h)
      · rcases List.mem_append.1 h with h | h
        · exact hd _ h List.mem_cons_self
        · exact hb (List.mem_append_right _ h)
    · rcases List.mem_append.1 hb' with h' | h'
      · exact hd b' h' (List.mem_cons_of_mem _ (List.mem_append_left _ (h ▸ ha)))
      · exact hdAB a ha b' h' h
  · intro z hz
    rcases List.mem_append.1 hz with h | h
    · exact hA z h
    · rcases List.mem_cons.1 h with rfl | h
      · exact ⟨hc, hy⟩
      · exact hB z h

theorem OwnO.kept (ok : ElemOk E) {w w' : World} {v : Value} {A B : List α} {c : List Value} {b cap : Nat} {fo : List Nat} (h : OwnO size e2 E w v A c B b cap fo) (hb : ∀ g ∈ fo, w'.heap[g]? = w.heap[g]?) : OwnO size e2 E w' v A c B b cap fo := by
  obtain ⟨zA, zB, hA, hB, hv, h2, hc, rfl, h4, h5, h6⟩ := h
  refine ⟨zA, zB, hA, hB, hv, own_kept h2 fun g hg => hb g ?_, hc, rfl, h4, fun z hz => ⟨(h5 z hz).1, ok.kept (h5 z hz).2 fun g hg => hb g ?_⟩, fun z hz => ⟨(h6 z hz).1, ok.kept (h6 z hz).2 fun g hg => hb g ?_⟩⟩
  · subst hv
    simp [Value.ownBlock] at hg
    simp [hg]
  · exact List.mem_cons_of_mem _ (List.mem_append_left _ (List.mem_flatMap.2 ⟨z, hz, hg⟩))
  · exact List.mem_cons_of_mem _ (List.mem_append_right _ (List.mem_flatMap.2 ⟨z, hz, hg⟩))
theorem OwnO.lt (ok : ElemOk E) {w : World} {v : Value} {A B : List α} {c : List Value} {b cap : Nat} {fo : List Nat} (h : OwnO size e2 E w v A c B b cap fo) : ∀ g ∈ fo, g < w.heap.size := by
  obtain ⟨zA, zB, hA, hB, rfl, h2, hc, rfl, h4, h5, h6⟩ := h
  intro g hg
  rcases List.mem_cons.1 hg with rfl | hg
  · exact own_lt h2 g rfl
  · rcases List.mem_append.1 hg with hg | hg
    · obtain ⟨z, hz, hg⟩ := List.mem_flatMap.1 hg
      exact ok.lt (h5 z hz).2 g hg
    · obtain ⟨z, hz, hg⟩ := List.mem_flatMap.1 hg
      exact ok.lt (h6 z hz).2 g hg
theorem OwnO.ext (ok : ElemOk E) {w w' : World} {v : Value} {A B : List α} {c : List Value} {b cap : Nat} {fo : List Nat} (h : OwnO size e2 E w v A c B b cap fo) (hE : Ext w w') : OwnO size e2 E w' v A c B b cap fo := h.kept ok fun g hg => hE.block g (h.lt ok g hg)
theorem OwnO.off (ok : ElemOk E) {w w' : World} {v : Value} {A B : List α} {c : List Value} {b cap : Nat} {fo fp' : List Nat} (h : OwnO size e2 E w v A c B b cap fo) (hO : Off fp' w w') (hd : ∀ g ∈ fo, g ∉ fp') : OwnO size e2 E w' v A c B b cap fo := h.kept ok fun g hg => hO.block g (h.lt ok g hg) (hd g hg)
theorem OwnO.parts {w : World} {v : Value} {A B : List α} {c : List Value} {b cap : Nat} {fo : List Nat} (h : OwnO size e2 E w v A c B b cap fo) :
    v = .slice (some ⟨b, 0, none⟩) (A.length + 1 + B.length) cap ∧ A.length + 1 + B.length ≤ cap ∧ cap ≤ 9223372036854775807 ∧ c.length = size ∧ b ∈ fo ∧ b < w.heap.size ∧ (∀ j, w.frozen? ⟨b, j, none⟩ = false) ∧ ∀ i u, c[i]? = some u → w.cell? ⟨b, A.length * size + i, none⟩ = some u := by
  obtain ⟨zA, zB, rfl, rfl, rfl, h2, hc, rfl, h4, h5, h6⟩ := h
  have hlt := own_lt h2 b rfl
  rcases id h2.2 with ⟨h', _⟩ | ⟨g, cap', cur, h', hbg, hg, hn, hm, hs, ht⟩
  · simp at h'
  · simp only [Value.slice.injEq, Option.some.injEq, Addr.mk.injEq, and_true, true_and] at h'
    obtain ⟨rfl, rfl⟩ := h'
    refine ⟨by simp, by simpa using hn, by unfold maxLen at hm; omega, hc, List.mem_cons_self, hlt, fun j => h2.frozenAt j, fun i u hu => ?_⟩
    have hi : i < c.length := by
      rcases Nat.lt_or_ge i c.length with h | h
      · exact h
      · rw [List.getElem?_eq_none h] at hu; cases hu
    have hb : zA.length * size + i < (zA.length + 1 + zB.length) * size := by rw [Nat.add_mul, Nat.add_mul]; omega
    have hl := flat_length fun z hz => (h5 z hz).1
    have hq := h2.cellAt _ hb
    rw [List.length_map, hq, List.getElem?_append_right (by omega), hl, Nat.add_sub_cancel_left, List.getElem?_append_left hi, hu]
theorem OwnO.store (ok : ElemOk E) {w : World} {v : Value} {A B : List α} {c : List Value} {b cap : Nat} {fo : List Nat} (h : OwnO size e2 E w v A c B b cap fo) (i : Nat) (hi : i < size) (u : Value) :
    OwnO size e2 E (w.setCell ⟨b, A.length * size + i, none⟩ u) v A (c.set i u) B b cap fo := by
  obtain ⟨zA, zB, rfl, rfl, rfl, h2, hc, rfl, h4, h5, h6⟩ := h
  have hl := flat_length fun z hz => (h5 z hz).1
  have hs := (h2.stored (zA.length * size + i) u).1
  rw [List.set_append_right _ _ (by omega), hl, Nat.add_sub_cancel_left, List.set_append_left _ _ (by omega)] at hs
  rw [List.length_map]
  have hk : ∀ g ∈ zA.flatMap (·.2.2) ++ zB.flatMap (·.2.2), (w.setCell ⟨b, zA.length * size + i, none⟩ u).heap[g]? = w.heap[g]? := fun g hg => Below.heap_setCell _ _ _ _ (by
    rintro rfl
    exact (List.nodup_cons.1 h4).1 hg)
  refine ⟨zA, zB, rfl, rfl, rfl, hs, by rw [List.length_set]; exact hc, rfl, h4, fun z hz => ⟨(h5 z hz).1, ok.kept (h5 z hz).2 fun g hg => hk g ?_⟩, fun z hz => ⟨(h6 z hz).1, ok.kept (h6 z hz).2 fun g hg => hk g ?_⟩⟩
  · exact List.mem_append_left _ (List.mem_flatMap.2 ⟨z, hz, hg⟩)
  · exact List.mem_append_right _ (List.mem_flatMap.2 ⟨z, hz, hg⟩)

/-- the row itself, and what an append of one element leaves -/
theorem OwnL.row (ok : ElemOk E) {w : World} {v : Value} {xs : List α} {fp : List Nat} (h : OwnL size e2 E w v xs fp) : ∃ cs, w.ownsRow 0 e2 size v xs.length cs ∧ (∀ g, v.ownBlock = some g → g ∈ fp) ∧
    ∀ {w4 : World} {v' : Value} {c : List Value} {x : α} {f : List Nat} {base : Nat}, E w c x f → c.length = size → (∀ g ∈ f, g ∉ fp) → w4.ownsRow base e2 size v' (xs.length + 1) (cs ++ c) → w.grownBy w4 v.ownBlock → (v'.ownBlock = v.ownBlock ∨ v'.ownBlock = some w.heap.size) →
      ∃ fp', OwnL size e2 E w4 v' (xs ++ [x]) fp' ∧ ∀ g ∈ fp', g ∈ fp ∨ g ∈ f ∨ g = w.heap.size := by
  have hlt := h.lt ok
  obtain ⟨zs, rfl, h2, h3, h4, h5⟩ := h
  refine ⟨zs.flatMap (·.1), by rw [List.length_map]; exact h2, fun g hg => (h3 g).2 (by simp [hg]), ?_⟩
  intro w4 v' c x f base hx hc hd hrow hg hat
  obtain ⟨hn1, hn2, hn3⟩ := List.nodup_append.1 h4
  have hfl := ok.lt hx
  have hold : ∀ g ∈ zs.flatMap (·.2.2), g < w.heap.size ∧ some g ≠ v.ownBlock := fun g hg' => ⟨hlt g ((h3 g).2 (List.mem_append_right _ hg')), fun h => hn3 g (by simp [← h]) g hg' rfl⟩
  have hof : ∀ g ∈ f, some g ≠ v.ownBlock := fun g hg' h => hd g hg' ((h3 g).2 (by simp [← h]))
  refine ⟨v'.ownBlock.toList ++ (zs ++ [(c, x, f)]).flatMap (·.2.2), ⟨zs ++ [(c, x, f)], by simp, ?_, fun _ => Iff.rfl, ?_, ?_⟩, ?_⟩
  · have : (zs ++ [(c, x, f)]).length = (zs.map (·.2.1)).length + 1 := by simp
    rw [this]
    exact own_base (by simpa [List.flatMap_append] using hrow) fun _ _ => Nat.zero_le _
  · refine List.nodup_append.2 ⟨by cases v'.ownBlock <;> simp, ?_, ?_⟩
    · rw [List.flatMap_append]
      refine List.nodup_append.2 ⟨hn2, by simpa using ok.nodup hx, fun a ha b' hb' h => ?_⟩
      simp only [List.flatMap_cons, List.flatMap_nil, List.append_nil] at hb'
      exact hd b' hb' ((h3 b').2 (List.mem_append_right _ (h ▸ ha)))
    · intro a ha b' hb' h
      subst h
      have hav : v'.ownBlock = some a := by simpa using ha
      rw [List.flatMap_append] at hb'
      rcases List.mem_append.1 hb' with hm | hm
      · obtain ⟨k1, k2⟩ := hold a hm
        rcases hat with hh | hh
        · exact k2 (by rw [← hav, hh])
        · rw [hh] at hav
          simp at hav
          omega
      · simp only [List.flatMap_cons, List.flatMap_nil, List.append_nil] at hm
        have k1 := hfl a hm
        rcases hat with hh | hh
        · exact hof a hm (by rw [← hav, hh])
        · rw [hh] at hav
          simp at hav
          omega
  · intro z hz
    rcases List.mem_append.1 hz with hm | hm
    · refine ⟨(h5 z hm).1, ok.kept (h5 z hm).2 fun g hg' => ?_⟩
      obtain ⟨k1, k2⟩ := hold g (List.mem_flatMap.2 ⟨z, hm, hg'⟩)
      exact hg.block g k1 k2
    · simp only [List.mem_singleton] at hm
      subst hm
      exact ⟨hc, ok.kept hx fun g hg' => hg.block g (hfl g hg') (hof g hg')⟩
  · intro g hg'
    rcases List.mem_append.1 hg' with hm | hm
    · have hav : v'.ownBlock = some g := by simpa using hm
      rcases hat with hh | hh
      · exact .inl ((h3 g).2 (by simp [← hh, hav]))
      · rw [hh] at hav
        simp at hav
        exact .inr (.inr hav.symm)
    · rw [List.flatMap_append] at hm
      rcases List.mem_append.1 hm with hm | hm
      · exact .inl ((h3 g).2 (List.mem_append_right _ hm))
      · exact .inr (.inl (by simpa using hm))

theorem OwnL.replicate {w : World} {g cap n : Nat} {z : List Value} {x : α} (hz : z.length = size) (hE : E w z x []) (hr : w.ownsRow 0 e2 size (.slice (some ⟨g, 0, none⟩) n cap) n (List.replicate n z).flatten) :
    OwnL size e2 E w (.slice (some ⟨g, 0, none⟩) n cap) (List.replicate n x) [g] := by
  refine ⟨List.replicate n (z, x, []), by simp, ?_, ?_, ?_, ?_⟩
  · rw [List.length_replicate]
    have : (List.replicate n (z, x, ([] : List Nat))).flatMap (·.1) = (List.replicate n z).flatten := by rw [List.flatMap_def, List.map_replicate]
    rw [this]
    exact hr
  · intro k
    have : (List.replicate n (z, x, ([] : List Nat))).flatMap (·.2.2) = [] := by simp
    rw [this]
    simp [Value.ownBlock]
  · have : (List.replicate n (z, x, ([] : List Nat))).flatMap (·.2.2) = [] := by simp
    rw [this]
    simp [Value.ownBlock]
  · intro y hy
    obtain ⟨_, rfl⟩ := List.mem_replicate.1 hy
    exact ⟨hz, hE⟩
end
end Go.Proofs.YtajkepdfemdagaaGreatDoor
namespace Go.Proofs.YtajkepdfemdagaaGreatDoor
open Go.RowKit
set_option linter.unusedVariables false

def eI (w : World) (c : List Value) (l : List Int) (f : List Nat) : Prop := ∃ u, c = [u] ∧ OI w u l f
theorem OI.nodup {w : World} {v : Value} {l : List Int} {fp : List Nat} (h : OI w v l fp) : fp.Nodup := by
  rw [h.2]
  cases v.ownBlock <;> simp
theorem eI_ok : ElemOk eI :=
  ⟨fun ⟨u, h1, h2⟩ hb => ⟨u, h1, h2.kept hb⟩, fun ⟨u, h1, h2⟩ => h2.lt, fun ⟨u, h1, h2⟩ => h2.nodup⟩
/-- v owns the lists ll, all blocks: fp -/
abbrev OII (w : World) (v : Value) (ll : List (List Int)) (fp : List Nat) : Prop := OwnL 1 37 eI w v ll fp
theorem OII.ext {w w' : World} {v : Value} {ll : List (List Int)} {fp : List Nat} (h : OII w v ll fp) (hE : Ext w w') : OII w' v ll fp := OwnL.ext eI_ok h hE
theorem OII.off {w w' : World} {v : Value} {ll : List (List Int)} {fp fp' : List Nat} (h : OII w v ll fp) (hO : Off fp' w w') (hd : ∀ g ∈ fp, g ∉ fp') : OII w' v ll fp := OwnL.off eI_ok h hO hd
theorem OII.lt {w : World} {v : Value} {ll : List (List Int)} {fp : List Nat} (h : OII w v ll fp) : ∀ g ∈ fp, g < w.heap.size := OwnL.lt eI_ok h
theorem OII.form {w : World} {v : Value} {ll : List (List Int)} {fp : List Nat} (h : OII w v ll fp) : ∃ a c, v = .slice a ll.length c := OwnL.form h
theorem OII.rd {w : World} {v : Value} {ll : List (List Int)} {fp : List Nat} (h : OII w v ll fp) : RdII w v ll := by
  obtain ⟨a, b, cap, cs, hv, h1, h2, h3, h4⟩ := OwnL.at (by omega) h
  refine ⟨a, b, 0, cap, fun j => ((cs j)[0]?).getD undef, hv, h1, h2, h3, fun j hj => ?_⟩
  obtain ⟨k1, k2, f, u, k3, k4⟩ := h4 j hj
  dsimp only
  rw [k3] at k2 ⊢
  have := k2 0 u rfl
  rw [Nat.mul_one, Nat.add_zero] at this
  exact ⟨this, k4.rd⟩
theorem RdII.form {w : World} {v : Value} {ll : List (List Int)} (h : RdII w v ll) : ∃ a c, v = .slice a ll.length c := by
  obtain ⟨a, b, off, cap, vs, hv, _⟩ := h
  exact ⟨a, cap, hv⟩
theorem OII_nil (w : World) : OII w (.slice none 0 0) [] [] := OwnL.nil w

/-- how many cells a list of lists has -/
def szII : List (List Int) → Nat
  | [] => 0
  | l :: ls => 1 + l.length + szII ls
def mkII : List (List Int) → Nat
  | [] => 0
  | l :: ls => l.length + mkII ls
def marksII (k : Int) : List (List Int) → List (List Int)
  | [] => []
  | l :: ls => marksI k l.length :: marksII (k + l.length) ls
def heldII : List (List Int) → Int → Int
  | [], k => k
  | l :: ls, k => if heldI l k < 0 then -1 else heldII ls (heldI l k)
theorem mkII_le : ∀ ll, mkII ll ≤ szII ll
  | [] => Nat.le_refl _
  | l :: ls => by have := mkII_le ls; unfold mkII szII; omega
theorem mkII_marks : ∀ k ll, mkII (marksII k ll) = mkII ll
  | _, [] => rfl
  | k, l :: ls => by simp [marksII, mkII, marksI_length, mkII_marks _ ls]
theorem marksII_length : ∀ k ll, (marksII k ll).length = ll.length
  | _, [] => rfl
  | k, l :: ls => by simp [marksII, marksII_length _ ls]
theorem mkII_take : ∀ (ll : List (List Int)) (k : Nat) (hk : k < ll.length), mkII (ll.take (k + 1)) = mkII (ll.take k) + ll[k].length
  | l :: ls, 0, _ => by simp [mkII]
  | l :: ls, k + 1, h => by simp only [List.take_succ_cons, mkII, mkII_take ls k (by simpa using h), List.getElem_cons_succ]; omega
theorem mkII_take_le : ∀ (ll : List (List Int)) (k : Nat), mkII (ll.take k) ≤ mkII ll
  | [], k => by simp
  | l :: ls, 0 => by simp [mkII]
  | l :: ls, k + 1 => by have := mkII_take_le ls k; simp only [List.take_succ_cons, mkII]; omega
theorem szII_take : ∀ (ll : List (List Int)) (k : Nat) (hk : k < ll.length), szII (ll.take (k + 1)) = szII (ll.take k) + 1 + ll[k].length
  | l :: ls, 0, _ => by simp [szII]
  | l :: ls, k + 1, h => by simp only [List.take_succ_cons, szII, szII_take ls k (by simpa using h), List.getElem_cons_succ]; omega
theorem szII_eq : ∀ ll : List (List Int), szII ll = ll.length + mkII ll
  | [] => rfl
  | l :: ls => by simp only [szII, mkII, List.length_cons, szII_eq ls]; omega
theorem len_le_szII (ll : List (List Int)) : ll.length ≤ szII ll := by have := szII_eq ll; omega
theorem elem_le_szII {ll : List (List Int)} {k : Nat} (hk : k < ll.length) : ll[k].length ≤ szII ll := by
  have h1 := mkII_take ll k hk
  have h2 := mkII_take_le ll (k + 1)
  have h3 := mkII_le ll
  omega
theorem marksII_take : ∀ (ll : List (List Int)) (k0 : Int) (k : Nat) (hk : k < ll.length), marksII k0 (ll.take (k + 1)) = marksII k0 (ll.take k) ++ [marksI (k0 + mkII (ll.take k)) ll[k].length]
  | l :: ls, k0, 0, _ => by simp [marksII, mkII]
  | l :: ls, k0, k + 1, h => by
    simp only [List.take_succ_cons, marksII, mkII, marksII_take ls _ k (by simpa using h), List.getElem_cons_succ, List.cons_append]
    rw [show k0 + (l.length : Int) + (mkII (ls.take k) : Int) = k0 + ((l.length + mkII (ls.take k) : Nat) : Int) by omega]
theorem heldII_marks : ∀ (k : Int) ll, 0 ≤ k → heldII (marksII k ll) k = k + mkII ll
  | k, [], _ => by simp [marksII, heldII, mkII]
  | k, l :: ls, h => by
    simp only [marksII, heldII, mkII]
    rw [heldI_marks, if_neg (by omega), heldII_marks _ ls (by omega)]
    omega
theorem heldI_ge {l : List Int} {k : Int} (hk : 0 ≤ k) (h : ¬ heldI l k < 0) : heldI l k = k + l.length := by
  unfold heldI at h ⊢
  split at h
  · rename_i hh; rw [if_pos hh]
  · omega
theorem heldII_take : ∀ (ll : List (List Int)) (k0 : Int) (k : Nat) (hk : k ≤ ll.length), 0 ≤ k0 → (∀ x, heldII (ll.take k) k0 = x → 0 ≤ x → heldII ll k0 = heldII (ll.drop k) x)
  | ll, k0, 0, _, h0 => fun x hx h => by simp [heldII] at hx; simp [hx]
  | l :: ls, k0, k + 1, hk, h0 => fun x hx h => by
    simp only [List.take_succ_cons, heldII, List.drop_succ_cons] at hx ⊢
    by_cases hh : heldI l k0 < 0
    · rw [if_pos hh] at hx
      omega
    · rw [if_neg hh] at hx ⊢
      exact heldII_take ls _ k (by simpa using hk) (by omega) x hx h



set_option maxHeartbeats 1000000 in
theorem eqInt64SS_any (l m : List (List Int)) (v u : Value) (w : World) (hr : RdII w v l) (hs : RdII w u m) :
    Calls Tryz.prog 149 #[v, u] w fun e w' => e = .returned (.bool (decide (l = m))) ∧ Ext w w' := by
  obtain ⟨a, b, off, cap, vs, rfl, hlc, hcm, ha, hc⟩ := hr
  obtain ⟨a', b', off', cap', vs', rfl, hlc', hcm', ha', hc'⟩ := hs
  by_cases hlen : l.length = m.length
  · have hb : ((l.length : Int) != (m.length : Int)) = false := by simp [hlen]
    go_enter Tryz.func149, Tryz.ntmps149
    go_wp2
    go_loopw [5] (fun i wr => ∃ k : Nat, k ≤ l.length ∧ i = .int .i64 k ∧ Qt w wr ∧ l.take k = m.take k) (fun i _ => l.length - (intOf i).toNat)
    case atStart => exact ⟨0, by omega, rfl, Qt.refl _, rfl⟩
    case round =>
      obtain ⟨k, hk, rfl, hE, ht⟩ := hrel
      have HB := Lib.hid hb
      have HT := Lib.hid ht
      clear hb ht
      by_cases hkl : k < l.length
      · have hkm : k < m.length := by omega
        obtain rfl := ha (by omega)
        obtain rfl := ha' (by omega)
        obtain ⟨h1, k1⟩ := hc k hkl
        obtain ⟨h2, k2⟩ := hc' k hkm
        replace h1 := hE.ext.cell h1
        replace h2 := hE.ext.cell h2
        replace k1 := k1.ext hE.ext
        replace k2 := k2.ext hE.ext
        have HL := Lib.hid hlen
        clear hlen
        by_cases hlk : l[k] = m[k]
        · have hT : decide (l[k] = m[k]) = true := decide_eq_true hlk
          have HK := Lib.hid (show l.take (k + 1) = m.take (k + 1) from by rw [List.take_succ_eq_append_getElem hkl, List.take_succ_eq_append_getElem hkm, HT.out, hlk])
          clear hlk
          go_wp2_with fail
          go_quiet ((go_at_call 171; refine Calls.quiet_of (v := .bool true) ?_; refine (eqInt64S_q _ _ _ _ _ (k1.ext (Qt.ext ⟨_, rfl⟩)) (k2.ext (Qt.ext ⟨_, rfl⟩))).mono ?_; rintro e w' ⟨he, hq⟩; exact ⟨by rw [he, hT], hq⟩))
          have hnx : Qt w (wr.drewN nq) := hE.drewN _
          go_wp2_with fail
          go_roundw
          case rel => exact ⟨k + 1, by omega, by go_num, hnx, HK.out⟩
          case measure => simp [intOf]; omega
        · have hT : decide (l[k] = m[k]) = false := decide_eq_false hlk
          have HN := Lib.hid (show decide (l = m) = false from decide_eq_false fun h => hlk (by subst h; rfl))
          clear hlk
          go_wp2_with fail
          go_quiet ((go_at_call 171; refine Calls.quiet_of (v := .bool false) ?_; refine (eqInt64S_q _ _ _ _ _ (k1.ext (Qt.ext ⟨_, rfl⟩)) (k2.ext (Qt.ext ⟨_, rfl⟩))).mono ?_; rintro e w' ⟨he, hq⟩; exact ⟨by rw [he, hT], hq⟩))
          have hnx : Qt w (wr.drewN nq) := hE.drewN _
          go_wp2_with fail
          go_ret
          exact ⟨ret_bool HN.out.symm, hnx.ext⟩
      · go_wp2
        go_ret
        refine ⟨ret_bool ?_, hE.ext⟩
        have hkk : k = l.length := by omega
        have := HT.out
        rw [hkk, List.take_length, hlen, List.take_length] at this
        simp [this]
  · have hb : ((l.length : Int) != (m.length : Int)) = true := by simp; omega
    have hne : ¬ l = m := fun h => hlen (by rw [h])
    have HN := Lib.hid hne
    clear hne hlen
    go_enter Tryz.func149, Tryz.ntmps149
    go_wp2
    go_ret
    exact ⟨ret_bool (by simp [HN.out]), Ext.refl' _⟩

set_option maxHeartbeats 1000000 in
theorem markInt64SS_any (ll : List (List Int)) (v : Value) (fp : List Nat) (k0 : Int) (w : World) (ho : OII w v ll fp) (hk0 : 0 ≤ k0) (hb : k0 + mkII ll ≤ 4611686018427387904) :
    Calls Tryz.prog 100 #[v, .int .i64 k0] w fun e w' => e = .returned (.int .i64 (k0 + mkII ll)) ∧ Off fp w w' ∧ OII w' v (marksII k0 ll) fp := by
  obtain ⟨a, c, rfl⟩ := ho.form
  have hlen : (ll.length : Int) ≤ 9223372036854775807 := by
    obtain ⟨a', b', off', cap', vs, hv, h1, h2, _⟩ := ho.rd
    omega
  go_enter Tryz.func100, Tryz.ntmps100
  go_wp2
  go_loopw [1, 5] (fun q i wr => ∃ k : Nat, k ≤ ll.length ∧ i = .int .i64 k ∧ q = .int .i64 (k0 + mkII (ll.take k)) ∧ Off fp w wr ∧ OII wr (.slice a ll.length c) (marksII k0 (ll.take k) ++ ll.drop k) fp)
    (fun _ i _ => ll.length - (intOf i).toNat)
  case atStart => exact ⟨0, by omega, rfl, by simp [mkII], Off.refl _ _, by simpa [marksII] using ho⟩
  case round =>
    obtain ⟨k, hk, rfl, rfl, hO, ho1⟩ := hrel
    by_cases hkl : k < ll.length
    · have hT := mkII_take ll k hkl
      have hT2 := mkII_take_le ll (k + 1)
      rw [List.drop_eq_getElem_cons hkl] at ho1
      obtain ⟨cs, b2, cap2, f, fo, hOp, ⟨u, rfl, hu⟩, hd, hfo⟩ := OwnL.open eI_ok ho1
      obtain ⟨hv, q1, q2, q3, q4, q5, q6, q7⟩ := hOp.parts
      simp only [Value.slice.injEq] at hv
      obtain ⟨rfl, hl2, rfl⟩ := hv
      have hA : (marksII k0 (ll.take k)).length = k := by rw [marksII_length]; simp; omega
      have hck := q7 0 u rfl
      rw [hA, Nat.mul_one, Nat.add_zero] at hck
      clear hl2 q1 q7
      go_wp2_with fail
      refine (markInt64S_any _ _ _ _ _ hu (by omega) (by omega)).mono ?_
      rintro e w2 ⟨rfl, hO2, hu2⟩
      have hOp2 := OwnO.off eI_ok hOp hO2 (fun g hg hm => hd g hm hg)
      have hX := OwnO.close (fp := fp) eI_ok hOp2 ⟨_, rfl, hu2⟩ hd hfo
      have hO3 : Off fp w w2 := hO.trans (hO2.mono fun g hg => (hfo g).2 (.inr hg))
      have hM := marksII_take ll k0 k hkl
      have hX2 : OII w2 (.slice (some ⟨b2, 0, none⟩) ll.length c) (marksII k0 (ll.take (k + 1)) ++ ll.drop (k + 1)) fp := by rw [hM, List.append_assoc]; exact hX
      have hQ := Lib.hid (show k0 + (mkII (ll.take k) : Int) + (ll[k].length : Int) = k0 + (mkII (ll.take (k + 1)) : Int) from by omega)
      clear ho1 hOp hOp2 hX hM q6 hA hT
      go_wp2_with fail
      go_roundw
      case rel => exact ⟨k + 1, by omega, by go_num, by rw [hQ.out], hO3, hX2⟩
      case measure => simp [intOf]; omega
    · go_wp2
      go_ret
      have hkk : k = ll.length := by omega
      subst hkk
      rw [List.take_length] at ho1 ⊢
      rw [List.drop_length, List.append_nil] at ho1
      exact ⟨rfl, hO, ho1⟩

set_option maxHeartbeats 1000000 in
theorem heldInt64SS_any (ll : List (List Int)) (v : Value) (k0 : Int) (w : World) (hr : RdII w v ll) (hk0 : 0 ≤ k0) (hb : k0 + mkII ll ≤ 4611686018427387904) :
    Calls Tryz.prog 101 #[v, .int .i64 k0] w fun e w' => e = .returned (.int .i64 (heldII ll k0)) ∧ Ext w w' := by
  obtain ⟨a, b, off, cap, vs, rfl, hlc, hcm, ha, hc⟩ := hr
  go_enter Tryz.func101, Tryz.ntmps101
  go_wp2
  go_loopw [1, 5] (fun q i wr => ∃ k : Nat, k ≤ ll.length ∧ i = .int .i64 k ∧ q = .int .i64 (k0 + mkII (ll.take k)) ∧ Ext w wr ∧ heldII ll k0 = heldII (ll.drop k) (k0 + mkII (ll.take k)))
    (fun _ i _ => ll.length - (intOf i).toNat)
  case atStart => exact ⟨0, by omega, rfl, by simp [mkII], Ext.refl' _, by simp [mkII]⟩
  case round =>
    obtain ⟨k, hk, rfl, rfl, hE, ht⟩ := hrel
    have HT := Lib.hid ht
    clear ht
    by_cases hkl : k < ll.length
    · obtain rfl := ha (by omega)
      obtain ⟨hck, hrk⟩ := hc k hkl
      have hT := mkII_take ll k hkl
      have hT2 := mkII_take_le ll (k + 1)
      replace hck := hE.cell hck
      have hdrop := List.drop_eq_getElem_cons hkl
      by_cases hneg : heldI ll[k] (k0 + mkII (ll.take k)) < 0
      · have HN := Lib.hid (show heldII ll k0 = -1 from by rw [HT.out, hdrop, heldII, if_pos hneg])
        clear hdrop
        go_wp2_with fail
        refine (heldInt64S_any _ _ _ _ (hrk.ext hE) (by omega) (by omega)).mono ?_
        rintro e w2 ⟨rfl, hE2⟩
        go_wp2_with fail
        go_ret
        exact ⟨ret_int HN.out.symm, hE.tr hE2⟩
      · have hge := heldI_ge (by omega) hneg
        have hQ := Lib.hid (show heldI ll[k] (k0 + (mkII (ll.take k) : Int)) = k0 + (mkII (ll.take (k + 1)) : Int) from by rw [hge]; omega)
        have HN := Lib.hid (show heldII ll k0 = heldII (ll.drop (k + 1)) (k0 + mkII (ll.take (k + 1))) from by rw [HT.out, hdrop, heldII, if_neg hneg, hQ.out])
        clear hdrop hge
        go_wp2_with fail
        refine (heldInt64S_any _ _ _ _ (hrk.ext hE) (by omega) (by omega)).mono ?_
        rintro e w2 ⟨rfl, hE2⟩
        go_wp2_with fail
        go_roundw
        case rel => exact ⟨k + 1, by omega, by go_num, by rw [hQ.out], hE.tr hE2, HN.out⟩
        case measure => simp [intOf]; omega
    · go_wp2
      go_ret
      have hkk : k = ll.length := by omega
      have := HT.out
      subst hkk
      rw [List.drop_length] at this
      exact ⟨ret_int (by rw [this]; rfl), hE⟩
end Go.Proofs.YtajkepdfemdagaaGreatDoor
