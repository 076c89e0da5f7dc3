
/- Owned lists whose elements own rows of their own: opened at one place, stored to, closed again; pushed to. -/
import Derived.Test.YtajkepdfemdagaaGreatDoorInts
import Derived.Maps.AppendAt
namespace Go.Proofs.YtajkepdfemdagaaGreatDoor
open Go.RowKit
set_option linter.unusedVariables false

theorem Qt.trans {a b c : World} (h : Qt a b) (k : Qt b c) : Qt a c := by
  obtain ⟨n, rfl⟩ := k
  exact h.drewN n

structure ElemOk {α : Type} (E : World → List Value → α → List Nat → Prop) : Prop where
  kept : ∀ {w w' c x f}, E w c x f → (∀ g ∈ f, w'.heap[g]? = w.heap[g]?) → E w' c x f
  lt : ∀ {w c x f}, E w c x f → ∀ g ∈ f, g < w.heap.size
  nodup : ∀ {w c x f}, E w c x f → f.Nodup
section
variable {α : Type} {size e2 : Nat} {E : World → List Value → α → List Nat → Prop}

def OwnL (size e2 : Nat) (E : World → List Value → α → List Nat → Prop) (w : World) (v : Value) (xs : List α) (fp : List Nat) : Prop :=
  ∃ zs : List (List Value × α × List Nat), xs = zs.map (·.2.1) ∧ w.ownsRow 0 e2 size v zs.length (zs.flatMap (·.1)) ∧ (∀ g, g ∈ fp ↔ g ∈ v.ownBlock.toList ++ zs.flatMap (·.2.2)) ∧ (v.ownBlock.toList ++ zs.flatMap (·.2.2)).Nodup ∧
    ∀ z ∈ zs, z.1.length = size ∧ E w z.1 z.2.1 z.2.2

/-- the same, open at one place: cells c stand there; fo: the blocks of all else -/
def OwnO (size e2 : Nat) (E : World → List Value → α → List Nat → Prop) (w : World) (v : Value) (A : List α) (c : List Value) (B : List α) (b cap : Nat) (fo : List Nat) : Prop :=
  ∃ zA zB : List (List Value × α × List Nat), A = zA.map (·.2.1) ∧ B = zB.map (·.2.1) ∧ v = .slice (some ⟨b, 0, none⟩) (zA.length + 1 + zB.length) cap ∧ w.ownsRow 0 e2 size v (zA.length + 1 + zB.length) (zA.flatMap (·.1) ++ (c ++ zB.flatMap (·.1))) ∧ c.length = size ∧
    fo = b :: (zA.flatMap (·.2.2) ++ zB.flatMap (·.2.2)) ∧ fo.Nodup ∧ (∀ z ∈ zA, z.1.length = size ∧ E w z.1 z.2.1 z.2.2) ∧ ∀ z ∈ zB, z.1.length = size ∧ E w z.1 z.2.1 z.2.2

theorem flat_length {zs : List (List Value × α × List Nat)} (h : ∀ z ∈ zs, z.1.length = size) : (zs.flatMap (·.1)).length = zs.length * size := by
  induction zs with
  | nil => simp
  | cons z zs ih =>
    simp only [List.flatMap_cons, List.length_append, List.length_cons]
    rw [ih fun y hy => h y (List.mem_cons_of_mem _ hy), h z (List.mem_cons_self), Nat.add_mul]
    omega

theorem OwnL.kept (ok : ElemOk E) {w w' : World} {v : Value} {xs : List α} {fp : List Nat} (h : OwnL size e2 E w v xs fp) (hb : ∀ g ∈ fp, w'.heap[g]? = w.heap[g]?) : OwnL size e2 E w' v xs fp := by
  obtain ⟨zs, h1, h2, h3, h4, h5⟩ := h
  refine ⟨zs, h1, own_kept h2 fun g hg => hb g ((h3 g).2 (by simp [hg])), h3, h4, fun z hz => ⟨(h5 z hz).1, ok.kept (h5 z hz).2 fun g hg => hb g ((h3 g).2 ?_)⟩⟩
  exact List.mem_append_right _ (List.mem_flatMap.2 ⟨z, hz, hg⟩)
theorem OwnL.lt (ok : ElemOk E) {w : World} {v : Value} {xs : List α} {fp : List Nat} (h : OwnL size e2 E w v xs fp) : ∀ g ∈ fp, g < w.heap.size := by
  obtain ⟨zs, h1, h2, h3, h4, h5⟩ := h
  intro g hg
  rcases List.mem_append.1 ((h3 g).1 hg) with hg | hg
  · exact own_lt h2 g (by simpa using hg)
  · obtain ⟨z, hz, hg⟩ := List.mem_flatMap.1 hg
    exact ok.lt (h5 z hz).2 g hg
theorem OwnL.same {w : World} {v : Value} {xs : List α} {fp fp' : List Nat} (h : OwnL size e2 E w v xs fp) (hf : ∀ g, g ∈ fp' ↔ g ∈ fp) : OwnL size e2 E w v xs fp' := by
  obtain ⟨zs, h1, h2, h3, h4, h5⟩ := h
  exact ⟨zs, h1, h2, fun g => (hf g).trans (h3 g), h4, h5⟩
theorem OwnL.ext (ok : ElemOk E) {w w' : World} {v : Value} {xs : List α} {fp : List Nat} (h : OwnL size e2 E w v xs fp) (hE : Ext w w') : OwnL size e2 E w' v xs fp := h.kept ok fun g hg => hE.block g (h.lt ok g hg)
theorem OwnL.off (ok : ElemOk E) {w w' : World} {v : Value} {xs : List α} {fp fp' : List Nat} (h : OwnL size e2 E w v xs fp) (hO : Off fp' w w') (hd : ∀ g ∈ fp, g ∉ fp') : OwnL size e2 E w' v xs fp := h.kept ok fun g hg => hO.block g (h.lt ok g hg) (hd g hg)
theorem OwnL.nodupF {w : World} {v : Value} {xs : List α} {fp : List Nat} (h : OwnL size e2 E w v xs fp) : ∃ fp', fp'.Nodup ∧ OwnL size e2 E w v xs fp' ∧ ∀ g, g ∈ fp' ↔ g ∈ fp := by
  obtain ⟨zs, h1, h2, h3, h4, h5⟩ := h
  exact ⟨_, h4, ⟨zs, h1, h2, fun _ => Iff.rfl, h4, h5⟩, fun g => (h3 g).symm⟩
theorem OwnL.nil (w : World) : OwnL size e2 E w (.slice none 0 0) [] [] :=
  ⟨[], rfl, World.ownsRow_nil _ _ _ _, by simp [Value.ownBlock], by simp [Value.ownBlock], by simp⟩
theorem OwnL.made (w : World) (g : Nat) (hr : w.ownsRow 0 e2 size (.slice (some ⟨g, 0, none⟩) 0 0) 0 []) : OwnL size e2 E w (.slice (some ⟨g, 0, none⟩) 0 0) [] [g] :=
  ⟨[], rfl, hr, by simp [Value.ownBlock], by simp [Value.ownBlock], by simp⟩
theorem OwnL.form {w : World} {v : Value} {xs : List α} {fp : List Nat} (h : OwnL size e2 E w v xs fp) : ∃ a c, v = .slice a xs.length c := by
  obtain ⟨zs, h1, h2, h3, h4, h5⟩ := h
  rcases h2.2 with ⟨rfl, hn⟩ | ⟨g, cap, cur, rfl, _⟩
  · exact ⟨none, 0, by rw [h1, List.length_map, hn]⟩
  · exact ⟨_, cap, by rw [h1, List.length_map]⟩

/-- what is read at each place -/
theorem OwnL.at (h0 : 0 < size) {w : World} {v : Value} {xs : List α} {fp : List Nat} (h : OwnL size e2 E w v xs fp) :
    ∃ a b cap, ∃ cs : Nat → List Value, v = .slice a xs.length cap ∧ xs.length ≤ cap ∧ cap ≤ 9223372036854775807 ∧ (0 < xs.length → a = some ⟨b, 0, none⟩) ∧
      ∀ j (hj : j < xs.length), (cs j).length = size ∧ (∀ i u, (cs j)[i]? = some u → w.cell? ⟨b, 0 + j * size + i, none⟩ = some u) ∧ ∃ f, E w (cs j) xs[j] f := by
  obtain ⟨zs, rfl, h2, h3, h4, h5⟩ := h
  have hz : ∀ z ∈ zs, z.1.length = size := fun z hz => (h5 z hz).1
  rcases id h2.2 with ⟨rfl, hn⟩ | ⟨g, cap, cur, rfl, hbg, hg, hn, hm, hs, ht⟩
  · refine ⟨none, 0, 0, fun _ => [], by simp [hn], by simp [hn], by omega, by simp [hn], fun j hj => ?_⟩
    simp [hn] at hj
  · refine ⟨_, g, cap, fun j => (zs[j]?.map (·.1)).getD [], by simp, by simpa using hn, by unfold maxLen at hm; omega, fun _ => rfl, fun j hj => ?_⟩
    have hj' : j < zs.length := by simpa using hj
    have hmem : zs[j] ∈ zs := List.getElem_mem _
    simp only [List.getElem?_eq_getElem hj', Option.map_some, Option.getD_some, List.getElem_map]
    refine ⟨hz _ hmem, fun i u hu => ?_, _, (h5 _ hmem).2⟩
    have hi : i < zs[j].1.length := by
      rcases Nat.lt_or_ge i zs[j].1.length with h | h
      · exact h
      · rw [List.getElem?_eq_none h] at hu; cases hu
    rw [hz _ hmem] at hi
    have hb : j * size + i < zs.length * size := by
      have : (j + 1) * size ≤ zs.length * size := Nat.mul_le_mul_right _ hj'
      rw [Nat.add_mul] at this
      omega
    have hc := h2.cellAt (j * size + i) hb
    rw [Nat.zero_add, hc]
    have hsplit : zs = zs.take j ++ zs[j] :: zs.drop (j + 1) := by rw [← List.drop_eq_getElem_cons hj', List.take_append_drop]
    have hl : ((zs.take j).flatMap (·.1)).length = j * size := by
      rw [flat_length fun z hz' => hz z (List.mem_of_mem_take hz'), List.length_take, Nat.min_eq_left (Nat.le_of_lt hj')]
    have : (zs.flatMap (·.1))[j * size + i]? = ((zs.take j ++ zs[j] :: zs.drop (j + 1)).flatMap (·.1))[j * size + i]? := by rw [← hsplit]
    rw [this, List.flatMap_append, List.flatMap_cons, List.getElem?_append_right (by omega), hl, Nat.add_sub_cancel_left, List.getElem?_append_left (by rw [hz _ hmem]; exact hi)]
    exact hu

theorem OwnL.open {w : World} {v : Value} {A B : List α} {x : α} {fp : List Nat} (ok : ElemOk E) (h : OwnL size e2 E w v (A ++ x :: B) fp) :
    ∃ c b cap f fo, OwnO size e2 E w v A c B b cap fo ∧ E w c x f ∧ (∀ g ∈ f, g ∉ fo) ∧ ∀ g, g ∈ fp ↔ g ∈ fo ∨ g ∈ f := by
  obtain ⟨zs, h1, h2, h3, h4, h5⟩ := h
  obtain ⟨zA, zR, rfl, hA, hR⟩ := List.map_eq_append_iff.1 h1.symm
  obtain ⟨z, zB, rfl, hx, hB⟩ := List.map_eq_cons_iff.1 hR
  rcases id h2.2 with ⟨_, hn⟩ | ⟨g, cap, cur, rfl, -⟩
  · simp at hn
  · have hlen : (zA ++ z :: zB).length = zA.length + 1 + zB.length := by simp; omega
    have hz := h5 z (by simp)
    simp only [Value.ownBlock, Option.toList_some, List.flatMap_append, List.flatMap_cons, List.cons_append, List.nil_append] at h3 h4
    rw [hlen] at h2 ⊢
    rw [List.nodup_cons] at h4
    obtain ⟨hb, h4⟩ := h4
    obtain ⟨hnA, hnR, hdA⟩ := List.nodup_append.1 h4
    obtain ⟨hnz, hnB, hdB⟩ := List.nodup_append.1 hnR
    refine ⟨z.1, g, cap, z.2.2, _, ⟨zA, zB, hA.symm, hB.symm, rfl, by simpa [List.flatMap_append, List.flatMap_cons] using h2, hz.1, rfl, ?_, fun y hy => h5 y (by simp [hy]), fun y hy => h5 y (by simp [hy])⟩, hx ▸ hz.2, ?_, ?_⟩
    · rw [List.nodup_cons]
      refine ⟨fun hm => hb ?_, List.nodup_append.2 ⟨hnA, hnB, fun a ha b' hb' => hdA a ha b' (List.mem_append_right _ hb')⟩⟩
      rcases List.mem_append.1 hm with h | h
      · exact List.mem_append_left _ h
      · exact List.mem_append_right _ (List.mem_append_right _ h)
    · intro y hy hm
      rcases List.mem_cons.1 hm with rfl | hm
      · exact hb (List.mem_append_right _ (List.mem_append_left _ hy))
      · rcases List.mem_append.1 hm with h | h
        · exact hdA y h y (List.mem_append_left _ hy) rfl
        · exact hdB y hy y h rfl
    · intro y
      rw [h3]
      simp only [List.mem_cons, List.mem_append]
      constructor
      · rintro (h | h | h | h) <;> simp [h]
      · rintro ((h | h | h) | h) <;> simp [h]

theorem OwnO.close {w : World} {v : Value} {A B : List α} {c : List Value} {b cap : Nat} {fo f fp : List Nat} {y : α} (ok : ElemOk E) (h : OwnO size e2 E w v A c B b cap fo) (hy : E w c y f) (hd : ∀ g ∈ f, g ∉ fo) (hf : ∀ g, g ∈ fp ↔ g ∈ fo ∨ g ∈ f) :
    OwnL size e2 E w v (A ++ y :: B) fp := by
  obtain ⟨zA, zB, rfl, rfl, rfl, h2, hc, rfl, h4, hA, hB⟩ := h
  refine ⟨zA ++ (c, y, f) :: zB, by simp, ?_, ?_, ?_, ?_⟩
  · have hlen : (zA ++ (c, y, f) :: zB).length = zA.length + 1 + zB.length := by simp; omega
    rw [hlen]
    simpa [List.flatMap_append, List.flatMap_cons] using h2
  · intro g
    rw [hf]
    simp only [Value.ownBlock, Option.toList_some, List.flatMap_append, List.flatMap_cons, List.mem_cons, List.mem_append, List.not_mem_nil, or_false]
    constructor
    · rintro ((h | h | h) | h) <;> simp [h]
    · rintro (h | h | h | h) <;> simp [h]
  · simp only [Value.ownBlock, Option.toList_some, List.flatMap_append, List.flatMap_cons, List.cons_append, List.nil_append]
    rw [List.nodup_cons] at h4 ⊢
    obtain ⟨hb, h4⟩ := h4
    obtain ⟨hnA, hnB, hdAB⟩ := List.nodup_append.1 h4
    refine ⟨fun hm => ?_, List.nodup_append.2 ⟨hnA, List.nodup_append.2 ⟨ok.nodup hy, hnB, fun a ha b' hb' h => hd a ha (List.mem_cons_of_mem _ (List.mem_append_right _ (h ▸ hb')))⟩, fun a ha b' hb' h => ?_⟩⟩
    · rcases List.mem_append.1 hm with h | h
      · exact hb (List.mem_append_left _ h)
      · rcases List.mem_append.1 h with h | h
        · exact hd _ h List.mem_cons_self
        · exact hb (List.mem_append_right _ h)
    · rcases List.mem_append.1 hb' with h' | h'
      · exact hd b' h' (List.mem_cons_of_mem _ (List.mem_append_left _ (h ▸ ha)))
      · exact hdAB a ha b' h' h
  · intro z hz
    rcases List.mem_append.1 hz with h | h
    · exact hA z h
    · rcases List.mem_cons.1 h with rfl | h
      · exact ⟨hc, hy⟩
      · exact hB z h

theorem OwnO.kept (ok : ElemOk E) {w w' : World} {v : Value} {A B : List α} {c : List Value} {b cap : Nat} {fo : List Nat} (h : OwnO size e2 E w v A c B b cap fo) (hb : ∀ g ∈ fo, w'.heap[g]? = w.heap[g]?) : OwnO size e2 E w' v A c B b cap fo := by
  obtain ⟨zA, zB, hA, hB, hv, h2, hc, rfl, h4, h5, h6⟩ := h
  refine ⟨zA, zB, hA, hB, hv, own_kept h2 fun g hg => hb g ?_, hc, rfl, h4, fun z hz => ⟨(h5 z hz).1, ok.kept (h5 z hz).2 fun g hg => hb g ?_⟩, fun z hz => ⟨(h6 z hz).1, ok.kept (h6 z hz).2 fun g hg => hb g ?_⟩⟩
  · subst hv
    simp [Value.ownBlock] at hg
    simp [hg]
  · exact List.mem_cons_of_mem _ (List.mem_append_left _ (List.mem_flatMap.2 ⟨z, hz, hg⟩))
  · exact List.mem_cons_of_mem _ (List.mem_append_right _ (List.mem_flatMap.2 ⟨z, hz, hg⟩))
theorem OwnO.lt (ok : ElemOk E) {w : World} {v : Value} {A B : List α} {c : List Value} {b cap : Nat} {fo : List Nat} (h : OwnO size e2 E w v A c B b cap fo) : ∀ g ∈ fo, g < w.heap.size := by
  obtain ⟨zA, zB, hA, hB, rfl, h2, hc, rfl, h4, h5, h6⟩ := h
  intro g hg
  rcases List.mem_cons.1 hg with rfl | hg
  · exact own_lt h2 g rfl
  · rcases List.mem_append.1 hg with hg | hg
    · obtain ⟨z, hz, hg⟩ := List.mem_flatMap.1 hg
      exact ok.lt (h5 z hz).2 g hg
    · obtain ⟨z, hz, hg⟩ := List.mem_flatMap.1 hg
      exact ok.lt (h6 z hz).2 g hg
theorem OwnO.ext (ok : ElemOk E) {w w' : World} {v : Value} {A B : List α} {c : List Value} {b cap : Nat} {fo : List Nat} (h : OwnO size e2 E w v A c B b cap fo) (hE : Ext w w') : OwnO size e2 E w' v A c B b cap fo := h.kept ok fun g hg => hE.block g (h.lt ok g hg)
theorem OwnO.off (ok : ElemOk E) {w w' : World} {v : Value} {A B : List α} {c : List Value} {b cap : Nat} {fo fp' : List Nat} (h : OwnO size e2 E w v A c B b cap fo) (hO : Off fp' w w') (hd : ∀ g ∈ fo, g ∉ fp') : OwnO size e2 E w' v A c B b cap fo := h.kept ok fun g hg => hO.block g (h.lt ok g hg) (hd g hg)
theorem OwnO.parts {w : World} {v : Value} {A B : List α} {c : List Value} {b cap : Nat} {fo : List Nat} (h : OwnO size e2 E w v A c B b cap fo) :
    v = .slice (some ⟨b, 0, none⟩) (A.length + 1 + B.length) cap ∧ A.length + 1 + B.length ≤ cap ∧ cap ≤ 9223372036854775807 ∧ c.length = size ∧ b ∈ fo ∧ b < w.heap.size ∧ (∀ j, w.frozen? ⟨b, j, none⟩ = false) ∧ ∀ i u, c[i]? = some u → w.cell? ⟨b, A.length * size + i, none⟩ = some u := by
  obtain ⟨zA, zB, rfl, rfl, rfl, h2, hc, rfl, h4, h5, h6⟩ := h
  have hlt := own_lt h2 b rfl
  rcases id h2.2 with ⟨h', _⟩ | ⟨g, cap', cur, h', hbg, hg, hn, hm, hs, ht⟩
  · simp at h'
  · simp only [Value.slice.injEq, Option.some.injEq, Addr.mk.injEq, and_true, true_and] at h'
    obtain ⟨rfl, rfl⟩ := h'
    refine ⟨by simp, by simpa using hn, by unfold maxLen at hm; omega, hc, List.mem_cons_self, hlt, fun j => h2.frozenAt j, fun i u hu => ?_⟩
    have hi : i < c.length := by
      rcases Nat.lt_or_ge i c.length with h | h
      · exact h
      · rw [List.getElem?_eq_none h] at hu; cases hu
    have hb : zA.length * size + i < (zA.length + 1 + zB.length) * size := by rw [Nat.add_mul, Nat.add_mul]; omega
    have hl := flat_length fun z hz => (h5 z hz).1
    have hq := h2.cellAt _ hb
    rw [List.length_map, hq, List.getElem?_append_right (by omega), hl, Nat.add_sub_cancel_left, List.getElem?_append_left hi, hu]
theorem OwnO.store (ok : ElemOk E) {w : World} {v : Value} {A B : List α} {c : List Value} {b cap : Nat} {fo : List Nat} (h : OwnO size e2 E w v A c B b cap fo) (i : Nat) (hi : i < size) (u : Value) :
    OwnO size e2 E (w.setCell ⟨b, A.length * size + i, none⟩ u) v A (c.set i u) B b cap fo := by
  obtain ⟨zA, zB, rfl, rfl, rfl, h2, hc, rfl, h4, h5, h6⟩ := h
  have hl := flat_length fun z hz => (h5 z hz).1
  have hs := (h2.stored (zA.length * size + i) u).1
  rw [List.set_append_right _ _ (by omega), hl, Nat.add_sub_cancel_left, List.set_append_left _ _ (by omega)] at hs
  rw [List.length_map]
  have hk : ∀ g ∈ zA.flatMap (·.2.2) ++ zB.flatMap (·.2.2), (w.setCell ⟨b, zA.length * size + i, none⟩ u).heap[g]? = w.heap[g]? := fun g hg => Below.heap_setCell _ _ _ _ (by
    rintro rfl
    exact (List.nodup_cons.1 h4).1 hg)
  refine ⟨zA, zB, rfl, rfl, rfl, hs, by rw [List.length_set]; exact hc, rfl, h4, fun z hz => ⟨(h5 z hz).1, ok.kept (h5 z hz).2 fun g hg => hk g ?_⟩, fun z hz => ⟨(h6 z hz).1, ok.kept (h6 z hz).2 fun g hg => hk g ?_⟩⟩
  · exact List.mem_append_left _ (List.mem_flatMap.2 ⟨z, hz, hg⟩)
  · exact List.mem_append_right _ (List.mem_flatMap.2 ⟨z, hz, hg⟩)

/-- the row itself, and what an append of one element leaves -/
theorem OwnL.row (ok : ElemOk E) {w : World} {v : Value} {xs : List α} {fp : List Nat} (h : OwnL size e2 E w v xs fp) : ∃ cs, w.ownsRow 0 e2 size v xs.length cs ∧ (∀ g, v.ownBlock = some g → g ∈ fp) ∧
    ∀ {w4 : World} {v' : Value} {c : List Value} {x : α} {f : List Nat} {base : Nat}, E w c x f → c.length = size → (∀ g ∈ f, g ∉ fp) → w4.ownsRow base e2 size v' (xs.length + 1) (cs ++ c) → w.grownBy w4 v.ownBlock → (v'.ownBlock = v.ownBlock ∨ v'.ownBlock = some w.heap.size) →
      ∃ fp', OwnL size e2 E w4 v' (xs ++ [x]) fp' ∧ ∀ g ∈ fp', g ∈ fp ∨ g ∈ f ∨ g = w.heap.size := by
  have hlt := h.lt ok
  obtain ⟨zs, rfl, h2, h3, h4, h5⟩ := h
  refine ⟨zs.flatMap (·.1), by rw [List.length_map]; exact h2, fun g hg => (h3 g).2 (by simp [hg]), ?_⟩
  intro w4 v' c x f base hx hc hd hrow hg hat
  obtain ⟨hn1, hn2, hn3⟩ := List.nodup_append.1 h4
  have hfl := ok.lt hx
  have hold : ∀ g ∈ zs.flatMap (·.2.2), g < w.heap.size ∧ some g ≠ v.ownBlock := fun g hg' => ⟨hlt g ((h3 g).2 (List.mem_append_right _ hg')), fun h => hn3 g (by simp [← h]) g hg' rfl⟩
  have hof : ∀ g ∈ f, some g ≠ v.ownBlock := fun g hg' h => hd g hg' ((h3 g).2 (by simp [← h]))
  refine ⟨v'.ownBlock.toList ++ (zs ++ [(c, x, f)]).flatMap (·.2.2), ⟨zs ++ [(c, x, f)], by simp, ?_, fun _ => Iff.rfl, ?_, ?_⟩, ?_⟩
  · have : (zs ++ [(c, x, f)]).length = (zs.map (·.2.1)).length + 1 := by simp
    rw [this]
    exact own_base (by simpa [List.flatMap_append] using hrow) fun _ _ => Nat.zero_le _
  · refine List.nodup_append.2 ⟨by cases v'.ownBlock <;> simp, ?_, ?_⟩
    · rw [List.flatMap_append]
      refine List.nodup_append.2 ⟨hn2, by simpa using ok.nodup hx, fun a ha b' hb' h => ?_⟩
      simp only [List.flatMap_cons, List.flatMap_nil, List.append_nil] at hb'
      exact hd b' hb' ((h3 b').2 (List.mem_append_right _ (h ▸ ha)))
    · intro a ha b' hb' h
      subst h
      have hav : v'.ownBlock = some a := by simpa using ha
      rw [List.flatMap_append] at hb'
      rcases List.mem_append.1 hb' with hm | hm
      · obtain ⟨k1, k2⟩ := hold a hm
        rcases hat with hh | hh
        · exact k2 (by rw [← hav, hh])
        · rw [hh] at hav
          simp at hav
          omega
      · simp only [List.flatMap_cons, List.flatMap_nil, List.append_nil] at hm
        have k1 := hfl a hm
        rcases hat with hh | hh
        · exact hof a hm (by rw [← hav, hh])
        · rw [hh] at hav
          simp at hav
          omega
  · intro z hz
    rcases List.mem_append.1 hz with hm | hm
    · refine ⟨(h5 z hm).1, ok.kept (h5 z hm).2 fun g hg' => ?_⟩
      obtain ⟨k1, k2⟩ := hold g (List.mem_flatMap.2 ⟨z, hm, hg'⟩)
      exact hg.block g k1 k2
    · simp only [List.mem_singleton] at hm
      subst hm
      exact ⟨hc, ok.kept hx fun g hg' => hg.block g (hfl g hg') (hof g hg')⟩
  · intro g hg'
    rcases List.mem_append.1 hg' with hm | hm
    · have hav : v'.ownBlock = some g := by simpa using hm
      rcases hat with hh | hh
      · exact .inl ((h3 g).2 (by simp [← hh, hav]))
      · rw [hh] at hav
        simp at hav
        exact .inr (.inr hav.symm)
    · rw [List.flatMap_append] at hm
      rcases List.mem_append.1 hm with hm | hm
      · exact .inl ((h3 g).2 (List.mem_append_right _ hm))
      · exact .inr (.inl (by simpa using hm))

theorem OwnL.replicate {w : World} {g cap n : Nat} {z : List Value} {x : α} (hz : z.length = size) (hE : E w z x []) (hr : w.ownsRow 0 e2 size (.slice (some ⟨g, 0, none⟩) n cap) n (List.replicate n z).flatten) :
    OwnL size e2 E w (.slice (some ⟨g, 0, none⟩) n cap) (List.replicate n x) [g] := by
  refine ⟨List.replicate n (z, x, []), by simp, ?_, ?_, ?_, ?_⟩
  · rw [List.length_replicate]
    have : (List.replicate n (z, x, ([] : List Nat))).flatMap (·.1) = (List.replicate n z).flatten := by rw [List.flatMap_def, List.map_replicate]
    rw [this]
    exact hr
  · intro k
    have : (List.replicate n (z, x, ([] : List Nat))).flatMap (·.2.2) = [] := by simp
    rw [this]
    simp [Value.ownBlock]
  · have : (List.replicate n (z, x, ([] : List Nat))).flatMap (·.2.2) = [] := by simp
    rw [this]
    simp [Value.ownBlock]
  · intro y hy
    obtain ⟨_, rfl⟩ := List.mem_replicate.1 hy
    exact ⟨hz, hE⟩
end
end Go.Proofs.YtajkepdfemdagaaGreatDoor
