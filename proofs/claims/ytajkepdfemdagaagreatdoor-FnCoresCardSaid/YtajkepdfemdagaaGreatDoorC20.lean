/- Relations that are drawn or answered, without a fault: what they are; a variable that holds a relation. Numbers in order, each once: the plain law of the program's rising. -/
import Derived.Test.YtajkepdfemdagaaGreatDoorC18
import Derived.Test.YtajkepdfemdagaaGreatDoorC19
import Derived.Test.YtajkepdfemdagaaGreatDoorC12
import Derived.Lib.SlicesCompact
namespace Go.Proofs.YtajkepdfemdagaaGreatDoor
open Go.RowKit
set_option linter.unusedVariables false

section
variable {s m : Int}
theorem srel_valid (hs : 1 ≤ s) (hs2 : s ≤ 4) (hm : 1 ≤ m) (hm2 : m ≤ 4) (p : List Int → Bool) : SValidRel s (SrelOf s m p) = true := by
  unfold SValidRel
  rw [Bool.and_eq_true, Bool.and_eq_true]
  refine ⟨⟨inB_iff.2 ⟨hs, hs2⟩, inB_iff.2 ⟨hm, hm2⟩⟩, ?_⟩
  rw [List.all_eq_true]
  intro k hk
  have hk := List.mem_range.1 hk
  have hmem : ∀ j (hj : j < (SrelOf s m p).2.length), vals s ((SrelOf s m p).2.getD j []) m = true := by
    intro j hj
    rw [List.getD_eq_getElem?_getD, List.getElem?_eq_getElem hj]
    exact ((mem_allD hs hs2 hm hm2).1 (List.getElem_mem hj)).1
  unfold okT
  rw [Bool.and_eq_true, Bool.or_eq_true]
  refine ⟨hmem k hk, ?_⟩
  by_cases h0 : k = 0
  · exact .inl (by simp [h0])
  · refine .inr ?_
    unfold before
    have hk1 : k - 1 < (SrelOf s m p).2.length := by omega
    have hg : ∀ j (hj : j < (SrelOf s m p).2.length), (SrelOf s m p).2.getD j [] = (SrelOf s m p).2[j] := fun j hj => by rw [List.getD_eq_getElem?_getD, List.getElem?_eq_getElem hj]; rfl
    rw [decide_eq_true_eq, hg _ hk, hg _ hk1]
    exact (List.pairwise_iff_getElem.1 (allD_srt hs hs2 hm hm2 p)) (k - 1) k _ _ (by omega)
theorem hasT_srel (hs : 1 ≤ s) (hs2 : s ≤ 4) (hm : 1 ≤ m) (hm2 : m ≤ 4) (p : List Int → Bool) (t : List Int) : hasT (SrelOf s m p) t = (vals s t m && p t) := by
  unfold hasT
  rw [Bool.eq_iff_iff, decide_eq_true_eq, Bool.and_eq_true]
  exact mem_allD hs hs2 hm hm2
theorem hasT_iff {r : Int × List (List Int)} {t : List Int} : hasT r t = true ↔ t ∈ r.2 := by unfold hasT; rw [decide_eq_true_eq]
end

structure IsRel (s m : Int) (R : Int × List (List Int)) : Prop where
  valid : SValidRel s R = true
  ar : R.1 = m
  sz : szRel R ≤ 1048576
  len : R.2.length ≤ 256
theorem mkII_small : ∀ (l : List (List Int)), (∀ t ∈ l, t.length ≤ 4) → szII l ≤ 5 * l.length
  | [], _ => by simp [szII]
  | t :: l, h => by
    have h1 := mkII_small l fun x hx => h x (List.mem_cons_of_mem _ hx)
    have h2 := h t List.mem_cons_self
    simp only [szII, List.length_cons]
    omega
theorem IsRel.of {s m : Int} {R : Int × List (List Int)} (hv : SValidRel s R = true) (h : R.1 = m) : IsRel s m R := by
  have hl := valid_length hv
  refine ⟨hv, h, ?_, hl⟩
  obtain ⟨_, a2, a3⟩ := valid_parts hv
  have := mkII_small R.2 fun t ht => by have := (vals_iff.1 (a3 t ht)).1; omega
  unfold szRel
  omega
theorem IsRel.srel {s m : Int} (hs : 1 ≤ s) (hs2 : s ≤ 4) (hm : 1 ≤ m) (hm2 : m ≤ 4) (p : List Int → Bool) : IsRel s m (SrelOf s m p) := .of (srel_valid hs hs2 hm hm2 p) rfl

/-- a variable in block b that holds a relation -/
structure RVar (w : World) (b : Nat) (R : Int × List (List Int)) (ta : Option Addr) (tc : Nat) : Prop where
  c0 : w.cell? ⟨b, 0, none⟩ = some (.int .i64 R.1)
  c1 : w.cell? ⟨b, 1, none⟩ = some (.slice ta R.2.length tc)
  rd : RdRel w (.agg #[.int .i64 R.1, .slice ta R.2.length tc]) R
theorem RVar.ext {w w' : World} {b : Nat} {R : Int × List (List Int)} {ta : Option Addr} {tc : Nat} (h : RVar w b R ta tc) (hE : Ext w w') : RVar w' b R ta tc := ⟨hE.cell h.c0, hE.cell h.c1, h.rd.ext hE⟩
theorem RVar.lt {w : World} {b : Nat} {R : Int × List (List Int)} {ta : Option Addr} {tc : Nat} (h : RVar w b R ta tc) : b < w.heap.size := lt_of_cell h.c0
theorem RVar.new {w : World} {R : Int × List (List Int)} {ta : Option Addr} {tc : Nat} (h : RdRel w (.agg #[.int .i64 R.1, .slice ta R.2.length tc]) R) : RVar (w.alloc (.cells #[.int .i64 R.1, .slice ta R.2.length tc] 35)) w.heap.size R ta tc :=
  ⟨by simp [go_sem], by simp [go_sem], h.ext ((Ext.refl' w).alloc (Nat.le_refl _) _)⟩

/-- a relation is answered, and no fault -/
def GotR (s m : Int) (R0 : Int × List (List Int)) (w : World) (e : Ending) (w' : World) : Prop :=
  ∃ ta tc R, e = .returned (.tuple #[.agg #[.int .i64 R.1, .slice ta R.2.length tc], .int .i64 0]) ∧ Ext w w' ∧ RdRel w' (.agg #[.int .i64 R.1, .slice ta R.2.length tc]) R ∧ IsRel s m R ∧ Hid (R = R0)
def DrawnR (s m : Int) (w : World) (e : Ending) (w' : World) : Prop :=
  ∃ ta tc R, e = .returned (.agg #[.int .i64 R.1, .slice ta R.2.length tc]) ∧ Ext w w' ∧ RdRel w' (.agg #[.int .i64 R.1, .slice ta R.2.length tc]) R ∧ IsRel s m R
theorem RelRes.got {s m : Int} {R : Int × List (List Int)} {w w' : World} {e : Ending} (h : RelRes (R, 0) w e w') (hi : IsRel s m R) : GotR s m R w e w' := by
  obtain ⟨u, fp, rfl, hE, ho, _, _⟩ := h
  obtain ⟨a, c, rfl⟩ := ho.form
  exact ⟨a, c, R, rfl, hE, ho.rd, hi, Lib.hid rfl⟩
section
variable {s m : Int} {w : World}
theorem p6Rel_got (v : Value) (s m : Int) (w : World) (h : RdB w v) (hs : 1 ≤ s) (hs2 : s ≤ 4) (hm : 1 ≤ m) (hm2 : m ≤ 4) : Calls Tryz.prog 13 #[v, .int .i64 s, .int .i64 m] w (DrawnR s m w) := by
  refine (p6Rel_any v s m w h hs hs2 hm hm2).mono ?_
  rintro e w' ⟨u, p, fp, rfl, hE, ho, _⟩
  obtain ⟨a, c, rfl⟩ := ho.form
  exact ⟨a, c, _, rfl, hE, ho.rd, .srel hs hs2 hm hm2 p⟩
theorem implHas_got {r : Int × List (List Int)} {v : Value} {t : List Int} {u : Value} (hr : RdRel w v r) (hi : IsRel s m r) (hs : RdI w u t) (ht : t.length ≤ 1048576) :
    Calls Tryz.prog 22 #[.int .i64 s, v, u] w fun e w' => e = .returned (.tuple #[.bool (hasT r t), .int .i64 0]) ∧ Ext w w' := by
  obtain ⟨a1, a2, _⟩ := valid_parts hi.valid
  have hc := implHasTuple_any s r v t u w hr hs (by omega) (by omega) hi.sz ht
  rw [show SHasTuple s r t = (hasT r t, 0) from by unfold SHasTuple; rw [hi.valid]; rfl] at hc
  exact hc
theorem specHas_got {r : Int × List (List Int)} {v : Value} {t : List Int} {u : Value} (hr : RdRel w v r) (hi : IsRel s m r) (hs : RdI w u t) (ht : t.length ≤ 1048576) :
    Calls Tryz.prog 21 #[.int .i64 s, v, u] w fun e w' => e = .returned (.tuple #[.bool (hasT r t), .int .i64 0]) ∧ Ext w w' := by
  obtain ⟨a1, a2, _⟩ := valid_parts hi.valid
  have hc := specHasTuple_any s r v t u w hr hs (by omega) (by omega) hi.sz ht
  rw [show SHasTuple s r t = (hasT r t, 0) from by unfold SHasTuple; rw [hi.valid]; rfl] at hc
  exact hc
theorem same_got {r q : Int × List (List Int)} {v u : Value} (hr : RdRel w v r) (hi : IsRel s m r) (hq : RdRel w u q) (he : r = q) :
    Calls Tryz.prog 19 #[v, u] w fun e w' => e = .returned (.bool true) ∧ Ext w w' := by
  subst he
  have hc := specSameRel_any r v r u w hr hq hi.sz hi.sz
  rw [show SSameRel r r = true from decide_eq_true rfl] at hc
  exact hc
end
end Go.Proofs.YtajkepdfemdagaaGreatDoor
namespace Go.Proofs.YtajkepdfemdagaaGreatDoor
open Go.RowKit
set_option linter.unusedVariables false

/-- x is one of l -/
def hasI (l : List Int) (x : Int) : Bool := l.any fun a => decide (a = x)
theorem hasI_iff {l : List Int} {x : Int} : hasI l x = true ↔ x ∈ l := by simp [hasI]
theorem hasI_no {l : List Int} {x : Int} : hasI l x = false ↔ x ∉ l := by rw [← Bool.not_eq_true, hasI_iff]
/-- one of so many -/
def anyR (n : Nat) (p : Nat → Bool) : Bool := (List.range n).any p
theorem anyR_yes {n k : Nat} {p : Nat → Bool} (hk : k < n) (h : p k = true) : anyR n p = true := List.any_eq_true.2 ⟨k, List.mem_range.2 hk, h⟩
theorem anyR_no {n : Nat} {p : Nat → Bool} (h : ∀ k, k < n → p k = false) : anyR n p = false := by
  unfold anyR
  rw [List.any_eq_false]
  exact fun k hk => by rw [h k (List.mem_range.1 hk)]; simp

def sortI (l : List Int) : List Int := l.mergeSort fun x y => decide (x ≤ y)
theorem sortI_perm (l : List Int) : (sortI l).Perm l := List.mergeSort_perm _ _
theorem sortI_length (l : List Int) : (sortI l).length = l.length := (sortI_perm l).length_eq
theorem sortI_le (l : List Int) : (sortI l).Pairwise (· ≤ ·) := by
  have h := List.pairwise_mergeSort (le := fun x y : Int => decide (x ≤ y)) (fun a b c h1 h2 => by simp only [decide_eq_true_eq] at *; exact Int.le_trans h1 h2)
    (fun a b => by simp only [Bool.or_eq_true, decide_eq_true_eq]; exact Int.le_total a b) l
  exact h.imp fun h => by simpa using h
theorem sortI_congr {l l' : List Int} (h : l.Perm l') : sortI l = sortI l' :=
  List.Perm.eq_of_pairwise (le := fun a b : Int => a ≤ b) (fun a b _ _ h1 h2 => Int.le_antisymm h1 h2) (sortI_le l) (sortI_le l') (((sortI_perm l).trans h).trans (sortI_perm l').symm)

/-- strictly rising lists of the same members are alike -/
theorem lt_ext : ∀ {A B : List Int}, A.Pairwise (· < ·) → B.Pairwise (· < ·) → (∀ t, t ∈ A ↔ t ∈ B) → A = B
  | [], [], _, _, _ => rfl
  | [], b :: B, _, _, h => absurd ((h b).2 (List.mem_cons_self ..)) (by simp)
  | a :: A, [], _, _, h => absurd ((h a).1 (List.mem_cons_self ..)) (by simp)
  | a :: A, b :: B, hA, hB, h => by
    obtain ⟨ha, hA'⟩ := List.pairwise_cons.1 hA
    obtain ⟨hb, hB'⟩ := List.pairwise_cons.1 hB
    have hab : a = b := by
      rcases List.mem_cons.1 ((h a).1 (List.mem_cons_self ..)) with e | m
      · exact e
      · rcases List.mem_cons.1 ((h b).2 (List.mem_cons_self ..)) with e | m'
        · exact e.symm
        · have := hb a m; have := ha b m'; omega
    subst hab
    rw [lt_ext hA' hB' fun t => ⟨fun ht => ?_, fun ht => ?_⟩]
    · rcases List.mem_cons.1 ((h t).1 (List.mem_cons_of_mem _ ht)) with e | m
      · have := ha t ht; omega
      · exact m
    · rcases List.mem_cons.1 ((h t).2 (List.mem_cons_of_mem _ ht)) with e | m
      · have := hb t ht; omega
      · exact m

theorem mem_compact (zs : List Int) (x : Int) : x ∈ Lib.compact zs ↔ x ∈ zs := by
  constructor
  · intro h
    unfold Lib.compact Lib.compactUpTo at h
    obtain ⟨i, hi, rfl⟩ := List.mem_map.1 h
    have hi' : i < zs.length := List.mem_range.1 (List.mem_filter.1 hi).1
    simp [getElem!_pos, hi']
  · intro h
    obtain ⟨j, hj, rfl⟩ := List.getElem_of_mem h
    clear h
    have main : ∀ j (hj : j < zs.length), zs[j] ∈ Lib.compact zs := by
      intro j
      induction j with
      | zero =>
        intro hj
        refine List.mem_map.2 ⟨0, List.mem_filter.2 ⟨List.mem_range.2 hj, by simp [Lib.keeps]⟩, by simp [getElem!_pos, hj]⟩
      | succ j ih =>
        intro hj
        by_cases he : zs[j + 1] = zs[j]
        · rw [he]; exact ih (by omega)
        · refine List.mem_map.2 ⟨j + 1, List.mem_filter.2 ⟨List.mem_range.2 hj, ?_⟩, by simp [getElem!_pos, hj]⟩
          have h2 : j < zs.length := by omega
          simp [Lib.keeps, hj, h2, he]
    exact main j hj
theorem compact_lt {zs : List Int} (h : zs.Pairwise (· ≤ ·)) : (Lib.compact zs).Pairwise (· < ·) := by
  have hle := List.pairwise_iff_getElem.1 h
  unfold Lib.compact Lib.compactUpTo
  refine List.pairwise_map.2 ?_
  have hr : (List.range zs.length).Pairwise (· < ·) := List.pairwise_lt_range
  refine (List.Pairwise.filter (Lib.keeps zs.toArray) hr).imp_of_mem ?_
  intro i j hi hj hij
  have hi' : i < zs.length := List.mem_range.1 (List.mem_filter.1 hi).1
  have hj' : j < zs.length := List.mem_range.1 (List.mem_filter.1 hj).1
  have hk := (List.mem_filter.1 hj).2
  have hj2 : j - 1 < zs.length := by omega
  simp only [Lib.keeps, decide_eq_true_eq] at hk
  rcases hk with h0 | hne
  · omega
  · simp [hj', hj2] at hne
    simp [hi', hj']
    have h1 : zs[i] ≤ zs[j - 1] := by
      by_cases e : i = j - 1
      · subst e; exact Int.le_refl _
      · exact hle i (j - 1) hi' hj2 (by omega)
    have h2 := hle (j - 1) j hj2 hj' (by omega)
    omega

/-- the members of a list in order, each once -/
def riseL (l : List Int) : List Int := Lib.compact (sortI l)
theorem riseL_lt (l : List Int) : (riseL l).Pairwise (· < ·) := compact_lt (sortI_le l)
theorem mem_riseL (l : List Int) (x : Int) : x ∈ riseL l ↔ x ∈ l := by unfold riseL; rw [mem_compact, (sortI_perm l).mem_iff]
theorem riseL_length (l : List Int) : (riseL l).length ≤ l.length := by
  unfold riseL Lib.compact Lib.compactUpTo
  rw [List.length_map, ← sortI_length l]
  exact Nat.le_trans (List.length_filter_le _ _) (by simp)
theorem riseL_ext {l A : List Int} (hA : A.Pairwise (· < ·)) (h : ∀ t, t ∈ A ↔ t ∈ l) : riseL l = A := lt_ext (riseL_lt l) hA fun t => (mem_riseL l t).trans (h t).symm
/-- one member alone -/
theorem riseL_one {l : List Int} {a : Int} (hl : a ∈ l) : (riseL l).length = 1 ↔ ∀ x ∈ l, x = a := by
  constructor
  · intro h x hx
    obtain ⟨b, hb⟩ := List.length_eq_one_iff.1 h
    have h1 := (mem_riseL l a).2 hl
    have h2 := (mem_riseL l x).2 hx
    rw [hb] at h1 h2
    simp at h1 h2
    omega
  · intro h
    have : riseL l = [a] := riseL_ext (by simp) fun t => by
      simp
      exact ⟨fun e => e ▸ hl, fun ht => h t ht⟩
    rw [this]; rfl
end Go.Proofs.YtajkepdfemdagaaGreatDoor
