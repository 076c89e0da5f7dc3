/- Relations in their one form: tuples in order, each once; sets of tuples by their numbers. Lists of tuples in order: weakly sorted, without what is alike beside it. Plain law for makeRel. -/
import Derived.Test.YtajkepdfemdagaaGreatDoorC10
import Derived.Test.YtajkepdfemdagaaGreatDoorC11
namespace Go.Proofs.YtajkepdfemdagaaGreatDoor
open Go.RowKit
set_option linter.unusedVariables false

def Srt (L : List (List Int)) : Prop := L.Pairwise fun a b => cmpL a b < 0
theorem cmpL_irr (a : List Int) : ¬ cmpL a a < 0 := by rw [cmpL_self]; omega
/-- two lists in order with the same tuples are one -/
theorem srt_ext : ∀ {A B : List (List Int)}, Srt A → Srt B → (∀ t, t ∈ A ↔ t ∈ B) → A = B
  | [], [], _, _, _ => rfl
  | [], b :: ys, _, _, h => by have := (h b).2 List.mem_cons_self; simp at this
  | a :: xs, [], _, _, h => by have := (h a).1 List.mem_cons_self; simp at this
  | a :: xs, b :: ys, hA, hB, h => by
    have hA' := List.pairwise_cons.1 hA
    have hB' := List.pairwise_cons.1 hB
    have hab : a = b := by
      rcases List.mem_cons.1 ((h a).1 List.mem_cons_self) with h1 | h1
      · exact h1
      · rcases List.mem_cons.1 ((h b).2 List.mem_cons_self) with h2 | h2
        · exact h2.symm
        · exact absurd (cmpL_trans _ _ _ (hB'.1 a h1) (hA'.1 b h2)) (cmpL_irr _)
    subst hab
    congr 1
    refine srt_ext hA'.2 hB'.2 fun t => ⟨fun ht => ?_, fun ht => ?_⟩
    · rcases List.mem_cons.1 ((h t).1 (List.mem_cons_of_mem _ ht)) with h1 | h1
      · exact absurd (h1 ▸ hA'.1 t ht) (cmpL_irr _)
      · exact h1
    · rcases List.mem_cons.1 ((h t).2 (List.mem_cons_of_mem _ ht)) with h1 | h1
      · exact absurd (h1 ▸ hB'.1 t ht) (cmpL_irr _)
      · exact h1
theorem valid_srt {s : Int} {r : Int × List (List Int)} (hv : SValidRel s r = true) : Srt r.2 := by
  unfold Srt
  rw [List.pairwise_iff_getElem]
  exact fun i j hi hj hij => valid_up hv i j hi hj hij

/-! ### numbers and digits -/
theorem code_digs (s : Int) (hs : 1 ≤ s) : ∀ (k : Nat) (n : Int), 0 ≤ n → n < s ^ k → code s (digs s k n) = n
  | 0, n, h0, h1 => by simp at h1; simp [digs, code]; omega
  | k + 1, n, h0, h1 => by
    rw [digs, code_snoc, code_digs s hs k (n / s) (Int.ediv_nonneg h0 (by omega)) (Int.ediv_lt_of_lt_mul (by omega) (by rw [← Int.pow_succ]; exact h1)), Int.mul_comm]
    exact Int.mul_ediv_add_emod n s
theorem digs_of_code (s : Int) (hs : 1 ≤ s) : ∀ (l : List Int), (∀ a ∈ l, 0 ≤ a ∧ a < s) → digs s l.length (code s l) = l := by
  intro l
  rw [← List.reverse_reverse l]
  generalize l.reverse = l'
  clear l
  induction l' with
  | nil => intro _; rfl
  | cons a xs ih =>
    intro h
    rw [List.reverse_cons] at h ⊢
    have ha := h a (by simp)
    rw [List.length_append, List.length_singleton, code_snoc, digs]
    have h1 : (code s xs.reverse * s + a) / s = code s xs.reverse := by
      rw [Int.add_comm, Int.add_mul_ediv_right _ _ (by omega), Int.ediv_eq_zero_of_lt ha.1 ha.2, Int.zero_add]
    have h2 : (code s xs.reverse * s + a) % s = a := by
      rw [Int.add_comm, Int.add_mul_emod_self_right]
      exact Int.emod_eq_of_lt ha.1 ha.2
    rw [h1, h2, ih fun x hx => h x (List.mem_append_left _ hx)]
theorem cmpL_snoc (x y : Int) : ∀ (a b : List Int), a.length = b.length → cmpL (a ++ [x]) (b ++ [y]) = if cmpL a b = 0 then cmpI x y else cmpL a b
  | [], [], _ => by
    simp only [List.nil_append, cmpL]
    by_cases h : x = y
    · simp [h, cmpI]
    · simp [h]
  | [], _ :: _, h => by simp at h
  | _ :: _, [], h => by simp at h
  | a :: xs, b :: ys, h => by
    have e : ∀ (us vs : List Int), cmpL (a :: us) (b :: vs) = if a = b then cmpL us vs else cmpI a b := fun _ _ => rfl
    simp only [List.cons_append]
    rw [e, e]
    by_cases hab : a = b
    · rw [if_pos hab, if_pos hab, cmpL_snoc x y xs ys (by simpa using h)]
    · rw [if_neg hab, if_neg hab, if_neg]
      unfold cmpI
      split
      · omega
      · split <;> omega
theorem digs_lt (s : Int) (hs : 1 ≤ s) : ∀ (k : Nat) (n n' : Int), 0 ≤ n → n < n' → n' < s ^ k → cmpL (digs s k n) (digs s k n') < 0
  | 0, n, n', h0, h1, h2 => by simp at h2; omega
  | k + 1, n, n', h0, h1, h2 => by
    rw [digs, digs, cmpL_snoc _ _ _ _ (by rw [digs_length, digs_length])]
    have h3 : n' / s < s ^ k := Int.ediv_lt_of_lt_mul (by omega) (by rw [← Int.pow_succ]; exact h2)
    have hle : n / s ≤ n' / s := Int.ediv_le_ediv (by omega) (by omega)
    by_cases he : n / s = n' / s
    · rw [he, if_pos (cmpL_self _)]
      have e1 := Int.mul_ediv_add_emod n s
      have e2 := Int.mul_ediv_add_emod n' s
      rw [he] at e1
      unfold cmpI
      rw [if_pos (by omega)]
      omega
    · have := digs_lt s hs k (n / s) (n' / s) (Int.ediv_nonneg h0 (by omega)) (by omega) h3
      rw [if_neg (by omega)]
      exact this

section
variable {s m : Int}
theorem count_pow (hs : 1 ≤ s) (hs2 : s ≤ 4) (hm : 1 ≤ m) (hm2 : m ≤ 4) : (count s m : Int) = s ^ m.toNat := by
  have h1 : s = 1 ∨ s = 2 ∨ s = 3 ∨ s = 4 := by omega
  have h2 : m = 1 ∨ m = 2 ∨ m = 3 ∨ m = 4 := by omega
  rcases h1 with rfl | rfl | rfl | rfl <;> rcases h2 with rfl | rfl | rfl | rfl <;> decide +kernel
theorem digs_vals (hs : 1 ≤ s) (hm : 0 ≤ m) (k : Nat) : vals s (digs s m.toNat k) m = true :=
  vals_iff.2 ⟨by rw [digs_length]; omega, fun a ha => digs_val s hs _ _ (by omega) a ha⟩
theorem code_ltc (hs : 1 ≤ s) (hs2 : s ≤ 4) (hm : 1 ≤ m) (hm2 : m ≤ 4) {t : List Int} (ht : vals s t m = true) : 0 ≤ code s t ∧ (code s t).toNat < count s m := by
  obtain ⟨h1, h2⟩ := vals_iff.1 ht
  have := code_bd s t (by omega) h2 t.length (Nat.le_refl _)
  rw [List.take_length] at this
  have hc := count_pow hs hs2 hm hm2
  rw [show m.toNat = t.length by omega] at hc
  omega
theorem digs_of_code' (hs : 1 ≤ s) {t : List Int} (ht : vals s t m = true) : digs s m.toNat (code s t) = t := by
  obtain ⟨h1, h2⟩ := vals_iff.1 ht
  rw [show m.toNat = t.length by omega]
  exact digs_of_code s hs t h2
theorem code_digs' (hs : 1 ≤ s) (hs2 : s ≤ 4) (hm : 1 ≤ m) (hm2 : m ≤ 4) {k : Nat} (hk : k < count s m) : code s (digs s m.toNat k) = k :=
  code_digs s hs _ _ (by omega) (by rw [← count_pow hs hs2 hm hm2]; omega)

theorem allD_srt (hs : 1 ≤ s) (hs2 : s ≤ 4) (hm : 1 ≤ m) (hm2 : m ≤ 4) (p : List Int → Bool) : Srt (allD s m p (count s m)) := by
  unfold allD Srt
  refine List.Pairwise.filter _ ?_
  rw [List.pairwise_map]
  refine List.Pairwise.imp_of_mem ?_ List.pairwise_lt_range
  intro a b ha hb hab
  have hb' := List.mem_range.1 hb
  exact digs_lt s hs _ _ _ (by omega) (by omega) (by rw [← count_pow hs hs2 hm hm2]; omega)
theorem mem_allD (hs : 1 ≤ s) (hs2 : s ≤ 4) (hm : 1 ≤ m) (hm2 : m ≤ 4) {p : List Int → Bool} {t : List Int} : t ∈ allD s m p (count s m) ↔ vals s t m = true ∧ p t = true := by
  unfold allD
  rw [List.mem_filter, List.mem_map]
  constructor
  · rintro ⟨⟨k, hk, rfl⟩, hp⟩
    exact ⟨digs_vals hs (by omega) k, hp⟩
  · rintro ⟨hv, hp⟩
    obtain ⟨h0, h1⟩ := code_ltc hs hs2 hm hm2 hv
    refine ⟨⟨(code s t).toNat, List.mem_range.2 h1, ?_⟩, hp⟩
    rw [show (((code s t).toNat : Nat) : Int) = code s t by omega]
    exact digs_of_code' hs hv

/-- in order, with these tuples: the relation of all tuples for which that is so -/
theorem srel_of (hs : 1 ≤ s) (hs2 : s ≤ 4) (hm : 1 ≤ m) (hm2 : m ≤ 4) {p : List Int → Bool} {L : List (List Int)} (hL : Srt L) (h : ∀ t, t ∈ L ↔ vals s t m = true ∧ p t = true) : (m, L) = SrelOf s m p := by
  unfold SrelOf
  rw [srt_ext hL (allD_srt hs hs2 hm hm2 p) fun t => by rw [h, mem_allD hs hs2 hm hm2]]
theorem srel_congr (hs : 1 ≤ s) (hs2 : s ≤ 4) (hm : 1 ≤ m) (hm2 : m ≤ 4) {p q : List Int → Bool} (h : ∀ t, vals s t m = true → p t = q t) : SrelOf s m p = SrelOf s m q := by
  unfold SrelOf allD
  congr 1
  refine List.filter_congr fun t ht => ?_
  obtain ⟨k, hk, rfl⟩ := List.mem_map.1 ht
  exact h _ (digs_vals hs (by omega) k)
theorem srel_filter {r : Int × List (List Int)} (hv : SValidRel s r = true) (q : List Int → Bool) : (r.1, r.2.filter q) = SrelOf s r.1 fun t => hasT r t && q t := by
  obtain ⟨h1, h2, h3⟩ := valid_parts hv
  refine srel_of h1.1 h1.2 h2.1 h2.2 (List.Pairwise.filter _ (valid_srt hv)) fun t => ?_
  rw [List.mem_filter, Bool.and_eq_true]
  unfold hasT
  rw [decide_eq_true_eq]
  exact ⟨fun h => ⟨h3 t h.1, h⟩, fun h => h.2⟩
theorem srel_self {r : Int × List (List Int)} (hv : SValidRel s r = true) : r = SrelOf s r.1 (hasT r) := by
  obtain ⟨h1, h2, h3⟩ := valid_parts hv
  refine srel_of h1.1 h1.2 h2.1 h2.2 (valid_srt hv) fun t => ?_
  unfold hasT
  rw [decide_eq_true_eq]
  exact ⟨fun h => ⟨h3 t h, h⟩, fun h => h.2⟩

end
theorem valid_length {s : Int} {r : Int × List (List Int)} (hv : SValidRel s r = true) : r.2.length ≤ 256 := by
  obtain ⟨h1, h2, h3⟩ := valid_parts hv
  have h := srel_self hv
  have := congrArg (fun x => x.2.length) h
  rw [this]
  have k1 := allD_length s r.1 (hasT r) (count s r.1)
  have k2 := powW_small s r.1 h1.1 h1.2 h2.1 h2.2
  have k3 := count_eq s r.1 h1.1 h1.2 h2.1 h2.2
  show (allD s r.1 (hasT r) (count s r.1)).length ≤ 256
  omega
section
variable {s m : Int}
/-! ### sets -/
/-- the marks of the tuples for which something is so -/
def mks (s m : Int) (p : List Int → Bool) : List Bool := (List.range (count s m)).map fun k : Nat => p (digs s m.toNat k)
theorem mks_length (p : List Int → Bool) : (mks s m p).length = count s m := by simp [mks]
theorem mks_none : List.replicate (count s m) false = mks s m fun _ => false := by
  unfold mks
  apply List.ext_getElem <;> simp
theorem mks_get (p : List Int → Bool) {k : Nat} (hk : k < (mks s m p).length) : (mks s m p)[k] = p (digs s m.toNat k) := by simp [mks]
theorem mks_congr (hs : 1 ≤ s) (hm : 0 ≤ m) {p q : List Int → Bool} (h : ∀ t, vals s t m = true → p t = q t) : mks s m p = mks s m q := by
  unfold mks
  exact List.map_congr_left fun k _ => h _ (digs_vals hs hm k)
theorem mks_put (hs : 1 ≤ s) (hs2 : s ≤ 4) (hm : 1 ≤ m) (hm2 : m ≤ 4) (p : List Int → Bool) {t : List Int} (ht : vals s t m = true) : (mks s m p).set (code s t).toNat true = mks s m fun u => p u || decide (u = t) := by
  obtain ⟨h0, h1⟩ := code_ltc hs hs2 hm hm2 ht
  apply List.ext_getElem
  · simp [mks]
  · intro k hk hk2
    have hkc : k < count s m := by simpa [mks] using hk2
    rw [List.getElem_set]
    by_cases he : (code s t).toNat = k
    · rw [if_pos he]
      have : digs s m.toNat k = t := by
        rw [show ((k : Nat) : Int) = code s t by omega]
        exact digs_of_code' hs ht
      rw [mks_get, this]
      simp
    · rw [if_neg he, mks_get, mks_get]
      have : ¬ digs s m.toNat k = t := by
        intro hh
        apply he
        rw [← hh, code_digs' hs hs2 hm hm2 hkc]
        simp
      simp [this]
theorem setRel_mks (p : List Int → Bool) : setRel s m (mks s m p) = SrelOf s m p :=
  setRel_eq fun k hk => by rw [List.getD_eq_getElem?_getD, List.getElem?_eq_getElem (by rw [mks_length]; exact hk), mks_get]; rfl
theorem mks_not (p : List Int → Bool) : (mks s m p).map (!·) = mks s m fun t => !p t := by simp [mks]
end
end Go.Proofs.YtajkepdfemdagaaGreatDoor
namespace Go.Proofs.YtajkepdfemdagaaGreatDoor
open Go.RowKit
set_option linter.unusedVariables false

/-- nothing later is less than what is earlier -/
def SrtW (L : List (List Int)) : Prop := L.Pairwise fun a b => ¬ cmpL b a < 0
theorem cmpL_next {a b : List Int} (h : ¬ cmpL b a < 0) (hne : a ≠ b) : cmpL a b < 0 := by
  by_cases h0 : cmpL b a = 0
  · exact absurd (cmpL_zero _ _ h0).symm hne
  · exact cmpL_flip _ _ (by omega)
/-- each once, of what stands alike side by side -/
def dedup : List (List Int) → List (List Int)
  | [] => []
  | [x] => [x]
  | x :: y :: r => if x = y then dedup (y :: r) else x :: dedup (y :: r)
theorem mem_dedup (t : List Int) : ∀ L : List (List Int), t ∈ dedup L ↔ t ∈ L
  | [] => Iff.rfl
  | [x] => Iff.rfl
  | x :: y :: r => by
    have ih := mem_dedup t (y :: r)
    unfold dedup
    by_cases h : x = y
    · rw [if_pos h, ih, h]
      simp
    · rw [if_neg h, List.mem_cons, ih, List.mem_cons (a := t) (b := x)]
theorem dedup_srt : ∀ L : List (List Int), SrtW L → Srt (dedup L)
  | [], _ => List.Pairwise.nil
  | [x], _ => by unfold dedup Srt; simp
  | x :: y :: r, h => by
    obtain ⟨h1, h2⟩ := List.pairwise_cons.1 h
    have ih := dedup_srt (y :: r) h2
    unfold dedup
    by_cases hxy : x = y
    · rw [if_pos hxy]; exact ih
    · rw [if_neg hxy]
      refine List.pairwise_cons.2 ⟨fun t ht => ?_, ih⟩
      have ht := (mem_dedup t (y :: r)).1 ht
      have hy := cmpL_next (h1 y (List.mem_cons_self ..)) hxy
      rcases List.mem_cons.1 ht with rfl | ht
      · exact hy
      · by_cases hyt : y = t
        · rw [← hyt]; exact hy
        · exact cmpL_trans _ _ _ hy (cmpL_next ((List.pairwise_cons.1 h2).1 t ht) hyt)
theorem dedup_snoc (x y : List Int) : ∀ l : List (List Int), dedup (l ++ [x, y]) = if x = y then dedup (l ++ [x]) else dedup (l ++ [x]) ++ [y]
  | [] => by by_cases h : x = y <;> simp [dedup, h]
  | [a] => by
    by_cases h : x = y
    · subst h
      by_cases h2 : a = x <;> simp [dedup, h2]
    · by_cases h2 : a = x <;> simp [dedup, h, h2]
  | a :: b :: r => by
    have ih := dedup_snoc x y (b :: r)
    have e1 : dedup (a :: b :: r ++ [x, y]) = if a = b then dedup (b :: r ++ [x, y]) else a :: dedup (b :: r ++ [x, y]) := rfl
    have e2 : dedup (a :: b :: r ++ [x]) = if a = b then dedup (b :: r ++ [x]) else a :: dedup (b :: r ++ [x]) := rfl
    rw [e1, e2, ih]
    by_cases h : x = y <;> by_cases h2 : a = b <;> simp [h, h2]
/-- what a sorted list of tuples is without its repetitions: the relation of its members -/
theorem made_rel {s m : Int} (hs : 1 ≤ s) (hs2 : s ≤ 4) (hm : 1 ≤ m) (hm2 : m ≤ 4) {L T : List (List Int)} (hT : ∀ t, t ∈ T ↔ t ∈ L) (hS : SrtW T) (hv : ∀ t ∈ L, vals s t m = true) : (m, dedup T) = SrelOf s m (fun t => decide (t ∈ L)) := by
  refine srel_of hs hs2 hm hm2 (dedup_srt T hS) fun t => ?_
  rw [mem_dedup, hT, decide_eq_true_eq]
  exact ⟨fun h => ⟨hv t h, h⟩, fun h => h.2⟩
end Go.Proofs.YtajkepdfemdagaaGreatDoor
