
/- Texts cut at a byte, and put together: plain laws. -/
import Derived.Lib.SplitLaws
import Derived.Lib.Join
namespace Go.Proofs.YtajkepdfemdagaaGreatDoor

/-- a text cut at a byte -/
def splitC (c : UInt8) : List UInt8 → List (List UInt8)
  | [] => [[]]
  | b :: l => if b = c then [] :: splitC c l else match splitC c l with
    | [] => [[b]]
    | h :: t => (b :: h) :: t
theorem splitC_ne (c : UInt8) : ∀ l, splitC c l ≠ []
  | [] => by simp [splitC]
  | b :: l => by
    unfold splitC
    split
    · simp
    · split <;> simp
theorem splitC_cons {c b : UInt8} {l : List UInt8} (h : b ≠ c) : ∃ x t, splitC c l = x :: t ∧ splitC c (b :: l) = (b :: x) :: t := by
  cases hs : splitC c l with
  | nil => exact absurd hs (splitC_ne c l)
  | cons x t => exact ⟨x, t, rfl, by unfold splitC; rw [if_neg h, hs]⟩
theorem splitC_at {c : UInt8} {l : List UInt8} : splitC c (c :: l) = [] :: splitC c l := by rw [splitC, if_pos rfl]
/-- up to the first such byte -/
theorem splitC_first {c : UInt8} (rest : List UInt8) : ∀ (w : List UInt8), c ∉ w → splitC c (w ++ c :: rest) = w :: splitC c rest
  | [], _ => splitC_at
  | b :: w, h => by
    have hb : b ≠ c := fun e => h (by simp [e])
    have ih := splitC_first rest w fun hm => h (List.mem_cons_of_mem _ hm)
    obtain ⟨x, t, h1, h2⟩ := splitC_cons (l := w ++ c :: rest) hb
    rw [List.cons_append, h2]
    rw [ih] at h1
    injection h1 with h1 h3
    rw [h1, h3]
theorem splitC_last {c : UInt8} : ∀ (w : List UInt8), c ∉ w → splitC c w = [w]
  | [], _ => rfl
  | b :: w, h => by
    have hb : b ≠ c := fun e => h (by simp [e])
    have ih := splitC_last w fun hm => h (List.mem_cons_of_mem _ hm)
    obtain ⟨x, t, h1, h2⟩ := splitC_cons (l := w) hb
    rw [h2]
    rw [ih] at h1
    injection h1 with h1 h3
    rw [← h1, ← h3]
theorem splitC_mem {c : UInt8} : ∀ (l : List UInt8), ∀ w ∈ splitC c l, c ∉ w
  | [], w, h => by simp [splitC] at h; simp [h]
  | b :: l, w, h => by
    by_cases hb : b = c
    · subst hb
      rw [splitC_at] at h
      rcases List.mem_cons.1 h with rfl | h
      · simp
      · exact splitC_mem l w h
    · obtain ⟨x, t, h1, h2⟩ := splitC_cons (l := l) hb
      have ih := splitC_mem (c := c) l
      rw [h1] at ih
      rw [h2] at h
      rcases List.mem_cons.1 h with rfl | h
      · intro hm
        rcases List.mem_cons.1 hm with h3 | h3
        · exact hb h3.symm
        · exact ih x List.mem_cons_self h3
      · exact ih w (List.mem_cons_of_mem _ h)
/-- cut and put together -/
theorem join_splitC {c : UInt8} : ∀ (l : List UInt8), Lib.join (splitC c l) [c] = l
  | [] => rfl
  | b :: l => by
    have ih := join_splitC (c := c) l
    by_cases hb : b = c
    · subst hb
      rw [splitC_at]
      cases hs : splitC b l with
      | nil => exact absurd hs (splitC_ne b l)
      | cons x t =>
        rw [hs, Lib.join_cons] at ih
        rw [Lib.join_cons]
        simp only [Lib.joinTail, List.map_cons, List.flatten_cons, List.nil_append, List.cons_append] at ih ⊢
        rw [ih]
    · obtain ⟨x, t, h1, h2⟩ := splitC_cons (l := l) hb
      rw [h2]
      rw [h1, Lib.join_cons] at ih
      rw [Lib.join_cons, List.cons_append, ih]
/-- put together and cut -/
theorem splitC_join {c : UInt8} : ∀ (ws : List (List UInt8)), ws ≠ [] → (∀ w ∈ ws, c ∉ w) → splitC c (Lib.join ws [c]) = ws
  | [], h, _ => absurd rfl h
  | [w], _, h => by rw [Lib.join_one]; exact splitC_last w (h w (by simp))
  | w :: x :: ws, _, h => by
    have ih := splitC_join (x :: ws) (by simp) fun y hy => h y (List.mem_cons_of_mem _ hy)
    rw [Lib.join_cons] at ih ⊢
    have : w ++ Lib.joinTail [c] (x :: ws) = w ++ c :: (x ++ Lib.joinTail [c] ws) := by simp [Lib.joinTail]
    rw [this, splitC_first _ w (h w (by simp)), ih]
/-- the library's cut is this one -/
theorem splitK_cons_ne {c b : UInt8} {l : List UInt8} (h : b ≠ c) (n : Nat) : ∃ x t, Lib.splitK [c] 0 n l = x :: t ∧ Lib.splitK [c] 0 n (b :: l) = (b :: x) :: t := by
  have hp : ([c] : List UInt8).isPrefixOf (b :: l) = false := by simp [List.isPrefixOf, Ne.symm h]
  have hix : Lib.index (b :: l) [c] = if Lib.index l [c] == -1 then -1 else Lib.index l [c] + 1 := by rw [Lib.index, hp]; simp
  cases n with
  | zero => exact ⟨l, [], rfl, rfl⟩
  | succ n =>
    by_cases hm : Lib.index l [c] = -1
    · refine ⟨l, [], ?_, ?_⟩
      · unfold Lib.splitK; rw [if_pos (beq_iff_eq.2 hm)]
      · unfold Lib.splitK; rw [if_pos (beq_iff_eq.2 (by rw [hix, if_pos (beq_iff_eq.2 hm)]))]
    · have hge := Lib.index_ge l [c]
      obtain ⟨j, hj⟩ : ∃ j : Nat, Lib.index l [c] = j := ⟨(Lib.index l [c]).toNat, by omega⟩
      have hix' : Lib.index (b :: l) [c] = ((j + 1 : Nat) : Int) := by rw [hix, if_neg (fun e => hm (beq_iff_eq.1 e)), hj]; omega
      refine ⟨l.take j, Lib.splitK [c] 0 n (l.drop (j + 1)), ?_, ?_⟩
      · rw [Lib.splitK, if_neg (fun e => hm (beq_iff_eq.1 e)), hj]; simp
      · rw [Lib.splitK, if_neg (fun e => by have := beq_iff_eq.1 e; omega), hix']
        have : (((j + 1 : Nat) : Int)).toNat = j + 1 := by omega
        rw [this]
        simp
theorem split_splitC (c : UInt8) : ∀ (l : List UInt8), Lib.splitK [c] 0 (Lib.count l [c]) l = splitC c l
  | [] => by
    rw [Lib.count_miss (by simp [Lib.index])]
    rfl
  | b :: l => by
    have ih := split_splitC c l
    by_cases hb : b = c
    · subst hb
      have hix : Lib.index (b :: l) [b] = ((0 : Nat) : Int) := by rw [Lib.index]; simp [List.isPrefixOf]
      rw [Lib.count_cons_eq, Nat.add_comm, Lib.splitK, if_neg (fun e => by have := beq_iff_eq.1 e; omega), hix, splitC_at]
      simp
      exact ih
    · rw [Lib.count_cons_ne b c l hb]
      obtain ⟨x, t, h1, h2⟩ := splitK_cons_ne (l := l) hb (Lib.count l [c])
      obtain ⟨y, u, h3, h4⟩ := splitC_cons (l := l) hb
      rw [h2, h4]
      rw [h1, h3] at ih
      injection ih with i1 i2
      rw [i1, i2]
end Go.Proofs.YtajkepdfemdagaaGreatDoor
