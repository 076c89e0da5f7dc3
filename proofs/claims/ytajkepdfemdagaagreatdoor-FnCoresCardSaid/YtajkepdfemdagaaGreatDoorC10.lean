/- Whether a relation has a tuple; the relations that are parts of others. The number of a list, as the program and the reference reckon it. -/
import Derived.Test.YtajkepdfemdagaaGreatDoorC09
import Derived.Test.YtajkepdfemdagaaGreatDoorC07
import Derived.Test.YtajkepdfemdagaaGreatDoorC05
namespace Go.Proofs.YtajkepdfemdagaaGreatDoor
open Go.RowKit
set_option linter.unusedVariables false

/-! ### the order of lists -/
theorem cmpL_self : ∀ a, cmpL a a = 0
  | [] => rfl
  | a :: xs => by rw [cmpL, if_pos rfl, cmpL_self xs]
theorem cmpL_zero : ∀ a b, cmpL a b = 0 → a = b
  | [], [], _ => rfl
  | [], b :: ys, h => by simp [cmpL] at h
  | a :: xs, [], h => by simp [cmpL] at h
  | a :: xs, b :: ys, h => by
    rw [cmpL] at h
    by_cases hab : a = b
    · rw [if_pos hab] at h
      rw [hab, cmpL_zero xs ys h]
    · rw [if_neg hab] at h
      unfold cmpI at h
      split at h
      · omega
      · split at h
        · omega
        · omega
theorem cmpL_trans : ∀ a b c, cmpL a b < 0 → cmpL b c < 0 → cmpL a c < 0
  | [], [], _, h, _ => by simp [cmpL] at h
  | [], b :: ys, [], _, h => by simp [cmpL] at h
  | [], b :: ys, c :: zs, _, _ => by simp [cmpL]
  | a :: xs, [], _, h, _ => by simp [cmpL] at h
  | a :: xs, b :: ys, [], _, h => by simp [cmpL] at h
  | a :: xs, b :: ys, c :: zs, h1, h2 => by
    rw [cmpL] at h1 h2 ⊢
    by_cases hab : a = b
    · rw [if_pos hab] at h1
      subst hab
      by_cases hbc : a = c
      · rw [if_pos hbc] at h2 ⊢
        exact cmpL_trans xs ys zs h1 h2
      · rw [if_neg hbc] at h2 ⊢
        exact h2
    · rw [if_neg hab] at h1
      have k1 : a < b := by
        unfold cmpI at h1
        split at h1
        · assumption
        · split at h1 <;> omega
      have k2 : b ≤ c := by
        by_cases hbc : b = c
        · omega
        · rw [if_neg hbc] at h2
          unfold cmpI at h2
          split at h2
          · omega
          · split at h2 <;> omega
      rw [if_neg (by omega)]
      unfold cmpI
      rw [if_pos (by omega)]
      omega
theorem cmpL_flip : ∀ a b, 0 < cmpL a b → cmpL b a < 0
  | [], [], h => by simp [cmpL] at h
  | [], b :: ys, h => by simp [cmpL] at h
  | a :: xs, [], _ => by simp [cmpL]
  | a :: xs, b :: ys, h => by
    rw [cmpL] at h ⊢
    by_cases hab : a = b
    · rw [if_pos hab] at h
      rw [if_pos hab.symm]
      exact cmpL_flip xs ys h
    · rw [if_neg hab] at h
      rw [if_neg fun hh => hab hh.symm]
      unfold cmpI at h ⊢
      split at h
      · omega
      · split at h
        · rename_i h1 h2; rw [if_pos h2]; omega
        · omega

/-- the tuples of a valid relation go up -/
theorem valid_up {s : Int} {r : Int × List (List Int)} (hv : SValidRel s r = true) : ∀ i j (hi : i < r.2.length) (hj : j < r.2.length), i < j → cmpL r.2[i] r.2[j] < 0 := by
  have hall : ∀ k, k < r.2.length → okT s r.1 r.2 k = true := by
    unfold SValidRel at hv
    rw [Bool.and_eq_true, List.all_eq_true] at hv
    exact fun k hk => hv.2 k (List.mem_range.2 hk)
  intro i j hi hj hij
  induction j with
  | zero => omega
  | succ j ih =>
    have h1 := hall (j + 1) hj
    rw [okT_succ hj, Bool.and_eq_true] at h1
    have h2 : cmpL r.2[j] r.2[j + 1] < 0 := by
      have := h1.2
      unfold before at this
      simpa using this
    rcases Nat.lt_or_ge i j with h | h
    · exact cmpL_trans _ _ _ (ih (by omega) h) h2
    · have : i = j := by omega
      subst this
      exact h2
theorem valid_parts {s : Int} {r : Int × List (List Int)} (hv : SValidRel s r = true) : (1 ≤ s ∧ s ≤ 4) ∧ (1 ≤ r.1 ∧ r.1 ≤ 4) ∧ ∀ t ∈ r.2, vals s t r.1 = true := by
  unfold SValidRel at hv
  rw [Bool.and_eq_true, Bool.and_eq_true, inB_iff, inB_iff, List.all_eq_true] at hv
  refine ⟨hv.1.1, hv.1.2, fun t ht => ?_⟩
  obtain ⟨k, hk, rfl⟩ := List.getElem_of_mem ht
  exact okT_vals hk (hv.2 k (List.mem_range.2 hk))

def hasT (r : Int × List (List Int)) (t : List Int) : Bool := decide (t ∈ r.2)
def SHasTuple (s : Int) (r : Int × List (List Int)) (t : List Int) : Bool × Int := if SValidRel s r then (hasT r t, 0) else (false, 1)
def twoFault (s : Int) (r q : Int × List (List Int)) : Int := if SValidRel s r && SValidRel s q then if r.1 = q.1 then 0 else 2 else 1
def partOf (r q : Int × List (List Int)) : Bool := r.2.all fun t => hasT q t
def SIsPartOf (s : Int) (r q : Int × List (List Int)) : Bool × Int := if twoFault s r q = 0 then (partOf r q, 0) else (false, twoFault s r q)

set_option maxHeartbeats 1000000 in
theorem l01Has_any (r : Int × List (List Int)) (p : Value) (t : List Int) (u : Value) (w : World) (hr : PtRel w p r) (hs : RdI w u t) :
    Calls Tryz.prog 68 #[p, u] w fun e w' => e = .returned (.bool (hasT r t)) ∧ Qt w w' := by
  obtain ⟨b0, off0, tv, rfl, c0, c1, hr⟩ := hr
  obtain ⟨a, b, off, cap, vs, rfl, hlc, hcm, ha, hc⟩ := hr
  go_enter Tryz.func68, Tryz.ntmps68
  go_wp2_with fail
  go_loopw [5] (fun i wr => ∃ k : Nat, k ≤ r.2.length ∧ i = .int .i64 k ∧ Qt w wr ∧ ¬ t ∈ r.2.take k) (fun i _ => r.2.length - (intOf i).toNat)
  case atStart => exact ⟨0, by omega, rfl, Qt.refl _, by simp⟩
  case round =>
    obtain ⟨k, hk, rfl, hE, ht⟩ := hrel
    have HT := Lib.hid ht
    clear ht
    replace c1 := hE.ext.cell c1
    by_cases hkl : k < r.2.length
    · obtain rfl := ha (by omega)
      obtain ⟨k1, k2⟩ := hc k hkl
      replace k1 := hE.ext.cell k1
      have hC := l00Same_any _ _ _ _ _ (k2.ext hE.ext) (hs.ext hE.ext)
      by_cases hlk : r.2[k] = t
      · have HN := Lib.hid (show hasT r t = true from decide_eq_true (hlk ▸ List.getElem_mem hkl))
        rw [decide_eq_true hlk] at hC
        clear hlk
        go_wp2_with fail
        refine hC.mono ?_
        rintro e w2 ⟨rfl, hQ⟩
        go_wp2_with fail
        go_ret
        exact ⟨ret_bool HN.out.symm, Qt.trans hE hQ⟩
      · have HK := Lib.hid (show ¬ t ∈ r.2.take (k + 1) from by
          rw [List.take_succ_eq_append_getElem hkl, List.mem_append, List.mem_singleton]
          exact fun h => h.elim HT.out fun h => hlk h.symm)
        rw [decide_eq_false hlk] at hC
        clear hlk
        go_wp2_with fail
        refine hC.mono ?_
        rintro e w2 ⟨rfl, hQ⟩
        go_wp2_with fail
        go_roundw
        case rel => exact ⟨k + 1, by omega, by go_num, Qt.trans hE hQ, HK.out⟩
        case measure => simp [intOf]; omega
    · have HN := Lib.hid (show hasT r t = false from decide_eq_false fun h => HT.out (by rw [show k = r.2.length by omega, List.take_length]; exact h))
      go_wp2_with fail
      go_ret
      exact ⟨ret_bool HN.out.symm, hE⟩


theorem lower_all {l : List (List Int)} {t : List Int} (hup : ∀ i j (hi : i < l.length) (hj : j < l.length), i < j → cmpL l[i] l[j] < 0) {m : Nat} (hm : m < l.length) (h : cmpL l[m] t < 0) : ∀ j (hj : j < l.length), j < m + 1 → cmpL l[j] t < 0 := by
  intro j hj hjm
  rcases Nat.lt_or_ge j m with h1 | h1
  · exact cmpL_trans _ _ _ (hup j m hj hm h1) h
  · have : j = m := by omega
    subst this
    exact h
theorem upper_all {l : List (List Int)} {t : List Int} (hup : ∀ i j (hi : i < l.length) (hj : j < l.length), i < j → cmpL l[i] l[j] < 0) {m : Nat} (hm : m < l.length) (h : ¬ cmpL l[m] t < 0) : ∀ j (hj : j < l.length), m ≤ j → 0 ≤ cmpL l[j] t := by
  intro j hj hjm
  apply Int.not_lt.1
  intro hlt
  rcases Nat.lt_or_ge m j with h1 | h1
  · exact h (cmpL_trans _ _ _ (hup m j hm hj h1) hlt)
  · have : j = m := by omega
    subst this
    exact h hlt
/-- where the search ends: found just if it stands there -/
theorem found_iff {l : List (List Int)} {t : List Int} (hup : ∀ i j (hi : i < l.length) (hj : j < l.length), i < j → cmpL l[i] l[j] < 0) {k : Nat} (h1 : ∀ j (hj : j < l.length), j < k → cmpL l[j] t < 0) (h2 : ∀ j (hj : j < l.length), k ≤ j → 0 ≤ cmpL l[j] t) :
    t ∈ l ↔ ∃ hk : k < l.length, cmpL l[k] t = 0 := by
  constructor
  · intro hm
    obtain ⟨j, hj, rfl⟩ := List.getElem_of_mem hm
    rcases Nat.lt_or_ge j k with h | h
    · have := h1 j hj h
      rw [cmpL_self] at this
      omega
    · rcases Nat.lt_or_ge k j with h' | h'
      · have := hup k j (by omega) hj h'
        have := h2 k (by omega) (Nat.le_refl _)
        omega
      · have : j = k := by omega
        subst this
        exact ⟨hj, cmpL_self _⟩
  · rintro ⟨hk, h0⟩
    rw [← cmpL_zero _ _ h0]
    exact List.getElem_mem hk

theorem ret_found {k : Int} {b c : Bool} (h : c = b) : Ending.returned (.tuple #[.int .i64 k, .bool b]) = .returned (.tuple #[.int .i64 k, .bool c]) := by rw [h]
set_option maxHeartbeats 2000000 in
theorem searchII_any (l : List (List Int)) (t : List Int) (v u : Value) (f : FuncId) (first cap : Array Value) (w : World) (hr : RdII w v l) (hs : RdI w u t)
    (hup : ∀ i j (hi : i < l.length) (hj : j < l.length), i < j → cmpL l[i] l[j] < 0) (hbig : l.length < 4611686018427387904)
    (hcall : ∀ xs w, (callFunc f xs).run Tryz.prog w = .ok (.enter f xs) w)
    (hf : ∀ x y vx vy w', RdI w' vx x → RdI w' vy y → Calls Tryz.prog f (first ++ #[vx, vy] ++ cap) w' fun e w'' => e = .returned (.int .i64 (cmpL x y)) ∧ w' = w'') :
    Calls Tryz.prog 104 #[v, u, .func (.func f) first cap] w fun e w' => ∃ k : Int, e = .returned (.tuple #[.int .i64 k, .bool (decide (t ∈ l))]) ∧ w = w' := by
  obtain ⟨a, b, off, cap1, vs, rfl, hlc, hcm, ha, hc⟩ := hr
  have HF := Lib.hid hf
  have HU := Lib.hid hup
  have HC := Lib.hid hc
  clear hf hup hc
  go_enter Tryz.func104, Tryz.ntmps104
  go_wp2
  go_loop [9, 10] (fun i j => ∃ lo hi : Nat, i = .int .i64 lo ∧ j = .int .i64 hi ∧ lo ≤ hi ∧ hi ≤ l.length ∧ Hid ((∀ j (hj : j < l.length), j < lo → cmpL l[j] t < 0) ∧ (∀ j (hj : j < l.length), hi ≤ j → 0 ≤ cmpL l[j] t)))
    (fun i j => (intOf j - intOf i).toNat)
  case atStart => exact ⟨0, l.length, rfl, rfl, by omega, by omega, ⟨fun j _ hj => by omega, fun j hj h => by omega⟩⟩
  case round =>
    obtain ⟨lo, hi, rfl, rfl, hlh, hin, HI⟩ := hrel
    by_cases hlt : lo < hi
    · have hml : (lo + hi) / 2 < l.length := by omega
      obtain rfl := ha (by omega)
      obtain ⟨k1, k2⟩ := HC.out ((lo + hi) / 2) hml
      have hC := HF.out _ _ _ _ w k2 hs
      generalize vs ((lo + hi) / 2) = y at k1 hC
      by_cases hcmp : cmpL l[(lo + hi) / 2] t < 0
      · have HN := Lib.hid (lower_all HU.out hml hcmp)
        generalize cmpL l[(lo + hi) / 2] t = z at hcmp hC
        go_wp2_with fail
        refine (by simpa using hC : Calls _ _ _ _ _).mono ?_
        rintro e w2 ⟨rfl, rfl⟩
        go_wp2_with fail
        go_round
        case rel => exact ⟨(lo + hi) / 2 + 1, hi, by rw [show ((lo : Int) + (hi : Int)) / 2 + 1 = (((lo + hi) / 2 + 1 : Nat) : Int) by omega], rfl, by omega, hin, ⟨HN.out, HI.out.2⟩⟩
        case measure => simp [intOf]; omega
      · have HN := Lib.hid (upper_all HU.out hml hcmp)
        generalize cmpL l[(lo + hi) / 2] t = z at hcmp hC
        go_wp2_with fail
        refine (by simpa using hC : Calls _ _ _ _ _).mono ?_
        rintro e w2 ⟨rfl, rfl⟩
        go_wp2_with fail
        go_round
        case rel => exact ⟨lo, (lo + hi) / 2, rfl, by rw [show ((lo : Int) + (hi : Int)) / 2 = (((lo + hi) / 2 : Nat) : Int) by omega], by omega, by omega, ⟨HI.out.1, HN.out⟩⟩
        case measure => simp [intOf]; omega
    · obtain rfl : lo = hi := by omega
      have HE := Lib.hid (found_iff HU.out HI.out.1 HI.out.2)
      by_cases hn : lo < l.length
      · obtain rfl := ha (by omega)
        obtain ⟨k1, k2⟩ := HC.out lo hn
        have hC := HF.out _ _ _ _ w k2 hs
        generalize vs lo = y at k1 hC
        by_cases hz : cmpL l[lo] t = 0
        · have HD := Lib.hid (show decide (t ∈ l) = true from decide_eq_true (HE.out.2 ⟨hn, hz⟩))
          rw [hz] at hC
          clear hz
          go_wp2_with fail
          refine (by simpa using hC : Calls _ _ _ _ _).mono ?_
          rintro e w2 ⟨rfl, rfl⟩
          go_wp2_with fail
          go_ret2
          exact ⟨lo, ret_found HD.out, rfl⟩
        · have HD := Lib.hid (show decide (t ∈ l) = false from decide_eq_false fun h => hz (HE.out.1 h).2)
          generalize cmpL l[lo] t = z at hC hz
          go_wp2_with fail
          refine (by simpa using hC : Calls _ _ _ _ _).mono ?_
          rintro e w2 ⟨rfl, rfl⟩
          go_wp2_with fail
          go_ret2
          exact ⟨lo, ret_found (by rw [HD.out]; simp [hz]), rfl⟩
      · have HD := Lib.hid (show decide (t ∈ l) = false from decide_eq_false fun h => hn (HE.out.1 h).1)
        go_wp2_with fail
        go_ret2
        exact ⟨⟨lo, ret_found HD.out⟩, rfl⟩

set_option maxHeartbeats 400000 in
theorem has_any (s : Int) (r : Int × List (List Int)) (v : Value) (t : List Int) (u : Value) (w : World) (hr : RdRel w v r) (hs : RdI w u t) (hv : SValidRel s r = true) (hz : szRel r ≤ 1048576) :
    Calls Tryz.prog 57 #[v, u] w fun e w' => e = .returned (.bool (hasT r t)) ∧ Ext w w' := by
  obtain ⟨tv, rfl, hr⟩ := hr
  obtain ⟨ta, tc, rfl⟩ := hr.form
  have hlen : r.2.length ≤ 1048576 := Nat.le_trans (len_le_szII _) hz
  have hE1 : Ext w (w.alloc (.cells #[.int .i64 r.1, .slice ta r.2.length tc] 35)) := (Ext.refl' w).alloc (Nat.le_refl _) _
  go_enter Tryz.func57, Tryz.ntmps57
  go_wp2_with fail
  refine (searchII_any r.2 t _ _ 105 #[] #[] _ (hr.ext hE1) (hs.ext hE1) (valid_up hv) (by omega) Tryz.call105 ?_).mono ?_
  · intro x y vx vy w' h1 h2
    simp only [List.append_toArray, List.nil_append, List.append_nil]
    go_enter Tryz.func105, Tryz.ntmps105
    go_wp2_with fail
    refine (compare_any _ _ _ _ _ h1 h2).mono ?_
    rintro e w2 ⟨rfl, rfl⟩
    go_wp2_with fail
    go_ret
    exact ⟨rfl, rfl⟩
  rintro e w2 ⟨k, rfl, rfl⟩
  go_wp2_with fail
  go_ret
  exact ⟨rfl, hE1⟩
end Go.Proofs.YtajkepdfemdagaaGreatDoor
namespace Go.Proofs.YtajkepdfemdagaaGreatDoor
open Go.RowKit
set_option linter.unusedVariables false

theorem vals_iff {s m : Int} {t : List Int} : vals s t m = true ↔ (t.length : Int) = m ∧ ∀ a ∈ t, 0 ≤ a ∧ a < s := by
  unfold vals
  rw [Bool.and_eq_true, decide_eq_true_eq, List.all_eq_true]
  constructor
  · rintro ⟨h1, h2⟩
    exact ⟨h1, fun a ha => by have := inB_iff.1 (h2 a ha); omega⟩
  · rintro ⟨h1, h2⟩
    exact ⟨h1, fun a ha => inB_iff.2 (by have := h2 a ha; omega)⟩
theorem code_nil (s : Int) : code s [] = 0 := rfl
theorem code_take (s : Int) (l : List Int) (k : Nat) (hk : k < l.length) : code s (l.take (k + 1)) = code s (l.take k) * s + l[k] := by
  rw [List.take_succ_eq_append_getElem hk, code_snoc]
theorem code_bd (s : Int) (l : List Int) (hs : 0 ≤ s) (hv : ∀ a ∈ l, 0 ≤ a ∧ a < s) : ∀ k, k ≤ l.length → 0 ≤ code s (l.take k) ∧ code s (l.take k) < s ^ k
  | 0, _ => by simp [code]
  | k + 1, hk => by
    obtain ⟨h1, h2⟩ := code_bd s l hs hv k (by omega)
    have ha := hv l[k] (List.getElem_mem _)
    rw [code_take s l k (by omega)]
    have h3 : 0 ≤ code s (l.take k) * s := Int.mul_nonneg h1 hs
    have h4 : (code s (l.take k) + 1) * s ≤ s ^ k * s := Int.mul_le_mul_of_nonneg_right (by omega) hs
    rw [Int.add_mul, Int.one_mul] at h4
    rw [Int.pow_succ]
    omega
theorem pow_bd (s : Int) (hs : 0 ≤ s) (hs2 : s ≤ 256) : ∀ k : Nat, 0 ≤ s ^ k ∧ s ^ k ≤ 256 ^ k
  | 0 => by simp
  | k + 1 => by
    obtain ⟨h1, h2⟩ := pow_bd s hs hs2 k
    rw [Int.pow_succ, Int.pow_succ]
    have h3 : s ^ k * s ≤ 256 ^ k * 256 := Int.mul_le_mul h2 hs2 hs (by omega)
    exact ⟨Int.mul_nonneg h1 hs, h3⟩
theorem code_small (s : Int) (l : List Int) (hs : 0 ≤ s) (hs2 : s ≤ 256) (hl : l.length ≤ 4) (hv : ∀ a ∈ l, 0 ≤ a ∧ a < s) (k : Nat) (hk : k ≤ l.length) : 0 ≤ code s (l.take k) ∧ code s (l.take k) ≤ 4294967296 := by
  have h1 := code_bd s l hs hv k hk
  have h2 := (pow_bd s hs hs2 k).2
  have h3 : k = 0 ∨ k = 1 ∨ k = 2 ∨ k = 3 ∨ k = 4 := by omega
  have h4 : (256 : Int) ^ k ≤ 4294967296 := by rcases h3 with rfl | rfl | rfl | rfl | rfl <;> decide
  exact ⟨h1.1, Int.le_of_lt (Int.lt_of_lt_of_le h1.2 (Int.le_trans h2 h4))⟩
theorem code_mul (s : Int) (l : List Int) (hs : 0 ≤ s) (hs2 : s ≤ 256) (hl : l.length ≤ 4) (hv : ∀ a ∈ l, 0 ≤ a ∧ a < s) (k : Nat) (hk : k ≤ l.length) : 0 ≤ code s (l.take k) * s ∧ code s (l.take k) * s ≤ 4294967296 * 256 := by
  have h1 := code_small s l hs hs2 hl hv k hk
  exact ⟨Int.mul_nonneg h1.1 hs, Int.mul_le_mul h1.2 hs2 hs (by omega)⟩

end Go.Proofs.YtajkepdfemdagaaGreatDoor
