/- Lists of values: so many, each of a size. The list of digits of a number; the number of a list. -/
import Derived.Test.YtajkepdfemdagaaGreatDoorC04
namespace Go.Proofs.YtajkepdfemdagaaGreatDoor
open Go.RowKit
set_option linter.unusedVariables false

/-- so many values of a size -/
def vals (s : Int) (l : List Int) (many : Int) : Bool := decide ((l.length : Int) = many) && l.all fun a => inB a 0 (s - 1)

/-- the index of the first that something is so of, -1 for none -/
def idx {α : Type} (p : α → Bool) (l : List α) : Int := match l.findIdx? p with | some i => (i : Int) | none => -1
theorem idx_any {α : Type} (p : α → Bool) (l : List α) : decide (0 ≤ idx p l) = l.any p := by
  unfold idx
  cases h : l.findIdx? p with
  | none =>
    rw [List.findIdx?_eq_none_iff] at h
    have : l.any p = false := by rw [List.any_eq_false]; intro x hx; simp [h x hx]
    rw [this]; rfl
  | some i =>
    rw [List.findIdx?_eq_some_iff_getElem] at h
    obtain ⟨hi, hp, _⟩ := h
    have : l.any p = true := List.any_eq_true.2 ⟨_, List.getElem_mem hi, hp⟩
    rw [this]; simp
theorem idx_here {α : Type} (p : α → Bool) (l : List α) (k : Nat) (hk : k < l.length) (ht : (l.take k).any p = false) (hp : p l[k] = true) : idx p l = k := by
  unfold idx
  have : l.findIdx? p = some k := by
    rw [List.findIdx?_eq_some_iff_getElem]
    refine ⟨hk, hp, fun j hj => ?_⟩
    rw [List.any_eq_false] at ht
    have hj2 : j < l.length := by omega
    have := ht l[j] (List.mem_take_iff_getElem.2 ⟨j, by omega, rfl⟩)
    simpa using this
  rw [this]
theorem idx_none {α : Type} (p : α → Bool) (l : List α) (ht : l.any p = false) : idx p l = -1 := by
  unfold idx
  have : l.findIdx? p = none := by
    rw [List.findIdx?_eq_none_iff]
    intro x hx
    rw [List.any_eq_false] at ht
    simpa using ht x hx
  rw [this]
theorem any_take_succ {α : Type} (p : α → Bool) (l : List α) (k : Nat) (hk : k < l.length) : (l.take (k + 1)).any p = ((l.take k).any p || p l[k]) := by
  rw [List.take_succ_eq_append_getElem hk, List.any_append]; simp

set_option maxHeartbeats 1000000 in
/-- p: what the function value says of each number of the list, wherever memory has grown to -/
theorem indexFuncI_any (p : Int → Bool) (l : List Int) (v : Value) (f : FuncId) (first cap : Array Value) (w : World) (hr : RdI w v l)
    (hcall : ∀ xs w, (callFunc f xs).run Tryz.prog w = .ok (.enter f xs) w)
    (hf : ∀ a ∈ l, ∀ w', Ext w w' → Calls Tryz.prog f (first ++ #[.int .i64 a] ++ cap) w' fun e w'' => e = .returned (.bool (p a)) ∧ Ext w' w'') :
    Calls Tryz.prog 152 #[v, .func (.func f) first cap] w fun e w' => e = .returned (.int .i64 (idx p l)) ∧ Ext w w' := by
  obtain ⟨a, b, off, c, rfl, hlc, hcm, ha, hc⟩ := hr
  have HF := Lib.hid hf
  clear hf
  go_enter Tryz.func152, Tryz.ntmps152
  go_wp2_with fail
  go_loopw [8] (fun i wr => ∃ k : Nat, k ≤ l.length ∧ i = .int .i64 k ∧ Ext w wr ∧ (l.take k).any p = false) (fun i _ => l.length - (intOf i).toNat)
  case atStart => exact ⟨0, by omega, rfl, Ext.refl' _, rfl⟩
  case round =>
    obtain ⟨k, hk, rfl, hE, ht⟩ := hrel
    have HT := Lib.hid ht
    clear ht
    by_cases hkl : k < l.length
    · obtain rfl := ha (by omega)
      have hck := hE.cell (hc k hkl)
      go_wp2_with fail
      have hcc := HF.out l[k] (List.getElem_mem hkl) wr hE
      cases hp : p l[k] with
      | true =>
        rw [hp] at hcc
        refine hcc.mono ?_
        rintro e w2 ⟨rfl, hE2⟩
        have HI := Lib.hid (idx_here p l k hkl HT.out hp)
        clear hp
        go_wp2_with fail
        go_ret
        exact ⟨ret_int HI.out.symm, hE.tr hE2⟩
      | false =>
        rw [hp] at hcc
        refine hcc.mono ?_
        rintro e w2 ⟨rfl, hE2⟩
        have HI := Lib.hid (show (l.take (k + 1)).any p = false from by rw [any_take_succ p l k hkl, HT.out, hp]; rfl)
        clear hp
        have hE3 := hE.tr hE2
        go_wp2_with fail
        go_roundw
        case rel => exact ⟨k + 1, by omega, by go_num, hE3, HI.out⟩
        case measure => simp [intOf]; omega
    · go_wp2_with fail
      go_ret
      refine ⟨ret_int ?_, hE⟩
      have hkk : k = l.length := by omega
      have := HT.out
      rw [hkk, List.take_length] at this
      rw [idx_none p l this]

theorem containsFuncI_any (p : Int → Bool) (l : List Int) (v : Value) (f : FuncId) (first cap : Array Value) (w : World) (hr : RdI w v l)
    (hcall : ∀ xs w, (callFunc f xs).run Tryz.prog w = .ok (.enter f xs) w)
    (hf : ∀ a ∈ l, ∀ w', Ext w w' → Calls Tryz.prog f (first ++ #[.int .i64 a] ++ cap) w' fun e w'' => e = .returned (.bool (p a)) ∧ Ext w' w'') :
    Calls Tryz.prog 108 #[v, .func (.func f) first cap] w fun e w' => e = .returned (.bool (l.any p)) ∧ Ext w w' := by
  have HC := Lib.hid (idx_any p l)
  have HF := Lib.hid hf
  clear hf
  go_enter Tryz.func108, Tryz.ntmps108
  go_wp2_with (go_at_call 152; refine (indexFuncI_any p l _ _ _ _ _ hr hcall HF.out).mono ?_; rintro e w' ⟨rfl, hE⟩)
  go_ret
  exact ⟨ret_bool HC.out, hE⟩

set_option maxHeartbeats 400000 in
theorem areValues_any (s : Int) (l : List Int) (v : Value) (m : Int) (w : World) (hr : RdI w v l) (hs : -9223372036854775807 ≤ s) (hs2 : s ≤ 9223372036854775807) :
    Calls Tryz.prog 65 #[.int .i64 s, v, .int .i64 m] w fun e w' => e = .returned (.bool (vals s l m)) ∧ Ext w w' := by
  have hmf : ∀ (fn : Fn) (first cap : Array Value) (w : World), (Instr.makeFunc fn first cap).run Tryz.prog w = .ok (.func fn first cap) w := fun _ _ _ _ => rfl
  have hE1 : Ext w (w.alloc (.cells #[.int .i64 s] 2)) := (Ext.refl' w).alloc (Nat.le_refl _) _
  have hcell : (w.alloc (.cells #[.int .i64 s] 2)).cell? ⟨w.heap.size, 0, none⟩ = some (.int .i64 s) := by simp [go_sem]
  have hclos : ∀ a ∈ l, ∀ w', Ext (w.alloc (.cells #[.int .i64 s] 2)) w' → Calls Tryz.prog 109 (#[] ++ #[.int .i64 a] ++ #[.pointer (some ⟨w.heap.size, 0, none⟩)]) w' fun e w'' => e = .returned (.bool (!inB a 0 (s - 1))) ∧ Ext w' w'' := by
    intro a _ w' hE
    have hc := hE.cell hcell
    clear hcell
    simp only [List.append_toArray, List.nil_append, List.cons_append]
    go_enter Tryz.func109, Tryz.ntmps109
    go_wp2_with (go_at_call 110; refine (isValue_any _ _ _ hs hs2).mono ?_; rintro e w' ⟨rfl, rfl⟩)
    go_ret
    exact ⟨rfl, Ext.refl' _⟩
  have hr1 := hr.ext hE1
  obtain ⟨a, c, rfl⟩ := hr.form
  have HH := Lib.hid hclos
  clear hclos
  by_cases hlen : (l.length : Int) = m
  · have hb : ((l.length : Int) == m) = true := by simp [hlen]
    have HV := Lib.hid (show vals s l m = !(l.any fun a => !inB a 0 (s - 1)) from by
      unfold vals
      rw [decide_eq_true hlen, Bool.true_and, List.not_any_eq_all_not]
      simp)
    clear hlen
    go_enter Tryz.func65, Tryz.ntmps65
    go_wp2_with (go_at_call 108; refine (containsFuncI_any (fun a => !inB a 0 (s - 1)) l _ _ _ _ _ hr1 Tryz.call109 HH.out).mono ?_; rintro e w' ⟨rfl, hE⟩)
    go_ret
    exact ⟨ret_bool HV.out.symm, hE1.tr hE⟩
  · have hb : ((l.length : Int) == m) = false := by simp [hlen]
    have HV := Lib.hid (show vals s l m = false from by
      unfold vals
      rw [decide_eq_false hlen, Bool.false_and])
    clear hlen
    go_enter Tryz.func65, Tryz.ntmps65
    go_wp2_with fail
    go_ret
    exact ⟨ret_bool HV.out.symm, hE1⟩

set_option maxHeartbeats 400000 in
theorem l01Tuple_any (s m : Int) (l : List Int) (v : Value) (w : World) (hr : RdI w v l) (hs : -9223372036854775807 ≤ s) (hs2 : s ≤ 9223372036854775807) :
    Calls Tryz.prog 113 #[.int .i64 s, .int .i64 m, v] w fun e w' => e = .returned (.bool (vals s l m)) ∧ w = w' := by
  obtain ⟨a, b, off, c, rfl, hlc, hcm, ha, hc⟩ := hr
  go_enter Tryz.func113, Tryz.ntmps113
  go_wp2_with fail
  go_loop [7] (fun i => ∃ k : Nat, k ≤ l.length ∧ i = .int .i64 k ∧ (l.take k).any (fun a => !inB a 0 (s - 1)) = false) (fun i => l.length - (intOf i).toNat)
  case atStart => exact ⟨0, by omega, rfl, rfl⟩
  case round =>
    obtain ⟨k, hk, rfl, ht⟩ := hrel
    have HT := Lib.hid ht
    clear ht
    by_cases hkl : k < l.length
    · obtain rfl := ha (by omega)
      have hck := hc k hkl
      cases hp : inB l[k] 0 (s - 1) with
      | true =>
        have HI := Lib.hid (show (l.take (k + 1)).any (fun a => !inB a 0 (s - 1)) = false from by rw [any_take_succ _ l k hkl, HT.out, hp]; rfl)
        go_wp2_with (go_at_call 140; refine (l00In_any _ _ _ _).mono ?_; rintro e w' ⟨rfl, rfl⟩)
        go_round
        case rel => exact ⟨k + 1, by omega, by go_num, HI.out⟩
        case measure => simp [intOf]; omega
      | false =>
        have HI := Lib.hid (show vals s l m = false from by
          unfold vals
          rw [Bool.and_eq_false_iff]
          right
          rw [List.all_eq_false]
          exact ⟨l[k], List.getElem_mem hkl, by simp [hp]⟩)
        go_wp2_with (go_at_call 140; refine (l00In_any _ _ _ _).mono ?_; rintro e w' ⟨rfl, rfl⟩)
        go_ret
        exact ⟨ret_bool HI.out.symm, rfl⟩
    · have HV := Lib.hid (show vals s l m = ((l.length : Int) == m) from by
        have hkk : k = l.length := by omega
        have := HT.out
        rw [hkk, List.take_length] at this
        unfold vals
        have h2 : (l.all fun a => inB a 0 (s - 1)) = true := by
          rw [List.all_eq_true]
          intro x hx
          rw [List.any_eq_false] at this
          simpa using this x hx
        rw [h2, Bool.and_true]
        rfl)
      go_wp2_with fail
      go_ret
      exact ⟨ret_bool HV.out.symm, rfl⟩

end Go.Proofs.YtajkepdfemdagaaGreatDoor
namespace Go.Proofs.YtajkepdfemdagaaGreatDoor
open Go.RowKit
set_option linter.unusedVariables false

/-- so many digits of n, the last one last -/
def digs (s : Int) : Nat → Int → List Int
  | 0, _ => []
  | k + 1, n => digs s k (n / s) ++ [n % s]
theorem digs_length (s : Int) : ∀ k n, (digs s k n).length = k
  | 0, _ => rfl
  | k + 1, n => by simp [digs, digs_length s k]
theorem digs_val (s : Int) (hs : 1 ≤ s) : ∀ k n, 0 ≤ n → ∀ a ∈ digs s k n, 0 ≤ a ∧ a < s
  | 0, _, _, a, ha => by simp [digs] at ha
  | k + 1, n, hn, a, ha => by
    simp only [digs, List.mem_append, List.mem_singleton] at ha
    rcases ha with ha | rfl
    · exact digs_val s hs k (n / s) (Int.ediv_nonneg hn (by omega)) a ha
    · exact ⟨Int.emod_nonneg _ (by omega), Int.emod_lt_of_pos _ (by omega)⟩
/-- the number of a list -/
def code (s : Int) (l : List Int) : Int := l.foldl (fun n a => n * s + a) 0
theorem code_snoc (s : Int) (l : List Int) (a : Int) : code s (l ++ [a]) = code s l * s + a := by simp [code]

theorem fill_down {l : List Value} {z x : Value} {k : Nat} :
    (List.replicate (k + 1) z ++ l).set k x = List.replicate k z ++ (x :: l) := by
  rw [List.set_append_left _ _ (by simp), List.replicate_succ', List.set_append_right _ _ (by simp)]
  simp

set_option maxHeartbeats 1000000 in
theorem listOf_any (s m i : Int) (w : World) (hm : 0 ≤ m) (hm2 : m ≤ 1048576) (hs : 1 ≤ s) (hs2 : s ≤ 9223372036854775807) (hi0 : 0 ≤ i) (hi2 : i ≤ 9223372036854775807) :
    Calls Tryz.prog 77 #[.int .i64 s, .int .i64 m, .int .i64 i] w fun e w' => ∃ u fp, e = .returned u ∧ Ext w w' ∧ OI w' u (digs s m.toNat i) fp ∧ ∀ g ∈ fp, w.heap.size ≤ g := by
  obtain ⟨n, rfl⟩ := Int.eq_ofNat_of_zero_le hm
  obtain ⟨i0, hi, hz0, hz1, hz2⟩ := info_parts infoI
  rw [Int.toNat_natCast]
  go_enter Tryz.func77, Tryz.ntmps77
  go_wp2_with (at_make; refine wpList_make_full _ rfl _ _ 37 rfl 0 2 i0 (.int .i64 0) 1 Tryz.underlying37 hi hz0 hz1 _ _ _ _ n rfl rfl rfl rfl (by rw [hz2]; omega) (by unfold maxLen; omega) (by omega) ?_)
  intro w1 hown hgr
  go_wp2_with fail
  go_loopw [2, 8] (fun q j wr => ∃ (k : Nat) (x : Int) (D : List Int), k ≤ n ∧ j = .int .i64 ((k : Int) - 1) ∧ q = .int .i64 x ∧ 0 ≤ x ∧ x ≤ 9223372036854775807 ∧ Ext w wr ∧ w.heap.size < wr.heap.size ∧
      Hid (k + D.length = n ∧ digs s n i = digs s k x ++ D) ∧ wr.ownsRow 0 2 1 (.slice (some ⟨w.heap.size, 0, none⟩) n n) n (List.replicate k (.int .i64 0) ++ D.map (Value.int .i64)))
    (fun _ j _ => (intOf j + 1).toNat)
  case atStart =>
    refine ⟨n, i, [], by omega, rfl, rfl, hi0, hi2, ?_, ?_, ⟨by simp, by simp⟩, ?_⟩
    · exact (Ext.refl' w).grown hgr (Nat.le_refl _) (by simp)
    · exact (hown.lt _ rfl).2
    · simpa [Value.cells, toList_madeCells_one] using hown
  case round =>
    obtain ⟨k, x, D, hk, rfl, rfl, hx0, hx2, hE, hlt, hD, ho⟩ := hrel
    by_cases hk0 : k = 0
    · subst hk0
      go_wp2_with fail
      go_ret
      obtain ⟨hD1, hD2⟩ := hD.out
      have hh : digs s n i = D := by rw [hD2]; rfl
      refine ⟨_, _, rfl, hE, ⟨?_, rfl⟩, by simp [Value.ownBlock]⟩
      rw [hh]
      have : D.length = n := by omega
      simpa [this] using ho
    · obtain ⟨k', rfl⟩ : ∃ k', k = k' + 1 := ⟨k - 1, by omega⟩
      obtain ⟨u, hu⟩ := own_cell ho k' (by omega)
      have hfz := ho.frozenAt k'
      have hst := (ho.stored k' (.int .i64 (x % s))).1
      rw [fill_down] at hst
      have hE2 := hE.setCell (p := ⟨w.heap.size, k', none⟩) (Nat.le_refl _) (.int .i64 (x % s))
      have hq := IntWalk.tdiv_le x s hx0 hs
      have hkk : ((k' + 1 : Nat) : Int) - 1 = (k' : Int) := by omega
      rw [hkk]
      have hH : Hid (k' + (x % s :: D).length = n ∧ digs s n i = digs s k' (x / s) ++ (x % s :: D)) := ⟨by have := hD.out.1; simp; omega, by rw [hD.out.2]; simp [digs]⟩
      clear hD hkk
      have hge : (0 : Int) ≤ (k' : Int) := by omega
      go_wp2_with fail
      go_roundw
      case rel => exact ⟨k', x / s, x % s :: D, by omega, by go_num, rfl, hq.1, by omega, hE2, by simpa using hlt, hH, by simpa using hst⟩
      case measure => simp [intOf]
set_option maxHeartbeats 1000000 in
theorem l01Digits_any (s m i : Int) (w : World) (hm : 0 ≤ m) (hm2 : m ≤ 1048576) (hs : 1 ≤ s) (hs2 : s ≤ 9223372036854775807) (hi0 : 0 ≤ i) (hi2 : i ≤ 9223372036854775807) :
    Calls Tryz.prog 90 #[.int .i64 s, .int .i64 m, .int .i64 i] w fun e w' => ∃ u fp, e = .returned u ∧ Ext w w' ∧ OI w' u (digs s m.toNat i) fp ∧ ∀ g ∈ fp, w.heap.size ≤ g := by
  obtain ⟨n, rfl⟩ := Int.eq_ofNat_of_zero_le hm
  obtain ⟨i0, hi, hz0, hz1, hz2⟩ := info_parts infoI
  rw [Int.toNat_natCast]
  go_enter Tryz.func90, Tryz.ntmps90
  go_wp2_with (at_make; refine wpList_make_full _ rfl _ _ 37 rfl 0 2 i0 (.int .i64 0) 1 Tryz.underlying37 hi hz0 hz1 _ _ _ _ n rfl rfl rfl rfl (by rw [hz2]; omega) (by unfold maxLen; omega) (by omega) ?_)
  intro w1 hown hgr
  go_wp2_with fail
  go_loopw [2, 8] (fun q j wr => ∃ (k : Nat) (x : Int) (D : List Int), k ≤ n ∧ j = .int .i64 ((k : Int) - 1) ∧ q = .int .i64 x ∧ 0 ≤ x ∧ x ≤ 9223372036854775807 ∧ Ext w wr ∧ w.heap.size < wr.heap.size ∧
      Hid (k + D.length = n ∧ digs s n i = digs s k x ++ D) ∧ wr.ownsRow 0 2 1 (.slice (some ⟨w.heap.size, 0, none⟩) n n) n (List.replicate k (.int .i64 0) ++ D.map (Value.int .i64)))
    (fun _ j _ => (intOf j + 1).toNat)
  case atStart =>
    refine ⟨n, i, [], by omega, rfl, rfl, hi0, hi2, ?_, ?_, ⟨by simp, by simp⟩, ?_⟩
    · exact (Ext.refl' w).grown hgr (Nat.le_refl _) (by simp)
    · exact (hown.lt _ rfl).2
    · simpa [Value.cells, toList_madeCells_one] using hown
  case round =>
    obtain ⟨k, x, D, hk, rfl, rfl, hx0, hx2, hE, hlt, hD, ho⟩ := hrel
    by_cases hk0 : k = 0
    · subst hk0
      go_wp2_with fail
      go_ret
      obtain ⟨hD1, hD2⟩ := hD.out
      have hh : digs s n i = D := by rw [hD2]; rfl
      refine ⟨_, _, rfl, hE, ⟨?_, rfl⟩, by simp [Value.ownBlock]⟩
      rw [hh]
      have : D.length = n := by omega
      simpa [this] using ho
    · obtain ⟨k', rfl⟩ : ∃ k', k = k' + 1 := ⟨k - 1, by omega⟩
      obtain ⟨u, hu⟩ := own_cell ho k' (by omega)
      have hfz := ho.frozenAt k'
      have hst := (ho.stored k' (.int .i64 (x % s))).1
      rw [fill_down] at hst
      have hE2 := hE.setCell (p := ⟨w.heap.size, k', none⟩) (Nat.le_refl _) (.int .i64 (x % s))
      have hq := IntWalk.tdiv_le x s hx0 hs
      have hkk : ((k' + 1 : Nat) : Int) - 1 = (k' : Int) := by omega
      rw [hkk]
      have hH : Hid (k' + (x % s :: D).length = n ∧ digs s n i = digs s k' (x / s) ++ (x % s :: D)) := ⟨by have := hD.out.1; simp; omega, by rw [hD.out.2]; simp [digs]⟩
      clear hD hkk
      have hge : (0 : Int) ≤ (k' : Int) := by omega
      go_wp2_with fail
      go_roundw
      case rel => exact ⟨k', x / s, x % s :: D, by omega, by go_num, rfl, hq.1, by omega, hE2, by simpa using hlt, hH, by simpa using hst⟩
      case measure => simp [intOf]
end Go.Proofs.YtajkepdfemdagaaGreatDoor
