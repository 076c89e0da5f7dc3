
/- Which tuples of a relation an operation makes a tuple of that is none of it: the first list of such tuples, by number. -/
import Derived.Test.YtemhmpnnccmlmaaSetOps
import Derived.Test.YtemhmpnnccmlmaaMade
import Derived.Test.YtemhmpnnccmlmaaRelFns
import Derived.Test.YtemhmpnnccmlmaaPair
namespace Go.Proofs.Ytemhmpnnccmlmaa
open Go.RowKit
set_option linter.unusedVariables false

abbrev OpD := Int × List Int
/-- the tuples with the numbers of a list -/
def pickR (r : Int × List (List Int)) (at' : List Int) : List (List Int) := at'.map fun j => r.2.getD j.toNat []
def listK (f : OpD) (r : Int × List (List Int)) (k : Nat) : List (List Int) := pickR r (digs r.2.length f.1.toNat k)
def badK (s : Int) (f : OpD) (r : Int × List (List Int)) (k : Nat) : Bool := !hasT r (SMake s f (listK f r k))
def manyK (f : OpD) (r : Int × List (List Int)) : Nat := r.2.length ^ f.1.toNat
def SFirst (s : Int) (f : OpD) (r : Int × List (List Int)) : Option Nat := (List.range (manyK f r)).find? (badK s f r)
def SKeep (s : Int) (f : OpD) (r : Int × List (List Int)) : Bool := (SFirst s f r).isNone

theorem find_here {p : Nat → Bool} {k N : Nat} (hk : k < N) (h0 : ∀ j, j < k → p j = false) (h1 : p k = true) : (List.range N).find? p = some k := by
  rw [List.find?_eq_some_iff_append]
  refine ⟨h1, List.range k, (List.range' (k + 1) (N - (k + 1))), ?_, fun a ha => ?_⟩
  · rw [List.range_eq_range', List.range_eq_range', show k :: List.range' (k + 1) (N - (k + 1)) = List.range' k (N - k) from by
      rw [show N - k = (N - (k + 1)) + 1 by omega, List.range'_succ]]
    have := List.range'_append (s := 0) (m := k) (n := N - k) (step := 1)
    rw [Nat.one_mul, Nat.zero_add] at this
    rw [this, show k + (N - k) = N by omega]
  · rw [h0 a (List.mem_range.1 ha)]
    rfl
theorem find_none {p : Nat → Bool} {N : Nat} (h0 : ∀ j, j < N → p j = false) : (List.range N).find? p = none := by
  rw [List.find?_eq_none]
  intro a ha
  rw [h0 a (List.mem_range.1 ha)]
  simp
theorem pow_small (n : Nat) (hn : n ≤ 256) (m : Nat) (hm : m ≤ 3) : n ^ m ≤ 16777216 :=
  Nat.le_trans (Nat.pow_le_pow_left hn m) (Nat.le_trans (Nat.pow_le_pow_right (by omega) hm) (by decide))
theorem powW_nat (n : Nat) (hn : n ≤ 256) : ∀ m : Nat, m ≤ 3 → powW n m = ((n ^ m : Nat) : Int)
  | 0, _ => by simp [powW]
  | m + 1, h => by
    have h1 := powW_nat n hn m (by omega)
    have h2 := pow_small n hn (m + 1) h
    show wrap64 (powW n m * n) = _
    have h3 : n ^ m * n = n ^ (m + 1) := (Nat.pow_succ n m).symm
    rw [h1, ← Int.natCast_mul, h3]
    unfold wrap64
    omega
theorem listK_length {f : OpD} {r : Int × List (List Int)} {k : Nat} : (listK f r k).length = f.1.toNat := by unfold listK pickR; rw [List.length_map, digs_length]
theorem at_lt {f : OpD} {r : Int × List (List Int)} (hn : 0 < r.2.length) (k : Nat) : ∀ j ∈ digs r.2.length f.1.toNat k, 0 ≤ j ∧ j.toNat < r.2.length := by
  intro j hj
  have := digs_val r.2.length (by omega) f.1.toNat k (by omega) j hj
  omega
theorem pick_mem {r : Int × List (List Int)} {l : List Int} (h : ∀ j ∈ l, 0 ≤ j ∧ j.toNat < r.2.length) : ∀ t ∈ pickR r l, t ∈ r.2 := by
  intro t ht
  obtain ⟨j, hj, rfl⟩ := List.mem_map.1 ht
  have := (h j hj).2
  rw [List.getD_eq_getElem?_getD, List.getElem?_eq_getElem this]
  exact List.getElem_mem this
theorem list_first {s : Int} {f : OpD} {r : Int × List (List Int)} (hf : SValidOp s f = true) (hr : SValidRel s r = true) (hn : 0 < r.2.length) (k : Nat) : ((listK f r k).getD 0 []).length = r.1.toNat ∧ ∀ t ∈ listK f r k, vals s t r.1 = true := by
  obtain ⟨_, ⟨h2, _⟩, h3⟩ := valid_parts hr
  have hv : ∀ t ∈ listK f r k, vals s t r.1 = true := fun t ht => h3 t (pick_mem (at_lt hn k) t ht)
  have hl : 0 < (listK f r k).length := by rw [listK_length]; have := (valid_iff.1 hf).2.1; omega
  refine ⟨?_, hv⟩
  rw [first_eq hl]
  have := (vals_iff.1 (hv _ (List.getElem_mem hl))).1
  omega
theorem make_vals {s : Int} {f : OpD} {r : Int × List (List Int)} (hf : SValidOp s f = true) (hr : SValidRel s r = true) (hn : 0 < r.2.length) (k : Nat) : vals s (SMake s f (listK f r k)) r.1 = true := by
  obtain ⟨h1, h2⟩ := list_first hf hr hn k
  obtain ⟨_, ⟨h3, _⟩, _⟩ := valid_parts hr
  refine vals_iff.2 ⟨by rw [SMake_length, h1]; omega, fun a ha => ?_⟩
  unfold SMake at ha
  rw [h1] at ha
  obtain ⟨p, hp, rfl⟩ := List.mem_map.1 ha
  have hp := List.mem_range.1 hp
  have h4 : 1 ≤ f.1 := (valid_iff.1 hf).2.1.1
  exact apply_val hf (by rw [col_length, listK_length]; omega) (col_vals (L := r.1.toNat) (fun t ht => by rw [show ((r.1.toNat : Nat) : Int) = r.1 by omega]; exact h2 t ht) (by omega))
/-- a full relation is kept -/
theorem full_kept {s : Int} {f : OpD} {r : Int × List (List Int)} (hf : SValidOp s f = true) (hr : SValidRel s r = true) (h : (r.2.length : Int) = powW s r.1.toNat) : SFirst s f r = none := by
  obtain ⟨h1, h2, h3⟩ := valid_parts hr
  have hcnt := count_eq s r.1 h1.1 h1.2 h2.1 h2.2
  have hpos := powW_small s r.1 h1.1 h1.2 h2.1 h2.2
  have hn : r.2.length = count s r.1 := by omega
  have hself := congrArg (fun x => x.2.length) (srel_self hr)
  have hall : ∀ t, vals s t r.1 = true → hasT r t = true := by
    intro t ht
    have hlen : (((List.range (count s r.1)).map fun k : Nat => digs s r.1.toNat k).filter (hasT r)).length = ((List.range (count s r.1)).map fun k : Nat => digs s r.1.toNat k).length := by
      rw [List.length_map, List.length_range]
      exact hself.symm.trans hn
    rw [List.length_filter_eq_length_iff] at hlen
    refine hlen t ?_
    obtain ⟨c1, c2⟩ := code_ltc h1.1 h1.2 h2.1 h2.2 ht
    refine List.mem_map.2 ⟨(code s t).toNat, List.mem_range.2 c2, ?_⟩
    rw [show (((code s t).toNat : Nat) : Int) = code s t by omega]
    exact digs_of_code' h1.1 ht
  refine find_none fun j _ => ?_
  unfold badK
  rw [hall _ (make_vals hf hr (by omega) j)]
  rfl
theorem firsts {s : Int} {f : OpD} {r : Int × List (List Int)} {k : Nat} (hk : k < manyK f r) (h0 : ∀ j, j < k → badK s f r j = false) (h1 : badK s f r k = true) : SFirst s f r = some k := find_here hk h0 h1
theorem firsts_none {s : Int} {f : OpD} {r : Int × List (List Int)} (h0 : ∀ j, j < manyK f r → badK s f r j = false) : SFirst s f r = none := find_none h0
theorem pick_take {r : Int × List (List Int)} {l : List Int} {k : Nat} (hk : k < l.length) : pickR r (l.take (k + 1)) = pickR r (l.take k) ++ [r.2.getD (l[k]).toNat []] := by
  unfold pickR
  rw [List.take_succ_eq_append_getElem hk, List.map_append]
  rfl
/-- a list of what was there, read as tuples -/
theorem rdII_of_row {w : World} {v : Value} {vs : Nat → Value} {l : List Int} {r : Int × List (List Int)} {B : Nat} (ho : w.ownsRow B 25 1 v l.length (l.map fun j => vs j.toNat)) (hl : ∀ j ∈ l, 0 ≤ j ∧ j.toNat < r.2.length)
    (hv : ∀ j (h : j < r.2.length), RdI w (vs j) r.2[j]) : RdII w v (pickR r l) := by
  obtain ⟨a, b, cap, rfl, hlx, hcap, hmax, ha, -, hcells, -⟩ := own_parts ho
  have hpl : (pickR r l).length = l.length := by simp [pickR]
  refine ⟨a, b, 0, cap, fun j => vs ((l.getD j 0).toNat), by rw [hpl], by rw [hpl]; exact hcap, hmax, fun h => ha (by omega), fun j h => ?_⟩
  have hj : j < l.length := by omega
  have hg : l.getD j 0 = l[j] := by rw [List.getD_eq_getElem?_getD, List.getElem?_eq_getElem hj]; rfl
  have hm := hl l[j] (List.getElem_mem hj)
  refine ⟨?_, ?_⟩
  · show _ = some (vs (l.getD j 0).toNat)
    rw [hcells j (by rw [List.length_map]; exact hj), hg]
    simp
  · show RdI w (vs (l.getD j 0).toNat) _
    rw [hg]
    have : (pickR r l)[j] = r.2[(l[j]).toNat] := by simp [pickR, hm.2]
    rw [this]
    exact hv _ hm.2

/-- what the search leaves: nothing, or the list and the tuple made of it -/
def BrokenRes (s : Int) (f : OpD) (r : Int × List (List Int)) (w : World) (e : Ending) (w' : World) : Prop :=
  match SFirst s f r with
  | none => e = .returned (.tuple #[.slice none 0 0, .slice none 0 0]) ∧ Ext w w'
  | some k => ∃ u x fp, e = .returned (.tuple #[u, x]) ∧ Ext w w' ∧ RdII w' u (listK f r k) ∧ OI w' x (SMake s f (listK f r k)) fp ∧ (∀ g ∈ fp, w.heap.size ≤ g) ∧ vals s (SMake s f (listK f r k)) r.1 = true ∧ ∀ t ∈ listK f r k, vals s t r.1 = true
theorem BrokenRes.none {s : Int} {f : OpD} {r : Int × List (List Int)} {w w' : World} (h : SFirst s f r = none) (hE : Ext w w') : BrokenRes s f r w (.returned (.tuple #[.slice none 0 0, .slice none 0 0])) w' := by
  unfold BrokenRes
  rw [h]
  exact ⟨rfl, hE⟩
theorem BrokenRes.some {s : Int} {f : OpD} {r : Int × List (List Int)} {w w' : World} {k : Nat} {u x : Value} {fp : List Nat} (h : SFirst s f r = some k) (hE : Ext w w') (h1 : RdII w' u (listK f r k)) (h2 : OI w' x (SMake s f (listK f r k)) fp) (h3 : ∀ g ∈ fp, w.heap.size ≤ g)
    (h4 : vals s (SMake s f (listK f r k)) r.1 = true) (h5 : ∀ t ∈ listK f r k, vals s t r.1 = true) : BrokenRes s f r w (.returned (.tuple #[u, x])) w' := by
  unfold BrokenRes
  rw [h]
  exact ⟨u, x, fp, rfl, hE, h1, h2, h3, h4, h5⟩
theorem infoB' : (Try.prog.info? 4).map (fun i => (i.zero, i.size, i.bytes)) = .some (.some (.bool false), 1, 1) := by kernel_rfl

set_option maxHeartbeats 8000000 in
set_option maxRecDepth 100000 in
theorem broken_any (s : Int) (f : OpD) (v : Value) (r : Int × List (List Int)) (u : Value) (w : World) (hr : RdOp w v f) (hs : RdRel w u r) (hf : SValidOp s f = true) (hv : SValidRel s r = true) :
    Calls Try.prog 80 #[.int .i64 s, v, u] w (BrokenRes s f r w) := by
  obtain ⟨i0, hi, hz0, hz1, hz2⟩ := info_parts infoB'
  obtain ⟨i1, hi1, hy0, hy1, hy2⟩ := info_parts infoIS
  obtain ⟨tv, rfl, hr'⟩ := hr
  obtain ⟨fa, fc, rfl⟩ := hr'.form
  have hr : RdOp w _ f := ⟨_, rfl, hr'⟩
  obtain ⟨tu, rfl, hs'⟩ := hs
  obtain ⟨a, b, off, cap, us, rfl, hlc, hcm, ha, hc⟩ := hs'
  obtain ⟨⟨hs1, hs2⟩, ⟨hm1, hm2⟩, hall⟩ := valid_parts hv
  have hfa := (valid_iff.1 hf).2.1
  have hln := valid_length hv
  have hcnt := count_eq s r.1 hs1 hs2 hm1 hm2
  have hc256 : count s r.1 ≤ 256 := by have := powW_small s r.1 hs1 hs2 hm1 hm2; omega
  have HCNT := Lib.hid hcnt
  have HALL := Lib.hid hall
  have HF := Lib.hid hf
  have HV := Lib.hid hv
  have hpw := powW_nat r.2.length hln f.1.toNat (by omega)
  have hpm : manyK f r ≤ 16777216 := pow_small _ hln _ (by omega)
  have HPW := Lib.hid (show powW r.2.length f.1.toNat = (manyK f r : Int) from hpw)
  have hE1 : Ext w ((w.alloc (.cells #[.int .i64 f.1, .slice fa f.2.length fc] 41)).alloc (.cells #[.int .i64 r.1, .slice a r.2.length cap] 27)) := ((Ext.refl' w).alloc (Nat.le_refl _) _).alloc (by simp) _
  clear hcnt hall hpw hf hv
  have b0 : ((w.alloc (.cells #[.int .i64 f.1, .slice fa f.2.length fc] 41)).alloc (.cells #[.int .i64 r.1, .slice a r.2.length cap] 27)).cell? ⟨w.heap.size, 0, none⟩ = .some (.int .i64 f.1) := by simp [go_sem]
  have b1 : ((w.alloc (.cells #[.int .i64 f.1, .slice fa f.2.length fc] 41)).alloc (.cells #[.int .i64 r.1, .slice a r.2.length cap] 27)).cell? ⟨w.heap.size, 1, none⟩ = .some (.slice fa f.2.length fc) := by simp [go_sem]
  have c0 : ((w.alloc (.cells #[.int .i64 f.1, .slice fa f.2.length fc] 41)).alloc (.cells #[.int .i64 r.1, .slice a r.2.length cap] 27)).cell? ⟨w.heap.size + 1, 0, none⟩ = .some (.int .i64 r.1) := by simp [go_sem]
  have c1 : ((w.alloc (.cells #[.int .i64 f.1, .slice fa f.2.length fc] 41)).alloc (.cells #[.int .i64 r.1, .slice a r.2.length cap] 27)).cell? ⟨w.heap.size + 1, 1, none⟩ = .some (.slice a r.2.length cap) := by simp [go_sem]
  by_cases hfull : (r.2.length : Int) = powW s r.1.toNat
  · have hb : ((r.2.length : Int) == powW s r.1.toNat) = true := by rw [hfull]; simp
    have HN := Lib.hid (full_kept HF.out HV.out hfull)
    clear hfull
    go_enter Try.func80, Try.ntmps80
    go_wp2_with fail
    refine (power_any _ _ _ (by omega)).mono ?_
    rintro e w' ⟨rfl, rfl⟩
    go_wp2_with fail
    go_ret2
    exact BrokenRes.none HN.out hE1
  · have hb : ((r.2.length : Int) == powW s r.1.toNat) = false := beq_eq_false_iff_ne.2 hfull
    clear hfull
    go_enter Try.func80, Try.ntmps80
    go_wp2_with fail
    refine (power_any _ _ _ (by omega)).mono ?_
    rintro e w' ⟨rfl, rfl⟩
    go_wp2_with fail
    clear hb
    refine (power_any _ _ _ (by omega)).mono ?_
    rintro e w' ⟨rfl, rfl⟩
    rw [← HCNT.out]
    generalize hw1 : ((w.alloc (.cells #[.int .i64 f.1, .slice fa f.2.length fc] 41)).alloc (.cells #[.int .i64 r.1, .slice a r.2.length cap] 27)) = w1 at hE1 b0 b1 c0 c1 ⊢
    clear hw1
    go_wp2_with (at_make; refine wpList_make_full _ rfl _ _ 127 rfl 0 4 i0 (.bool false) 1 Try.underlying127 hi hz0 hz1 _ _ _ _ (count s r.1) rfl rfl rfl rfl (by rw [hz2]; omega) (by unfold maxLen; omega) (by omega) ?_)
    intro w2 hown hgr
    have hE2 : Ext w1 w2 := (Ext.refl' w1).grown hgr (Nat.le_refl _) (by simp)
    have hIn : OB w2 (.slice (.some ⟨w1.heap.size, 0, none⟩) (count s r.1) (count s r.1)) (mks s r.1 fun x => decide (x ∈ r.2.take 0)) [w1.heap.size] := by
      rw [show (mks s r.1 fun x => decide (x ∈ r.2.take 0)) = List.replicate (count s r.1) false from by rw [mks_none]; simp]
      refine ⟨?_, rfl⟩
      rw [List.length_replicate, List.map_replicate]
      simpa [Value.cells, toList_madeCells_one] using hown
    clear hown hgr
    have hw12 := hE1.size
    have p0 := hE2.cell c0
    have p1 := hE2.cell c1
    go_wp2_with fail
    go_loopw [34] (fun i wr => ∃ k : Nat, k ≤ r.2.length ∧ i = .int .i64 k ∧ Ext w1 wr ∧ OB wr (.slice (.some ⟨w1.heap.size, 0, none⟩) (count s r.1) (count s r.1)) (mks s r.1 fun x => decide (x ∈ r.2.take k)) [w1.heap.size]) (fun i _ => r.2.length - (intOf i).toNat)
    case atStart => exact ⟨0, by omega, rfl, hE2, hIn⟩
    case round =>
      obtain ⟨k, hk, rfl, hE, h⟩ := hrel
      have hEE := hE1.tr hE
      by_cases hkl : k < r.2.length
      · obtain rfl := ha (by omega)
        obtain ⟨k1, k2⟩ := hc k hkl
        replace k1 := hEE.cell k1
        replace k2 := k2.ext hEE
        have ht := HALL.out r.2[k] (List.getElem_mem hkl)
        obtain ⟨h1, h2⟩ := code_ltc hs1 hs2 hm1 hm2 ht
        have hput := mks_put hs1 hs2 hm1 hm2 (fun x => decide (x ∈ r.2.take k)) ht
        rw [mks_take hkl] at hput
        obtain ⟨c, hcd⟩ := Int.eq_ofNat_of_zero_le h1
        rw [hcd, Int.toNat_natCast] at h2 hput
        obtain ⟨g, cap2, hbv, cb, hg, fz, hcap, hcms, hst⟩ := h.at c (by rw [mks_length]; exact h2)
        replace hst := hst true
        rw [hput] at hst
        simp only [Value.slice.injEq, Option.some.injEq, Addr.mk.injEq, and_true] at hbv
        obtain ⟨rfl, -, rfl⟩ := hbv
        obtain ⟨hv1, hv2⟩ := vals_iff.1 ht
        generalize us k = y at k1 k2
        obtain ⟨ya, yc, rfl⟩ := k2.form
        replace cb : ∃ x, wr.cell? ⟨w1.heap.size, c, none⟩ = .some x := ⟨_, cb⟩
        obtain ⟨old, cb⟩ := cb
        have HCD := Lib.hid hcd
        have hl4 : r.2[k].length ≤ 4 := by omega
        clear hcd hput hv1
        go_wp2_with fail
        refine (indexOf_any s r.2[k] _ _ k2 (by omega) (by omega) hl4 hv2).mono ?_
        rintro e w' ⟨rfl, rfl⟩
        rw [HCD.out]
        go_wp2_with fail
        go_roundw
        case rel => exact ⟨k + 1, by omega, by go_num, hE.setCell (Nat.le_refl _) _, hst⟩
        case measure => simp [intOf]; omega
      · have hkk : k = r.2.length := by omega
        subst hkk
        rw [List.take_length] at h
        have hIn : OB wr (.slice (.some ⟨w1.heap.size, 0, none⟩) (count s r.1) (count s r.1)) (mks s r.1 (hasT r)) [w1.heap.size] := h
        replace b0 := hE.cell b0
        replace b1 := hE.cell b1
        replace c0 := hE.cell c0
        replace c1 := hE.cell c1
        clear hkl hk h
        have hEE2 := hEE
        go_wp2_with fail
        refine (power_any _ _ _ (by omega)).mono ?_
        rintro e w' ⟨rfl, rfl⟩
        rw [HPW.out]
        go_wp2_with fail
        go_loopw [48] (fun i wq => ∃ k : Nat, k ≤ manyK f r ∧ i = .int .i64 k ∧ Ext wr wq ∧ Hid (∀ j, j < k → badK s f r j = false)) (fun i _ => manyK f r - (intOf i).toNat)
        case atStart => exact ⟨0, by omega, rfl, Ext.refl' _, Lib.hid fun j hj => by omega⟩
        case round =>
          obtain ⟨k, hk, rfl, hE2, HB⟩ := hrel
          replace b0 := hE2.cell b0
          replace b1 := hE2.cell b1
          replace c0 := hE2.cell c0
          replace c1 := hE2.cell c1
          by_cases hkl : k < manyK f r
          · have hn0 : 0 < r.2.length := by
              rcases Nat.eq_zero_or_pos r.2.length with h0 | h0
              · exfalso
                unfold manyK at hkl
                rw [h0, Nat.zero_pow (by omega)] at hkl
                omega
              · exact h0
            obtain rfl := ha hn0
            have HAT := Lib.hid (at_lt (f := f) hn0 k)
            have HDL := Lib.hid (digs_length r.2.length f.1.toNat k)
            have HLK := Lib.hid (show listK f r k = pickR r (digs r.2.length f.1.toNat k) from rfl)
            have q0 := lt_of_cell b0
            have q1 := lt_of_cell c0
            dsimp only at q0 q1
            go_wp2_with fail
            obtain ⟨Z, hZ1, hZ2⟩ : ∃ Z, Z ≤ wr.heap.size ∧ wr.heap.size ≤ Z := ⟨_, Nat.le_refl _, Nat.le_refl _⟩
            refine (listOf_any (r.2.length : Int) f.1 (k : Int) _ (by omega) (by omega) (by omega) (by omega) (by omega) (by omega)).mono ?_
            rintro e w3 ⟨at', fat, rfl, hE3, hat, hfat⟩
            have hmade : (wr.alloc (.cells #[] 25)).ownsRow Z 25 1 (.slice (.some ⟨wr.heap.size, 0, none⟩) 0 0) 0 [] := World.ownsRow_made wr #[] 0 hZ1 (by decide) rfl
            have hrow0 := own_ext hmade hE3
            have hAz : Ext wr (wr.alloc (.cells #[] 25)) := (Ext.refl' wr).alloc (Nat.le_refl _) _
            have hE3' : Ext wr w3 := hAz.tr hE3
            clear hAz
            generalize hdg : digs r.2.length f.1.toNat k = D at hat HAT HDL HLK
            clear hdg
            have hD3 : D.length ≤ 3 ∧ 0 < D.length := by have := HDL.out; omega
            obtain ⟨hD3, hD0⟩ := hD3
            have hatf := hat.2
            obtain ⟨xa, xb, xoff, xc, rfl, hxlc, hxcm, hxa, hxc⟩ := hat.rd
            obtain rfl := hxa hD0
            have hxb : wr.heap.size + 1 ≤ xb := by
              have := hfat xb (by rw [hatf]; simp [Value.ownBlock])
              simpa using this
            have HXC := Lib.hid hxc
            clear hxc hmade hE3 hatf hfat hat
            go_wp2_with fail
            go_loopw [13, 58] (fun t i wz => ∃ j : Nat, j ≤ D.length ∧ i = .int .i64 j ∧ Ext wr wz ∧ wz.ownsRow Z 25 1 t j ((D.take j).map fun x => us x.toNat) ∧ Hid (t.ownBlock ≠ .some xb) ∧ Hid (∀ q (h : q < D.length), wz.cell? ⟨xb, xoff + q, none⟩ = .some (.int .i64 D[q]))) (fun _ i _ => D.length - (intOf i).toNat)
            case atStart => exact ⟨0, by omega, rfl, hE3', hrow0, Lib.hid (by simp [Value.ownBlock]; omega), HXC⟩
            case round =>
              obtain ⟨j, hj, rfl, hE4, ho, HNE, HXC⟩ := hrel
              have hEE4 := hEE.tr (hE2.tr hE4)
              replace b0 := hE4.cell b0
              replace b1 := hE4.cell b1
              replace c0 := hE4.cell c0
              replace c1 := hE4.cell c1
              have q0 := lt_of_cell b0
              have q1 := lt_of_cell c0
              dsimp only at q0 q1
              by_cases hjl : j < D.length
              · have hxj := HXC.out j hjl
                have hxlt := lt_of_cell hxj
                have hdj := HAT.out D[j] (List.getElem_mem hjl)
                obtain ⟨q, hq⟩ := Int.eq_ofNat_of_zero_le hdj.1
                have hql : q < r.2.length := by omega
                rw [hq] at hxj
                have hk1 := hEE4.cell (hc q hql).1
                have hk2 := (hc q hql).2.ext hEE4
                have HT := Lib.hid (show (D.take (j + 1)).map (fun x => us x.toNat) = (D.take j).map (fun x => us x.toNat) ++ [us q] from by
                  rw [List.take_succ_eq_append_getElem hjl, List.map_append, List.map_singleton, hq, Int.toNat_natCast])
                clear hq hdj
                generalize us q = y at hk1 hk2 HT
                obtain ⟨ya, yc, rfl⟩ := hk2.form
                obtain ⟨ta, tb, tc, rfl, -⟩ := own_parts ho
                go_wp2_with (at_builtin; refine wpList_append_own_at _ rfl _ _ 22 rfl Z 25 i1 (.slice none 0 0) 1 24 Try.underlying22 hi1 hy0 hy1 hy2 rfl (by decide) _ _ _ rfl (own_ext ho ((Ext.refl' wr).alloc (Nat.le_refl _) _)) ⟨wr.heap.size, 0, none⟩ 1 1 [.slice ya r.2[q].length yc] rfl rfl (cells_one (by simp [go_sem])) (by simp [Value.oneCell']) (by unfold maxLen; omega) (by omega) (by have := hE4.size; simp; omega) ?_)
                intro v' w4 ho4 hg4 _ hat4
                have hA : Ext wr (wr.alloc (.cells #[.slice ya r.2[q].length yc] 25)) := (Ext.refl' wr).alloc (Nat.le_refl _) _
                have hE5 := (hE4.tr hA).grown hg4 (by have := hE4.size; simp; omega) (fun k hk => by have := (ho.lt k hk).1; omega)
                have HNE2 : Hid (v'.ownBlock ≠ .some xb) := Lib.hid (by
                  rcases hat4 with h | h
                  · rw [h]; exact HNE.out
                  · rw [h]; simp; (try dsimp only at hxlt); omega)
                have HXC2 : Hid (∀ q (h : q < D.length), w4.cell? ⟨xb, xoff + q, none⟩ = .some (.int .i64 D[q])) := Lib.hid fun q h => hg4.cell (hA.cell (HXC.out q h)) fun hh => HNE.out hh.symm
                have ho5 : w4.ownsRow Z 25 1 v' (j + 1) ((D.take (j + 1)).map fun x => us x.toNat) := by rw [HT.out, List.map_take]; exact ho4
                clear ho hg4 hA ho4 HT hat4 HXC HNE hE4 hEE4
                go_wp2_with fail
                go_roundw
                case rel => exact ⟨j + 1, by omega, by go_num, hE5, ho5, HNE2, HXC2⟩
                case measure => simp [intOf]; omega
              · have hjj : j = D.length := by omega
                subst hjj
                rw [List.take_length] at ho
                have hII : RdII wr _ (pickR r D) := rdII_of_row ho HAT.out fun j h => (hc j h).2.ext hEE4
                obtain ⟨ta, tb, tc, rfl, -⟩ := own_parts ho
                have hLF := list_first HF.out HV.out hn0 k
                have hMV := make_vals HF.out HV.out hn0 k
                rw [HLK.out] at hLF hMV
                have hfir : ((pickR r D).getD 0 []).length ≤ 1048576 := by rw [hLF.1]; omega
                have HPV := Lib.hid (show ∀ t ∈ pickR r D, vals s t ((pickR r D).getD 0 []).length = true from fun t ht => by rw [hLF.1, show ((r.1.toNat : Nat) : Int) = r.1 by omega]; exact hLF.2 t ht)
                have HPL := Lib.hid (show ((pickR r D).length : Int) = f.1 from by have := HDL.out; unfold pickR; rw [List.length_map]; omega)
                have HBK := Lib.hid (show badK s f r k = !hasT r (SMake s f (pickR r D)) from by unfold badK; rw [HLK.out])
                have HMV := Lib.hid hMV
                have HLF := Lib.hid hLF
                clear hLF hMV
                go_wp2_with fail
                refine (made_any s f _ (pickR r D) _ _ (hr.ext hEE4) hII HF.out HPL.out HPV.out hfir).mono ?_
                rintro e w5 ⟨x, fx, rfl, hE5, hx, hfx⟩
                obtain ⟨xm, xmc, rfl⟩ := hx.form
                obtain ⟨hx1, hx2⟩ := vals_iff.1 HMV.out
                have hx4 : (SMake s f (pickR r D)).length ≤ 4 := by omega
                have hxr := hx.rd
                obtain ⟨h1, h2⟩ := code_ltc hs1 hs2 hm1 hm2 HMV.out
                obtain ⟨c, hcd⟩ := Int.eq_ofNat_of_zero_le h1
                have HCD := Lib.hid hcd
                rw [hcd, Int.toNat_natCast] at h2
                have hE25 := hE2.tr (hE4.tr hE5)
                obtain ⟨g, cap2, hbv, cb, -, -, -, -, -⟩ := (hIn.ext hE25).at c (by rw [mks_length]; exact h2)
                simp only [Value.slice.injEq, Option.some.injEq, Addr.mk.injEq, and_true] at hbv
                obtain ⟨rfl, -⟩ := hbv
                rw [mks_get, ← hcd, digs_of_code' hs1 HMV.out] at cb
                clear hcd hx1
                cases hbk : hasT r (SMake s f (pickR r D)) with
                | true =>
                  rw [hbk] at cb
                  have HB2 := Lib.hid (show ∀ j, j < k + 1 → badK s f r j = false from fun j hj => by
                    rcases Nat.lt_or_ge j k with h | h
                    · exact HB.out j h
                    · rw [show j = k by omega, HBK.out, hbk]; rfl)
                  generalize SMake s f (pickR r D) = X at hx hxr hx2 hx4 HCD hbk ⊢
                  clear hbk
                  go_wp2_with fail
                  refine (indexOf_any s X _ _ hxr (by omega) (by omega) hx4 hx2).mono ?_
                  rintro e w' ⟨rfl, rfl⟩
                  rw [HCD.out]
                  go_wp2_with fail
                  go_roundw
                  case rel => exact ⟨k + 1, by omega, by go_num, hE2.tr (hE4.tr hE5), HB2⟩
                  case measure => simp [intOf]; omega
                | false =>
                  rw [hbk] at cb
                  have HN := Lib.hid (firsts hkl HB.out (by rw [HBK.out, hbk]; rfl))
                  clear hbk
                  have hEE5 := hEE4.tr hE5
                  have hq5 := hEE4.size
                  have hII5 := hII.ext hE5
                  go_wp2_with fail
                  refine (indexOf_any s _ _ _ hxr (by omega) (by omega) hx4 hx2).mono ?_
                  rintro e w' ⟨rfl, rfl⟩
                  rw [HCD.out]
                  go_wp2_with fail
                  go_ret2
                  exact BrokenRes.some HN.out hEE5 (by rw [HLK.out]; exact hII5) (by rw [HLK.out]; exact hx) (fun g hg => Nat.le_trans hq5 (hfx g hg)) (by rw [HLK.out]; exact HMV.out) (by rw [HLK.out]; exact HLF.out.2)
          · have HN := Lib.hid (firsts_none (s := s) fun j hj => HB.out j (by omega))
            have hEE3 := hEE.tr hE2
            go_wp2_with fail
            go_ret2
            exact BrokenRes.none HN.out hEE3
end Go.Proofs.Ytemhmpnnccmlmaa
