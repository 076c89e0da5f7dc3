/- The numbers of a list at some places. IsMapOf: the program's and the reference's give one function's answers. -/
import Derived.Test.YtajkepdfemdagaaGreatDoorC05
import Derived.Test.YtajkepdfemdagaaGreatDoorC23
import Derived.Test.YtajkepdfemdagaaGreatDoorC18
import Derived.Test.YtajkepdfemdagaaGreatDoorC08
namespace Go.Proofs.YtajkepdfemdagaaGreatDoor
open Go.RowKit
set_option linter.unusedVariables false

def atP (l places : List Int) : List Int := places.map fun p => l.getD p.toNat 0
theorem atP_length (l places : List Int) : (atP l places).length = places.length := by simp [atP]
theorem atP_take (l places : List Int) (k : Nat) (hk : k < places.length) : atP l (places.take (k + 1)) = atP l (places.take k) ++ [l.getD (places[k]).toNat 0] := by
  unfold atP
  rw [List.take_succ_eq_append_getElem hk, List.map_append]
  rfl
theorem atP_val {l places : List Int} {s : Int} (hl : ∀ a ∈ l, 0 ≤ a ∧ a < s) (hp : ∀ p ∈ places, 0 ≤ p ∧ p < l.length) : ∀ a ∈ atP l places, 0 ≤ a ∧ a < s := by
  intro a ha
  unfold atP at ha
  obtain ⟨p, hpp, rfl⟩ := List.mem_map.1 ha
  have := hp p hpp
  have hk : p.toNat < l.length := by omega
  rw [List.getD_eq_getElem?_getD, List.getElem?_eq_getElem hk]
  exact hl _ (List.getElem_mem hk)

set_option maxHeartbeats 1000000 in
theorem chosen_any (l : List Int) (v : Value) (places : List Int) (u : Value) (w : World) (hr : RdI w v l) (hs : RdI w u places) (hp : ∀ p ∈ places, 0 ≤ p ∧ p < l.length) (hlen : places.length ≤ 1048576) :
    Calls Tryz.prog 131 #[v, u] w fun e w' => ∃ x fp, e = .returned x ∧ Ext w w' ∧ OI w' x (atP l places) fp ∧ ∀ g ∈ fp, w.heap.size ≤ g := by
  obtain ⟨a, b, off, c, rfl, hlc, hcm, ha, hc⟩ := hr
  obtain ⟨a', b', off', c', rfl, hlc', hcm', ha', hc'⟩ := hs
  obtain ⟨i0, hi, hz0, hz1, hz2⟩ := info_parts infoI
  have HP := Lib.hid hp
  have HC := Lib.hid hc
  have HC' := Lib.hid hc'
  clear hp hc hc'
  go_enter Tryz.func131, Tryz.ntmps131
  go_wp2_with fail
  go_loopw [5, 11] (fun t i wr => ∃ k : Nat, k ≤ places.length ∧ i = .int .i64 k ∧ Ext w wr ∧ wr.ownsRow w.heap.size 2 1 t k ((atP l (places.take k)).map (Value.int .i64)))
    (fun _ i _ => places.length - (intOf i).toNat)
  case atStart =>
    exact ⟨0, by omega, rfl, (Ext.refl' w).alloc (Nat.le_refl _) _, World.ownsRow_made w #[] 0 (Nat.le_refl _) (by decide) rfl⟩
  case round =>
    obtain ⟨k, hk, rfl, hE, ho⟩ := hrel
    by_cases hkl : k < places.length
    · obtain rfl := ha' (by omega)
      have hck := hE.cell (HC'.out k hkl)
      have hpk := HP.out places[k] (List.getElem_mem hkl)
      obtain rfl := ha (by omega)
      obtain ⟨y, hy⟩ := Int.eq_ofNat_of_zero_le hpk.1
      have hyl : y < l.length := by omega
      have hcl := hE.cell (HC.out y hyl)
      rw [hy] at hck hpk
      have HT := Lib.hid (show atP l (places.take (k + 1)) = atP l (places.take k) ++ [l[y]] from by
        rw [atP_take l places k hkl, hy, Int.toNat_natCast, List.getD_eq_getElem?_getD, List.getElem?_eq_getElem hyl]; rfl)
      have hpl := hpk.2
      clear hy hpk
      obtain ⟨ta, tb, tc, rfl, -⟩ := own_parts ho
      go_wp2_with (at_builtin; refine wpList_append_own _ rfl _ _ 37 rfl w.heap.size 2 i0 (.int .i64 0) 1 8 Tryz.underlying37 hi hz0 hz1 hz2 rfl (by decide) _ _ _ rfl (own_ext ho ((Ext.refl' wr).alloc (Nat.le_refl _) _)) ⟨wr.heap.size, 0, none⟩ 1 1 [.int .i64 l[y]] rfl rfl (cells_one (by simp [go_sem])) (by simp [Value.oneCell']) (by unfold maxLen; omega) (by omega) (by have := hE.size; simp; omega) ?_)
      intro v' w4 ho4 hg4 _
      have hA : Ext wr (wr.alloc (.cells #[.int .i64 l[y]] 2)) := (Ext.refl' wr).alloc (Nat.le_refl _) _
      have hE4 : Ext w w4 := (hE.tr hA).grown hg4 (by have := hE.size; simp; omega) (fun k hk => (ho.lt k hk).1)
      have ho5 : w4.ownsRow w.heap.size 2 1 v' (k + 1) ((atP l (places.take (k + 1))).map (Value.int .i64)) := by rw [HT.out, List.map_append]; exact ho4
      clear ho hE hg4 hA ho4 HT
      go_wp2_with fail
      go_roundw
      case rel => exact ⟨k + 1, by omega, by go_num, hE4, ho5⟩
      case measure => simp [intOf]; omega
    · go_wp2_with fail
      go_ret
      have hkk : k = places.length := by omega
      subst hkk
      rw [List.take_length] at ho
      exact ⟨_, _, rfl, hE, ⟨own_base (by rw [atP_length]; exact ho) (fun _ _ => Nat.zero_le _), rfl⟩, fun g hg => (ho.lt g (by simpa using hg)).1⟩

set_option maxHeartbeats 1000000 in
theorem l01Mapped_any (l : List Int) (v : Value) (places : List Int) (u : Value) (w : World) (hr : RdI w v l) (hs : RdI w u places) (hp : ∀ p ∈ places, 0 ≤ p ∧ p < l.length) (hlen : places.length ≤ 1048576) :
    Calls Tryz.prog 139 #[u, v] w fun e w' => ∃ x fp, e = .returned x ∧ Ext w w' ∧ OI w' x (atP l places) fp ∧ ∀ g ∈ fp, w.heap.size ≤ g := by
  obtain ⟨a, b, off, c, rfl, hlc, hcm, ha, hc⟩ := hr
  obtain ⟨a', b', off', c', rfl, hlc', hcm', ha', hc'⟩ := hs
  obtain ⟨i0, hi, hz0, hz1, hz2⟩ := info_parts infoI
  have HP := Lib.hid hp
  have HC := Lib.hid hc
  have HC' := Lib.hid hc'
  clear hp hc hc'
  go_enter Tryz.func139, Tryz.ntmps139
  go_wp2_with fail
  go_loopw [5, 6] (fun t i wr => ∃ k : Nat, k ≤ places.length ∧ i = .int .i64 k ∧ Ext w wr ∧ wr.ownsRow w.heap.size 2 1 t k ((atP l (places.take k)).map (Value.int .i64)))
    (fun _ i _ => places.length - (intOf i).toNat)
  case atStart =>
    exact ⟨0, by omega, rfl, (Ext.refl' w).alloc (Nat.le_refl _) _, World.ownsRow_made w #[] 0 (Nat.le_refl _) (by decide) rfl⟩
  case round =>
    obtain ⟨k, hk, rfl, hE, ho⟩ := hrel
    by_cases hkl : k < places.length
    · obtain rfl := ha' (by omega)
      have hck := hE.cell (HC'.out k hkl)
      have hpk := HP.out places[k] (List.getElem_mem hkl)
      obtain rfl := ha (by omega)
      obtain ⟨y, hy⟩ := Int.eq_ofNat_of_zero_le hpk.1
      have hyl : y < l.length := by omega
      have hcl := hE.cell (HC.out y hyl)
      rw [hy] at hck hpk
      have HT := Lib.hid (show atP l (places.take (k + 1)) = atP l (places.take k) ++ [l[y]] from by
        rw [atP_take l places k hkl, hy, Int.toNat_natCast, List.getD_eq_getElem?_getD, List.getElem?_eq_getElem hyl]; rfl)
      have hpl := hpk.2
      clear hy hpk
      obtain ⟨ta, tb, tc, rfl, -⟩ := own_parts ho
      go_wp2_with (at_builtin; refine wpList_append_own _ rfl _ _ 37 rfl w.heap.size 2 i0 (.int .i64 0) 1 8 Tryz.underlying37 hi hz0 hz1 hz2 rfl (by decide) _ _ _ rfl (own_ext ho ((Ext.refl' wr).alloc (Nat.le_refl _) _)) ⟨wr.heap.size, 0, none⟩ 1 1 [.int .i64 l[y]] rfl rfl (cells_one (by simp [go_sem])) (by simp [Value.oneCell']) (by unfold maxLen; omega) (by omega) (by have := hE.size; simp; omega) ?_)
      intro v' w4 ho4 hg4 _
      have hA : Ext wr (wr.alloc (.cells #[.int .i64 l[y]] 2)) := (Ext.refl' wr).alloc (Nat.le_refl _) _
      have hE4 : Ext w w4 := (hE.tr hA).grown hg4 (by have := hE.size; simp; omega) (fun k hk => (ho.lt k hk).1)
      have ho5 : w4.ownsRow w.heap.size 2 1 v' (k + 1) ((atP l (places.take (k + 1))).map (Value.int .i64)) := by rw [HT.out, List.map_append]; exact ho4
      clear ho hE hg4 hA ho4 HT
      go_wp2_with fail
      go_roundw
      case rel => exact ⟨k + 1, by omega, by go_num, hE4, ho5⟩
      case measure => simp [intOf]; omega
    · go_wp2_with fail
      go_ret
      have hkk : k = places.length := by omega
      subst hkk
      rw [List.take_length] at ho
      exact ⟨_, _, rfl, hE, ⟨own_base (by rw [atP_length]; exact ho) (fun _ _ => Nat.zero_le _), rfl⟩, fun g hg => (ho.lt g (by simpa using hg)).1⟩
end Go.Proofs.YtajkepdfemdagaaGreatDoor
namespace Go.Proofs.YtajkepdfemdagaaGreatDoor
open Go.RowKit
set_option linter.unusedVariables false

abbrev TmD := Int × List RelD
def sameAr (r q : RelD) : Bool := r.1 == q.1
def SMapFault (t u : TmD) : Int := if SValidTemplate t && SValidTemplate u then if eqAll sameAr t.2 u.2 then 0 else 4 else 1
def mapAt (t u : TmD) (to : List Int) (i : Nat) : Bool := !((t.2.getD i noRel).2.any fun x => !hasT (u.2.getD i noRel) (atP to x))
def isMapS (t u : TmD) (to : List Int) : Bool := (List.range t.2.length).all (mapAt t u to)
def SIsMapOf (t u : TmD) (to : List Int) : Bool × Int := if SMapFault t u = 0 then if vals u.1 to t.1 then (isMapS t u to, 0) else (false, 2) else (false, SMapFault t u)
theorem fault_zero {t u : TmD} (h : SMapFault t u = 0) : SValidTemplate t = true ∧ SValidTemplate u = true ∧ t.2.length = u.2.length := by
  unfold SMapFault at h
  split at h
  · rename_i h1
    rw [Bool.and_eq_true] at h1
    refine ⟨h1.1, h1.2, ?_⟩
    split at h
    · rename_i h2
      by_cases hl : t.2.length = u.2.length
      · exact hl
      · rw [eqAll_len hl] at h2
        exact absurd h2 (by decide)
    · omega
  · omega
theorem valid_tm_size {t : TmD} (h : SValidTemplate t = true) : 1 ≤ t.1 ∧ t.1 ≤ 4 := by
  unfold SValidTemplate at h
  rw [Bool.and_eq_true] at h
  exact inB_iff.1 h.1
theorem szRel_le {l : List RelD} {r : RelD} (h : r ∈ l) : szRel r ≤ szRelS l := by
  induction l with
  | nil => simp at h
  | cons x xs ih =>
    rcases List.mem_cons.1 h with rfl | h
    · simp only [szRelS]; omega
    · have := ih h; simp only [szRelS]; omega
theorem isMapS_no {t u : TmD} {to : List Int} {k : Nat} (hk : k < t.2.length) (h : mapAt t u to k = false) : isMapS t u to = false := List.all_eq_false.2 ⟨k, List.mem_range.2 hk, by simp [h]⟩
theorem isMapS_yes {t u : TmD} {to : List Int} (h : ∀ k, k < t.2.length → mapAt t u to k = true) : isMapS t u to = true := List.all_eq_true.2 fun k hk => h k (List.mem_range.1 hk)
theorem mapAt_eq {t u : TmD} {to : List Int} {k : Nat} (hk : k < t.2.length) (hu : k < u.2.length) : mapAt t u to k = !(t.2[k].2.any fun x => !hasT u.2[k] (atP to x)) := by
  unfold mapAt
  rw [List.getD_eq_getElem?_getD, List.getD_eq_getElem?_getD, List.getElem?_eq_getElem hk, List.getElem?_eq_getElem hu]
  rfl
theorem map_tuple {t u : TmD} {to : List Int} (ht : SValidTemplate t = true) (hv : vals u.1 to t.1 = true) {r : RelD} (hr : r ∈ t.2) {x : List Int} (hx : x ∈ r.2) : (∀ p ∈ x, 0 ≤ p ∧ p < to.length) ∧ x.length ≤ 1048576 := by
  obtain ⟨_, h2, h3⟩ := valid_parts (valid_tm ht r hr)
  obtain ⟨v1, v2⟩ := vals_iff.1 (h3 x hx)
  have := (vals_iff.1 hv).1
  exact ⟨fun p hp => by have := v2 p hp; omega, by omega⟩

set_option maxHeartbeats 1000000 in
theorem mapFault_any (t : TmD) (v : Value) (u : TmD) (vu : Value) (w : World) (hr : RdTm w v t) (hs : RdTm w vu u) :
    Calls Tryz.prog 87 #[v, vu] w fun e w' => e = .returned (.int .i64 (SMapFault t u)) ∧ Ext w w' := by
  obtain ⟨tv, rfl, hr'⟩ := hr
  obtain ⟨ta, tc, rfl⟩ := hr'.form
  have hr : RdTm w _ t := ⟨_, rfl, hr'⟩
  obtain ⟨tu, rfl, hs'⟩ := hs
  obtain ⟨ua, uc, rfl⟩ := hs'.form
  have hs : RdTm w _ u := ⟨_, rfl, hs'⟩
  have hE1 : Ext w ((w.alloc (.cells #[.int .i64 t.1, .slice ta t.2.length tc] 24)).alloc (.cells #[.int .i64 u.1, .slice ua u.2.length uc] 24)) := ((Ext.refl' w).alloc (Nat.le_refl _) _).alloc (by simp) _
  cases h1 : SValidTemplate t with
  | false =>
    have HN := Lib.hid (show SMapFault t u = 1 from by unfold SMapFault; rw [h1]; rfl)
    go_enter Tryz.func87, Tryz.ntmps87
    go_wp2_with fail
    refine (implValidTemplate_ok t _ _ (hr.ext hE1)).mono ?_
    rintro e w1 ⟨rfl, hE⟩
    rw [h1]
    have b0 := hE.cell (p := ⟨w.heap.size, 0, none⟩) (v := .int .i64 t.1) (by simp [go_sem])
    have b1 := hE.cell (p := ⟨w.heap.size, 1, none⟩) (v := .slice ta t.2.length tc) (by simp [go_sem])
    have c0 := hE.cell (p := ⟨w.heap.size + 1, 0, none⟩) (v := .int .i64 u.1) (by simp [go_sem])
    have c1 := hE.cell (p := ⟨w.heap.size + 1, 1, none⟩) (v := .slice ua u.2.length uc) (by simp [go_sem])
    replace hE := hE1.tr hE
    go_wp2_with fail
    go_ret
    exact ⟨ret_int HN.out.symm, hE⟩
  | true =>
    cases h2 : SValidTemplate u with
    | false =>
      have HN := Lib.hid (show SMapFault t u = 1 from by unfold SMapFault; rw [h1, h2]; rfl)
      go_enter Tryz.func87, Tryz.ntmps87
      go_wp2_with fail
      refine (implValidTemplate_ok t _ _ (hr.ext hE1)).mono ?_
      rintro e w1 ⟨rfl, hE⟩
      rw [h1]
      have b0 := hE.cell (p := ⟨w.heap.size, 0, none⟩) (v := .int .i64 t.1) (by simp [go_sem])
      have b1 := hE.cell (p := ⟨w.heap.size, 1, none⟩) (v := .slice ta t.2.length tc) (by simp [go_sem])
      have c0 := hE.cell (p := ⟨w.heap.size + 1, 0, none⟩) (v := .int .i64 u.1) (by simp [go_sem])
      have c1 := hE.cell (p := ⟨w.heap.size + 1, 1, none⟩) (v := .slice ua u.2.length uc) (by simp [go_sem])
      replace hE := hE1.tr hE
      go_wp2_with fail
      refine (implValidTemplate_ok u _ _ (hs.ext hE)).mono ?_
      rintro e w2 ⟨rfl, hE2⟩
      rw [h2]
      replace b0 := hE2.cell b0
      replace b1 := hE2.cell b1
      replace c0 := hE2.cell c0
      replace c1 := hE2.cell c1
      replace hE := hE.tr hE2
      clear hE2
      go_wp2_with fail
      go_ret
      exact ⟨ret_int HN.out.symm, hE⟩
    | true =>
      have HN := Lib.hid (show SMapFault t u = if eqAll sameAr t.2 u.2 then 0 else 4 from by unfold SMapFault; rw [h1, h2]; rfl)
      go_enter Tryz.func87, Tryz.ntmps87
      go_wp2_with fail
      refine (implValidTemplate_ok t _ _ (hr.ext hE1)).mono ?_
      rintro e w1 ⟨rfl, hE⟩
      rw [h1]
      have b0 := hE.cell (p := ⟨w.heap.size, 0, none⟩) (v := .int .i64 t.1) (by simp [go_sem])
      have b1 := hE.cell (p := ⟨w.heap.size, 1, none⟩) (v := .slice ta t.2.length tc) (by simp [go_sem])
      have c0 := hE.cell (p := ⟨w.heap.size + 1, 0, none⟩) (v := .int .i64 u.1) (by simp [go_sem])
      have c1 := hE.cell (p := ⟨w.heap.size + 1, 1, none⟩) (v := .slice ua u.2.length uc) (by simp [go_sem])
      replace hE := hE1.tr hE
      go_wp2_with fail
      refine (implValidTemplate_ok u _ _ (hs.ext hE)).mono ?_
      rintro e w2 ⟨rfl, hE2⟩
      rw [h2]
      replace b0 := hE2.cell b0
      replace b1 := hE2.cell b1
      replace c0 := hE2.cell c0
      replace c1 := hE2.cell c1
      replace hE := hE.tr hE2
      clear hE2
      go_wp2_with fail
      refine (equalFuncRelS_any sameAr t.2 u.2 _ _ 138 #[] #[] _ (hr'.ext hE) (hs'.ext hE) Tryz.call138 ?_).mono ?_
      · intro x y vx vy w' _ hx hy
        obtain ⟨xv, rfl, hx'⟩ := hx
        obtain ⟨xa, xc, rfl⟩ := hx'.form
        obtain ⟨yv, rfl, hy'⟩ := hy
        obtain ⟨ya, yc, rfl⟩ := hy'.form
        have hE2 : Ext w' ((w'.alloc (.cells #[.int .i64 x.1, .slice xa x.2.length xc] 35)).alloc (.cells #[.int .i64 y.1, .slice ya y.2.length yc] 35)) := ((Ext.refl' w').alloc (Nat.le_refl _) _).alloc (by simp) _
        simp only [List.append_toArray, List.nil_append, List.append_nil]
        go_enter Tryz.func138, Tryz.ntmps138
        go_wp2_with fail
        go_ret
        exact ⟨rfl, hE2⟩
      rintro e w3 ⟨rfl, hE3⟩
      cases h3 : eqAll sameAr t.2 u.2 with
      | false =>
        have HM := Lib.hid (show SMapFault t u = 4 from HN.out.trans (by simp [h3]))
        go_wp2_with fail
        go_ret
        exact ⟨ret_int HM.out.symm, hE.tr hE3⟩
      | true =>
        have HM := Lib.hid (show SMapFault t u = 0 from HN.out.trans (by simp [h3]))
        go_wp2_with fail
        go_ret
        exact ⟨ret_int HM.out.symm, hE.tr hE3⟩
set_option maxHeartbeats 4000000 in
set_option maxRecDepth 100000 in
theorem isMap_any (t : TmD) (v : Value) (u : TmD) (vu : Value) (to : List Int) (vt : Value) (w : World) (hr : RdTm w v t) (hs : RdTm w vu u) (ho : RdI w vt to) (ht : SValidTemplate t = true) (hu : SValidTemplate u = true) (hl : t.2.length = u.2.length) (hv : vals u.1 to t.1 = true) (hz : szTm u ≤ 1048576) :
    Calls Tryz.prog 79 #[v, vu, vt] w fun e w' => e = .returned (.bool (isMapS t u to)) ∧ Ext w w' := by
  have hmf : ∀ (fn : Fn) (first cap : Array Value) (w : World), (Instr.makeFunc fn first cap).run Tryz.prog w = .ok (.func fn first cap) w := fun _ _ _ _ => rfl
  obtain ⟨tv, rfl, hr'⟩ := hr
  obtain ⟨a, b, off, c, ts, rfl, hlc, hcm, ha, hc⟩ := hr'
  obtain ⟨tu, rfl, hs'⟩ := hs
  obtain ⟨a', b', off', c', us, rfl, hlc', hcm', ha', hc'⟩ := hs'
  obtain ⟨oa, oc, rfl⟩ := ho.form
  have hE1 : Ext w (((w.alloc (.cells #[.int .i64 t.1, .slice a t.2.length c] 24)).alloc (.cells #[.int .i64 u.1, .slice a' u.2.length c'] 24)).alloc (.cells #[.slice oa to.length oc] 37)) := (((Ext.refl' w).alloc (Nat.le_refl _) _).alloc (by simp) _).alloc (by simp; omega) _
  have c0 : (((w.alloc (.cells #[.int .i64 t.1, .slice a t.2.length c] 24)).alloc (.cells #[.int .i64 u.1, .slice a' u.2.length c'] 24)).alloc (.cells #[.slice oa to.length oc] 37)).cell? ⟨w.heap.size + 1, 0, none⟩ = some (.int .i64 u.1) := by simp [go_sem]
  have c1 : (((w.alloc (.cells #[.int .i64 t.1, .slice a t.2.length c] 24)).alloc (.cells #[.int .i64 u.1, .slice a' u.2.length c'] 24)).alloc (.cells #[.slice oa to.length oc] 37)).cell? ⟨w.heap.size + 1, 1, none⟩ = some (.slice a' u.2.length c') := by simp [go_sem]
  have d0 : (((w.alloc (.cells #[.int .i64 t.1, .slice a t.2.length c] 24)).alloc (.cells #[.int .i64 u.1, .slice a' u.2.length c'] 24)).alloc (.cells #[.slice oa to.length oc] 37)).cell? ⟨w.heap.size + 1 + 1, 0, none⟩ = some (.slice oa to.length oc) := by simp [go_sem]
  have HL := Lib.hid hl
  have hlen := valid_tm_len ht
  clear hl
  go_enter Tryz.func79, Tryz.ntmps79
  go_wp2_with fail
  generalize hwa : (((w.alloc (.cells #[.int .i64 t.1, .slice a t.2.length c] 24)).alloc (.cells #[.int .i64 u.1, .slice a' u.2.length c'] 24)).alloc (.cells #[.slice oa to.length oc] 37)) = wa at hE1 c0 c1 d0 ⊢
  clear hwa
  go_loopw [12] (fun i wr => ∃ k : Nat, k ≤ t.2.length ∧ i = .int .i64 k ∧ Ext wa wr ∧ Hid (∀ j, j < k → mapAt t u to j = true)) (fun i _ => t.2.length - (intOf i).toNat)
  case atStart => exact ⟨0, by omega, rfl, Ext.refl' _, Lib.hid fun j hj => by omega⟩
  case round =>
    obtain ⟨k, hk, rfl, hE, HT⟩ := hrel
    have hEE := hE1.tr hE
    replace c0 := hE.cell c0
    replace c1 := hE.cell c1
    replace d0 := hE.cell d0
    by_cases hkl : k < t.2.length
    · have hku : k < u.2.length := by have := HL.out; omega
      obtain rfl := ha (by omega)
      obtain rfl := ha' (by omega)
      obtain ⟨k0, k1, k2⟩ := hc k hkl
      obtain ⟨g0, g1, g2⟩ := hc' k hku
      replace k0 := hEE.cell k0
      replace k1 := hEE.cell k1
      replace k2 := k2.ext hEE
      replace g0 := hEE.cell g0
      replace g1 := hEE.cell g1
      replace g2 := g2.ext hEE
      have HA := Lib.hid (mapAt_eq (to := to) hkl hku)
      have hrv := valid_tm hu _ (List.getElem_mem hku)
      have hrz : szRel u.2[k] ≤ 1048576 := Nat.le_trans (szRel_le (List.getElem_mem hku)) hz
      have HTP := Lib.hid (fun (x : List Int) (hx : x ∈ t.2[k].2) => map_tuple ht hv (List.getElem_mem hkl) hx)
      generalize t.2[k] = R at k0 k1 k2 HA HTP
      generalize u.2[k] = S at g0 g1 g2 HA hrv hrz
      generalize ts k = y at k1 k2
      generalize us k = y' at g1 g2
      obtain ⟨ya, yc, rfl⟩ := k2.form
      obtain ⟨za, zc, rfl⟩ := g2.form
      have q0 := lt_of_cell c0
      have q1 := lt_of_cell d0
      have q2 := lt_of_cell k0
      have q3 := lt_of_cell g0
      dsimp only at q0 q1 q2 q3
      have hA2 : Ext wr ((wr.alloc (.cells #[.int .i64 (k : Nat)] 3)).alloc (.cells #[.int .i64 R.1, .slice ya R.2.length yc] 35)) := ((Ext.refl' wr).alloc (Nat.le_refl _) _).alloc (by simp) _
      go_wp2_with fail
      refine (containsFuncII_any (fun x => !hasT S (atP to x)) R.2 _ _ _ _ _ (k2.ext hA2) Tryz.call130 ?_).mono ?_
      · intro x hx vx w' hEc hxr
        have e0 := hEc.cell (p := ⟨wr.heap.size, 0, none⟩) (v := .int .i64 (k : Nat)) (by simp [go_sem])
        have hEd := hA2.tr hEc
        have c0 := hEd.cell c0
        have c1 := hEd.cell c1
        have d0 := hEd.cell d0
        have g0 := hEd.cell g0
        have g1 := hEd.cell g1
        have g2 := g2.ext hEd
        have ho2 := (ho.ext hEE).ext hEd
        have htp := HTP.out x hx
        simp only [List.append_toArray, List.nil_append, List.cons_append]
        go_enter Tryz.func130, Tryz.ntmps130
        go_wp2_with fail
        refine region_sp [] [10] [SP.val (.pointer (some ⟨(w.heap.size + 1), 1, none⟩)), SP.val (.slice (some ⟨b', off', none⟩) u.2.length c'), SP.val (.int .i64 (k : Nat)), SP.val (.pointer (some ⟨b', off' + k * 2, none⟩)), SP.val (.agg #[.int .i64 S.1, .slice za S.2.length zc]), SP.val (.slice oa to.length oc), SP.val (vx), SP.ownI (atP to x), SP.val (.bool (hasT S (atP to x))), SP.val (.bool (!(hasT S (atP to x)))), SP.any] (by kernel_rfl) (fun _ d _ _ _ h => by cases d <;> exact h) (by kernel_rfl) (by kernel_rfl)
          (.cons (fun vs y hY => Step.fieldAddr ⟨(w.heap.size + 1), 0, none⟩ rfl rfl rfl (by simp [go_sem]) rfl) <|
           .cons (fun vs y hY g0_0 => Step.load ⟨(w.heap.size + 1), 1, none⟩ rfl rfl g0_0 (by simp [go_sem, hY.cell c1]) rfl) <|
           .cons (fun vs y hY => Step.load ⟨wr.heap.size, 0, none⟩ rfl rfl rfl (by simp [go_sem, hY.cell e0]) rfl) <|
           .cons (fun vs y hY g1_0 g2_1 => Step.indexAtP (n := .int .i64 (k : Nat)) ⟨b', off' + k * 2, none⟩ rfl rfl g1_0 g2_1 (by simp [go_sem, Instr.indexAt, Addr.add, hku] <;> omega) rfl) <|
           .cons (fun vs y hY g3_0 => Step.load ⟨b', off' + k * 2, none⟩ rfl rfl g3_0 (by simp [go_sem, hY.cell g0, hY.cell g1]) rfl) <|
           .cons (fun vs y hY => Step.load ⟨(w.heap.size + 1 + 1), 0, none⟩ rfl rfl rfl (by simp [go_sem, hY.cell d0]) rfl) <|
           .cons (fun vs y hY => Step.move rfl rfl rfl rfl) <|
           .cons (fun vs y hY g5_0 g6_1 => Step.call Tryz.call131 rfl rfl [vs 5, vs 6] rfl rfl (by rw [show vs 5 = _ from g5_0, show vs 6 = _ from g6_1]; exact ((chosen_any _ _ _ _ _ (ho2.ext hY) (hxr.ext hY) htp.1 htp.2).mono fun _ _ ⟨u, fp, he, hE, ho, _⟩ => ⟨u, he, hE, fp, ho⟩))) <|
           .cons (fun vs y hY g4_0 g7_1 g7_2 => Step.call Tryz.call57 rfl rfl [vs 4, vs 7] rfl rfl (by rw [show vs 4 = _ from g4_0]; exact (Calls.spe (has_any u.1 S _ _ _ _ ⟨_, rfl, g2.ext hY⟩ (rdI_of_sp g7_1) hrv hrz)))) <|
           .cons (fun vs y hY g8_0 => Step.not rfl rfl g8_0 rfl) <|
           .skip rfl <|
           .nil) ?_
        intro vs w3 hC hL
        have r0 : vs 0 = _ := hL 0 (by decide) rfl
        have r1 : vs 1 = _ := hL 1 (by decide) rfl
        have r2 : vs 2 = _ := hL 2 (by decide) rfl
        have r3 : vs 3 = _ := hL 3 (by decide) rfl
        have r4 : vs 4 = _ := hL 4 (by decide) rfl
        have r5 : vs 5 = _ := hL 5 (by decide) rfl
        have r6 : vs 6 = _ := hL 6 (by decide) rfl
        have r7 := hL 7 (by decide) rfl
        have r8 : vs 8 = _ := hL 8 (by decide) rfl
        have r9 : vs 9 = _ := hL 9 (by decide) rfl
        clear hL
        simp only [putAll, Act.put, List.contains_cons, List.contains_nil, Nat.reduceBEq, Nat.reduceAdd, Bool.or_false, cond_true, cond_false, List.setIfInBounds_toArray, List.set_cons_succ, List.set_cons_zero, List.filterMap_cons, List.filterMap_nil, List.getElem?_cons_succ, List.getElem?_cons_zero, r0, r1, r2, r3, r4, r5, r6, r8, r9]
        clear r0 r1 r2 r3 r4 r5 r6 r8 r9
        go_wp2_with fail
        go_ret
        exact ⟨rfl, hC⟩
      rintro e w2 ⟨rfl, hE2⟩
      cases hcs : R.2.any (fun x => !hasT S (atP to x)) with
      | true =>
        have HN := Lib.hid (isMapS_no hkl (HA.out.trans (by rw [hcs]; rfl)))
        clear hcs
        go_wp2_with fail
        go_ret
        exact ⟨ret_bool HN.out.symm, hEE.tr (hA2.tr hE2)⟩
      | false =>
        have HT2 := Lib.hid (show ∀ j, j < k + 1 → mapAt t u to j = true from fun j hj => by
          rcases Nat.lt_or_ge j k with h | h
          · exact HT.out j h
          · rw [show j = k by omega, HA.out, hcs]; rfl)
        clear hcs
        go_wp2_with fail
        go_roundw
        case rel => exact ⟨k + 1, by omega, by go_num, hE.tr (hA2.tr hE2), HT2⟩
        case measure => simp [intOf]; omega
    · have HN := Lib.hid (isMapS_yes (t := t) (u := u) (to := to) fun j hj => HT.out j (by omega))
      go_wp2_with fail
      go_ret
      exact ⟨ret_bool HN.out.symm, hEE⟩
set_option maxHeartbeats 1000000 in
theorem implIsMapOf_any (t : TmD) (v : Value) (u : TmD) (vu : Value) (to : List Int) (vt : Value) (w : World) (hr : RdTm w v t) (hs : RdTm w vu u) (ho : RdI w vt to) (_ : szTm t ≤ 1048576) (hz : szTm u ≤ 1048576) (_ : to.length ≤ 1048576) :
    Calls Tryz.prog 36 #[v, vu, vt] w fun e w' => e = .returned (.tuple #[.bool (SIsMapOf t u to).1, .int .i64 (SIsMapOf t u to).2]) ∧ Ext w w' := by
  obtain ⟨tv, rfl, hr'⟩ := hr
  obtain ⟨ta, tc, rfl⟩ := hr'.form
  have hr : RdTm w _ t := ⟨_, rfl, hr'⟩
  obtain ⟨tu, rfl, hs'⟩ := hs
  obtain ⟨ua, uc, rfl⟩ := hs'.form
  have hs : RdTm w _ u := ⟨_, rfl, hs'⟩
  have hE1 : Ext w ((w.alloc (.cells #[.int .i64 t.1, .slice ta t.2.length tc] 24)).alloc (.cells #[.int .i64 u.1, .slice ua u.2.length uc] 24)) := ((Ext.refl' w).alloc (Nat.le_refl _) _).alloc (by simp) _
  obtain ⟨oa, oc, rfl⟩ := ho.form
  by_cases h0 : SMapFault t u = 0
  · obtain ⟨ht, hu, hl⟩ := fault_zero h0
    have htb := valid_tm_size ht
    have hub := valid_tm_size hu
    have hb : (SMapFault t u != 0) = false := by simp [h0]
    have HL := Lib.hid hl
    clear hl
    cases hv : vals u.1 to t.1 with
    | false =>
      have HN := Lib.hid (show SIsMapOf t u to = (false, 2) from by unfold SIsMapOf; rw [if_pos h0, hv]; rfl)
      clear h0
      go_enter Tryz.func36, Tryz.ntmps36
      go_wp2_with fail
      refine (mapFault_any t _ u _ _ (hr.ext hE1) (hs.ext hE1)).mono ?_
      rintro e w1 ⟨rfl, hE⟩
      have b0 := hE.cell (p := ⟨w.heap.size, 0, none⟩) (v := .int .i64 t.1) (by simp [go_sem])
      have b1 := hE.cell (p := ⟨w.heap.size, 1, none⟩) (v := .slice ta t.2.length tc) (by simp [go_sem])
      have c0 := hE.cell (p := ⟨w.heap.size + 1, 0, none⟩) (v := .int .i64 u.1) (by simp [go_sem])
      have c1 := hE.cell (p := ⟨w.heap.size + 1, 1, none⟩) (v := .slice ua u.2.length uc) (by simp [go_sem])
      replace hE := hE1.tr hE
      go_wp2_with fail
      refine (areValues_any _ _ _ _ _ (ho.ext hE) (by omega) (by omega)).mono ?_
      rintro e w2 ⟨rfl, hE2⟩
      rw [hv]
      go_wp2_with fail
      go_ret2
      rw [HN.out]
      exact ⟨rfl, hE.tr hE2⟩
    | true =>
      have HN := Lib.hid (show SIsMapOf t u to = (isMapS t u to, 0) from by unfold SIsMapOf; rw [if_pos h0, hv]; rfl)
      clear h0
      go_enter Tryz.func36, Tryz.ntmps36
      go_wp2_with fail
      refine (mapFault_any t _ u _ _ (hr.ext hE1) (hs.ext hE1)).mono ?_
      rintro e w1 ⟨rfl, hE⟩
      have b0 := hE.cell (p := ⟨w.heap.size, 0, none⟩) (v := .int .i64 t.1) (by simp [go_sem])
      have b1 := hE.cell (p := ⟨w.heap.size, 1, none⟩) (v := .slice ta t.2.length tc) (by simp [go_sem])
      have c0 := hE.cell (p := ⟨w.heap.size + 1, 0, none⟩) (v := .int .i64 u.1) (by simp [go_sem])
      have c1 := hE.cell (p := ⟨w.heap.size + 1, 1, none⟩) (v := .slice ua u.2.length uc) (by simp [go_sem])
      replace hE := hE1.tr hE
      go_wp2_with fail
      refine (areValues_any _ _ _ _ _ (ho.ext hE) (by omega) (by omega)).mono ?_
      rintro e w2 ⟨rfl, hE2⟩
      rw [hv]
      replace b0 := hE2.cell b0
      replace b1 := hE2.cell b1
      replace c0 := hE2.cell c0
      replace c1 := hE2.cell c1
      replace hE := hE.tr hE2
      go_wp2_with fail
      refine (isMap_any t _ u _ to _ _ (hr.ext hE) (hs.ext hE) (ho.ext hE) ht hu HL.out hv hz).mono ?_
      rintro e w3 ⟨rfl, hE3⟩
      go_wp2_with fail
      go_ret2
      rw [HN.out]
      exact ⟨rfl, hE.tr hE3⟩
  · have hb : (SMapFault t u != 0) = true := by simp [h0]
    have HN := Lib.hid (show SIsMapOf t u to = (false, SMapFault t u) from by unfold SIsMapOf; rw [if_neg h0])
    clear h0
    go_enter Tryz.func36, Tryz.ntmps36
    go_wp2_with fail
    refine (mapFault_any t _ u _ _ (hr.ext hE1) (hs.ext hE1)).mono ?_
    rintro e w1 ⟨rfl, hE⟩
    have b0 := hE.cell (p := ⟨w.heap.size, 0, none⟩) (v := .int .i64 t.1) (by simp [go_sem])
    have b1 := hE.cell (p := ⟨w.heap.size, 1, none⟩) (v := .slice ta t.2.length tc) (by simp [go_sem])
    have c0 := hE.cell (p := ⟨w.heap.size + 1, 0, none⟩) (v := .int .i64 u.1) (by simp [go_sem])
    have c1 := hE.cell (p := ⟨w.heap.size + 1, 1, none⟩) (v := .slice ua u.2.length uc) (by simp [go_sem])
    replace hE := hE1.tr hE
    go_wp2_with fail
    go_ret2
    rw [HN.out]
    exact ⟨rfl, hE⟩
set_option maxHeartbeats 2000000 in
set_option maxRecDepth 100000 in
theorem l01Arities_any (t : TmD) (v : Value) (u : TmD) (vu : Value) (w : World) (hr : PtTm w v t) (hs : PtTm w vu u) :
    Calls Tryz.prog 88 #[v, vu] w fun e w' => e = .returned (.int .i64 (SMapFault t u)) ∧ Ext w w' := by
  have hr0 := hr
  have hs0 := hs
  obtain ⟨tb, to', tv, rfl, b0, b1, hr'⟩ := hr
  obtain ⟨a, b, off, c, ts, rfl, hlc, hcm, ha, hc⟩ := hr'
  obtain ⟨ub, uo, tu, rfl, c0, c1, hs'⟩ := hs
  obtain ⟨a', b', off', c', us, rfl, hlc', hcm', ha', hc'⟩ := hs'
  cases h1 : SValidTemplate t with
  | false =>
    have HN := Lib.hid (show SMapFault t u = 1 from by unfold SMapFault; rw [h1]; rfl)
    go_enter Tryz.func88, Tryz.ntmps88
    go_wp2_with fail
    refine (l01Template_any t _ _ hr0).mono ?_
    rintro e w1 ⟨rfl, hE⟩
    rw [h1]
    go_wp2_with fail
    go_ret
    exact ⟨ret_int HN.out.symm, hE⟩
  | true =>
    cases h2 : SValidTemplate u with
    | false =>
      have HN := Lib.hid (show SMapFault t u = 1 from by unfold SMapFault; rw [h1, h2]; rfl)
      go_enter Tryz.func88, Tryz.ntmps88
      go_wp2_with fail
      refine (l01Template_any t _ _ hr0).mono ?_
      rintro e w1 ⟨rfl, hE⟩
      rw [h1]
      go_wp2_with fail
      refine (l01Template_any u _ _ (hs0.ext hE)).mono ?_
      rintro e w2 ⟨rfl, hE2⟩
      rw [h2]
      replace hE := hE.tr hE2
      clear hE2
      replace b0 := hE.cell b0
      replace b1 := hE.cell b1
      replace c0 := hE.cell c0
      replace c1 := hE.cell c1
      go_wp2_with fail
      go_ret
      exact ⟨ret_int HN.out.symm, hE⟩
    | true =>
      have hlen := valid_tm_len h1
      have HN := Lib.hid (show SMapFault t u = if eqAll sameAr t.2 u.2 then 0 else 4 from by unfold SMapFault; rw [h1, h2]; rfl)
      go_enter Tryz.func88, Tryz.ntmps88
      go_wp2_with fail
      refine (l01Template_any t _ _ hr0).mono ?_
      rintro e w1 ⟨rfl, hE⟩
      rw [h1]
      go_wp2_with fail
      refine (l01Template_any u _ _ (hs0.ext hE)).mono ?_
      rintro e w2 ⟨rfl, hE2⟩
      rw [h2]
      replace hE := hE.tr hE2
      clear hE2
      replace b0 := hE.cell b0
      replace b1 := hE.cell b1
      replace c0 := hE.cell c0
      replace c1 := hE.cell c1
      by_cases hl : t.2.length = u.2.length
      · have hbl : ((t.2.length : Int) != (u.2.length : Int)) = false := by simp [hl]
        have HL := Lib.hid hl
        clear hl
        go_wp2_with fail
        go_wp2_with fail
        refine region_sp [] [] [SP.val (.pointer (some ⟨tb, to', none⟩)), SP.val (.pointer (some ⟨tb, to', none⟩)), SP.val (.pointer (some ⟨tb, to' + 1, none⟩)), SP.val (.slice a t.2.length c), SP.val (.int .i64 (t.2.length : Nat)), SP.val (.pointer (some ⟨ub, uo, none⟩)), SP.val (.pointer (some ⟨ub, uo, none⟩)), SP.val (.pointer (some ⟨ub, uo + 1, none⟩)), SP.val (.slice a' u.2.length c'), SP.val (.int .i64 (u.2.length : Nat)), SP.val (.bool false)] (by kernel_rfl) (fun _ d _ _ _ h => by cases d <;> exact h) (by kernel_rfl) (by kernel_rfl)
          (.cons (fun vs y hY => Step.move rfl rfl rfl rfl) <|
           .cons (fun vs y hY g0_0 => Step.nilCheck rfl rfl g0_0 rfl) <|
           .cons (fun vs y hY g1_0 => Step.fieldAddr ⟨tb, to', none⟩ rfl rfl g1_0 (by simp [go_sem]) rfl) <|
           .cons (fun vs y hY g2_0 => Step.load ⟨tb, to' + 1, none⟩ rfl rfl g2_0 (by simp [go_sem, hY.cell b1]) rfl) <|
           .cons (fun vs y hY g3_0 => Step.len Tryz.underlying22 rfl rfl g3_0 rfl) <|
           .cons (fun vs y hY => Step.move rfl rfl rfl rfl) <|
           .cons (fun vs y hY g5_0 => Step.nilCheck rfl rfl g5_0 rfl) <|
           .cons (fun vs y hY g6_0 => Step.fieldAddr ⟨ub, uo, none⟩ rfl rfl g6_0 (by simp [go_sem]) rfl) <|
           .cons (fun vs y hY g7_0 => Step.load ⟨ub, uo + 1, none⟩ rfl rfl g7_0 (by simp [go_sem, hY.cell c1]) rfl) <|
           .cons (fun vs y hY g8_0 => Step.len Tryz.underlying22 rfl rfl g8_0 rfl) <|
           .cons (fun vs y hY g4_0 g9_1 => Step.bin (u := .int .i64 (t.2.length : Nat)) (v := .int .i64 (u.2.length : Nat)) rfl rfl g4_0 g9_1 (by simp [go_sem, hbl]) rfl) <|
           .nil) ?_
        intro vs w3 hC hL
        have r0 : vs 0 = _ := hL 0 (by decide) rfl
        have r1 : vs 1 = _ := hL 1 (by decide) rfl
        have r2 : vs 2 = _ := hL 2 (by decide) rfl
        have r3 : vs 3 = _ := hL 3 (by decide) rfl
        have r4 : vs 4 = _ := hL 4 (by decide) rfl
        have r5 : vs 5 = _ := hL 5 (by decide) rfl
        have r6 : vs 6 = _ := hL 6 (by decide) rfl
        have r7 : vs 7 = _ := hL 7 (by decide) rfl
        have r8 : vs 8 = _ := hL 8 (by decide) rfl
        have r9 : vs 9 = _ := hL 9 (by decide) rfl
        have r10 : vs 10 = _ := hL 10 (by decide) rfl
        clear hL
        simp only [putAll, Act.put, List.contains_nil, cond_false, List.setIfInBounds_toArray, List.set_cons_succ, List.set_cons_zero, List.filterMap_nil, r0, r1, r2, r3, r4, r5, r6, r7, r8, r9, r10]
        clear r0 r1 r2 r3 r4 r5 r6 r7 r8 r9 r10
        replace hE := hE.tr hC
        replace b0 := hC.cell b0
        replace b1 := hC.cell b1
        replace c0 := hC.cell c0
        replace c1 := hC.cell c1
        clear hC
        go_wp2_with fail
        obtain ⟨Wa, hWa⟩ : ∃ Wa, Wa = w3 := ⟨_, rfl⟩
        go_loopw [5] (fun i wr => ∃ k : Nat, k ≤ t.2.length ∧ i = .int .i64 k ∧ Ext w3 wr ∧ Hid (∀ j (hj : j < t.2.length) (hm : j < u.2.length), j < k → sameAr t.2[j] u.2[j] = true)) (fun i _ => t.2.length - (intOf i).toNat)
        case atStart => exact ⟨0, by omega, rfl, Ext.refl' _, Lib.hid fun j _ _ hj => by omega⟩
        case round =>
          obtain ⟨k, hk, rfl, hE3, HT⟩ := hrel
          have hEE := hE.tr hE3
          replace b0 := hE3.cell b0
          replace b1 := hE3.cell b1
          replace c0 := hE3.cell c0
          replace c1 := hE3.cell c1
          by_cases hkl : k < t.2.length
          · have hku : k < u.2.length := by have := HL.out; omega
            obtain rfl := ha (by omega)
            obtain rfl := ha' (by omega)
            obtain ⟨k0, -, -⟩ := hc k hkl
            obtain ⟨g0, -, -⟩ := hc' k hku
            replace k0 := hEE.cell k0
            replace g0 := hEE.cell g0
            by_cases hR : t.2[k].1 = u.2[k].1
            · have hbr : (t.2[k].1 != u.2[k].1) = false := by simp [hR]
              have HT2 := Lib.hid (show ∀ j (hj : j < t.2.length) (hm : j < u.2.length), j < k + 1 → sameAr t.2[j] u.2[j] = true from fun j hj hm h => by
                rcases Nat.lt_or_ge j k with h' | h'
                · exact HT.out j hj hm h'
                · have : j = k := by omega
                  subst this
                  unfold sameAr
                  rw [hR]
                  simp)
              clear hR
              go_wp2_with fail
              go_wp2_with fail
              refine region_sp [] [] [SP.val (.pointer (some ⟨tb, to', none⟩)), SP.val (.pointer (some ⟨tb, to', none⟩)), SP.val (.pointer (some ⟨tb, to' + 1, none⟩)), SP.val (.slice (some ⟨b, off, none⟩) t.2.length c), SP.val (.int .i64 (k : Nat)), SP.val (.pointer (some ⟨b, off + k * 2, none⟩)), SP.val (.pointer (some ⟨b, off + k * 2, none⟩)), SP.val (.int .i64 (t.2[k]).1), SP.val (.pointer (some ⟨ub, uo, none⟩)), SP.val (.pointer (some ⟨ub, uo, none⟩)), SP.val (.pointer (some ⟨ub, uo + 1, none⟩)), SP.val (.slice (some ⟨b', off', none⟩) u.2.length c'), SP.val (.int .i64 (k : Nat)), SP.val (.pointer (some ⟨b', off' + k * 2, none⟩)), SP.val (.pointer (some ⟨b', off' + k * 2, none⟩)), SP.val (.int .i64 (u.2[k]).1), SP.val (.bool false)] (by kernel_rfl) (fun _ d _ _ _ h => by cases d <;> exact h) (by kernel_rfl) (by kernel_rfl)
                (.cons (fun vs y hY => Step.move rfl rfl rfl rfl) <|
                 .cons (fun vs y hY g0_0 => Step.nilCheck rfl rfl g0_0 rfl) <|
                 .cons (fun vs y hY g1_0 => Step.fieldAddr ⟨tb, to', none⟩ rfl rfl g1_0 (by simp [go_sem]) rfl) <|
                 .cons (fun vs y hY g2_0 => Step.load ⟨tb, to' + 1, none⟩ rfl rfl g2_0 (by simp [go_sem, hY.cell b1]) rfl) <|
                 .cons (fun vs y hY => Step.move rfl rfl rfl rfl) <|
                 .cons (fun vs y hY g3_0 g4_1 => Step.indexAtP (n := .int .i64 (k : Nat)) ⟨b, off + k * 2, none⟩ rfl rfl g3_0 g4_1 (by simp [go_sem, Instr.indexAt, Addr.add, hkl] <;> omega) rfl) <|
                 .cons (fun vs y hY g5_0 => Step.fieldAddr ⟨b, off + k * 2, none⟩ rfl rfl g5_0 (by simp [go_sem]) rfl) <|
                 .cons (fun vs y hY g6_0 => Step.load ⟨b, off + k * 2, none⟩ rfl rfl g6_0 (by simp [go_sem, hY.cell k0]) rfl) <|
                 .cons (fun vs y hY => Step.move rfl rfl rfl rfl) <|
                 .cons (fun vs y hY g8_0 => Step.nilCheck rfl rfl g8_0 rfl) <|
                 .cons (fun vs y hY g9_0 => Step.fieldAddr ⟨ub, uo, none⟩ rfl rfl g9_0 (by simp [go_sem]) rfl) <|
                 .cons (fun vs y hY g10_0 => Step.load ⟨ub, uo + 1, none⟩ rfl rfl g10_0 (by simp [go_sem, hY.cell c1]) rfl) <|
                 .cons (fun vs y hY => Step.move rfl rfl rfl rfl) <|
                 .cons (fun vs y hY g11_0 g12_1 => Step.indexAtP (n := .int .i64 (k : Nat)) ⟨b', off' + k * 2, none⟩ rfl rfl g11_0 g12_1 (by simp [go_sem, Instr.indexAt, Addr.add, hku] <;> omega) rfl) <|
                 .cons (fun vs y hY g13_0 => Step.fieldAddr ⟨b', off' + k * 2, none⟩ rfl rfl g13_0 (by simp [go_sem]) rfl) <|
                 .cons (fun vs y hY g14_0 => Step.load ⟨b', off' + k * 2, none⟩ rfl rfl g14_0 (by simp [go_sem, hY.cell g0]) rfl) <|
                 .cons (fun vs y hY g7_0 g15_1 => Step.bin (u := .int .i64 (t.2[k]).1) (v := .int .i64 (u.2[k]).1) rfl rfl g7_0 g15_1 (by simp [go_sem, hbr]) rfl) <|
                 .nil) ?_
              intro vs w4 hC hL
              have r0 : vs 0 = _ := hL 0 (by decide) rfl
              have r1 : vs 1 = _ := hL 1 (by decide) rfl
              have r2 : vs 2 = _ := hL 2 (by decide) rfl
              have r3 : vs 3 = _ := hL 3 (by decide) rfl
              have r4 : vs 4 = _ := hL 4 (by decide) rfl
              have r5 : vs 5 = _ := hL 5 (by decide) rfl
              have r6 : vs 6 = _ := hL 6 (by decide) rfl
              have r7 : vs 7 = _ := hL 7 (by decide) rfl
              have r8 : vs 8 = _ := hL 8 (by decide) rfl
              have r9 : vs 9 = _ := hL 9 (by decide) rfl
              have r10 : vs 10 = _ := hL 10 (by decide) rfl
              have r11 : vs 11 = _ := hL 11 (by decide) rfl
              have r12 : vs 12 = _ := hL 12 (by decide) rfl
              have r13 : vs 13 = _ := hL 13 (by decide) rfl
              have r14 : vs 14 = _ := hL 14 (by decide) rfl
              have r15 : vs 15 = _ := hL 15 (by decide) rfl
              have r16 : vs 16 = _ := hL 16 (by decide) rfl
              clear hL
              simp only [putAll, Act.put, List.contains_nil, cond_false, List.setIfInBounds_toArray, List.set_cons_succ, List.set_cons_zero, List.filterMap_nil, r0, r1, r2, r3, r4, r5, r6, r7, r8, r9, r10, r11, r12, r13, r14, r15, r16]
              clear r0 r1 r2 r3 r4 r5 r6 r7 r8 r9 r10 r11 r12 r13 r14 r15 r16
              go_wp2_with fail
              go_roundw
              case rel => exact ⟨k + 1, by omega, by go_num, hE3.tr hC, HT2⟩
              case measure => simp [intOf]; omega
            · have hbr : (t.2[k].1 != u.2[k].1) = true := by simp [hR]
              have HM := Lib.hid (show SMapFault t u = 4 from HN.out.trans (by rw [eqAll_no hkl hku (by unfold sameAr; simp [hR])]; rfl))
              clear hR
              go_wp2_with fail
              go_wp2_with fail
              refine region_sp [] [] [SP.val (.pointer (some ⟨tb, to', none⟩)), SP.val (.pointer (some ⟨tb, to', none⟩)), SP.val (.pointer (some ⟨tb, to' + 1, none⟩)), SP.val (.slice (some ⟨b, off, none⟩) t.2.length c), SP.val (.int .i64 (k : Nat)), SP.val (.pointer (some ⟨b, off + k * 2, none⟩)), SP.val (.pointer (some ⟨b, off + k * 2, none⟩)), SP.val (.int .i64 (t.2[k]).1), SP.val (.pointer (some ⟨ub, uo, none⟩)), SP.val (.pointer (some ⟨ub, uo, none⟩)), SP.val (.pointer (some ⟨ub, uo + 1, none⟩)), SP.val (.slice (some ⟨b', off', none⟩) u.2.length c'), SP.val (.int .i64 (k : Nat)), SP.val (.pointer (some ⟨b', off' + k * 2, none⟩)), SP.val (.pointer (some ⟨b', off' + k * 2, none⟩)), SP.val (.int .i64 (u.2[k]).1), SP.val (.bool true)] (by kernel_rfl) (fun _ d _ _ _ h => by cases d <;> exact h) (by kernel_rfl) (by kernel_rfl)
                (.cons (fun vs y hY => Step.move rfl rfl rfl rfl) <|
                 .cons (fun vs y hY g0_0 => Step.nilCheck rfl rfl g0_0 rfl) <|
                 .cons (fun vs y hY g1_0 => Step.fieldAddr ⟨tb, to', none⟩ rfl rfl g1_0 (by simp [go_sem]) rfl) <|
                 .cons (fun vs y hY g2_0 => Step.load ⟨tb, to' + 1, none⟩ rfl rfl g2_0 (by simp [go_sem, hY.cell b1]) rfl) <|
                 .cons (fun vs y hY => Step.move rfl rfl rfl rfl) <|
                 .cons (fun vs y hY g3_0 g4_1 => Step.indexAtP (n := .int .i64 (k : Nat)) ⟨b, off + k * 2, none⟩ rfl rfl g3_0 g4_1 (by simp [go_sem, Instr.indexAt, Addr.add, hkl] <;> omega) rfl) <|
                 .cons (fun vs y hY g5_0 => Step.fieldAddr ⟨b, off + k * 2, none⟩ rfl rfl g5_0 (by simp [go_sem]) rfl) <|
                 .cons (fun vs y hY g6_0 => Step.load ⟨b, off + k * 2, none⟩ rfl rfl g6_0 (by simp [go_sem, hY.cell k0]) rfl) <|
                 .cons (fun vs y hY => Step.move rfl rfl rfl rfl) <|
                 .cons (fun vs y hY g8_0 => Step.nilCheck rfl rfl g8_0 rfl) <|
                 .cons (fun vs y hY g9_0 => Step.fieldAddr ⟨ub, uo, none⟩ rfl rfl g9_0 (by simp [go_sem]) rfl) <|
                 .cons (fun vs y hY g10_0 => Step.load ⟨ub, uo + 1, none⟩ rfl rfl g10_0 (by simp [go_sem, hY.cell c1]) rfl) <|
                 .cons (fun vs y hY => Step.move rfl rfl rfl rfl) <|
                 .cons (fun vs y hY g11_0 g12_1 => Step.indexAtP (n := .int .i64 (k : Nat)) ⟨b', off' + k * 2, none⟩ rfl rfl g11_0 g12_1 (by simp [go_sem, Instr.indexAt, Addr.add, hku] <;> omega) rfl) <|
                 .cons (fun vs y hY g13_0 => Step.fieldAddr ⟨b', off' + k * 2, none⟩ rfl rfl g13_0 (by simp [go_sem]) rfl) <|
                 .cons (fun vs y hY g14_0 => Step.load ⟨b', off' + k * 2, none⟩ rfl rfl g14_0 (by simp [go_sem, hY.cell g0]) rfl) <|
                 .cons (fun vs y hY g7_0 g15_1 => Step.bin (u := .int .i64 (t.2[k]).1) (v := .int .i64 (u.2[k]).1) rfl rfl g7_0 g15_1 (by simp [go_sem, hbr]) rfl) <|
                 .nil) ?_
              intro vs w4 hC hL
              have r0 : vs 0 = _ := hL 0 (by decide) rfl
              have r1 : vs 1 = _ := hL 1 (by decide) rfl
              have r2 : vs 2 = _ := hL 2 (by decide) rfl
              have r3 : vs 3 = _ := hL 3 (by decide) rfl
              have r4 : vs 4 = _ := hL 4 (by decide) rfl
              have r5 : vs 5 = _ := hL 5 (by decide) rfl
              have r6 : vs 6 = _ := hL 6 (by decide) rfl
              have r7 : vs 7 = _ := hL 7 (by decide) rfl
              have r8 : vs 8 = _ := hL 8 (by decide) rfl
              have r9 : vs 9 = _ := hL 9 (by decide) rfl
              have r10 : vs 10 = _ := hL 10 (by decide) rfl
              have r11 : vs 11 = _ := hL 11 (by decide) rfl
              have r12 : vs 12 = _ := hL 12 (by decide) rfl
              have r13 : vs 13 = _ := hL 13 (by decide) rfl
              have r14 : vs 14 = _ := hL 14 (by decide) rfl
              have r15 : vs 15 = _ := hL 15 (by decide) rfl
              have r16 : vs 16 = _ := hL 16 (by decide) rfl
              clear hL
              simp only [putAll, Act.put, List.contains_nil, cond_false, List.setIfInBounds_toArray, List.set_cons_succ, List.set_cons_zero, List.filterMap_nil, r0, r1, r2, r3, r4, r5, r6, r7, r8, r9, r10, r11, r12, r13, r14, r15, r16]
              clear r0 r1 r2 r3 r4 r5 r6 r7 r8 r9 r10 r11 r12 r13 r14 r15 r16
              go_wp2_with fail
              go_ret
              exact ⟨ret_int HM.out.symm, hEE.tr hC⟩
          · have HM := Lib.hid (show SMapFault t u = 0 from HN.out.trans (by rw [eqAll_yes HL.out fun j hj hm => HT.out j hj hm (by omega)]; rfl))
            go_wp2_with fail
            go_ret
            exact ⟨ret_int HM.out.symm, hEE⟩
      · have hbl : ((t.2.length : Int) != (u.2.length : Int)) = true := by simp; omega
        have HM := Lib.hid (show SMapFault t u = 4 from HN.out.trans (by rw [eqAll_len hl]; rfl))
        clear hl
        go_wp2_with fail
        go_wp2_with fail
        refine region_sp [] [] [SP.val (.pointer (some ⟨tb, to', none⟩)), SP.val (.pointer (some ⟨tb, to', none⟩)), SP.val (.pointer (some ⟨tb, to' + 1, none⟩)), SP.val (.slice a t.2.length c), SP.val (.int .i64 (t.2.length : Nat)), SP.val (.pointer (some ⟨ub, uo, none⟩)), SP.val (.pointer (some ⟨ub, uo, none⟩)), SP.val (.pointer (some ⟨ub, uo + 1, none⟩)), SP.val (.slice a' u.2.length c'), SP.val (.int .i64 (u.2.length : Nat)), SP.val (.bool true)] (by kernel_rfl) (fun _ d _ _ _ h => by cases d <;> exact h) (by kernel_rfl) (by kernel_rfl)
          (.cons (fun vs y hY => Step.move rfl rfl rfl rfl) <|
           .cons (fun vs y hY g0_0 => Step.nilCheck rfl rfl g0_0 rfl) <|
           .cons (fun vs y hY g1_0 => Step.fieldAddr ⟨tb, to', none⟩ rfl rfl g1_0 (by simp [go_sem]) rfl) <|
           .cons (fun vs y hY g2_0 => Step.load ⟨tb, to' + 1, none⟩ rfl rfl g2_0 (by simp [go_sem, hY.cell b1]) rfl) <|
           .cons (fun vs y hY g3_0 => Step.len Tryz.underlying22 rfl rfl g3_0 rfl) <|
           .cons (fun vs y hY => Step.move rfl rfl rfl rfl) <|
           .cons (fun vs y hY g5_0 => Step.nilCheck rfl rfl g5_0 rfl) <|
           .cons (fun vs y hY g6_0 => Step.fieldAddr ⟨ub, uo, none⟩ rfl rfl g6_0 (by simp [go_sem]) rfl) <|
           .cons (fun vs y hY g7_0 => Step.load ⟨ub, uo + 1, none⟩ rfl rfl g7_0 (by simp [go_sem, hY.cell c1]) rfl) <|
           .cons (fun vs y hY g8_0 => Step.len Tryz.underlying22 rfl rfl g8_0 rfl) <|
           .cons (fun vs y hY g4_0 g9_1 => Step.bin (u := .int .i64 (t.2.length : Nat)) (v := .int .i64 (u.2.length : Nat)) rfl rfl g4_0 g9_1 (by simp [go_sem, hbl]) rfl) <|
           .nil) ?_
        intro vs w3 hC hL
        have r0 : vs 0 = _ := hL 0 (by decide) rfl
        have r1 : vs 1 = _ := hL 1 (by decide) rfl
        have r2 : vs 2 = _ := hL 2 (by decide) rfl
        have r3 : vs 3 = _ := hL 3 (by decide) rfl
        have r4 : vs 4 = _ := hL 4 (by decide) rfl
        have r5 : vs 5 = _ := hL 5 (by decide) rfl
        have r6 : vs 6 = _ := hL 6 (by decide) rfl
        have r7 : vs 7 = _ := hL 7 (by decide) rfl
        have r8 : vs 8 = _ := hL 8 (by decide) rfl
        have r9 : vs 9 = _ := hL 9 (by decide) rfl
        have r10 : vs 10 = _ := hL 10 (by decide) rfl
        clear hL
        simp only [putAll, Act.put, List.contains_nil, cond_false, List.setIfInBounds_toArray, List.set_cons_succ, List.set_cons_zero, List.filterMap_nil, r0, r1, r2, r3, r4, r5, r6, r7, r8, r9, r10]
        clear r0 r1 r2 r3 r4 r5 r6 r7 r8 r9 r10
        replace hE := hE.tr hC
        replace b0 := hC.cell b0
        replace b1 := hC.cell b1
        replace c0 := hC.cell c0
        replace c1 := hC.cell c1
        clear hC
        go_wp2_with fail
        go_ret
        exact ⟨ret_int HM.out.symm, hE⟩
set_option maxHeartbeats 4000000 in
set_option maxRecDepth 100000 in
theorem l01Maps_any (t : TmD) (v : Value) (u : TmD) (vu : Value) (to : List Int) (vt : Value) (w : World) (hr : PtTm w v t) (hs : PtTm w vu u) (ho : RdI w vt to) (ht : SValidTemplate t = true) (hl : t.2.length = u.2.length) (hv : vals u.1 to t.1 = true) :
    Calls Tryz.prog 91 #[v, vu, vt] w fun e w' => e = .returned (.bool (isMapS t u to)) ∧ Ext w w' := by
  obtain ⟨tb, to', tv, rfl, b0, b1, hr'⟩ := hr
  obtain ⟨a, b, off, c, ts, rfl, hlc, hcm, ha, hc⟩ := hr'
  obtain ⟨ub, uo, tu, rfl, c0, c1, hs'⟩ := hs
  obtain ⟨a', b', off', c', us, rfl, hlc', hcm', ha', hc'⟩ := hs'
  obtain ⟨oa, oc, rfl⟩ := ho.form
  have HL := Lib.hid hl
  have hlen := valid_tm_len ht
  clear hl
  go_enter Tryz.func91, Tryz.ntmps91
  go_wp2_with fail
  go_loopw [7] (fun i wr => ∃ k : Nat, k ≤ t.2.length ∧ i = .int .i64 k ∧ Ext w wr ∧ Hid (∀ j, j < k → mapAt t u to j = true)) (fun i _ => t.2.length - (intOf i).toNat)
  case atStart => exact ⟨0, by omega, rfl, Ext.refl' _, Lib.hid fun j hj => by omega⟩
  case round =>
    obtain ⟨k, hk, rfl, hE, HT⟩ := hrel
    replace b0 := hE.cell b0
    replace b1 := hE.cell b1
    replace c0 := hE.cell c0
    replace c1 := hE.cell c1
    by_cases hkl : k < t.2.length
    · have hku : k < u.2.length := by have := HL.out; omega
      obtain rfl := ha (by omega)
      obtain rfl := ha' (by omega)
      obtain ⟨k0, k1, k2⟩ := hc k hkl
      obtain ⟨g0, g1, g2⟩ := hc' k hku
      replace k0 := hE.cell k0
      replace k1 := hE.cell k1
      replace k2 := k2.ext hE
      have hp : PtRel wr (.pointer (some ⟨b', off' + k * 2, none⟩)) u.2[k] := ⟨_, _, _, rfl, hE.cell g0, hE.cell g1, g2.ext hE⟩
      have HA := Lib.hid (mapAt_eq (to := to) hkl hku)
      have hrl : (t.2[k]).2.length ≤ 256 := valid_length (valid_tm ht _ (List.getElem_mem hkl))
      have HTP := Lib.hid (fun (x : List Int) (hx : x ∈ t.2[k].2) => map_tuple ht hv (List.getElem_mem hkl) hx)
      generalize t.2[k] = R at k0 k1 k2 HA HTP hrl
      generalize u.2[k] = S at hp HA
      generalize ts k = yy at k1 k2
      obtain ⟨ya, yb, yoff, yc, ys, rfl, hylc, hycm, hya, hyc⟩ := k2
      go_wp2_with fail
      obtain ⟨Wa, hWa⟩ : ∃ Wa, Wa = wr := ⟨_, rfl⟩
      go_loopw [8] (fun i wz => ∃ j : Nat, j ≤ R.2.length ∧ i = .int .i64 j ∧ Ext wr wz ∧ Hid ((R.2.take j).any (fun x => !hasT S (atP to x)) = false)) (fun i _ => R.2.length - (intOf i).toNat)
      case atStart => exact ⟨0, by omega, rfl, Ext.refl' _, Lib.hid rfl⟩
      case round =>
        obtain ⟨j, hj, rfl, hE2, HJ⟩ := hrel
        have hEE := hE.tr hE2
        replace b0 := hE2.cell b0
        replace b1 := hE2.cell b1
        replace c0 := hE2.cell c0
        replace c1 := hE2.cell c1
        replace k0 := hE2.cell k0
        replace k1 := hE2.cell k1
        by_cases hjl : j < R.2.length
        · obtain rfl := hya (by omega)
          obtain ⟨z1, z2⟩ := hyc j hjl
          replace z1 := hE2.cell z1
          replace z2 := z2.ext hE2
          have htp := HTP.out _ (List.getElem_mem hjl)
          have hp2 := hp.ext hE2
          have ho2 := ho.ext hEE
          generalize ys j = zz at z1 z2
          obtain ⟨za, zc, rfl⟩ := z2.form
          cases hT : hasT S (atP to R.2[j]) with
          | true =>
            have HJ2 := Lib.hid (show (R.2.take (j + 1)).any (fun x => !hasT S (atP to x)) = false from by rw [any_take_succ _ R.2 j hjl, HJ.out, hT]; rfl)
            go_wp2_with fail
            go_wp2_with fail
            refine region_sp [] [] [SP.val (.pointer (some ⟨ub, uo, none⟩)), SP.val (.pointer (some ⟨ub, uo, none⟩)), SP.val (.pointer (some ⟨ub, uo + 1, none⟩)), SP.val (.slice (some ⟨b', off', none⟩) u.2.length c'), SP.val (.int .i64 (k : Nat)), SP.val (.pointer (some ⟨b', off' + k * 2, none⟩)), SP.val (.pointer (some ⟨tb, to', none⟩)), SP.val (.pointer (some ⟨tb, to', none⟩)), SP.val (.pointer (some ⟨tb, to' + 1, none⟩)), SP.val (.slice (some ⟨b, off, none⟩) t.2.length c), SP.val (.int .i64 (k : Nat)), SP.val (.pointer (some ⟨b, off + k * 2, none⟩)), SP.val (.pointer (some ⟨b, off + k * 2 + 1, none⟩)), SP.val (.slice (some ⟨yb, yoff, none⟩) R.2.length yc), SP.val (.int .i64 (j : Nat)), SP.val (.pointer (some ⟨yb, yoff + j, none⟩)), SP.val (.slice za R.2[j].length zc), SP.val (.slice oa to.length oc), SP.ownI (atP to R.2[j]), SP.val (.bool true), SP.val (.bool false)] (by kernel_rfl) (fun _ d _ _ _ h => by cases d <;> exact h) (by kernel_rfl) (by kernel_rfl)
              (.cons (fun vs y hY => Step.move rfl rfl rfl rfl) <|
               .cons (fun vs y hY g0_0 => Step.nilCheck rfl rfl g0_0 rfl) <|
               .cons (fun vs y hY g1_0 => Step.fieldAddr ⟨ub, uo, none⟩ rfl rfl g1_0 (by simp [go_sem]) rfl) <|
               .cons (fun vs y hY g2_0 => Step.load ⟨ub, uo + 1, none⟩ rfl rfl g2_0 (by simp [go_sem, hY.cell c1]) rfl) <|
               .cons (fun vs y hY => Step.move rfl rfl rfl rfl) <|
               .cons (fun vs y hY g3_0 g4_1 => Step.indexAtP (n := .int .i64 (k : Nat)) ⟨b', off' + k * 2, none⟩ rfl rfl g3_0 g4_1 (by simp [go_sem, Instr.indexAt, Addr.add, hku] <;> omega) rfl) <|
               .cons (fun vs y hY => Step.move rfl rfl rfl rfl) <|
               .cons (fun vs y hY g6_0 => Step.nilCheck rfl rfl g6_0 rfl) <|
               .cons (fun vs y hY g7_0 => Step.fieldAddr ⟨tb, to', none⟩ rfl rfl g7_0 (by simp [go_sem]) rfl) <|
               .cons (fun vs y hY g8_0 => Step.load ⟨tb, to' + 1, none⟩ rfl rfl g8_0 (by simp [go_sem, hY.cell b1]) rfl) <|
               .cons (fun vs y hY => Step.move rfl rfl rfl rfl) <|
               .cons (fun vs y hY g9_0 g10_1 => Step.indexAtP (n := .int .i64 (k : Nat)) ⟨b, off + k * 2, none⟩ rfl rfl g9_0 g10_1 (by simp [go_sem, Instr.indexAt, Addr.add, hkl] <;> omega) rfl) <|
               .cons (fun vs y hY g11_0 => Step.fieldAddr ⟨b, off + k * 2, none⟩ rfl rfl g11_0 (by simp [go_sem]) rfl) <|
               .cons (fun vs y hY g12_0 => Step.load ⟨b, off + k * 2 + 1, none⟩ rfl rfl g12_0 (by simp [go_sem, hY.cell k1]) rfl) <|
               .cons (fun vs y hY => Step.move rfl rfl rfl rfl) <|
               .cons (fun vs y hY g13_0 g14_1 => Step.indexAtP (n := .int .i64 (j : Nat)) ⟨yb, yoff + j, none⟩ rfl rfl g13_0 g14_1 (by simp [go_sem, Instr.indexAt, Addr.add, hjl] <;> omega) rfl) <|
               .cons (fun vs y hY g15_0 => Step.load ⟨yb, yoff + j, none⟩ rfl rfl g15_0 (by simp [go_sem, hY.cell z1]) rfl) <|
               .cons (fun vs y hY => Step.move rfl rfl rfl rfl) <|
               .cons (fun vs y hY g16_0 g17_1 => Step.call Tryz.call139 rfl rfl [vs 16, vs 17] rfl rfl (by rw [show vs 16 = _ from g16_0, show vs 17 = _ from g17_1]; exact ((l01Mapped_any _ _ _ _ _ (ho2.ext hY) (z2.ext hY) htp.1 htp.2).mono fun _ _ ⟨u, fp, he, hE, ho, _⟩ => ⟨u, he, hE, fp, ho⟩))) <|
               .cons (fun vs y hY g5_0 g18_1 g18_2 => Step.call Tryz.call68 rfl rfl [vs 5, vs 18] rfl rfl (by rw [show vs 5 = _ from g5_0]; exact (Calls.spq (l01Has_any S _ _ _ _ (hp2.ext hY) (rdI_of_sp g18_1)) (by rw [hT])))) <|
               .cons (fun vs y hY g19_0 => Step.not rfl rfl g19_0 rfl) <|
               .nil) ?_
            intro vs w3 hC hL
            have r0 : vs 0 = _ := hL 0 (by decide) rfl
            have r1 : vs 1 = _ := hL 1 (by decide) rfl
            have r2 : vs 2 = _ := hL 2 (by decide) rfl
            have r3 : vs 3 = _ := hL 3 (by decide) rfl
            have r4 : vs 4 = _ := hL 4 (by decide) rfl
            have r5 : vs 5 = _ := hL 5 (by decide) rfl
            have r6 : vs 6 = _ := hL 6 (by decide) rfl
            have r7 : vs 7 = _ := hL 7 (by decide) rfl
            have r8 : vs 8 = _ := hL 8 (by decide) rfl
            have r9 : vs 9 = _ := hL 9 (by decide) rfl
            have r10 : vs 10 = _ := hL 10 (by decide) rfl
            have r11 : vs 11 = _ := hL 11 (by decide) rfl
            have r12 : vs 12 = _ := hL 12 (by decide) rfl
            have r13 : vs 13 = _ := hL 13 (by decide) rfl
            have r14 : vs 14 = _ := hL 14 (by decide) rfl
            have r15 : vs 15 = _ := hL 15 (by decide) rfl
            have r16 : vs 16 = _ := hL 16 (by decide) rfl
            have r17 : vs 17 = _ := hL 17 (by decide) rfl
            have r18 := hL 18 (by decide) rfl
            have r19 : vs 19 = _ := hL 19 (by decide) rfl
            have r20 : vs 20 = _ := hL 20 (by decide) rfl
            clear hL
            simp only [putAll, Act.put, List.contains_nil, cond_false, List.setIfInBounds_toArray, List.set_cons_succ, List.set_cons_zero, List.filterMap_nil, r0, r1, r2, r3, r4, r5, r6, r7, r8, r9, r10, r11, r12, r13, r14, r15, r16, r17, r19, r20]
            clear r0 r1 r2 r3 r4 r5 r6 r7 r8 r9 r10 r11 r12 r13 r14 r15 r16 r17 r19 r20
            go_wp2_with fail
            go_roundw
            case rel => exact ⟨j + 1, by omega, by go_num, hE2.tr hC, HJ2⟩
            case measure => simp [intOf]; omega
          | false =>
            have HN := Lib.hid (isMapS_no hkl (HA.out.trans (by rw [show (R.2.any fun x => !hasT S (atP to x)) = true from List.any_eq_true.2 ⟨_, List.getElem_mem hjl, by simp [hT]⟩]; rfl)))
            go_wp2_with fail
            go_wp2_with fail
            refine region_sp [] [] [SP.val (.pointer (some ⟨ub, uo, none⟩)), SP.val (.pointer (some ⟨ub, uo, none⟩)), SP.val (.pointer (some ⟨ub, uo + 1, none⟩)), SP.val (.slice (some ⟨b', off', none⟩) u.2.length c'), SP.val (.int .i64 (k : Nat)), SP.val (.pointer (some ⟨b', off' + k * 2, none⟩)), SP.val (.pointer (some ⟨tb, to', none⟩)), SP.val (.pointer (some ⟨tb, to', none⟩)), SP.val (.pointer (some ⟨tb, to' + 1, none⟩)), SP.val (.slice (some ⟨b, off, none⟩) t.2.length c), SP.val (.int .i64 (k : Nat)), SP.val (.pointer (some ⟨b, off + k * 2, none⟩)), SP.val (.pointer (some ⟨b, off + k * 2 + 1, none⟩)), SP.val (.slice (some ⟨yb, yoff, none⟩) R.2.length yc), SP.val (.int .i64 (j : Nat)), SP.val (.pointer (some ⟨yb, yoff + j, none⟩)), SP.val (.slice za R.2[j].length zc), SP.val (.slice oa to.length oc), SP.ownI (atP to R.2[j]), SP.val (.bool false), SP.val (.bool true)] (by kernel_rfl) (fun _ d _ _ _ h => by cases d <;> exact h) (by kernel_rfl) (by kernel_rfl)
              (.cons (fun vs y hY => Step.move rfl rfl rfl rfl) <|
               .cons (fun vs y hY g0_0 => Step.nilCheck rfl rfl g0_0 rfl) <|
               .cons (fun vs y hY g1_0 => Step.fieldAddr ⟨ub, uo, none⟩ rfl rfl g1_0 (by simp [go_sem]) rfl) <|
               .cons (fun vs y hY g2_0 => Step.load ⟨ub, uo + 1, none⟩ rfl rfl g2_0 (by simp [go_sem, hY.cell c1]) rfl) <|
               .cons (fun vs y hY => Step.move rfl rfl rfl rfl) <|
               .cons (fun vs y hY g3_0 g4_1 => Step.indexAtP (n := .int .i64 (k : Nat)) ⟨b', off' + k * 2, none⟩ rfl rfl g3_0 g4_1 (by simp [go_sem, Instr.indexAt, Addr.add, hku] <;> omega) rfl) <|
               .cons (fun vs y hY => Step.move rfl rfl rfl rfl) <|
               .cons (fun vs y hY g6_0 => Step.nilCheck rfl rfl g6_0 rfl) <|
               .cons (fun vs y hY g7_0 => Step.fieldAddr ⟨tb, to', none⟩ rfl rfl g7_0 (by simp [go_sem]) rfl) <|
               .cons (fun vs y hY g8_0 => Step.load ⟨tb, to' + 1, none⟩ rfl rfl g8_0 (by simp [go_sem, hY.cell b1]) rfl) <|
               .cons (fun vs y hY => Step.move rfl rfl rfl rfl) <|
               .cons (fun vs y hY g9_0 g10_1 => Step.indexAtP (n := .int .i64 (k : Nat)) ⟨b, off + k * 2, none⟩ rfl rfl g9_0 g10_1 (by simp [go_sem, Instr.indexAt, Addr.add, hkl] <;> omega) rfl) <|
               .cons (fun vs y hY g11_0 => Step.fieldAddr ⟨b, off + k * 2, none⟩ rfl rfl g11_0 (by simp [go_sem]) rfl) <|
               .cons (fun vs y hY g12_0 => Step.load ⟨b, off + k * 2 + 1, none⟩ rfl rfl g12_0 (by simp [go_sem, hY.cell k1]) rfl) <|
               .cons (fun vs y hY => Step.move rfl rfl rfl rfl) <|
               .cons (fun vs y hY g13_0 g14_1 => Step.indexAtP (n := .int .i64 (j : Nat)) ⟨yb, yoff + j, none⟩ rfl rfl g13_0 g14_1 (by simp [go_sem, Instr.indexAt, Addr.add, hjl] <;> omega) rfl) <|
               .cons (fun vs y hY g15_0 => Step.load ⟨yb, yoff + j, none⟩ rfl rfl g15_0 (by simp [go_sem, hY.cell z1]) rfl) <|
               .cons (fun vs y hY => Step.move rfl rfl rfl rfl) <|
               .cons (fun vs y hY g16_0 g17_1 => Step.call Tryz.call139 rfl rfl [vs 16, vs 17] rfl rfl (by rw [show vs 16 = _ from g16_0, show vs 17 = _ from g17_1]; exact ((l01Mapped_any _ _ _ _ _ (ho2.ext hY) (z2.ext hY) htp.1 htp.2).mono fun _ _ ⟨u, fp, he, hE, ho, _⟩ => ⟨u, he, hE, fp, ho⟩))) <|
               .cons (fun vs y hY g5_0 g18_1 g18_2 => Step.call Tryz.call68 rfl rfl [vs 5, vs 18] rfl rfl (by rw [show vs 5 = _ from g5_0]; exact (Calls.spq (l01Has_any S _ _ _ _ (hp2.ext hY) (rdI_of_sp g18_1)) (by rw [hT])))) <|
               .cons (fun vs y hY g19_0 => Step.not rfl rfl g19_0 rfl) <|
               .nil) ?_
            intro vs w3 hC hL
            have r0 : vs 0 = _ := hL 0 (by decide) rfl
            have r1 : vs 1 = _ := hL 1 (by decide) rfl
            have r2 : vs 2 = _ := hL 2 (by decide) rfl
            have r3 : vs 3 = _ := hL 3 (by decide) rfl
            have r4 : vs 4 = _ := hL 4 (by decide) rfl
            have r5 : vs 5 = _ := hL 5 (by decide) rfl
            have r6 : vs 6 = _ := hL 6 (by decide) rfl
            have r7 : vs 7 = _ := hL 7 (by decide) rfl
            have r8 : vs 8 = _ := hL 8 (by decide) rfl
            have r9 : vs 9 = _ := hL 9 (by decide) rfl
            have r10 : vs 10 = _ := hL 10 (by decide) rfl
            have r11 : vs 11 = _ := hL 11 (by decide) rfl
            have r12 : vs 12 = _ := hL 12 (by decide) rfl
            have r13 : vs 13 = _ := hL 13 (by decide) rfl
            have r14 : vs 14 = _ := hL 14 (by decide) rfl
            have r15 : vs 15 = _ := hL 15 (by decide) rfl
            have r16 : vs 16 = _ := hL 16 (by decide) rfl
            have r17 : vs 17 = _ := hL 17 (by decide) rfl
            have r18 := hL 18 (by decide) rfl
            have r19 : vs 19 = _ := hL 19 (by decide) rfl
            have r20 : vs 20 = _ := hL 20 (by decide) rfl
            clear hL
            simp only [putAll, Act.put, List.contains_nil, cond_false, List.setIfInBounds_toArray, List.set_cons_succ, List.set_cons_zero, List.filterMap_nil, r0, r1, r2, r3, r4, r5, r6, r7, r8, r9, r10, r11, r12, r13, r14, r15, r16, r17, r19, r20]
            clear r0 r1 r2 r3 r4 r5 r6 r7 r8 r9 r10 r11 r12 r13 r14 r15 r16 r17 r19 r20
            go_wp2_with fail
            go_ret
            exact ⟨ret_bool HN.out.symm, hEE.tr hC⟩
        · have HT2 := Lib.hid (show ∀ j, j < k + 1 → mapAt t u to j = true from fun i hi => by
            rcases Nat.lt_or_ge i k with h | h
            · exact HT.out i h
            · have := HJ.out
              rw [show j = R.2.length by omega, List.take_length] at this
              rw [show i = k by omega, HA.out, this]; rfl)
          go_wp2_with fail
          go_roundw
          case rel => exact ⟨k + 1, by omega, by go_num, hEE, HT2⟩
          case measure => simp [intOf]; omega
    · have HN := Lib.hid (isMapS_yes (t := t) (u := u) (to := to) fun j hj => HT.out j (by omega))
      go_wp2_with fail
      go_ret
      exact ⟨ret_bool HN.out.symm, hE⟩
end Go.Proofs.YtajkepdfemdagaaGreatDoor
