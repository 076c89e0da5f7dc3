/- The laws' own functions over one list of integers: its size taken off, a copy, equality, marks, marks found again. From a walk that ends in true, with new blocks alone, to what a row says; and how the row's readings open into this seat's data. -/
import Derived.Test.YtajkepdfemdagaaGreatDoorC01
import Derived.Test.YtajkepdfemdagaaGreatDoorProg
import Derived.Test.YtajkepdfemdagaaGreatDoorRows
import Derived.Deep.Slices
import Derived.Lib.SmallJoins
namespace Go.Proofs.YtajkepdfemdagaaGreatDoor
open Go.RowKit
set_option linter.unusedVariables false

theorem infoI : (Tryz.prog.info? 2).map (fun i => (i.zero, i.size, i.bytes)) = some (some (.int .i64 0), 1, 8) := by kernel_rfl

/-- v owns the integers l, in the blocks fp -/
abbrev OI (w : World) (v : Value) (l : List Int) (fp : List Nat) : Prop := OwnI 2 w v l fp

/-- what is left of a number when n are taken off; -1 for less than nothing -/
def szL (left : Int) (n : Nat) : Int := if left < n then -1 else left - n

/-- k, k + 1 .. : n numbers -/
def marksI (k : Int) (n : Nat) : List Int := (List.range n).map fun i : Nat => k + (i : Int)
theorem marksI_length (k : Int) (n : Nat) : (marksI k n).length = n := by simp [marksI]
theorem marksI_succ (k : Int) (n : Nat) : marksI k (n + 1) = marksI k n ++ [k + (n : Int)] := by simp [marksI, List.range_succ]

/-- the number behind the last mark, -1 if one is not there -/
def heldI (l : List Int) (k : Int) : Int := if l = marksI k l.length then k + l.length else -1




set_option maxHeartbeats 400000 in
theorem eqInt64S_q (l m : List Int) (v u : Value) (w : World) (hr : RdI w v l) (hs : RdI w u m) :
    Calls Tryz.prog 171 #[v, u] w fun e w' => e = .returned (.bool (decide (l = m))) ∧ Qt w w' := by
  obtain ⟨a, b, off, cap, rfl, hlc, hcm, ha, hc⟩ := hr
  obtain ⟨a', b', off', cap', rfl, hlc', hcm', ha', hc'⟩ := hs
  by_cases hlen : l.length = m.length
  · have hb : ((l.length : Int) != (m.length : Int)) = false := by simp [hlen]
    go_enter Tryz.func171, Tryz.ntmps171
    go_wp2
    go_loopw [5] (fun i wr => ∃ k : Nat, k ≤ l.length ∧ i = .int .i64 k ∧ Qt w wr ∧ l.take k = m.take k) (fun i _ => l.length - (intOf i).toNat)
    case atStart => exact ⟨0, by omega, rfl, Qt.refl _, rfl⟩
    case round =>
      obtain ⟨k, hk, rfl, hE, ht⟩ := hrel
      have HB := Lib.hid hb
      have HT := Lib.hid ht
      clear hb ht
      by_cases hkl : k < l.length
      · have hkm : k < m.length := by omega
        obtain rfl := ha (by omega)
        obtain rfl := ha' (by omega)
        have h1 := hE.ext.cell (hc k hkl)
        have h2 := hE.ext.cell (hc' k hkm)
        have HL := Lib.hid hlen
        clear hlen
        go_wp2
        go_quiet (fail)
        have hnx : Qt w (wr.drewN nq) := hE.drewN _
        by_cases hlk : l[k] = m[k]
        · have hb2 : (l[k] != m[k]) = false := by simp [hlk]
          clear hlk
          go_wp2
          go_roundw
          case rel => exact ⟨k + 1, by omega, by go_num, hnx, by rw [List.take_succ_eq_append_getElem hkl, List.take_succ_eq_append_getElem hkm, HT.out, show l[k] = m[k] by simpa using hb2]⟩
          case measure => simp [intOf]; omega
        · have hb2 : (l[k] != m[k]) = true := by simp [hlk]
          have hne : ¬ l = m := fun h => hlk (by subst h; rfl)
          have HN := Lib.hid hne
          clear hlk hne
          go_wp2
          go_ret
          exact ⟨ret_bool (by simp [HN.out]), hnx⟩
      · go_wp2
        go_ret
        refine ⟨ret_bool ?_, hE⟩
        have hkk : k = l.length := by omega
        have := HT.out
        rw [hkk, List.take_length, hlen, List.take_length] at this
        simp [this]
  · have hb : ((l.length : Int) != (m.length : Int)) = true := by simp; omega
    have hne : ¬ l = m := fun h => hlen (by rw [h])
    have HN := Lib.hid hne
    clear hne hlen
    go_enter Tryz.func171, Tryz.ntmps171
    go_wp2
    go_ret
    exact ⟨ret_bool (by simp [HN.out]), Qt.refl _⟩
theorem eqInt64S_any (l m : List Int) (v u : Value) (w : World) (hr : RdI w v l) (hs : RdI w u m) :
    Calls Tryz.prog 171 #[v, u] w fun e w' => e = .returned (.bool (decide (l = m))) ∧ Ext w w' := (eqInt64S_q l m v u w hr hs).mono fun _ _ ⟨he, hq⟩ => ⟨he, hq.ext⟩

set_option maxHeartbeats 400000 in
theorem l00Same_any (l m : List Int) (v u : Value) (w : World) (hr : RdI w v l) (hs : RdI w u m) :
    Calls Tryz.prog 86 #[v, u] w fun e w' => e = .returned (.bool (decide (l = m))) ∧ Qt w w' := by
  obtain ⟨a, b, off, cap, rfl, hlc, hcm, ha, hc⟩ := hr
  obtain ⟨a', b', off', cap', rfl, hlc', hcm', ha', hc'⟩ := hs
  by_cases hlen : l.length = m.length
  · have hb : ((l.length : Int) != (m.length : Int)) = false := by simp [hlen]
    go_enter Tryz.func86, Tryz.ntmps86
    go_wp2
    go_loopw [5] (fun i wr => ∃ k : Nat, k ≤ l.length ∧ i = .int .i64 k ∧ Qt w wr ∧ l.take k = m.take k) (fun i _ => l.length - (intOf i).toNat)
    case atStart => exact ⟨0, by omega, rfl, Qt.refl _, rfl⟩
    case round =>
      obtain ⟨k, hk, rfl, hE, ht⟩ := hrel
      have HB := Lib.hid hb
      have HT := Lib.hid ht
      clear hb ht
      by_cases hkl : k < l.length
      · have hkm : k < m.length := by omega
        obtain rfl := ha (by omega)
        obtain rfl := ha' (by omega)
        have h1 := hE.ext.cell (hc k hkl)
        have h2 := hE.ext.cell (hc' k hkm)
        have HL := Lib.hid hlen
        clear hlen
        go_wp2
        go_quiet (fail)
        have hnx : Qt w (wr.drewN nq) := hE.drewN _
        by_cases hlk : l[k] = m[k]
        · have hb2 : (l[k] != m[k]) = false := by simp [hlk]
          clear hlk
          go_wp2
          go_roundw
          case rel => exact ⟨k + 1, by omega, by go_num, hnx, by rw [List.take_succ_eq_append_getElem hkl, List.take_succ_eq_append_getElem hkm, HT.out, show l[k] = m[k] by simpa using hb2]⟩
          case measure => simp [intOf]; omega
        · have hb2 : (l[k] != m[k]) = true := by simp [hlk]
          have hne : ¬ l = m := fun h => hlk (by subst h; rfl)
          have HN := Lib.hid hne
          clear hlk hne
          go_wp2
          go_ret
          exact ⟨ret_bool (by simp [HN.out]), hnx⟩
      · go_wp2
        go_ret
        refine ⟨ret_bool ?_, hE⟩
        have hkk : k = l.length := by omega
        have := HT.out
        rw [hkk, List.take_length, hlen, List.take_length] at this
        simp [this]
  · have hb : ((l.length : Int) != (m.length : Int)) = true := by simp; omega
    have hne : ¬ l = m := fun h => hlen (by rw [h])
    have HN := Lib.hid hne
    clear hne hlen
    go_enter Tryz.func86, Tryz.ntmps86
    go_wp2
    go_ret
    exact ⟨ret_bool (by simp [HN.out]), Qt.refl _⟩

set_option maxHeartbeats 400000 in
theorem slicesEqual_any (l m : List Int) (v u : Value) (w : World) (hr : RdI w v l) (hs : RdI w u m) :
    Calls Tryz.prog 123 #[v, u] w fun e w' => e = .returned (.bool (decide (l = m))) ∧ Qt w w' := by
  obtain ⟨a, b, off, cap, rfl, hlc, hcm, ha, hc⟩ := hr
  obtain ⟨a', b', off', cap', rfl, hlc', hcm', ha', hc'⟩ := hs
  by_cases hlen : l.length = m.length
  · have hb : ((l.length : Int) != (m.length : Int)) = false := by simp [hlen]
    go_enter Tryz.func123, Tryz.ntmps123
    go_wp2
    go_loopw [13] (fun i wr => ∃ k : Nat, k ≤ l.length ∧ i = .int .i64 k ∧ Qt w wr ∧ l.take k = m.take k) (fun i _ => l.length - (intOf i).toNat)
    case atStart => exact ⟨0, by omega, rfl, Qt.refl _, rfl⟩
    case round =>
      obtain ⟨k, hk, rfl, hE, ht⟩ := hrel
      have HB := Lib.hid hb
      have HT := Lib.hid ht
      clear hb ht
      by_cases hkl : k < l.length
      · have hkm : k < m.length := by omega
        obtain rfl := ha (by omega)
        obtain rfl := ha' (by omega)
        have h1 := hE.ext.cell (hc k hkl)
        have h2 := hE.ext.cell (hc' k hkm)
        have HL := Lib.hid hlen
        clear hlen
        go_wp2
        go_quiet (fail)
        have hnx : Qt w (wr.drewN nq) := hE.drewN _
        by_cases hlk : l[k] = m[k]
        · have hb2 : (l[k] != m[k]) = false := by simp [hlk]
          clear hlk
          go_wp2
          go_roundw
          case rel => exact ⟨k + 1, by omega, by go_num, hnx, by rw [List.take_succ_eq_append_getElem hkl, List.take_succ_eq_append_getElem hkm, HT.out, show l[k] = m[k] by simpa using hb2]⟩
          case measure => simp [intOf]; omega
        · have hb2 : (l[k] != m[k]) = true := by simp [hlk]
          have hne : ¬ l = m := fun h => hlk (by subst h; rfl)
          have HN := Lib.hid hne
          clear hlk hne
          go_wp2
          go_ret
          exact ⟨ret_bool (by simp [HN.out]), hnx⟩
      · go_wp2
        go_ret
        refine ⟨ret_bool ?_, hE⟩
        have hkk : k = l.length := by omega
        have := HT.out
        rw [hkk, List.take_length, hlen, List.take_length] at this
        simp [this]
  · have hb : ((l.length : Int) != (m.length : Int)) = true := by simp; omega
    have hne : ¬ l = m := fun h => hlen (by rw [h])
    have HN := Lib.hid hne
    clear hne hlen
    go_enter Tryz.func123, Tryz.ntmps123
    go_wp2
    go_ret
    exact ⟨ret_bool (by simp [HN.out]), Qt.refl _⟩

set_option maxHeartbeats 400000 in
theorem markInt64S_any (l : List Int) (v : Value) (fp : List Nat) (k0 : Int) (w : World) (ho : OI w v l fp) (hk0 : 0 ≤ k0) (hb : k0 + l.length ≤ 4611686018427387904) :
    Calls Tryz.prog 150 #[v, .int .i64 k0] w fun e w' => e = .returned (.int .i64 (k0 + l.length)) ∧ Off fp w w' ∧ OI w' v (marksI k0 l.length) fp := by
  obtain ⟨ho, hfp⟩ := ho
  obtain ⟨a, b, cap, rfl, _, hlc, hcm, ha, hblk, -, -⟩ := own_parts ho
  go_enter Tryz.func150, Tryz.ntmps150
  go_wp2
  go_loopw [1, 5] (fun q i wr => ∃ k : Nat, k ≤ l.length ∧ i = .int .i64 k ∧ q = .int .i64 (k0 + k) ∧ Off fp w wr ∧ wr.ownsRow 0 2 1 (.slice a l.length cap) l.length ((marksI k0 k ++ l.drop k).map (Value.int .i64)))
    (fun _ i _ => l.length - (intOf i).toNat)
  case atStart => exact ⟨0, by omega, rfl, by simp, Off.refl _ _, by simpa [marksI] using ho⟩
  case round =>
    obtain ⟨k, hk, rfl, rfl, hO, ho1⟩ := hrel
    by_cases hkl : k < l.length
    · obtain rfl := ha (by omega)
      obtain ⟨u, hu⟩ := own_cell ho1 k hkl
      have hfz := ho1.frozenAt k
      have hst := (ho1.stored k (.int .i64 (k0 + k))).1
      have hO2 : Off fp w (wr.setCell ⟨b, k, none⟩ (.int .i64 (k0 + k))) := hO.trans ⟨rfl, rfl, rfl, by simp [World.setCell], fun j _ hj => Below.heap_setCell _ _ _ _ (by
        rintro rfl
        exact hj (by rw [hfp]; simp [Value.ownBlock]))⟩
      have hset : ((marksI k0 k ++ l.drop k).map (Value.int .i64)).set k (.int .i64 (k0 + k)) = (marksI k0 (k + 1) ++ l.drop (k + 1)).map (Value.int .i64) := by
        rw [← List.map_set, List.set_append, if_neg (by simp [marksI_length]), marksI_length, Nat.sub_self, List.drop_eq_getElem_cons hkl, List.set_cons_zero, marksI_succ, List.append_assoc]
        rfl
      rw [hset] at hst
      clear hset
      go_wp2
      go_roundw
      case rel => exact ⟨k + 1, by omega, by go_num, by go_num, hO2, hst⟩
      case measure => simp [intOf]; omega
    · go_wp2
      go_ret
      have hkk : k = l.length := by omega
      subst hkk
      exact ⟨rfl, hO, by simpa [marksI_length] using ho1, hfp⟩

theorem marksI_get (k : Int) (n j : Nat) (h : j < (marksI k n).length) : (marksI k n)[j] = k + j := by simp [marksI]
theorem heldI_marks (k : Int) (n : Nat) : heldI (marksI k n) k = k + n := by unfold heldI; rw [marksI_length, if_pos rfl]
theorem heldI_ne {l : List Int} {k0 : Int} {k : Nat} (h : k < l.length) (hne : ¬ l[k] = k0 + k) : heldI l k0 = -1 := by
  unfold heldI
  rw [if_neg]
  intro hh
  apply hne
  have : l[k]? = (marksI k0 l.length)[k]? := by rw [← hh]
  simp only [List.getElem?_eq_getElem h, marksI, List.getElem?_map, List.getElem?_range h, Option.map_some, Option.some.injEq] at this
  exact this

set_option maxHeartbeats 400000 in
theorem heldInt64S_any (l : List Int) (v : Value) (k0 : Int) (w : World) (hr : RdI w v l) (hk0 : 0 ≤ k0) (hb : k0 + l.length ≤ 4611686018427387904) :
    Calls Tryz.prog 151 #[v, .int .i64 k0] w fun e w' => e = .returned (.int .i64 (heldI l k0)) ∧ Ext w w' := by
  obtain ⟨a, b, off, cap, rfl, hlc, hcm, ha, hc⟩ := hr
  go_enter Tryz.func151, Tryz.ntmps151
  go_wp2
  go_loopw [1, 5] (fun q i wr => ∃ k : Nat, k ≤ l.length ∧ i = .int .i64 k ∧ q = .int .i64 (k0 + k) ∧ Ext w wr ∧ l.take k = marksI k0 k)
    (fun _ i _ => l.length - (intOf i).toNat)
  case atStart => exact ⟨0, by omega, rfl, by simp, Ext.refl' _, by simp [marksI]⟩
  case round =>
    obtain ⟨k, hk, rfl, rfl, hE, ht⟩ := hrel
    have HT := Lib.hid ht
    clear ht
    by_cases hkl : k < l.length
    · obtain rfl := ha (by omega)
      have hck := hE.cell (hc k hkl)
      by_cases hlk : l[k] = k0 + k
      · have hb2 : (l[k] != k0 + k) = false := by simp [hlk]
        have HK := Lib.hid hlk
        clear hlk
        go_wp2
        go_roundw
        case rel => exact ⟨k + 1, by omega, by go_num, by go_num, hE, by rw [List.take_succ_eq_append_getElem hkl, HT.out, marksI_succ, HK.out]⟩
        case measure => simp [intOf]; omega
      · have hb2 : (l[k] != k0 + k) = true := by simp [hlk]
        have HN := Lib.hid (heldI_ne hkl hlk)
        clear hlk
        go_wp2
        go_ret
        exact ⟨ret_int (by rw [HN.out]), hE⟩
    · go_wp2
      go_ret
      have hkk : k = l.length := by omega
      subst hkk
      refine ⟨ret_int ?_, hE⟩
      have := HT.out
      rw [List.take_length] at this
      unfold heldI
      rw [if_pos this]

theorem rdI_index {w : World} {v : Value} {l : List Int} {i : Int} (hr : RdI w v l) (h0 : 0 ≤ i) (h1 : i < l.length) :
    ∃ p, (Instr.indexAt 37 v (.int .i64 i)).run Tryz.prog w = .ok (.pointer (some p)) w ∧ w.cell? p = some (.int .i64 (l.getD i.toNat 0)) := by
  obtain ⟨a, b, off, cap, rfl, hlc, hcm, ha, hc⟩ := hr
  obtain ⟨k, rfl⟩ := Int.eq_ofNat_of_zero_le h0
  obtain rfl := ha (by omega)
  have hk : k < l.length := by omega
  have hck := hc k hk
  refine ⟨⟨b, off + k, none⟩, ?_, by rw [Int.toNat_natCast, List.getD_eq_getElem?_getD, List.getElem?_eq_getElem hk]; exact hck⟩
  simp [go_sem, Instr.indexAt, hk, Addr.add]
def SP.ownI (l : List Int) : SP := ⟨fun v w => ∃ fp, OI w v l fp, fun _ _ _ ⟨fp, h⟩ hE => ⟨fp, h.ext hE⟩⟩
theorem rdI_of_sp {w : World} {v : Value} {l : List Int} (h : ∃ fp, OI w v l fp) : RdI w v l := let ⟨_, h⟩ := h; h.rd
theorem szL_le {left : Int} {n : Nat} (h : ¬ szL left n < 0) : (n : Int) ≤ left ∧ 0 ≤ szL left n ∧ szL left n ≤ left := by
  unfold szL at *
  split at h
  · omega
  · rename_i hh; rw [if_neg hh]; omega
end Go.Proofs.YtajkepdfemdagaaGreatDoor
namespace Go.Proofs.YtajkepdfemdagaaGreatDoor
open Go.ChangeShapes Go.WideShapes Go.ChangeAt Go.RowKit Go.Joins Go.Deep

theorem own_knob : ownKnob Tryz.prog.godebug = none := by kernel_rfl
theorem laid_out : laidOutB Tryz.prog = true := by kernel_rfl
theorem cellsI : Tryz.prog.cellsOf 2 = 1 := by kernel_rfl

/-- the reading of all arguments stays as memory grows -/
theorem trodAll_ext {P : Program} (hl : laidOutB P = true) {H : Type} {enc : TypeId × Value → H} {W W' : World} (hE : Ext W W') : ∀ {ts : List TypeId} {vs : List Value} {ds : List (DataW H)} {ps : List MemPlace}, (ts.all fun t => P.readableRec t && decide (t < P.types.size)) = true →
    DataW.TrodAll enc P W 0 (fun _ => true) true ts vs ds ps → (∀ x ∈ ps, x.block < W.heap.size) → DataW.TrodAll enc P W' 0 (fun b => decide (b < W.heap.size)) true ts vs ds ps
  | [], vs, ds, ps, _, h, _ => by
    obtain ⟨rfl, rfl, rfl⟩ := trodAll_nil h
    exact trodAll_mk0
  | t :: ts, vs, ds, ps, hr, h, hlt => by
    obtain ⟨v, vs', d, ds', p, q, rfl, rfl, rfl, h0, h1⟩ := trodAll_cons h
    simp only [List.all_cons, Bool.and_eq_true, decide_eq_true_eq] at hr
    exact trodAll_cons_mk (Below.trod hl hr.1.1 hr.1.2 h0 hE fun x hx => hlt x (by simp [hx])) (trodAll_ext hl hE hr.2 h1 fun x hx => hlt x (by simp [hx]))

theorem law_post {H : Type} {enc : TypeId × Value → H} {f : Func} {s : ChangeSpec} {W W' : World} {args : Array Value} {ds : List (DataW H)} {before : List MemPlace}
    (hv : s.vars = []) (hrt : f.resultTypes = #[4]) (hread : (f.params.toList.all fun t => Tryz.prog.readableRec t && decide (t < Tryz.prog.types.size)) = true)
    (hW : DataW.Whole enc Tryz.prog f.params.toList s.vars false W args.toList ds [] before) (hE : Ext W W')
    (hs1 : (s.fn H ds).results = [.lit (.bool true)]) (hs2 : (s.fn H ds).args = ds) (hs3 : (s.fn H ds).vars = []) :
    s.post enc Tryz.prog f false true false false W args (.bool true) W' := by
  have hlt : ∀ x ∈ before, x.block < W.heap.size := fun x hx => by simpa using hW.lt x hx
  obtain ⟨p, q, hA, hV, hpq, hrest⟩ := id hW
  have hq : q = [] := by
    rw [hv] at hV
    exact hV
  subst hq
  rw [List.append_nil] at hpq
  subst hpq
  refine ⟨ds, [], before, [], before, [], hW, ?_, ?_, ?_, hE.frame _, fun h => by cases h⟩
  · rw [List.append_nil, hs1, hrt]
    exact trodAll_cons_mk (shut_bool Tryz.underlying4 _) trodAll_mk0
  · rw [List.append_nil, hs2]
    exact trodAll_ext laid_out hE hread hA hlt
  · rw [List.append_nil, hs3, hv]
    exact rfl

/-! ### readings opened -/
section
variable {H : Type} {enc : TypeId × Value → H} {W : World}

set_option maxRecDepth 100000 in
theorem rdI_of {fuel : Nat} {v : Value} {x : DataW H × List MemPlace} (h : DataW.trod enc Tryz.prog W 0 (fun _ => true) true fuel 37 [v] = some x) : ∃ l, RdI W v l := by
  rcases open_ints Tryz.underlying37 Tryz.underlying2 cellsI h with ⟨hcs, _⟩ | ⟨a, len, cap, zs, hcs, _, hl, hm, hz, _, hcell, _⟩
  · simp at hcs
    subst hcs
    exact ⟨[], RdI.nil W⟩
  · simp at hcs
    subst hcs
    simp only [if_true] at hz
    refine ⟨zs.take len, ?_⟩
    have hlen : (zs.take len).length = len := by simp; omega
    by_cases hp : 0 < zs.length
    · obtain ⟨b, off, rfl, hc⟩ := ints_at hcell hp
      refine ⟨some ⟨b, off, none⟩, b, off, cap, by rw [hlen], by omega, by unfold maxLen at hm; omega, fun _ => rfl, fun j hj => ?_⟩
      rw [hc j (by omega)]
      simp
      rw [List.getElem?_eq_getElem (by omega)]
      rfl
    · refine ⟨some a, 0, 0, cap, by rw [hlen], by omega, by unfold maxLen at hm; omega, fun h => by omega, fun j hj => by omega⟩

set_option maxRecDepth 100000 in
theorem int_of {v : Value} {d : DataW H} {p : List MemPlace} {b : Nat} (h : DataW.Trod enc Tryz.prog W 0 (fun _ => true) true 2 v d p) (hv : Value.okWide Tryz.prog W .any b 2 v) : ∃ n : Int, v = .int .i64 n ∧ -9223372036854775808 ≤ n ∧ n ≤ 9223372036854775807 := by
  obtain ⟨x, rfl, _, _, wx⟩ := open_int Tryz.underlying2 hv h
  have := wx
  simp [Lit.wf, IntKind.min, IntKind.max, IntKind.signed, IntKind.bits] at this
  exact ⟨x, rfl, by omega, by omega⟩

set_option maxRecDepth 100000 in
theorem dI_of {v : Value} {d : DataW H} {p : List MemPlace} {b : Nat} (h : DataW.Trod enc Tryz.prog W 0 (fun _ => true) true 37 v d p) (hv : Value.okWide Tryz.prog W .any b 37 v) : ∃ l, RdI W v l := by
  obtain ⟨a0, len, cap, rfl⟩ := okWide_slice Tryz.underlying37 hv
  obtain ⟨fuel, hf⟩ := h
  exact rdI_of hf
end

end Go.Proofs.YtajkepdfemdagaaGreatDoor
