/- SameTemplate, ValidTemplate: the program's and the reference's give one function's answers. Small laws and the reference's search in a list of numbers. -/
import Derived.Test.YtajkepdfemdagaaGreatDoorC22
import Derived.Test.YtajkepdfemdagaaGreatDoorC07
import Derived.Test.YtajkepdfemdagaaGreatDoorC09
import Derived.Test.YtajkepdfemdagaaGreatDoorC12
import Derived.Test.YtajkepdfemdagaaGreatDoorC20
namespace Go.Proofs.YtajkepdfemdagaaGreatDoor
open Go.RowKit
set_option linter.unusedVariables false

abbrev RelD := Int × List (List Int)
/-- two lists of relations of one length, of which something is so place by place -/
def eqAll (e : RelD → RelD → Bool) (l m : List RelD) : Bool := decide (l.length = m.length) && (List.range l.length).all fun i => e (l.getD i noRel) (m.getD i noRel)
theorem eqAll_len {e : RelD → RelD → Bool} {l m : List RelD} (h : ¬ l.length = m.length) : eqAll e l m = false := by unfold eqAll; rw [decide_eq_false h]; rfl
theorem eqAll_no {e : RelD → RelD → Bool} {l m : List RelD} {k : Nat} (hk : k < l.length) (hm : k < m.length) (h : e l[k] m[k] = false) : eqAll e l m = false := by
  unfold eqAll
  rw [Bool.and_eq_false_iff]
  right
  rw [List.all_eq_false]
  refine ⟨k, List.mem_range.2 hk, ?_⟩
  rw [List.getD_eq_getElem?_getD, List.getD_eq_getElem?_getD, List.getElem?_eq_getElem hk, List.getElem?_eq_getElem hm]
  simp [h]
theorem eqAll_yes {e : RelD → RelD → Bool} {l m : List RelD} (hl : l.length = m.length) (h : ∀ k (hk : k < l.length) (hm : k < m.length), e l[k] m[k] = true) : eqAll e l m = true := by
  unfold eqAll
  rw [decide_eq_true hl, Bool.true_and, List.all_eq_true]
  intro k hk
  have hk := List.mem_range.1 hk
  have hm : k < m.length := by omega
  rw [List.getD_eq_getElem?_getD, List.getD_eq_getElem?_getD, List.getElem?_eq_getElem hk, List.getElem?_eq_getElem hm]
  exact h k hk hm
theorem eqAll_eq {l m : List RelD} : eqAll (fun x y => decide (x = y)) l m = decide (l = m) := by
  by_cases h : l = m
  · subst h
    rw [decide_eq_true rfl]
    exact eqAll_yes rfl fun k _ _ => decide_eq_true rfl
  · rw [decide_eq_false h]
    by_cases hl : l.length = m.length
    · cases he : eqAll (fun x y => decide (x = y)) l m with
      | false => rfl
      | true =>
        exfalso
        apply h
        unfold eqAll at he
        rw [Bool.and_eq_true, List.all_eq_true] at he
        apply List.ext_getElem hl
        intro k h1 h2
        have := he.2 k (List.mem_range.2 h1)
        rw [List.getD_eq_getElem?_getD, List.getD_eq_getElem?_getD, List.getElem?_eq_getElem h1, List.getElem?_eq_getElem h2] at this
        simpa using this
    · exact eqAll_len hl

set_option maxHeartbeats 1000000 in
theorem equalFuncRelS_any (p : RelD → RelD → Bool) (l m : List RelD) (v u : Value) (f : FuncId) (first cap : Array Value) (w : World) (hr : RdRelS w v l) (hs : RdRelS w u m)
    (hcall : ∀ xs w, (callFunc f xs).run Tryz.prog w = .ok (.enter f xs) w)
    (hf : ∀ x y, ∀ vx vy w', Ext w w' → RdRel w' vx x → RdRel w' vy y → Calls Tryz.prog f (first ++ #[vx, vy] ++ cap) w' fun e w'' => e = .returned (.bool (p x y)) ∧ Ext w' w'') :
    Calls Tryz.prog 83 #[v, u, .func (.func f) first cap] w fun e w' => e = .returned (.bool (eqAll p l m)) ∧ Ext w w' := by
  obtain ⟨a, b, off, c, ts, rfl, hlc, hcm, ha, hc⟩ := hr
  obtain ⟨a', b', off', c', ts', rfl, hlc', hcm', ha', hc'⟩ := hs
  have HF := Lib.hid hf
  clear hf
  by_cases hlen : l.length = m.length
  · have hb : ((l.length : Int) != (m.length : Int)) = false := by simp [hlen]
    have HL := Lib.hid hlen
    go_enter Tryz.func83, Tryz.ntmps83
    go_wp2_with fail
    go_loopw [17] (fun i wr => ∃ k : Nat, k ≤ l.length ∧ i = .int .i64 k ∧ Ext w wr ∧ Hid (∀ j (hj : j < l.length) (hm : j < m.length), j < k → p l[j] m[j] = true)) (fun i _ => l.length - (intOf i).toNat)
    case atStart => exact ⟨0, by omega, rfl, Ext.refl' _, Lib.hid fun j _ _ h => by omega⟩
    case round =>
      obtain ⟨k, hk, rfl, hE, HT⟩ := hrel
      have hlen2 : m.length ≤ l.length ∧ l.length ≤ m.length := by omega
      clear hlen
      by_cases hkl : k < l.length
      · have hkm : k < m.length := by omega
        obtain rfl := ha (by omega)
        obtain rfl := ha' (by omega)
        obtain ⟨k0, k1, k2⟩ := hc k hkl
        obtain ⟨g0, g1, g2⟩ := hc' k hkm
        replace k0 := hE.cell k0
        replace k1 := hE.cell k1
        replace g0 := hE.cell g0
        replace g1 := hE.cell g1
        have q0 := lt_of_cell g0
        have hE2 : Ext wr ((wr.alloc (.cells #[.int .i64 l[k].1, ts k] 35)).alloc (.cells #[.int .i64 m[k].1, ts' k] 35)) := ((Ext.refl' wr).alloc (Nat.le_refl _) _).alloc (by simp) _
        have hcc := HF.out l[k] m[k] (.agg #[.int .i64 l[k].1, ts k]) (.agg #[.int .i64 m[k].1, ts' k]) _ (hE.tr hE2) ⟨_, rfl, (k2.ext hE).ext hE2⟩ ⟨_, rfl, (g2.ext hE).ext hE2⟩
        generalize ts k = y at k1 k2 hE2 hcc
        generalize ts' k = y' at g1 g2 hE2 hcc
        obtain ⟨ya, yc, rfl⟩ := k2.form
        obtain ⟨za, zc, rfl⟩ := g2.form
        go_wp2_with fail
        cases hp : p l[k] m[k] with
        | true =>
          rw [hp] at hcc
          refine (by simpa using hcc : Calls _ _ _ _ _).mono ?_
          rintro e w2 ⟨rfl, hE3⟩
          have HI := Lib.hid (show ∀ j (hj : j < l.length) (hm : j < m.length), j < k + 1 → p l[j] m[j] = true from fun j hj hm h => by
            rcases Nat.lt_or_ge j k with h1 | h1
            · exact HT.out j hj hm h1
            · have : j = k := by omega
              subst this
              exact hp)
          clear hp
          go_wp2_with fail
          go_roundw
          case rel => exact ⟨k + 1, by omega, by go_num, (hE.tr hE2).tr hE3, HI⟩
          case measure => simp [intOf]; omega
        | false =>
          rw [hp] at hcc
          refine (by simpa using hcc : Calls _ _ _ _ _).mono ?_
          rintro e w2 ⟨rfl, hE3⟩
          have HI := Lib.hid (eqAll_no hkl hkm hp)
          clear hp
          go_wp2_with fail
          go_ret
          exact ⟨ret_bool HI.out.symm, (hE.tr hE2).tr hE3⟩
      · have HI := Lib.hid (eqAll_yes HL.out fun j hj hm => HT.out j hj hm (by omega))
        go_wp2_with fail
        go_ret
        exact ⟨ret_bool HI.out.symm, hE⟩
  · have hb : ((l.length : Int) != (m.length : Int)) = true := by simp; omega
    have HN := Lib.hid (eqAll_len (e := p) hlen)
    clear hlen
    go_enter Tryz.func83, Tryz.ntmps83
    go_wp2_with fail
    go_ret
    exact ⟨ret_bool HN.out.symm, Ext.refl' _⟩

set_option maxHeartbeats 400000 in
theorem indexFuncRelS_any (p : RelD → Bool) (l : List RelD) (v : Value) (f : FuncId) (first cap : Array Value) (w : World) (hr : RdRelS w v l)
    (hcall : ∀ xs w, (callFunc f xs).run Tryz.prog w = .ok (.enter f xs) w)
    (hf : ∀ a ∈ l, ∀ va w', Ext w w' → RdRel w' va a → Calls Tryz.prog f (first ++ #[va] ++ cap) w' fun e w'' => e = .returned (.bool (p a)) ∧ Ext w' w'') :
    Calls Tryz.prog 137 #[v, .func (.func f) first cap] w fun e w' => e = .returned (.int .i64 (idx p l)) ∧ Ext w w' := by
  obtain ⟨a, b, off, c, ts, rfl, hlc, hcm, ha, hc⟩ := hr
  have HF := Lib.hid hf
  clear hf
  go_enter Tryz.func137, Tryz.ntmps137
  go_wp2_with fail
  go_loopw [8] (fun i wr => ∃ k : Nat, k ≤ l.length ∧ i = .int .i64 k ∧ Ext w wr ∧ (l.take k).any p = false) (fun i _ => l.length - (intOf i).toNat)
  case atStart => exact ⟨0, by omega, rfl, Ext.refl' _, rfl⟩
  case round =>
    obtain ⟨k, hk, rfl, hE, ht⟩ := hrel
    have HT := Lib.hid ht
    clear ht
    by_cases hkl : k < l.length
    · obtain rfl := ha (by omega)
      obtain ⟨k0, k1, k2⟩ := hc k hkl
      replace k0 := hE.cell k0
      replace k1 := hE.cell k1
      have hcc := HF.out l[k] (List.getElem_mem hkl) (.agg #[.int .i64 l[k].1, ts k]) wr hE ⟨_, rfl, k2.ext hE⟩
      generalize ts k = y at k1 k2 hcc
      go_wp2_with fail
      cases hp : p l[k] with
      | true =>
        rw [hp] at hcc
        refine (by simpa using hcc : Calls _ _ _ _ _).mono ?_
        rintro e w2 ⟨rfl, hE2⟩
        have HI := Lib.hid (idx_here p l k hkl HT.out hp)
        clear hp
        go_wp2_with fail
        go_ret
        exact ⟨ret_int HI.out.symm, hE.tr hE2⟩
      | false =>
        rw [hp] at hcc
        refine (by simpa using hcc : Calls _ _ _ _ _).mono ?_
        rintro e w2 ⟨rfl, hE2⟩
        have HI := Lib.hid (show (l.take (k + 1)).any p = false from by rw [any_take_succ p l k hkl, HT.out, hp]; rfl)
        clear hp
        have hE3 := hE.tr hE2
        go_wp2_with fail
        go_roundw
        case rel => exact ⟨k + 1, by omega, by go_num, hE3, HI.out⟩
        case measure => simp [intOf]; omega
    · have HI := Lib.hid (idx_none p l (by have := HT.out; rwa [show k = l.length by omega, List.take_length] at this))
      go_wp2_with fail
      go_ret
      exact ⟨ret_int HI.out.symm, hE⟩
set_option maxHeartbeats 400000 in
theorem containsFuncRelS_any (p : RelD → Bool) (l : List RelD) (v : Value) (f : FuncId) (first cap : Array Value) (w : World) (hr : RdRelS w v l)
    (hcall : ∀ xs w, (callFunc f xs).run Tryz.prog w = .ok (.enter f xs) w)
    (hf : ∀ a ∈ l, ∀ va w', Ext w w' → RdRel w' va a → Calls Tryz.prog f (first ++ #[va] ++ cap) w' fun e w'' => e = .returned (.bool (p a)) ∧ Ext w' w'') :
    Calls Tryz.prog 84 #[v, .func (.func f) first cap] w fun e w' => e = .returned (.bool (l.any p)) ∧ Ext w w' := by
  have HC := Lib.hid (idx_any p l)
  have HF := Lib.hid hf
  clear hf
  go_enter Tryz.func84, Tryz.ntmps84
  go_wp2_with (go_at_call 137; refine (indexFuncRelS_any p l _ _ _ _ _ hr hcall HF.out).mono ?_; rintro e w' ⟨rfl, hE⟩)
  go_ret
  exact ⟨ret_bool HC.out, hE⟩
def SSameTemplate (t u : Int × List RelD) : Bool := decide (t = u)
def SValidTemplate (t : Int × List RelD) : Bool := inB t.1 1 4 && (decide (t.2.length ≤ 6) && !(t.2.any fun r => !SValidRel t.1 r))

set_option maxHeartbeats 1000000 in
theorem implSameTemplate_any (f : Int × List RelD) (v : Value) (g : Int × List RelD) (u : Value) (w : World) (hr : RdTm w v f) (hs : RdTm w u g) (_ : szTm f ≤ 1048576) (_ : szTm g ≤ 1048576) :
    Calls Tryz.prog 33 #[v, u] w fun e w' => e = .returned (.bool (SSameTemplate f g)) ∧ Ext w w' := by
  obtain ⟨tv, rfl, hr'⟩ := hr
  obtain ⟨ta, tc, rfl⟩ := hr'.form
  obtain ⟨tu, rfl, hs'⟩ := hs
  obtain ⟨ua, uc, rfl⟩ := hs'.form
  have hE1 : Ext w ((w.alloc (.cells #[.int .i64 f.1, .slice ta f.2.length tc] 24)).alloc (.cells #[.int .i64 g.1, .slice ua g.2.length uc] 24)) := ((Ext.refl' w).alloc (Nat.le_refl _) _).alloc (by simp) _
  by_cases h1 : f.1 = g.1
  · have hb : (f.1 == g.1) = true := by simp [h1]
    have HF := Lib.hid (show SSameTemplate f g = decide (f.2 = g.2) from by unfold SSameTemplate; rw [decide_eq_decide]; exact ⟨fun h => by rw [h], fun h => Prod.ext h1 h⟩)
    clear h1
    go_enter Tryz.func33, Tryz.ntmps33
    go_wp2_with fail
    refine (equalFuncRelS_any (fun x y => decide (x = y)) f.2 g.2 _ _ 27 #[] #[] _ (hr'.ext hE1) (hs'.ext hE1) Tryz.call27 ?_).mono ?_
    · intro x y vx vy w' _ hx hy
      simp only [List.append_toArray, List.nil_append, List.append_nil]
      exact implSameRel_ok x _ y _ _ hx hy
    rintro e w2 ⟨rfl, hE⟩
    rw [eqAll_eq]
    go_wp2_with fail
    go_ret
    exact ⟨ret_bool HF.out.symm, hE1.tr hE⟩
  · have hb : (f.1 == g.1) = false := by simp [h1]
    have HF := Lib.hid (show SSameTemplate f g = false from decide_eq_false fun h => h1 (by rw [h]))
    clear h1
    go_enter Tryz.func33, Tryz.ntmps33
    go_wp2_with fail
    go_ret
    exact ⟨ret_bool HF.out.symm, hE1⟩
set_option maxHeartbeats 1000000 in
set_option maxRecDepth 100000 in
theorem specSameTemplate_any (f : Int × List RelD) (v : Value) (g : Int × List RelD) (u : Value) (w : World) (hr : RdTm w v f) (hs : RdTm w u g) (_ : szTm f ≤ 1048576) (_ : szTm g ≤ 1048576) :
    Calls Tryz.prog 32 #[v, u] w fun e w' => e = .returned (.bool (SSameTemplate f g)) ∧ Ext w w' := by
  obtain ⟨tv, rfl, hr'⟩ := hr
  obtain ⟨ta, tc, rfl⟩ := hr'.form
  obtain ⟨tu, rfl, hs'⟩ := hs
  obtain ⟨ua, uc, rfl⟩ := hs'.form
  have hE1 : Ext w ((w.alloc (.cells #[.int .i64 f.1, .slice ta f.2.length tc] 24)).alloc (.cells #[.int .i64 g.1, .slice ua g.2.length uc] 24)) := ((Ext.refl' w).alloc (Nat.le_refl _) _).alloc (by simp) _
  by_cases h1 : f.1 = g.1
  · have hb : (f.1 != g.1) = false := by simp [h1]
    have HF := Lib.hid (show SSameTemplate f g = decide (f.2 = g.2) from by unfold SSameTemplate; rw [decide_eq_decide]; exact ⟨fun h => by rw [h], fun h => Prod.ext h1 h⟩)
    clear h1
    by_cases hlen : f.2.length = g.2.length
    · have hb2 : ((f.2.length : Int) != (g.2.length : Int)) = false := by simp [hlen]
      have HL := Lib.hid hlen
      obtain ⟨a, b, off, c, ts, hsl, hlc, hcm, ha, hc⟩ := hr'
      simp only [Value.slice.injEq] at hsl
      obtain ⟨rfl, -, rfl⟩ := hsl
      obtain ⟨a', b', off', c', ts', hsl, hlc', hcm', ha', hc'⟩ := hs'
      simp only [Value.slice.injEq] at hsl
      obtain ⟨rfl, -, rfl⟩ := hsl
      have hlen2 : g.2.length ≤ f.2.length ∧ f.2.length ≤ g.2.length := by omega
      clear hlen
      go_enter Tryz.func32, Tryz.ntmps32
      go_wp2_with fail
      have c0 : ((w.alloc (.cells #[.int .i64 f.1, .slice ta f.2.length tc] 24)).alloc (.cells #[.int .i64 g.1, .slice ua g.2.length uc] 24)).cell? ⟨w.heap.size, 0, none⟩ = some (.int .i64 f.1) := by simp [go_sem]
      have c1 : ((w.alloc (.cells #[.int .i64 f.1, .slice ta f.2.length tc] 24)).alloc (.cells #[.int .i64 g.1, .slice ua g.2.length uc] 24)).cell? ⟨w.heap.size, 1, none⟩ = some (.slice ta f.2.length tc) := by simp [go_sem]
      have e0 : ((w.alloc (.cells #[.int .i64 f.1, .slice ta f.2.length tc] 24)).alloc (.cells #[.int .i64 g.1, .slice ua g.2.length uc] 24)).cell? ⟨w.heap.size + 1, 0, none⟩ = some (.int .i64 g.1) := by simp [go_sem]
      have e1 : ((w.alloc (.cells #[.int .i64 f.1, .slice ta f.2.length tc] 24)).alloc (.cells #[.int .i64 g.1, .slice ua g.2.length uc] 24)).cell? ⟨w.heap.size + 1, 1, none⟩ = some (.slice ua g.2.length uc) := by simp [go_sem]
      generalize (w.alloc (.cells #[.int .i64 f.1, .slice ta f.2.length tc] 24)).alloc (.cells #[.int .i64 g.1, .slice ua g.2.length uc] 24) = w1 at hE1 c0 c1 e0 e1 ⊢
      go_loopw [5] (fun i wr => ∃ k : Nat, k ≤ f.2.length ∧ i = .int .i64 k ∧ Ext w1 wr ∧ Hid (f.2.take k = g.2.take k)) (fun i _ => f.2.length - (intOf i).toNat)
      case atStart => exact ⟨0, by omega, rfl, Ext.refl' _, Lib.hid rfl⟩
      case round =>
        obtain ⟨k, hk, rfl, hE, HT⟩ := hrel
        have hEE := hE1.tr hE
        replace c1 := hE.cell c1
        replace e1 := hE.cell e1
        replace c0 := hE.cell c0
        replace e0 := hE.cell e0
        by_cases hkl : k < f.2.length
        · have hkm : k < g.2.length := by omega
          obtain rfl := ha (by omega)
          obtain rfl := ha' (by omega)
          obtain ⟨k0, k1, k2⟩ := hc k hkl
          obtain ⟨g0, g1, g2⟩ := hc' k hkm
          have hp : PtRel wr (.pointer (some ⟨b, off + k * 2, none⟩)) f.2[k] := ⟨_, _, _, rfl, hEE.cell k0, hEE.cell k1, k2.ext hEE⟩
          have hq : PtRel wr (.pointer (some ⟨b', off' + k * 2, none⟩)) g.2[k] := ⟨_, _, _, rfl, hEE.cell g0, hEE.cell g1, g2.ext hEE⟩
          by_cases hlk : f.2[k] = g.2[k]
          · have hT : decide (f.2[k] = g.2[k]) = true := decide_eq_true hlk
            have HK := Lib.hid (show f.2.take (k + 1) = g.2.take (k + 1) from by rw [List.take_succ_eq_append_getElem hkl, List.take_succ_eq_append_getElem hkm, HT.out, hlk])
            clear hlk
            go_wp2_with fail
            go_wp2_with fail
            refine region_sp [] [] [SP.val (.pointer (some ⟨w.heap.size, 1, none⟩)), SP.val (.slice (some ⟨b, off, none⟩) f.2.length tc), SP.val (.int .i64 (k : Nat)), SP.val (.pointer (some ⟨b, off + k * 2, none⟩)), SP.val (.pointer (some ⟨(w.heap.size + 1), 1, none⟩)), SP.val (.slice (some ⟨b', off', none⟩) g.2.length uc), SP.val (.int .i64 (k : Nat)), SP.val (.pointer (some ⟨b', off' + k * 2, none⟩)), SP.val (.bool true), SP.val (.bool false)] (by kernel_rfl) (fun _ d _ _ _ h => by cases d <;> exact h) (by kernel_rfl) (by kernel_rfl)
              (.cons (fun vs y hY => Step.fieldAddr ⟨w.heap.size, 0, none⟩ rfl rfl rfl (by simp [go_sem]) rfl) <|
               .cons (fun vs y hY g0_0 => Step.load ⟨w.heap.size, 1, none⟩ rfl rfl g0_0 (by simp [go_sem, hY.cell c1]) rfl) <|
               .cons (fun vs y hY => Step.move rfl rfl rfl rfl) <|
               .cons (fun vs y hY g1_0 g2_1 => Step.indexAtP (n := .int .i64 (k : Nat)) ⟨b, off + k * 2, none⟩ rfl rfl g1_0 g2_1 (by simp [go_sem, Instr.indexAt, Addr.add, hkl] <;> omega) rfl) <|
               .cons (fun vs y hY => Step.fieldAddr ⟨(w.heap.size + 1), 0, none⟩ rfl rfl rfl (by simp [go_sem]) rfl) <|
               .cons (fun vs y hY g4_0 => Step.load ⟨(w.heap.size + 1), 1, none⟩ rfl rfl g4_0 (by simp [go_sem, hY.cell e1]) rfl) <|
               .cons (fun vs y hY => Step.move rfl rfl rfl rfl) <|
               .cons (fun vs y hY g5_0 g6_1 => Step.indexAtP (n := .int .i64 (k : Nat)) ⟨b', off' + k * 2, none⟩ rfl rfl g5_0 g6_1 (by simp [go_sem, Instr.indexAt, Addr.add, hkm] <;> omega) rfl) <|
               .cons (fun vs y hY g3_0 g7_1 => Step.call Tryz.call64 rfl rfl [vs 3, vs 7] rfl rfl (by rw [show vs 3 = _ from g3_0, show vs 7 = _ from g7_1]; exact (Calls.spq (l01Same_any _ _ _ _ _ (hp.ext hY) (hq.ext hY)) (by rw [hT])))) <|
               .cons (fun vs y hY g8_0 => Step.not rfl rfl g8_0 rfl) <|
               .nil) ?_
            intro vs w2 hC hL
            have r0 : vs 0 = _ := hL 0 (by decide) rfl
            have r1 : vs 1 = _ := hL 1 (by decide) rfl
            have r2 : vs 2 = _ := hL 2 (by decide) rfl
            have r3 : vs 3 = _ := hL 3 (by decide) rfl
            have r4 : vs 4 = _ := hL 4 (by decide) rfl
            have r5 : vs 5 = _ := hL 5 (by decide) rfl
            have r6 : vs 6 = _ := hL 6 (by decide) rfl
            have r7 : vs 7 = _ := hL 7 (by decide) rfl
            have r8 : vs 8 = _ := hL 8 (by decide) rfl
            have r9 : vs 9 = _ := hL 9 (by decide) rfl
            clear hL
            simp only [putAll, Act.put, List.contains_nil, cond_false, List.setIfInBounds_toArray, List.set_cons_succ, List.set_cons_zero, List.filterMap_nil, r0, r1, r2, r3, r4, r5, r6, r7, r8, r9]
            clear r0 r1 r2 r3 r4 r5 r6 r7 r8 r9
            go_wp2_with fail
            go_roundw
            case rel => exact ⟨k + 1, by omega, by go_num, hE.tr hC, HK⟩
            case measure => simp [intOf]; omega
          · have hT : decide (f.2[k] = g.2[k]) = false := decide_eq_false hlk
            have HN := Lib.hid (show SSameTemplate f g = false from decide_eq_false fun h => hlk (by subst h; rfl))
            clear hlk
            go_wp2_with fail
            go_wp2_with fail
            refine region_sp [] [] [SP.val (.pointer (some ⟨w.heap.size, 1, none⟩)), SP.val (.slice (some ⟨b, off, none⟩) f.2.length tc), SP.val (.int .i64 (k : Nat)), SP.val (.pointer (some ⟨b, off + k * 2, none⟩)), SP.val (.pointer (some ⟨(w.heap.size + 1), 1, none⟩)), SP.val (.slice (some ⟨b', off', none⟩) g.2.length uc), SP.val (.int .i64 (k : Nat)), SP.val (.pointer (some ⟨b', off' + k * 2, none⟩)), SP.val (.bool false), SP.val (.bool true)] (by kernel_rfl) (fun _ d _ _ _ h => by cases d <;> exact h) (by kernel_rfl) (by kernel_rfl)
              (.cons (fun vs y hY => Step.fieldAddr ⟨w.heap.size, 0, none⟩ rfl rfl rfl (by simp [go_sem]) rfl) <|
               .cons (fun vs y hY g0_0 => Step.load ⟨w.heap.size, 1, none⟩ rfl rfl g0_0 (by simp [go_sem, hY.cell c1]) rfl) <|
               .cons (fun vs y hY => Step.move rfl rfl rfl rfl) <|
               .cons (fun vs y hY g1_0 g2_1 => Step.indexAtP (n := .int .i64 (k : Nat)) ⟨b, off + k * 2, none⟩ rfl rfl g1_0 g2_1 (by simp [go_sem, Instr.indexAt, Addr.add, hkl] <;> omega) rfl) <|
               .cons (fun vs y hY => Step.fieldAddr ⟨(w.heap.size + 1), 0, none⟩ rfl rfl rfl (by simp [go_sem]) rfl) <|
               .cons (fun vs y hY g4_0 => Step.load ⟨(w.heap.size + 1), 1, none⟩ rfl rfl g4_0 (by simp [go_sem, hY.cell e1]) rfl) <|
               .cons (fun vs y hY => Step.move rfl rfl rfl rfl) <|
               .cons (fun vs y hY g5_0 g6_1 => Step.indexAtP (n := .int .i64 (k : Nat)) ⟨b', off' + k * 2, none⟩ rfl rfl g5_0 g6_1 (by simp [go_sem, Instr.indexAt, Addr.add, hkm] <;> omega) rfl) <|
               .cons (fun vs y hY g3_0 g7_1 => Step.call Tryz.call64 rfl rfl [vs 3, vs 7] rfl rfl (by rw [show vs 3 = _ from g3_0, show vs 7 = _ from g7_1]; exact (Calls.spq (l01Same_any _ _ _ _ _ (hp.ext hY) (hq.ext hY)) (by rw [hT])))) <|
               .cons (fun vs y hY g8_0 => Step.not rfl rfl g8_0 rfl) <|
               .nil) ?_
            intro vs w2 hC hL
            have r0 : vs 0 = _ := hL 0 (by decide) rfl
            have r1 : vs 1 = _ := hL 1 (by decide) rfl
            have r2 : vs 2 = _ := hL 2 (by decide) rfl
            have r3 : vs 3 = _ := hL 3 (by decide) rfl
            have r4 : vs 4 = _ := hL 4 (by decide) rfl
            have r5 : vs 5 = _ := hL 5 (by decide) rfl
            have r6 : vs 6 = _ := hL 6 (by decide) rfl
            have r7 : vs 7 = _ := hL 7 (by decide) rfl
            have r8 : vs 8 = _ := hL 8 (by decide) rfl
            have r9 : vs 9 = _ := hL 9 (by decide) rfl
            clear hL
            simp only [putAll, Act.put, List.contains_nil, cond_false, List.setIfInBounds_toArray, List.set_cons_succ, List.set_cons_zero, List.filterMap_nil, r0, r1, r2, r3, r4, r5, r6, r7, r8, r9]
            clear r0 r1 r2 r3 r4 r5 r6 r7 r8 r9
            go_wp2_with fail
            go_ret
            exact ⟨ret_bool HN.out.symm, hEE.tr hC⟩
        · have HN := Lib.hid (show SSameTemplate f g = true from by
            rw [HF.out]
            have := HT.out
            rw [show k = f.2.length by omega, List.take_length, HL.out, List.take_length] at this
            exact decide_eq_true this)
          go_wp2_with fail
          go_ret
          exact ⟨ret_bool HN.out.symm, hEE⟩
    · have hb2 : ((f.2.length : Int) != (g.2.length : Int)) = true := by simp; omega
      have HN := Lib.hid (show SSameTemplate f g = false from decide_eq_false fun h => hlen (by rw [h]))
      clear hlen
      go_enter Tryz.func32, Tryz.ntmps32
      go_wp2_with fail
      go_ret
      exact ⟨ret_bool HN.out.symm, hE1⟩
  · have hb : (f.1 != g.1) = true := by simp [h1]
    have HF := Lib.hid (show SSameTemplate f g = false from decide_eq_false fun h => h1 (by rw [h]))
    clear h1
    go_enter Tryz.func32, Tryz.ntmps32
    go_wp2_with fail
    go_ret
    exact ⟨ret_bool HF.out.symm, hE1⟩
set_option maxHeartbeats 1000000 in
theorem implValidTemplate_ok (t : Int × List RelD) (v : Value) (w : World) (hr : RdTm w v t) :
    Calls Tryz.prog 34 #[v] w fun e w' => e = .returned (.bool (SValidTemplate t)) ∧ Ext w w' := by
  have hmf : ∀ (fn : Fn) (first cap : Array Value) (w : World), (Instr.makeFunc fn first cap).run Tryz.prog w = .ok (.func fn first cap) w := fun _ _ _ _ => rfl
  obtain ⟨tv, rfl, hr'⟩ := hr
  obtain ⟨ta, tc, rfl⟩ := hr'.form
  have hE1 : Ext w (w.alloc (.cells #[.int .i64 t.1, .slice ta t.2.length tc] 24)) := (Ext.refl' w).alloc (Nat.le_refl _) _
  have hcell : (w.alloc (.cells #[.int .i64 t.1, .slice ta t.2.length tc] 24)).cell? ⟨w.heap.size, 0, none⟩ = some (.int .i64 t.1) := by simp [go_sem]
  cases h1 : inB t.1 1 4 with
  | false =>
    have HO := Lib.hid (show SValidTemplate t = false from by unfold SValidTemplate; rw [h1]; rfl)
    go_enter Tryz.func34, Tryz.ntmps34
    go_wp2_with (go_at_call 61; refine (isSize_any _ _).mono ?_; rintro e w' ⟨rfl, rfl⟩; rw [h1])
    go_ret
    exact ⟨ret_bool HO.out.symm, hE1⟩
  | true =>
    by_cases h2 : t.2.length ≤ 6
    · have hb : decide ((t.2.length : Int) ≤ 6) = true := by simp; omega
      have HO := Lib.hid (show (!(t.2.any fun r => !SValidRel t.1 r)) = SValidTemplate t from by unfold SValidTemplate; rw [h1, decide_eq_true h2]; rfl)
      go_enter Tryz.func34, Tryz.ntmps34
      go_wp2_with fail
      refine (isSize_any _ _).mono ?_
      rintro e w' ⟨rfl, rfl⟩
      rw [h1]
      go_wp2_with fail
      refine (containsFuncRelS_any (fun r => !SValidRel t.1 r) t.2 _ _ _ _ _ (hr'.ext hE1) Tryz.call85 ?_).mono ?_
      · intro g _ vg w' hEc hg
        have hcell := hEc.cell hcell
        obtain ⟨tv, rfl, hg'⟩ := hg
        obtain ⟨ga, gc, rfl⟩ := hg'.form
        have hE2 : Ext w' (w'.alloc (.cells #[.int .i64 g.1, .slice ga g.2.length gc] 35)) := (Ext.refl' w').alloc (Nat.le_refl _) _
        have hb := lt_of_cell hcell
        simp only [List.append_toArray, List.nil_append, List.cons_append]
        go_enter Tryz.func85, Tryz.ntmps85
        go_wp2_with fail
        refine (implValidRel_ok t.1 g _ _ ⟨_, rfl, hg'.ext hE2⟩).mono ?_
        rintro e w3 ⟨rfl, hE3⟩
        go_wp2_with fail
        go_ret
        exact ⟨rfl, hE2.tr hE3⟩
      rintro e w2 ⟨rfl, hE2⟩
      go_wp2_with fail
      go_ret
      exact ⟨ret_bool HO.out, hE1.tr hE2⟩
    · have hb : decide ((t.2.length : Int) ≤ 6) = false := by simp; omega
      have HO := Lib.hid (show SValidTemplate t = false from by unfold SValidTemplate; rw [decide_eq_false h2, h1]; rfl)
      go_enter Tryz.func34, Tryz.ntmps34
      go_wp2_with fail
      refine (isSize_any _ _).mono ?_
      rintro e w' ⟨rfl, rfl⟩
      rw [h1]
      go_wp2_with fail
      go_ret
      exact ⟨ret_bool HO.out.symm, hE1⟩
set_option maxHeartbeats 400000 in
theorem implValidTemplate_any (t : Int × List RelD) (v : Value) (w : World) (hr : RdTm w v t) (_ : szTm t ≤ 1048576) :
    Calls Tryz.prog 34 #[v] w fun e w' => e = .returned (.bool (SValidTemplate t)) ∧ Ext w w' := implValidTemplate_ok t v w hr
set_option maxHeartbeats 1000000 in
set_option maxRecDepth 100000 in
theorem l01Template_any (t : Int × List RelD) (v : Value) (w : World) (hr : PtTm w v t) :
    Calls Tryz.prog 42 #[v] w fun e w' => e = .returned (.bool (SValidTemplate t)) ∧ Ext w w' := by
  obtain ⟨b0, off0, tv, rfl, c0, c1, hr'⟩ := hr
  obtain ⟨a, b, off, c, ts, rfl, hlc, hcm, ha, hc⟩ := hr'
  go_enter Tryz.func42, Tryz.ntmps42
  go_wp2_with fail
  go_loopw [3] (fun i wr => ∃ k : Nat, k ≤ t.2.length ∧ i = .int .i64 k ∧ Ext w wr ∧ Hid ((t.2.take k).any (fun r => !SValidRel t.1 r) = false)) (fun i _ => t.2.length - (intOf i).toNat)
  case atStart => exact ⟨0, by omega, rfl, Ext.refl' _, Lib.hid rfl⟩
  case round =>
    obtain ⟨k, hk, rfl, hE, HT⟩ := hrel
    replace c0 := hE.cell c0
    replace c1 := hE.cell c1
    by_cases hkl : k < t.2.length
    · obtain rfl := ha (by omega)
      obtain ⟨k0, k1, k2⟩ := hc k hkl
      have hp : PtRel wr (.pointer (some ⟨b, off + k * 2, none⟩)) t.2[k] := ⟨_, _, _, rfl, hE.cell k0, hE.cell k1, k2.ext hE⟩
      cases hT : SValidRel t.1 t.2[k] with
      | true =>
        have HK := Lib.hid (show (t.2.take (k + 1)).any (fun r => !SValidRel t.1 r) = false from by rw [any_take_succ _ t.2 k hkl, HT.out, hT]; rfl)
        go_wp2_with fail
        go_wp2_with fail
        refine region_sp [] [] [SP.val (.pointer (some ⟨b0, off0, none⟩)), SP.val (.pointer (some ⟨b0, off0, none⟩)), SP.val (.pointer (some ⟨b0, off0, none⟩)), SP.val (.int .i64 t.1), SP.val (.pointer (some ⟨b0, off0, none⟩)), SP.val (.pointer (some ⟨b0, off0, none⟩)), SP.val (.pointer (some ⟨b0, off0 + 1, none⟩)), SP.val (.slice (some ⟨b, off, none⟩) t.2.length c), SP.val (.int .i64 (k : Nat)), SP.val (.pointer (some ⟨b, off + k * 2, none⟩)), SP.val (.bool true), SP.val (.bool false)] (by kernel_rfl) (fun _ d _ _ _ h => by cases d <;> exact h) (by kernel_rfl) (by kernel_rfl)
          (.cons (fun vs y hY => Step.move rfl rfl rfl rfl) <|
           .cons (fun vs y hY g0_0 => Step.nilCheck rfl rfl g0_0 rfl) <|
           .cons (fun vs y hY g1_0 => Step.fieldAddr ⟨b0, off0, none⟩ rfl rfl g1_0 (by simp [go_sem]) rfl) <|
           .cons (fun vs y hY g2_0 => Step.load ⟨b0, off0, none⟩ rfl rfl g2_0 (by simp [go_sem, hY.cell c0]) rfl) <|
           .cons (fun vs y hY => Step.move rfl rfl rfl rfl) <|
           .cons (fun vs y hY g4_0 => Step.nilCheck rfl rfl g4_0 rfl) <|
           .cons (fun vs y hY g5_0 => Step.fieldAddr ⟨b0, off0, none⟩ rfl rfl g5_0 (by simp [go_sem]) rfl) <|
           .cons (fun vs y hY g6_0 => Step.load ⟨b0, off0 + 1, none⟩ rfl rfl g6_0 (by simp [go_sem, hY.cell c1]) rfl) <|
           .cons (fun vs y hY => Step.move rfl rfl rfl rfl) <|
           .cons (fun vs y hY g7_0 g8_1 => Step.indexAtP (n := .int .i64 (k : Nat)) ⟨b, off + k * 2, none⟩ rfl rfl g7_0 g8_1 (by simp [go_sem, Instr.indexAt, Addr.add, hkl] <;> omega) rfl) <|
           .cons (fun vs y hY g3_0 g9_1 => Step.call Tryz.call67 rfl rfl [vs 3, vs 9] rfl rfl (by rw [show vs 3 = _ from g3_0, show vs 9 = _ from g9_1]; exact (Calls.spq (l01Ok_any _ _ _ _ (hp.ext hY)) (by rw [hT])))) <|
           .cons (fun vs y hY g10_0 => Step.not rfl rfl g10_0 rfl) <|
           .nil) ?_
        intro vs w2 hC hL
        have r0 : vs 0 = _ := hL 0 (by decide) rfl
        have r1 : vs 1 = _ := hL 1 (by decide) rfl
        have r2 : vs 2 = _ := hL 2 (by decide) rfl
        have r3 : vs 3 = _ := hL 3 (by decide) rfl
        have r4 : vs 4 = _ := hL 4 (by decide) rfl
        have r5 : vs 5 = _ := hL 5 (by decide) rfl
        have r6 : vs 6 = _ := hL 6 (by decide) rfl
        have r7 : vs 7 = _ := hL 7 (by decide) rfl
        have r8 : vs 8 = _ := hL 8 (by decide) rfl
        have r9 : vs 9 = _ := hL 9 (by decide) rfl
        have r10 : vs 10 = _ := hL 10 (by decide) rfl
        have r11 : vs 11 = _ := hL 11 (by decide) rfl
        clear hL
        simp only [putAll, Act.put, List.contains_nil, cond_false, List.setIfInBounds_toArray, List.set_cons_succ, List.set_cons_zero, List.filterMap_nil, r0, r1, r2, r3, r4, r5, r6, r7, r8, r9, r10, r11]
        clear r0 r1 r2 r3 r4 r5 r6 r7 r8 r9 r10 r11
        go_wp2_with fail
        go_roundw
        case rel => exact ⟨k + 1, by omega, by go_num, hE.tr hC, HK⟩
        case measure => simp [intOf]; omega
      | false =>
        have HN := Lib.hid (show SValidTemplate t = false from by
          unfold SValidTemplate
          rw [show (t.2.any fun r => !SValidRel t.1 r) = true from List.any_eq_true.2 ⟨_, List.getElem_mem hkl, by simp [hT]⟩]
          simp)
        go_wp2_with fail
        go_wp2_with fail
        refine region_sp [] [] [SP.val (.pointer (some ⟨b0, off0, none⟩)), SP.val (.pointer (some ⟨b0, off0, none⟩)), SP.val (.pointer (some ⟨b0, off0, none⟩)), SP.val (.int .i64 t.1), SP.val (.pointer (some ⟨b0, off0, none⟩)), SP.val (.pointer (some ⟨b0, off0, none⟩)), SP.val (.pointer (some ⟨b0, off0 + 1, none⟩)), SP.val (.slice (some ⟨b, off, none⟩) t.2.length c), SP.val (.int .i64 (k : Nat)), SP.val (.pointer (some ⟨b, off + k * 2, none⟩)), SP.val (.bool false), SP.val (.bool true)] (by kernel_rfl) (fun _ d _ _ _ h => by cases d <;> exact h) (by kernel_rfl) (by kernel_rfl)
          (.cons (fun vs y hY => Step.move rfl rfl rfl rfl) <|
           .cons (fun vs y hY g0_0 => Step.nilCheck rfl rfl g0_0 rfl) <|
           .cons (fun vs y hY g1_0 => Step.fieldAddr ⟨b0, off0, none⟩ rfl rfl g1_0 (by simp [go_sem]) rfl) <|
           .cons (fun vs y hY g2_0 => Step.load ⟨b0, off0, none⟩ rfl rfl g2_0 (by simp [go_sem, hY.cell c0]) rfl) <|
           .cons (fun vs y hY => Step.move rfl rfl rfl rfl) <|
           .cons (fun vs y hY g4_0 => Step.nilCheck rfl rfl g4_0 rfl) <|
           .cons (fun vs y hY g5_0 => Step.fieldAddr ⟨b0, off0, none⟩ rfl rfl g5_0 (by simp [go_sem]) rfl) <|
           .cons (fun vs y hY g6_0 => Step.load ⟨b0, off0 + 1, none⟩ rfl rfl g6_0 (by simp [go_sem, hY.cell c1]) rfl) <|
           .cons (fun vs y hY => Step.move rfl rfl rfl rfl) <|
           .cons (fun vs y hY g7_0 g8_1 => Step.indexAtP (n := .int .i64 (k : Nat)) ⟨b, off + k * 2, none⟩ rfl rfl g7_0 g8_1 (by simp [go_sem, Instr.indexAt, Addr.add, hkl] <;> omega) rfl) <|
           .cons (fun vs y hY g3_0 g9_1 => Step.call Tryz.call67 rfl rfl [vs 3, vs 9] rfl rfl (by rw [show vs 3 = _ from g3_0, show vs 9 = _ from g9_1]; exact (Calls.spq (l01Ok_any _ _ _ _ (hp.ext hY)) (by rw [hT])))) <|
           .cons (fun vs y hY g10_0 => Step.not rfl rfl g10_0 rfl) <|
           .nil) ?_
        intro vs w2 hC hL
        have r0 : vs 0 = _ := hL 0 (by decide) rfl
        have r1 : vs 1 = _ := hL 1 (by decide) rfl
        have r2 : vs 2 = _ := hL 2 (by decide) rfl
        have r3 : vs 3 = _ := hL 3 (by decide) rfl
        have r4 : vs 4 = _ := hL 4 (by decide) rfl
        have r5 : vs 5 = _ := hL 5 (by decide) rfl
        have r6 : vs 6 = _ := hL 6 (by decide) rfl
        have r7 : vs 7 = _ := hL 7 (by decide) rfl
        have r8 : vs 8 = _ := hL 8 (by decide) rfl
        have r9 : vs 9 = _ := hL 9 (by decide) rfl
        have r10 : vs 10 = _ := hL 10 (by decide) rfl
        have r11 : vs 11 = _ := hL 11 (by decide) rfl
        clear hL
        simp only [putAll, Act.put, List.contains_nil, cond_false, List.setIfInBounds_toArray, List.set_cons_succ, List.set_cons_zero, List.filterMap_nil, r0, r1, r2, r3, r4, r5, r6, r7, r8, r9, r10, r11]
        clear r0 r1 r2 r3 r4 r5 r6 r7 r8 r9 r10 r11
        go_wp2_with fail
        go_ret
        exact ⟨ret_bool HN.out.symm, hE.tr hC⟩
    · have hall : (t.2.any fun r => !SValidRel t.1 r) = false := by have := HT.out; rwa [show k = t.2.length by omega, List.take_length] at this
      cases h1 : inB t.1 1 4 with
      | false =>
        have HN := Lib.hid (show SValidTemplate t = false from by unfold SValidTemplate; rw [h1]; rfl)
        go_wp2_with fail
        refine (l01Size_any _ _).mono ?_
        rintro e w' ⟨rfl, rfl⟩
        rw [h1]
        go_wp2_with fail
        go_ret
        exact ⟨ret_bool HN.out.symm, hE⟩
      | true =>
        have HN := Lib.hid (show SValidTemplate t = decide ((t.2.length : Int) ≤ 6) from by unfold SValidTemplate; rw [h1, hall, Bool.not_false, Bool.and_true, Bool.true_and, decide_eq_decide]; omega)
        clear hall
        go_wp2_with fail
        refine (l01Size_any _ _).mono ?_
        rintro e w' ⟨rfl, rfl⟩
        rw [h1]
        go_wp2_with fail
        go_ret
        exact ⟨ret_bool HN.out.symm, hE⟩
end Go.Proofs.YtajkepdfemdagaaGreatDoor
namespace Go.Proofs.YtajkepdfemdagaaGreatDoor
open Go.RowKit
set_option linter.unusedVariables false

theorem valid_tm {t : Int × List RelD} (h : SValidTemplate t = true) : ∀ r ∈ t.2, SValidRel t.1 r = true := by
  intro r hr
  unfold SValidTemplate at h
  rw [Bool.and_eq_true, Bool.and_eq_true, Bool.not_eq_true', List.any_eq_false] at h
  have := h.2.2 r hr
  simpa using this
theorem valid_tm_len {t : Int × List RelD} (h : SValidTemplate t = true) : t.2.length ≤ 6 := by
  unfold SValidTemplate at h
  rw [Bool.and_eq_true, Bool.and_eq_true, decide_eq_true_eq] at h
  exact h.2.1

theorem find_here {p : Nat → Bool} {k N : Nat} (hk : k < N) (h0 : ∀ j, j < k → p j = false) (h1 : p k = true) : (List.range N).find? p = some k := by
  rw [List.find?_eq_some_iff_append]
  refine ⟨h1, List.range k, (List.range' (k + 1) (N - (k + 1))), ?_, fun a ha => ?_⟩
  · rw [List.range_eq_range', List.range_eq_range', show k :: List.range' (k + 1) (N - (k + 1)) = List.range' k (N - k) from by
      rw [show N - k = (N - (k + 1)) + 1 by omega, List.range'_succ]]
    have := List.range'_append (s := 0) (m := k) (n := N - k) (step := 1)
    rw [Nat.one_mul, Nat.zero_add] at this
    rw [this, show k + (N - k) = N by omega]
  · rw [h0 a (List.mem_range.1 ha)]
    rfl
theorem find_none {p : Nat → Bool} {N : Nat} (h0 : ∀ j, j < N → p j = false) : (List.range N).find? p = none := by
  rw [List.find?_eq_none]
  intro a ha
  rw [h0 a (List.mem_range.1 ha)]
  simp

set_option maxHeartbeats 1000000 in
theorem l00Has_any (l : List Int) (v : Value) (x : Int) (w : World) (hr : RdI w v l) :
    Calls Tryz.prog 136 #[v, .int .i64 x] w fun e w' => e = .returned (.bool (hasI l x)) ∧ Ext w w' := by
  obtain ⟨a, b, off, c, rfl, hlc, hcm, ha, hc⟩ := hr
  go_enter Tryz.func136, Tryz.ntmps136
  go_wp2_with fail
  go_loopw [5] (fun i wr => ∃ k : Nat, k ≤ l.length ∧ i = .int .i64 k ∧ Ext w wr ∧ ∀ j (hj : j < l.length), j < k → l[j] ≠ x) (fun i _ => l.length - (intOf i).toNat)
  case atStart => exact ⟨0, by omega, rfl, Ext.refl' _, fun j _ hj => by omega⟩
  case round =>
    obtain ⟨k, hk, rfl, hE, ht⟩ := hrel
    have HT := Lib.hid ht
    clear ht
    by_cases hkl : k < l.length
    · obtain rfl := ha (by omega)
      have hck := hE.cell (hc k hkl)
      by_cases hp : l[k] = x
      · have HI := Lib.hid (show hasI l x = true from hasI_iff.2 (hp ▸ List.getElem_mem hkl))
        have hb : (l[k] == x) = true := by simp [hp]
        clear hp
        go_wp2_with fail
        go_ret
        exact ⟨ret_bool HI.out.symm, hE⟩
      · have HI := Lib.hid (show ∀ j (hj : j < l.length), j < k + 1 → l[j] ≠ x from fun j hj hjk => if h : j = k then by subst h; exact hp else HT.out j hj (by omega))
        have hb : (l[k] == x) = false := by simp [hp]
        clear hp
        go_wp2_with fail
        go_roundw
        case rel => exact ⟨k + 1, by omega, by go_num, hE, HI.out⟩
        case measure => simp [intOf]; omega
    · have HI := Lib.hid (show hasI l x = false from hasI_no.2 fun h => by
        obtain ⟨j, hj, he⟩ := List.getElem_of_mem h
        exact HT.out j hj (by omega) he)
      go_wp2_with fail
      go_ret
      exact ⟨ret_bool HI.out.symm, hE⟩

end Go.Proofs.YtajkepdfemdagaaGreatDoor
