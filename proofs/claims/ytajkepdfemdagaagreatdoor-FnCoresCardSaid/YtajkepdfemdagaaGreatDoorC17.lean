/- Numbers and digits read from texts. What a row with laid variables gives a walk: the table, the sentinels' cells, some number in the library's own variable; the wrap that keeps the world's shape. -/
import Derived.Test.YtajkepdfemdagaaGreatDoorC15
import Derived.Test.YtajkepdfemdagaaGreatDoorC16
import Derived.Lib.ParseIntBCases
import Derived.Lib.ParseIntBTie
import Derived.Lib.ConvBytes
import Derived.Lib.AtoiErrMem
import Derived.Lib.LaidTab
import Derived.Sort.Grow
import Derived.Test.YtajkepdfemdagaaGreatDoorC02
import Derived.Lib.LaidU8
import Derived.LaidLaws
import Derived.LaidMore
import Derived.Lay
import Derived.Shelf.Vars
import Derived.ChangeMaps5
import Derived.SizedLaws
namespace Go.Proofs.YtajkepdfemdagaaGreatDoor
open Go.RowKit
set_option linter.unusedVariables false

/-- what a number must be that was read from a text, as far as arities and sizes go -/
def NumOf (s : ByteArray) (v : Int) : Prop := (-9223372036854775808 ≤ v ∧ v ≤ 9223372036854775807) ∧ ∀ a : Int, 1 ≤ a → a ≤ 4 → (v = a ↔ s = decB a)
theorem decB_itoa {v : Int} (h : 0 ≤ v) : (⟨(Lib.itoa v).toArray⟩ : ByteArray) = decB v := by
  unfold decB Lib.itoa
  rw [if_neg (by omega)]
theorem parse_small {a : Int} (h1 : 1 ≤ a) (h2 : a ≤ 4) : Lib.parseIntB 64 (decB a).data.toList = .ok a := by
  rcases (show a = 1 ∨ a = 2 ∨ a = 3 ∨ a = 4 by omega) with rfl | rfl | rfl | rfl <;> (rw [decB_one (by omega) (by omega)]; decide +kernel)
theorem decB_list {a : Int} (h0 : 0 ≤ a) (h1 : a < 10) : (decB a).data.toList = [UInt8.ofNat (48 + a.toNat)] := by rw [decB_one h0 h1]
theorem decB_inj {a b : Int} (h0 : 0 ≤ a) (h1 : a < 10) (k0 : 0 ≤ b) (k1 : b < 10) (h : decB a = decB b) : a = b := by
  have := congrArg (fun x : ByteArray => x.data.toList) h
  simp only [decB_list h0 h1, decB_list k0 k1, List.cons.injEq, and_true] at this
  have := congrArg UInt8.toNat this
  simp only [UInt8.toNat_ofNat'] at this
  omega
theorem toList_eq (s : ByteArray) : s.toList = s.data.toList := Lib.toList_data s
theorem text_ne {s t : ByteArray} (h : ¬ s = t) : (s.toList == t.toList) = false := by
  rw [beq_eq_false_iff_ne, toList_eq, toList_eq]
  exact fun e => h (data_inj e)
/-- the number that the program reads from a text -/
def rnV (s : ByteArray) : Int := match Lib.parseIntB 64 s.data.toList with
  | .ok v => if v < 0 then -2 else if decB v = s then v else -2
  | _ => -2
theorem rnV_num (s : ByteArray) : NumOf s (rnV s) := by
  unfold rnV
  cases hp : Lib.parseIntB 64 s.data.toList with
  | range => dsimp only; exact ⟨by omega, fun a a1 a2 => ⟨fun h => by omega, fun h => by rw [h, parse_small a1 a2] at hp; cases hp⟩⟩
  | ok v =>
    have hb : -9223372036854775808 ≤ v ∧ v ≤ 9223372036854775807 := by
      have := Lib.parseIntB_bounds hp
      omega
    dsimp only
    by_cases hneg : v < 0
    · rw [if_pos hneg]
      exact ⟨by omega, fun a a1 a2 => ⟨fun h => by omega, fun h => by
        rw [h, parse_small a1 a2] at hp
        injection hp with hp
        omega⟩⟩
    · rw [if_neg hneg]
      by_cases he : decB v = s
      · rw [if_pos he]
        exact ⟨hb, fun a a1 a2 => ⟨fun h => by rw [← h]; exact he.symm, fun h => by
          rw [h, parse_small a1 a2] at hp
          injection hp with hp
          exact hp.symm⟩⟩
      · rw [if_neg he]
        exact ⟨by omega, fun a a1 a2 => ⟨fun h => by omega, fun h => by
          rw [h, parse_small a1 a2] at hp
          injection hp with hp
          subst hp
          exact absurd h.symm he⟩⟩
  | _ => dsimp only; exact ⟨by omega, fun a a1 a2 => ⟨fun h => by omega, fun h => by rw [h, parse_small a1 a2] at hp; cases hp⟩⟩
/-- what the walk needs of the package's variables -/
structure LaidW (w : World) : Prop where
  tab : Lib.TabIs Tryz.prog w "internal/strconv.uint64pow10" .u64 Lib.pow10Tab
  max : ∃ m, w.cell? ⟨0, 0, none⟩ = some (.int .i64 m)
  syn : ∃ ev, w.cell? ⟨1, 0, none⟩ = some ev ∧ (ev = .nilIface ∨ ∃ te pe, ev = .iface te pe)
  rng : ∃ ev, w.cell? ⟨2, 0, none⟩ = some ev ∧ (ev = .nilIface ∨ ∃ te pe, ev = .iface te pe)
theorem tabIs_ext {w w' : World} {n : String} {k : IntKind} {zs : List Int} (h : Lib.TabIs Tryz.prog w n k zs) (hE : Ext w w') : Lib.TabIs Tryz.prog w' n k zs := by
  unfold Lib.TabIs World.var? at h ⊢
  cases hg : Tryz.prog.globalNamed n with
  | none => simp [hg] at h
  | some g =>
    simp only [hg, Option.bind_some] at h ⊢
    have hlt : g < w.heap.size := by
      rcases Nat.lt_or_ge g w.heap.size with h' | h'
      · exact h'
      · simp [Array.getElem?_eq_none h'] at h
    rw [hE.block g hlt]
    exact h
theorem LaidW.ext {w w' : World} (h : LaidW w) (hE : Ext w w') : LaidW w' :=
  ⟨tabIs_ext h.tab hE, let ⟨m, hm⟩ := h.max; ⟨m, hE.cell hm⟩, let ⟨m, hm, h2⟩ := h.syn; ⟨m, hE.cell hm, h2⟩, let ⟨m, hm, h2⟩ := h.rng; ⟨m, hE.cell hm, h2⟩⟩
theorem ext_grow (w : World) (k : Nat) (os : Array Obj) : Ext w (Go.Sort.grow (w.drewN k) os) :=
  ⟨rfl, rfl, rfl, by simp [Go.Sort.grow, World.drewN], fun j hj => by simp [Go.Sort.grow, World.drewN, Array.getElem?_append, hj]⟩

set_option maxHeartbeats 400000 in
theorem decAll_any (n : Int) (w : World) (h0 : -9223372036854775808 ≤ n) (h1 : n ≤ 9223372036854775807) (hL : LaidW w) : Calls Tryz.prog 97 #[.int .i64 n] w fun e w' => e = .returned (.string ⟨(Lib.itoa n).toArray⟩) ∧ Ext w w' := by
  go_enter Tryz.func97, Tryz.ntmps97
  go_wp2_with fail
  refine (Tryz.strconv_FormatInt_10 n h0 h1 w hL.tab).mono ?_
  rintro e w1 ⟨rfl, k, os, rfl⟩
  have hE := ext_grow w k os
  generalize Go.Sort.grow (w.drewN k) os = w1 at *
  go_wp2_with fail
  go_ret
  exact ⟨rfl, hE⟩
set_option maxHeartbeats 1000000 in
set_option maxRecDepth 100000 in
theorem readNumber_any (s : ByteArray) (w : World) (hL : LaidW w) (hs : s.size ≤ 1048576) :
    Calls Tryz.prog 46 #[.string s] w fun e w' => e = .returned (.int .i64 (rnV s)) ∧ Ext w w' := by
  cases hp : Lib.parseIntB 64 s.data.toList with
  | range =>
    obtain ⟨ev, h1, h2⟩ := hL.rng
    have HR := Lib.hid (show rnV s = -2 by unfold rnV; rw [hp])
    go_enter Tryz.func46, Tryz.ntmps46
    go_wp2_with fail
    refine (Tryz.strconv_ParseInt_10_at64_range s (by omega) hp ev w h1 h2).mono ?_
    rintro e w1 ⟨N, rfl, hN, _, hB⟩
    go_wp2_with fail
    go_ret
    exact ⟨by rw [HR.out]; rfl, hB⟩
  | ok v =>
    have hb : -9223372036854775808 ≤ v ∧ v ≤ 9223372036854775807 := by
      have := Lib.parseIntB_bounds hp
      omega
    have hr : rnV s = if v < 0 then -2 else if decB v = s then v else -2 := by unfold rnV; rw [hp]
    go_enter Tryz.func46, Tryz.ntmps46
    go_wp2_with fail
    refine (Tryz.strconv_ParseInt_10_at64_ok s (by omega) v hp w).mono ?_
    rintro e w1 ⟨rfl, hw1⟩
    have hE : Ext w w1 := by
      rcases hw1 with rfl | ⟨t, rfl⟩
      · exact Ext.refl' _
      · exact Lib.bytesWorld_below w _ t
    clear hw1
    by_cases hneg : v < 0
    · rw [if_pos hneg] at hr
      have HR := Lib.hid hr
      clear hr
      go_wp2_with fail
      go_ret
      exact ⟨by rw [HR.out]; rfl, hE⟩
    · rw [if_neg hneg] at hr
      by_cases he : decB v = s
      · rw [if_pos he] at hr
        have HR := Lib.hid hr
        have hbb : ((decB v).toList == s.toList) = true := by rw [he]; simp
        clear he hr
        go_wp2_with fail
        refine (decAll_any v w1 hb.1 hb.2 (hL.ext hE)).mono ?_
        rintro e w2 ⟨rfl, hE2⟩
        rw [decB_itoa (by omega)]
        go_wp2_with fail
        go_ret
        exact ⟨by rw [HR.out]; rfl, hE.tr hE2⟩
      · rw [if_neg he] at hr
        have HR := Lib.hid hr
        have hbb : ((decB v).toList == s.toList) = false := text_ne he
        clear he hr
        go_wp2_with fail
        refine (decAll_any v w1 hb.1 hb.2 (hL.ext hE)).mono ?_
        rintro e w2 ⟨rfl, hE2⟩
        rw [decB_itoa (by omega)]
        go_wp2_with fail
        go_ret
        exact ⟨by rw [HR.out]; rfl, hE.tr hE2⟩
  | _ =>
    obtain ⟨ev, h1, h2⟩ := hL.syn
    have HR := Lib.hid (show rnV s = -2 by unfold rnV; rw [hp])
    go_enter Tryz.func46, Tryz.ntmps46
    go_wp2_with fail
    refine (Tryz.strconv_ParseInt_10_at64_syntax s (by omega) (by rw [hp]; intro h; cases h) (by intro v; rw [hp]; intro h; cases h) ev w h1 h2).mono ?_
    rintro e w1 ⟨N, rfl, hN, _, hB⟩
    go_wp2_with fail
    go_ret
    exact ⟨by rw [HR.out]; rfl, hB⟩
/-! ### the reference's numbers -/
def isDig (b : UInt8) : Bool := decide (48 ≤ b.toNat ∧ b.toNat ≤ 57)
def numV (l : List UInt8) : Int := l.foldl (fun n b => n * 10 + ((b.toNat : Int) - 48)) 0
theorem numV_snoc (l : List UInt8) (b : UInt8) : numV (l ++ [b]) = numV l * 10 + ((b.toNat : Int) - 48) := by simp [numV]
theorem fold_ge : ∀ (l : List UInt8) (n : Int), 0 ≤ n → (∀ b ∈ l, isDig b = true) → n ≤ l.foldl (fun n b => n * 10 + ((b.toNat : Int) - 48)) n
  | [], n, _, _ => Int.le_refl _
  | b :: l, n, h0, h => by
    have hb := of_decide_eq_true (h b List.mem_cons_self)
    have ih := fold_ge l (n * 10 + ((b.toNat : Int) - 48)) (by omega) fun x hx => h x (List.mem_cons_of_mem _ hx)
    rw [List.foldl_cons]
    omega
/-- a number of one digit or a greater one -/
theorem num_of {s : ByteArray} {v : Int} (hv : v = numV s.data.toList) (hd : ∀ b ∈ s.data.toList, isDig b = true) (h1 : 1 ≤ s.size) (hz : ∀ (h : 0 < s.size), s[0] = 48 → s.size = 1) (hb : -9223372036854775808 ≤ v ∧ v ≤ 9223372036854775807) : NumOf s v := by
  refine ⟨hb, fun a a1 a2 => ?_⟩
  rw [Lib.size_eq] at h1
  have hz2 : ∀ b l, s.data.toList = b :: l → b = 48 → l = [] := by
    intro b l hl hb0
    have h0 : 0 < s.size := by rw [Lib.size_eq]; omega
    have h3 := hz h0 (by
      have : s[0] = s.data.toList[0]'(by rw [← Lib.size_eq]; exact h0) := rfl
      rw [this]
      simp only [hl, List.getElem_cons_zero]
      exact hb0)
    rw [Lib.size_eq, hl, List.length_cons] at h3
    exact List.length_eq_zero_iff.1 (by omega)
  constructor
  · intro he
    apply data_inj
    rw [decB_list (by omega) (by omega)]
    generalize s.data.toList = l at *
    match l, h1 with
    | [b], _ =>
      have hb := of_decide_eq_true (hd b (by simp))
      have : v = (b.toNat : Int) - 48 := by rw [hv]; simp [numV]
      have hb2 : b.toNat = 48 + a.toNat := by omega
      rw [← hb2]
      simp
    | b :: x :: l, _ =>
      exfalso
      have hb := of_decide_eq_true (hd b (by simp))
      have hx := of_decide_eq_true (hd x (by simp))
      have hne : b ≠ 48 := fun e => by have := hz2 b (x :: l) rfl e; simp at this
      have hne2 : b.toNat ≠ 48 := fun e => hne (UInt8.toNat_inj.1 e)
      have hge := fold_ge l (((0 * 10 + ((b.toNat : Int) - 48)) * 10) + ((x.toNat : Int) - 48)) (by omega) fun y hy => hd y (by simp [hy])
      have : v = l.foldl (fun n b => n * 10 + ((b.toNat : Int) - 48)) (((0 * 10 + ((b.toNat : Int) - 48)) * 10) + ((x.toNat : Int) - 48)) := by rw [hv]; rfl
      omega
  · intro he
    rw [hv, he, decB_list (by omega) (by omega)]
    have : (UInt8.ofNat (48 + a.toNat)).toNat = 48 + a.toNat := by rw [UInt8.toNat_ofNat']; omega
    simp only [numV, List.foldl_cons, List.foldl_nil, this]
    omega
theorem num_none {s : ByteArray} (h : ∀ a : Int, 1 ≤ a → a ≤ 4 → s.data.toList ≠ [UInt8.ofNat (48 + a.toNat)]) : ∀ a : Int, 1 ≤ a → a ≤ 4 → s ≠ decB a := fun a a1 a2 he => h a a1 a2 (by rw [he]; exact decB_list (by omega) (by omega))
theorem num_size {s : ByteArray} (h : s.size ≠ 1) : ∀ a : Int, 1 ≤ a → a ≤ 4 → s ≠ decB a := fun a a1 a2 he => h (by rw [he]; exact decB_size (by omega) (by omega))
theorem num_bad {s : ByteArray} {k : Nat} (hk : k < s.size) (h : isDig s[k] = false) : ∀ a : Int, 1 ≤ a → a ≤ 4 → s ≠ decB a := fun a a1 a2 he => by
  subst he
  have h1 : (decB a).size = 1 := decB_size (by omega) (by omega)
  have hk0 : k = 0 := by omega
  subst hk0
  have : (decB a)[0] = UInt8.ofNat (48 + a.toNat) := by
    have hl := decB_list (a := a) (by omega) (by omega)
    have h2 : (decB a)[0] = (decB a).data.toList[0]'(by rw [← Lib.size_eq]; exact hk) := rfl
    rw [h2]
    simp only [hl, List.getElem_cons_zero]
  rw [this] at h
  have h3 : (UInt8.ofNat (48 + a.toNat)).toNat = 48 + a.toNat := by rw [UInt8.toNat_ofNat']; omega
  unfold isDig at h
  rw [h3] at h
  have := of_decide_eq_false h
  omega
def NumRes (s : ByteArray) (v : Int) (ok : Bool) : Prop := (ok = true → NumOf s v) ∧ (ok = false → ∀ a : Int, 1 ≤ a → a ≤ 4 → s ≠ decB a)
def NumPost (s : ByteArray) (w : World) (e : Ending) (w' : World) : Prop := ∃ v ok, e = .returned (.tuple #[.int .i64 v, .bool ok]) ∧ Ext w w' ∧ NumRes s v ok ∧ -9223372036854775808 ≤ v ∧ v ≤ 9223372036854775807
theorem NumPost.no {s : ByteArray} {w w' : World} (hE : Ext w w') (h : ∀ a : Int, 1 ≤ a → a ≤ 4 → s ≠ decB a) : NumPost s w (.returned (.tuple #[.int .i64 0, .bool false])) w' :=
  ⟨0, false, rfl, hE, ⟨(fun h => absurd h (by decide)), fun _ => h⟩, by omega, by omega⟩
set_option maxHeartbeats 4000000 in
set_option maxRecDepth 100000 in
theorem l01Number_any (s : ByteArray) (w : World) (hs : s.size ≤ 1048576) : Calls Tryz.prog 40 #[.string s] w (NumPost s w) := by
  by_cases h1 : s.size < 1
  · have hn := num_size (s := s) (by omega)
    go_enter Tryz.func40, Tryz.ntmps40
    go_wp2_with fail
    go_ret2
    exact NumPost.no (Ext.refl' w) hn
  by_cases h2 : 9 < s.size
  · have hn := num_size (s := s) (by omega)
    go_enter Tryz.func40, Tryz.ntmps40
    go_wp2_with fail
    go_ret2
    exact NumPost.no (Ext.refl' w) hn
  have h0 : 0 < s.size := by omega
  by_cases h3 : s[0] = 48
  · have hb3 : (((s[0].toNat : Nat) : Int) == 48) = true := by rw [h3]; rfl
    by_cases h4 : 1 < s.size
    · have hn := num_size (s := s) (by omega)
      clear h3
      go_enter Tryz.func40, Tryz.ntmps40
      go_wp2_with fail
      go_ret2
      exact NumPost.no (Ext.refl' w) hn
    · have hz : ∀ (h : 0 < s.size), s[0] = 48 → s.size = 1 := fun _ _ => by omega
      clear h3
      have HZ := Lib.hid hz
      clear hz
      go_enter Tryz.func40, Tryz.ntmps40
      go_wp2_with fail
      have hz := HZ.out
      go_loopw [4, 5] (fun n i wr => ∃ (k : Nat) (v : Int), k ≤ s.size ∧ i = .int .i64 (k : Nat) ∧ n = .int .i64 v ∧ w = wr ∧ 0 ≤ v ∧ v < (10 ^ k : Nat) ∧ Hid (v = numV (s.data.toList.take k) ∧ ∀ b ∈ s.data.toList.take k, isDig b = true)) (fun _ i _ => s.size - (intOf i).toNat)
      case atStart => exact ⟨0, 0, by omega, rfl, rfl, rfl, by omega, by simp, Lib.hid ⟨rfl, by simp⟩⟩
      case round =>
        obtain ⟨k, v, hk, rfl, rfl, rfl, v0, v1, HV⟩ := hrel
        by_cases hkl : k < s.size
        · have hpow : 10 ^ k ≤ 10 ^ 8 := Nat.pow_le_pow_right (by omega) (by omega)
          have hv8 : v < 100000000 := by omega
          have hkd : k < s.data.toList.length := by rw [← Lib.size_eq]; exact hkl
          by_cases hlo : s[k].toNat < 48
          · have hn := num_bad hkl (show isDig s[k] = false from by unfold isDig; rw [decide_eq_false_iff_not]; omega)
            have hlo2 : ((s[k].toNat : Nat) : Int) < 48 := by omega
            go_wp2_with fail
            go_ret2
            exact NumPost.no (Ext.refl' _) hn
          · by_cases hhi : 57 < s[k].toNat
            · have hn := num_bad hkl (show isDig s[k] = false from by unfold isDig; rw [decide_eq_false_iff_not]; omega)
              have hlo2 : ¬ ((s[k].toNat : Nat) : Int) < 48 := by omega
              have hhi2 : 57 < ((s[k].toNat : Nat) : Int) := by omega
              go_wp2_with fail
              go_ret2
              exact NumPost.no (Ext.refl' _) hn
            · have HV2 := Lib.hid (show v * 10 + (((s[k].toNat : Nat) : Int) - 48) = numV (s.data.toList.take (k + 1)) ∧ ∀ b ∈ s.data.toList.take (k + 1), isDig b = true from by
                obtain ⟨e1, e2⟩ := HV.out
                rw [List.take_succ_eq_append_getElem hkd, numV_snoc, ← e1, byte_at hkl]
                refine ⟨rfl, fun b hb => ?_⟩
                rcases List.mem_append.1 hb with h | h
                · exact e2 b h
                · rw [List.mem_singleton.1 h]
                  unfold isDig
                  rw [decide_eq_true_eq]
                  omega)
              have hp2 : (10 ^ (k + 1) : Nat) = 10 ^ k * 10 := Nat.pow_succ ..
              have HP := Lib.hid hp2
              clear hp2 HV
              have hlo2 : ¬ ((s[k].toNat : Nat) : Int) < 48 := by omega
              have hhi2 : ¬ 57 < ((s[k].toNat : Nat) : Int) := by omega
              go_wp2_with fail
              go_roundw
              case rel => exact ⟨k + 1, _, by omega, by go_num, rfl, trivial, by omega, by have := HP.out; omega, HV2⟩
              case measure => simp [intOf]; omega
        · have hke : k = s.size := by omega
          subst hke
          have hn : NumOf s v := num_of (by rw [HV.out.1, List.take_of_length_le (by rw [← Lib.size_eq]; exact Nat.le_refl _)]) (by have := HV.out.2; rw [List.take_of_length_le (by rw [← Lib.size_eq]; exact Nat.le_refl _)] at this; exact this) (by omega) hz (by have := Nat.pow_le_pow_right (n := 10) (by omega) (show s.size ≤ 9 by omega); omega)
          clear HV hz
          go_wp2_with fail
          go_ret2
          exact ⟨v, true, rfl, Ext.refl' _, ⟨fun _ => hn, (fun h => absurd h (by decide))⟩, hn.1.1, hn.1.2⟩
  · have hb3 : (((s[0].toNat : Nat) : Int) == 48) = false := by
      rw [beq_eq_false_iff_ne]
      intro h
      exact h3 (UInt8.toNat_inj.1 (by have : s[0].toNat = 48 := by omega
                                      rw [this]; rfl))
    have hz : ∀ (h : 0 < s.size), s[0] = 48 → s.size = 1 := fun _ h => absurd h h3
    clear h3
    have HZ := Lib.hid hz
    clear hz
    go_enter Tryz.func40, Tryz.ntmps40
    go_wp2_with fail
    have hz := HZ.out
    go_loopw [4, 5] (fun n i wr => ∃ (k : Nat) (v : Int), k ≤ s.size ∧ i = .int .i64 (k : Nat) ∧ n = .int .i64 v ∧ w = wr ∧ 0 ≤ v ∧ v < (10 ^ k : Nat) ∧ Hid (v = numV (s.data.toList.take k) ∧ ∀ b ∈ s.data.toList.take k, isDig b = true)) (fun _ i _ => s.size - (intOf i).toNat)
    case atStart => exact ⟨0, 0, by omega, rfl, rfl, rfl, by omega, by simp, Lib.hid ⟨rfl, by simp⟩⟩
    case round =>
      obtain ⟨k, v, hk, rfl, rfl, rfl, v0, v1, HV⟩ := hrel
      by_cases hkl : k < s.size
      · have hpow : 10 ^ k ≤ 10 ^ 8 := Nat.pow_le_pow_right (by omega) (by omega)
        have hv8 : v < 100000000 := by omega
        have hkd : k < s.data.toList.length := by rw [← Lib.size_eq]; exact hkl
        by_cases hlo : s[k].toNat < 48
        · have hn := num_bad hkl (show isDig s[k] = false from by unfold isDig; rw [decide_eq_false_iff_not]; omega)
          have hlo2 : ((s[k].toNat : Nat) : Int) < 48 := by omega
          go_wp2_with fail
          go_ret2
          exact NumPost.no (Ext.refl' _) hn
        · by_cases hhi : 57 < s[k].toNat
          · have hn := num_bad hkl (show isDig s[k] = false from by unfold isDig; rw [decide_eq_false_iff_not]; omega)
            have hlo2 : ¬ ((s[k].toNat : Nat) : Int) < 48 := by omega
            have hhi2 : 57 < ((s[k].toNat : Nat) : Int) := by omega
            go_wp2_with fail
            go_ret2
            exact NumPost.no (Ext.refl' _) hn
          · have HV2 := Lib.hid (show v * 10 + (((s[k].toNat : Nat) : Int) - 48) = numV (s.data.toList.take (k + 1)) ∧ ∀ b ∈ s.data.toList.take (k + 1), isDig b = true from by
              obtain ⟨e1, e2⟩ := HV.out
              rw [List.take_succ_eq_append_getElem hkd, numV_snoc, ← e1, byte_at hkl]
              refine ⟨rfl, fun b hb => ?_⟩
              rcases List.mem_append.1 hb with h | h
              · exact e2 b h
              · rw [List.mem_singleton.1 h]
                unfold isDig
                rw [decide_eq_true_eq]
                omega)
            have hp2 : (10 ^ (k + 1) : Nat) = 10 ^ k * 10 := Nat.pow_succ ..
            have HP := Lib.hid hp2
            clear hp2 HV
            have hlo2 : ¬ ((s[k].toNat : Nat) : Int) < 48 := by omega
            have hhi2 : ¬ 57 < ((s[k].toNat : Nat) : Int) := by omega
            go_wp2_with fail
            go_roundw
            case rel => exact ⟨k + 1, _, by omega, by go_num, rfl, trivial, by omega, by have := HP.out; omega, HV2⟩
            case measure => simp [intOf]; omega
      · have hke : k = s.size := by omega
        subst hke
        have hn : NumOf s v := num_of (by rw [HV.out.1, List.take_of_length_le (by rw [← Lib.size_eq]; exact Nat.le_refl _)]) (by have := HV.out.2; rw [List.take_of_length_le (by rw [← Lib.size_eq]; exact Nat.le_refl _)] at this; exact this) (by omega) hz (by have := Nat.pow_le_pow_right (n := 10) (by omega) (show s.size ≤ 9 by omega); omega)
        clear HV hz
        go_wp2_with fail
        go_ret2
        exact ⟨v, true, rfl, Ext.refl' _, ⟨fun _ => hn, (fun h => absurd h (by decide))⟩, hn.1.1, hn.1.2⟩
/-! ### digits -/
def digK (s : ByteArray) (k : Nat) : List Int := (s.data.toList.take k).map fun b => (b.toNat : Int) - 48
def rdg (s : ByteArray) : List Int := if s.data.toList.all isDig then s.data.toList.map fun b => (b.toNat : Int) - 48 else []
theorem digK_length {s : ByteArray} {k : Nat} (hk : k ≤ s.size) : (digK s k).length = k := by
  unfold digK
  rw [List.length_map, List.length_take, ← Lib.size_eq]
  omega
theorem digK_succ {s : ByteArray} {k : Nat} (hk : k < s.size) : digK s (k + 1) = digK s k ++ [((s.data.toList.getD k 0).toNat : Int) - 48] := by
  unfold digK
  have hkd : k < s.data.toList.length := by rw [← Lib.size_eq]; exact hk
  rw [List.take_succ_eq_append_getElem hkd, List.map_append, List.getD_eq_getElem?_getD, List.getElem?_eq_getElem hkd]
  rfl
theorem rdg_no {s : ByteArray} {k : Nat} (hk : k < s.size) (h : isDig (s.data.toList.getD k 0) = false) : rdg s = [] := by
  have hkd : k < s.data.toList.length := by rw [← Lib.size_eq]; exact hk
  unfold rdg
  rw [if_neg]
  intro ha
  rw [List.all_eq_true] at ha
  have := ha _ (List.getElem_mem hkd)
  rw [List.getD_eq_getElem?_getD, List.getElem?_eq_getElem hkd] at h
  simp only [Option.getD_some] at h
  rw [this] at h
  cases h
theorem rdg_yes {s : ByteArray} (h : ∀ b ∈ s.data.toList.take s.size, isDig b = true) : rdg s = digK s s.size := by
  have ht : s.data.toList.take s.size = s.data.toList := List.take_of_length_le (by rw [← Lib.size_eq]; exact Nat.le_refl _)
  rw [ht] at h
  unfold rdg digK
  rw [ht, if_pos (List.all_eq_true.2 h)]
theorem digs_step {s : ByteArray} {k : Nat} (hk : k < s.size) (h : ∀ b ∈ s.data.toList.take k, isDig b = true) (hb : isDig (s.data.toList.getD k 0) = true) : ∀ b ∈ s.data.toList.take (k + 1), isDig b = true := by
  have hkd : k < s.data.toList.length := by rw [← Lib.size_eq]; exact hk
  intro b hm
  rw [List.take_succ_eq_append_getElem hkd] at hm
  rcases List.mem_append.1 hm with hm | hm
  · exact h b hm
  · rw [List.mem_singleton.1 hm]
    rw [List.getD_eq_getElem?_getD, List.getElem?_eq_getElem hkd] at hb
    exact hb
def DigRes (l : List Int) (w : World) (e : Ending) (w' : World) : Prop := ∃ u fp, e = .returned u ∧ Ext w w' ∧ OI w' u l fp ∧ ∀ g ∈ fp, w.heap.size ≤ g
theorem DigRes.nil {w w' : World} {l : List Int} (hE : Ext w w') (hl : l = []) : DigRes l w (.returned (.slice none 0 0)) w' := by
  subst hl
  exact ⟨_, [], rfl, hE, ⟨⟨by simp, .inl ⟨rfl, rfl⟩⟩, rfl⟩, by simp⟩
theorem madeI (w : World) : (w.alloc (.cells #[] 2)).ownsRow w.heap.size 2 1 (.slice (some ⟨w.heap.size, 0, none⟩) 0 0) 0 [] := World.ownsRow_made w #[] 0 (Nat.le_refl _) (by decide) rfl
set_option maxHeartbeats 4000000 in
set_option maxRecDepth 100000 in
theorem readDigits_any (s : ByteArray) (w : World) (hs : s.size ≤ 1048576) :
    Calls Tryz.prog 98 #[.string s] w (DigRes (rdg s) w) := by
  obtain ⟨i0, hi, hz0, hz1, hz2⟩ := info_parts infoI
  have hmade := madeI w
  have hE0 : Ext w (w.alloc (.cells #[] 2)) := (Ext.refl' w).alloc (Nat.le_refl _) _
  have hconv := Lib.run_convert_string_bytes (P := Tryz.prog) (w.alloc (.cells #[] 2)) 9 30 5 s Tryz.underlying9 Tryz.underlying30 Tryz.underlying5
  have hcell := fun j hj => Lib.bytesWorld_cell (w.alloc (.cells #[] 2)) 5 s j hj
  have hEb := Lib.bytesWorld_below (w.alloc (.cells #[] 2)) 5 s
  have hzb := Lib.bytesWorld_size (w.alloc (.cells #[] 2)) 5 s
  rw [World.size_alloc] at hcell hzb hconv
  generalize Lib.bytesWorld (w.alloc (.cells #[] 2)) 5 s = wb at *
  generalize grownCap (w.alloc (.cells #[] 2)) s.size 0 5 = cap at *
  have hob := own_ext hmade hEb
  replace hE0 := hE0.tr hEb
  have HC := Lib.hid hcell
  have HV := Lib.hid hconv
  clear hcell hconv hEb hmade
  go_enter Tryz.func98, Tryz.ntmps98
  go_wp2_with fail
  rw [HV.out]
  go_wp2_with fail
  go_loopw [3, 10] (fun t i wr => ∃ k : Nat, k ≤ s.size ∧ i = .int .i64 (k : Nat) ∧ Ext w wr ∧ w.heap.size + 2 ≤ wr.heap.size ∧ Hid (∀ j, j < s.size → wr.cell? ⟨w.heap.size + 1, j, none⟩ = some (.int .u8 (s.data.toList.getD j 0).toNat)) ∧ t.ownBlock ≠ some (w.heap.size + 1) ∧
      wr.ownsRow w.heap.size 2 1 t (digK s k).length ((digK s k).map (Value.int .i64)) ∧ Hid (∀ b ∈ s.data.toList.take k, isDig b = true)) (fun _ i _ => s.size - (intOf i).toNat)
  case atStart => exact ⟨0, by omega, rfl, hE0, by omega, HC, by simp [Value.ownBlock], hob, Lib.hid (by simp)⟩
  case round =>
    obtain ⟨k, hk, rfl, hE, hz, HCr, hne, ho, HD⟩ := hrel
    clear hob hE0 HC HV
    have hlen := digK_length hk
    have hlenle : (digK s k).length ≤ 1048576 := by omega
    have HLEN := Lib.hid hlen
    clear hlen
    obtain ⟨oa, ob, oc, rfl, -⟩ := own_parts ho
    by_cases hkl : k < s.size
    · have hck := HCr.out k hkl
      have HS := Lib.hid (digK_succ hkl)
      have HN : isDig (s.data.toList.getD k 0) = false → Hid (rdg s = []) := fun h => Lib.hid (rdg_no hkl h)
      have HY : isDig (s.data.toList.getD k 0) = true → Hid (∀ b ∈ s.data.toList.take (k + 1), isDig b = true) := fun h => Lib.hid (digs_step hkl HD.out h)
      generalize s.data.toList.getD k 0 = b at *
      by_cases hlo : b.toNat < 48
      · have hn := HN (by unfold isDig; rw [decide_eq_false_iff_not]; omega)
        have hlo2 : ((b.toNat : Nat) : Int) < 48 := by omega
        clear HN HY
        go_wp2_with fail
        go_ret
        exact DigRes.nil hE hn.out
      by_cases hhi : 57 < b.toNat
      · have hn := HN (by unfold isDig; rw [decide_eq_false_iff_not]; omega)
        have hlo2 : ¬ ((b.toNat : Nat) : Int) < 48 := by omega
        have hhi2 : 57 < ((b.toNat : Nat) : Int) := by omega
        clear HN HY
        go_wp2_with fail
        go_ret
        exact DigRes.nil hE hn.out
      have hn := HY (by unfold isDig; rw [decide_eq_true_eq]; omega)
      have hlo2 : ¬ ((b.toNat : Nat) : Int) < 48 := by omega
      have hhi2 : ¬ 57 < ((b.toNat : Nat) : Int) := by omega
      clear HN HY
      generalize hK : digK s k = K at *
      have HK := Lib.hid hK
      clear hK
      go_wp2_with (at_builtin; refine wpList_append_own_at _ rfl _ _ 37 rfl w.heap.size 2 i0 (.int .i64 0) 1 8 Tryz.underlying37 hi hz0 hz1 hz2 rfl (by decide) _ _ _ rfl (own_ext ho ((Ext.refl' wr).alloc (Nat.le_refl _) _)) ⟨wr.heap.size, 0, none⟩ 1 1 [.int .i64 ((b.toNat : Int) - 48)] rfl rfl (cells_one (by simp [go_sem])) (by simp [Value.oneCell']) (by unfold maxLen; omega) (by omega) (by simp; omega) ?_)
      intro v' w5 ho5 hg5 _ hat
      have hAA : Ext wr (wr.alloc (.cells #[.int .i64 ((b.toNat : Int) - 48)] 2)) := (Ext.refl' wr).alloc (Nat.le_refl _) _
      have hE5 : Ext w w5 := (hE.tr hAA).grown hg5 (by simp; omega) (fun h hh => (ho.lt h hh).1)
      have hz5 : w.heap.size + 2 ≤ w5.heap.size := by have := hg5.size; simp at this; omega
      have ho6 : w5.ownsRow w.heap.size 2 1 v' (digK s (k + 1)).length ((digK s (k + 1)).map (Value.int .i64)) := by rw [HS.out, List.map_append, List.length_append]; exact ho5
      have hne5 : v'.ownBlock ≠ some (w.heap.size + 1) := by
        rcases hat with h | h
        · rw [h]; exact hne
        · rw [h]; simp; omega
      have HC5 := Lib.hid (show ∀ j, j < s.size → w5.cell? ⟨w.heap.size + 1, j, none⟩ = some (.int .u8 (s.data.toList.getD j 0).toNat) from fun j hj => hg5.cell (hAA.cell (HCr.out j hj)) (fun h => hne h.symm))
      clear ho hg5 hAA ho5 hE hz hat hne HCr hck
      go_wp2_with fail
      go_roundw
      case rel => exact ⟨k + 1, by omega, by go_num, hE5, hz5, HC5, hne5, ho6, hn⟩
      case measure => simp [intOf]; omega
    · have hke : k = s.size := by omega
      subst hke
      have HR := Lib.hid (rdg_yes HD.out)
      go_wp2_with fail
      go_ret
      exact ⟨_, _, rfl, hE, by rw [HR.out]; exact ⟨own_base ho (fun _ _ => Nat.zero_le _), rfl⟩, fun g hg => (ho.lt g (by simpa using hg)).1⟩
end Go.Proofs.YtajkepdfemdagaaGreatDoor
namespace Go.Proofs.YtajkepdfemdagaaGreatDoor
open Go.ChangeShapes Go.WideShapes Go.ChangeAt Go.RowKit Go.Joins Go.Deep
set_option linter.unusedVariables false

theorem gTab : Tryz.prog.globalNamed "internal/strconv.uint64pow10" = some 5 := by kernel_rfl
theorem tTab : (Tryz.prog.globals[5]?).map (·.type) = some 219 := by kernel_rfl
theorem gSyn : Tryz.prog.globalNamed "strconv.ErrSyntax" = some 1 := by kernel_rfl
theorem tSyn : (Tryz.prog.globals[1]?).map (·.type) = some 111 := by kernel_rfl
theorem gRng : Tryz.prog.globalNamed "strconv.ErrRange" = some 2 := by kernel_rfl
theorem tRng : (Tryz.prog.globals[2]?).map (·.type) = some 111 := by kernel_rfl
theorem sentinel_cell {W : World} {n nm : String} {d : DataW Unit} {g : Nat} (h : Lib.VarReads Tryz.prog W n (.iface nm d)) (hg : Tryz.prog.globalNamed n = some g) (ht : (Tryz.prog.globals[g]?).map (·.type) = some 111) :
    ∃ ev, W.cell? ⟨g, 0, none⟩ = some ev ∧ (ev = .nilIface ∨ ∃ te pe, ev = .iface te pe) := by
  obtain ⟨g', t', cs, fuel, p, hg', ht', hv, hd⟩ := h
  obtain rfl := Option.some.inj (hg.symm.trans hg')
  obtain rfl := Option.some.inj (ht.symm.trans ht')
  obtain ⟨_, u, v, hcs, _, _⟩ := iface_of_trod Tryz.underlying111 hd
  have hc := World.var?_cell hg hv 0
  refine ⟨.iface u v, ?_, .inr ⟨u, v, rfl⟩⟩
  obtain ⟨l⟩ := cs
  simp at hcs
  subst hcs
  simpa using hc
theorem laidW_of {W : World} {l : List (String × DataW Unit)} (hL : laidMet Tryz.prog l W) (h1 : ("internal/strconv.uint64pow10", Rows.laid_internal_strconv_uint64pow10) ∈ l) (h2 : ("strconv.ErrSyntax", Rows.laid_strconv_ErrSyntax) ∈ l) (h3 : ("strconv.ErrRange", Rows.laid_strconv_ErrRange) ∈ l) (hsh : W.ShapedOpen Tryz.prog) : LaidW W := by
  refine ⟨?_, ?_, sentinel_cell (Lib.laidMet.reads hL h2) gSyn tSyn, sentinel_cell (Lib.laidMet.reads hL h3) gRng tRng⟩
  · obtain ⟨g', t', cs, fuel, p, hg', ht', hv, hd⟩ := Lib.laidMet.reads hL h1
    obtain rfl := Option.some.inj (gTab.symm.trans hg')
    obtain rfl := Option.some.inj (tTab.symm.trans ht')
    unfold Lib.TabIs
    rw [hv, ← Lib.cells_of_tab (zs := Lib.pow10Tab) Tryz.underlying219 Tryz.underlying117 (by kernel_rfl) (by kernel_rfl) (show DataW.trod (fun _ => ()) Tryz.prog W 0 (fun _ => true) false fuel 219 cs.toList = some (Lib.tabData .u64 Lib.pow10Tab, p) from hd)]
  · exact cell_of_shapedOpen_int (t := 3) (zero := #[.int .i64 0]) (k := .i64) hsh (by decide +kernel) (by kernel_rfl) rfl (by kernel_rfl) (by kernel_rfl) Tryz.underlying3

set_option maxRecDepth 100000 in
theorem string_of {H : Type} {enc : TypeId × Value → H} {W : World} {v : Value} {d : DataW H} {p : List MemPlace} {b : Nat} (h : DataW.Trod enc Tryz.prog W 0 (fun _ => true) true 9 v d p) (hv : Value.okWide Tryz.prog W .any b 9 v) : ∃ s : ByteArray, v = .string s ∧ s.size ≤ 9223372036854775807 := by
  obtain ⟨s, rfl, _, _, hs⟩ := Go.ChangeMaps.open_string Tryz.underlying9 hv h
  exact ⟨s, rfl, by unfold maxLen at hs; omega⟩

/-- the wrap: what is laid, and the world's shape, handed on -/
theorem handed_sh {H : Type} {enc : TypeId × Value → H} {a : Assume} {C : Checked} {os : Os} {f : FuncId} {fn : Func} {s : ChangeSpec} {conds : List PathCond} {apart fresh handsOn again : Bool} {X : World → Array Value → Prop}
    (hX : ∀ (w w' : World) (args : Array Value), w.heap = w'.heap → X w args → X w' args)
    (own : ownKnob C.prog.godebug = none) (started : os.Started) (noInit : C.prog.inits.idxOf? f = none) (hfn : C.prog.funcs[f]? = some fn)
    (witness : ∃ (w : World) (tape : Tape) (i : Input), w.os = os ∧ (w.forCall tape i).Shaped C.prog ∧ i.vars = [] ∧ Input.okWide C.prog (w.forCall tape i) .any w.heap.size f i ∧
      ((s.pre enc C.prog fn conds apart (w.forCall tape i).memory i.args ∧ X (w.forCall tape i).memory i.args) ∧ sizedMet enc C.prog fn (OpenSpec.ofChange s) apart (w.forCall tape i).memory i.args) ∧ a.holds C.prog (lone (Frame.enter C.prog f i.args .normal) [] (w.forCall tape i)))
    (contract : ∀ (W : World) (base : Nat) (args : Array Value) (ds gs : List (DataW H)) (before : List MemPlace),
      (∀ (j : Nat) t v, fn.params[j]? = some t → args[j]? = some v → Value.okWide C.prog W .any base t v) →
      DataW.Whole enc C.prog fn.params.toList s.vars apart W args.toList ds gs before → X W args → W.ShapedOpen C.prog →
      Calls C.prog f args W fun e W' => ∃ v, e = .returned v ∧ s.post enc C.prog fn apart fresh handsOn again W args v W') :
    ReturnsInHanded a C os f .any (fun w args => (s.pre enc C.prog fn conds apart w args ∧ X w args) ∧ sizedMet enc C.prog fn (OpenSpec.ofChange s) apart w args) (s.post enc C.prog fn apart fresh handsOn again) := by
  refine returnsInHanded_of_calls own started noInit witness ?_
  intro w tape i _ hsh _ hok hpre _
  obtain ⟨_, _, _, fn', hfn', _, _, _, _, hval⟩ := hok
  obtain rfl : fn' = fn := Option.some.inj (hfn'.symm.trans hfn)
  obtain ⟨⟨⟨ds, gs, before, hw, _⟩, hx⟩, _⟩ := hpre
  refine (contract (w.forCall tape i) w.heap.size i.args ds gs before hval (DataW.Whole.of_heap (w' := w.forCall tape i) (by rfl) hw) (hX _ _ _ (by rfl) hx) hsh).mono fun e W' ⟨v, he, hp⟩ => ?_
  subst he
  exact ChangeSpec.post_blind hp
end Go.Proofs.YtajkepdfemdagaaGreatDoor
