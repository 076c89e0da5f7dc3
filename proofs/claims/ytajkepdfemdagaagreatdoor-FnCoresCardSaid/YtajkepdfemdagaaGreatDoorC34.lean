/- TemplateText: the program's and the reference's give one text. A template's text read: the plain law. -/
import Derived.Test.YtajkepdfemdagaaGreatDoorC33
import Derived.Test.YtajkepdfemdagaaGreatDoorC23
import Derived.Lib.Strings
namespace Go.Proofs.YtajkepdfemdagaaGreatDoor
open Go.RowKit
set_option linter.unusedVariables false

theorem valid_four {s : Int} {r : RelD} (hv : SValidRel s r = true) : SValidRel 4 r = true := by
  obtain ⟨a1, a2, a3⟩ := valid_parts hv
  have h := hv
  unfold SValidRel at h ⊢
  rw [Bool.and_eq_true, Bool.and_eq_true, List.all_eq_true] at h ⊢
  refine ⟨⟨by decide, h.1.2⟩, fun k hk => ?_⟩
  have h1 := h.2 k hk
  unfold okT at h1 ⊢
  rw [Bool.and_eq_true] at h1 ⊢
  refine ⟨?_, h1.2⟩
  obtain ⟨h2, h3⟩ := vals_iff.1 h1.1
  exact vals_iff.2 ⟨h2, fun a ha => by have := h3 a ha; omega⟩
def linesB (L : List RelD) : ByteArray := L.foldl (fun a r => a ++ (relB r ++ ⟨#[10]⟩)) ByteArray.empty
theorem linesB_snoc (L : List RelD) (r : RelD) : linesB (L ++ [r]) = linesB L ++ (relB r ++ ⟨#[10]⟩) := by simp [linesB]
def tmK (t : Int × List RelD) (k : Nat) : ByteArray := (⟨#[116, 101, 109, 112, 108, 97, 116, 101, 32]⟩ : ByteArray) ++ decB t.1 ++ ⟨#[10]⟩ ++ linesB (t.2.take k)
def tmB (t : Int × List RelD) : ByteArray := tmK t t.2.length
theorem tmK_succ {t : Int × List RelD} {k : Nat} (hk : k < t.2.length) : tmK t (k + 1) = tmK t k ++ (relB t.2[k] ++ ⟨#[10]⟩) := by
  unfold tmK
  rw [List.take_succ_eq_append_getElem hk, linesB_snoc]
  simp only [ByteArray.append_assoc]
theorem relB_size {r : RelD} (h : SValidRel 4 r = true) : (relB r).size ≤ 1300 := accB_size h _
theorem linesB_size : ∀ (L : List RelD), (∀ r ∈ L, SValidRel 4 r = true) → (linesB L).size ≤ 1301 * L.length := by
  intro L
  rw [← List.reverse_reverse L]
  generalize L.reverse = L'
  clear L
  induction L' with
  | nil => intro _; simp [linesB]
  | cons a xs ih =>
    intro h
    rw [List.reverse_cons] at h ⊢
    have ha := relB_size (h a (by simp))
    have h1 := ih fun t ht => h t (List.mem_append_left _ ht)
    rw [linesB_snoc, ByteArray.size_append, ByteArray.size_append, List.length_append]
    simp only [List.length_cons, List.length_nil]
    have : (⟨#[10]⟩ : ByteArray).size = 1 := rfl
    omega
theorem tmText_parts {t : Int × List RelD} (h : SValidTemplate t = true) : (1 ≤ t.1 ∧ t.1 ≤ 4) ∧ t.2.length ≤ 6 ∧ (∀ r ∈ t.2, SValidRel 4 r = true) ∧ ∀ k, (tmK t k).size ≤ 8000 := by
  have h1 := valid_tm h
  have h2 := valid_tm_len h
  have h3 : 1 ≤ t.1 ∧ t.1 ≤ 4 := by
    unfold SValidTemplate at h
    rw [Bool.and_eq_true, Bool.and_eq_true] at h
    exact inB_iff.1 h.1
  have h4 : ∀ r ∈ t.2, SValidRel 4 r = true := fun r hr => valid_four (h1 r hr)
  refine ⟨h3, h2, h4, fun k => ?_⟩
  have h5 := linesB_size (t.2.take k) fun r hr => h4 r (List.mem_of_mem_take hr)
  have h6 : (decB t.1).size = 1 := decB_size (by omega) (by omega)
  have h7 : (⟨#[116, 101, 109, 112, 108, 97, 116, 101, 32]⟩ : ByteArray).size = 9 := rfl
  have h8 : (⟨#[10]⟩ : ByteArray).size = 1 := rfl
  rw [List.length_take] at h5
  unfold tmK
  rw [ByteArray.size_append, ByteArray.size_append, ByteArray.size_append]
  omega
def STemplateText (t : Int × List RelD) : ByteArray := if SValidTemplate t then tmB t else ByteArray.empty
theorem tmText_yes {t : Int × List RelD} (h : SValidTemplate t = true) : STemplateText t = tmB t := by unfold STemplateText; rw [h]; rfl
theorem tmText_no {t : Int × List RelD} (h : SValidTemplate t = false) : STemplateText t = ByteArray.empty := by unfold STemplateText; rw [h]; rfl

set_option maxHeartbeats 4000000 in
set_option maxRecDepth 100000 in
theorem templateText_any (t : Int × List RelD) (v : Value) (w : World) (hr : RdTm w v t) (hv : SValidTemplate t = true) :
    Calls Tryz.prog 48 #[v] w fun e w' => e = .returned (.string (tmB t)) ∧ Ext w w' := by
  obtain ⟨b1, b2, b3, b4⟩ := tmText_parts hv
  clear hv
  obtain ⟨tv, rfl, hr⟩ := hr
  obtain ⟨ta, tb, to, tc, tvs, rfl, hlc, hcm, ha, hc⟩ := hr
  have d1 : (decB t.1).size = 1 := decB_size (by omega) (by omega)
  have hE1 : Ext w (w.alloc (.cells #[.int .i64 t.1, .slice ta t.2.length tc] 24)) := (Ext.refl' w).alloc (Nat.le_refl _) _
  go_enter Tryz.func48, Tryz.ntmps48
  go_wp2_with fail
  refine (dec_any t.1 _ (by omega) (by omega)).mono ?_
  rintro e w1 ⟨rfl, rfl⟩
  go_wp2_with fail
  go_loopw [3, 14] (fun u i wr => ∃ k : Nat, k ≤ t.2.length ∧ i = .int .i64 k ∧ u = .string (tmK t k) ∧ Ext w wr) (fun _ i _ => t.2.length - (intOf i).toNat)
  case atStart => exact ⟨0, by omega, rfl, by simp [tmK, linesB], hE1⟩
  case round =>
    obtain ⟨k, hk, rfl, rfl, hE⟩ := hrel
    have hs := b4 k
    by_cases hkl : k < t.2.length
    · obtain rfl := ha (by omega)
      obtain ⟨q0, q1, q2⟩ := hc k hkl
      replace q0 := hE.cell q0
      replace q1 := hE.cell q1
      replace q2 := q2.ext hE
      have hv := b3 t.2[k] (List.getElem_mem hkl)
      have HS := Lib.hid (tmK_succ hkl)
      have hrs := relB_size hv
      clear hc b4
      generalize tmK t k = A at *
      obtain ⟨ka, kc, hkv⟩ := q2.form
      rw [hkv] at q1 q2
      clear hkv
      have hE2 : Ext wr (wr.alloc (.cells #[.int .i64 t.2[k].1, .slice ka t.2[k].2.length kc] 35)) := (Ext.refl' wr).alloc (Nat.le_refl _) _
      go_wp2_with fail
      refine (relText_any t.2[k] _ _ ⟨_, rfl, q2.ext hE2⟩ hv).mono ?_
      rintro e w3 ⟨rfl, hE3⟩
      go_wp2_with fail
      go_roundw
      case rel => exact ⟨k + 1, by omega, by go_num, congrArg Value.string HS.out.symm, (hE.tr hE2).tr hE3⟩
      case measure => simp [intOf]; omega
    · have HT := Lib.hid (show tmK t k = tmB t from by unfold tmB; rw [show k = t.2.length by omega])
      go_wp2_with fail
      go_ret
      exact ⟨by rw [← HT.out]; rfl, hE⟩
set_option maxHeartbeats 1000000 in
theorem implTemplateText_any (t : Int × List RelD) (v : Value) (w : World) (hr : RdTm w v t) (hz : szTm t ≤ 1048576) :
    Calls Tryz.prog 29 #[v] w fun e w' => e = .returned (.string (STemplateText t)) ∧ Ext w w' := by
  obtain ⟨tv, rfl, hr⟩ := hr
  have hE1 : Ext w (w.alloc (.cells #[.int .i64 t.1, tv] 24)) := (Ext.refl' w).alloc (Nat.le_refl _) _
  cases h : SValidTemplate t with
  | false =>
    have HS := Lib.hid (tmText_no h)
    go_enter Tryz.func29, Tryz.ntmps29
    go_wp2_with fail
    refine (implValidTemplate_any t _ _ ⟨_, rfl, hr.ext hE1⟩ hz).mono ?_
    rintro e w1 ⟨rfl, hE⟩
    rw [h]
    go_wp2_with fail
    go_ret
    exact ⟨by rw [HS.out]; rfl, hE1.tr hE⟩
  | true =>
    have HS := Lib.hid (tmText_yes h)
    go_enter Tryz.func29, Tryz.ntmps29
    go_wp2_with fail
    refine (implValidTemplate_any t _ _ ⟨_, rfl, hr.ext hE1⟩ hz).mono ?_
    rintro e w1 ⟨rfl, hE⟩
    rw [h]
    have c0 := hE.cell (p := ⟨w.heap.size, 0, none⟩) (v := .int .i64 t.1) (by simp [go_sem])
    have c1 := hE.cell (p := ⟨w.heap.size, 1, none⟩) (v := tv) (by simp [go_sem])
    go_wp2_with fail
    refine (templateText_any t _ _ ⟨_, rfl, hr.ext (hE1.tr hE)⟩ h).mono ?_
    rintro e w2 ⟨rfl, hE2⟩
    go_wp2_with fail
    go_ret
    exact ⟨by rw [HS.out]; rfl, (hE1.tr hE).tr hE2⟩
end Go.Proofs.YtajkepdfemdagaaGreatDoor
namespace Go.Proofs.YtajkepdfemdagaaGreatDoor
open Go.RowKit
set_option linter.unusedVariables false

def IsTmOf (s : ByteArray) (t : Int × List RelD) : Prop := SValidTemplate t = true ∧ tmB t = s
def headB (n : Int) : ByteArray := (⟨#[116, 101, 109, 112, 108, 97, 116, 101, 32]⟩ : ByteArray) ++ decB n
/-- without the last line's end -/
def trimB (s : ByteArray) : ByteArray := ⟨(Lib.trimSuffix s.data.toList [10]).toArray⟩
/-- without the word ahead -/
def cutB (s : ByteArray) : ByteArray := if Lib.hasPrefix s.data.toList [116, 101, 109, 112, 108, 97, 116, 101, 32] then s.extract 9 s.size else s
theorem no_ten_dec {a : Int} (h0 : 0 ≤ a) (h1 : a < 10) : (10 : UInt8) ∉ (decB a).data.toList := by
  rw [decB_list h0 h1, List.mem_singleton]
  intro h
  have := congrArg UInt8.toNat h
  rw [ofNat_dig h0 h1] at this
  have : (10 : UInt8).toNat = 10 := rfl
  omega
theorem no_ten_dig {l : List Int} (h : ∀ x ∈ l, 0 ≤ x ∧ x < 10) : (10 : UInt8) ∉ (digB l).data.toList := by
  rw [digB_bytes l h]
  intro hm
  obtain ⟨x, hx, he⟩ := List.mem_map.1 hm
  have hx := h x hx
  have := congrArg UInt8.toNat he
  rw [ofNat_dig hx.1 hx.2] at this
  have : (10 : UInt8).toNat = 10 := rfl
  omega
theorem no_join {c : UInt8} {sep : List UInt8} (h0 : c ∉ sep) : ∀ (ws : List (List UInt8)), (∀ w ∈ ws, c ∉ w) → c ∉ Lib.join ws sep
  | [], _ => by simp [Lib.join]
  | w :: ws, h => by
    rw [Lib.join_cons]
    intro hm
    rcases List.mem_append.1 hm with hm | hm
    · exact h w (by simp) hm
    · simp only [Lib.joinTail, List.mem_flatten, List.mem_map] at hm
      obtain ⟨_, ⟨x, hx, rfl⟩, hm⟩ := hm
      rcases List.mem_append.1 hm with hm | hm
      · exact h0 hm
      · exact h x (by simp [hx]) hm
theorem no_ten_rel {r : RelD} (h : SValidRel 4 r = true) : (10 : UInt8) ∉ (relB r).data.toList := by
  obtain ⟨b1, b2, b3, b4⟩ := text_parts h
  rw [← relB_join r]
  refine no_join (by decide) _ fun w hw => ?_
  obtain ⟨x, hx, rfl⟩ := List.mem_map.1 hw
  unfold relK at hx
  rw [List.take_length] at hx
  rcases List.mem_cons.1 hx with rfl | hx
  · decide
  rcases List.mem_cons.1 hx with rfl | hx
  · exact no_ten_dec (by omega) (by omega)
  · obtain ⟨t, ht, rfl⟩ := List.mem_map.1 hx
    exact no_ten_dig (b4 t ht).2
theorem no_ten_head {n : Int} (h0 : 0 ≤ n) (h1 : n < 10) : (10 : UInt8) ∉ (headB n).data.toList := by
  unfold headB
  rw [ByteArray.data_append, Array.toList_append]
  intro hm
  rcases List.mem_append.1 hm with hm | hm
  · revert hm
    decide
  · exact no_ten_dec h0 h1 hm
theorem head_words {n : Int} (h0 : 0 ≤ n) (h1 : n < 10) : words 32 (headB n) = [⟨#[116, 101, 109, 112, 108, 97, 116, 101]⟩, decB n] := by
  refine words_join ?_ (by simp) ?_
  · unfold headB
    simp only [ByteArray.data_append, Array.toList_append, List.map_cons, List.map_nil, Lib.join_cons, Lib.joinTail, List.flatten_cons, List.flatten_nil, List.append_nil]
    simp
  · intro w hw
    simp only [List.mem_cons, List.not_mem_nil, or_false] at hw
    rcases hw with rfl | rfl
    · decide
    · exact no_space_dec h0 h1
theorem head_cut (n : Int) : cutB (headB n) = decB n := by
  have hd : (headB n).data.toList = [116, 101, 109, 112, 108, 97, 116, 101, 32] ++ (decB n).data.toList := by unfold headB; rw [ByteArray.data_append, Array.toList_append]
  have hp : Lib.hasPrefix (headB n).data.toList [116, 101, 109, 112, 108, 97, 116, 101, 32] = true := by
    rw [hd]
    unfold Lib.hasPrefix
    exact List.isPrefixOf_iff_prefix.2 (List.prefix_append _ _)
  unfold cutB
  rw [if_pos hp]
  apply data_inj
  rw [Lib.extract_data, hd]
  have hz : (headB n).size = 9 + (decB n).data.toList.length := by rw [Lib.size_eq, hd, List.length_append]; rfl
  rw [hz]
  show List.take _ (decB n).data.toList = _
  rw [show 9 + (decB n).data.toList.length - 9 = (decB n).data.toList.length by omega, List.take_length]
theorem linesB_list : ∀ (L : List RelD), (10 : UInt8) :: (linesB L).data.toList = Lib.joinTail [10] (L.map fun r => (relB r).data.toList) ++ [10] := by
  intro L
  rw [← List.reverse_reverse L]
  generalize L.reverse = L'
  clear L
  induction L' with
  | nil => rfl
  | cons a xs ih =>
    rw [List.reverse_cons, linesB_snoc]
    simp only [ByteArray.data_append, Array.toList_append, Lib.joinTail, List.map_append, List.flatten_append, List.map_cons, List.map_nil, List.flatten_cons, List.flatten_nil, List.append_nil] at ih ⊢
    rw [← List.cons_append, ih]
    simp
theorem tm_list (t : Int × List RelD) : (tmB t).data.toList = Lib.join ((headB t.1 :: t.2.map relB).map (·.data.toList)) [10] ++ [10] := by
  unfold tmB tmK
  rw [List.take_length, List.map_cons, Lib.join_cons, List.map_map]
  simp only [ByteArray.data_append, Array.toList_append, List.append_assoc]
  have h := linesB_list t.2
  have e : (fun r => (relB r).data.toList) = ((fun x : ByteArray => x.data.toList) ∘ relB) := rfl
  rw [e] at h
  rw [← h]
  unfold headB
  simp only [ByteArray.data_append, Array.toList_append, List.append_assoc]
  rfl
theorem joinTail_end (xs : List (List UInt8)) : Lib.joinTail [10] (xs ++ [[]]) = Lib.joinTail [10] xs ++ [10] := by simp [Lib.joinTail]
theorem tm_list2 (t : Int × List RelD) : (tmB t).data.toList = Lib.join ((headB t.1 :: (t.2.map relB ++ [ByteArray.empty])).map (·.data.toList)) [10] := by
  rw [tm_list]
  simp only [List.map_cons, List.map_append, Lib.join_cons, List.map_nil]
  have : (ByteArray.empty).data.toList = ([] : List UInt8) := rfl
  rw [this, joinTail_end, List.append_assoc]
theorem tm_bounds {t : Int × List RelD} (h : SValidTemplate t = true) : (0 ≤ t.1 ∧ t.1 < 10) ∧ t.2.length ≤ 6 ∧ ∀ r ∈ t.2, SValidRel 4 r = true := by
  obtain ⟨b1, b2, b3, b4⟩ := tmText_parts h
  exact ⟨by omega, b2, b3⟩
theorem tm_no_ten {t : Int × List RelD} (h : SValidTemplate t = true) : ∀ w ∈ headB t.1 :: t.2.map relB, (10 : UInt8) ∉ w.data.toList := by
  obtain ⟨b1, b2, b3⟩ := tm_bounds h
  intro w hw
  rcases List.mem_cons.1 hw with rfl | hw
  · exact no_ten_head b1.1 b1.2
  · obtain ⟨r, hr, rfl⟩ := List.mem_map.1 hw
    exact no_ten_rel (b3 r hr)
theorem tm_words {s : ByteArray} {t : Int × List RelD} (h : IsTmOf s t) : words 10 s = headB t.1 :: (t.2.map relB ++ [ByteArray.empty]) := by
  obtain ⟨h1, rfl⟩ := h
  refine words_join (tm_list2 t) (by simp) ?_
  intro w hw
  rw [← List.cons_append] at hw
  rcases List.mem_append.1 hw with hw | hw
  · exact tm_no_ten h1 w hw
  · rw [List.mem_singleton] at hw
    subst hw
    decide
theorem trim_end (l : List UInt8) : Lib.trimSuffix (l ++ [10]) [10] = l := by
  have hp : Lib.hasSuffix (l ++ [10]) [10] = true := by
    unfold Lib.hasSuffix
    exact List.isSuffixOf_iff_suffix.2 (List.suffix_append _ _)
  unfold Lib.trimSuffix
  rw [if_pos hp, List.length_append]
  simp
theorem tm_trim {s : ByteArray} {t : Int × List RelD} (h : IsTmOf s t) : words 10 (trimB s) = headB t.1 :: t.2.map relB := by
  obtain ⟨h1, rfl⟩ := h
  refine words_join ?_ (by simp) (tm_no_ten h1)
  unfold trimB
  rw [tm_list, trim_end]
theorem trimB_size (s : ByteArray) : (trimB s).size ≤ s.size := by
  rw [Lib.size_eq, Lib.size_eq]
  exact Lib.trimSuffix_le _ _
theorem cutB_size (s : ByteArray) : (cutB s).size ≤ s.size := by
  unfold cutB
  split
  · rw [Lib.size_eq, Lib.extract_data, List.length_take, Lib.size_eq]
    omega
  · exact Nat.le_refl _
/-- the template that the program reads from a text -/
def SrdT (s : ByteArray) : Int × List RelD :=
  match words 10 (trimB s) with
  | l0 :: rest => (rnV (cutB l0), rest.map SrdR)
  | [] => noTm
theorem srd_rels {L : List RelD} (h : ∀ r ∈ L, SValidRel 4 r = true) : (L.map relB).map SrdR = L := by
  rw [List.map_map]
  refine Eq.trans (List.map_congr_left fun r hr => ?_) (List.map_id _)
  exact rdR_of ⟨h r hr, rfl⟩
theorem rdT_of {s : ByteArray} {t : Int × List RelD} (h : IsTmOf s t) : SrdT s = t := by
  obtain ⟨b1, b2, b3⟩ := tm_bounds h.1
  unfold SrdT
  rw [tm_trim h]
  show (rnV (cutB (headB t.1)), (t.2.map relB).map SrdR) = t
  rw [head_cut, srd_rels b3]
  have h4 := (tmText_parts h.1).1
  have h1 : rnV (decB t.1) = t.1 := ((rnV_num (decB t.1)).2 t.1 h4.1 h4.2).2 rfl
  rw [h1]
theorem tm_size {s : ByteArray} {t : Int × List RelD} (h : IsTmOf s t) : s.size ≤ 8000 := by
  obtain ⟨h1, rfl⟩ := h
  exact (tmText_parts h1).2.2.2 _
def SReadTemplate (s : ByteArray) : (Int × List RelD) × Int :=
  if 20000 < s.size then (noTm, 2) else if SValidTemplate (SrdT s) && decide (tmB (SrdT s) = s) then (SrdT s, 0) else (noTm, 5)
theorem readTm_big {s : ByteArray} (h : 20000 < s.size) : SReadTemplate s = (noTm, 2) := by unfold SReadTemplate; rw [if_pos h]
theorem readTm_yes {s : ByteArray} {t : Int × List RelD} (h : IsTmOf s t) : SReadTemplate s = (t, 0) := by
  have hz := tm_size h
  unfold SReadTemplate
  rw [if_neg (by omega), rdT_of h, h.1, h.2]
  simp
theorem readTm_no {s : ByteArray} (hz : ¬ 20000 < s.size) (h : ∀ t, ¬ IsTmOf s t) : SReadTemplate s = (noTm, 5) := by
  unfold SReadTemplate
  rw [if_neg hz, if_neg]
  intro hh
  rw [Bool.and_eq_true, decide_eq_true_eq] at hh
  exact h _ hh
/-- the parts are as they must be: it is the template -/
theorem tm_from {s l0 wa : ByteArray} {ws : List ByteArray} {v : Int} {L : List RelD} (hw : words 10 s = l0 :: (ws ++ [ByteArray.empty])) (h0 : words 32 l0 = [⟨#[116, 101, 109, 112, 108, 97, 116, 101]⟩, wa]) (hn : NumOf wa v) (hL : L.map relB = ws) (hv : SValidTemplate (v, L) = true) : IsTmOf s (v, L) := by
  refine ⟨hv, data_inj ?_⟩
  have h4 := (tmText_parts hv).1
  have hd : wa = decB v := (hn.2 v h4.1 h4.2).1 rfl
  have hl : l0 = headB v := by
    apply data_inj
    rw [← join_words 32 l0, h0, hd]
    unfold headB
    simp only [ByteArray.data_append, Array.toList_append, List.map_cons, List.map_nil, Lib.join_cons, Lib.joinTail, List.flatten_cons, List.flatten_nil, List.append_nil]
    simp
  rw [tm_list2, ← join_words 10 s, hw, hl]
  show _ = Lib.join ((headB v :: (ws ++ [ByteArray.empty])).map (·.data.toList)) [10]
  rw [← hL]
/-- the template that a text may be read as -/
theorem tm_only {s l0 wa : ByteArray} {ws : List ByteArray} {v : Int} {L : List RelD} (hw : words 10 s = l0 :: (ws ++ [ByteArray.empty])) (h0 : words 32 l0 = [⟨#[116, 101, 109, 112, 108, 97, 116, 101]⟩, wa]) (hn : NumOf wa v) (hL : L.map relB = ws) (hv : ∀ r ∈ L, SValidRel 4 r = true) {t : Int × List RelD} (h : IsTmOf s t) : t = (v, L) := by
  have h1 := tm_words h
  obtain ⟨b1, b2, b3⟩ := tm_bounds h.1
  have h4 := (tmText_parts h.1).1
  rw [hw] at h1
  injection h1 with h1 h2
  rw [h1, head_words b1.1 b1.2] at h0
  simp only [List.cons.injEq, true_and, and_true] at h0
  have e1 : v = t.1 := (hn.2 t.1 h4.1 h4.2).2 h0.symm
  have e2 : ws = t.2.map relB := List.append_cancel_right h2
  rw [← hL] at e2
  have e3 : L = t.2 := by rw [← srd_rels hv, e2, srd_rels b3]
  rw [e1, e3]
theorem readTm_5 {s : ByteArray} (hz : ¬ 20000 < s.size) (h : SValidTemplate (SrdT s) = false) : SReadTemplate s = (noTm, 5) := by
  unfold SReadTemplate
  rw [if_neg hz, h]
  rfl
theorem readTm_5b {s : ByteArray} (hz : ¬ 20000 < s.size) (h : ¬ tmB (SrdT s) = s) : SReadTemplate s = (noTm, 5) := by
  unfold SReadTemplate
  rw [if_neg hz, decide_eq_false h, Bool.and_false]
  rfl
theorem mkRelS_four : ∀ (L : List RelD), (∀ r ∈ L, SValidRel 4 r = true) → mkRelS L ≤ 1400 * L.length
  | [], _ => by simp [mkRelS]
  | r :: L, h => by
    have h1 := mkRelS_four L fun x hx => h x (List.mem_cons_of_mem _ hx)
    obtain ⟨b1, b2, b3, b4⟩ := text_parts (h r (by simp))
    have h2 := szII_four r.2 fun t ht => (b4 t ht).1
    have h3 := mkRel_le r
    have h4 : szRel r ≤ 1280 := by unfold szRel; omega
    simp only [mkRelS, List.length_cons]
    omega
theorem tm_mk {t : Int × List RelD} (h : SValidTemplate t = true) : mkTm t ≤ 1048576 := by
  obtain ⟨b1, b2, b3⟩ := tm_bounds h
  have := mkRelS_four t.2 b3
  show mkRelS t.2 ≤ 1048576
  omega
end Go.Proofs.YtajkepdfemdagaaGreatDoor
