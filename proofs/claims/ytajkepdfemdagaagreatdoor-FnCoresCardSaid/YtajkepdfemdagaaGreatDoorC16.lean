/- Texts cut at a byte, and put together: plain laws. A text cut at a byte: the library's Split and the reference's. -/
import Derived.Lib.SplitLaws
import Derived.Lib.Join
import Derived.Test.YtajkepdfemdagaaGreatDoorC02
import Derived.Test.YtajkepdfemdagaaGreatDoorShelf
namespace Go.Proofs.YtajkepdfemdagaaGreatDoor

/-- a text cut at a byte -/
def splitC (c : UInt8) : List UInt8 → List (List UInt8)
  | [] => [[]]
  | b :: l => if b = c then [] :: splitC c l else match splitC c l with
    | [] => [[b]]
    | h :: t => (b :: h) :: t
theorem splitC_ne (c : UInt8) : ∀ l, splitC c l ≠ []
  | [] => by simp [splitC]
  | b :: l => by
    unfold splitC
    split
    · simp
    · split <;> simp
theorem splitC_cons {c b : UInt8} {l : List UInt8} (h : b ≠ c) : ∃ x t, splitC c l = x :: t ∧ splitC c (b :: l) = (b :: x) :: t := by
  cases hs : splitC c l with
  | nil => exact absurd hs (splitC_ne c l)
  | cons x t => exact ⟨x, t, rfl, by unfold splitC; rw [if_neg h, hs]⟩
theorem splitC_at {c : UInt8} {l : List UInt8} : splitC c (c :: l) = [] :: splitC c l := by rw [splitC, if_pos rfl]
/-- up to the first such byte -/
theorem splitC_first {c : UInt8} (rest : List UInt8) : ∀ (w : List UInt8), c ∉ w → splitC c (w ++ c :: rest) = w :: splitC c rest
  | [], _ => splitC_at
  | b :: w, h => by
    have hb : b ≠ c := fun e => h (by simp [e])
    have ih := splitC_first rest w fun hm => h (List.mem_cons_of_mem _ hm)
    obtain ⟨x, t, h1, h2⟩ := splitC_cons (l := w ++ c :: rest) hb
    rw [List.cons_append, h2]
    rw [ih] at h1
    injection h1 with h1 h3
    rw [h1, h3]
theorem splitC_last {c : UInt8} : ∀ (w : List UInt8), c ∉ w → splitC c w = [w]
  | [], _ => rfl
  | b :: w, h => by
    have hb : b ≠ c := fun e => h (by simp [e])
    have ih := splitC_last w fun hm => h (List.mem_cons_of_mem _ hm)
    obtain ⟨x, t, h1, h2⟩ := splitC_cons (l := w) hb
    rw [h2]
    rw [ih] at h1
    injection h1 with h1 h3
    rw [← h1, ← h3]
theorem splitC_mem {c : UInt8} : ∀ (l : List UInt8), ∀ w ∈ splitC c l, c ∉ w
  | [], w, h => by simp [splitC] at h; simp [h]
  | b :: l, w, h => by
    by_cases hb : b = c
    · subst hb
      rw [splitC_at] at h
      rcases List.mem_cons.1 h with rfl | h
      · simp
      · exact splitC_mem l w h
    · obtain ⟨x, t, h1, h2⟩ := splitC_cons (l := l) hb
      have ih := splitC_mem (c := c) l
      rw [h1] at ih
      rw [h2] at h
      rcases List.mem_cons.1 h with rfl | h
      · intro hm
        rcases List.mem_cons.1 hm with h3 | h3
        · exact hb h3.symm
        · exact ih x List.mem_cons_self h3
      · exact ih w (List.mem_cons_of_mem _ h)
/-- cut and put together -/
theorem join_splitC {c : UInt8} : ∀ (l : List UInt8), Lib.join (splitC c l) [c] = l
  | [] => rfl
  | b :: l => by
    have ih := join_splitC (c := c) l
    by_cases hb : b = c
    · subst hb
      rw [splitC_at]
      cases hs : splitC b l with
      | nil => exact absurd hs (splitC_ne b l)
      | cons x t =>
        rw [hs, Lib.join_cons] at ih
        rw [Lib.join_cons]
        simp only [Lib.joinTail, List.map_cons, List.flatten_cons, List.nil_append, List.cons_append] at ih ⊢
        rw [ih]
    · obtain ⟨x, t, h1, h2⟩ := splitC_cons (l := l) hb
      rw [h2]
      rw [h1, Lib.join_cons] at ih
      rw [Lib.join_cons, List.cons_append, ih]
/-- put together and cut -/
theorem splitC_join {c : UInt8} : ∀ (ws : List (List UInt8)), ws ≠ [] → (∀ w ∈ ws, c ∉ w) → splitC c (Lib.join ws [c]) = ws
  | [], h, _ => absurd rfl h
  | [w], _, h => by rw [Lib.join_one]; exact splitC_last w (h w (by simp))
  | w :: x :: ws, _, h => by
    have ih := splitC_join (x :: ws) (by simp) fun y hy => h y (List.mem_cons_of_mem _ hy)
    rw [Lib.join_cons] at ih ⊢
    have : w ++ Lib.joinTail [c] (x :: ws) = w ++ c :: (x ++ Lib.joinTail [c] ws) := by simp [Lib.joinTail]
    rw [this, splitC_first _ w (h w (by simp)), ih]
/-- the library's cut is this one -/
theorem splitK_cons_ne {c b : UInt8} {l : List UInt8} (h : b ≠ c) (n : Nat) : ∃ x t, Lib.splitK [c] 0 n l = x :: t ∧ Lib.splitK [c] 0 n (b :: l) = (b :: x) :: t := by
  have hp : ([c] : List UInt8).isPrefixOf (b :: l) = false := by simp [List.isPrefixOf, Ne.symm h]
  have hix : Lib.index (b :: l) [c] = if Lib.index l [c] == -1 then -1 else Lib.index l [c] + 1 := by rw [Lib.index, hp]; simp
  cases n with
  | zero => exact ⟨l, [], rfl, rfl⟩
  | succ n =>
    by_cases hm : Lib.index l [c] = -1
    · refine ⟨l, [], ?_, ?_⟩
      · unfold Lib.splitK; rw [if_pos (beq_iff_eq.2 hm)]
      · unfold Lib.splitK; rw [if_pos (beq_iff_eq.2 (by rw [hix, if_pos (beq_iff_eq.2 hm)]))]
    · have hge := Lib.index_ge l [c]
      obtain ⟨j, hj⟩ : ∃ j : Nat, Lib.index l [c] = j := ⟨(Lib.index l [c]).toNat, by omega⟩
      have hix' : Lib.index (b :: l) [c] = ((j + 1 : Nat) : Int) := by rw [hix, if_neg (fun e => hm (beq_iff_eq.1 e)), hj]; omega
      refine ⟨l.take j, Lib.splitK [c] 0 n (l.drop (j + 1)), ?_, ?_⟩
      · rw [Lib.splitK, if_neg (fun e => hm (beq_iff_eq.1 e)), hj]; simp
      · rw [Lib.splitK, if_neg (fun e => by have := beq_iff_eq.1 e; omega), hix']
        have : (((j + 1 : Nat) : Int)).toNat = j + 1 := by omega
        rw [this]
        simp
theorem split_splitC (c : UInt8) : ∀ (l : List UInt8), Lib.splitK [c] 0 (Lib.count l [c]) l = splitC c l
  | [] => by
    rw [Lib.count_miss (by simp [Lib.index])]
    rfl
  | b :: l => by
    have ih := split_splitC c l
    by_cases hb : b = c
    · subst hb
      have hix : Lib.index (b :: l) [b] = ((0 : Nat) : Int) := by rw [Lib.index]; simp [List.isPrefixOf]
      rw [Lib.count_cons_eq, Nat.add_comm, Lib.splitK, if_neg (fun e => by have := beq_iff_eq.1 e; omega), hix, splitC_at]
      simp
      exact ih
    · rw [Lib.count_cons_ne b c l hb]
      obtain ⟨x, t, h1, h2⟩ := splitK_cons_ne (l := l) hb (Lib.count l [c])
      obtain ⟨y, u, h3, h4⟩ := splitC_cons (l := l) hb
      rw [h2, h4]
      rw [h1, h3] at ih
      injection ih with i1 i2
      rw [i1, i2]
end Go.Proofs.YtajkepdfemdagaaGreatDoor
namespace Go.Proofs.YtajkepdfemdagaaGreatDoor
open Go.RowKit
set_option linter.unusedVariables false

/-- the words of a text -/
def words (c : UInt8) (s : ByteArray) : List ByteArray := Lib.splitB ⟨#[c]⟩ 0 (Lib.countB s ⟨#[c]⟩) s
theorem words_data (c : UInt8) (s : ByteArray) : (words c s).map (·.data.toList) = splitC c s.data.toList := by
  unfold words
  rw [Lib.splitB_data]
  exact split_splitC c s.data.toList
theorem data_inj {a b : ByteArray} (h : a.data.toList = b.data.toList) : a = b := ByteArray.ext (Array.ext' h)
theorem map_data_inj : ∀ {xs ys : List ByteArray}, xs.map (·.data.toList) = ys.map (·.data.toList) → xs = ys
  | [], [], _ => rfl
  | [], _ :: _, h => by simp at h
  | _ :: _, [], h => by simp at h
  | x :: xs, y :: ys, h => by
    simp only [List.map_cons, List.cons.injEq] at h
    rw [data_inj h.1, map_data_inj h.2]
/-- a text that is put together of words has these words -/
theorem words_join {c : UInt8} {s : ByteArray} {ws : List ByteArray} (hs : s.data.toList = Lib.join (ws.map (·.data.toList)) [c]) (hne : ws ≠ []) (h : ∀ w ∈ ws, c ∉ w.data.toList) : words c s = ws := by
  apply map_data_inj
  rw [words_data, hs, splitC_join _ (by simpa using hne)]
  intro w hw
  obtain ⟨x, hx, rfl⟩ := List.mem_map.1 hw
  exact h x hx
theorem join_words (c : UInt8) (s : ByteArray) : Lib.join ((words c s).map (·.data.toList)) [c] = s.data.toList := by rw [words_data, join_splitC]
theorem words_ne (c : UInt8) (s : ByteArray) : 0 < (words c s).length := by
  have h : ((words c s).map (·.data.toList)).length = (splitC c s.data.toList).length := by rw [words_data]
  rw [List.length_map] at h
  rw [h]
  exact List.length_pos_iff.2 (splitC_ne c _)
theorem splitC_length (c : UInt8) : ∀ l : List UInt8, (splitC c l).length ≤ l.length + 1
  | [] => by simp [splitC]
  | b :: l => by
    have ih := splitC_length c l
    by_cases hb : b = c
    · subst hb
      rw [splitC_at]
      simp only [List.length_cons]
      omega
    · obtain ⟨x, t, h1, h2⟩ := splitC_cons (l := l) hb
      rw [h2]
      rw [h1] at ih
      simp only [List.length_cons] at ih ⊢
      omega
theorem words_length (c : UInt8) (s : ByteArray) : (words c s).length ≤ s.size + 1 := by
  have h : ((words c s).map (·.data.toList)).length = (splitC c s.data.toList).length := by rw [words_data]
  rw [List.length_map] at h
  have := splitC_length c s.data.toList
  rw [Lib.size_eq]
  omega
theorem splitC_size (c : UInt8) : ∀ (l : List UInt8), ∀ w ∈ splitC c l, w.length ≤ l.length
  | [], w, h => by simp [splitC] at h; simp [h]
  | b :: l, w, h => by
    have ih := splitC_size c l
    by_cases hb : b = c
    · subst hb
      rw [splitC_at] at h
      rcases List.mem_cons.1 h with rfl | h
      · simp
      · have := ih w h
        simp only [List.length_cons]
        omega
    · obtain ⟨x, t, h1, h2⟩ := splitC_cons (l := l) hb
      rw [h1] at ih
      rw [h2] at h
      rcases List.mem_cons.1 h with rfl | h
      · have := ih x (by simp)
        simp only [List.length_cons]
        omega
      · have := ih w (by simp [h])
        simp only [List.length_cons]
        omega
theorem words_size {c : UInt8} {s w : ByteArray} (h : w ∈ words c s) : w.size ≤ s.size := by
  rw [Lib.size_eq, Lib.size_eq]
  refine splitC_size c _ _ ?_
  rw [← words_data]
  exact List.mem_map.2 ⟨w, h, rfl⟩

theorem drop_at {α : Type} {l : List α} {g k : Nat} (hg : g ≤ k) (hk : k < l.length) : l.drop g = (l.drop g).take (k - g) ++ l[k] :: l.drop (k + 1) := by
  have h1 := (List.take_append_drop (k - g) (l.drop g)).symm
  rw [List.drop_drop, show g + (k - g) = k by omega, List.drop_eq_getElem_cons hk] at h1
  exact h1
theorem byte_at {s : ByteArray} {k : Nat} (hk : k < s.size) : s.data.toList[k]'(by rw [← Lib.size_eq]; exact hk) = s[k] := rfl
/-- v reads as these texts -/
def RdS (w : World) (v : Value) (xs : List ByteArray) : Prop := ∃ b off cap, v = .slice (some ⟨b, off, none⟩) xs.length cap ∧ xs.length ≤ cap ∧ cap ≤ 9223372036854775807 ∧ ∀ j (h : j < xs.length), w.cell? ⟨b, off + j, none⟩ = some (.string xs[j])
theorem RdS.ext {w w' : World} {v : Value} {xs : List ByteArray} (h : RdS w v xs) (hE : Ext w w') : RdS w' v xs := by
  obtain ⟨b, off, cap, h1, h2, h3, h4⟩ := h
  exact ⟨b, off, cap, h1, h2, h3, fun j hj => hE.cell (h4 j hj)⟩
theorem split_any (c : UInt8) (s : ByteArray) (m : Int) (w : World) (hm : w.cell? ⟨0, 0, none⟩ = some (.int .i64 m)) (hs : s.size ≤ 1048576) :
    Calls Tryz.prog 43 #[.string s, .string ⟨#[c]⟩] w fun e w' => ∃ v, e = .returned v ∧ Ext w w' ∧ RdS w' v (words c s) := by
  refine (Tryz.strings_Split s ⟨#[c]⟩ m w (by omega) hm (Nat.le_refl 1)).mono ?_
  rintro e w' ⟨rfl, rfl⟩
  have hl : (words c s).length = Lib.countB s ⟨#[c]⟩ + 1 := Lib.splitB_all ⟨#[c]⟩ (Nat.le_refl 1) 0 _ s rfl
  have hw := words_length c s
  refine ⟨_, rfl, (Ext.refl' w).alloc (Nat.le_refl _) _, w.heap.size, 0, _, by rw [hl], by omega, by omega, fun j hj => ?_⟩
  have hj2 : j < ((words c s).map Value.string).length := by rw [List.length_map]; exact hj
  show (w.alloc (.cells ((words c s).map Value.string).toArray 9)).cell? ⟨w.heap.size, 0 + j, none⟩ = _
  rw [Nat.zero_add]
  unfold World.cell?
  rw [heap_alloc_new]
  simp [hj]
theorem infoStr : (Tryz.prog.info? 9).map (fun i => (i.zero, i.size, i.bytes)) = some (some (.string ByteArray.empty), 1, 16) := by kernel_rfl
theorem made_none (w : World) : (w.alloc (.cells #[] 9)).ownsRow w.heap.size 9 1 (.slice (some ⟨w.heap.size, 0, none⟩) 0 0) 0 [] := World.ownsRow_made w #[] 0 (Nat.le_refl _) (by decide) rfl
set_option maxHeartbeats 4000000 in
set_option maxRecDepth 100000 in
theorem l01Split_any (c : UInt8) (s : ByteArray) (w : World) (hs : s.size ≤ 1048576) :
    Calls Tryz.prog 39 #[.string s, .int .u8 c.toNat] w fun e w' => ∃ v, e = .returned v ∧ Ext w w' ∧ RdS w' v (words c s) := by
  obtain ⟨i0, hi, hz0, hz1, hz2⟩ := info_parts infoStr
  have hmade := made_none w
  have hE0 : Ext w (w.alloc (.cells #[] 9)) := (Ext.refl' w).alloc (Nat.le_refl _) _
  go_enter Tryz.func39, Tryz.ntmps39
  go_wp2_with fail
  go_loopw [5, 6, 7] (fun o f i wr => ∃ (k g : Nat) (out : List ByteArray), g ≤ k ∧ k ≤ s.size ∧ out.length ≤ k ∧ f = .int .i64 (g : Nat) ∧ i = .int .i64 (k : Nat) ∧ Ext w wr ∧ w.heap.size < wr.heap.size ∧ wr.ownsRow w.heap.size 9 1 o out.length (out.map Value.string) ∧
      Hid (out.map (·.data.toList) ++ splitC c (s.data.toList.drop g) = splitC c s.data.toList ∧ c ∉ (s.data.toList.drop g).take (k - g))) (fun _ _ i _ => s.size - (intOf i).toNat)
  case atStart => exact ⟨0, 0, [], by omega, by omega, by simp, rfl, rfl, hE0, by simp, hmade, Lib.hid ⟨by simp, by simp⟩⟩
  case round =>
    obtain ⟨k, g, out, hgk, hks, hol, rfl, rfl, hE, hz, ho, HI⟩ := hrel
    clear hmade hE0
    obtain ⟨oa, ob, oc, rfl, -⟩ := own_parts ho
    have hlen := (Lib.size_eq s).symm
    by_cases hkl : k < s.size
    · have hkd : k < s.data.toList.length := by omega
      by_cases hb : s[k] = c
      · have hbb : (((s[k].toNat : Nat) : Int) == ((c.toNat : Nat) : Int)) = true := by rw [hb]; simp
        have HI2 := Lib.hid (show (out ++ [s.extract g k]).map (·.data.toList) ++ splitC c (s.data.toList.drop (k + 1)) = splitC c s.data.toList from by
          obtain ⟨i1, i2⟩ := HI.out
          rw [← i1, drop_at hgk hkd, byte_at hkl, hb, splitC_first _ _ i2, List.map_append, List.append_assoc]
          simp only [List.map_cons, List.map_nil, Lib.extract_data, List.singleton_append])
        clear hb HI hlen
        go_wp2_with (at_builtin; refine wpList_append_own _ rfl _ _ 61 rfl w.heap.size 9 i0 (.string ByteArray.empty) 1 16 Tryz.underlying61 hi hz0 hz1 hz2 rfl (by decide) _ _ _ rfl (own_ext ho ((Ext.refl' wr).alloc (Nat.le_refl _) _)) ⟨wr.heap.size, 0, none⟩ 1 1 [.string (s.extract g k)] rfl rfl (cells_one (by simp [go_sem])) (by simp [Value.oneCell']) (by unfold maxLen; omega) (by omega) (by simp; omega) ?_)
        intro v' w5 ho5 hg5 _
        have hAA : Ext wr (wr.alloc (.cells #[.string (s.extract g k)] 9)) := (Ext.refl' wr).alloc (Nat.le_refl _) _
        have hE5 : Ext w w5 := (hE.tr hAA).grown hg5 (by simp; omega) (fun h hh => (ho.lt h hh).1)
        have hz5 : w.heap.size < w5.heap.size := by have := hg5.size; simp at this; omega
        have ho6 : w5.ownsRow w.heap.size 9 1 v' (out ++ [s.extract g k]).length ((out ++ [s.extract g k]).map Value.string) := by rw [List.map_append, List.length_append]; exact ho5
        have hol6 : (out ++ [s.extract g k]).length ≤ k + 1 := by rw [List.length_append, List.length_singleton]; omega
        clear ho hg5 hAA ho5 hE hz
        generalize out ++ [s.extract g k] = out6 at *
        go_wp2_with fail
        go_roundw
        case rel => exact ⟨k + 1, k + 1, out6, by omega, by omega, hol6, by go_num, by go_num, hE5, hz5, ho6, Lib.hid ⟨HI2.out, by simp⟩⟩
        case measure => simp [intOf]; omega
      · have hbb : (((s[k].toNat : Nat) : Int) == ((c.toNat : Nat) : Int)) = false := by
          rw [beq_eq_false_iff_ne]
          intro h
          exact hb (UInt8.toNat_inj.1 (by omega))
        have HI2 := Lib.hid (show c ∉ (s.data.toList.drop g).take (k + 1 - g) from by
          obtain ⟨i1, i2⟩ := HI.out
          rw [drop_at hgk hkd, byte_at hkl, show k + 1 - g = (k - g) + 1 by omega]
          have hl : ((s.data.toList.drop g).take (k - g)).length = k - g := by rw [List.length_take, List.length_drop]; omega
          rw [List.take_append, hl, List.take_of_length_le (by rw [hl]; omega), show k - g + 1 - (k - g) = 1 by omega]
          intro hm
          rcases List.mem_append.1 hm with h | h
          · exact i2 h
          · simp at h
            exact hb h.symm)
        have HI1 := Lib.hid HI.out.1
        clear hb HI hlen
        go_wp2_with fail
        go_roundw
        case rel => exact ⟨k + 1, g, out, by omega, by omega, by omega, rfl, by go_num, hE, hz, ho, Lib.hid ⟨HI1.out, HI2.out⟩⟩
        case measure => simp [intOf]; omega
    · have HI2 := Lib.hid (show (out ++ [s.extract g s.size]).map (·.data.toList) = splitC c s.data.toList from by
        obtain ⟨i1, i2⟩ := HI.out
        have hks2 : k = s.size := by omega
        rw [List.take_of_length_le (by rw [List.length_drop]; omega)] at i2
        rw [← i1, splitC_last _ i2, List.map_append]
        simp only [List.map_cons, List.map_nil, Lib.extract_to_end])
      go_wp2_with (at_builtin; refine wpList_append_own _ rfl _ _ 61 rfl w.heap.size 9 i0 (.string ByteArray.empty) 1 16 Tryz.underlying61 hi hz0 hz1 hz2 rfl (by decide) _ _ _ rfl (own_ext ho ((Ext.refl' wr).alloc (Nat.le_refl _) _)) ⟨wr.heap.size, 0, none⟩ 1 1 [.string (s.extract g s.size)] rfl rfl (cells_one (by simp [go_sem])) (by simp [Value.oneCell']) (by unfold maxLen; omega) (by omega) (by simp; omega) ?_)
      intro v' w5 ho5 hg5 _
      have hAA : Ext wr (wr.alloc (.cells #[.string (s.extract g s.size)] 9)) := (Ext.refl' wr).alloc (Nat.le_refl _) _
      have hE5 : Ext w w5 := (hE.tr hAA).grown hg5 (by simp; omega) (fun h hh => (ho.lt h hh).1)
      have ho6 : w5.ownsRow w.heap.size 9 1 v' (out ++ [s.extract g s.size]).length ((out ++ [s.extract g s.size]).map Value.string) := by rw [List.map_append, List.length_append]; exact ho5
      have hw : out ++ [s.extract g s.size] = words c s := map_data_inj (HI2.out.trans (words_data c s).symm)
      rw [hw] at ho6
      have hpos := words_ne c s
      obtain ⟨xa, xb, xc, rfl, x1, x2, x3, x4, x5, x6, x7⟩ := own_parts ho6
      have hxa := x4 hpos
      subst hxa
      clear ho hg5 hAA ho5 hE hz HI HI2 hw x4 x5 x7 ho6
      go_wp2_with fail
      go_ret
      exact ⟨_, rfl, hE5, xb, 0, xc, rfl, x2, x3, fun j hj => by rw [x6 j (by rw [List.length_map]; exact hj)]; simp⟩
end Go.Proofs.YtajkepdfemdagaaGreatDoor
