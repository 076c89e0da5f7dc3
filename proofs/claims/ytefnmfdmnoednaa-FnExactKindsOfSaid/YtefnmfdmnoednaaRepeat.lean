
/- slices.Repeat of one number. -/
import Derived.Test.YtefnmfdmnoednaaInts
import Derived.Test.YtefnmfdmnoednaaSteps
import Derived.Test.YtefnmfdmnoednaaShelf
import Derived.Laws.CopyOwn
namespace Go.Proofs.Ytefnmfdmnoednaa
open Go.RowKit
set_option linter.unusedVariables false

theorem rdI_one {w : World} {v : Value} {x : Int} (h : RdI w v [x]) : ∃ b off c, v = .slice (some ⟨b, off, none⟩) 1 c ∧ 1 ≤ c ∧ w.cell? ⟨b, off, none⟩ = some (.int .i64 x) := by
  obtain ⟨a, b, off, c, rfl, hlc, hcm, ha, hc⟩ := h
  obtain rfl := ha (by simp)
  exact ⟨b, off, c, rfl, hlc, by simpa using hc 0 (by simp)⟩
theorem rdI_two {w : World} {v : Value} {x y : Int} (h : RdI w v [x, y]) : ∃ b off c, v = .slice (some ⟨b, off, none⟩) 2 c ∧ 2 ≤ c ∧ w.cell? ⟨b, off, none⟩ = some (.int .i64 x) ∧ w.cell? ⟨b, off + 1, none⟩ = some (.int .i64 y) := by
  obtain ⟨a, b, off, c, rfl, hlc, hcm, ha, hc⟩ := h
  obtain rfl := ha (by simp)
  exact ⟨b, off, c, rfl, hlc, by simpa using hc 0 (by simp), by simpa using hc 1 (by simp)⟩
theorem rdI_three {w : World} {v : Value} {x y z : Int} (h : RdI w v [x, y, z]) : ∃ b off c, v = .slice (some ⟨b, off, none⟩) 3 c ∧ 3 ≤ c ∧ c ≤ 9223372036854775807 ∧ w.cell? ⟨b, off, none⟩ = some (.int .i64 x) ∧ w.cell? ⟨b, off + 1, none⟩ = some (.int .i64 y) ∧ w.cell? ⟨b, off + 2, none⟩ = some (.int .i64 z) := by
  obtain ⟨a, b, off, c, rfl, hlc, hcm, ha, hc⟩ := h
  obtain rfl := ha (by simp)
  exact ⟨b, off, c, rfl, hlc, hcm, by simpa using hc 0 (by simp), by simpa using hc 1 (by simp), by simpa using hc 2 (by simp)⟩

def rowR (n k : Nat) (x : Int) : List Value := (List.replicate k x ++ List.replicate (n - k) 0).map (Value.int .i64)
theorem rowR_length {n k : Nat} (x : Int) (h : k ≤ n) : (rowR n k x).length = n := by simp [rowR]; omega
theorem rowR_full (n : Nat) (x : Int) : rowR n n x = (List.replicate n x).map (Value.int .i64) := by simp [rowR]
theorem rowR_get {n k : Nat} (x : Int) (h : k ≤ n) (j : Nat) (hj : j < k) : (rowR n k x)[j]? = some (.int .i64 x) := by
  unfold rowR
  rw [List.getElem?_map, List.getElem?_append_left (by simpa using hj), List.getElem?_replicate, if_pos hj]
  rfl
theorem rowR_splice {n k m : Nat} (x : Int) (h : k + m ≤ n) : splice (rowR n k x) k (List.replicate m (.int .i64 x)) = rowR n (k + m) x := by
  unfold splice rowR
  rw [List.map_append, List.take_left' (by simp), List.length_replicate, List.drop_append, List.drop_eq_nil_of_le (by simp), List.map_append, List.map_replicate, List.map_replicate, List.map_replicate, List.map_replicate]
  simp only [List.nil_append, List.length_replicate, List.drop_replicate]
  rw [← List.append_assoc, List.replicate_append_replicate, show n - k - (k + m - k) = n - (k + m) by omega]
theorem mul_any (a b : Nat) (w : World) (h : a * b ≤ 1048576) (ha : a ≤ 1048576) (hb : b ≤ 1048576) :
    Calls Try.prog 177 #[.int .u64 (a : Nat), .int .u64 (b : Nat)] w fun e w' => e = .returned (.tuple #[.int .u64 0, .int .u64 ((a * b : Nat) : Int)]) ∧ w = w' := by
  refine (Try.bits_Mul a b (by omega) (by omega) w).mono ?_
  rintro e w' ⟨rfl, rfl⟩
  rw [Nat.div_eq_of_lt (by omega), Nat.mod_eq_of_lt (by omega)]
  exact ⟨rfl, rfl⟩
set_option maxHeartbeats 2000000 in
set_option maxRecDepth 100000 in
/-- a list of one number, repeated -/
theorem repeat_any (x : Int) (n : Nat) (v : Value) (w : World) (hr : RdI w v [x]) (h1 : 1 ≤ n) (h2 : n ≤ 1048576) :
    Calls Try.prog 141 #[v, .int .i64 (n : Nat)] w fun e w' => ∃ u fp, e = .returned u ∧ Ext w w' ∧ OI w' u (List.replicate n x) fp ∧ ∀ g ∈ fp, w.heap.size ≤ g := by
  obtain ⟨b, off, c, rfl, hc1, hc⟩ := rdI_one hr
  obtain ⟨i0, hi, hz0, hz1, hz2⟩ := info_parts infoI
  have hS1 : (Try.prog.info? 2).map (·.size) = some 1 := by rw [hi]; simp [hz1]
  clear hr
  go_enter Try.func141, Try.ntmps141
  go_wp2_with fail
  refine (mul_any 1 n _ (by omega) (by omega) h2).mono ?_
  rintro e w' ⟨rfl, rfl⟩
  simp only [Nat.one_mul]
  go_wp2_with (at_make; refine wpList_make_full _ rfl _ _ 34 rfl 0 2 i0 (.int .i64 0) 1 Try.underlying34 hi hz0 hz1 _ _ _ _ n rfl rfl rfl rfl (by rw [hz2]; omega) (by unfold maxLen; omega) (by omega) ?_)
  intro w1 hown hgr
  obtain ⟨hg0, hrow0⟩ : w.heap.size < w1.heap.size ∧ w1.heap[w.heap.size]? = some (.cells (rowR n 0 x).toArray 2 (0, 0)) := by
    rcases hown.2 with ⟨h', _⟩ | ⟨g, cap, cur, h', -, hg, -, -, hs, ht⟩
    · cases h'
    · cases h'
      refine ⟨(Array.getElem?_eq_some_iff.1 hg).1, ?_⟩
      rw [hg]
      have e1 : cur.toList = rowR n 0 x := by
        rw [Nat.mul_one, List.take_of_length_le (by simp [hs])] at ht
        rw [ht]
        simp [toList_madeCells_one, rowR]
      rw [← e1]
  have hE1 : Ext w w1 := (Ext.refl' w).grown hgr (Nat.le_refl _) (by simp)
  have hcx := hE1.cell hc
  have hcs1 : ∀ (j : Nat) u, ([.int .i64 x] : List Value)[j]? = some u → w1.cell? ((⟨b, off, none⟩ : Addr).add j) = some u := by
    intro j u hj
    match j, hj with
    | 0, hj =>
      simp at hj
      subst hj
      simpa [Addr.add] using hcx
  clear hown hgr
  go_wp2_with (refine wpList_copy_splice ?_ (.tmp 31) (.tmp 32) 34 34 ?_ 2 Try.underlying34 hS1 (some ⟨w.heap.size, 0, none⟩) (some ⟨b, off, none⟩) n n 1 c ?_ ?_ w.heap.size 0 (rowR n 0 x) 2 hrow0 [.int .i64 x] (show 1 = min 1 n by omega) (fun _ => ⟨rfl, _, rfl, hcs1⟩) (by rw [rowR_length x (by omega)]; simp; omega) (by simp [Value.oneCell']) w.heap.size w hE1 (Nat.le_refl _) ?_; rfl; rfl; rfl; rfl)
  intro w2 HG hB
  have HG1 : Hid (w2.heap[w.heap.size]? = some (.cells (rowR n 1 x).toArray 2 (0, 0))) := by
    have := rowR_splice (n := n) (k := 0) (m := 1) x (by omega)
    rw [show (List.replicate 1 (Value.int .i64 x)) = [.int .i64 x] from rfl] at this
    exact Lib.hid (by rw [← this]; exact HG.out)
  clear HG hrow0 hcx
  go_wp2_with fail
  go_loopw [8] (fun j wr => ∃ k : Nat, 1 ≤ k ∧ k ≤ n ∧ j = .int .i64 (k : Nat) ∧ Ext w wr ∧ Hid (wr.heap[w.heap.size]? = some (.cells (rowR n k x).toArray 2 (0, 0)))) (fun j _ => n - (intOf j).toNat)
  case atStart => exact ⟨1, by omega, by omega, rfl, hB, HG1⟩
  case round =>
    obtain ⟨k, hk1, hk, rfl, hE, HG⟩ := hrel
    by_cases hkl : k < n
    · obtain ⟨m, hm⟩ : ∃ m, m = min k (n - k) := ⟨_, rfl⟩
      have hm1 : 1 ≤ m ∧ m ≤ k ∧ k + m ≤ n := by subst hm; omega
      have HM := Lib.hid hm
      clear hm
      have hkn : ¬ n = k := by omega
      go_wp2_with fail
      go_wp2_with fail
      refine region_sp [0] [7, 8, 9] [SP.val (.int .i64 (k : Nat)), SP.val (.slice (some ⟨w.heap.size, 0, none⟩) n n), SP.val (.int .i64 (k : Nat)), SP.val (.slice (some ⟨w.heap.size, k, none⟩) (n - k) (n - k)), SP.val (.slice (some ⟨w.heap.size, 0, none⟩) n n), SP.val (.int .i64 (k : Nat)), SP.val (.slice (some ⟨w.heap.size, 0, none⟩) k n), SP.any, SP.any, SP.any] (by kernel_rfl) (fun _ d _ _ _ h => by cases d <;> exact h) (by kernel_rfl) (by kernel_rfl)
        (.free ⟨rfl, fun vs y hY => ⟨_, fun w' => rfl, rfl⟩⟩ <|
         .cons (fun vs y hY => Step.move rfl rfl rfl rfl) <|
         .cons (fun vs y hY => Step.move rfl rfl rfl rfl) <|
         .cons (fun vs y hY g1_0 g2_1 => Step.slice rfl rfl g1_0 (congrArg some g2_1) rfl rfl (by simp [go_sem, Instr.sliceAt, hk, hkn]) rfl) <|
         .cons (fun vs y hY => Step.move rfl rfl rfl rfl) <|
         .cons (fun vs y hY => Step.move rfl rfl rfl rfl) <|
         .cons (fun vs y hY g4_0 g5_1 => Step.slice rfl rfl g4_0 rfl (congrArg some g5_1) rfl (by simp [go_sem, Instr.sliceAt, hk]) rfl) <|
         .skip rfl <|
         .skip rfl <|
         .skip rfl <|
         .nil) ?_
      intro vs w3 hC hL
      have r0 : vs 0 = _ := hL 0 (by decide) rfl
      have r1 : vs 1 = _ := hL 1 (by decide) rfl
      have r2 : vs 2 = _ := hL 2 (by decide) rfl
      have r3 : vs 3 = _ := hL 3 (by decide) rfl
      have r4 : vs 4 = _ := hL 4 (by decide) rfl
      have r5 : vs 5 = _ := hL 5 (by decide) rfl
      have r6 : vs 6 = _ := hL 6 (by decide) rfl
      clear hL
      simp only [putAll, Act.put, List.contains_cons, List.contains_nil, Nat.reduceBEq, Nat.reduceAdd, Bool.or_false, Bool.or_true, cond_true, cond_false, List.setIfInBounds_toArray, List.set_cons_succ, List.set_cons_zero, List.filterMap_cons, List.filterMap_nil, List.getElem?_cons_succ, List.getElem?_cons_zero, r0, r1, r2, r3, r4, r5, r6]
      clear r0 r1 r2 r3 r4 r5 r6
      have HG2 : w3.heap[w.heap.size]? = some (.cells (rowR n k x).toArray 2 (0, 0)) := by rw [hC.block _ (Array.getElem?_eq_some_iff.1 HG.out).1]; exact HG.out
      have hcs : ∀ (j : Nat) u, (List.replicate m (Value.int .i64 x))[j]? = some u → w3.cell? ((⟨w.heap.size, 0, none⟩ : Addr).add j) = some u := by
        intro j u hj
        rw [List.getElem?_replicate] at hj
        split at hj
        · rename_i hjm
          cases hj
          have := rowR_get (n := n) (k := k) x (by omega) j (by omega)
          have hadd : (⟨w.heap.size, 0, none⟩ : Addr).add j = ⟨w.heap.size, j, none⟩ := by
            unfold Addr.add
            split
            · rename_i h0
              rw [h0]
            · simp
          rw [hadd]
          simp [World.cell?, HG2, this]
        · cases hj
      refine wpList_copy_splice ?_ (.tmp 41) (.tmp 44) 34 34 ?_ 2 Try.underlying34 hS1 (some ⟨w.heap.size, k, none⟩) (some ⟨w.heap.size, 0, none⟩) (n - k) (n - k) k n ?_ ?_ w.heap.size k (rowR n k x) 2 HG2 (List.replicate m (.int .i64 x)) (by rw [List.length_replicate]; exact HM.out)
        (fun _ => ⟨rfl, _, rfl, hcs⟩) (by rw [rowR_length x (by omega)]; simp; omega) (by simp [Value.oneCell']) w.heap.size w (hE.tr hC) (Nat.le_refl _) ?_
      · rfl
      · rfl
      · rfl
      · rfl
      intro w4 HG4 hB4
      have HG5 : Hid (w4.heap[w.heap.size]? = some (.cells (rowR n (k + m) x).toArray 2 (0, 0))) := Lib.hid (by rw [← rowR_splice x hm1.2.2]; exact HG4.out)
      clear hcs HG2 HG4
      simp only [List.length_replicate]
      go_wp2_with fail
      go_roundw
      case rel => exact ⟨k + m, by omega, by omega, by go_num, hB4, HG5⟩
      case measure => simp [intOf]; omega
    · have hkk : k = n := by omega
      subst hkk
      go_wp2_with fail
      go_ret
      refine ⟨_, [w.heap.size], rfl, hE, ⟨?_, rfl⟩, by simp⟩
      rw [List.length_replicate]
      refine ⟨by simp, .inr ⟨w.heap.size, k, _, rfl, Nat.zero_le _, HG.out, by simp, by unfold maxLen; omega, by simp [rowR_length], ?_⟩⟩
      rw [rowR_full]
      simp
end Go.Proofs.Ytefnmfdmnoednaa
