
/- The kinds of operations: the plain law (no program in sight). -/
import Derived.Test.YtefnmfdmnoednaaAll
import Derived.Test.YtefnmfdmnoednaaRise
namespace Go.Proofs.Ytefnmfdmnoednaa
open Go.RowKit
set_option linter.unusedVariables false

/-- two values beside each other exchanged leave what g gives, among lists of so many values that are V -/
def AdjSame (V : Int → Prop) (g : List Int → Int) (n : Nat) : Prop := ∀ (p : List Int) (x y : Int) (r : List Int), (p ++ x :: y :: r).length = n → (∀ a ∈ p ++ x :: y :: r, V a) → g (p ++ x :: y :: r) = g (p ++ y :: x :: r)
/-- then each order gives the same -/
theorem adj_perm {V : Int → Prop} {g : List Int → Int} {n : Nat} (h : AdjSame V g n) {l l' : List Int} (hp : l.Perm l') : ∀ p : List Int, (p ++ l).length = n → (∀ a ∈ p ++ l, V a) → g (p ++ l) = g (p ++ l') := by
  induction hp with
  | nil => intro p _ _; rfl
  | cons x _ ih =>
    intro p hn hv
    have := ih (p ++ [x]) (by simpa using hn) (by simpa using hv)
    simpa using this
  | swap x y r => intro p hn hv; exact (h p y x r hn hv)
  | trans h1 _ ih1 ih2 =>
    intro p hn hv
    refine (ih1 p hn hv).trans (ih2 p (by rw [← hn, List.length_append, List.length_append, h1.length_eq]) fun a ha => hv a ?_)
    rcases List.mem_append.1 ha with h | h
    · exact List.mem_append.2 (.inl h)
    · exact List.mem_append.2 (.inr (h1.mem_iff.2 h))

/-- what is so of all lists of values -/
theorem allL_iff {s m : Int} (hs : 1 ≤ s) (hs2 : s ≤ 4) (hm : 1 ≤ m) (hm2 : m ≤ 4) {g : List Int → Bool} : allL s m g = true ↔ ∀ t, vals s t m = true → g t = true := by
  unfold allL
  rw [List.all_eq_true]
  constructor
  · intro h t ht
    have hc := code_ltc hs hs2 hm hm2 ht
    have := h (code s t).toNat (List.mem_range.2 hc.2)
    rw [show ((code s t).toNat : Int) = code s t from by omega, digs_of_code' hs ht] at this
    exact this
  · intro h k _
    exact h _ (digs_vals hs (by omega) k)

/-! ### the kinds -/
def kProj (s : Int) (f : Int × List Int) : Bool := anyR f.1.toNat fun p : Nat => SSameOp f (SopOf s f.1 fun l => l.getD p 0)
def kConst (f : Int × List Int) : Bool := f.2.all fun x => decide (x = f.2.headD 0)
def idemP (s : Int) (f : Int × List Int) (l : List Int) : Bool := decide (apply s f (List.replicate f.1.toNat (l.headD 0)) = l.headD 0)
def kIdem (s : Int) (f : Int × List Int) : Bool := allL s 1 (idemP s f)
def consP (s : Int) (f : Int × List Int) (l : List Int) : Bool := hasI l (apply s f l)
def kCons (s : Int) (f : Int × List Int) : Bool := allL s f.1 (consP s f)
def symP (s : Int) (f : Int × List Int) (l : List Int) : Bool := decide (apply s f l = apply s f (sortI l))
def kSym (s : Int) (f : Int × List Int) : Bool := allL s f.1 (symP s f)
def kComm (s : Int) (f : Int × List Int) : Bool := decide (f.1 = 2) && kSym s f
def assP (s : Int) (f : Int × List Int) (l : List Int) : Bool := decide (apply s f [apply s f [l.getD 0 0, l.getD 1 0], l.getD 2 0] = apply s f [l.getD 0 0, apply s f [l.getD 1 0, l.getD 2 0]])
def kAss (s : Int) (f : Int × List Int) : Bool := allL s 3 (assP s f)
def kSemi (s : Int) (f : Int × List Int) : Bool := kIdem s f && kComm s f && kAss s f
/-- x, x, y in three orders, and what is wanted of them: -1 nothing -/
def terP (s : Int) (f : Int × List Int) (want : Int → Int → Int × Int × Int) (l : List Int) : Bool :=
  let x := l.getD 0 0
  let y := l.getD 1 0
  (decide ((want x y).1 < 0) || decide (apply s f [x, x, y] = (want x y).1)) && (decide ((want x y).2.1 < 0) || decide (apply s f [x, y, x] = (want x y).2.1)) && (decide ((want x y).2.2 < 0) || decide (apply s f [y, x, x] = (want x y).2.2))
def kTer (s : Int) (f : Int × List Int) (want : Int → Int → Int × Int × Int) : Bool := decide (f.1 = 3) && allL s 2 (terP s f want)
def wMaj (x y : Int) : Int × Int × Int := (x, x, x)
def wMin (x y : Int) : Int × Int × Int := (y, y, y)
def wMal (x y : Int) : Int × Int × Int := (y, -1, y)
def SKind (s : Int) (f : Int × List Int) (k : Int) : Bool :=
  if k = 1 then kProj s f else if k = 2 then kConst f else if k = 3 then kIdem s f else if k = 4 then kCons s f else if k = 5 then kComm s f else if k = 6 then kSemi s f
  else if k = 7 then kTer s f wMaj else if k = 8 then kTer s f wMin else if k = 9 then kTer s f wMal else kSym s f
def SIsOfKind (s : Int) (f : Int × List Int) (k : Int) : Bool × Int := if SValidOp s f then if inB k 1 10 then (SKind s f k, 0) else (false, 2) else (false, 1)
def kindList (s : Int) (f : Int × List Int) (n : Nat) : List Int := ((List.range n).filter fun i : Nat => SKind s f (i + 1)).map fun i : Nat => (i : Int) + 1
def SKindsOf (s : Int) (f : Int × List Int) : List Int × Int := if SValidOp s f then (kindList s f 10, 0) else ([], 1)
theorem kindList_length (s : Int) (f : Int × List Int) (n : Nat) : (kindList s f n).length ≤ n := by
  unfold kindList
  rw [List.length_map]
  exact Nat.le_trans (List.length_filter_le _ _) (by simp)
theorem kindList_yes {s : Int} {f : Int × List Int} {n : Nat} {k : Int} (hk : k = n + 1) (h : SKind s f k = true) : kindList s f (n + 1) = kindList s f n ++ [k] := by
  unfold kindList
  subst hk
  rw [List.range_succ, List.filter_append, List.map_append]
  simp [h]
theorem kindList_no {s : Int} {f : Int × List Int} {n : Nat} {k : Int} (hk : k = n + 1) (h : SKind s f k = false) : kindList s f (n + 1) = kindList s f n := by
  unfold kindList
  subst hk
  rw [List.range_succ, List.filter_append, List.map_append]
  simp [h]

/-- constant: the table has one member -/
theorem kConst_rise {f : Int × List Int} (h : 0 < f.2.length) : kConst f = decide ((riseL f.2).length = 1) := by
  have hm : f.2.headD 0 ∈ f.2 := by
    cases hf : f.2 with
    | nil => rw [hf] at h; simp at h
    | cons a r => simp
  rw [Bool.eq_iff_iff, decide_eq_true_eq, riseL_one hm]
  unfold kConst
  rw [List.all_eq_true]
  exact ⟨fun h x hx => of_decide_eq_true (h x hx), fun h x hx => decide_eq_true (h x hx)⟩
theorem headD_get : ∀ (l : List Int) (h : 0 < l.length), l.headD 0 = l[0]
  | a :: r, _ => rfl
theorem kConst_at {f : Int × List Int} (k : Nat) (hk : k < f.2.length) (h : f.2[k] ≠ f.2[0]'(by omega)) : kConst f = false := by
  unfold kConst
  rw [List.all_eq_false]
  refine ⟨f.2[k], List.getElem_mem hk, ?_⟩
  have : f.2.headD 0 = f.2[0]'(by omega) := headD_get f.2 (by omega)
  rw [this]
  simpa using h
theorem kConst_all {f : Int × List Int} (h : ∀ k (hk : k < f.2.length), f.2[k] = f.2[0]'(by omega)) : kConst f = true := by
  unfold kConst
  rw [List.all_eq_true]
  intro x hx
  obtain ⟨k, hk, rfl⟩ := List.getElem_of_mem hx
  have : f.2.headD 0 = f.2[0]'(by omega) := headD_get f.2 (by omega)
  rw [this, h k hk]
  simp

/-- the exchange of two that stand side by side -/
def exch (l : List Int) (i : Nat) : List Int := (l.set i (l.getD (i + 1) 0)).set (i + 1) (l.getD i 0)
theorem exch_split (p : List Int) (x y : Int) (r : List Int) : exch (p ++ x :: y :: r) p.length = p ++ y :: x :: r := by
  unfold exch
  have h1 : (p ++ x :: y :: r).getD (p.length + 1) 0 = y := by
    rw [List.getD_eq_getElem?_getD, List.getElem?_append_right (by omega), show p.length + 1 - p.length = 1 by omega]; rfl
  have h2 : (p ++ x :: y :: r).getD p.length 0 = x := by
    rw [List.getD_eq_getElem?_getD, List.getElem?_append_right (by omega), Nat.sub_self]; rfl
  rw [h1, h2, List.set_append_right _ _ (by omega), Nat.sub_self, List.set_cons_zero, List.set_append_right _ _ (by omega), show p.length + 1 - p.length = 1 by omega]
  rfl
theorem exch_at {l : List Int} {i : Nat} (h : i + 1 < l.length) : ∃ p x y r, l = p ++ x :: y :: r ∧ p.length = i ∧ exch l i = p ++ y :: x :: r := by
  have e : l = l.take i ++ l[i] :: l[i + 1] :: l.drop (i + 2) := by
    conv => lhs; rw [← List.take_append_drop i l, List.drop_eq_getElem_cons (by omega), List.drop_eq_getElem_cons (by omega)]
  have hl : (l.take i).length = i := by rw [List.length_take]; omega
  refine ⟨l.take i, l[i], l[i + 1], l.drop (i + 2), e, hl, ?_⟩
  have := exch_split (l.take i) l[i] l[i + 1] (l.drop (i + 2))
  rw [← e, hl] at this
  exact this
theorem exch_perm {l : List Int} {i : Nat} (h : i + 1 < l.length) : (exch l i).Perm l := by
  obtain ⟨p, x, y, r, e, _, e2⟩ := exch_at h
  rw [e2]
  conv => rhs; rw [e]
  exact List.Perm.append_left p (List.Perm.swap x y r)
theorem vals_perm {s m : Int} {l l' : List Int} (h : l'.Perm l) (hv : vals s l m = true) : vals s l' m = true := by
  obtain ⟨h1, h2⟩ := vals_iff.1 hv
  exact vals_iff.2 ⟨by rw [h.length_eq]; exact h1, fun a ha => h2 a (h.mem_iff.1 ha)⟩
theorem kSym_no {s : Int} {f : Int × List Int} (hf : SValidOp s f = true) {l : List Int} (hl : vals s l f.1 = true) {i : Nat} (hi : i + 1 < l.length) (hne : apply s f (exch l i) ≠ apply s f l) : kSym s f = false := by
  obtain ⟨h1, h2, _, _⟩ := valid_iff.1 hf
  cases hk : kSym s f with
  | false => rfl
  | true =>
    exfalso
    have hall := (allL_iff h1.1 h1.2 h2.1 (by omega)).1 hk
    have a1 := of_decide_eq_true (hall _ hl)
    have a2 := of_decide_eq_true (hall _ (vals_perm (exch_perm hi) hl))
    rw [sortI_congr (exch_perm hi)] at a2
    exact hne (a2.trans a1.symm)
theorem kSym_yes {s : Int} {f : Int × List Int} (hf : SValidOp s f = true) (h : ∀ l, vals s l f.1 = true → ∀ i, i + 1 < l.length → apply s f (exch l i) = apply s f l) : kSym s f = true := by
  obtain ⟨h1, h2, _, _⟩ := valid_iff.1 hf
  refine (allL_iff h1.1 h1.2 h2.1 (by omega)).2 fun t ht => decide_eq_true ?_
  have hA : AdjSame (fun a => 0 ≤ a ∧ a < s) (apply s f) f.1.toNat := by
    intro p x y r hn hv
    have := h (p ++ x :: y :: r) (vals_iff.2 ⟨by rw [hn]; omega, hv⟩) p.length (by simp)
    rw [exch_split] at this
    exact this.symm
  obtain ⟨t1, t2⟩ := vals_iff.1 ht
  exact adj_perm hA (sortI_perm t).symm [] (by show t.length = _; omega) (by simpa using t2)

/-- the ternary kinds as the reference asks them -/
def thirdP (s : Int) (f : Int × List Int) (mid odd : Bool) (x y : Int) : Bool :=
  let due := if odd then y else x
  decide (apply s f [x, x, y] = due) && decide (apply s f [y, x, x] = due) && (!mid || decide (apply s f [x, y, x] = due))
def kThird (s : Int) (f : Int × List Int) (mid odd : Bool) : Bool := decide (f.1 = 3) && allL s 2 fun l => thirdP s f mid odd (l.getD 0 0) (l.getD 1 0)
theorem vals_two {s x y : Int} : vals s [x, y] 2 = true ↔ (0 ≤ x ∧ x < s) ∧ 0 ≤ y ∧ y < s := by
  rw [vals_iff]
  simp
theorem kThird_no {s : Int} (hs : 1 ≤ s) (hs2 : s ≤ 4) {f : Int × List Int} {mid odd : Bool} {x y : Int} (hx : 0 ≤ x ∧ x < s) (hy : 0 ≤ y ∧ y < s) (h : thirdP s f mid odd x y = false) : kThird s f mid odd = false := by
  unfold kThird
  cases hk : allL s 2 fun l => thirdP s f mid odd (l.getD 0 0) (l.getD 1 0) with
  | false => simp
  | true =>
    have := (allL_iff hs hs2 (by omega) (by omega)).1 hk [x, y] (vals_two.2 ⟨hx, hy⟩)
    simp at this
    rw [h] at this
    exact absurd this (by simp)
theorem kThird_yes {s : Int} (hs : 1 ≤ s) (hs2 : s ≤ 4) {f : Int × List Int} {mid odd : Bool} (hf : f.1 = 3) (h : ∀ x y, 0 ≤ x → x < s → 0 ≤ y → y < s → thirdP s f mid odd x y = true) : kThird s f mid odd = true := by
  unfold kThird
  rw [decide_eq_true hf, Bool.true_and]
  refine (allL_iff hs hs2 (by omega) (by omega)).2 fun t ht => ?_
  obtain ⟨h1, h2⟩ := vals_iff.1 ht
  match t, h1 with
  | [x, y], _ =>
    obtain ⟨hx, hy⟩ := vals_two.1 ht
    exact h x y hx.1 hx.2 hy.1 hy.2
theorem kThird_ter {s : Int} (hs : 1 ≤ s) (hs2 : s ≤ 4) {f : Int × List Int} {mid odd : Bool} {want : Int → Int → Int × Int × Int} (h : ∀ x y, 0 ≤ x → 0 ≤ y → want x y = (if odd then y else x, if mid then (if odd then y else x) else -1, if odd then y else x)) : kThird s f mid odd = kTer s f want := by
  unfold kThird kTer
  congr 1
  rw [Bool.eq_iff_iff, allL_iff hs hs2 (by omega) (by omega), allL_iff hs hs2 (by omega) (by omega)]
  refine forall_congr' fun t => ?_
  have key : vals s t 2 = true → (thirdP s f mid odd (t.getD 0 0) (t.getD 1 0) = true ↔ terP s f want t = true) := by
    intro ht
    obtain ⟨h1, h2⟩ := vals_iff.1 ht
    match t, h1 with
    | [x, y], _ =>
      obtain ⟨hx, hy⟩ := vals_two.1 ht
      unfold terP thirdP
      simp only [List.getD_cons_zero, List.getD_cons_succ]
      rw [h x y hx.1 hy.1]
      cases mid <;> cases odd <;> simp [Bool.and_eq_true, Bool.or_eq_true] <;> omega
  exact ⟨fun hh ht => (key ht).1 (hh ht), fun hh ht => (key ht).2 (hh ht)⟩
theorem kTer_maj {s : Int} (hs : 1 ≤ s) (hs2 : s ≤ 4) (f : Int × List Int) : kThird s f true false = kTer s f wMaj := kThird_ter hs hs2 fun x y _ _ => by simp [wMaj]
theorem kTer_min {s : Int} (hs : 1 ≤ s) (hs2 : s ≤ 4) (f : Int × List Int) : kThird s f true true = kTer s f wMin := kThird_ter hs hs2 fun x y _ _ => by simp [wMin]
theorem kTer_mal {s : Int} (hs : 1 ≤ s) (hs2 : s ≤ 4) (f : Int × List Int) : kThird s f false true = kTer s f wMal := kThird_ter hs hs2 fun x y _ _ => by simp [wMal]

/-- idempotent, as the reference asks it -/
theorem vals_one {s x : Int} : vals s [x] 1 = true ↔ 0 ≤ x ∧ x < s := by
  rw [vals_iff]
  simp
theorem kIdem_no {s : Int} (hs : 1 ≤ s) (hs2 : s ≤ 4) {f : Int × List Int} {x : Int} (hx : 0 ≤ x ∧ x < s) (h : apply s f (List.replicate f.1.toNat x) ≠ x) : kIdem s f = false := by
  cases hk : kIdem s f with
  | false => rfl
  | true =>
    have := (allL_iff hs hs2 (by omega) (by omega)).1 hk [x] (vals_one.2 hx)
    exact absurd (of_decide_eq_true this) h
theorem kIdem_yes {s : Int} (hs : 1 ≤ s) (hs2 : s ≤ 4) {f : Int × List Int} (h : ∀ x, 0 ≤ x → x < s → apply s f (List.replicate f.1.toNat x) = x) : kIdem s f = true := by
  refine (allL_iff hs hs2 (by omega) (by omega)).2 fun t ht => decide_eq_true ?_
  obtain ⟨h1, h2⟩ := vals_iff.1 ht
  match t, h1 with
  | [x], _ =>
    have hx := vals_one.1 ht
    exact h x hx.1 hx.2
theorem digs_one (s : Int) (k : Nat) : ∃ x, digs s 1 k = [x] := by
  have := digs_length s 1 k
  match h : digs s 1 k, this with
  | [x], _ => exact ⟨x, rfl⟩
theorem digs_two (s : Int) (k : Nat) : ∃ x y, digs s 2 k = [x, y] := by
  have := digs_length s 2 k
  match h : digs s 2 k, this with
  | [x, y], _ => exact ⟨x, y, rfl⟩
theorem digs_three (s : Int) (k : Nat) : ∃ x y z, digs s 3 k = [x, y, z] := by
  have := digs_length s 3 k
  match h : digs s 3 k, this with
  | [x, y, z], _ => exact ⟨x, y, z, rfl⟩
end Go.Proofs.Ytefnmfdmnoednaa
