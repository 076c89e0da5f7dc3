
/- What is used by all texts of this seat and speaks of no program: worlds that grow; a region that draws its order, proved operation by operation. -/
import Derived.WalkKit
import Derived.Lib.Hide
import Derived.WalkLawsBesides
import Derived.WalkSpells
import Derived.Deep.QuietTactic
import Derived.BigQuiet
import Derived.Deep.DeepFit
import Derived.ProofKit
import Derived.OpenShut
namespace Go.Proofs.YtajkepdfemdagaaDoor
open Go.RowKit
set_option linter.unusedVariables false

/-- w' is w with new blocks alone -/
abbrev Ext (w w' : World) : Prop := Below w.heap.size w w'
theorem Ext.refl' (w : World) : Ext w w := Below.refl _ _
theorem Ext.tr {a b c : World} (h : Ext a b) (k : Ext b c) : Ext a c := Below.trans h (Below.mono k h.size)

def Gives (P : Program) (o : Oper) (a : Act) (w : World) (S : Value → World → Prop) : Prop :=
  match (execOp a.eval o).run P w with
  | .ok (.value v) w' => S v w'
  | .ok .skip w' => S undef w'
  | .ok (.enter f args) w' => Calls P f args w' fun e w'' => ∃ v, e = .returned v ∧ S v w''
  | _ => False

theorem Gives.wp {P : Program} {o : Oper} {a : Act} {w : World} {S : Value → World → Prop} {K : Act → World → Prop} {Q : Exit → Act → World → Prop}
    (h : Gives P o a w S) (hk : ∀ v w', S v w' → K (a.put o.dst v) w') : o.wp P a w K Q := by
  unfold Gives at h
  unfold Oper.wp
  generalize (execOp a.eval o).run P w = r at h ⊢
  cases r with
  | ok n w' =>
    cases n <;> simp only [Oper.upon] at h ⊢ <;> first
      | exact hk _ _ h
      | exact h.elim
      | exact h.mono (fun e w'' ⟨v, he, hs⟩ => by subst he; exact hk _ _ hs)
  | halt x w' => cases x <;> exact h.elim


/-- the frame behind the operations: op k has left vs k; what S names is left out -/
def putAll (S : List Nat) : List Oper → Nat → (Nat → Value) → Act → Act
  | [], _, _, a => a
  | o :: os, k, vs, a => putAll S os (k + 1) vs (bif S.contains k then a else a.put o.dst (vs k))

def upd (vs : Nat → Value) (i : Nat) (v : Value) : Nat → Value := fun j => if j = i then v else vs j

theorem putAll_congr (S : List Nat) (os : List Oper) : ∀ k vs vs' a, (∀ j, k ≤ j → vs j = vs' j) → putAll S os k vs a = putAll S os k vs' a := by
  induction os with
  | nil => intros; rfl
  | cons o os ih =>
    intro k vs vs' a h
    simp only [putAll, h k (Nat.le_refl _)]
    exact ih _ _ _ _ fun j hj => h j (by omega)

theorem put_put (a : Act) (d : Option Tmp) (v u : Value) : (a.put d v).put d u = a.put d u := by
  cases d with
  | none => rfl
  | some d => simp [Act.put]

theorem putAll_put (S : List Nat) (os : List Oper) : ∀ k vs a d v, (∀ o ∈ os, ∀ e, o.dst = some e → d ≠ some e) → (putAll S os k vs a).put d v = putAll S os k vs (a.put d v) := by
  induction os with
  | nil => intros; rfl
  | cons o os ih =>
    intro k vs a d v h
    simp only [putAll]
    rw [ih _ _ _ _ _ fun o' ho' => h o' (List.mem_cons_of_mem _ ho')]
    congr 1
    cases S.contains k with
    | true => rfl
    | false => exact Act.put_comm a _ _ fun e he => h o List.mem_cons_self e he

def dstsOk : List Oper → Bool
  | [] => true
  | o :: os => (match o.dst with | none => true | some d => os.all fun o' => o'.dst != some d) && dstsOk os

theorem putAll_upd (S : List Nat) (os : List Oper) : ∀ k vs a i o v, dstsOk os = true → os[i]? = some o → S.contains (k + i) = false → (putAll S os k vs a).put o.dst v = putAll S os k (upd vs (k + i) v) a := by
  induction os with
  | nil => intro k vs a i o v _ h; simp at h
  | cons o' os ih =>
    intro k vs a i o v hd h hS
    simp only [dstsOk, Bool.and_eq_true] at hd
    cases i with
    | zero =>
      simp at h
      subst h
      simp only [putAll]
      rw [Nat.add_zero] at hS
      rw [hS]
      simp only [cond_false]
      rw [putAll_put]
      · rw [put_put]
        simp only [Nat.add_zero, upd, if_true]
        exact putAll_congr _ _ _ _ _ _ fun j hj => by simp only [upd]; rw [if_neg (by omega)]
      · intro o'' ho'' e he
        cases hdd : o'.dst with
        | none => simp
        | some d =>
          simp only [hdd, List.all_eq_true] at hd
          have := hd.1 o'' ho''
          rw [he] at this
          intro hc
          rw [hc] at this
          simp at this
    | succ i =>
      simp at h
      have he : k + 1 + i = k + (i + 1) := by omega
      simp only [putAll]
      rw [ih _ _ _ i o v hd.2 h (by rw [he]; exact hS), he]
      congr 1
      simp [upd]

theorem putAll_old (S : List Nat) (os : List Oper) : ∀ k (a : Act), putAll S os k (fun j => match (os[j - k]?).bind (·.dst) with | some d => a.tmps.getD d undef | none => undef) a = a := by
  intro k a
  have key : ∀ (os : List Oper) k vs, (∀ i o d, os[i]? = some o → o.dst = some d → vs (k + i) = a.tmps.getD d undef) → putAll S os k vs a = a := by
    intro os
    induction os with
    | nil => intros; rfl
    | cons o os ih =>
      intro k vs h
      simp only [putAll]
      have : (bif S.contains k then a else a.put o.dst (vs k)) = a := by
        cases S.contains k with
        | true => rfl
        | false =>
          simp only [cond_false]
          cases hd : o.dst with
          | none => rfl
          | some d =>
            have := h 0 o d (by simp) hd
            simp only [Nat.add_zero] at this
            rw [this]
            simp only [Act.put]
            congr 1
            apply Array.ext_getElem?
            intro i
            rw [Array.getElem?_setIfInBounds]
            split
            · rename_i hi
              subst hi
              split
              · rename_i hlt; simp [hlt]
              · rename_i hlt; simp at hlt; simp [hlt]
            · rfl
      rw [this]
      exact ih (k + 1) vs fun i o' d h1 h2 => by
        have := h (i + 1) o' d (by simpa using h1) h2
        rw [← this]; congr 1; omega
  refine key os k _ fun i o d h1 h2 => ?_
  have : k + i - k = i := by omega
  simp [this, h1, h2]

/-- what op i's goal may lean on: the guarantees of the operations that come ahead of it on every order (F: done before) -/
def Deps (F : List Nat) (R : Nat → Value → World → Prop) (vs : Nat → Value) (w : World) : List Edge → Prop → Prop
  | [], G => G
  | e :: es, G => bif Region.binds .any e && !F.contains e.on then R e.on (vs e.on) w → Deps F R vs w es G else Deps F R vs w es G

theorem Deps.pay {F : List Nat} {R : Nat → Value → World → Prop} {vs : Nat → Value} {w : World} {G : Prop} : ∀ {es : List Edge}, Deps F R vs w es G → (∀ e ∈ es, Region.binds .any e = true → F.contains e.on = false → R e.on (vs e.on) w) → G
  | [], h, _ => h
  | e :: es, h, hp => by
    unfold Deps at h
    cases hb : (Region.binds .any e && !F.contains e.on) with
    | true =>
      rw [hb] at h
      simp only [Bool.and_eq_true, Bool.not_eq_true'] at hb
      exact Deps.pay (h (hp e List.mem_cons_self hb.1 hb.2)) fun e' he' => hp e' (List.mem_cons_of_mem _ he')
    | false =>
      rw [hb] at h
      exact Deps.pay h fun e' he' => hp e' (List.mem_cons_of_mem _ he')

def OpStep (P : Program) (ops : List Oper) (F T : List Nat) (R : Nat → Value → World → Prop) (a0 : Act) (w0 : World) (i : Nat) (o : Oper) : Prop :=
  ∀ vs w, Ext w0 w → Deps F R vs w o.after.toList
    (if Region.wanted o (yielded ops.toArray (putAll (F ++ T) ops 0 vs a0).tmps) then Gives P o (putAll (F ++ T) ops 0 vs a0) w (fun v w' => Ext w w' ∧ R i v w') else R i undef w)

def AllSteps (P : Program) (ops : List Oper) (F T : List Nat) (R : Nat → Value → World → Prop) (a0 : Act) (w0 : World) : Nat → List Oper → Prop
  | _, [] => True
  | i, o :: os => bif (F ++ T).contains i then AllSteps P ops F T R a0 w0 (i + 1) os else OpStep P ops F T R a0 w0 i o ∧ AllSteps P ops F T R a0 w0 (i + 1) os

theorem AllSteps.at {P : Program} {ops : List Oper} {F T : List Nat} {R : Nat → Value → World → Prop} {a0 : Act} {w0 : World} : ∀ {os : List Oper} {k i : Nat} {o : Oper}, AllSteps P ops F T R a0 w0 k os → os[i]? = some o → (F ++ T).contains (k + i) = false → OpStep P ops F T R a0 w0 (k + i) o
  | [], k, i, o, _, h, _ => by simp at h
  | o' :: os, k, 0, o, hs, h, hc => by
    simp at h; subst h
    unfold AllSteps at hs
    rw [Nat.add_zero] at hc
    rw [hc] at hs
    exact hs.1
  | o' :: os, k, i + 1, o, hs, h, hc => by
    have he : k + 1 + i = k + (i + 1) := by omega
    unfold AllSteps at hs
    have hs' : AllSteps P ops F T R a0 w0 (k + 1) os := by
      cases hb : (F ++ T).contains k with
      | true => rw [hb] at hs; exact hs
      | false => rw [hb] at hs; exact hs.2
    have := AllSteps.at hs' (i := i) (by simpa using h) (by rw [he]; exact hc)
    rwa [he] at this

def depsOf (o : Oper) : List Nat := (o.after.toList.filter (Region.binds .any ·)).map (·.on)

def edgesOk (ops : List Oper) : Bool := ops.zipIdx.all fun (o, i) => (depsOf o).all fun j => decide (j < i)

/-- every operation that is neither done before nor of the tail has one behind it that waits for it: another such, or the tail's first; each of the tail waits for the one ahead of it -/
def tailOk (ops : List Oper) (F E T : List Nat) : Bool :=
  match T with
  | [] => true
  | t :: ts =>
    (List.range ops.length).all (fun j => (F ++ T).contains j ||
      ((List.range ops.length).any fun k => decide (j < k) && (k == t || !(F ++ T).contains k) && ((ops[k]?).map fun o => (depsOf o).contains j).getD false) ||
      (E.contains j && ((ops[j]?).map fun o => (depsOf o).all fun d => ((ops[t]?).map fun u => (depsOf u).contains d || (depsOf u).any fun e => ((ops[e]?).map fun q => (depsOf q).contains d).getD false).getD false).getD false)) &&
    chain t ts
where
  chain : Nat → List Nat → Bool
    | _, [] => true
    | t, u :: ts => ((ops[u]?).map fun o => (depsOf o).contains t).getD false && chain u ts

/-- an operation of E looks at no slot that another writes but those that it waits for, and writes none that another looks at but those that wait for it -/
def freeOk (ops : List Oper) (E : List Nat) : Bool :=
  E.all fun i => match ops[i]? with
    | none => false
    | some oi => (List.range ops.length).all fun j => j == i || (depsOf oi).contains j || match ops[j]? with
      | some oj => (depsOf oj).contains i || oi.apart ops.toArray oj
      | none => true

def EStep (P : Program) (ops : List Oper) (F T : List Nat) (R : Nat → Value → World → Prop) (a0 : Act) (w0 : World) (i : Nat) (o : Oper) : Prop :=
  ∀ vs w, Ext w0 w → Deps F R vs w o.after.toList (∃ v, Yields P ops.toArray o v (putAll (F ++ T) ops 0 vs a0) ∧ R i v w)

theorem count_set_true : ∀ (l : List Bool) (i : Nat), l[i]? = some false → (l.set i true).count false + 1 = l.count false
  | [], i, h => by simp at h
  | b :: l, 0, h => by simp at h; subst h; simp
  | b :: l, i + 1, h => by
    have := count_set_true l i (by simpa using h)
    simp only [List.set_cons_succ, List.count_cons]
    omega

/-- which are listed when all but the tail is done -/
def listedT (n : Nat) (T : List Nat) : Array Bool := ((List.range n).map fun i => !T.contains i).toArray

theorem mem_ready {ops : List Oper} {listed : Array Bool} {i : Nat} :
    i ∈ Region.ready .any ops.toArray listed ↔ ∃ o, ops[i]? = some o ∧ listed.getD i true = false ∧ ∀ j ∈ depsOf o, listed.getD j false = true := by
  unfold Region.ready
  rw [List.mem_filter]
  constructor
  · rintro ⟨h1, h2⟩
    have hil : i < ops.length := by simpa using h1
    have hop' : ops.toArray[i]? = some ops[i] := by simp [hil]
    simp only [Bool.and_eq_true, Bool.not_eq_true', hop', Option.map_some, Option.getD_some] at h2
    refine ⟨ops[i], by simp [hil], h2.1, fun j hj => ?_⟩
    unfold depsOf at hj
    obtain ⟨e, he, rfl⟩ := List.mem_map.1 hj
    rw [List.mem_filter] at he
    have h3 := h2.2
    rw [Array.all_eq_true_iff_forall_mem] at h3
    have := h3 e (by simpa using he.1)
    rw [he.2] at this
    simpa using this
  · rintro ⟨o, h1, h2, h3⟩
    have hil : i < ops.length := (List.getElem?_eq_some_iff.1 h1).1
    refine ⟨by simpa using hil, ?_⟩
    have hop' : ops.toArray[i]? = some o := by simpa using h1
    simp only [Bool.and_eq_true, Bool.not_eq_true', hop', Option.map_some, Option.getD_some]
    refine ⟨h2, ?_⟩
    rw [Array.all_eq_true_iff_forall_mem]
    intro e he
    cases hb : Region.binds .any e with
    | false => rfl
    | true =>
      simp only [Bool.not_true, Bool.false_or]
      exact h3 e.on (List.mem_map.2 ⟨e, List.mem_filter.2 ⟨by simpa using he, hb⟩, rfl⟩)

theorem getD_true {listed : Array Bool} {j : Nat} (h : listed.getD j false = true) : listed[j]? = some true := by
  rw [Array.getD_eq_getD_getElem?] at h
  cases hq : listed[j]? with
  | none => rw [hq] at h; simp at h
  | some b => rw [hq] at h; simp at h; rw [h]

theorem mono_from {P : Program} {Q : Exit → Act → World → Prop} {ops : List Oper} {a0 : Act} {w0 : World} (F E T : List Nat)
    (R : Nat → Value → World → Prop) (hR : ∀ i v w w', R i v w → Ext w w' → R i v w') (hd : dstsOk ops = true) (he : edgesOk ops = true) (hT : tailOk ops F E T = true)
    (hns : Region.noSelect ops.toArray = true) (hfree : freeOk ops E = true) (hEFT : E.all (fun i => !(F ++ T).contains i) = true) (hQ : ∀ c d v a w, Q (.panic c) (Act.put a d v) w → Q (.panic c) a w)
    (hEs : ∀ i o, E.contains i = true → ops[i]? = some o → EStep P ops F T R a0 w0 i o)
    (hFT : F.all (fun i => !T.contains i) = true)
    (hs : AllSteps P ops F T R a0 w0 0 ops) {fuel : Nat} {listed0 : Array Bool} (h0 : listed0 = ((List.range ops.length).map fun i => F.contains i).toArray) (hfuel : fuel = listed0.toList.count false)
    (hF : F.all (fun i => ((ops[i]?).map fun o => (depsOf o).all F.contains).getD true) = true)
    (hend : ∀ vs w, Ext w0 w → (∀ i, i < ops.length → (F ++ T).contains i = false → R i (vs i) w) → wpAny P .any ops.toArray Q ((listedT ops.length T).toList.count false) (listedT ops.length T) (putAll (F ++ T) ops 0 vs a0) w) :
    wpAny P .any ops.toArray Q fuel listed0 a0 w0 := by
  have key : ∀ (fuel : Nat) (listed : Array Bool) (vs : Nat → Value) (w : World), listed.size = ops.length → listed.toList.count false = fuel →
      Ext w0 w → (∀ j, j < ops.length → F.contains j = true → listed[j]? = some true) → (∀ j, T.contains j = true → listed[j]? ≠ some true) →
      (∀ (i : Nat) (o : Oper), ops[i]? = some o → listed[i]? = some true → ∀ j ∈ depsOf o, listed.getD j false = true) →
      (∀ j, listed[j]? = some true → F.contains j = false → R j (vs j) w) → wpAny P .any ops.toArray Q fuel listed (putAll (F ++ T) ops 0 vs a0) w := by
    intro fuel
    induction fuel with
    | zero =>
      intro listed vs w hsz hc hw hlF hlT hcl hr
      have hall : ∀ j, j < ops.length → listed[j]? = some true := by
        intro j hj
        have hj' : j < listed.size := by omega
        have hmem : listed[j] ∈ listed.toList := by simp
        have hnf : false ∉ listed.toList := by rw [← List.count_eq_zero]; exact hc
        rw [Array.getElem?_eq_getElem hj']
        cases hb : listed[j] with
        | true => rfl
        | false => rw [hb] at hmem; exact absurd hmem hnf
      have hlist : listed = listedT ops.length T := by
        apply Array.ext_getElem?
        intro j
        by_cases hj : j < ops.length
        · rw [hall j hj]
          cases hb : T.contains j with
          | true => exact absurd (hall j hj) (hlT j hb)
          | false => simp only [listedT, List.getElem?_toArray, List.getElem?_map, List.getElem?_range hj, Option.map_some, hb, Bool.not_false]
        · rw [Array.getElem?_eq_none (by omega)]
          simp [listedT, hj]
      have := hend vs w hw fun i hi hni => hr i (hall i hi) (by
        simp only [List.contains_eq_mem, List.mem_append, decide_eq_false_iff_not, not_or] at hni
        simpa using hni.1)
      rw [← hlist, hc] at this
      exact this
    | succ fuel ih =>
      intro listed vs w hsz hc hw hlF hlT hcl hr
      by_cases hdone : ∀ j, j < ops.length → (F ++ T).contains j = false → listed[j]? = some true
      · have hlist : listed = listedT ops.length T := by
          apply Array.ext_getElem?
          intro j
          by_cases hj : j < ops.length
          · have e2 : (listedT ops.length T)[j]? = some (!T.contains j) := by
              simp only [listedT, List.getElem?_toArray, List.getElem?_map, List.getElem?_range hj, Option.map_some]
            rw [e2]
            cases hb : T.contains j with
            | true =>
              have := hlT j hb
              have hj' : j < listed.size := by omega
              rw [Array.getElem?_eq_getElem hj'] at this ⊢
              simpa using this
            | false =>
              cases hf : F.contains j with
              | true => rw [hlF j hj hf]; rfl
              | false =>
                rw [hdone j hj (by
                  simp only [List.contains_eq_mem, List.mem_append, decide_eq_false_iff_not, not_or] at hb hf ⊢
                  exact ⟨hf, hb⟩)]
                rfl
          · rw [Array.getElem?_eq_none (by omega)]
            simp [listedT, hj]
        have := hend vs w hw fun i hi hni => hr i (hdone i hi hni) (by
          simp only [List.contains_eq_mem, List.mem_append, decide_eq_false_iff_not, not_or] at hni
          simpa using hni.1)
        rw [← hlist, hc] at this
        exact this
      · -- what one that is ready leaves behind it
        have hstepped : ∀ (i : Nat) (o : Oper), ops[i]? = some o → listed[i]? = some false → (F ++ T).contains i = false → (∀ j ∈ depsOf o, listed.getD j false = true) →
            ∀ v w', Ext w w' → R i v w' → wpAny P .any ops.toArray Q fuel (listed.setIfInBounds i true) ((putAll (F ++ T) ops 0 vs a0).put o.dst v) w' := by
          intro i o ho hfalse hiS hdo v w' hww hri
          have hiF : F.contains i = false := by
            simp only [List.contains_eq_mem, List.mem_append, decide_eq_false_iff_not, not_or] at hiS ⊢
            exact hiS.1
          have hiT : T.contains i = false := by
            simp only [List.contains_eq_mem, List.mem_append, decide_eq_false_iff_not, not_or] at hiS ⊢
            exact hiS.2
          have := putAll_upd (F ++ T) ops 0 vs a0 i o v hd ho (by rw [Nat.zero_add]; exact hiS)
          rw [Nat.zero_add] at this
          rw [this]
          have hsetT : ∀ (j : Nat), listed[j]? = some true → (listed.setIfInBounds i true)[j]? = some true := by
            intro j hj
            rw [Array.getElem?_setIfInBounds]
            split
            · simp_all
            · exact hj
          refine ih _ _ _ (by simp [hsz]) ?_ (Ext.tr hw hww) ?_ ?_ ?_ ?_
          · have := count_set_true listed.toList i (by simpa using hfalse)
            simp only [Array.toList_setIfInBounds]
            omega
          · exact fun j hj hjF => hsetT j (hlF j hj hjF)
          · intro j hjT hj
            rw [Array.getElem?_setIfInBounds] at hj
            split at hj
            · rename_i hij; subst hij; rw [hjT] at hiT; simp at hiT
            · exact hlT j hjT hj
          · intro k ok hok hk j hj
            have hjl : listed.getD j false = true := by
              rw [Array.getElem?_setIfInBounds] at hk
              split at hk
              · rename_i hik
                subst hik
                rw [ho] at hok
                simp at hok
                subst hok
                exact hdo j hj
              · exact hcl k ok hok hk j hj
            rw [Array.getD_eq_getD_getElem?, hsetT j (getD_true hjl)]
            rfl
          · intro j hj hjF
            rw [Array.getElem?_setIfInBounds] at hj
            unfold upd
            split at hj
            · rename_i hij; subst hij; rw [if_pos rfl]; exact hri
            · rename_i hij; rw [if_neg (fun h => hij h.symm)]; exact hR _ _ _ _ (hr j hj hjF) hww
        by_cases hsat : ∃ i, E.contains i = true ∧ i ∈ Region.ready .any ops.toArray listed
        · -- one of E is ready: it is taken first
          obtain ⟨i, hiE, hi⟩ := hsat
          obtain ⟨o, ho, hlo, hdo⟩ := mem_ready.1 hi
          have hil : i < ops.length := (List.getElem?_eq_some_iff.1 ho).1
          have hil' : i < listed.size := by omega
          have hfalse : listed[i]? = some false := by
            rw [Array.getElem?_eq_getElem hil']
            simpa [Array.getD_eq_getD_getElem?, Array.getElem?_eq_getElem hil'] using hlo
          have hiS : (F ++ T).contains i = false := by
            have := List.all_eq_true.1 hEFT i (by simpa using hiE)
            simpa using this
          obtain ⟨v, hy, hri⟩ := (hEs i o hiE ho vs w hw).pay fun e hee hb hf => hr e.on (getD_true (hdo e.on (List.mem_map.2 ⟨e, List.mem_filter.2 ⟨hee, hb⟩, rfl⟩))) hf
          refine wpAny_take (i := i) (oi := o) (v := v) (by simpa using ho) hns ?_ (by simpa using hi) (fun c a w h => hQ c o.dst v a w h) hy (hstepped i o ho hfalse hiS hdo v w (Ext.refl' w) hri)
          -- nothing that is left interferes
          have hfr := List.all_eq_true.1 hfree i (by simpa using hiE)
          rw [ho] at hfr
          simp only at hfr
          unfold Region.free
          have hop' : ops.toArray[i]? = some o := by simpa using ho
          rw [hop']
          simp only
          rw [List.all_eq_true] at hfr ⊢
          intro j hj
          have h1 := hfr j (by simpa using hj)
          by_cases hji : j = i
          · simp [hji]
          · simp only [Bool.or_eq_true, beq_iff_eq] at h1 ⊢
            rcases h1 with (h1 | h1) | h1
            · exact absurd h1 hji
            · have hjl := getD_true (hdo j (by simpa using h1))
              left; right
              simp [Array.getD_eq_getD_getElem?, hjl]
            · right
              have hjl : j < ops.length := by simpa using hj
              have hoj : ops[j]? = some ops[j] := by simp [hjl]
              have hoj' : ops.toArray[j]? = some ops[j] := by simp [hjl]
              rw [hoj] at h1
              rw [hoj']
              simp only [Bool.or_eq_true] at h1 ⊢
              rcases h1 with h1 | h1
              · left
                rw [List.contains_eq_mem, decide_eq_true_eq] at h1
                unfold depsOf at h1
                obtain ⟨e, he1, he2⟩ := List.mem_map.1 h1
                rw [List.mem_filter] at he1
                rw [← Array.any_toList, List.any_eq_true]
                exact ⟨e, he1.1, by rw [he1.2, he2]; simp⟩
              · right; exact h1
        -- one is left that is not of the tail: none of the tail is ready
        have hnT : ∀ i, i ∈ Region.ready .any ops.toArray listed → T.contains i = false := by
          intro i hi
          cases hb : T.contains i with
          | false => rfl
          | true =>
            exfalso
            obtain ⟨o, ho, hlo, hdo⟩ := mem_ready.1 hi
            cases hTT : T with
            | nil => rw [hTT] at hb; simp at hb
            | cons t ts =>
              rw [hTT] at hT
              simp only [tailOk, Bool.and_eq_true] at hT
              obtain ⟨hA, hC⟩ := hT
              by_cases hit : i = t
              · subst hit
                apply hdone
                have down : ∀ n j, ops.length - j ≤ n → j < ops.length → (F ++ T).contains j = false → listed[j]? = some true := by
                  intro n
                  induction n with
                  | zero => intro j h1 h2; omega
                  | succ n ihn =>
                    intro j h1 h2 h3
                    rw [List.all_eq_true] at hA
                    have := hA j (by simpa using h2)
                    rw [hTT] at h3
                    rw [h3, Bool.false_or, Bool.or_eq_true] at this
                    rcases this with this | this
                    case inr =>
                      -- one of E: all that it waits for is done: it is done
                      simp only [Bool.and_eq_true] at this
                      obtain ⟨hjE, hjd⟩ := this
                      have hjo : ops[j]? = some ops[j] := by simp [h2]
                      rw [hjo, ho] at hjd
                      simp only [Option.map_some, Option.getD_some, List.all_eq_true] at hjd
                      have hdep : ∀ d ∈ depsOf ops[j], listed.getD d false = true := by
                        intro d hdd
                        have hd1 := hjd d hdd
                        rw [Bool.or_eq_true] at hd1
                        rcases hd1 with h | h
                        · exact hdo d (by simpa using h)
                        · rw [List.any_eq_true] at h
                          obtain ⟨e, he1, he2⟩ := h
                          cases hoe : ops[e]? with
                          | none => rw [hoe] at he2; simp at he2
                          | some q => rw [hoe] at he2; exact hcl e q hoe (getD_true (hdo e he1)) d (by simpa using he2)
                      have hj' : j < listed.size := by omega
                      cases hb : listed[j] with
                      | true => rw [Array.getElem?_eq_getElem hj', hb]
                      | false =>
                        exfalso
                        refine hsat ⟨j, hjE, mem_ready.2 ⟨ops[j], hjo, by simp [Array.getD_eq_getD_getElem?, Array.getElem?_eq_getElem hj', hb], hdep⟩⟩
                    rw [List.any_eq_true] at this
                    obtain ⟨k, hk, hkk⟩ := this
                    simp only [Bool.and_eq_true, decide_eq_true_eq, Bool.or_eq_true, beq_iff_eq, Bool.not_eq_true'] at hkk
                    obtain ⟨⟨hjk, hkt⟩, hdk⟩ := hkk
                    have hkl : k < ops.length := by simpa using hk
                    have hok : ops[k]? = some ops[k] := by simp [hkl]
                    rw [hok] at hdk
                    simp only [Option.map_some, Option.getD_some, List.contains_eq_mem, decide_eq_true_eq] at hdk
                    rcases hkt with hkt | hkt
                    · subst hkt
                      have : o = ops[k] := by rw [ho] at hok; simpa using hok
                      subst this
                      exact getD_true (hdo j hdk)
                    · have hlk := ihn k (by omega) hkl (by rw [hTT]; exact hkt)
                      exact getD_true (hcl k ops[k] hok hlk j hdk)
                exact fun j hj hjn => down ops.length j (by omega) hj hjn
              · -- it waits for the one ahead of it
                have hch : ∀ (l : List Nat) (p : Nat), tailOk.chain ops p l = true → i ∈ l → ∃ q, (q = p ∨ q ∈ l) ∧ q ∈ depsOf o := by
                  intro l
                  induction l with
                  | nil => intro p _ hm; simp at hm
                  | cons u l ihl =>
                    intro p hcc hm
                    simp only [tailOk.chain, Bool.and_eq_true] at hcc
                    rcases List.mem_cons.1 hm with rfl | hm
                    · refine ⟨p, Or.inl rfl, ?_⟩
                      have := hcc.1
                      rw [ho] at this
                      simpa using this
                    · obtain ⟨q, hq, hqd⟩ := ihl u hcc.2 hm
                      refine ⟨q, Or.inr ?_, hqd⟩
                      rcases hq with rfl | hq
                      · exact List.mem_cons_self
                      · exact List.mem_cons_of_mem _ hq
                have him : i ∈ ts := by
                  have : i ∈ t :: ts := by rw [hTT] at hb; simpa using hb
                  rcases List.mem_cons.1 this with h | h
                  · exact absurd h hit
                  · exact h
                obtain ⟨q, hq, hqd⟩ := hch ts t hC him
                refine hlT q ?_ (getD_true (hdo q hqd))
                rw [hTT]
                simp only [List.contains_eq_mem, List.mem_cons, decide_eq_true_eq]
                exact hq
        refine ⟨fun hnil => ?_, fun i hi => ?_⟩
        · exfalso
          apply hdone
          have hall : ∀ n j, j < n → j < ops.length → listed[j]? = some true := by
            intro n
            induction n with
            | zero => intro j hj; omega
            | succ n ihn =>
              intro j hj hjl
              have hj' : j < listed.size := by omega
              cases hb : listed[j] with
              | true => rw [Array.getElem?_eq_getElem hj', hb]
              | false =>
                exfalso
                have hmem : j ∈ Region.ready .any ops.toArray listed := by
                  refine mem_ready.2 ⟨ops[j], by simp [hjl], by simp [Array.getD_eq_getD_getElem?, Array.getElem?_eq_getElem hj', hb], fun i hi => ?_⟩
                  have h3 : (fun (o, i) => (depsOf o).all fun j => decide (j < i)) (ops[j], j) = true :=
                    List.all_eq_true.1 he (ops[j], j) (by rw [List.mem_zipIdx_iff_getElem?]; simp [hjl])
                  simp only [List.all_eq_true, decide_eq_true_eq] at h3
                  have hij := h3 i hi
                  have := ihn i (by omega) (by omega)
                  simp [Array.getD_eq_getD_getElem?, this]
                rw [hnil] at hmem
                simp at hmem
          exact fun j hj _ => hall (j + 1) j (by omega) hj
        · have hiT := hnT i hi
          obtain ⟨o, ho, hlo, hdo⟩ := mem_ready.1 hi
          have hil : i < ops.length := (List.getElem?_eq_some_iff.1 ho).1
          have hil' : i < listed.size := by omega
          have hfalse : listed[i]? = some false := by
            rw [Array.getElem?_eq_getElem hil']
            simpa [Array.getD_eq_getD_getElem?, Array.getElem?_eq_getElem hil'] using hlo
          have hiF : F.contains i = false := by
            cases hb : F.contains i with
            | false => rfl
            | true => have := hlF i hil hb; rw [hfalse] at this; simp at this
          have hiS : (F ++ T).contains i = false := by
            simp only [List.contains_eq_mem, List.mem_append, decide_eq_false_iff_not, not_or] at hiF hiT ⊢
            exact ⟨hiF, hiT⟩
          have hstep := AllSteps.at hs ho (by rw [Nat.zero_add]; exact hiS)
          rw [Nat.zero_add] at hstep
          have hg := (hstep vs w hw).pay fun e hee hb hf => hr e.on (getD_true (hdo e.on (List.mem_map.2 ⟨e, List.mem_filter.2 ⟨hee, hb⟩, rfl⟩))) hf
          have hnext := hstepped i o ho hfalse hiS hdo
          unfold wpOp
          have hop' : ops.toArray[i]? = some o := by simpa using ho
          rw [hop']
          simp only []
          split
          · rename_i hwt
            rw [if_pos hwt] at hg
            exact .inl (hg.wp fun v w' ⟨h1, h2⟩ => hnext v w' h1 h2)
          · rename_i hwt
            rw [if_neg hwt] at hg
            exact hnext undef w (Ext.refl' w) hg
  have hl0 : ∀ j, listed0[j]? = some true → F.contains j = true := by
    intro j hj
    rw [h0] at hj
    simp only [List.getElem?_toArray, List.getElem?_map] at hj
    by_cases hjl : j < ops.length
    · rw [List.getElem?_range hjl] at hj
      simpa using hj
    · rw [List.getElem?_eq_none (by simpa using hjl)] at hj
      simp at hj
  have hl1 : ∀ j, j < ops.length → F.contains j = true → listed0[j]? = some true := by
    intro j hj hjF
    rw [h0]
    simp only [List.getElem?_toArray, List.getElem?_map, List.getElem?_range hj, Option.map_some, hjF]
  have h1 := key fuel listed0 (fun j => match (ops[j - 0]?).bind (·.dst) with | some d => a0.tmps.getD d undef | none => undef) w0 (by rw [h0]; simp) hfuel.symm (Ext.refl' w0) hl1 ?_ ?_ ?_
  · rwa [putAll_old] at h1
  · intro j hjT hj
    have := hl0 j hj
    rw [List.all_eq_true] at hFT
    have := hFT j (by simpa using this)
    rw [hjT] at this
    simp at this
  · intro i o ho hi j hj
    have hiF := hl0 i hi
    rw [List.all_eq_true] at hF
    have := hF i (by simpa using hiF)
    rw [ho] at this
    simp only [Option.map_some, Option.getD_some, List.all_eq_true] at this
    have hjF := this j hj
    have hjl : j < ops.length := by
      have h3 : (fun (o, i) => (depsOf o).all fun j => decide (j < i)) (o, i) = true :=
        List.all_eq_true.1 he (o, i) (by rw [List.mem_zipIdx_iff_getElem?]; exact ho)
      simp only [List.all_eq_true, decide_eq_true_eq] at h3
      have h4 := h3 j hj
      have : i < ops.length := (List.getElem?_eq_some_iff.1 ho).1
      omega
    rw [Array.getD_eq_getD_getElem?, hl1 j hjl hjF]
    rfl
  · intro j hj hjF
    rw [hl0 j hj] at hjF
    simp at hjF

/-- the tail comes in one order alone: on as a list -/
def forcedOk (ops : List Oper) : List Nat → Array Bool → Bool
  | [], listed => Region.ready .any ops.toArray listed == []
  | t :: ts, listed => Region.ready .any ops.toArray listed == [t] && forcedOk ops ts (listed.setIfInBounds t true)

theorem wpAny_forced {P : Program} {Q : Exit → Act → World → Prop} {ops : List Oper} : ∀ (T : List Nat) (listed : Array Bool) (a : Act) (w : World), forcedOk ops T listed = true →
    wpList P ops.toArray Q (T.filterMap fun t => ops[t]?) a w → ∀ fuel, T.length ≤ fuel → wpAny P .any ops.toArray Q fuel listed a w
  | [], listed, a, w, hf, h, fuel, _ => by
    simp only [forcedOk, beq_iff_eq] at hf
    exact wpAny_done hf h fuel
  | t :: ts, listed, a, w, hf, h, 0, hl => by simp at hl
  | t :: ts, listed, a, w, hf, h, fuel + 1, hl => by
    simp only [forcedOk, Bool.and_eq_true, beq_iff_eq] at hf
    refine ⟨fun h0 => by rw [hf.1] at h0; simp at h0, fun i hi => ?_⟩
    rw [hf.1] at hi
    simp only [List.mem_singleton] at hi
    subst hi
    have hr : i ∈ Region.ready .any ops.toArray listed := by rw [hf.1]; simp
    obtain ⟨o, ho, _, _⟩ := mem_ready.1 hr
    have hop' : ops.toArray[i]? = some o := by simpa using ho
    simp only [List.filterMap_cons, ho, wpList] at h
    unfold wpOp
    rw [hop']
    simp only []
    have hrest : ∀ a w, wpList P ops.toArray Q (ts.filterMap fun t => ops[t]?) a w → wpAny P .any ops.toArray Q fuel (listed.setIfInBounds i true) a w :=
      fun a w h => wpAny_forced ts _ a w hf.2 h fuel (by simpa using hl)
    split at h
    · rename_i hw
      rw [if_pos hw]
      exact h.imp (Oper.wp_mono hrest) id
    · rename_i hw
      rw [if_neg hw]
      exact hrest _ _ h

/-- A REGION THAT DRAWS ITS ORDER: each operation but the tail's (T, in their one order) is proved by itself, of whatever world that has grown out of w0, from the guarantees of those that come ahead of it -/
theorem region_tail {P : Program} {Q : Exit → Act → World → Prop} {id : Nat} {ops : List Oper} {a0 : Act} {w0 : World} (E T : List Nat) (R : Nat → Value → World → Prop)
    (hm : P.follows .mixedOrders = true) (hQ : ∀ c d v a w, Q (.panic c) (Act.put a d v) w → Q (.panic c) a w) (hok : (dstsOk ops && edgesOk ops && tailOk ops [] E T && forcedOk ops T (listedT ops.length T) && decide (T.length ≤ (listedT ops.length T).toList.count false) && Region.noSelect ops.toArray && freeOk ops E && E.all (fun i => !([] ++ T).contains i)) = true)
    (hR : ∀ i v w w', R i v w → Ext w w' → R i v w')
    (hEs : ∀ i o, E.contains i = true → ops[i]? = some o → EStep P ops [] T R a0 w0 i o)
    (hs : AllSteps P ops [] T R a0 w0 0 ops)
    (hend : ∀ vs w, Ext w0 w → (∀ i, i < ops.length → T.contains i = false → R i (vs i) w) → wpList P ops.toArray Q (T.filterMap fun t => ops[t]?) (putAll T ops 0 vs a0) w) :
    (Code.region id ops.toArray true).wp P Q a0 w0 := by
  simp only [Bool.and_eq_true, decide_eq_true_eq] at hok
  obtain ⟨⟨⟨⟨⟨⟨⟨h1, h2⟩, h3⟩, h4⟩, h5⟩, h6⟩, h7⟩, h8⟩ := hok
  refine wp_region_any hm ?_
  have hE : Ext w0 { w0 with drawn := w0.drawn + 1 } := ⟨rfl, rfl, rfl, Nat.le_refl _, fun _ _ => rfl⟩
  refine mono_from [] E T R hR h1 h2 h3 h6 h7 h8 hQ (fun i o h1 h2 vs w hw => hEs i o h1 h2 vs w (Ext.tr hE hw)) (by simp) ?_ (by
    apply Array.ext_getElem?
    intro j
    by_cases hj : j < ops.length <;> simp [hj]) (by simp) (by simp) ?_
  · -- the steps hold of the world behind the draw, too
    have : ∀ os k, AllSteps P ops [] T R a0 w0 k os → AllSteps P ops [] T R a0 { w0 with drawn := w0.drawn + 1 } k os := by
      intro os
      induction os with
      | nil => intros; trivial
      | cons o os ih =>
        intro k h
        unfold AllSteps at h ⊢
        cases hb : ([] ++ T).contains k with
        | true => rw [hb] at h; exact ih _ h
        | false => rw [hb] at h; exact ⟨fun vs w hw => h.1 vs w (Ext.tr hE hw), ih _ h.2⟩
    exact this _ _ hs
  · intro vs w hw hr
    exact wpAny_forced T _ _ _ h4 (hend vs w (Ext.tr hE hw) hr) _ h5
/-! ### the same, each operation from what its operands hold -/

def findDst (S : List Nat) : List Oper → Tmp → Nat → Option Nat
  | [], _, _ => none
  | o :: os, t, k => match findDst S os t (k + 1) with
    | some j => some j
    | none => bif !S.contains k && o.dst == some t then some k else none

/-- what an operand holds: what the operation that writes its slot has left, else what it held before the region -/
def look (S : List Nat) (ops : List Oper) (vs : Nat → Value) (a0 : Act) : Operand → Value
  | .tmp t => match findDst S ops t 0 with
    | some j => vs j
    | none => a0.tmps.getD t undef
  | .const v => v
  | .global g => .pointer (some ⟨g, 0, none⟩)
  | .func f => .func (.func f) #[] #[]

theorem put_size (a : Act) (d : Option Tmp) (v : Value) : (a.put d v).tmps.size = a.tmps.size := by cases d <;> simp [Act.put]
theorem putAll_size (S : List Nat) (os : List Oper) : ∀ k vs a, (putAll S os k vs a).tmps.size = a.tmps.size := by
  induction os with
  | nil => intros; rfl
  | cons o os ih =>
    intro k vs a
    simp only [putAll, ih]
    cases S.contains k with
    | true => rfl
    | false => exact put_size _ _ _

theorem putAll_get (S : List Nat) (t : Tmp) (vs : Nat → Value) (os : List Oper) : ∀ k a, (∀ o ∈ os, ∀ d, o.dst = some d → d < a.tmps.size) →
    (putAll S os k vs a).tmps.getD t undef = match findDst S os t k with | some j => vs j | none => a.tmps.getD t undef := by
  induction os with
  | nil => intros; rfl
  | cons o os ih =>
    intro k a h
    have hsz : (bif S.contains k then a else a.put o.dst (vs k)).tmps.size = a.tmps.size := by
      cases S.contains k with
      | true => rfl
      | false => exact put_size _ _ _
    simp only [putAll, findDst]
    rw [ih _ _ fun o' ho' d hd => by rw [hsz]; exact h o' (List.mem_cons_of_mem _ ho') d hd]
    cases findDst S os t (k + 1) with
    | some j => rfl
    | none =>
      cases S.contains k with
      | true => rfl
      | false =>
        simp only [cond_false, Bool.not_false, Bool.true_and]
        cases hd : o.dst with
        | none => rfl
        | some d =>
          have hlt := h o List.mem_cons_self d hd
          by_cases hdt : d = t
          · subst hdt
            simp [Act.put, hlt]
          · have : (some d == some t) = false := by simpa using hdt
            rw [this]
            simp [Act.put, Array.getElem?_setIfInBounds_ne hdt]

theorem look_eq {S : List Nat} {ops : List Oper} {vs : Nat → Value} {a0 : Act} (h : ∀ o ∈ ops, ∀ d, o.dst = some d → d < a0.tmps.size) (x : Operand) :
    (putAll S ops 0 vs a0).eval x = look S ops vs a0 x := by
  cases x with
  | tmp t => exact putAll_get S t vs ops 0 a0 h
  | _ => rfl

def GivesR (P : Program) (o : Oper) (ρ : Operand → Value) (w : World) (S : Value → World → Prop) : Prop :=
  match (execOp ρ o).run P w with
  | .ok (.value v) w' => S v w'
  | .ok .skip w' => S undef w'
  | .ok (.enter f args) w' => Calls P f args w' fun e w'' => ∃ v, e = .returned v ∧ S v w''
  | _ => False

def wantedL (ops : List Oper) (ρ : Operand → Value) (o : Oper) : Bool :=
  match o.guard with
  | none => true
  | some (j, want) => match (ops[j]?).bind (·.dst) with
    | some t => match ρ (.tmp t) with
      | .bool b => b == want
      | _ => false
    | none => false

theorem wantedL_eq {ops : List Oper} {a : Act} {o : Oper} : Region.wanted o (yielded ops.toArray a.tmps) = wantedL ops a.eval o := by
  unfold Region.wanted wantedL
  cases o.guard with
  | none => rfl
  | some jw =>
    obtain ⟨j, want⟩ := jw
    simp only [yielded, List.getElem?_toArray]
    cases (ops[j]?).bind (·.dst) with
    | none => rfl
    | some t =>
      simp only [Option.bind_some, Act.eval, Array.getD_eq_getD_getElem?]
      cases a.tmps[t]? with
      | none => rfl
      | some v => cases v <;> first | rfl | (simp only [Option.getD_some]; rename_i b; cases b <;> cases want <;> rfl)

/-- what may be said of a slot's value, and stays true as memory grows -/
structure SP where
  R : Value → World → Prop
  st : ∀ v w w', R v w → Ext w w' → R v w'
def SP.any : SP := ⟨fun _ _ => True, fun _ _ _ _ _ => trivial⟩
def SP.val (x : Value) : SP := ⟨fun v _ => v = x, fun _ _ _ h _ => h⟩
def SP.at (L : List SP) (i : Nat) (v : Value) (w : World) : Prop := (L.getD i SP.any).R v w

def Step (P : Program) (ops : List Oper) (o : Oper) (ρ : Operand → Value) (w : World) (R : Value → World → Prop) : Prop :=
  (wantedL ops ρ o = true → GivesR P o ρ w (fun v w' => Ext w w' ∧ R v w')) ∧ (wantedL ops ρ o = false → R undef w)

def StepL (P : Program) (ops : List Oper) (T : List Nat) (L : List SP) (a0 : Act) (w0 : World) (i : Nat) (o : Oper) : Prop :=
  ∀ vs w, Ext w0 w → Deps [] (SP.at L) vs w o.after.toList (Step P ops o (look T ops vs a0) w (SP.at L i))

/-- an operation that yields the same in whatever world -/
def FreeL (P : Program) (ops : List Oper) (T : List Nat) (L : List SP) (a0 : Act) (w0 : World) (i : Nat) (o : Oper) : Prop :=
  o.guard = none ∧ ∀ vs w, Ext w0 w → Deps [] (SP.at L) vs w o.after.toList (∃ v, (∀ w', (execOp (look T ops vs a0) o).run P w' = .ok (.value v) w') ∧ SP.at L i v w)

inductive StepsL (P : Program) (ops : List Oper) (E T : List Nat) (L : List SP) (a0 : Act) (w0 : World) : Nat → List Oper → Prop
  | nil {i : Nat} : StepsL P ops E T L a0 w0 i []
  | skip {i : Nat} {o : Oper} {os : List Oper} (h : T.contains i = true) (r : StepsL P ops E T L a0 w0 (i + 1) os) : StepsL P ops E T L a0 w0 i (o :: os)
  | free {i : Nat} {o : Oper} {os : List Oper} (h : FreeL P ops T L a0 w0 i o) (r : StepsL P ops E T L a0 w0 (i + 1) os) : StepsL P ops E T L a0 w0 i (o :: os)
  | cons {i : Nat} {o : Oper} {os : List Oper} (h : StepL P ops T L a0 w0 i o) (r : StepsL P ops E T L a0 w0 (i + 1) os) (hn : E.contains i = false := by rfl) : StepsL P ops E T L a0 w0 i (o :: os)

theorem Deps.map {F : List Nat} {R : Nat → Value → World → Prop} {vs : Nat → Value} {w : World} {G G' : Prop} (hg : G → G') : ∀ {es : List Edge}, Deps F R vs w es G → Deps F R vs w es G'
  | [], h => hg h
  | e :: es, h => by
    unfold Deps at h ⊢
    cases hb : (Region.binds .any e && !F.contains e.on) with
    | true => rw [hb] at h; exact fun hr => Deps.map hg (h hr)
    | false => rw [hb] at h; exact Deps.map hg h

def boundsOk (ops : List Oper) (n : Nat) : Bool := ops.all fun o => match o.dst with | some d => decide (d < n) | none => true

theorem StepsL.all {P : Program} {ops : List Oper} {E T : List Nat} {L : List SP} {a0 : Act} {w0 : World} (hb : ∀ o ∈ ops, ∀ d, o.dst = some d → d < a0.tmps.size) {i : Nat} {os : List Oper} (hsub : ∀ o ∈ os, o ∈ ops) (h : StepsL P ops E T L a0 w0 i os) :
    AllSteps P ops [] T (SP.at L) a0 w0 i os := by
  induction h with
  | nil => exact trivial
  | skip hc _ ih =>
    unfold AllSteps
    rw [List.nil_append, hc]
    exact ih fun o ho => hsub o (List.mem_cons_of_mem _ ho)
  | @free i o os h _ ih =>
    have ih' := ih fun o ho => hsub o (List.mem_cons_of_mem _ ho)
    unfold AllSteps
    cases hc : ([] ++ T).contains i with
    | true => exact ih'
    | false =>
      refine ⟨fun vs w hw => ?_, ih'⟩
      refine (h.2 vs w hw).map fun ⟨v, h1, h2⟩ => ?_
      have he : (putAll ([] ++ T) ops 0 vs a0).eval = look T ops vs a0 := funext fun x => look_eq hb x
      have hwt : wantedL ops (look T ops vs a0) o = true := by unfold wantedL; rw [h.1]
      rw [wantedL_eq, he, if_pos hwt]
      unfold Gives
      rw [he, h1 w]
      exact ⟨Ext.refl' w, h2⟩
  | @cons i o os h _ _ ih =>
    have ih' := ih fun o ho => hsub o (List.mem_cons_of_mem _ ho)
    unfold AllSteps
    cases hc : ([] ++ T).contains i with
    | true => exact ih'
    | false =>
      refine ⟨fun vs w hw => ?_, ih'⟩
      refine (h vs w hw).map fun ⟨h1, h2⟩ => ?_
      have he : (putAll ([] ++ T) ops 0 vs a0).eval = look T ops vs a0 := funext fun x => look_eq hb x
      rw [wantedL_eq, he]
      split
      · rename_i hw'
        unfold Gives
        rw [he]
        exact h1 hw'
      · rename_i hw'
        exact h2 (by simpa using hw')

theorem StepsL.eager {P : Program} {ops : List Oper} {E T : List Nat} {L : List SP} {a0 : Act} {w0 : World} (hb : ∀ o ∈ ops, ∀ d, o.dst = some d → d < a0.tmps.size) {i0 : Nat} {os : List Oper} (h : StepsL P ops E T L a0 w0 i0 os) :
    ∀ j o, os[j]? = some o → E.contains (i0 + j) = true → T.contains (i0 + j) = false → EStep P ops [] T (SP.at L) a0 w0 (i0 + j) o := by
  induction h with
  | nil => intro j o h; simp at h
  | @skip i o' os hc _ ih =>
    intro j o hj hE hT
    cases j with
    | zero => rw [Nat.add_zero, hc] at hT; simp at hT
    | succ j =>
      have e : i + 1 + j = i + (j + 1) := by omega
      have := ih j o (by simpa using hj)
      rw [e] at this
      exact this hE hT
  | @free i o' os h _ ih =>
    intro j o hj hE hT
    cases j with
    | zero =>
      simp at hj
      subst hj
      intro vs w hw
      refine (h.2 vs w hw).map fun ⟨v, h1, h2⟩ => ⟨v, ?_, h2⟩
      have he : (putAll ([] ++ T) ops 0 vs a0).eval = look T ops vs a0 := funext fun x => look_eq hb x
      refine Or.inl ⟨?_, fun w' => by rw [he]; exact h1 w'⟩
      unfold Region.wanted
      rw [h.1]
    | succ j =>
      have e : i + 1 + j = i + (j + 1) := by omega
      have := ih j o (by simpa using hj)
      rw [e] at this
      exact this hE hT
  | @cons i o' os h _ hn ih =>
    intro j o hj hE hT
    cases j with
    | zero => rw [Nat.add_zero, hn] at hE; simp at hE
    | succ j =>
      have e : i + 1 + j = i + (j + 1) := by omega
      have := ih j o (by simpa using hj)
      rw [e] at this
      exact this hE hT

/-- A REGION THAT DRAWS ITS ORDER, operation by operation (T: its tail, in its one order; L: what is said of each operation's yield) -/
theorem region_sp {P : Program} {Q : Exit → Act → World → Prop} {id : Nat} {ops : List Oper} {a0 : Act} {w0 : World} (E T : List Nat) (L : List SP)
    (hm : P.follows .mixedOrders = true) (hQ : ∀ c d v a w, Q (.panic c) (Act.put a d v) w → Q (.panic c) a w) (hok : (dstsOk ops && edgesOk ops && tailOk ops [] E T && forcedOk ops T (listedT ops.length T) && decide (T.length ≤ (listedT ops.length T).toList.count false) && Region.noSelect ops.toArray && freeOk ops E && E.all (fun i => !([] ++ T).contains i)) = true)
    (hb : boundsOk ops a0.tmps.size = true)
    (hs : StepsL P ops E T L a0 w0 0 ops)
    (hend : ∀ vs w, Ext w0 w → (∀ i, i < ops.length → T.contains i = false → SP.at L i (vs i) w) → wpList P ops.toArray Q (T.filterMap fun t => ops[t]?) (putAll T ops 0 vs a0) w) :
    (Code.region id ops.toArray true).wp P Q a0 w0 := by
  have hb' : ∀ o ∈ ops, ∀ d, o.dst = some d → d < a0.tmps.size := by
    intro o ho d hd
    have := List.all_eq_true.1 hb o ho
    rw [hd] at this
    simpa using this
  refine region_tail E T (SP.at L) hm hQ hok (fun i v w w' h hE => (L.getD i SP.any).st v w w' h hE) ?_ (StepsL.all hb' (fun _ h => h) hs) hend
  intro i o hiE ho
  have h8 : E.all (fun i => !([] ++ T).contains i) = true := by
    simp only [Bool.and_eq_true] at hok
    exact hok.2
  have hiT : T.contains i = false := by
    have := List.all_eq_true.1 h8 i (by simpa using hiE)
    simpa using this
  have := StepsL.eager hb' hs i o ho
  rw [Nat.zero_add] at this
  exact this hiE hiT

/-! ### steps -/
section
variable {P : Program} {ops : List Oper} {o : Oper} {ρ : Operand → Value} {w : World} {R : Value → World → Prop}

theorem Step.of (hg : o.guard = none) (h : GivesR P o ρ w (fun v w' => Ext w w' ∧ R v w')) : Step P ops o ρ w R :=
  ⟨fun _ => h, fun hf => by unfold wantedL at hf; rw [hg] at hf; cases hf⟩

theorem GivesR.call {f : FuncId} {xs : Array Operand} {ats : Array TypeId} {S : Value → World → Prop} (hop : o.op = .call { callee := .value (.func f), args := xs, argTypes := ats }) (args : List Value) (ha : xs.toList.map ρ = args)
    (hf : ρ (.func f) = .func (.func f) #[] #[]) (hc : ∀ xs w, (callFunc f xs).run P w = .ok (.enter f xs) w) (h : Calls P f args.toArray w fun e w' => ∃ v, e = .returned v ∧ S v w') : GivesR P o ρ w S := by
  obtain ⟨dst, op, type, pos, after, guard⟩ := o
  subst hop
  subst ha
  unfold GivesR
  have : (execOp ρ { dst, op := .call { callee := .value (.func f), args := xs, argTypes := ats }, type, pos, after, guard }).run P w = .ok (.enter f (xs.map ρ)) w := by
    simp [execOp, resolve, Deferred.ofValue, hf, invoke, hc]
  rw [this]
  have e : (xs.toList.map ρ).toArray = xs.map ρ := by apply Array.toList_inj.1; simp
  rw [← e]
  exact h

/-- a call of a function that the text names -/
theorem Step.call {f : FuncId} {xs : Array Operand} {ats : Array TypeId} (hc : ∀ xs w, (callFunc f xs).run P w = .ok (.enter f xs) w) (hg : o.guard = none) (hop : o.op = .call { callee := .value (.func f), args := xs, argTypes := ats }) (args : List Value) (ha : xs.toList.map ρ = args)
    (hf : ρ (.func f) = .func (.func f) #[] #[]) (h : Calls P f args.toArray w fun e w' => ∃ v, e = .returned v ∧ Ext w w' ∧ R v w') : Step P ops o ρ w R :=
  Step.of hg (GivesR.call hop args ha hf hc h)

theorem GivesR.load {t : TypeId} {x : Operand} {v : Value} {S : Value → World → Prop} (p : Addr) (hop : o.op = .load t x) (hx : ρ x = .pointer (some p)) (hr : (Instr.loadAt t (.pointer (some p))).run P w = .ok v w) (h : S v w) : GivesR P o ρ w S := by
  obtain ⟨dst, op, type, pos, after, guard⟩ := o
  subst hop
  unfold GivesR
  have : (execOp ρ { dst, op := .load t x, type, pos, after, guard }).run P w = .ok (.value v) w := by
    simp [execOp, hx, hr]
  rw [this]
  exact h
theorem Step.load {t : TypeId} {x : Operand} {v : Value} (p : Addr) (hg : o.guard = none) (hop : o.op = .load t x) (hx : ρ x = .pointer (some p)) (hr : (Instr.loadAt t (.pointer (some p))).run P w = .ok v w) (h : R v w) : Step P ops o ρ w R :=
  Step.of hg (GivesR.load p hop hx hr ⟨Ext.refl' w, h⟩)

theorem GivesR.assign {x : Operand} {v : Value} {S : Value → World → Prop} (hop : o.op = .assign x) (hx : ρ x = v) (h : S v w) : GivesR P o ρ w S := by
  obtain ⟨dst, op, type, pos, after, guard⟩ := o
  subst hop
  subst hx
  exact h
theorem GivesR.move {x : Operand} {v : Value} {S : Value → World → Prop} (hop : o.op = .move x) (hx : ρ x = v) (h : S v w) : GivesR P o ρ w S := by
  obtain ⟨dst, op, type, pos, after, guard⟩ := o
  subst hop
  subst hx
  exact h
theorem Step.assign {x : Operand} {v : Value} (hg : o.guard = none) (hop : o.op = .assign x) (hx : ρ x = v) (h : R v w) : Step P ops o ρ w R := Step.of hg (GivesR.assign hop hx ⟨Ext.refl' w, h⟩)
theorem Step.move {x : Operand} {v : Value} (hg : o.guard = none) (hop : o.op = .move x) (hx : ρ x = v) (h : R v w) : Step P ops o ρ w R := Step.of hg (GivesR.move hop hx ⟨Ext.refl' w, h⟩)

/-- an operation that computes: its own run -/
theorem Step.run {v : Value} {w' : World} (hg : o.guard = none) (hr : (execOp ρ o).run P w = .ok (.value v) w') (hE : Ext w w') (h : R v w') : Step P ops o ρ w R := by
  refine Step.of hg ?_
  unfold GivesR
  rw [hr]
  exact ⟨hE, h⟩
theorem Step.not {x : Operand} {b : Bool} {t : TypeId} (hg : o.guard = none) (hop : o.op = .unOp .not t x) (hx : ρ x = .bool b) (h : R (.bool (!b)) w) : Step P ops o ρ w R := by
  obtain ⟨dst, op, type, pos, after, guard⟩ := o
  subst hop
  refine Step.run hg ?_ (Ext.refl' w) h
  simp [execOp, hx, Op.unary]
theorem extract_run {x : Operand} {n : Nat} {vals : Array Value} {u : Value} {dst : Option Tmp} {type : TypeId} {pos : String} {after : Array Edge} {guard : Option (Nat × Bool)} (hx : ρ x = .tuple vals) (hu : vals[n]? = some u) :
    (execOp ρ { dst, op := .extract x n, type, pos, after, guard }).run P w = .ok (.value u) w := by
  simp [execOp, hx, hu, Instr.extract]
theorem Step.extract {x : Operand} {n : Nat} {vals : Array Value} {u : Value} (hg : o.guard = none) (hop : o.op = .extract x n) (hx : ρ x = .tuple vals) (hu : vals[n]? = some u) (h : R u w) : Step P ops o ρ w R := by
  obtain ⟨dst, op, type, pos, after, guard⟩ := o
  subst hop
  exact Step.run hg (extract_run hx hu) (Ext.refl' w) h
theorem Step.alloc {e : TypeId} {cs : Array Value} (hg : o.guard = none) (hop : o.op = .alloc e) (hr : (Instr.alloc e true (.tuple #[])).run P w = .ok (.pointer (some ⟨w.heap.size, 0, none⟩)) (w.alloc (.cells cs e))) (h : R (.pointer (some ⟨w.heap.size, 0, none⟩)) (w.alloc (.cells cs e))) : Step P ops o ρ w R := by
  obtain ⟨dst, op, type, pos, after, guard⟩ := o
  subst hop
  refine Step.run hg (w' := w.alloc (.cells cs e)) ?_ ((Ext.refl' w).alloc (Nat.le_refl _) _) h
  simp [execOp, hr]
/-- an operation behind a guard -/
theorem Step.guard {j : Nat} {want b : Bool} {t : Tmp} (hg : o.guard = some (j, want)) (hj : (ops[j]?).bind (·.dst) = some t) (hv : ρ (.tmp t) = .bool b) (hy : b = want → GivesR P o ρ w (fun v w' => Ext w w' ∧ R v w')) (hn : b ≠ want → R undef w) : Step P ops o ρ w R := by
  have : wantedL ops ρ o = (b == want) := by unfold wantedL; rw [hg]; simp only [hj, hv]
  constructor
  · intro h; rw [this] at h; exact hy (by simpa using h)
  · intro h; rw [this] at h; exact hn (by simpa using h)
theorem Ext.refl_ (w : World) : Ext w w := Below.refl _ _
/-- .. whose guard says yes -/
theorem Step.on {j : Nat} {want : Bool} {t : Tmp} (hg : o.guard = some (j, want)) (hj : (ops[j]?).bind (·.dst) = some t) (hv : ρ (.tmp t) = .bool want) (h : GivesR P o ρ w (fun v w' => Ext w w' ∧ R v w')) : Step P ops o ρ w R :=
  Step.guard hg hj hv (fun _ => h) fun hn => absurd rfl hn
/-- .. whose guard says no -/
theorem Step.off {j : Nat} {want b : Bool} {t : Tmp} (hg : o.guard = some (j, want)) (hj : (ops[j]?).bind (·.dst) = some t) (hv : ρ (.tmp t) = .bool b) (hb : b ≠ want) (h : R undef w) : Step P ops o ρ w R :=
  Step.guard hg hj hv (fun he => absurd he hb) fun _ => h
theorem GivesR.run {v : Value} {w' : World} {S : Value → World → Prop} (hr : (execOp ρ o).run P w = .ok (.value v) w') (h : S v w') : GivesR P o ρ w S := by
  unfold GivesR
  rw [hr]
  exact h
theorem GivesR.nilCheck {x : Operand} {p : Addr} {S : Value → World → Prop} (hop : o.op = .nilCheck x) (hx : ρ x = .pointer (some p)) (h : S (.pointer (some p)) w) : GivesR P o ρ w S := by
  obtain ⟨dst, op, type, pos, after, guard⟩ := o
  subst hop
  exact GivesR.run (w' := w) (by simp [execOp, hx, go_sem]) h
theorem Step.nilCheck {x : Operand} {p : Addr} (hg : o.guard = none) (hop : o.op = .nilCheck x) (hx : ρ x = .pointer (some p)) (h : R (.pointer (some p)) w) : Step P ops o ρ w R := Step.of hg (GivesR.nilCheck hop hx ⟨Ext.refl' w, h⟩)
theorem GivesR.fieldAddr {x : Operand} {t : TypeId} {n : Nat} {q : Value} {S : Value → World → Prop} (p : Addr) (hop : o.op = .fieldAddr t x n) (hx : ρ x = .pointer (some p)) (hr : (Instr.fieldAt t (.pointer (some p)) n).run P w = .ok q w) (h : S q w) : GivesR P o ρ w S := by
  obtain ⟨dst, op, type, pos, after, guard⟩ := o
  subst hop
  exact GivesR.run (w' := w) (by simp [execOp, hx, hr]) h
theorem Step.fieldAddr {x : Operand} {t : TypeId} {n : Nat} {q : Value} (p : Addr) (hg : o.guard = none) (hop : o.op = .fieldAddr t x n) (hx : ρ x = .pointer (some p)) (hr : (Instr.fieldAt t (.pointer (some p)) n).run P w = .ok q w) (h : R q w) : Step P ops o ρ w R := Step.of hg (GivesR.fieldAddr p hop hx hr ⟨Ext.refl' w, h⟩)
theorem GivesR.len {x : Operand} {t e : TypeId} {a : Option Addr} {n c : Nat} {S : Value → World → Prop} (ht : P.underlying t = some (.slice e)) (hop : o.op = .call { callee := .builtin .len, args := #[x], argTypes := #[t] }) (hx : ρ x = .slice a n c) (h : S (.int .i64 (n : Nat)) w) : GivesR P o ρ w S := by
  obtain ⟨dst, op, type, pos, after, guard⟩ := o
  subst hop
  exact GivesR.run (w' := w) (by simp [hx, go_sem, Builtin.len_, run_underlying ht, goInt]) h
theorem Step.len {x : Operand} {t e : TypeId} {a : Option Addr} {n c : Nat} (ht : P.underlying t = some (.slice e)) (hg : o.guard = none) (hop : o.op = .call { callee := .builtin .len, args := #[x], argTypes := #[t] }) (hx : ρ x = .slice a n c) (h : R (.int .i64 (n : Nat)) w) : Step P ops o ρ w R := Step.of hg (GivesR.len ht hop hx ⟨Ext.refl' w, h⟩)
theorem GivesR.not {x : Operand} {b : Bool} {t : TypeId} {S : Value → World → Prop} (hop : o.op = .unOp .not t x) (hx : ρ x = .bool b) (h : S (.bool (!b)) w) : GivesR P o ρ w S := by
  obtain ⟨dst, op, type, pos, after, guard⟩ := o
  subst hop
  exact GivesR.run (w' := w) (by simp [execOp, hx, Op.unary]) h
/-- a call of a function value -/
theorem GivesR.callv {x : Operand} {f : FuncId} {first cap : Array Value} {xs : Array Operand} {ats : Array TypeId} {S : Value → World → Prop} (hc : ∀ xs w, (callFunc f xs).run P w = .ok (.enter f xs) w) (hop : o.op = .call { callee := .value x, args := xs, argTypes := ats }) (hf : ρ x = .func (.func f) first cap) (args : List Value) (ha : xs.toList.map ρ = args)
    (h : Calls P f (first ++ args.toArray ++ cap) w fun e w' => ∃ v, e = .returned v ∧ S v w') : GivesR P o ρ w S := by
  obtain ⟨dst, op, type, pos, after, guard⟩ := o
  subst hop
  subst ha
  have e : (xs.toList.map ρ).toArray = xs.map ρ := by apply Array.toList_inj.1; simp
  rw [e] at h
  unfold GivesR
  have : (execOp ρ { dst, op := .call { callee := .value x, args := xs, argTypes := ats }, type, pos, after, guard }).run P w = .ok (.enter f (first ++ xs.map ρ ++ cap)) w := by
    simp [execOp, resolve, Deferred.ofValue, hf, invoke, hc]
  rw [this]
  exact h
theorem Step.callv {x : Operand} {f : FuncId} {first cap : Array Value} {xs : Array Operand} {ats : Array TypeId} (hc : ∀ xs w, (callFunc f xs).run P w = .ok (.enter f xs) w) (hg : o.guard = none) (hop : o.op = .call { callee := .value x, args := xs, argTypes := ats }) (hf : ρ x = .func (.func f) first cap) (args : List Value) (ha : xs.toList.map ρ = args)
    (h : Calls P f (first ++ args.toArray ++ cap) w fun e w' => ∃ v, e = .returned v ∧ Ext w w' ∧ R v w') : Step P ops o ρ w R := Step.of hg (GivesR.callv hc hop hf args ha h)
/-- contracts as steps take them -/
theorem Calls.sps {f : FuncId} {args : Array Value} {u v : Value} (h : Calls P f args w fun e w' => e = .returned u ∧ w = w') (hu : u = v := by rfl) : Calls P f args w fun e w' => ∃ x, e = .returned x ∧ Ext w w' ∧ x = v :=
  h.mono fun _ _ ⟨he, hw⟩ => ⟨u, he, hw ▸ Ext.refl' w, hu⟩
theorem Calls.spe {f : FuncId} {args : Array Value} {u v : Value} (h : Calls P f args w fun e w' => e = .returned u ∧ Ext w w') (hu : u = v := by rfl) : Calls P f args w fun e w' => ∃ x, e = .returned x ∧ Ext w w' ∧ x = v :=
  h.mono fun _ _ ⟨he, hw⟩ => ⟨u, he, hw, hu⟩
/-- a new row of one cell -/
def SP.row1 (x : Value) : SP := ⟨fun v w => ∃ b, v = .slice (some ⟨b, 0, none⟩) 1 1 ∧ w.cell? ⟨b, 0, none⟩ = some x, fun _ w _ ⟨b, h1, h2⟩ hE => ⟨b, h1, by rw [Below.cell hE (World.block_lt_of_cell? w _ h2)]; exact h2⟩⟩
theorem Step.buildSlice1 {t e : TypeId} {y : Operand} {x : Value} (hg : o.guard = none) (hop : o.op = .buildSlice t 1 #[(0, y)]) (hy : ρ y = x) (hr : (Instr.buildSlice t 1 #[(0, x)]).run P w = .ok (.slice (some ⟨w.heap.size, 0, none⟩) 1 1) (w.alloc (.cells #[x] e)))
    (h : R (.slice (some ⟨w.heap.size, 0, none⟩) 1 1) (w.alloc (.cells #[x] e))) : Step P ops o ρ w R := by
  obtain ⟨dst, op, type, pos, after, guard⟩ := o
  subst hop
  refine Step.run hg (w' := w.alloc (.cells #[x] e)) ?_ ((Ext.refl' w).alloc (Nat.le_refl _) _) h
  simp [execOp, hy, hr]
theorem row1_new {w : World} {x : Value} {e : TypeId} : ∃ b, (Value.slice (some ⟨w.heap.size, 0, none⟩) 1 1) = .slice (some ⟨b, 0, none⟩) 1 1 ∧ (w.alloc (.cells #[x] e)).cell? ⟨b, 0, none⟩ = some x := ⟨_, rfl, by simp [go_sem]⟩
/-- a pointer at a cell that holds x -/
def SP.ptr1 (x : Value) : SP := ⟨fun v w => ∃ p, v = .pointer (some p) ∧ w.cell? p = some x, fun _ w _ ⟨p, h1, h2⟩ hE => ⟨p, h1, by rw [Below.cell hE (World.block_lt_of_cell? w p h2)]; exact h2⟩⟩
theorem Step.indexAddr {t : TypeId} {x i : Operand} {v n : Value} {u : Value} (hg : o.guard = none) (hop : o.op = .indexAddr t x i) (hx : ρ x = v) (hi : ρ i = n) (hr : ∃ p, (Instr.indexAt t v n).run P w = .ok (.pointer (some p)) w ∧ w.cell? p = some u) (h : ∀ q, (∃ p, q = .pointer (some p) ∧ w.cell? p = some u) → R q w) : Step P ops o ρ w R := by
  obtain ⟨dst, op, type, pos, after, guard⟩ := o
  subst hop
  obtain ⟨p, hr, hc⟩ := hr
  exact Step.run hg (w' := w) (by simp [execOp, hx, hi, hr]) (Ext.refl' w) (h _ ⟨p, rfl, hc⟩)
theorem Step.load1 {t : TypeId} {x : Operand} {v u : Value} (hg : o.guard = none) (hop : o.op = .load t x) (hx : ρ x = v) (hp : ∃ p, v = .pointer (some p) ∧ w.cell? p = some u) (hagg : ∀ p, w.cell? p = some u → (Instr.loadAt t (.pointer (some p))).run P w = .ok u w) (h : R u w) : Step P ops o ρ w R := by
  obtain ⟨p, rfl, hc⟩ := hp
  exact Step.load p hg hop hx (hagg p hc) h
theorem Step.pick {c x y : Operand} {b : Bool} {u v : Value} (hg : o.guard = none) (hop : o.op = .pick c x y) (hc : ρ c = .bool b) (hx : ρ x = u) (hy : ρ y = v) (h : R (if b then u else v) w) : Step P ops o ρ w R := by
  obtain ⟨dst, op, type, pos, after, guard⟩ := o
  subst hop
  subst hx hy
  refine Step.run hg (w' := w) ?_ (Ext.refl' w) h
  cases b <;> simp [execOp, hc, asBool]
end

end Go.Proofs.YtajkepdfemdagaaDoor
