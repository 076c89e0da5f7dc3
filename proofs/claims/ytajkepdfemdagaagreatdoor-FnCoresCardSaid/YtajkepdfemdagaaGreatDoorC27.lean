/- A region that draws its order and holds an operation that writes into a block that the region itself has made (an append to what a call has left): the operation says itself what stays. A region that draws its order and calls functions that write to a block that was there: what is told of the world (J) at each number of operations left. -/
import Derived.Test.YtajkepdfemdagaaGreatDoorC01
namespace Go.Proofs.YtajkepdfemdagaaGreatDoor
open Go.RowKit
set_option linter.unusedVariables false

def KeepsC (ops : List Oper) (R : Nat → Value → World → Prop) (i : Nat) (w w' : World) : Prop := ∀ j o' u, ops[j]? = some o' → (depsOf o').contains i = false → j ≠ i → R j u w → R j u w'
theorem Gives.mono {P : Program} {o : Oper} {a : Act} {w : World} {S S' : Value → World → Prop} (h : Gives P o a w S) (hs : ∀ v w', S v w' → S' v w') : Gives P o a w S' := by
  unfold Gives at h ⊢
  generalize (execOp a.eval o).run P w = r at h ⊢
  cases r with
  | ok n w' =>
    cases n <;> first
      | exact hs _ _ h
      | exact h.elim
      | exact h.mono (fun e w'' ⟨v, he, hh⟩ => ⟨v, he, hs _ _ hh⟩)
  | halt x w' => cases x <;> exact h.elim
theorem GivesR.imp {P : Program} {o : Oper} {ρ : Operand → Value} {w : World} {S S' : Value → World → Prop} (hs : ∀ v w', S v w' → S' v w') (h : GivesR P o ρ w S) : GivesR P o ρ w S' := by
  unfold GivesR at h ⊢
  generalize (execOp ρ o).run P w = r at h ⊢
  cases r with
  | ok n w' =>
    cases n <;> first
      | exact hs _ _ h
      | exact h.elim
      | exact h.mono (fun e w'' ⟨v, he, hh⟩ => ⟨v, he, hs _ _ hh⟩)
  | halt x w' => cases x <;> exact h.elim
def KeepL (P : Program) (ops : List Oper) (T : List Nat) (L : List SP) (a0 : Act) (w0 : World) (i : Nat) (o : Oper) : Prop :=
  o.guard = none ∧ ∀ vs w, Ext w0 w → Deps [] (SP.at L) vs w o.after.toList (GivesR P o (look T ops vs a0) w (fun v w' => Ext w0 w' ∧ SP.at L i v w' ∧ KeepsC ops (SP.at L) i w w'))

def OpStepC (P : Program) (ops : List Oper) (F T : List Nat) (R : Nat → Value → World → Prop) (a0 : Act) (w0 : World) (i : Nat) (o : Oper) : Prop :=
  ∀ vs w, Ext w0 w → Deps F R vs w o.after.toList
    (if Region.wanted o (yielded ops.toArray (putAll (F ++ T) ops 0 vs a0).tmps) then Gives P o (putAll (F ++ T) ops 0 vs a0) w (fun v w' => Ext w0 w' ∧ R i v w' ∧ KeepsC ops R i w w') else R i undef w)

def AllStepsC (P : Program) (ops : List Oper) (F T : List Nat) (R : Nat → Value → World → Prop) (a0 : Act) (w0 : World) : Nat → List Oper → Prop
  | _, [] => True
  | i, o :: os => bif (F ++ T).contains i then AllStepsC P ops F T R a0 w0 (i + 1) os else OpStepC P ops F T R a0 w0 i o ∧ AllStepsC P ops F T R a0 w0 (i + 1) os

theorem AllStepsC.at {P : Program} {ops : List Oper} {F T : List Nat} {R : Nat → Value → World → Prop} {a0 : Act} {w0 : World} : ∀ {os : List Oper} {k i : Nat} {o : Oper}, AllStepsC P ops F T R a0 w0 k os → os[i]? = some o → (F ++ T).contains (k + i) = false → OpStepC P ops F T R a0 w0 (k + i) o
  | [], k, i, o, _, h, _ => by simp at h
  | o' :: os, k, 0, o, hs, h, hc => by
    simp at h; subst h
    unfold AllStepsC at hs
    rw [Nat.add_zero] at hc
    rw [hc] at hs
    exact hs.1
  | o' :: os, k, i + 1, o, hs, h, hc => by
    have he : k + 1 + i = k + (i + 1) := by omega
    unfold AllStepsC at hs
    have hs' : AllStepsC P ops F T R a0 w0 (k + 1) os := by
      cases hb : (F ++ T).contains k with
      | true => rw [hb] at hs; exact hs
      | false => rw [hb] at hs; exact hs.2
    have := AllStepsC.at hs' (i := i) (by simpa using h) (by rw [he]; exact hc)
    rwa [he] at this

theorem mono_fromC {P : Program} {Q : Exit → Act → World → Prop} {ops : List Oper} {a0 : Act} {w0 : World} (F E T : List Nat)
    (R : Nat → Value → World → Prop) (hR : ∀ i v w w', R i v w → Ext w w' → R i v w') (hd : dstsOk ops = true) (he : edgesOk ops = true) (hT : tailOk ops F E T = true)
    (hns : Region.noSelect ops.toArray = true) (hfree : freeOk ops E = true) (hEFT : E.all (fun i => !(F ++ T).contains i) = true) (hQ : ∀ c d v a w, Q (.panic c) (Act.put a d v) w → Q (.panic c) a w)
    (hEs : ∀ i o, E.contains i = true → ops[i]? = some o → EStep P ops F T R a0 w0 i o)
    (hFT : F.all (fun i => !T.contains i) = true)
    (hs : AllStepsC P ops F T R a0 w0 0 ops) {fuel : Nat} {listed0 : Array Bool} (h0 : listed0 = ((List.range ops.length).map fun i => F.contains i).toArray) (hfuel : fuel = listed0.toList.count false)
    (hF : F.all (fun i => ((ops[i]?).map fun o => (depsOf o).all F.contains).getD true) = true)
    (hend : ∀ vs w, Ext w0 w → (∀ i, i < ops.length → (F ++ T).contains i = false → R i (vs i) w) → wpAny P .any ops.toArray Q ((listedT ops.length T).toList.count false) (listedT ops.length T) (putAll (F ++ T) ops 0 vs a0) w) :
    wpAny P .any ops.toArray Q fuel listed0 a0 w0 := by
  have key : ∀ (fuel : Nat) (listed : Array Bool) (vs : Nat → Value) (w : World), listed.size = ops.length → listed.toList.count false = fuel →
      Ext w0 w → (∀ j, j < ops.length → F.contains j = true → listed[j]? = some true) → (∀ j, T.contains j = true → listed[j]? ≠ some true) →
      (∀ (i : Nat) (o : Oper), ops[i]? = some o → listed[i]? = some true → ∀ j ∈ depsOf o, listed.getD j false = true) →
      (∀ j, listed[j]? = some true → F.contains j = false → R j (vs j) w) → wpAny P .any ops.toArray Q fuel listed (putAll (F ++ T) ops 0 vs a0) w := by
    intro fuel
    induction fuel with
    | zero =>
      intro listed vs w hsz hc hw hlF hlT hcl hr
      have hall : ∀ j, j < ops.length → listed[j]? = some true := by
        intro j hj
        have hj' : j < listed.size := by omega
        have hmem : listed[j] ∈ listed.toList := by simp
        have hnf : false ∉ listed.toList := by rw [← List.count_eq_zero]; exact hc
        rw [Array.getElem?_eq_getElem hj']
        cases hb : listed[j] with
        | true => rfl
        | false => rw [hb] at hmem; exact absurd hmem hnf
      have hlist : listed = listedT ops.length T := by
        apply Array.ext_getElem?
        intro j
        by_cases hj : j < ops.length
        · rw [hall j hj]
          cases hb : T.contains j with
          | true => exact absurd (hall j hj) (hlT j hb)
          | false => simp only [listedT, List.getElem?_toArray, List.getElem?_map, List.getElem?_range hj, Option.map_some, hb, Bool.not_false]
        · rw [Array.getElem?_eq_none (by omega)]
          simp [listedT, hj]
      have := hend vs w hw fun i hi hni => hr i (hall i hi) (by
        simp only [List.contains_eq_mem, List.mem_append, decide_eq_false_iff_not, not_or] at hni
        simpa using hni.1)
      rw [← hlist, hc] at this
      exact this
    | succ fuel ih =>
      intro listed vs w hsz hc hw hlF hlT hcl hr
      by_cases hdone : ∀ j, j < ops.length → (F ++ T).contains j = false → listed[j]? = some true
      · have hlist : listed = listedT ops.length T := by
          apply Array.ext_getElem?
          intro j
          by_cases hj : j < ops.length
          · have e2 : (listedT ops.length T)[j]? = some (!T.contains j) := by
              simp only [listedT, List.getElem?_toArray, List.getElem?_map, List.getElem?_range hj, Option.map_some]
            rw [e2]
            cases hb : T.contains j with
            | true =>
              have := hlT j hb
              have hj' : j < listed.size := by omega
              rw [Array.getElem?_eq_getElem hj'] at this ⊢
              simpa using this
            | false =>
              cases hf : F.contains j with
              | true => rw [hlF j hj hf]; rfl
              | false =>
                rw [hdone j hj (by
                  simp only [List.contains_eq_mem, List.mem_append, decide_eq_false_iff_not, not_or] at hb hf ⊢
                  exact ⟨hf, hb⟩)]
                rfl
          · rw [Array.getElem?_eq_none (by omega)]
            simp [listedT, hj]
        have := hend vs w hw fun i hi hni => hr i (hdone i hi hni) (by
          simp only [List.contains_eq_mem, List.mem_append, decide_eq_false_iff_not, not_or] at hni
          simpa using hni.1)
        rw [← hlist, hc] at this
        exact this
      · -- what one that is ready leaves behind it
        have hstepped : ∀ (i : Nat) (o : Oper), ops[i]? = some o → listed[i]? = some false → (F ++ T).contains i = false → (∀ j ∈ depsOf o, listed.getD j false = true) →
            ∀ v w', Ext w0 w' → R i v w' → KeepsC ops R i w w' → wpAny P .any ops.toArray Q fuel (listed.setIfInBounds i true) ((putAll (F ++ T) ops 0 vs a0).put o.dst v) w' := by
          intro i o ho hfalse hiS hdo v w' hww hri hkeep
          have hiF : F.contains i = false := by
            simp only [List.contains_eq_mem, List.mem_append, decide_eq_false_iff_not, not_or] at hiS ⊢
            exact hiS.1
          have hiT : T.contains i = false := by
            simp only [List.contains_eq_mem, List.mem_append, decide_eq_false_iff_not, not_or] at hiS ⊢
            exact hiS.2
          have := putAll_upd (F ++ T) ops 0 vs a0 i o v hd ho (by rw [Nat.zero_add]; exact hiS)
          rw [Nat.zero_add] at this
          rw [this]
          have hsetT : ∀ (j : Nat), listed[j]? = some true → (listed.setIfInBounds i true)[j]? = some true := by
            intro j hj
            rw [Array.getElem?_setIfInBounds]
            split
            · simp_all
            · exact hj
          refine ih _ _ _ (by simp [hsz]) ?_ hww ?_ ?_ ?_ ?_
          · have := count_set_true listed.toList i (by simpa using hfalse)
            simp only [Array.toList_setIfInBounds]
            omega
          · exact fun j hj hjF => hsetT j (hlF j hj hjF)
          · intro j hjT hj
            rw [Array.getElem?_setIfInBounds] at hj
            split at hj
            · rename_i hij; subst hij; rw [hjT] at hiT; simp at hiT
            · exact hlT j hjT hj
          · intro k ok hok hk j hj
            have hjl : listed.getD j false = true := by
              rw [Array.getElem?_setIfInBounds] at hk
              split at hk
              · rename_i hik
                subst hik
                rw [ho] at hok
                simp at hok
                subst hok
                exact hdo j hj
              · exact hcl k ok hok hk j hj
            rw [Array.getD_eq_getD_getElem?, hsetT j (getD_true hjl)]
            rfl
          · intro j hj hjF
            rw [Array.getElem?_setIfInBounds] at hj
            unfold upd
            split at hj
            · rename_i hij; subst hij; rw [if_pos rfl]; exact hri
            · rename_i hij; rw [if_neg (fun h => hij h.symm)]
              have hjl : j < ops.length := by
                have : j < listed.size := (Array.getElem?_eq_some_iff.1 hj).1
                omega
              refine hkeep j ops[j] _ (by simp [hjl]) ?_ (fun h => hij h.symm) (hr j hj hjF)
              cases hb : (depsOf ops[j]).contains i with
              | false => rfl
              | true =>
                have := getD_true (hcl j ops[j] (by simp [hjl]) hj i (by simpa using hb))
                rw [hfalse] at this
                simp at this
        by_cases hsat : ∃ i, E.contains i = true ∧ i ∈ Region.ready .any ops.toArray listed
        · -- one of E is ready: it is taken first
          obtain ⟨i, hiE, hi⟩ := hsat
          obtain ⟨o, ho, hlo, hdo⟩ := mem_ready.1 hi
          have hil : i < ops.length := (List.getElem?_eq_some_iff.1 ho).1
          have hil' : i < listed.size := by omega
          have hfalse : listed[i]? = some false := by
            rw [Array.getElem?_eq_getElem hil']
            simpa [Array.getD_eq_getD_getElem?, Array.getElem?_eq_getElem hil'] using hlo
          have hiS : (F ++ T).contains i = false := by
            have := List.all_eq_true.1 hEFT i (by simpa using hiE)
            simpa using this
          obtain ⟨v, hy, hri⟩ := (hEs i o hiE ho vs w hw).pay fun e hee hb hf => hr e.on (getD_true (hdo e.on (List.mem_map.2 ⟨e, List.mem_filter.2 ⟨hee, hb⟩, rfl⟩))) hf
          refine wpAny_take (i := i) (oi := o) (v := v) (by simpa using ho) hns ?_ (by simpa using hi) (fun c a w h => hQ c o.dst v a w h) hy (hstepped i o ho hfalse hiS hdo v w hw hri (fun _ _ _ _ _ _ h => h))
          -- nothing that is left interferes
          have hfr := List.all_eq_true.1 hfree i (by simpa using hiE)
          rw [ho] at hfr
          simp only at hfr
          unfold Region.free
          have hop' : ops.toArray[i]? = some o := by simpa using ho
          rw [hop']
          simp only
          rw [List.all_eq_true] at hfr ⊢
          intro j hj
          have h1 := hfr j (by simpa using hj)
          by_cases hji : j = i
          · simp [hji]
          · simp only [Bool.or_eq_true, beq_iff_eq] at h1 ⊢
            rcases h1 with (h1 | h1) | h1
            · exact absurd h1 hji
            · have hjl := getD_true (hdo j (by simpa using h1))
              left; right
              simp [Array.getD_eq_getD_getElem?, hjl]
            · right
              have hjl : j < ops.length := by simpa using hj
              have hoj : ops[j]? = some ops[j] := by simp [hjl]
              have hoj' : ops.toArray[j]? = some ops[j] := by simp [hjl]
              rw [hoj] at h1
              rw [hoj']
              simp only [Bool.or_eq_true] at h1 ⊢
              rcases h1 with h1 | h1
              · left
                rw [List.contains_eq_mem, decide_eq_true_eq] at h1
                unfold depsOf at h1
                obtain ⟨e, he1, he2⟩ := List.mem_map.1 h1
                rw [List.mem_filter] at he1
                rw [← Array.any_toList, List.any_eq_true]
                exact ⟨e, he1.1, by rw [he1.2, he2]; simp⟩
              · right; exact h1
        -- one is left that is not of the tail: none of the tail is ready
        have hnT : ∀ i, i ∈ Region.ready .any ops.toArray listed → T.contains i = false := by
          intro i hi
          cases hb : T.contains i with
          | false => rfl
          | true =>
            exfalso
            obtain ⟨o, ho, hlo, hdo⟩ := mem_ready.1 hi
            cases hTT : T with
            | nil => rw [hTT] at hb; simp at hb
            | cons t ts =>
              rw [hTT] at hT
              simp only [tailOk, Bool.and_eq_true] at hT
              obtain ⟨hA, hC⟩ := hT
              by_cases hit : i = t
              · subst hit
                apply hdone
                have down : ∀ n j, ops.length - j ≤ n → j < ops.length → (F ++ T).contains j = false → listed[j]? = some true := by
                  intro n
                  induction n with
                  | zero => intro j h1 h2; omega
                  | succ n ihn =>
                    intro j h1 h2 h3
                    rw [List.all_eq_true] at hA
                    have := hA j (by simpa using h2)
                    rw [hTT] at h3
                    rw [h3, Bool.false_or, Bool.or_eq_true] at this
                    rcases this with this | this
                    case inr =>
                      -- one of E: all that it waits for is done: it is done
                      simp only [Bool.and_eq_true] at this
                      obtain ⟨hjE, hjd⟩ := this
                      have hjo : ops[j]? = some ops[j] := by simp [h2]
                      rw [hjo, ho] at hjd
                      simp only [Option.map_some, Option.getD_some, List.all_eq_true] at hjd
                      have hdep : ∀ d ∈ depsOf ops[j], listed.getD d false = true := by
                        intro d hdd
                        have hd1 := hjd d hdd
                        rw [Bool.or_eq_true] at hd1
                        rcases hd1 with h | h
                        · exact hdo d (by simpa using h)
                        · rw [List.any_eq_true] at h
                          obtain ⟨e, he1, he2⟩ := h
                          cases hoe : ops[e]? with
                          | none => rw [hoe] at he2; simp at he2
                          | some q => rw [hoe] at he2; exact hcl e q hoe (getD_true (hdo e he1)) d (by simpa using he2)
                      have hj' : j < listed.size := by omega
                      cases hb : listed[j] with
                      | true => rw [Array.getElem?_eq_getElem hj', hb]
                      | false =>
                        exfalso
                        refine hsat ⟨j, hjE, mem_ready.2 ⟨ops[j], hjo, by simp [Array.getD_eq_getD_getElem?, Array.getElem?_eq_getElem hj', hb], hdep⟩⟩
                    rw [List.any_eq_true] at this
                    obtain ⟨k, hk, hkk⟩ := this
                    simp only [Bool.and_eq_true, decide_eq_true_eq, Bool.or_eq_true, beq_iff_eq, Bool.not_eq_true'] at hkk
                    obtain ⟨⟨hjk, hkt⟩, hdk⟩ := hkk
                    have hkl : k < ops.length := by simpa using hk
                    have hok : ops[k]? = some ops[k] := by simp [hkl]
                    rw [hok] at hdk
                    simp only [Option.map_some, Option.getD_some, List.contains_eq_mem, decide_eq_true_eq] at hdk
                    rcases hkt with hkt | hkt
                    · subst hkt
                      have : o = ops[k] := by rw [ho] at hok; simpa using hok
                      subst this
                      exact getD_true (hdo j hdk)
                    · have hlk := ihn k (by omega) hkl (by rw [hTT]; exact hkt)
                      exact getD_true (hcl k ops[k] hok hlk j hdk)
                exact fun j hj hjn => down ops.length j (by omega) hj hjn
              · -- it waits for the one ahead of it
                have hch : ∀ (l : List Nat) (p : Nat), tailOk.chain ops p l = true → i ∈ l → ∃ q, (q = p ∨ q ∈ l) ∧ q ∈ depsOf o := by
                  intro l
                  induction l with
                  | nil => intro p _ hm; simp at hm
                  | cons u l ihl =>
                    intro p hcc hm
                    simp only [tailOk.chain, Bool.and_eq_true] at hcc
                    rcases List.mem_cons.1 hm with rfl | hm
                    · refine ⟨p, Or.inl rfl, ?_⟩
                      have := hcc.1
                      rw [ho] at this
                      simpa using this
                    · obtain ⟨q, hq, hqd⟩ := ihl u hcc.2 hm
                      refine ⟨q, Or.inr ?_, hqd⟩
                      rcases hq with rfl | hq
                      · exact List.mem_cons_self
                      · exact List.mem_cons_of_mem _ hq
                have him : i ∈ ts := by
                  have : i ∈ t :: ts := by rw [hTT] at hb; simpa using hb
                  rcases List.mem_cons.1 this with h | h
                  · exact absurd h hit
                  · exact h
                obtain ⟨q, hq, hqd⟩ := hch ts t hC him
                refine hlT q ?_ (getD_true (hdo q hqd))
                rw [hTT]
                simp only [List.contains_eq_mem, List.mem_cons, decide_eq_true_eq]
                exact hq
        refine ⟨fun hnil => ?_, fun i hi => ?_⟩
        · exfalso
          apply hdone
          have hall : ∀ n j, j < n → j < ops.length → listed[j]? = some true := by
            intro n
            induction n with
            | zero => intro j hj; omega
            | succ n ihn =>
              intro j hj hjl
              have hj' : j < listed.size := by omega
              cases hb : listed[j] with
              | true => rw [Array.getElem?_eq_getElem hj', hb]
              | false =>
                exfalso
                have hmem : j ∈ Region.ready .any ops.toArray listed := by
                  refine mem_ready.2 ⟨ops[j], by simp [hjl], by simp [Array.getD_eq_getD_getElem?, Array.getElem?_eq_getElem hj', hb], fun i hi => ?_⟩
                  have h3 : (fun (o, i) => (depsOf o).all fun j => decide (j < i)) (ops[j], j) = true :=
                    List.all_eq_true.1 he (ops[j], j) (by rw [List.mem_zipIdx_iff_getElem?]; simp [hjl])
                  simp only [List.all_eq_true, decide_eq_true_eq] at h3
                  have hij := h3 i hi
                  have := ihn i (by omega) (by omega)
                  simp [Array.getD_eq_getD_getElem?, this]
                rw [hnil] at hmem
                simp at hmem
          exact fun j hj _ => hall (j + 1) j (by omega) hj
        · have hiT := hnT i hi
          obtain ⟨o, ho, hlo, hdo⟩ := mem_ready.1 hi
          have hil : i < ops.length := (List.getElem?_eq_some_iff.1 ho).1
          have hil' : i < listed.size := by omega
          have hfalse : listed[i]? = some false := by
            rw [Array.getElem?_eq_getElem hil']
            simpa [Array.getD_eq_getD_getElem?, Array.getElem?_eq_getElem hil'] using hlo
          have hiF : F.contains i = false := by
            cases hb : F.contains i with
            | false => rfl
            | true => have := hlF i hil hb; rw [hfalse] at this; simp at this
          have hiS : (F ++ T).contains i = false := by
            simp only [List.contains_eq_mem, List.mem_append, decide_eq_false_iff_not, not_or] at hiF hiT ⊢
            exact ⟨hiF, hiT⟩
          have hstep := AllStepsC.at hs ho (by rw [Nat.zero_add]; exact hiS)
          rw [Nat.zero_add] at hstep
          have hg := (hstep vs w hw).pay fun e hee hb hf => hr e.on (getD_true (hdo e.on (List.mem_map.2 ⟨e, List.mem_filter.2 ⟨hee, hb⟩, rfl⟩))) hf
          have hnext := hstepped i o ho hfalse hiS hdo
          unfold wpOp
          have hop' : ops.toArray[i]? = some o := by simpa using ho
          rw [hop']
          simp only []
          split
          · rename_i hwt
            rw [if_pos hwt] at hg
            exact .inl (hg.wp fun v w' ⟨h1, h2, h3⟩ => hnext v w' h1 h2 h3)
          · rename_i hwt
            rw [if_neg hwt] at hg
            exact hnext undef w hw hg (fun _ _ _ _ _ _ h => h)
  have hl0 : ∀ j, listed0[j]? = some true → F.contains j = true := by
    intro j hj
    rw [h0] at hj
    simp only [List.getElem?_toArray, List.getElem?_map] at hj
    by_cases hjl : j < ops.length
    · rw [List.getElem?_range hjl] at hj
      simpa using hj
    · rw [List.getElem?_eq_none (by simpa using hjl)] at hj
      simp at hj
  have hl1 : ∀ j, j < ops.length → F.contains j = true → listed0[j]? = some true := by
    intro j hj hjF
    rw [h0]
    simp only [List.getElem?_toArray, List.getElem?_map, List.getElem?_range hj, Option.map_some, hjF]
  obtain ⟨vs0, hvs0⟩ : ∃ vs0, putAll (F ++ T) ops 0 vs0 a0 = a0 := ⟨_, putAll_old _ _ _ _⟩
  have h1 := key fuel listed0 vs0 w0 (by rw [h0]; simp) hfuel.symm (Ext.refl' w0) hl1 ?_ ?_ ?_
  · rwa [hvs0] at h1
  · intro j hjT hj
    have := hl0 j hj
    rw [List.all_eq_true] at hFT
    have := hFT j (by simpa using this)
    rw [hjT] at this
    simp at this
  · intro i o ho hi j hj
    have hiF := hl0 i hi
    rw [List.all_eq_true] at hF
    have := hF i (by simpa using hiF)
    rw [ho] at this
    simp only [Option.map_some, Option.getD_some, List.all_eq_true] at this
    have hjF := this j hj
    have hjl : j < ops.length := by
      have h3 : (fun (o, i) => (depsOf o).all fun j => decide (j < i)) (o, i) = true :=
        List.all_eq_true.1 he (o, i) (by rw [List.mem_zipIdx_iff_getElem?]; exact ho)
      simp only [List.all_eq_true, decide_eq_true_eq] at h3
      have h4 := h3 j hj
      have : i < ops.length := (List.getElem?_eq_some_iff.1 ho).1
      omega
    rw [Array.getD_eq_getD_getElem?, hl1 j hjl hjF]
    rfl
  · intro j hj hjF
    rw [hl0 j hj] at hjF
    simp at hjF

/-- A REGION THAT DRAWS ITS ORDER: each operation but the tail's (T, in their one order) is proved by itself, of whatever world that has grown out of w0, from the guarantees of those that come ahead of it -/
theorem region_tailC {P : Program} {Q : Exit → Act → World → Prop} {id : Nat} {ops : List Oper} {a0 : Act} {w0 : World} (E T : List Nat) (R : Nat → Value → World → Prop)
    (hm : P.follows .mixedOrders = true) (hQ : ∀ c d v a w, Q (.panic c) (Act.put a d v) w → Q (.panic c) a w) (hok : (dstsOk ops && edgesOk ops && tailOk ops [] E T && forcedOk ops T (listedT ops.length T) && decide (T.length ≤ (listedT ops.length T).toList.count false) && Region.noSelect ops.toArray && freeOk ops E && E.all (fun i => !([] ++ T).contains i)) = true)
    (hR : ∀ i v w w', R i v w → Ext w w' → R i v w')
    (hEs : ∀ i o, E.contains i = true → ops[i]? = some o → EStep P ops [] T R a0 w0 i o)
    (hs : AllStepsC P ops [] T R a0 w0 0 ops)
    (hend : ∀ vs w, Ext w0 w → (∀ i, i < ops.length → T.contains i = false → R i (vs i) w) → wpList P ops.toArray Q (T.filterMap fun t => ops[t]?) (putAll T ops 0 vs a0) w) :
    (Code.region id ops.toArray true).wp P Q a0 w0 := by
  simp only [Bool.and_eq_true, decide_eq_true_eq] at hok
  obtain ⟨⟨⟨⟨⟨⟨⟨h1, h2⟩, h3⟩, h4⟩, h5⟩, h6⟩, h7⟩, h8⟩ := hok
  refine wp_region_any hm ?_
  have hE : Ext w0 { w0 with drawn := w0.drawn + 1 } := ⟨rfl, rfl, rfl, Nat.le_refl _, fun _ _ => rfl⟩
  refine mono_fromC [] E T R hR h1 h2 h3 h6 h7 h8 hQ (fun i o h1 h2 vs w hw => hEs i o h1 h2 vs w (Ext.tr hE hw)) (by simp) ?_ (by
    apply Array.ext_getElem?
    intro j
    by_cases hj : j < ops.length <;> simp [hj]) (by simp) (by simp) ?_
  · -- the steps hold of the world behind the draw, too
    have : ∀ os k, AllStepsC P ops [] T R a0 w0 k os → AllStepsC P ops [] T R a0 { w0 with drawn := w0.drawn + 1 } k os := by
      intro os
      induction os with
      | nil => intros; trivial
      | cons o os ih =>
        intro k h
        unfold AllStepsC at h ⊢
        cases hb : ([] ++ T).contains k with
        | true => rw [hb] at h; exact ih _ h
        | false =>
          rw [hb] at h
          refine ⟨fun vs w hw => (h.1 vs w (Ext.tr hE hw)).map fun hg => ?_, ih _ h.2⟩
          split at hg
          · rename_i hwt
            rw [if_pos hwt]
            refine hg.mono fun v w' ⟨h1, h2, h3⟩ => ⟨⟨h1.os, h1.tape, h1.output, h1.size, h1.block⟩, h2, h3⟩
          · rename_i hwt
            rw [if_neg hwt]
            exact hg
    exact this _ _ hs
  · intro vs w hw hr
    exact wpAny_forced T _ _ _ h4 (hend vs w (Ext.tr hE hw) hr) _ h5
/-! ### the same, each operation from what its operands hold -/
inductive StepsLC (P : Program) (ops : List Oper) (E T : List Nat) (L : List SP) (a0 : Act) (w0 : World) : Nat → List Oper → Prop
  | nil {i : Nat} : StepsLC P ops E T L a0 w0 i []
  | skip {i : Nat} {o : Oper} {os : List Oper} (h : T.contains i = true) (r : StepsLC P ops E T L a0 w0 (i + 1) os) : StepsLC P ops E T L a0 w0 i (o :: os)
  | free {i : Nat} {o : Oper} {os : List Oper} (h : FreeL P ops T L a0 w0 i o) (r : StepsLC P ops E T L a0 w0 (i + 1) os) : StepsLC P ops E T L a0 w0 i (o :: os)
  | keep {i : Nat} {o : Oper} {os : List Oper} (h : KeepL P ops T L a0 w0 i o) (r : StepsLC P ops E T L a0 w0 (i + 1) os) (hn : E.contains i = false := by rfl) : StepsLC P ops E T L a0 w0 i (o :: os)
  | cons {i : Nat} {o : Oper} {os : List Oper} (h : StepL P ops T L a0 w0 i o) (r : StepsLC P ops E T L a0 w0 (i + 1) os) (hn : E.contains i = false := by rfl) : StepsLC P ops E T L a0 w0 i (o :: os)

theorem StepsLC.all {P : Program} {ops : List Oper} {E T : List Nat} {L : List SP} {a0 : Act} {w0 : World} (hb : ∀ o ∈ ops, ∀ d, o.dst = some d → d < a0.tmps.size) {i : Nat} {os : List Oper} (hsub : ∀ o ∈ os, o ∈ ops) (h : StepsLC P ops E T L a0 w0 i os) :
    AllStepsC P ops [] T (SP.at L) a0 w0 i os := by
  induction h with
  | nil => exact trivial
  | skip hc _ ih =>
    unfold AllStepsC
    rw [List.nil_append, hc]
    exact ih fun o ho => hsub o (List.mem_cons_of_mem _ ho)
  | @free i o os h _ ih =>
    have ih' := ih fun o ho => hsub o (List.mem_cons_of_mem _ ho)
    unfold AllStepsC
    cases hc : ([] ++ T).contains i with
    | true => exact ih'
    | false =>
      refine ⟨fun vs w hw => ?_, ih'⟩
      refine (h.2 vs w hw).map fun ⟨v, h1, h2⟩ => ?_
      have he : (putAll ([] ++ T) ops 0 vs a0).eval = look T ops vs a0 := funext fun x => look_eq hb x
      have hwt : wantedL ops (look T ops vs a0) o = true := by unfold wantedL; rw [h.1]
      rw [wantedL_eq, he, if_pos hwt]
      unfold Gives
      rw [he, h1 w]
      exact ⟨hw, h2, fun _ _ _ _ _ _ h => h⟩
  | @keep i o os h _ _ ih =>
    have ih' := ih fun o ho => hsub o (List.mem_cons_of_mem _ ho)
    unfold AllStepsC
    cases hc : ([] ++ T).contains i with
    | true => exact ih'
    | false =>
      refine ⟨fun vs w hw => ?_, ih'⟩
      refine (h.2 vs w hw).map fun hg => ?_
      have he : (putAll ([] ++ T) ops 0 vs a0).eval = look T ops vs a0 := funext fun x => look_eq hb x
      have hwt : wantedL ops (look T ops vs a0) o = true := by unfold wantedL; rw [h.1]
      rw [wantedL_eq, he, if_pos hwt]
      unfold Gives
      rw [he]
      exact hg
  | @cons i o os h _ _ ih =>
    have ih' := ih fun o ho => hsub o (List.mem_cons_of_mem _ ho)
    unfold AllStepsC
    cases hc : ([] ++ T).contains i with
    | true => exact ih'
    | false =>
      refine ⟨fun vs w hw => ?_, ih'⟩
      refine (h vs w hw).map fun ⟨h1, h2⟩ => ?_
      have he : (putAll ([] ++ T) ops 0 vs a0).eval = look T ops vs a0 := funext fun x => look_eq hb x
      rw [wantedL_eq, he]
      split
      · rename_i hw'
        unfold Gives
        rw [he]
        exact GivesR.imp (fun v w' ⟨k1, k2⟩ => ⟨Ext.tr hw k1, k2, fun j _ u _ _ _ hR => (L.getD j SP.any).st u _ _ hR k1⟩) (h1 hw')
      · rename_i hw'
        exact h2 (by simpa using hw')

theorem StepsLC.eager {P : Program} {ops : List Oper} {E T : List Nat} {L : List SP} {a0 : Act} {w0 : World} (hb : ∀ o ∈ ops, ∀ d, o.dst = some d → d < a0.tmps.size) {i0 : Nat} {os : List Oper} (h : StepsLC P ops E T L a0 w0 i0 os) :
    ∀ j o, os[j]? = some o → E.contains (i0 + j) = true → T.contains (i0 + j) = false → EStep P ops [] T (SP.at L) a0 w0 (i0 + j) o := by
  induction h with
  | nil => intro j o h; simp at h
  | @skip i o' os hc _ ih =>
    intro j o hj hE hT
    cases j with
    | zero => rw [Nat.add_zero, hc] at hT; simp at hT
    | succ j =>
      have e : i + 1 + j = i + (j + 1) := by omega
      have := ih j o (by simpa using hj)
      rw [e] at this
      exact this hE hT
  | @free i o' os h _ ih =>
    intro j o hj hE hT
    cases j with
    | zero =>
      simp at hj
      subst hj
      intro vs w hw
      refine (h.2 vs w hw).map fun ⟨v, h1, h2⟩ => ⟨v, ?_, h2⟩
      have he : (putAll ([] ++ T) ops 0 vs a0).eval = look T ops vs a0 := funext fun x => look_eq hb x
      refine Or.inl ⟨?_, fun w' => by rw [he]; exact h1 w'⟩
      unfold Region.wanted
      rw [h.1]
    | succ j =>
      have e : i + 1 + j = i + (j + 1) := by omega
      have := ih j o (by simpa using hj)
      rw [e] at this
      exact this hE hT
  | @keep i o' os h _ hn ih =>
    intro j o hj hE hT
    cases j with
    | zero => rw [Nat.add_zero, hn] at hE; simp at hE
    | succ j =>
      have e : i + 1 + j = i + (j + 1) := by omega
      have := ih j o (by simpa using hj)
      rw [e] at this
      exact this hE hT
  | @cons i o' os h _ hn ih =>
    intro j o hj hE hT
    cases j with
    | zero => rw [Nat.add_zero, hn] at hE; simp at hE
    | succ j =>
      have e : i + 1 + j = i + (j + 1) := by omega
      have := ih j o (by simpa using hj)
      rw [e] at this
      exact this hE hT

/-- A REGION THAT DRAWS ITS ORDER, operation by operation (T: its tail, in its one order; L: what is said of each operation's yield) -/
theorem region_spC {P : Program} {Q : Exit → Act → World → Prop} {id : Nat} {ops : List Oper} {a0 : Act} {w0 : World} (E T : List Nat) (L : List SP)
    (hm : P.follows .mixedOrders = true) (hQ : ∀ c d v a w, Q (.panic c) (Act.put a d v) w → Q (.panic c) a w) (hok : (dstsOk ops && edgesOk ops && tailOk ops [] E T && forcedOk ops T (listedT ops.length T) && decide (T.length ≤ (listedT ops.length T).toList.count false) && Region.noSelect ops.toArray && freeOk ops E && E.all (fun i => !([] ++ T).contains i)) = true)
    (hb : boundsOk ops a0.tmps.size = true)
    (hs : StepsLC P ops E T L a0 w0 0 ops)
    (hend : ∀ vs w, Ext w0 w → (∀ i, i < ops.length → T.contains i = false → SP.at L i (vs i) w) → wpList P ops.toArray Q (T.filterMap fun t => ops[t]?) (putAll T ops 0 vs a0) w) :
    (Code.region id ops.toArray true).wp P Q a0 w0 := by
  have hb' : ∀ o ∈ ops, ∀ d, o.dst = some d → d < a0.tmps.size := by
    intro o ho d hd
    have := List.all_eq_true.1 hb o ho
    rw [hd] at this
    simpa using this
  refine region_tailC E T (SP.at L) hm hQ hok (fun i v w w' h hE => (L.getD i SP.any).st v w w' h hE) ?_ (StepsLC.all hb' (fun _ h => h) hs) hend
  intro i o hiE ho
  have h8 : E.all (fun i => !([] ++ T).contains i) = true := by
    simp only [Bool.and_eq_true] at hok
    exact hok.2
  have hiT : T.contains i = false := by
    have := List.all_eq_true.1 h8 i (by simpa using hiE)
    simpa using this
  have := StepsLC.eager hb' hs i o ho
  rw [Nat.zero_add] at this
  exact this hiE hiT

/-! ### steps -/
end Go.Proofs.YtajkepdfemdagaaGreatDoor
namespace Go.Proofs.YtajkepdfemdagaaGreatDoor
open Go.RowKit
set_option linter.unusedVariables false

def EStepJ (P : Program) (ops : List Oper) (F T : List Nat) (R : Nat → Value → World → Prop) (a0 : Act) (J : Nat → World → Prop) (i : Nat) (o : Oper) : Prop :=
  ∀ n vs w, J (n + 1) w → Deps F R vs w o.after.toList (∃ v, Yields P ops.toArray o v (putAll (F ++ T) ops 0 vs a0) ∧ R i v w)
def StepJ (P : Program) (ops : List Oper) (T : List Nat) (L : List SP) (a0 : Act) (J : Nat → World → Prop) (i : Nat) (o : Oper) : Prop :=
  ∀ n vs w, J (n + 1) w → Deps [] (SP.at L) vs w o.after.toList (Step P ops o (look T ops vs a0) w (SP.at L i))
def FreeJ (P : Program) (ops : List Oper) (T : List Nat) (L : List SP) (a0 : Act) (J : Nat → World → Prop) (i : Nat) (o : Oper) : Prop :=
  o.guard = none ∧ ∀ n vs w, J (n + 1) w → Deps [] (SP.at L) vs w o.after.toList (∃ v, (∀ w', (execOp (look T ops vs a0) o).run P w' = .ok (.value v) w') ∧ SP.at L i v w)
def KeepJ (P : Program) (ops : List Oper) (T : List Nat) (L : List SP) (a0 : Act) (J : Nat → World → Prop) (i : Nat) (o : Oper) : Prop :=
  o.guard = none ∧ ∀ n vs w, J (n + 1) w → Deps [] (SP.at L) vs w o.after.toList (GivesR P o (look T ops vs a0) w (fun v w' => J n w' ∧ SP.at L i v w' ∧ KeepsC ops (SP.at L) i w w'))

def OpStepJ (P : Program) (ops : List Oper) (F T : List Nat) (R : Nat → Value → World → Prop) (a0 : Act) (J : Nat → World → Prop) (i : Nat) (o : Oper) : Prop :=
  ∀ n vs w, J (n + 1) w → Deps F R vs w o.after.toList
    (if Region.wanted o (yielded ops.toArray (putAll (F ++ T) ops 0 vs a0).tmps) then Gives P o (putAll (F ++ T) ops 0 vs a0) w (fun v w' => J n w' ∧ R i v w' ∧ KeepsC ops R i w w') else R i undef w)

def AllStepsJ (P : Program) (ops : List Oper) (F T : List Nat) (R : Nat → Value → World → Prop) (a0 : Act) (J : Nat → World → Prop) : Nat → List Oper → Prop
  | _, [] => True
  | i, o :: os => bif (F ++ T).contains i then AllStepsJ P ops F T R a0 J (i + 1) os else OpStepJ P ops F T R a0 J i o ∧ AllStepsJ P ops F T R a0 J (i + 1) os

theorem AllStepsJ.at {P : Program} {ops : List Oper} {F T : List Nat} {R : Nat → Value → World → Prop} {a0 : Act} {J : Nat → World → Prop} : ∀ {os : List Oper} {k i : Nat} {o : Oper}, AllStepsJ P ops F T R a0 J k os → os[i]? = some o → (F ++ T).contains (k + i) = false → OpStepJ P ops F T R a0 J (k + i) o
  | [], k, i, o, _, h, _ => by simp at h
  | o' :: os, k, 0, o, hs, h, hc => by
    simp at h; subst h
    unfold AllStepsJ at hs
    rw [Nat.add_zero] at hc
    rw [hc] at hs
    exact hs.1
  | o' :: os, k, i + 1, o, hs, h, hc => by
    have he : k + 1 + i = k + (i + 1) := by omega
    unfold AllStepsJ at hs
    have hs' : AllStepsJ P ops F T R a0 J (k + 1) os := by
      cases hb : (F ++ T).contains k with
      | true => rw [hb] at hs; exact hs
      | false => rw [hb] at hs; exact hs.2
    have := AllStepsJ.at hs' (i := i) (by simpa using h) (by rw [he]; exact hc)
    rwa [he] at this

theorem mono_fromJ {P : Program} {Q : Exit → Act → World → Prop} {ops : List Oper} {a0 : Act} {w0 : World} {J : Nat → World → Prop} (hJE : ∀ n w w', J n w → Ext w w' → J n w') (hJS : ∀ n w, J (n + 1) w → J n w) (F E T : List Nat)
    (R : Nat → Value → World → Prop) (hR : ∀ i v w w', R i v w → Ext w w' → R i v w') (hd : dstsOk ops = true) (he : edgesOk ops = true) (hT : tailOk ops F E T = true)
    (hns : Region.noSelect ops.toArray = true) (hfree : freeOk ops E = true) (hEFT : E.all (fun i => !(F ++ T).contains i) = true) (hQ : ∀ c d v a w, Q (.panic c) (Act.put a d v) w → Q (.panic c) a w)
    (hEs : ∀ i o, E.contains i = true → ops[i]? = some o → EStepJ P ops F T R a0 J i o)
    (hFT : F.all (fun i => !T.contains i) = true)
    (hs : AllStepsJ P ops F T R a0 J 0 ops) {fuel : Nat} {listed0 : Array Bool} (h0 : listed0 = ((List.range ops.length).map fun i => F.contains i).toArray) (hfuel : fuel = listed0.toList.count false) (hJ0 : J fuel w0)
    (hF : F.all (fun i => ((ops[i]?).map fun o => (depsOf o).all F.contains).getD true) = true)
    (hend : ∀ n vs w, J n w → (∀ i, i < ops.length → (F ++ T).contains i = false → R i (vs i) w) → wpAny P .any ops.toArray Q ((listedT ops.length T).toList.count false) (listedT ops.length T) (putAll (F ++ T) ops 0 vs a0) w) :
    wpAny P .any ops.toArray Q fuel listed0 a0 w0 := by
  have key : ∀ (fuel : Nat) (listed : Array Bool) (vs : Nat → Value) (w : World), listed.size = ops.length → listed.toList.count false = fuel →
      J fuel w → (∀ j, j < ops.length → F.contains j = true → listed[j]? = some true) → (∀ j, T.contains j = true → listed[j]? ≠ some true) →
      (∀ (i : Nat) (o : Oper), ops[i]? = some o → listed[i]? = some true → ∀ j ∈ depsOf o, listed.getD j false = true) →
      (∀ j, listed[j]? = some true → F.contains j = false → R j (vs j) w) → wpAny P .any ops.toArray Q fuel listed (putAll (F ++ T) ops 0 vs a0) w := by
    intro fuel
    induction fuel with
    | zero =>
      intro listed vs w hsz hc hw hlF hlT hcl hr
      have hall : ∀ j, j < ops.length → listed[j]? = some true := by
        intro j hj
        have hj' : j < listed.size := by omega
        have hmem : listed[j] ∈ listed.toList := by simp
        have hnf : false ∉ listed.toList := by rw [← List.count_eq_zero]; exact hc
        rw [Array.getElem?_eq_getElem hj']
        cases hb : listed[j] with
        | true => rfl
        | false => rw [hb] at hmem; exact absurd hmem hnf
      have hlist : listed = listedT ops.length T := by
        apply Array.ext_getElem?
        intro j
        by_cases hj : j < ops.length
        · rw [hall j hj]
          cases hb : T.contains j with
          | true => exact absurd (hall j hj) (hlT j hb)
          | false => simp only [listedT, List.getElem?_toArray, List.getElem?_map, List.getElem?_range hj, Option.map_some, hb, Bool.not_false]
        · rw [Array.getElem?_eq_none (by omega)]
          simp [listedT, hj]
      have := hend _ vs w hw fun i hi hni => hr i (hall i hi) (by
        simp only [List.contains_eq_mem, List.mem_append, decide_eq_false_iff_not, not_or] at hni
        simpa using hni.1)
      rw [← hlist, hc] at this
      exact this
    | succ fuel ih =>
      intro listed vs w hsz hc hw hlF hlT hcl hr
      by_cases hdone : ∀ j, j < ops.length → (F ++ T).contains j = false → listed[j]? = some true
      · have hlist : listed = listedT ops.length T := by
          apply Array.ext_getElem?
          intro j
          by_cases hj : j < ops.length
          · have e2 : (listedT ops.length T)[j]? = some (!T.contains j) := by
              simp only [listedT, List.getElem?_toArray, List.getElem?_map, List.getElem?_range hj, Option.map_some]
            rw [e2]
            cases hb : T.contains j with
            | true =>
              have := hlT j hb
              have hj' : j < listed.size := by omega
              rw [Array.getElem?_eq_getElem hj'] at this ⊢
              simpa using this
            | false =>
              cases hf : F.contains j with
              | true => rw [hlF j hj hf]; rfl
              | false =>
                rw [hdone j hj (by
                  simp only [List.contains_eq_mem, List.mem_append, decide_eq_false_iff_not, not_or] at hb hf ⊢
                  exact ⟨hf, hb⟩)]
                rfl
          · rw [Array.getElem?_eq_none (by omega)]
            simp [listedT, hj]
        have := hend _ vs w hw fun i hi hni => hr i (hdone i hi hni) (by
          simp only [List.contains_eq_mem, List.mem_append, decide_eq_false_iff_not, not_or] at hni
          simpa using hni.1)
        rw [← hlist, hc] at this
        exact this
      · -- what one that is ready leaves behind it
        have hstepped : ∀ (i : Nat) (o : Oper), ops[i]? = some o → listed[i]? = some false → (F ++ T).contains i = false → (∀ j ∈ depsOf o, listed.getD j false = true) →
            ∀ v w', J fuel w' → R i v w' → KeepsC ops R i w w' → wpAny P .any ops.toArray Q fuel (listed.setIfInBounds i true) ((putAll (F ++ T) ops 0 vs a0).put o.dst v) w' := by
          intro i o ho hfalse hiS hdo v w' hww hri hkeep
          have hiF : F.contains i = false := by
            simp only [List.contains_eq_mem, List.mem_append, decide_eq_false_iff_not, not_or] at hiS ⊢
            exact hiS.1
          have hiT : T.contains i = false := by
            simp only [List.contains_eq_mem, List.mem_append, decide_eq_false_iff_not, not_or] at hiS ⊢
            exact hiS.2
          have := putAll_upd (F ++ T) ops 0 vs a0 i o v hd ho (by rw [Nat.zero_add]; exact hiS)
          rw [Nat.zero_add] at this
          rw [this]
          have hsetT : ∀ (j : Nat), listed[j]? = some true → (listed.setIfInBounds i true)[j]? = some true := by
            intro j hj
            rw [Array.getElem?_setIfInBounds]
            split
            · simp_all
            · exact hj
          refine ih _ _ _ (by simp [hsz]) ?_ hww ?_ ?_ ?_ ?_
          · have := count_set_true listed.toList i (by simpa using hfalse)
            simp only [Array.toList_setIfInBounds]
            omega
          · exact fun j hj hjF => hsetT j (hlF j hj hjF)
          · intro j hjT hj
            rw [Array.getElem?_setIfInBounds] at hj
            split at hj
            · rename_i hij; subst hij; rw [hjT] at hiT; simp at hiT
            · exact hlT j hjT hj
          · intro k ok hok hk j hj
            have hjl : listed.getD j false = true := by
              rw [Array.getElem?_setIfInBounds] at hk
              split at hk
              · rename_i hik
                subst hik
                rw [ho] at hok
                simp at hok
                subst hok
                exact hdo j hj
              · exact hcl k ok hok hk j hj
            rw [Array.getD_eq_getD_getElem?, hsetT j (getD_true hjl)]
            rfl
          · intro j hj hjF
            rw [Array.getElem?_setIfInBounds] at hj
            unfold upd
            split at hj
            · rename_i hij; subst hij; rw [if_pos rfl]; exact hri
            · rename_i hij; rw [if_neg (fun h => hij h.symm)]
              have hjl : j < ops.length := by
                have : j < listed.size := (Array.getElem?_eq_some_iff.1 hj).1
                omega
              refine hkeep j ops[j] _ (by simp [hjl]) ?_ (fun h => hij h.symm) (hr j hj hjF)
              cases hb : (depsOf ops[j]).contains i with
              | false => rfl
              | true =>
                have := getD_true (hcl j ops[j] (by simp [hjl]) hj i (by simpa using hb))
                rw [hfalse] at this
                simp at this
        by_cases hsat : ∃ i, E.contains i = true ∧ i ∈ Region.ready .any ops.toArray listed
        · -- one of E is ready: it is taken first
          obtain ⟨i, hiE, hi⟩ := hsat
          obtain ⟨o, ho, hlo, hdo⟩ := mem_ready.1 hi
          have hil : i < ops.length := (List.getElem?_eq_some_iff.1 ho).1
          have hil' : i < listed.size := by omega
          have hfalse : listed[i]? = some false := by
            rw [Array.getElem?_eq_getElem hil']
            simpa [Array.getD_eq_getD_getElem?, Array.getElem?_eq_getElem hil'] using hlo
          have hiS : (F ++ T).contains i = false := by
            have := List.all_eq_true.1 hEFT i (by simpa using hiE)
            simpa using this
          obtain ⟨v, hy, hri⟩ := (hEs i o hiE ho fuel vs w hw).pay fun e hee hb hf => hr e.on (getD_true (hdo e.on (List.mem_map.2 ⟨e, List.mem_filter.2 ⟨hee, hb⟩, rfl⟩))) hf
          refine wpAny_take (i := i) (oi := o) (v := v) (by simpa using ho) hns ?_ (by simpa using hi) (fun c a w h => hQ c o.dst v a w h) hy (hstepped i o ho hfalse hiS hdo v w (hJS _ _ hw) hri (fun _ _ _ _ _ _ h => h))
          -- nothing that is left interferes
          have hfr := List.all_eq_true.1 hfree i (by simpa using hiE)
          rw [ho] at hfr
          simp only at hfr
          unfold Region.free
          have hop' : ops.toArray[i]? = some o := by simpa using ho
          rw [hop']
          simp only
          rw [List.all_eq_true] at hfr ⊢
          intro j hj
          have h1 := hfr j (by simpa using hj)
          by_cases hji : j = i
          · simp [hji]
          · simp only [Bool.or_eq_true, beq_iff_eq] at h1 ⊢
            rcases h1 with (h1 | h1) | h1
            · exact absurd h1 hji
            · have hjl := getD_true (hdo j (by simpa using h1))
              left; right
              simp [Array.getD_eq_getD_getElem?, hjl]
            · right
              have hjl : j < ops.length := by simpa using hj
              have hoj : ops[j]? = some ops[j] := by simp [hjl]
              have hoj' : ops.toArray[j]? = some ops[j] := by simp [hjl]
              rw [hoj] at h1
              rw [hoj']
              simp only [Bool.or_eq_true] at h1 ⊢
              rcases h1 with h1 | h1
              · left
                rw [List.contains_eq_mem, decide_eq_true_eq] at h1
                unfold depsOf at h1
                obtain ⟨e, he1, he2⟩ := List.mem_map.1 h1
                rw [List.mem_filter] at he1
                rw [← Array.any_toList, List.any_eq_true]
                exact ⟨e, he1.1, by rw [he1.2, he2]; simp⟩
              · right; exact h1
        -- one is left that is not of the tail: none of the tail is ready
        have hnT : ∀ i, i ∈ Region.ready .any ops.toArray listed → T.contains i = false := by
          intro i hi
          cases hb : T.contains i with
          | false => rfl
          | true =>
            exfalso
            obtain ⟨o, ho, hlo, hdo⟩ := mem_ready.1 hi
            cases hTT : T with
            | nil => rw [hTT] at hb; simp at hb
            | cons t ts =>
              rw [hTT] at hT
              simp only [tailOk, Bool.and_eq_true] at hT
              obtain ⟨hA, hC⟩ := hT
              by_cases hit : i = t
              · subst hit
                apply hdone
                have down : ∀ n j, ops.length - j ≤ n → j < ops.length → (F ++ T).contains j = false → listed[j]? = some true := by
                  intro n
                  induction n with
                  | zero => intro j h1 h2; omega
                  | succ n ihn =>
                    intro j h1 h2 h3
                    rw [List.all_eq_true] at hA
                    have := hA j (by simpa using h2)
                    rw [hTT] at h3
                    rw [h3, Bool.false_or, Bool.or_eq_true] at this
                    rcases this with this | this
                    case inr =>
                      -- one of E: all that it waits for is done: it is done
                      simp only [Bool.and_eq_true] at this
                      obtain ⟨hjE, hjd⟩ := this
                      have hjo : ops[j]? = some ops[j] := by simp [h2]
                      rw [hjo, ho] at hjd
                      simp only [Option.map_some, Option.getD_some, List.all_eq_true] at hjd
                      have hdep : ∀ d ∈ depsOf ops[j], listed.getD d false = true := by
                        intro d hdd
                        have hd1 := hjd d hdd
                        rw [Bool.or_eq_true] at hd1
                        rcases hd1 with h | h
                        · exact hdo d (by simpa using h)
                        · rw [List.any_eq_true] at h
                          obtain ⟨e, he1, he2⟩ := h
                          cases hoe : ops[e]? with
                          | none => rw [hoe] at he2; simp at he2
                          | some q => rw [hoe] at he2; exact hcl e q hoe (getD_true (hdo e he1)) d (by simpa using he2)
                      have hj' : j < listed.size := by omega
                      cases hb : listed[j] with
                      | true => rw [Array.getElem?_eq_getElem hj', hb]
                      | false =>
                        exfalso
                        refine hsat ⟨j, hjE, mem_ready.2 ⟨ops[j], hjo, by simp [Array.getD_eq_getD_getElem?, Array.getElem?_eq_getElem hj', hb], hdep⟩⟩
                    rw [List.any_eq_true] at this
                    obtain ⟨k, hk, hkk⟩ := this
                    simp only [Bool.and_eq_true, decide_eq_true_eq, Bool.or_eq_true, beq_iff_eq, Bool.not_eq_true'] at hkk
                    obtain ⟨⟨hjk, hkt⟩, hdk⟩ := hkk
                    have hkl : k < ops.length := by simpa using hk
                    have hok : ops[k]? = some ops[k] := by simp [hkl]
                    rw [hok] at hdk
                    simp only [Option.map_some, Option.getD_some, List.contains_eq_mem, decide_eq_true_eq] at hdk
                    rcases hkt with hkt | hkt
                    · subst hkt
                      have : o = ops[k] := by rw [ho] at hok; simpa using hok
                      subst this
                      exact getD_true (hdo j hdk)
                    · have hlk := ihn k (by omega) hkl (by rw [hTT]; exact hkt)
                      exact getD_true (hcl k ops[k] hok hlk j hdk)
                exact fun j hj hjn => down ops.length j (by omega) hj hjn
              · -- it waits for the one ahead of it
                have hch : ∀ (l : List Nat) (p : Nat), tailOk.chain ops p l = true → i ∈ l → ∃ q, (q = p ∨ q ∈ l) ∧ q ∈ depsOf o := by
                  intro l
                  induction l with
                  | nil => intro p _ hm; simp at hm
                  | cons u l ihl =>
                    intro p hcc hm
                    simp only [tailOk.chain, Bool.and_eq_true] at hcc
                    rcases List.mem_cons.1 hm with rfl | hm
                    · refine ⟨p, Or.inl rfl, ?_⟩
                      have := hcc.1
                      rw [ho] at this
                      simpa using this
                    · obtain ⟨q, hq, hqd⟩ := ihl u hcc.2 hm
                      refine ⟨q, Or.inr ?_, hqd⟩
                      rcases hq with rfl | hq
                      · exact List.mem_cons_self
                      · exact List.mem_cons_of_mem _ hq
                have him : i ∈ ts := by
                  have : i ∈ t :: ts := by rw [hTT] at hb; simpa using hb
                  rcases List.mem_cons.1 this with h | h
                  · exact absurd h hit
                  · exact h
                obtain ⟨q, hq, hqd⟩ := hch ts t hC him
                refine hlT q ?_ (getD_true (hdo q hqd))
                rw [hTT]
                simp only [List.contains_eq_mem, List.mem_cons, decide_eq_true_eq]
                exact hq
        refine ⟨fun hnil => ?_, fun i hi => ?_⟩
        · exfalso
          apply hdone
          have hall : ∀ n j, j < n → j < ops.length → listed[j]? = some true := by
            intro n
            induction n with
            | zero => intro j hj; omega
            | succ n ihn =>
              intro j hj hjl
              have hj' : j < listed.size := by omega
              cases hb : listed[j] with
              | true => rw [Array.getElem?_eq_getElem hj', hb]
              | false =>
                exfalso
                have hmem : j ∈ Region.ready .any ops.toArray listed := by
                  refine mem_ready.2 ⟨ops[j], by simp [hjl], by simp [Array.getD_eq_getD_getElem?, Array.getElem?_eq_getElem hj', hb], fun i hi => ?_⟩
                  have h3 : (fun (o, i) => (depsOf o).all fun j => decide (j < i)) (ops[j], j) = true :=
                    List.all_eq_true.1 he (ops[j], j) (by rw [List.mem_zipIdx_iff_getElem?]; simp [hjl])
                  simp only [List.all_eq_true, decide_eq_true_eq] at h3
                  have hij := h3 i hi
                  have := ihn i (by omega) (by omega)
                  simp [Array.getD_eq_getD_getElem?, this]
                rw [hnil] at hmem
                simp at hmem
          exact fun j hj _ => hall (j + 1) j (by omega) hj
        · have hiT := hnT i hi
          obtain ⟨o, ho, hlo, hdo⟩ := mem_ready.1 hi
          have hil : i < ops.length := (List.getElem?_eq_some_iff.1 ho).1
          have hil' : i < listed.size := by omega
          have hfalse : listed[i]? = some false := by
            rw [Array.getElem?_eq_getElem hil']
            simpa [Array.getD_eq_getD_getElem?, Array.getElem?_eq_getElem hil'] using hlo
          have hiF : F.contains i = false := by
            cases hb : F.contains i with
            | false => rfl
            | true => have := hlF i hil hb; rw [hfalse] at this; simp at this
          have hiS : (F ++ T).contains i = false := by
            simp only [List.contains_eq_mem, List.mem_append, decide_eq_false_iff_not, not_or] at hiF hiT ⊢
            exact ⟨hiF, hiT⟩
          have hstep := AllStepsJ.at hs ho (by rw [Nat.zero_add]; exact hiS)
          rw [Nat.zero_add] at hstep
          have hg := (hstep fuel vs w hw).pay fun e hee hb hf => hr e.on (getD_true (hdo e.on (List.mem_map.2 ⟨e, List.mem_filter.2 ⟨hee, hb⟩, rfl⟩))) hf
          have hnext := hstepped i o ho hfalse hiS hdo
          unfold wpOp
          have hop' : ops.toArray[i]? = some o := by simpa using ho
          rw [hop']
          simp only []
          split
          · rename_i hwt
            rw [if_pos hwt] at hg
            exact .inl (hg.wp fun v w' ⟨h1, h2, h3⟩ => hnext v w' h1 h2 h3)
          · rename_i hwt
            rw [if_neg hwt] at hg
            exact hnext undef w (hJS _ _ hw) hg (fun _ _ _ _ _ _ h => h)
  have hl0 : ∀ j, listed0[j]? = some true → F.contains j = true := by
    intro j hj
    rw [h0] at hj
    simp only [List.getElem?_toArray, List.getElem?_map] at hj
    by_cases hjl : j < ops.length
    · rw [List.getElem?_range hjl] at hj
      simpa using hj
    · rw [List.getElem?_eq_none (by simpa using hjl)] at hj
      simp at hj
  have hl1 : ∀ j, j < ops.length → F.contains j = true → listed0[j]? = some true := by
    intro j hj hjF
    rw [h0]
    simp only [List.getElem?_toArray, List.getElem?_map, List.getElem?_range hj, Option.map_some, hjF]
  obtain ⟨vs0, hvs0⟩ : ∃ vs0, putAll (F ++ T) ops 0 vs0 a0 = a0 := ⟨_, putAll_old _ _ _ _⟩
  have h1 := key fuel listed0 vs0 w0 (by rw [h0]; simp) hfuel.symm hJ0 hl1 ?_ ?_ ?_
  · rwa [hvs0] at h1
  · intro j hjT hj
    have := hl0 j hj
    rw [List.all_eq_true] at hFT
    have := hFT j (by simpa using this)
    rw [hjT] at this
    simp at this
  · intro i o ho hi j hj
    have hiF := hl0 i hi
    rw [List.all_eq_true] at hF
    have := hF i (by simpa using hiF)
    rw [ho] at this
    simp only [Option.map_some, Option.getD_some, List.all_eq_true] at this
    have hjF := this j hj
    have hjl : j < ops.length := by
      have h3 : (fun (o, i) => (depsOf o).all fun j => decide (j < i)) (o, i) = true :=
        List.all_eq_true.1 he (o, i) (by rw [List.mem_zipIdx_iff_getElem?]; exact ho)
      simp only [List.all_eq_true, decide_eq_true_eq] at h3
      have h4 := h3 j hj
      have : i < ops.length := (List.getElem?_eq_some_iff.1 ho).1
      omega
    rw [Array.getD_eq_getD_getElem?, hl1 j hjl hjF]
    rfl
  · intro j hj hjF
    rw [hl0 j hj] at hjF
    simp at hjF

/-- A REGION THAT DRAWS ITS ORDER: each operation but the tail's (T, in their one order) is proved by itself, of whatever world that has grown out of w0, from the guarantees of those that come ahead of it -/
theorem region_tailJ {P : Program} {Q : Exit → Act → World → Prop} {id : Nat} {ops : List Oper} {a0 : Act} {w0 : World} {J : Nat → World → Prop} (hJE : ∀ n w w', J n w → Ext w w' → J n w') (hJS : ∀ n w, J (n + 1) w → J n w) (hJ0 : J ops.length w0) (E T : List Nat) (R : Nat → Value → World → Prop)
    (hm : P.follows .mixedOrders = true) (hQ : ∀ c d v a w, Q (.panic c) (Act.put a d v) w → Q (.panic c) a w) (hok : (dstsOk ops && edgesOk ops && tailOk ops [] E T && forcedOk ops T (listedT ops.length T) && decide (T.length ≤ (listedT ops.length T).toList.count false) && Region.noSelect ops.toArray && freeOk ops E && E.all (fun i => !([] ++ T).contains i)) = true)
    (hR : ∀ i v w w', R i v w → Ext w w' → R i v w')
    (hEs : ∀ i o, E.contains i = true → ops[i]? = some o → EStepJ P ops [] T R a0 J i o)
    (hs : AllStepsJ P ops [] T R a0 J 0 ops)
    (hend : ∀ n vs w, J n w → (∀ i, i < ops.length → T.contains i = false → R i (vs i) w) → wpList P ops.toArray Q (T.filterMap fun t => ops[t]?) (putAll T ops 0 vs a0) w) :
    (Code.region id ops.toArray true).wp P Q a0 w0 := by
  simp only [Bool.and_eq_true, decide_eq_true_eq] at hok
  obtain ⟨⟨⟨⟨⟨⟨⟨h1, h2⟩, h3⟩, h4⟩, h5⟩, h6⟩, h7⟩, h8⟩ := hok
  refine wp_region_any hm ?_
  have hE : Ext w0 { w0 with drawn := w0.drawn + 1 } := ⟨rfl, rfl, rfl, Nat.le_refl _, fun _ _ => rfl⟩
  refine mono_fromJ hJE hJS [] E T R hR h1 h2 h3 h6 h7 h8 hQ hEs (by simp) hs (by
    apply Array.ext_getElem?
    intro j
    by_cases hj : j < ops.length <;> simp [hj]) (by simp) (hJE _ _ _ (by simpa using hJ0) hE) (by simp) ?_
  intro n vs w hw hr
  exact wpAny_forced T _ _ _ h4 (hend n vs w hw hr) _ h5
/-! ### the same, each operation from what its operands hold -/
inductive StepsLJ (P : Program) (ops : List Oper) (E T : List Nat) (L : List SP) (a0 : Act) (J : Nat → World → Prop) : Nat → List Oper → Prop
  | nil {i : Nat} : StepsLJ P ops E T L a0 J i []
  | skip {i : Nat} {o : Oper} {os : List Oper} (h : T.contains i = true) (r : StepsLJ P ops E T L a0 J (i + 1) os) : StepsLJ P ops E T L a0 J i (o :: os)
  | free {i : Nat} {o : Oper} {os : List Oper} (h : FreeJ P ops T L a0 J i o) (r : StepsLJ P ops E T L a0 J (i + 1) os) : StepsLJ P ops E T L a0 J i (o :: os)
  | keep {i : Nat} {o : Oper} {os : List Oper} (h : KeepJ P ops T L a0 J i o) (r : StepsLJ P ops E T L a0 J (i + 1) os) (hn : E.contains i = false := by rfl) : StepsLJ P ops E T L a0 J i (o :: os)
  | cons {i : Nat} {o : Oper} {os : List Oper} (h : StepJ P ops T L a0 J i o) (r : StepsLJ P ops E T L a0 J (i + 1) os) (hn : E.contains i = false := by rfl) : StepsLJ P ops E T L a0 J i (o :: os)

theorem StepsLJ.all {P : Program} {ops : List Oper} {E T : List Nat} {L : List SP} {a0 : Act} {J : Nat → World → Prop} (hJE : ∀ n w w', J n w → Ext w w' → J n w') (hJS : ∀ n w, J (n + 1) w → J n w) (hb : ∀ o ∈ ops, ∀ d, o.dst = some d → d < a0.tmps.size) {i : Nat} {os : List Oper} (hsub : ∀ o ∈ os, o ∈ ops) (h : StepsLJ P ops E T L a0 J i os) :
    AllStepsJ P ops [] T (SP.at L) a0 J i os := by
  induction h with
  | nil => exact trivial
  | skip hc _ ih =>
    unfold AllStepsJ
    rw [List.nil_append, hc]
    exact ih fun o ho => hsub o (List.mem_cons_of_mem _ ho)
  | @free i o os h _ ih =>
    have ih' := ih fun o ho => hsub o (List.mem_cons_of_mem _ ho)
    unfold AllStepsJ
    cases hc : ([] ++ T).contains i with
    | true => exact ih'
    | false =>
      refine ⟨fun n vs w hw => ?_, ih'⟩
      refine (h.2 n vs w hw).map fun ⟨v, h1, h2⟩ => ?_
      have he : (putAll ([] ++ T) ops 0 vs a0).eval = look T ops vs a0 := funext fun x => look_eq hb x
      have hwt : wantedL ops (look T ops vs a0) o = true := by unfold wantedL; rw [h.1]
      rw [wantedL_eq, he, if_pos hwt]
      unfold Gives
      rw [he, h1 w]
      exact ⟨hJS _ _ hw, h2, fun _ _ _ _ _ _ h => h⟩
  | @keep i o os h _ _ ih =>
    have ih' := ih fun o ho => hsub o (List.mem_cons_of_mem _ ho)
    unfold AllStepsJ
    cases hc : ([] ++ T).contains i with
    | true => exact ih'
    | false =>
      refine ⟨fun n vs w hw => ?_, ih'⟩
      refine (h.2 n vs w hw).map fun hg => ?_
      have he : (putAll ([] ++ T) ops 0 vs a0).eval = look T ops vs a0 := funext fun x => look_eq hb x
      have hwt : wantedL ops (look T ops vs a0) o = true := by unfold wantedL; rw [h.1]
      rw [wantedL_eq, he, if_pos hwt]
      unfold Gives
      rw [he]
      exact hg
  | @cons i o os h _ _ ih =>
    have ih' := ih fun o ho => hsub o (List.mem_cons_of_mem _ ho)
    unfold AllStepsJ
    cases hc : ([] ++ T).contains i with
    | true => exact ih'
    | false =>
      refine ⟨fun n vs w hw => ?_, ih'⟩
      refine (h n vs w hw).map fun ⟨h1, h2⟩ => ?_
      have he : (putAll ([] ++ T) ops 0 vs a0).eval = look T ops vs a0 := funext fun x => look_eq hb x
      rw [wantedL_eq, he]
      split
      · rename_i hw'
        unfold Gives
        rw [he]
        exact GivesR.imp (fun v w' ⟨k1, k2⟩ => ⟨hJS _ _ (hJE _ _ _ hw k1), k2, fun j _ u _ _ _ hR => (L.getD j SP.any).st u _ _ hR k1⟩) (h1 hw')
      · rename_i hw'
        exact h2 (by simpa using hw')

theorem StepsLJ.eager {P : Program} {ops : List Oper} {E T : List Nat} {L : List SP} {a0 : Act} {J : Nat → World → Prop} (hb : ∀ o ∈ ops, ∀ d, o.dst = some d → d < a0.tmps.size) {i0 : Nat} {os : List Oper} (h : StepsLJ P ops E T L a0 J i0 os) :
    ∀ j o, os[j]? = some o → E.contains (i0 + j) = true → T.contains (i0 + j) = false → EStepJ P ops [] T (SP.at L) a0 J (i0 + j) o := by
  induction h with
  | nil => intro j o h; simp at h
  | @skip i o' os hc _ ih =>
    intro j o hj hE hT
    cases j with
    | zero => rw [Nat.add_zero, hc] at hT; simp at hT
    | succ j =>
      have e : i + 1 + j = i + (j + 1) := by omega
      have := ih j o (by simpa using hj)
      rw [e] at this
      exact this hE hT
  | @free i o' os h _ ih =>
    intro j o hj hE hT
    cases j with
    | zero =>
      simp at hj
      subst hj
      intro n vs w hw
      refine (h.2 n vs w hw).map fun ⟨v, h1, h2⟩ => ⟨v, ?_, h2⟩
      have he : (putAll ([] ++ T) ops 0 vs a0).eval = look T ops vs a0 := funext fun x => look_eq hb x
      refine Or.inl ⟨?_, fun w' => by rw [he]; exact h1 w'⟩
      unfold Region.wanted
      rw [h.1]
    | succ j =>
      have e : i + 1 + j = i + (j + 1) := by omega
      have := ih j o (by simpa using hj)
      rw [e] at this
      exact this hE hT
  | @keep i o' os h _ hn ih =>
    intro j o hj hE hT
    cases j with
    | zero => rw [Nat.add_zero, hn] at hE; simp at hE
    | succ j =>
      have e : i + 1 + j = i + (j + 1) := by omega
      have := ih j o (by simpa using hj)
      rw [e] at this
      exact this hE hT
  | @cons i o' os h _ hn ih =>
    intro j o hj hE hT
    cases j with
    | zero => rw [Nat.add_zero, hn] at hE; simp at hE
    | succ j =>
      have e : i + 1 + j = i + (j + 1) := by omega
      have := ih j o (by simpa using hj)
      rw [e] at this
      exact this hE hT

/-- A REGION THAT DRAWS ITS ORDER, operation by operation (T: its tail, in its one order; L: what is said of each operation's yield) -/
theorem region_spJ {P : Program} {Q : Exit → Act → World → Prop} {id : Nat} {ops : List Oper} {a0 : Act} {w0 : World} (J : Nat → World → Prop) (hJE : ∀ n w w', J n w → Ext w w' → J n w') (hJS : ∀ n w, J (n + 1) w → J n w) (hJ0 : J ops.length w0) (E T : List Nat) (L : List SP)
    (hm : P.follows .mixedOrders = true) (hQ : ∀ c d v a w, Q (.panic c) (Act.put a d v) w → Q (.panic c) a w) (hok : (dstsOk ops && edgesOk ops && tailOk ops [] E T && forcedOk ops T (listedT ops.length T) && decide (T.length ≤ (listedT ops.length T).toList.count false) && Region.noSelect ops.toArray && freeOk ops E && E.all (fun i => !([] ++ T).contains i)) = true)
    (hb : boundsOk ops a0.tmps.size = true)
    (hs : StepsLJ P ops E T L a0 J 0 ops)
    (hend : ∀ n vs w, J n w → (∀ i, i < ops.length → T.contains i = false → SP.at L i (vs i) w) → wpList P ops.toArray Q (T.filterMap fun t => ops[t]?) (putAll T ops 0 vs a0) w) :
    (Code.region id ops.toArray true).wp P Q a0 w0 := by
  have hb' : ∀ o ∈ ops, ∀ d, o.dst = some d → d < a0.tmps.size := by
    intro o ho d hd
    have := List.all_eq_true.1 hb o ho
    rw [hd] at this
    simpa using this
  refine region_tailJ hJE hJS hJ0 E T (SP.at L) hm hQ hok (fun i v w w' h hE => (L.getD i SP.any).st v w w' h hE) ?_ (StepsLJ.all hJE hJS hb' (fun _ h => h) hs) hend
  intro i o hiE ho
  have h8 : E.all (fun i => !([] ++ T).contains i) = true := by
    simp only [Bool.and_eq_true] at hok
    exact hok.2
  have hiT : T.contains i = false := by
    have := List.all_eq_true.1 h8 i (by simpa using hiE)
    simpa using this
  have := StepsLJ.eager hb' hs i o ho
  rw [Nat.zero_add] at this
  exact this hiE hiT

end Go.Proofs.YtajkepdfemdagaaGreatDoor
