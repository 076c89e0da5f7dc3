
/- An append to a list in new memory, inside a region that draws its order. -/
import Derived.Test.YtefnmfdmnoednaaMonoC
import Derived.Test.YtefnmfdmnoednaaRelLoop
import Derived.Maps.AppendAt
import Derived.ArgAppend
namespace Go.Proofs.Ytefnmfdmnoednaa
open Go.RowKit
set_option linter.unusedVariables false

/-- an append, and what was owned before is owned as it was -/
theorem run_append_keep {P : Program} (w : World) (t ty e : TypeId) (i : TypeInfo) (z : Value) (bytes : Nat) (ht : P.underlying t = some (.slice e)) (hi : P.info? e = some i) (hz : i.zero = some z)
    (hsize : i.size = 1) (hby : i.bytes = bytes) (hzs : z.cells.size = 1) (v : Value) (n : Nat) (xs : List Value) (hown : w.ownsRow 0 e 1 v n xs)
    (a : Addr) (m c : Nat) (news : List Value) (hl : news.length = m) (hnews : ∀ j u, news[j]? = some u → w.cell? (a.add j) = some u) (h1 : ∀ u ∈ news, u.oneCell' = true)
    (h63 : n + m ≤ maxLen) (hbytes : (n + m) * bytes ≤ 140737488355328) :
    ∃ v' w', (Builtin.append_ #[t, t] ty #[v, .slice (some a) m c]).run P w = .ok v' w' ∧ w'.ownsRow 0 e 1 v' (n + m) (xs ++ news) ∧ w.grownBy w' v.ownBlock ∧ (v'.ownBlock = v.ownBlock ∨ v'.ownBlock = some w.heap.size) ∧ w'.ownsRow 0 e 1 v n xs := by
  obtain ⟨v', w', hr, ho, hg, -, hat⟩ := run_append_own_at (P := P) w 0 t ty e i z 1 bytes ht hi hz hsize hby hzs (by omega) v n xs hown a m c news (by simpa using hl) hnews h1 h63 hbytes (Nat.zero_le _)
  refine ⟨v', w', hr, ho, hg, hat, ?_⟩
  have hown2 := hown
  obtain ⟨hlen, ⟨rfl, rfl⟩ | ⟨g, cap, cur, rfl, hb, hh, hn, hm, hs, htk⟩⟩ := hown
  · exact ⟨hlen, .inl ⟨rfl, rfl⟩⟩
  · by_cases hroom : n + m ≤ cap
    · have hcell : ∀ j, j < cap → (w.cell? ⟨g, 0 + j, none⟩).isSome = true := fun j hj => by
        have : j < cur.size := by omega
        simp [World.cell?, hh, this]
      have hr2 := run_append_room_cells (P := P) w t ty e i ht hi g 0 n cap a m c news (by rw [hsize]; omega) hnews h1 hroom (fun j hj => by rw [hsize]; have := hcell (n + j) (by omega); rwa [show 0 + n * 1 + j = 0 + (n + j) by omega]) (fun j hj => hown2.frozenAt _)
      rw [hr] at hr2
      simp only [Result.ok.injEq] at hr2
      obtain ⟨rfl, rfl⟩ := hr2
      obtain ⟨k1, ⟨k2, _⟩ | ⟨g', cap', cur', k2, k3, k4, k5, k6, k7, k8⟩⟩ := ho
      · simp at k2
      · simp only [Value.slice.injEq, Option.some.injEq, Addr.mk.injEq, and_true, true_and] at k2
        obtain ⟨rfl, rfl⟩ := k2
        refine ⟨hlen, .inr ⟨g, cap, cur', rfl, hb, k4, hn, hm, k7, ?_⟩⟩
        have hx : xs.length = n := by simpa using hlen
        have := congrArg (List.take (n * 1)) k8
        rw [List.take_take, Nat.min_eq_left (by omega), List.take_left' (by omega)] at this
        exact this
    · have holds : ∀ j u, xs[j]? = some u → w.cell? ((⟨g, 0, none⟩ : Addr).add j) = some u := hown2.cells (g := g) rfl
      have hr2 := run_append_grow (P := P) w t ty e i z ht hi hz ⟨g, 0, none⟩ n cap xs (by rw [hsize]; exact hlen) holds a m c news (by rw [hsize]; omega) hnews (by omega) (by unfold maxLen at h63; omega) (growslice_fits (by omega) (by rw [hby]; exact hbytes))
      rw [hr] at hr2
      simp only [Result.ok.injEq] at hr2
      obtain ⟨-, rfl⟩ := hr2
      refine own_kept hown2 fun k hk => ?_
      simp only [Value.ownBlock, Option.some.injEq] at hk
      subst hk
      have hlt : g < w.heap.size := (Array.getElem?_eq_some_iff.1 hh).1
      exact heap_alloc_old w.drew _ hlt

theorem infoI' : (Try.prog.info? 2).map (fun i => (i.zero, i.size, i.bytes)) = some (some (.int .i64 0), 1, 8) := by kernel_rfl
theorem GivesR.appendK {o : Oper} {ρ : Operand → Value} {w0 w : World} {s y : Operand} {l m : List Int} (hE : Ext w0 w) (hop : o.op = .call { callee := .builtin .append, args := #[s, y], argTypes := #[34, 34] })
    {xv yv : Value} (hxv : ρ s = xv) (hx : ∃ fp, OI w xv l fp ∧ ∀ g ∈ fp, w0.heap.size ≤ g) (hyv : ρ y = yv) (hy : RdI w yv m) (h0 : 0 < m.length) (hb : l.length + m.length ≤ 1048576) {S : Value → World → Prop}
    (hk : ∀ v' w', Ext w0 w' → (SP.ownIb w0.heap.size (l ++ m)).R v' w' → (∀ u, (SP.ownIb w0.heap.size l).R u w → (SP.ownIb w0.heap.size l).R u w') → (∀ u x, 0 < l.length → (SP.row1 x).R u w → (SP.row1 x).R u w') → S v' w') : GivesR Try.prog o ρ w S := by
  obtain ⟨dst, op, type, pos, after, guard⟩ := o
  subst hop
  subst hxv hyv
  obtain ⟨fp, ⟨ho, hfp⟩, hB⟩ := hx
  obtain ⟨a, b, off, c, hv, hlc, hcm, ha, hc⟩ := hy
  obtain rfl := ha h0
  obtain ⟨i0, hi, hz0, hz1, hz2⟩ := info_parts infoI'
  have hnews : ∀ (j : Nat) u, (m.map (Value.int .i64))[j]? = some u → w.cell? ((⟨b, off, none⟩ : Addr).add j) = some u := by
    intro j u hj
    rw [List.getElem?_map] at hj
    by_cases hjl : j < m.length
    · rw [List.getElem?_eq_getElem hjl] at hj
      simp at hj
      subst hj
      have := hc j hjl
      simp only [Addr.add]
      split
      · rename_i h0
        subst h0
        simpa using this
      · exact this
    · rw [List.getElem?_eq_none (by omega)] at hj
      simp at hj
  obtain ⟨v', w', hr, ho2, hg, hat, hkeep⟩ := run_append_keep (P := Try.prog) w 34 type 2 i0 (.int .i64 0) 8 Try.underlying34 hi hz0 hz1 hz2 rfl (ρ s) l.length (l.map (Value.int .i64)) ho ⟨b, off, none⟩ m.length c (m.map (Value.int .i64)) (by simp) hnews (by simp [Value.oneCell']) (by unfold maxLen; omega) (by omega)
  unfold GivesR
  have hrun : (execOp ρ { dst, op := .call { callee := .builtin .append, args := #[s, y], argTypes := #[34, 34] }, type, pos, after, guard }).run Try.prog w = .ok (.value v') w' := by
    unfold execOp
    simp only [resolve, invoke, builtin, Sem.run_bind, Sem.run_pure, Result.andThen_ok, List.map_toArray, List.map_cons, List.map_nil, hv, hr]
  rw [hrun]
  have hown : ∀ g, (ρ s).ownBlock = some g → w0.heap.size ≤ g := fun g hg' => hB g (by rw [hfp, hg']; simp)
  refine hk v' w' ?_ ?_ ?_ ?_
  · exact hE.grown hg hE.size hown
  · refine ⟨_, ⟨?_, rfl⟩, fun g hg' => ?_⟩
    · rw [List.map_append, List.length_append]
      exact ho2
    · rcases hat with h | h
      · exact hown g (by rw [← h]; simpa using hg')
      · rw [h] at hg'
        simp at hg'
        have := hE.size
        omega
  · rintro u ⟨fu, ⟨hu, hfu⟩, hBu⟩
    refine ⟨fu, ⟨?_, hfu⟩, hBu⟩
    by_cases hsame : u.ownBlock = (ρ s).ownBlock
    · have : u = ρ s := by
        rcases hu.2 with ⟨h1, h2⟩ | ⟨g, cap, cur, h1, _, h3, _, _, h6, _⟩
        · rcases ho.2 with ⟨k1, k2⟩ | ⟨g', cap', cur', k1, _⟩
          · rw [h1, k1]
          · rw [h1, k1] at hsame
            simp [Value.ownBlock] at hsame
        · rcases ho.2 with ⟨k1, k2⟩ | ⟨g', cap', cur', k1, _, k3, _, _, k6, _⟩
          · rw [h1, k1] at hsame
            simp [Value.ownBlock] at hsame
          · rw [h1, k1] at hsame
            simp only [Value.ownBlock, Option.some.injEq] at hsame
            subst hsame
            rw [h3] at k3
            simp only [Option.some.injEq, Obj.cells.injEq] at k3
            obtain ⟨rfl, -⟩ := k3
            rw [h1, k1, show cap = cap' by omega]
      rw [this]
      exact hkeep
    · exact own_kept hu fun g hg' => hg.block g (own_lt hu g hg') (fun hh => hsame (by rw [hg', hh]))
  · rintro u x h0 ⟨b1, h1, h2⟩
    refine ⟨b1, h1, ?_⟩
    by_cases hb1 : (ρ s).ownBlock = some b1
    · have hx : (l.map (Value.int .i64))[0]? = some (.int .i64 l[0]) := by simp [h0]
      have k1 := ho.cells hb1 0 _ hx
      have k2 := hkeep.cells hb1 0 _ hx
      simp [Addr.add] at k1 k2
      rw [k1] at h2
      rw [k2, h2]
    · exact hg.cell h2 fun hh => hb1 hh.symm
theorem rdI_of_row1 {w : World} {v : Value} {x : Int} (h : (SP.row1 (.int .i64 x)).R v w) : RdI w v [x] := by
  obtain ⟨b, rfl, h2⟩ := h
  refine ⟨_, b, 0, 1, rfl, by simp, by simp, fun _ => rfl, fun k hk => ?_⟩
  have : k = 0 := by simpa using hk
  subst this
  simpa using h2
end Go.Proofs.Ytefnmfdmnoednaa
