/- The contract of slices.Delete at []Letter, one element. -/
import Derived.Test.YthnachjkjhclpaaNetOps
import Derived.Lib.SliceRun
import Derived.Lib.ReflectliteSwap
namespace Go.Proofs.Ythnachjkjhclpaa
open Go.RowKit
set_option linter.unusedVariables false
set_option linter.unusedSimpArgs false

theorem info_of {P : Program} {e : TypeId} {z : Option Value} {sz bytes : Nat} (h : (P.info? e).map (fun i => (i.zero, i.size, i.bytes)) = some (z, sz, bytes)) : ∃ i, P.info? e = some i ∧ i.size = sz := by
  cases h' : P.info? e with
  | none => rw [h'] at h; simp at h
  | some i => rw [h'] at h; simp at h; exact ⟨i, rfl, h.2.1⟩

theorem setCells_row (P : Program) (w : World) (g o : Nat) (t : TypeId) (vs : List Value) (cur : Array Value) (hg : w.heap[g]? = some (.cells cur t (0, 0))) (hl : o + vs.length ≤ cur.size) (h1 : ∀ v ∈ vs, v.oneCell' = true) :
    w.setCells g o vs = w.setRow g (cur.toList.take o ++ vs ++ cur.toList.drop (o + vs.length)).toArray := by
  have a := run_storeCells_at P g o t vs 0 cur w hg (by simpa using hl) h1
  have b := run_storeCells_cells (P := P) g o vs 0 w (fun j hj => by
    rw [cell_of_row _ _ _ _ _ _ hg, Nat.add_zero, Array.getElem?_eq_getElem (by omega)]; rfl) (fun j hj => frozen_of_row w g _ _ _ hg) h1
  rw [a] at b
  simp only [Nat.add_zero, Result.ok.injEq, true_and] at b
  exact b.symm

theorem fr_setRow (w : World) (g : Nat) (cs : Array Value) : Fr w (w.setRow g cs) (fun b => b = g) := by
  refine ⟨rfl, rfl, rfl, by simp [World.setRow], fun b hb hne => ?_⟩
  have hne' : ¬ g = b := fun e => hne e.symm
  simp [World.setRow, Array.getElem?_modify, hne']

theorem Try.zero27 (w : World) : (zeroValue 27).run Try.prog w = .ok (.agg #[.int .i64 0, .int .i64 0, .slice none 0 0]) w := by kernel_rfl

theorem run_clear_letter (w : World) (ty : TypeId) (b o c : Nat) (hc : ∀ j, j < 3 → (w.cell? ⟨b, o + j, none⟩).isSome = true) (hf : ∀ j, w.frozen? ⟨b, j, none⟩ = false) :
    (Builtin.clear_ #[34] ty #[.slice (some ⟨b, o, none⟩) 1 c]).run Try.prog w = .ok (.tuple #[]) (w.setCells b o [.int .i64 0, .int .i64 0, .slice none 0 0]) := by
  have hst := run_storeCells_cells (P := Try.prog) b o [.int .i64 0, .int .i64 0, .slice none 0 0] 0 w (by simpa using hc) (by intro j _; exact hf _) (by simp [Value.oneCell'])
  simp only [Nat.add_zero] at hst
  have hzc : (Builtin.zeroCells (Value.agg #[.int .i64 0, .int .i64 0, .slice none 0 0]).cells 1).toList = [.int .i64 0, .int .i64 0, .slice none 0 0] := by kernel_rfl
  simp [Builtin.clear_, run_underlying Try.underlying34, Try.zero27, hzc, hst]

/-- What a deletion leaves. -/
def DelPost (w : World) (g n cap k : Nat) (xs : List Value) (e : Ending) (w' : World) : Prop :=
  e = .returned (.slice (some ⟨g, 0, none⟩) (n - 1) cap) ∧ Fr w w' (fun b => b = g) ∧
    ∃ cur', w'.heap[g]? = some (.cells cur' 27 (0, 0)) ∧ cur'.size = cap * 3 ∧ cur'.toList.take ((n - 1) * 3) = xs.take (k * 3) ++ xs.drop ((k + 1) * 3)

theorem del_done (P : Program) (g n cap k : Nat) (xs : List Value) (cur : Array Value) (w : World) (hg : w.heap[g]? = some (.cells cur 27 (0, 0))) (hk : k < n) (hnc : n ≤ cap) (hcs : cur.size = cap * 3) (hx : cur.toList.take (n * 3) = xs) (hl : xs.length = n * 3) (h1 : ∀ u ∈ xs, u.oneCell' = true) :
    DelPost w g n cap k xs (.returned (.slice (some ⟨g, 0, none⟩) (n - 1) cap)) ((w.drew.setCells g (k * 3) (xs.drop ((k + 1) * 3))).setCells g ((n - 1) * 3) [.int .i64 0, .int .i64 0, .slice none 0 0]) := by
  have hd : (xs.drop ((k + 1) * 3)).length = (n - 1 - k) * 3 := by rw [List.length_drop, hl]; omega
  have e1 := setCells_row P w.drew g (k * 3) 27 (xs.drop ((k + 1) * 3)) cur hg (by rw [hd, hcs]; omega) (fun u hu => h1 u (List.mem_of_mem_drop hu))
  have g1 : (w.drew.setRow g (cur.toList.take (k * 3) ++ xs.drop ((k + 1) * 3) ++ cur.toList.drop (k * 3 + (xs.drop ((k + 1) * 3)).length)).toArray).heap[g]? = some (.cells (cur.toList.take (k * 3) ++ xs.drop ((k + 1) * 3) ++ cur.toList.drop (k * 3 + (xs.drop ((k + 1) * 3)).length)).toArray 27 (0, 0)) := setRow_heap w.drew g cur _ 27 _ hg
  rw [hd] at e1 g1
  have hs1 : (cur.toList.take (k * 3) ++ xs.drop ((k + 1) * 3) ++ cur.toList.drop (k * 3 + (n - 1 - k) * 3)).toArray.size = cap * 3 := by
    simp [hl, hcs]; omega
  have hxk : cur.toList.take (k * 3) = xs.take (k * 3) := by rw [← hx, List.take_take]; congr 1; omega
  have hlen : (xs.take (k * 3) ++ xs.drop ((k + 1) * 3)).length = (n - 1) * 3 := by simp [hl]; omega
  have ht1 : (cur.toList.take (k * 3) ++ xs.drop ((k + 1) * 3) ++ cur.toList.drop (k * 3 + (n - 1 - k) * 3)).toArray.toList.take ((n - 1) * 3) = xs.take (k * 3) ++ xs.drop ((k + 1) * 3) := by
    rw [List.toList_toArray, hxk, List.take_append_of_le_length (by omega), List.take_of_length_le (by omega)]
  rw [e1]
  clear e1
  revert g1 hs1 ht1
  generalize (cur.toList.take (k * 3) ++ xs.drop ((k + 1) * 3) ++ cur.toList.drop (k * 3 + (n - 1 - k) * 3)).toArray = c1
  intro g1 hs1 ht1
  obtain ⟨z, hz⟩ : ∃ z : List Value, z = [.int .i64 0, .int .i64 0, .slice none 0 0] := ⟨_, rfl⟩
  have hz3 : z.length = 3 := by rw [hz]; rfl
  have e2 := setCells_row P _ g ((n - 1) * 3) 27 z _ g1 (by rw [hs1, hz3]; omega) (by rw [hz]; simp [Value.oneCell'])
  have g2 := setRow_heap _ g _ (c1.toList.take ((n - 1) * 3) ++ z ++ c1.toList.drop ((n - 1) * 3 + z.length)).toArray 27 _ g1
  rw [← hz, e2]
  refine ⟨rfl, ?_, _, g2, ?_, ?_⟩
  · exact ((Fr.drew w).trans ((fr_setRow _ g _).trans (fr_setRow _ g _))).mono (by simp)
  · simp [hs1, hz3]; omega
  · rw [List.toList_toArray, List.append_assoc, List.take_append_of_le_length (by simp [hs1]; omega), List.take_take, Nat.min_self, ht1]

set_option maxRecDepth 100000 in
set_option maxHeartbeats 1600000 in
theorem delete_any (g n cap k : Nat) (xs : List Value) (cur : Array Value) (w : World) (hg : w.heap[g]? = some (.cells cur 27 (0, 0))) (hk : k < n) (hnc : n ≤ cap) (hcm : cap ≤ maxLen) (hcs : cur.size = cap * 3) (hx : cur.toList.take (n * 3) = xs) (hl : xs.length = n * 3) (h1 : ∀ u ∈ xs, u.oneCell' = true) :
    Calls Try.prog 24 #[.slice (some ⟨g, 0, none⟩) n cap, .int .i64 (k : Int), .int .i64 ((k : Int) + 1)] w (DelPost w g n cap k xs) := by
  have HD := Lib.hid (del_done Try.prog g n cap k xs cur w hg hk hnc hcs hx hl h1)
  obtain ⟨news, hnews⟩ : ∃ news, news = xs.drop ((k + 1) * 3) := ⟨_, rfl⟩
  have hlen : news.length = (n - (k + 1)) * 3 := by rw [hnews]; simp [hl]; omega
  obtain ⟨i27, hi27, hs27⟩ := info_of Try.info27
  have hcell : ∀ j, j < n * 3 → w.drew.cell? ⟨g, j, none⟩ = xs[j]? := by
    intro j hj
    show w.cell? ⟨g, j, none⟩ = _
    rw [cell_of_row _ _ _ _ _ _ hg, ← hx, List.getElem?_take_of_lt hj, Array.getElem?_toList]
  obtain ⟨A, hA, hsrc⟩ : ∃ A : Addr, (if cap = k + 1 then (some ⟨g, 0, none⟩ : Option Addr) else some ⟨g, (k + 1) * 3, none⟩) = some A ∧ Hid (∀ t u, news[t]? = some u → w.drew.cell? (A.add t) = some u) := by
    by_cases h : cap = k + 1
    · refine ⟨⟨g, 0, none⟩, by simp [h], fun t u hu => ?_⟩
      have h0 : news.length = 0 := by rw [hlen, show n - (k + 1) = 0 by omega]
      rw [List.length_eq_zero_iff.1 h0] at hu
      simp at hu
    · refine ⟨⟨g, (k + 1) * 3, none⟩, by simp [h], fun t u hu => ?_⟩
      have ht : t < news.length := (List.getElem?_eq_some_iff.1 hu).1
      rw [hnews, List.getElem?_drop] at hu
      rw [Addr.add_lit, hcell _ (by omega)]
      exact hu
  have s1 : Hid (news.length = (n - (k + 1)) * 3) := hlen
  have s2 : Hid (∀ u ∈ news, u.oneCell' = true) := fun u hu => h1 u (by rw [hnews] at hu; exact List.mem_of_mem_drop hu)
  have s3 : Hid (∀ t, t < news.length → (w.drew.cell? ⟨g, 0 + k * 3 + t, none⟩).isSome = true ∧ w.drew.frozen? ⟨g, 0 + k * 3 + t, none⟩ = false) := by
    intro t ht
    refine ⟨?_, frozen_of_row w g _ _ _ hg⟩
    rw [hcell _ (by omega), List.getElem?_eq_getElem (by omega)]; rfl
  obtain ⟨W1, hW1⟩ : ∃ W1, W1 = w.drew.setCells g (0 + k * 3) news := ⟨_, rfl⟩
  have hW : Hid (W1 = w.drew.setCells g (0 + k * 3) news) := hW1
  have hcl : ∀ ty, (Builtin.clear_ #[34] ty #[.slice (some ⟨g, (n - 1) * 3, none⟩) 1 (cap - (n - 1))]).run Try.prog W1 = .ok (.tuple #[]) (W1.setCells g ((n - 1) * 3) [.int .i64 0, .int .i64 0, .slice none 0 0]) := by
    intro ty
    refine run_clear_letter W1 ty g _ _ ?_ ?_
    · intro j hj
      rw [hW1]
      refine Lib.isSome_setCells g _ _ _ _ ?_
      rw [hcell _ (by omega), List.getElem?_eq_getElem (by omega)]; rfl
    · intro j
      rw [hW1, World.frozen?_setCells]
      exact frozen_of_row w g _ _ _ hg
  have HC := Lib.hid hcl
  clear hcl
  have t0 : (((k : Int)) == (k : Int) + 1) = false := by simp; omega
  have hm63 : (cap : Int) ≤ 140737488355328 * 1000000 := by unfold maxLen at hcm; omega
  have i0 : 0 ≤ (k : Int) + 1 := by omega
  have i1 : (k : Int) + 1 ≤ (n : Int) := by omega
  have hkc : k ≤ cap := by omega
  have hk1 : k + 1 ≤ cap := by omega
  clear hW1 hcell hx hl h1 hlen hcs hg
  have HN := Lib.hid hnews
  clear hnews
  go_enter Try.func24, Try.ntmps24
  go_wp2_with fail
  go_region_law (refine step_append_room rfl (.tmp 22) (.tmp 25) 34 rfl 27 i27 3 Try.underlying34 hi27 hs27 g 0 k cap (by simp [Act.eval, Act.put]) A (n - (k + 1)) (cap - (k + 1)) news (by simp [Act.eval, Act.put]; try exact hA) s1.out hsrc.out s2.out (by omega) s3.out ?_; rw [← hW.out])
  have hcl : ∀ ty, (Builtin.clear_ #[34] ty #[.slice (some ⟨g, (k + (n - (k + 1))) * 3, none⟩) (n - (k + (n - (k + 1)))) (cap - (k + (n - (k + 1))))]).run Try.prog W1 = .ok (.tuple #[]) (W1.setCells g ((k + (n - (k + 1))) * 3) [.int .i64 0, .int .i64 0, .slice none 0 0]) := by
    intro ty
    rw [show k + (n - (k + 1)) = n - 1 by omega, show n - (n - 1) = 1 by omega]; exact HC.out ty
  go_wp2
  go_ret
  have D := HD.out
  rw [← HN.out] at D
  rw [show w.drew.setCells g (k * 3) news = W1 by rw [hW.out, Nat.zero_add]] at D
  show DelPost w g n cap k xs (.returned (.slice (some ⟨g, 0, none⟩) (k + (n - (k + 1))) cap)) _
  rw [show k + (n - (k + 1)) = n - 1 by omega]
  exact D
end Go.Proofs.Ythnachjkjhclpaa
