/- The contracts of package net's operations: how many, a place, a letter, one less. -/
import Derived.Test.YthnachjkjhclpaaNetBase
import Derived.Lib.SliceRun
namespace Go.Proofs.Ythnachjkjhclpaa
open Go.RowKit
set_option linter.unusedVariables false
set_option linter.unusedSimpArgs false

theorem NetAt.cell {w : World} {B base : Nat} {p : Option Addr} {n cap : Nat} {ls : List Lt} (h : NetAt w B base p n cap ls) : w.cell? ⟨B, 0, none⟩ = some (.slice p n cap) := by rw [cell_of_row w B _ _ _ _ h.cells]; rfl

set_option maxHeartbeats 400000 in
theorem count_any (B : Nat) (p : Option Addr) (n cap : Nat) (w : World) (c0 : w.cell? ⟨B, 0, none⟩ = some (.slice p n cap)) :
    Calls Try.prog 11 #[.pointer (some ⟨B, 0, none⟩)] w fun e w' => e = .returned (.int .i64 n) ∧ w = w' := by
  go_enter Try.func11, Try.ntmps11
  go_wp2
  go_ret
  exact ⟨rfl, rfl⟩

set_option maxHeartbeats 400000 in
theorem place_none (B : Nat) (p : Option Addr) (cap : Nat) (i : Int) (w : World) (c0 : w.cell? ⟨B, 0, none⟩ = some (.slice p 0 cap)) :
    Calls Try.prog 23 #[.pointer (some ⟨B, 0, none⟩), .int .i64 i] w fun e w' => e = .returned (.int .i64 (-1)) ∧ w = w' := by
  go_enter Try.func23, Try.ntmps23
  go_wp2
  go_ret
  exact ⟨rfl, rfl⟩

/-- A number's place among n > 0 letters. -/
def placeOf (i : Int) (n : Nat) : Nat := (max i 0).toNat % n
theorem placeOf_lt (i : Int) {n : Nat} (h : 0 < n) : placeOf i n < n := Nat.mod_lt _ h

set_option maxHeartbeats 800000 in
theorem place_some (B : Nat) (p : Option Addr) (n cap : Nat) (hn : 0 < n) (i : Int) (w : World) (c0 : w.cell? ⟨B, 0, none⟩ = some (.slice p n cap)) :
    Calls Try.prog 23 #[.pointer (some ⟨B, 0, none⟩), .int .i64 i] w fun e w' => e = .returned (.int .i64 (placeOf i n)) ∧ w = w' := by
  have e0 : ((n : Int) == 0) = false := by simp; omega
  have hne : ¬ ((n : Int) = 0) := by omega
  by_cases h : 0 ≤ i
  · obtain ⟨k, rfl⟩ := Int.eq_ofNat_of_zero_le h
    have hp : placeOf (k : Int) n = k % n := by
      unfold placeOf; rw [Int.max_eq_left (by omega)]; simp
    have H := Lib.hid hp
    clear hp
    go_enter Try.func23, Try.ntmps23
    go_wp2
    go_ret
    refine ⟨?_, rfl⟩
    rw [H.out]; simp
  · have hp : placeOf i n = 0 := by
      unfold placeOf; rw [Int.max_eq_right (by omega)]; simp
    have H := Lib.hid hp
    clear hp
    go_enter Try.func23, Try.ntmps23
    go_wp2
    go_ret
    refine ⟨?_, rfl⟩
    rw [H.out]; rfl

set_option maxHeartbeats 400000 in
theorem at_none (B : Nat) (p : Option Addr) (cap : Nat) (i : Int) (w : World) (c0 : w.cell? ⟨B, 0, none⟩ = some (.slice p 0 cap)) :
    Calls Try.prog 13 #[.pointer (some ⟨B, 0, none⟩), .int .i64 i] w fun e w' => e = .returned (.tuple #[.agg #[.int .i64 0, .int .i64 0, .slice none 0 0], .bool false]) ∧ Below w.heap.size w w' := by
  have hBlt : B < w.heap.size := block_lt_of_cell c0
  have c1 := (Fr.alloc w (.cells #[.int .i64 0, .int .i64 0, .slice none 0 0] 27)).cell c0 (fun h => h)
  have K := Lib.hid (place_none B p cap i (w.alloc (.cells #[.int .i64 0, .int .i64 0, .slice none 0 0] 27)) c1)
  go_enter Try.func13, Try.ntmps13
  go_wp2_with fail
  refine K.out.mono ?_
  rintro e w' ⟨rfl, rfl⟩
  go_wp2
  refine bodyPost_ret (v := .tuple #[.agg #[.int .i64 0, .int .i64 0, .slice none 0 0], .bool false]) (by simp [results, Try.results13, go_sem]) rfl ⟨rfl, below_alloc _ _⟩

theorem flatMap_len (ls : List Lt) : (ls.flatMap Lt.cells).length = ls.length * 3 := by
  induction ls with
  | nil => rfl
  | cons a t ih => simp [List.flatMap_cons, ih, Lt.cells]; omega
theorem flatMap_get : ∀ (ls : List Lt) (k : Nat) (l : Lt), ls[k]? = some l → (ls.flatMap Lt.cells)[k * 3]? = some (.int .i64 l.f) ∧ (ls.flatMap Lt.cells)[k * 3 + 1]? = some (.int .i64 l.t) ∧ (ls.flatMap Lt.cells)[k * 3 + 2]? = some (.slice l.q l.m l.c)
  | [], k, l, h => by simp at h
  | a :: t, 0, l, h => by
    simp at h; subst h
    exact ⟨rfl, rfl, rfl⟩
  | a :: t, k + 1, l, h => by
    have := flatMap_get t k l (by simpa using h)
    rw [List.flatMap_cons]
    rw [List.getElem?_append_right (by simp [Lt.cells]; omega), List.getElem?_append_right (by simp [Lt.cells]; omega), List.getElem?_append_right (by simp [Lt.cells]; omega)]
    rw [show (k + 1) * 3 - a.cells.length = k * 3 by simp [Lt.cells]; omega, show (k + 1) * 3 + 1 - a.cells.length = k * 3 + 1 by simp [Lt.cells]; omega, show (k + 1) * 3 + 2 - a.cells.length = k * 3 + 2 by simp [Lt.cells]; omega]
    exact this

/-- The row's block, and its cells. -/
theorem NetAt.block {w : World} {B base : Nat} {p : Option Addr} {n cap : Nat} {ls : List Lt} (h : NetAt w B base p n cap ls) (hn : 0 < n) :
    ∃ g cur, p = some ⟨g, 0, none⟩ ∧ base ≤ g ∧ w.heap[g]? = some (.cells cur 27 (0, 0)) ∧ n ≤ cap ∧ cap ≤ maxLen ∧ cur.size = cap * 3 ∧ cur.toList.take (n * 3) = ls.flatMap Lt.cells := by
  rcases h.row.2 with ⟨_, h0⟩ | ⟨g, cap', cur, h', hb, hg, h1, h2, h3, h4⟩
  · omega
  · simp only [Value.slice.injEq, true_and] at h'
    obtain ⟨rfl, rfl⟩ := h'
    exact ⟨g, cur, rfl, hb, hg, h1, h2, h3, h4⟩

/-- A copy of a letter is answered. -/
def AtPost (w : World) (l : Lt) (e : Ending) (w' : World) : Prop :=
  ∃ q' c', e = .returned (.tuple #[Lt.val ⟨l.f, l.t, q', l.m, c', l.bs⟩, .bool true]) ∧ Own w' w.heap.size q' l.m c' l.bs ∧ Below w.heap.size w w'

theorem Own.lok {w : World} {base : Nat} {l : Lt} (h : Own w base l.q l.m l.c l.bs) : l.Ok w := by
  refine ⟨h.src, fun e => ⟨?_, h.capnil e⟩⟩
  rcases h.cases with ⟨_, h1, _⟩ | ⟨g, _, h1, _⟩
  · exact h1
  · rw [e] at h1; cases h1

set_option maxHeartbeats 1600000 in
theorem at_some (B base : Nat) (p : Option Addr) (n cap : Nat) (ls : List Lt) (hn : 0 < n) (i : Int) (w : World) (h : NetAt w B base p n cap ls) (l : Lt) (hl : ls[placeOf i n]? = some l) (hm : l.m ≤ 140737488355328) :
    Calls Try.prog 13 #[.pointer (some ⟨B, 0, none⟩), .int .i64 i] w (AtPost w l) := by
  have c0 := h.cell
  have hBlt : B < w.heap.size := block_lt_of_cell c0
  have F := Fr.alloc w (.cells #[.int .i64 0, .int .i64 0, .slice none 0 0] 27)
  have c1 := F.cell c0 (fun h => h)
  have K := Lib.hid (place_some B p n cap hn i _ c1)
  have hk := placeOf_lt i hn
  obtain ⟨g, cur, rfl, hb, hg, hnc, hcm, hcs, htk⟩ := h.block hn
  obtain ⟨e0, e1, e2⟩ := flatMap_get ls _ l hl
  have hmem := List.mem_of_getElem? hl
  have ho := h.own l hmem
  revert K e0 e1 e2 hk
  generalize placeOf i n = k
  intro K hk e0 e1 e2
  have hx : ∀ j, j < 3 → (w.alloc (.cells #[.int .i64 0, .int .i64 0, .slice none 0 0] 27)).cell? ⟨g, k * 3 + j, none⟩ = (ls.flatMap Lt.cells)[k * 3 + j]? := by
    intro j hj
    rw [cell_of_row _ _ _ _ _ _ (F.heap hg (fun h => h)), ← htk, List.getElem?_take_of_lt (by omega), Array.getElem?_toList]
  have d0 := (hx 0 (by omega)).trans e0
  have d1 := (hx 1 (by omega)).trans e1
  have d2 := (hx 2 (by omega)).trans e2
  simp only [Nat.add_zero] at d0
  have hglt : g < w.heap.size := (Array.getElem?_eq_some_iff.1 hg).1
  have K2 := Lib.hid (copied_any l (w.alloc (.cells #[.int .i64 0, .int .i64 0, .slice none 0 0] 27)) (ho.fr F (fun _ _ h => h)).lok hm)
  clear hl hx e0 e1 e2 hcs htk hg hmem ho h F
  obtain ⟨f, t, q, m, c, bs⟩ := l
  simp only at *
  go_enter Try.func13, Try.ntmps13
  go_wp2_with fail
  refine K.out.mono ?_
  rintro e w' ⟨rfl, rfl⟩
  go_wp2_with fail
  refine K2.out.mono ?_
  rintro e w1 ⟨q', c', rfl, h1, h2⟩
  simp only [Lt.val]
  have hz : (w.alloc (.cells #[.int .i64 0, .int .i64 0, .slice none 0 0] 27)).heap.size = w.heap.size + 1 := by simp
  have G : w1.heap[w.heap.size]? = some (.cells #[.int .i64 0, .int .i64 0, .slice none 0 0] 27 (0, 0)) := (h2.block _ (by omega)).trans (heap_alloc_new w _)
  have b0 : w1.cell? ⟨w.heap.size, 0, none⟩ = some (.int .i64 0) := by rw [cell_of_row w1 _ _ _ _ _ G]; rfl
  have b1 : w1.cell? ⟨w.heap.size, 1, none⟩ = some (.int .i64 0) := by rw [cell_of_row w1 _ _ _ _ _ G]; rfl
  have b2 : w1.cell? ⟨w.heap.size, 2, none⟩ = some (.slice none 0 0) := by rw [cell_of_row w1 _ _ _ _ _ G]; rfl
  have fb : ∀ i, w1.frozen? ⟨w.heap.size, i, none⟩ = false := fun i => frozen_of_row w1 _ i _ _ G
  have H1 := Lib.hid h1
  have H2 := Lib.hid h2
  have HZ := Lib.hid hz
  clear G h1 h2 hz
  go_wp2_with fail
  have z2 := H2.out.size
  have zz := HZ.out
  have F : Fr w1 (((w1.setCell ⟨w.heap.size, 0, none⟩ (.int .i64 f)).setCell ⟨w.heap.size, 1, none⟩ (.int .i64 t)).setCell ⟨w.heap.size, 2, none⟩ (.slice q' m c')) (fun k => k = w.heap.size) :=
    (((Fr.setCell w1 ⟨w.heap.size, 0, none⟩ (.int .i64 f))).set ⟨w.heap.size, 1, none⟩ (.int .i64 t) rfl).set ⟨w.heap.size, 2, none⟩ (.slice q' m c') rfl
  refine bodyPost_ret (v := .tuple #[.agg #[.int .i64 f, .int .i64 t, .slice q' m c'], .bool true]) (by simp [results, Try.results13, go_sem, b0, b1, b2]) rfl ⟨q', c', rfl, (H1.out.fr F ?_).base (by omega), (below_alloc w _).trans ((H2.out.mono (by omega)).trans (F.below (by omega) ?_))⟩
  · intro k hk e
    have := (H1.out.lt k hk).1
    omega
  · intro k hk e
    omega
end Go.Proofs.Ythnachjkjhclpaa
