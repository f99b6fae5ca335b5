/- The reference's Take where there is a letter. -/
import Derived.Test.YthnachjkjhclpaaNetRefTake
namespace Go.Proofs.Ythnachjkjhclpaa
open Go.RowKit
set_option linter.unusedVariables false
set_option linter.unusedSimpArgs false

theorem RefAt.block {w : World} {B base : Nat} {p : Option Addr} {n cap : Nat} {ls : List Lt} (h : RefAt w B base p n cap ls) (hn : 0 < n) :
    ∃ g cur, p = some ⟨g, 0, none⟩ ∧ base ≤ g ∧ w.heap[g]? = some (.cells cur 27 (0, 0)) ∧ n ≤ cap ∧ cap ≤ maxLen ∧ cur.size = cap * 3 ∧ cur.toList.take (n * 3) = ls.flatMap Lt.cells := by
  rcases h.row.2 with ⟨_, h0⟩ | ⟨g, cap', cur, h', hb, hg, h1, h2, h3, h4⟩
  · omega
  · simp only [Value.slice.injEq, true_and] at h'
    obtain ⟨rfl, rfl⟩ := h'
    exact ⟨g, cur, rfl, hb, hg, h1, h2, h3, h4⟩

theorem cells_one (ls : List Lt) : ∀ u ∈ ls.flatMap Lt.cells, u.oneCell' = true := by
  intro u hu
  obtain ⟨l, _, h⟩ := List.mem_flatMap.1 hu
  simp only [Lt.cells, List.mem_cons, List.not_mem_nil, or_false] at h
  rcases h with rfl | rfl | rfl <;> rfl

/-- What the reference's Take leaves. -/
def RefTakePost (w : World) (R base n : Nat) (ls : List Lt) (k : Nat) (l : Lt) (e : Ending) (w' : World) : Prop :=
  ∃ p' cap', e = .returned (.tuple #[Lt.val l, .bool true]) ∧ RefAt w' R base p' (n - 1) cap' (ls.take k ++ ls.drop (k + 1)) ∧ Fr w w' (fun i => i = R) ∧ (∀ i, blk p' = some i → w.heap.size ≤ i)

set_option maxRecDepth 100000 in
set_option maxHeartbeats 1600000 in
theorem refTake_some (R base : Nat) (p : Option Addr) (n cap : Nat) (ls : List Lt) (hn : 0 < n) (hn2 : n ≤ 200) (i : Int) (w : World) (h : RefAt w R base p n cap ls) (l : Lt) (hl : ls[placeOf i n]? = some l) (hbase : base ≤ w.heap.size) (hR : base ≤ R) :
    Calls Try.prog 18 #[.pointer (some ⟨R, 0, none⟩), .int .i64 i] w (RefTakePost w R base n ls (placeOf i n) l) := by
  have c0 := h.cell
  have hRlt : R < w.heap.size := block_lt_of_cell c0
  have F := Fr.alloc w (.cells #[.int .i64 0, .int .i64 0, .slice none 0 0] 27)
  have c1 := F.cell c0 (fun h => h)
  have K := Lib.hid (refPlace_some R p n cap hn i _ c1)
  have hk := placeOf_lt i hn
  obtain ⟨g, cur, rfl, hb, hg, hnc, hcm, hcs, htk⟩ := h.block hn
  obtain ⟨e0, e1, e2⟩ := flatMap_get ls _ l hl
  revert hl K hk e0 e1 e2
  generalize placeOf i n = k
  intro hl K hk e0 e1 e2
  have hgc : ∀ j, j < n * 3 → w.cell? ⟨g, j, none⟩ = (ls.flatMap Lt.cells)[j]? := fun j hj => by
    rw [cell_of_row _ _ _ _ _ _ hg, ← htk, List.getElem?_take_of_lt hj, Array.getElem?_toList]
  have d0 := F.cell ((hgc (k * 3) (by omega)).trans e0) (fun h => h)
  have d1 := F.cell ((hgc (k * 3 + 1) (by omega)).trans e1) (fun h => h)
  have d2 := F.cell ((hgc (k * 3 + 2) (by omega)).trans e2) (fun h => h)
  have HG := Lib.hid hg
  have H := Lib.hid h
  have HL := Lib.hid hl
  have HTK := Lib.hid htk
  have hkn : (k : Int) < n := by omega
  have hnci : (n : Int) ≤ cap := by omega
  clear hl hg hcs htk h hgc e0 e1 e2 F hk
  obtain ⟨f, t, q, m, c, bs⟩ := l
  simp only at d0 d1 d2
  go_enter Try.func18, Try.ntmps18
  go_wp2_with fail
  refine K.out.mono ?_
  rintro e w1 ⟨rfl, rfl⟩
  have F2 : Fr w ((w.alloc (.cells #[.int .i64 0, .int .i64 0, .slice none 0 0] 27)).alloc (.cells #[.int .i64 f, .int .i64 t, .slice q m c] 27)) (fun _ => False) := ((Fr.alloc w _).trans (Fr.alloc _ _)).mono (by simp)
  have hlen := H.out.len
  have nw1 := stretch (F2.heap HG.out (fun h => h)) hlen HTK.out 0 k (by omega)
  have HNW1 : Hid (∀ j u, ((ls.take k).flatMap Lt.cells)[j]? = some u → ((w.alloc (.cells #[.int .i64 0, .int .i64 0, .slice none 0 0] 27)).alloc (.cells #[.int .i64 f, .int .i64 t, .slice q m c] 27)).cell? ((⟨g, 0, none⟩ : Addr).add j) = some u) := Lib.hid (fun j u hj => by
    rw [Addr.add_lit, show (0 : Nat) + j = 0 * 3 + j by omega]
    exact nw1 j u (by simpa using hj))
  have HF2 := Lib.hid F2
  have hlt1 : ((ls.take k).flatMap Lt.cells).length = k * 3 := by rw [flatMap_len, List.length_take]; omega
  have HLT1 := Lib.hid hlt1
  clear nw1 hlt1 F2
  go_wp2_with (at_builtin; refine wpList_append_row rfl (.tmp 22) (.tmp 28) 34 rfl w.heap.size 27 3 40 _ Try.underlying34 Try.info27 rfl (by decide) (by decide) none 0 0 [] rfl (World.ownsRow_nil _ _ _ _) ⟨g, 0, none⟩ k cap rfl ((ls.take k).flatMap Lt.cells) HLT1.out HNW1.out (cells_one _) (by omega) HF2.out.size ?_)
  intro p1 cap1 w3 hown hgr hk1
  have F3 := HF2.out.trans ((Fr.of_grown hgr).mono (fun _ _ h => by cases h) : Fr _ w3 (fun _ => False))
  have F03 : Fr w w3 (fun _ => False) := F3.mono (by simp)
  have c3 := F03.cell c0 (fun h => h)
  obtain ⟨k1, hk1e⟩ : ∃ k1, k + 1 = k1 := ⟨_, rfl⟩
  have hwk : IntKind.i64.wrap ((k : Int) + 1) = (k1 : Int) := by rw [IntWalk.i64_in _ (by omega)]; omega
  obtain ⟨ad, sf, had⟩ := slice34_from g n cap k1 (by omega) (by omega)
  have nw2 := stretch (F03.heap HG.out (fun h => h)) hlen HTK.out k1 (n - k1) (by omega)
  have hdr : (ls.drop k1).take (n - k1) = ls.drop k1 := List.take_of_length_le (by rw [List.length_drop]; omega)
  rw [hdr] at nw2
  have hlt2 : ((ls.drop k1).flatMap Lt.cells).length = (n - k1) * 3 := by rw [flatMap_len, List.length_drop]; omega
  have HNW2 : Hid (∀ j u, ((ls.drop k1).flatMap Lt.cells)[j]? = some u → w3.cell? (ad.add j) = some u) := Lib.hid (fun j u hj => by
    have hjl := (List.getElem?_eq_some_iff.1 hj).1
    rw [had (by omega), Addr.add_lit]
    exact nw2 j u hj)
  have HLT2 := Lib.hid hlt2
  have HOWN := Lib.hid hown
  have HF3 := Lib.hid F03
  have HK1 := Lib.hid hk1
  have HGR := Lib.hid ((Fr.of_grown hgr).mono (fun _ _ h => by cases h) : Fr _ w3 (fun _ => False))
  clear nw2 hlt2 hown hgr hk1 F3 F03 hdr had
  go_wp2_with (at_builtin; refine wpList_append_row rfl (.tmp 30) (.tmp 37) 34 rfl w.heap.size 27 3 40 _ Try.underlying34 Try.info27 rfl (by decide) (by decide) p1 k cap1 ((ls.take k).flatMap Lt.cells) rfl HOWN.out ad (n - k1) (cap - k1) rfl ((ls.drop k1).flatMap Lt.cells) HLT2.out HNW2.out (cells_one _) (by omega) HF3.out.size ?_)
  intro p2 cap2 w4 hown2 hgr2 hk2
  have p1lt : ∀ i, blk p1 = some i → w.heap.size + 2 ≤ i := fun i hi => by
    rcases HK1.out i hi with e | e
    · cases e
    · omega
  have F34 : Fr w3 w4 (fun i => some i = blk p1) := Fr.of_grown hgr2
  have GA : w4.heap[w.heap.size]? = some (.cells #[.int .i64 0, .int .i64 0, .slice none 0 0] 27 (0, 0)) := F34.heap (HGR.out.heap (heap_alloc2_old w _ _) (fun h => h)) (fun e => by have := p1lt _ e.symm; omega)
  have GB : w4.heap[w.heap.size + 1]? = some (.cells #[.int .i64 f, .int .i64 t, .slice q m c] 27 (0, 0)) := F34.heap (HGR.out.heap (heap_alloc2_new w _ _) (fun h => h)) (fun e => by have := p1lt _ e.symm; omega)
  have GR : w4.heap[R]? = some (.cells #[.slice (some ⟨g, 0, none⟩) n cap] 40 (0, 0)) := F34.heap (HF3.out.heap H.out.cells (fun h => h)) (fun e => by have := p1lt _ e.symm; omega)
  obtain ⟨a0, a1, a2, fa⟩ := letter_cells GA
  obtain ⟨b0, b1, b2, fb⟩ := letter_cells GB
  have r0 : w4.cell? ⟨R, 0, none⟩ = some (.slice (some ⟨g, 0, none⟩) n cap) := by rw [cell_of_row w4 R _ _ _ _ GR]; rfl
  have fr : w4.frozen? ⟨R, 0, none⟩ = false := frozen_of_row w4 R 0 _ _ GR
  have ne1 : ¬ R = w.heap.size := by omega
  have ne2 : ¬ R = w.heap.size + 1 := by omega
  have HO2 := Lib.hid hown2
  have HK2 := Lib.hid hk2
  have HF4 := Lib.hid F34
  have HP1 := Lib.hid p1lt
  have HGRR := Lib.hid GR
  have hkk : k + (n - k1) = n - 1 := by omega
  clear hown2 hgr2 hk2 F34 GA GB GR p1lt
  go_wp2_with fail
  obtain ⟨WR, hWR⟩ : ∃ W, W = w4.setCell ⟨R, 0, none⟩ (.slice p2 (n - 1) cap2) := ⟨_, rfl⟩
  rw [← hWR]
  have hz2 : w.heap.size + 2 ≤ w3.heap.size := by have := HGR.out.size; simp at this; omega
  have hz4 := HF4.out.size
  have FR : Fr w4 WR (fun i => i = R) := by rw [hWR]; exact Fr.setCell w4 _ _
  have FA : Fr WR (((WR.setCell ⟨w.heap.size, 0, none⟩ (.int .i64 f)).setCell ⟨w.heap.size, 1, none⟩ (.int .i64 t)).setCell ⟨w.heap.size, 2, none⟩ (.slice q m c)) (fun i => i = w.heap.size) :=
    (((Fr.setCell WR ⟨w.heap.size, 0, none⟩ (.int .i64 f))).set ⟨w.heap.size, 1, none⟩ (.int .i64 t) rfl).set ⟨w.heap.size, 2, none⟩ (.slice q m c) rfl
  have GR2 : WR.heap[R]? = some (.cells #[.slice p2 (n - 1) cap2] 40 (0, 0)) := by rw [hWR, heap_setCell_same w4 R 0 _ _ _ HGRR.out]; rfl
  have FF := (HF3.out.trans HF4.out).trans (FR.trans FA)
  have FW := FF.mono (U := fun i => i = R) (fun i hi e => by
    rcases e with (e | e) | e | e
    · exact e.elim
    · have := HP1.out i e.symm; omega
    · exact e
    · omega)
  have p2lt : ∀ i, blk p2 = some i → w.heap.size + 2 ≤ i := fun i hi => by
    rcases HK2.out i hi with e | e
    · exact HP1.out i e
    · omega
  have hrow : w4.ownsRow base 27 3 (.slice p2 (n - 1) cap2) (n - 1) ((ls.take k ++ ls.drop (k + 1)).flatMap Lt.cells) := by
    have h := HO2.out
    rw [hkk, ← List.flatMap_append, ← hk1e] at h
    refine ⟨h.1, ?_⟩
    rcases h.2 with h' | ⟨g', cap', cur', h', hb', r⟩
    · exact .inl h'
    · exact .inr ⟨g', cap', cur', h', by omega, r⟩
  refine bodyPost_ret (v := .tuple #[.agg #[.int .i64 f, .int .i64 t, .slice q m c], .bool true]) (by simp [results, Try.results18, go_sem, a0, a1, a2, hWR, ne1]) rfl ⟨p2, cap2, rfl, ⟨FA.heap GR2 ne1, ownsRow_fr hrow (FR.trans FA) (fun i hi e => ?_), ?_, fun x hx => ?_, fun x hx => ?_⟩, FW, fun i hi => by have := p2lt i hi; omega⟩
  · have := p2lt i hi
    rcases e with e | e <;> omega
  · rw [List.length_append, List.length_take, List.length_drop]; omega
  · have hx' : x ∈ ls := by
      rcases List.mem_append.1 hx with h | h
      · exact List.mem_of_mem_take h
      · exact List.mem_of_mem_drop h
    exact ⟨(H.out.ok x hx').src.fr FW (fun hp a ha e => by have := H.out.low x hx' hp a ha; omega), (H.out.ok x hx').nil⟩
  · have hx' : x ∈ ls := by
      rcases List.mem_append.1 hx with h | h
      · exact List.mem_of_mem_take h
      · exact List.mem_of_mem_drop h
    exact H.out.low x hx'
end Go.Proofs.Ythnachjkjhclpaa
