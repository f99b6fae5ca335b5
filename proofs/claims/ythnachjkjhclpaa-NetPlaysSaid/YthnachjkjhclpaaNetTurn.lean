/- The contract of Turn. -/
import Derived.Test.YthnachjkjhclpaaNetRefSend
namespace Go.Proofs.Ythnachjkjhclpaa
open Go.RowKit
set_option linter.unusedVariables false
set_option linter.unusedSimpArgs false

set_option maxHeartbeats 400000 in
theorem turn_none (B : Nat) (p : Option Addr) (cap : Nat) (i : Int) (q : Option Addr) (m c : Nat) (w : World) (c0 : w.cell? ⟨B, 0, none⟩ = some (.slice p 0 cap)) :
    Calls Try.prog 20 #[.pointer (some ⟨B, 0, none⟩), .int .i64 i, .slice q m c] w fun e w' => e = .returned (.bool false) ∧ w = w' := by
  have K := Lib.hid (place_none B p cap i w c0)
  go_enter Try.func20, Try.ntmps20
  go_wp2_with fail
  refine K.out.mono ?_
  rintro e w1 ⟨rfl, rfl⟩
  go_wp2
  go_ret
  exact ⟨rfl, rfl⟩

set_option maxHeartbeats 400000 in
theorem turn_long (B : Nat) (p : Option Addr) (n cap : Nat) (hn : 0 < n) (i : Int) (q : Option Addr) (m c : Nat) (w : World) (c0 : w.cell? ⟨B, 0, none⟩ = some (.slice p n cap)) (hm : 16384 < (m : Int)) :
    Calls Try.prog 20 #[.pointer (some ⟨B, 0, none⟩), .int .i64 i, .slice q m c] w fun e w' => e = .returned (.bool false) ∧ w = w' := by
  have K := Lib.hid (place_some B p n cap hn i w c0)
  have K2 := Lib.hid (long_any q m c w)
  go_enter Try.func20, Try.ntmps20
  go_wp2_with fail
  refine K.out.mono ?_
  rintro e w1 ⟨rfl, rfl⟩
  go_wp2_with fail
  refine K2.out.mono ?_
  rintro e w1 ⟨rfl, rfl⟩
  go_wp2
  go_ret
  exact ⟨rfl, rfl⟩

theorem flatMap_set : ∀ (ls : List Lt) (k : Nat) (l : Lt) (q : Option Addr) (m c : Nat) (bs : List Int), ls[k]? = some l → (ls.flatMap Lt.cells).set (k * 3 + 2) (.slice q m c) = (ls.set k ⟨l.f, l.t, q, m, c, bs⟩).flatMap Lt.cells
  | [], k, l, q, m, c, bs, h => by simp at h
  | x :: xs, 0, l, q, m, c, bs, h => by
    simp at h; subst h
    simp [Lt.cells]
  | x :: xs, k + 1, l, q, m, c, bs, h => by
    have ih := flatMap_set xs k l q m c bs (by simpa using h)
    rw [List.set_cons_succ, List.flatMap_cons, List.flatMap_cons, ← ih, show (k + 1) * 3 + 2 = x.cells.length + (k * 3 + 2) by simp [Lt.cells]; omega, List.set_append_right _ _ (by omega)]
    congr 2
    omega

/-- What a turn that is done leaves. -/
def TurnPost (w : World) (B base : Nat) (p : Option Addr) (n cap : Nat) (ls : List Lt) (k : Nat) (l : Lt) (m : Nat) (bs : List Int) (e : Ending) (w' : World) : Prop :=
  ∃ q' c', e = .returned (.bool true) ∧ NetAt w' B base p n cap (ls.set k ⟨l.f, l.t, q', m, c', bs⟩) ∧ Fr w w' (fun i => some i = blk p) ∧ (∀ i, blk q' = some i → w.heap.size ≤ i)

theorem turn_done {w w1 : World} {B base g : Nat} {n cap : Nat} {ls : List Lt} (h : NetAt w B base (some ⟨g, 0, none⟩) n cap ls) (hbase : base ≤ w.heap.size) {k : Nat} {l : Lt} (hl : ls[k]? = some l) (F : Fr w w1 (fun _ => False)) {q' : Option Addr} {m c' : Nat} {bs : List Int} (h1 : Own w1 w.heap.size q' m c' bs) :
    TurnPost w B base (some ⟨g, 0, none⟩) n cap ls k l m bs (.returned (.bool true)) (w1.setCell ⟨g, k * 3 + 2, none⟩ (.slice q' m c')) := by
  have hgl : g < w.heap.size := by
    obtain ⟨_, cur, hc⟩ := ownsRow_elem h.row g rfl
    exact (Array.getElem?_eq_some_iff.1 hc).1
  have F4 : Fr w (w1.setCell ⟨g, k * 3 + 2, none⟩ (.slice q' m c')) (fun i => some i = blk (some ⟨g, 0, none⟩)) := (F.mono (fun _ _ h => h.elim)).set _ _ rfl
  refine ⟨q', c', rfl, ⟨F4.heap h.cells h.nblk, ?_, by simp [h.len], fun x hx => ?_⟩, F4, fun i hi => (h1.lt i hi).1⟩
  · rw [← flatMap_set ls k l q' m c' bs hl]
    exact ((ownsRow_fr h.row F (fun _ _ h => h)).stored (k * 3 + 2) (.slice q' m c')).1
  · rcases List.mem_or_eq_of_mem_set hx with hx | rfl
    · refine (h.own x hx).fr F4 (fun i hi e => ?_)
      exact (h.lblk hx hi).2.2 e
    · refine (h1.base hbase).fr (Fr.setCell w1 _ _) (fun i hi e => ?_)
      have := (h1.lt i hi).1
      simp only at e
      omega

set_option maxRecDepth 100000 in
set_option maxHeartbeats 1600000 in
theorem turn_ok (B base : Nat) (p : Option Addr) (n cap : Nat) (ls : List Lt) (hn : 0 < n) (i : Int) (q : Option Addr) (m c : Nat) (bs : List Int) (w : World) (h : NetAt w B base p n cap ls) (hbase : base ≤ w.heap.size) (l : Lt) (hl : ls[placeOf i n]? = some l) (hS : Src w q m bs) (hq : q = none → m = 0 ∧ c = 0) (hm : (m : Int) ≤ 16384) :
    Calls Try.prog 20 #[.pointer (some ⟨B, 0, none⟩), .int .i64 i, .slice q m c] w (TurnPost w B base p n cap ls (placeOf i n) l m bs) := by
  have c0 := h.cell
  have hBlt : B < w.heap.size := block_lt_of_cell c0
  have K := Lib.hid (place_some B p n cap hn i w c0)
  have hk := placeOf_lt i hn
  obtain ⟨g, cur, rfl, hb, hg, hnc, hcm, hcs, htk⟩ := h.block hn
  revert K hk hl
  generalize placeOf i n = k
  intro hl K hk
  have K2 := Lib.hid (long_any q m c w)
  have FD : Fr w w.drew (fun _ => False) := Fr.drew w
  have c1 := FD.cell c0 (fun h => h)
  have K3 := Lib.hid (clone_any q m c bs w.drew hS.drew hq (by omega))
  have HG := Lib.hid hg
  have H := Lib.hid h
  have HL := Lib.hid hl
  have hkn : (k : Int) < n := by omega
  have g2 : w.cell? ⟨g, k * 3 + 2, none⟩ = some (.slice l.q l.m l.c) := by
    refine Eq.trans ?_ (flatMap_get ls k l hl).2.2
    rw [cell_of_row _ _ _ _ _ _ hg, ← htk, List.getElem?_take_of_lt (by omega), Array.getElem?_toList]
  have HG2 := Lib.hid g2
  clear g2
  clear hl hg hcs htk h hS
  go_enter Try.func20, Try.ntmps20
  go_wp2_with fail
  refine K.out.mono ?_
  rintro e w1 ⟨rfl, rfl⟩
  go_wp2_with fail
  refine K2.out.mono ?_
  rintro e w1 ⟨rfl, rfl⟩
  go_wp2_with fail
  go_region_law (go_simp; go_at_call 25; refine K3.out.mono ?_; rintro e w1 ⟨q', c', rfl, h1, h2⟩; have F := (FD.trans (Fr.of_below h2)).mono (fun _ _ h => by rcases h with h | h <;> exact h); have d0 : w1.cell? ⟨B, 0, none⟩ = some (.slice (some ⟨g, 0, none⟩) n cap) := F.cell c0 (fun h => h); have f0 : w1.frozen? ⟨g, k * 3 + 2, none⟩ = false := frozen_of_row w1 g _ _ _ (F.heap HG.out (fun h => h)); have d2 : w1.cell? ⟨g, k * 3 + 2, none⟩ = some (.slice l.q l.m l.c) := F.cell HG2.out (fun h => h); have H1 := Lib.hid h1; have HF := Lib.hid F; clear h1 h2 F)
  all_goals
    go_wp2
    go_ret
    exact turn_done H.out hbase HL.out HF.out H1.out
end Go.Proofs.Ythnachjkjhclpaa
