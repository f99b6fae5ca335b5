/- The contracts of Double and of the law's awake. -/
import Derived.Test.YthnachjkjhclpaaNetTake
namespace Go.Proofs.Ythnachjkjhclpaa
open Go.RowKit
set_option linter.unusedVariables false
set_option linter.unusedSimpArgs false

theorem NetAt.ls_get {w : World} {B base : Nat} {p : Option Addr} {n cap : Nat} {ls : List Lt} (h : NetAt w B base p n cap ls) (hn : 0 < n) (i : Int) : ∃ l, ls[placeOf i n]? = some l := by
  have := placeOf_lt i hn
  exact ⟨_, List.getElem?_eq_getElem (by rw [h.len]; exact this)⟩

set_option maxRecDepth 100000 in
set_option maxHeartbeats 1600000 in
theorem double_full (B base : Nat) (p : Option Addr) (n cap : Nat) (ls : List Lt) (hn : 200 ≤ (n : Int)) (i : Int) (w : World) (h : NetAt w B base p n cap ls) (hls : ∀ l ∈ ls, l.m ≤ 16384) :
    Calls Try.prog 12 #[.pointer (some ⟨B, 0, none⟩), .int .i64 i] w fun e w' => e = .returned (.bool false) ∧ Below w.heap.size w w' := by
  obtain ⟨l, hl⟩ := h.ls_get (by omega) i
  have hm := hls l (List.mem_of_getElem? hl)
  have hBlt : B < w.heap.size := block_lt_of_cell h.cell
  have K1 := Lib.hid (at_some B base p n cap ls (by omega) i w h l hl (by omega))
  have HH := Lib.hid h
  clear h hl hls
  obtain ⟨f, t, q, m, c, bs⟩ := l
  simp only at hm
  go_enter Try.func12, Try.ntmps12
  go_wp2_with fail
  refine K1.out.mono ?_
  rintro e w1 ⟨q', c', rfl, h1, h2⟩
  simp only [Lt.val]
  have F1 : Fr w w1 (fun _ => False) := Fr.of_below h2
  have F2 : Fr w (w1.alloc (.cells #[.int .i64 f, .int .i64 t, .slice q' m c'] 27)) (fun _ => False) := (F1.trans (Fr.alloc _ _)).mono (by simp)
  have N2 : NetAt (w1.alloc (.cells #[.int .i64 f, .int .i64 t, .slice q' m c'] 27)) B base p n cap ls := HH.out.fr F2 (fun h => h) (fun _ _ h => h) (fun _ _ _ _ h => h)
  have K2 := Lib.hid (send_no B base p n cap ls ⟨f, t, q', m, c', bs⟩ _ N2 (.inl hn))
  have HF2 := Lib.hid F2
  have s1 := h2.size
  clear F1 F2 N2 h1 h2
  go_wp2_with fail
  refine K2.out.mono ?_
  rintro e w3 ⟨rfl, h3⟩
  have HB := Lib.hid ((HF2.out.below (Nat.le_refl _) (fun _ _ h => h)).trans (h3.mono (by simp; omega)))
  clear h3
  go_wp2
  go_ret
  exact ⟨rfl, HB.out⟩

set_option maxRecDepth 100000 in
set_option maxHeartbeats 1600000 in
theorem double_ok (B base : Nat) (p : Option Addr) (n cap : Nat) (ls : List Lt) (hn : (n : Int) < 200) (hn0 : 0 < n) (i : Int) (w : World) (h : NetAt w B base p n cap ls) (hls : ∀ l ∈ ls, l.m ≤ 16384) (hbase : base ≤ w.heap.size) (l : Lt) (hl : ls[placeOf i n]? = some l) :
    Calls Try.prog 12 #[.pointer (some ⟨B, 0, none⟩), .int .i64 i] w (SendPost w B base p n ls l) := by
  have hm := hls l (List.mem_of_getElem? hl)
  have hBlt : B < w.heap.size := block_lt_of_cell h.cell
  have K1 := Lib.hid (at_some B base p n cap ls hn0 i w h l hl (by omega))
  have HH := Lib.hid h
  clear h hl hls
  obtain ⟨f, t, q, m, c, bs⟩ := l
  simp only at hm
  go_enter Try.func12, Try.ntmps12
  go_wp2_with fail
  refine K1.out.mono ?_
  rintro e w1 ⟨q', c', rfl, h1, h2⟩
  simp only [Lt.val]
  have F1 : Fr w w1 (fun _ => False) := Fr.of_below h2
  have F2 : Fr w (w1.alloc (.cells #[.int .i64 f, .int .i64 t, .slice q' m c'] 27)) (fun _ => False) := (F1.trans (Fr.alloc _ _)).mono (by simp)
  have N2 : NetAt (w1.alloc (.cells #[.int .i64 f, .int .i64 t, .slice q' m c'] 27)) B base p n cap ls := HH.out.fr F2 (fun h => h) (fun _ _ h => h) (fun _ _ _ _ h => h)
  have O2 : Own (w1.alloc (.cells #[.int .i64 f, .int .i64 t, .slice q' m c'] 27)) w.heap.size q' m c' bs := h1.fr (Fr.alloc _ _) (fun _ _ h => h)
  have hsz : w.heap.size ≤ (w1.alloc (.cells #[.int .i64 f, .int .i64 t, .slice q' m c'] 27)).heap.size := F2.size
  have K2 := Lib.hid (send_ok B base p n cap ls ⟨f, t, q', m, c', bs⟩ _ N2 (Own.lok (l := ⟨f, t, q', m, c', bs⟩) O2) hn (by simp only; omega) (by omega))
  have HF2 := Lib.hid F2
  have s1 := h2.size
  have HS := Lib.hid hsz
  clear F1 F2 N2 h1 h2 O2 hsz
  go_wp2_with fail
  refine K2.out.mono ?_
  rintro e w3 ⟨p4, cap4, q4, c4, rfl, N4, F4, f4, g4⟩
  have P : SendPost w B base p n ls ⟨f, t, q, m, c, bs⟩ (.returned (.bool true)) w3 := by
    refine ⟨p4, cap4, q4, c4, rfl, N4, (HF2.out.trans F4).mono (by simp), ?_, ?_⟩
    · intro k hk
      have := HS.out
      rcases f4 k hk with e | e
      · exact .inl e
      · exact .inr (by omega)
    · intro k hk
      have := HS.out
      have := g4 k hk
      omega
  have HP := Lib.hid P
  clear P N4 F4 f4 g4
  go_wp2
  go_ret
  exact HP.out

/-- A new net. -/
theorem NetAt.new (w : World) : NetAt (w.alloc (.cells #[.slice none 0 0] 47)) w.heap.size w.heap.size none 0 0 [] :=
  ⟨heap_alloc_new w _, World.ownsRow_nil _ _ _ _, rfl, by simp⟩
theorem Lt.ok_nil (w : World) (f t : Int) : (Lt.mk f t none 0 0 []).Ok w := ⟨⟨rfl, by simp, by simp⟩, fun _ => ⟨rfl, rfl⟩⟩

set_option maxRecDepth 100000 in
set_option maxHeartbeats 1600000 in
theorem awake_any (w : World) : Calls Try.prog 10 #[] w fun e w' => e = .returned (.bool true) ∧ Below w.heap.size w w' := by
  have K := Lib.hid (send_ok w.heap.size w.heap.size none 0 0 [] ⟨1, 0, none, 0, 0, []⟩ _ (NetAt.new w) (Lt.ok_nil _ _ _) (by decide) (by decide) (by simp))
  go_enter Try.func10, Try.ntmps10
  go_wp2_with fail
  refine (new_any w).mono ?_
  rintro e w1 ⟨rfl, rfl⟩
  go_wp2_with fail
  refine K.out.mono ?_
  rintro e w3 ⟨p4, cap4, q4, c4, rfl, N4, F4, f4, g4⟩
  have c0 := N4.cell
  have HB : Hid (Below w.heap.size w w3) := (below_alloc w _).trans (F4.below (by simp) (fun k hk e => by simp [blk] at e; omega))
  clear N4 F4 f4 g4
  go_wp2_with fail
  refine (count_any _ _ _ _ _ c0).mono ?_
  rintro e w1 ⟨rfl, rfl⟩
  go_wp2
  go_ret
  exact ⟨rfl, HB.out⟩
end Go.Proofs.Ythnachjkjhclpaa
