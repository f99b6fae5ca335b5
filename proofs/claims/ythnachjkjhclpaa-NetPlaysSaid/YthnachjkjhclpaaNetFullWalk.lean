/- The walk of NetFull. -/
import Derived.Test.YthnachjkjhclpaaNetDouble
import Derived.Deep.LoopGhost
namespace Go.Proofs.Ythnachjkjhclpaa
open Go.RowKit
set_option linter.unusedVariables false
set_option linter.unusedSimpArgs false

/-- k letters, numbered from 0 on, are under way; nothing of before is touched. -/
def SentR (w : World) (B k : Nat) (wr : World) : Prop :=
  B = w.heap.size ∧ Below w.heap.size w wr ∧ B < wr.heap.size ∧ ∃ p cap ls, NetAt wr B B p k cap ls ∧ ∀ (j : Nat) (l : Lt), ls[j]? = some l → l.f = j ∧ l.m = 0

theorem SentR.step {w : World} {B k : Nat} {wr : World} {p : Option Addr} {cap : Nat} {ls : List Lt} {l : Lt} (hB : B = w.heap.size) (hb : Below w.heap.size w wr) (hs : B < wr.heap.size) (h : NetAt wr B B p k cap ls)
    (hf : ∀ (j : Nat) (l : Lt), ls[j]? = some l → l.f = j ∧ l.m = 0) {e : Ending} {w' : World} (hp : SendPost wr B B p k ls l e w') (hlf : l.f = k) (hlm : l.m = 0) : e = .returned (.bool true) ∧ SentR w B (k + 1) w' := by
  obtain ⟨p4, cap4, q4, c4, rfl, N4, F4, f4, g4⟩ := hp
  refine ⟨rfl, hB, hb.trans (F4.below hb.size ?_), Nat.lt_of_lt_of_le hs F4.size, p4, cap4, _, N4, ?_⟩
  · intro j hj e
    rcases e with e | e
    · omega
    · have := (ownsRow_elem h.row j e.symm).1; omega
  · intro j x hx
    rw [List.getElem?_append] at hx
    split at hx
    · exact hf j x hx
    · rename_i hj
      have hl := h.len
      rcases Nat.lt_trichotomy j ls.length with h1 | h1 | h1
      · omega
      · subst h1
        simp at hx
        subst hx
        exact ⟨by simp only; rw [hlf, hl], hlm⟩
      · rw [List.getElem?_eq_none (by simp; omega)] at hx
        cases hx

set_option maxRecDepth 100000 in
set_option maxHeartbeats 3200000 in
theorem netFull_walk (a0 : Int) (w0 : (Lit.int .i64 a0).wf = true) (w : World) :
    Calls Try.prog 4 #[.int .i64 a0] w fun e w' => e = .returned (.bool true) ∧ Below w.heap.size w w' := by
  clear w0
  go_enter Try.func4, Try.ntmps4
  go_wp2_with fail
  refine (new_any w).mono ?_
  rintro e w1 ⟨rfl, rfl⟩
  go_wp2_with fail
  refine (awake_any _).mono ?_
  rintro e w1 ⟨rfl, h1⟩
  obtain ⟨B, hB⟩ : ∃ B, B = w.heap.size := ⟨_, rfl⟩
  have R0 : SentR w B 0 w1 := ⟨hB, (below_alloc w _).trans (h1.mono (by simp)), by have := h1.size; simp at this; omega, none, 0, [], by rw [hB]; exact (NetAt.new w).fr (Fr.of_below h1) (fun h => h) (fun _ _ h => h) (fun _ _ _ _ h => h), by simp⟩
  rw [← hB]
  clear h1 hB
  go_wp2_with fail
  go_loopw [4] (fun v wr => ∃ (k : Nat), v = .int .i64 k ∧ k ≤ 200 ∧ SentR w B k wr) (fun v _ => 200 - (intOf v).toNat)
  case atStart => exact ⟨0, rfl, by omega, R0⟩
  case round =>
    obtain ⟨k, rfl, hk, hR⟩ := hrel
    by_cases hlt : (k : Int) < 200
    · obtain ⟨hB, hb, hs, p, cap, ls, hN, hls⟩ := hR
      have K := Lib.hid ((send_ok B B p k cap ls ⟨k, 0, none, 0, 0, []⟩ wr hN (Lt.ok_nil _ _ _) (by omega) (by simp) (by omega)).mono (fun e w' h => SentR.step hB hb hs hN hls h rfl rfl))
      clear hB hb hs hN hls R0
      go_wp2_with fail
      refine K.out.mono ?_
      rintro e w2 ⟨rfl, hR2⟩
      have HR2 := Lib.hid hR2
      clear hR2
      go_wp2
      go_roundw
      case rel => exact ⟨k + 1, by go_num, by omega, HR2.out⟩
      case measure => simp [intOf]; omega
    · obtain rfl : k = 200 := by omega
      obtain ⟨hB, hb, hs, p, cap, ls, hN, hls⟩ := hR
      have hls' : ∀ l ∈ ls, l.m ≤ 16384 := by
        intro l hl
        obtain ⟨j, hj⟩ := List.getElem?_of_mem hl
        have := (hls j l hj).2
        omega
      have HQ := Lib.hid hB
      clear hls R0 hlt hk hB
      have HN := Lib.hid hN
      have K1 := Lib.hid (send_no B B p 200 cap ls ⟨0, 0, none, 0, 0, []⟩ wr hN (.inl (by decide)))
      have HB := Lib.hid hb
      clear hN hb
      go_wp2_with fail
      refine K1.out.mono ?_
      rintro e w2 ⟨rfl, h2⟩
      have F2 := Fr.of_below h2
      have N2 := HN.out.fr F2 (fun h => h) (fun _ _ h => h) (fun _ _ _ _ h => h)
      have K2 := Lib.hid (double_full B B p 200 cap ls (by decide) a0 w2 N2 hls')
      have HN2 := Lib.hid N2
      have HB2 := Lib.hid (HB.out.trans (h2.mono HB.out.size))
      have hs2 : B < w2.heap.size := Nat.lt_of_lt_of_le hs h2.size
      clear h2 F2 N2 HB
      go_wp2_with fail
      refine K2.out.mono ?_
      rintro e w3 ⟨rfl, h3⟩
      have F3 := Fr.of_below h3
      have N3 := HN2.out.fr F3 (fun h => h) (fun _ _ h => h) (fun _ _ _ _ h => h)
      have HN3 := Lib.hid N3
      have HB3 := Lib.hid (HB2.out.trans (h3.mono HB2.out.size))
      have hs3 : B < w3.heap.size := Nat.lt_of_lt_of_le hs2 h3.size
      have c3 := N3.cell
      obtain ⟨l, hl⟩ := N3.ls_get (by decide) a0
      have hlm := hls' l (List.mem_of_getElem? hl)
      have K3 := Lib.hid (take_some B B p 200 cap ls (by decide) a0 w3 N3 l hl (by omega))
      clear h3 F3 N3 HB2 hl
      go_wp2_with fail
      refine (count_any _ _ _ _ _ c3).mono ?_
      rintro e w4 ⟨rfl, rfl⟩
      go_wp2_with fail
      refine K3.out.mono ?_
      rintro e w4 ⟨q4, c4, rfl, h4, N4, F4⟩
      obtain ⟨f, t, q, m, c, bs⟩ := l
      simp only [Lt.val] at hlm ⊢
      have F5 : Fr w4 (w4.alloc (.cells #[.int .i64 f, .int .i64 t, .slice q4 m c4] 27)) (fun _ => False) := Fr.alloc _ _
      have N5 := N4.fr F5 (fun h => h) (fun _ _ h => h) (fun _ _ _ _ h => h)
      obtain ⟨l5, hl5⟩ := N5.ls_get (by decide) a0
      have K5 := Lib.hid (double_ok B B p 199 cap _ (by decide) (by decide) a0 _ N5 (fun l hl => hls' l (List.mem_of_mem_eraseIdx hl)) (by have := F4.size; simp; omega) l5 hl5)
      have HB5 := Lib.hid (HB3.out.trans ((F4.below (B := w.heap.size) HB3.out.size (by
        intro k hk e
        have := HQ.out
        rcases e with e | e
        · omega
        · have := (ownsRow_elem HN3.out.row k e.symm).1; omega)).trans (F5.below (by have := F4.size; have := HB3.out.size; omega) (fun _ _ h => h))))
      have HN5 := Lib.hid N5
      have hs4 := F4.size
      clear h4 N4 F4 F5 N5 hl5
      go_wp2_with fail
      refine K5.out.mono ?_
      rintro e w6 ⟨p6, cap6, q6, c6, rfl, N6, F6, f6, g6⟩
      have c6' := N6.cell
      have HB6 := Lib.hid (HB5.out.trans (F6.below HB5.out.size (by
        intro k hk e
        have := HQ.out
        rcases e with e | e
        · omega
        · have := (ownsRow_elem HN5.out.row k e.symm).1; omega)))
      clear N6 F6 f6 g6
      go_wp2_with fail
      refine (count_any _ _ _ _ _ c6').mono ?_
      rintro e w7 ⟨rfl, rfl⟩
      go_wp2
      go_ret
      exact ⟨rfl, HB6.out⟩
end Go.Proofs.Ythnachjkjhclpaa
