/- The walk of NetOrder. -/
import Derived.Test.YthnachjkjhclpaaNetFullWalk
namespace Go.Proofs.Ythnachjkjhclpaa
open Go.RowKit
set_option linter.unusedVariables false
set_option linter.unusedSimpArgs false

/-- n letters, numbered from k on, are under way; nothing of before is touched. -/
def LeftR (w : World) (B k n : Nat) (wr : World) : Prop :=
  B = w.heap.size ∧ Below w.heap.size w wr ∧ B < wr.heap.size ∧ ∃ p cap ls, NetAt wr B B p n cap ls ∧ ∀ (j : Nat) (l : Lt), ls[j]? = some l → l.f = ((k + j : Nat) : Int) ∧ l.m = 0

/-- What taking the first one leaves. -/
def FirstPost (w : World) (B k n : Nat) (e : Ending) (w' : World) : Prop :=
  ∃ l, e = .returned (.tuple #[Lt.val l, .bool true]) ∧ l.f = k ∧ LeftR w B (k + 1) n w' 

theorem LeftR.step {w : World} {B k n : Nat} {wr : World} {p : Option Addr} {cap : Nat} {ls : List Lt} {l : Lt} (hB : B = w.heap.size) (hb : Below w.heap.size w wr) (hs : B < wr.heap.size) (h : NetAt wr B B p (n + 1) cap ls)
    (hf : ∀ (j : Nat) (l : Lt), ls[j]? = some l → l.f = ((k + j : Nat) : Int) ∧ l.m = 0) (hl : ls[0]? = some l) {e : Ending} {w' : World} (hp : TakePost wr B B p (n + 1) cap ls 0 l e w') : FirstPost w B k n e w' := by
  obtain ⟨q4, c4, rfl, O4, N4, F4⟩ := hp
  refine ⟨_, rfl, ?_, hB, hb.trans (F4.below hb.size ?_), Nat.lt_of_lt_of_le hs F4.size, p, cap, _, N4, ?_⟩
  · simpa using (hf 0 l hl).1
  · intro j hj e
    rcases e with e | e
    · omega
    · have := (ownsRow_elem h.row j e.symm).1; omega
  · intro j x hx
    have := hf (j + 1) x (by
      cases ls with
      | nil => simp at hl
      | cons a t => simpa using hx)
    rw [show k + 1 + j = k + (j + 1) by omega]
    exact this

theorem LeftR.grow {w : World} {B k n : Nat} {wr : World} (h : LeftR w B k n wr) {w' : World} (hb : Below wr.heap.size wr w') : LeftR w B k n w' := by
  obtain ⟨hB, hb0, hs, p, cap, ls, hN, hls⟩ := h
  exact ⟨hB, hb0.trans (hb.mono hb0.size), Nat.lt_of_lt_of_le hs hb.size, p, cap, ls, hN.fr (Fr.of_below hb) (fun h => h) (fun _ _ h => h) (fun _ _ _ _ h => h), hls⟩

set_option maxRecDepth 100000 in
set_option maxHeartbeats 3200000 in
theorem netOrder_walk (a0 : Int) (w0 : (Lit.int .u8 a0).wf = true) (w : World) :
    Calls Try.prog 3 #[.int .u8 a0] w fun e w' => e = .returned (.bool true) ∧ Below w.heap.size w w' := by
  have w1 : 0 ≤ a0 ∧ a0 ≤ 255 := by simp [Lit.wf] at w0; exact w0
  go_enter Try.func3, Try.ntmps3
  go_wp2_with fail
  refine (new_any w).mono ?_
  rintro e w1 ⟨rfl, rfl⟩
  go_wp2_with fail
  obtain ⟨m, hm⟩ : ∃ m : Nat, a0 % 150 = m := ⟨(a0 % 150).toNat, by omega⟩
  have hm1 : (m : Int) < 150 := by omega
  rw [hm]
  obtain ⟨B, hB⟩ : ∃ B, B = w.heap.size := ⟨_, rfl⟩
  obtain ⟨u0, hu⟩ : ∃ u0, u0 = w.alloc (.cells #[.slice none 0 0] 47) := ⟨_, rfl⟩
  have R0 : SentR w B 0 u0 := ⟨hB, by rw [hu]; exact below_alloc w _, by rw [hu, hB]; simp, none, 0, [], by rw [hB, hu]; exact NetAt.new w, by simp⟩
  rw [← hB, ← hu]
  clear hB hm hu w0 w1
  go_loopw [5] (fun v wr => ∃ (k : Nat), v = .int .i64 k ∧ k ≤ m ∧ SentR w B k wr) (fun v _ => m - (intOf v).toNat)
  case atStart => exact ⟨0, rfl, by omega, R0⟩
  case round =>
    obtain ⟨k, rfl, hk, hR⟩ := hrel
    by_cases hlt : (k : Int) < m
    · obtain ⟨hB, hb, hs, p, cap, ls, hN, hls⟩ := hR
      have K := Lib.hid ((send_ok B B p k cap ls ⟨k, 0, none, 0, 0, []⟩ wr hN (Lt.ok_nil _ _ _) (by omega) (by simp) (by omega)).mono (fun e w' h => SentR.step hB hb hs hN hls h rfl rfl))
      clear hB hb hs hN hls R0
      go_wp2_with fail
      refine K.out.mono ?_
      rintro e w2 ⟨rfl, hR2⟩
      have HR2 := Lib.hid hR2
      clear hR2
      go_wp2
      go_roundw
      case rel => exact ⟨k + 1, by go_num, by omega, HR2.out⟩
      case measure => simp [intOf]; omega
    · obtain rfl : k = m := by omega
      have R1 : LeftR w B 0 k wr := by
        obtain ⟨hB, hb, hs, p, cap, ls, hN, hls⟩ := hR
        exact ⟨hB, hb, hs, p, cap, ls, hN, by simpa using hls⟩
      clear hR R0 hlt hk
      go_wp2_with fail
      go_loopw [6] (fun v wr => ∃ (j : Nat), v = .int .i64 j ∧ j ≤ k ∧ LeftR w B j (k - j) wr) (fun v _ => k - (intOf v).toNat)
      case atStart => exact ⟨0, rfl, by omega, R1⟩
      case round =>
        obtain ⟨j, rfl, hj, hR⟩ := hrel
        by_cases hlt : (j : Int) < k
        · obtain ⟨n, hn⟩ : ∃ n, k - j = n + 1 := ⟨k - j - 1, by omega⟩
          rw [hn] at hR
          have hn' : k - (j + 1) = n := by omega
          have HN' := Lib.hid hn'
          obtain ⟨hB, hb, hs, p, cap, ls, hN, hls⟩ := hR
          obtain ⟨l, hl⟩ := hN.ls_get (by omega) 0
          have h0 : placeOf 0 (n + 1) = 0 := by simp [placeOf]
          rw [h0] at hl
          have K := Lib.hid (((take_some B B p (n + 1) cap ls (by omega) 0 _ hN l (by rw [h0]; exact hl) (by have := (hls 0 l hl).2; omega))).mono (fun e w' h => LeftR.step hB hb hs hN hls hl (by rw [h0] at h; exact h)))
          clear hB hb hs hN hls hn hn' h0 hl R1
          go_wp2_with fail
          refine K.out.mono ?_
          rintro e w2 ⟨l2, rfl, hl2, hR2⟩
          obtain ⟨f, t, q, m, c, bs⟩ := l2
          simp only at hl2
          subst hl2
          simp only [Lt.val]
          have HR2 := Lib.hid hR2
          clear hR2
          go_wp2
          go_roundw
          case rel => exact ⟨j + 1, by go_num, by omega, by rw [HN'.out]; exact HR2.out.grow (below_alloc _ _)⟩
          case measure => simp [intOf]; omega
        · obtain rfl : j = k := by omega
          rw [Nat.sub_self] at hR
          have HR := Lib.hid hR
          obtain ⟨hB, hb, hs, p, cap, ls, hN, hls⟩ := hR
          have K := Lib.hid (take_none B p cap 0 _ hN.cell)
          clear hB hb hs hN hls R1
          go_wp2_with fail
          refine K.out.mono ?_
          rintro e w2 ⟨rfl, h2⟩
          have HR2 := Lib.hid ((HR.out.grow h2).grow (below_alloc w2 (.cells #[.int .i64 0, .int .i64 0, .slice none 0 0] 27)))
          clear h2
          go_wp2_with fail
          refine (awake_any _).mono ?_
          rintro e w3 ⟨rfl, h3⟩
          have hR3 := HR2.out.grow h3
          have HB3 := Lib.hid hR3.2.1
          have hR2 := HR2.out
          obtain ⟨hB, hb, hs, p3, cap3, ls3, hN3, hls⟩ := hR3
          have c3 := hN3.cell
          clear hB hb hs hN3 hls h3 hR2
          go_wp2_with fail
          refine (count_any _ _ _ _ _ c3).mono ?_
          rintro e w4 ⟨rfl, rfl⟩
          go_wp2
          go_ret
          exact ⟨rfl, HB3.out⟩
end Go.Proofs.Ythnachjkjhclpaa
