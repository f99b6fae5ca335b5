/- The contract of the law's put. -/
import Derived.Test.YtpdgbpoplljpkaaPackPart
namespace Go.Proofs.Ytpdgbpoplljpkaa
open Go.RowKit
set_option linter.unusedVariables false
set_option linter.unusedSimpArgs false

theorem OutPost.of_fr {w w1 : World} {B base : Nat} {p : Option Addr} {n' : Nat} {xs' : List Int} {long : Bool} {e : Ending} {w' : World} (h : OutPost w1 B base p n' xs' long e w') (hf : Fr w w1 (fun _ => False)) : OutPost w B base p n' xs' long e w' := by
  obtain ⟨p', cap', rfl, h1, h2, h3⟩ := h
  exact ⟨p', cap', rfl, h1, fr_false hf h2, blk_new h3 hf.size⟩
/-- The ending of a function without results. -/
theorem OutPost.ret {w : World} {B base : Nat} {p : Option Addr} {n' : Nat} {xs' : List Int} {long : Bool} {e : Ending} {w' : World} (h : OutPost w B base p n' xs' long e w') : e = .returned (.tuple #[]) := by
  obtain ⟨p', cap', rfl, _⟩ := h; rfl

set_option maxRecDepth 100000 in
set_option maxHeartbeats 1600000 in
theorem put15_any (B base : Nat) (p : Option Addr) (n cap : Nat) (xs : List Int) (long : Bool) (a : Pt) (w : World) (h : OutAt w B base p n cap xs long) (ha : a.Ok w) (hqB : ∀ y, a.q = some y → 0 < a.m → y.block ≠ B ∧ blk p ≠ some y.block) (hn : n + a.m + 5000 ≤ 140737488355328) (hbase : base ≤ w.heap.size) :
    Calls Try.prog 15 #[.pointer (some ⟨B, 0, none⟩), .agg #[.int .u8 a.k, .int .u64 (a.x : Int), .slice a.q a.m a.c]] w (OutPost w B base p (n + a.bytes.length) (xs ++ a.bytes) (long || !a.good)) := by
  obtain ⟨k, x, q, m, c, bs⟩ := a
  obtain ⟨hs, hq, hk, hx⟩ := ha
  simp only at hs hq hk hx hn hqB ⊢
  have hxi : (x : Int) ≤ 18446744073709551615 := by omega
  have F : Fr w (w.alloc (.cells #[.int .u8 k, .int .u64 x, .slice q m c] 42)) (fun _ => False) := Fr.alloc w _
  have O := h.fr F (fun h => h) (fun _ _ h => h)
  have S := hs.fr F (fun _ _ _ h => h)
  have hsz : base ≤ (w.alloc (.cells #[.int .u8 k, .int .u64 x, .slice q m c] 42)).heap.size := Nat.le_trans hbase F.size
  have HF := Lib.hid F
  have hbl := hs.len
  rcases (by omega : k % 4 = 0 ∨ k % 4 = 1 ∨ k % 4 = 2 ∨ k % 4 = 3) with h4 | h4 | h4 | h4
  · have E := Lib.hid (show (Pt.mk k x q m c bs).bytes = enc x by simp [Pt.bytes, h4])
    have E2 := Lib.hid (show (Pt.mk k x q m c bs).good = true by simp [Pt.good, h4])
    have K : Hid (Calls Try.prog 20 #[.pointer (some ⟨B, 0, none⟩), .int .u64 x] (w.alloc (.cells #[.int .u8 k, .int .u64 x, .slice q m c] 42)) (OutPost w B base p (n + (Pt.mk k x q m c bs).bytes.length) (xs ++ (Pt.mk k x q m c bs).bytes) (long || !(Pt.mk k x q m c bs).good))) := by
      rw [E.out, E2.out]
      exact (outNum_any B base p n cap xs long x _ O hx (by omega) hsz).mono (fun e w' h => by
        have h' : OutPost (w.alloc (.cells #[.int .u8 k, .int .u64 x, .slice q m c] 42)) B base p (n + (enc x).length) (xs ++ enc x) long e w' := h
        simpa using h'.of_fr HF.out)
    clear hs hq h O S hbl F hqB
    go_enter Try.func15, Try.ntmps15
    go_wp2_with fail
    refine K.out.mono ?_
    intro e w1 hP
    obtain rfl := hP.ret
    have HP := Lib.hid hP
    clear hP
    go_wp2
    go_end0
    exact HP.out
  · by_cases hm : 4096 < (m : Int)
    · have E := Lib.hid (show (Pt.mk k x q m c bs).bytes = [] by simp [Pt.bytes, h4]; omega)
      have E2 := Lib.hid (show (Pt.mk k x q m c bs).good = false by simp [Pt.good, h4]; omega)
      have K : Hid (Calls Try.prog 26 #[.pointer (some ⟨B, 0, none⟩), .slice q m c] (w.alloc (.cells #[.int .u8 k, .int .u64 x, .slice q m c] 42)) (OutPost w B base p (n + (Pt.mk k x q m c bs).bytes.length) (xs ++ (Pt.mk k x q m c bs).bytes) (long || !(Pt.mk k x q m c bs).good))) := by
        rw [E.out, E2.out]
        refine (outText_long B base p n cap xs long q m c _ O hm).mono (fun e w' h => ?_)
        obtain ⟨rfl, h1, h2⟩ := h
        have h' : OutPost (w.alloc (.cells #[.int .u8 k, .int .u64 x, .slice q m c] 42)) B base p n xs true (.returned (.tuple #[])) w' := ⟨p, cap, rfl, h1, h2.mono (fun _ _ h => .inl h), fun k hk => .inl hk⟩
        simpa using h'.of_fr HF.out
      clear hs hq h O S hbl F hqB
      go_enter Try.func15, Try.ntmps15
      go_wp2_with fail
      refine K.out.mono ?_
      intro e w1 hP
      obtain rfl := hP.ret
      have HP := Lib.hid hP
      clear hP
      go_wp2
      go_end0
      exact HP.out
    · have E := Lib.hid (show (Pt.mk k x q m c bs).bytes = enc m ++ bs by simp [Pt.bytes, h4]; omega)
      have E2 := Lib.hid (show (Pt.mk k x q m c bs).good = true by simp [Pt.good, h4]; omega)
      have K : Hid (Calls Try.prog 26 #[.pointer (some ⟨B, 0, none⟩), .slice q m c] (w.alloc (.cells #[.int .u8 k, .int .u64 x, .slice q m c] 42)) (OutPost w B base p (n + (Pt.mk k x q m c bs).bytes.length) (xs ++ (Pt.mk k x q m c bs).bytes) (long || !(Pt.mk k x q m c bs).good))) := by
        rw [E.out, E2.out]
        refine (outText_ok B base p n cap xs long q m c bs _ O S hq hqB (by omega) (by omega) hsz).mono (fun e w' h => ?_)
        have h' := h.of_fr HF.out
        rw [Nat.add_assoc, List.append_assoc] at h'
        simpa [hbl] using h'
      clear hs hq h O S hbl F hqB
      go_enter Try.func15, Try.ntmps15
      go_wp2_with fail
      refine K.out.mono ?_
      intro e w1 hP
      obtain rfl := hP.ret
      have HP := Lib.hid hP
      clear hP
      go_wp2
      go_end0
      exact HP.out
  · have E := Lib.hid (show (Pt.mk k x q m c bs).bytes = bs by simp [Pt.bytes, h4])
    have E2 := Lib.hid (show (Pt.mk k x q m c bs).good = true by simp [Pt.good, h4])
    have K : Hid (Calls Try.prog 11 #[.pointer (some ⟨B, 0, none⟩), .slice q m c] (w.alloc (.cells #[.int .u8 k, .int .u64 x, .slice q m c] 42)) (OutPost w B base p (n + (Pt.mk k x q m c bs).bytes.length) (xs ++ (Pt.mk k x q m c bs).bytes) (long || !(Pt.mk k x q m c bs).good))) := by
      rw [E.out, E2.out]
      exact (outRaw_any B base p n cap xs long q m c bs _ O S hq (by omega) hsz).mono (fun e w' h => by
        have h' : OutPost (w.alloc (.cells #[.int .u8 k, .int .u64 x, .slice q m c] 42)) B base p (n + m) (xs ++ bs) long e w' := h
        simpa [hbl] using h'.of_fr HF.out)
    clear hs hq h O S hbl F hqB
    go_enter Try.func15, Try.ntmps15
    go_wp2_with fail
    refine K.out.mono ?_
    intro e w1 hP
    obtain rfl := hP.ret
    have HP := Lib.hid hP
    clear hP
    go_wp2
    go_end0
    exact HP.out
  · have E := Lib.hid (show (Pt.mk k x q m c bs).bytes = [(x : Int) % 2] by simp [Pt.bytes, h4])
    have E2 := Lib.hid (show (Pt.mk k x q m c bs).good = true by simp [Pt.good, h4])
    have K : Hid (∀ f : Bool, f = ((x : Int) % 2 == 1) → Calls Try.prog 27 #[.pointer (some ⟨B, 0, none⟩), .bool f] (w.alloc (.cells #[.int .u8 k, .int .u64 x, .slice q m c] 42)) (OutPost w B base p (n + (Pt.mk k x q m c bs).bytes.length) (xs ++ (Pt.mk k x q m c bs).bytes) (long || !(Pt.mk k x q m c bs).good))) := by
      intro f hf
      rw [E.out, E2.out]
      have e : (x : Int) % 2 = if f then 1 else 0 := by
        rw [hf]
        rcases (by omega : (x : Int) % 2 = 0 ∨ (x : Int) % 2 = 1) with h | h <;> simp [h]
      rw [e]
      exact (outFlag_any B base p n cap xs long f _ O (by omega) hsz).mono (fun e w' h => by simpa using h.of_fr HF.out)
    clear hs hq h O S hbl F hqB
    go_enter Try.func15, Try.ntmps15
    go_wp2_with fail
    refine (K.out _ ?_).mono ?_
    · rfl
    intro e w1 hP
    obtain rfl := hP.ret
    have HP := Lib.hid hP
    clear hP
    go_wp2
    go_end0
    exact HP.out
end Go.Proofs.Ytpdgbpoplljpkaa
