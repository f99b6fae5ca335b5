/- The contracts of Out.Text, Out.Flag and the law's awake. -/
import Derived.Test.YtpdgbpoplljpkaaPackNum
namespace Go.Proofs.Ytpdgbpoplljpkaa
open Go.RowKit
set_option linter.unusedVariables false
set_option linter.unusedSimpArgs false

theorem fr_false {a b c : World} {T : Nat → Prop} (h : Fr a b (fun _ => False)) (k : Fr b c T) : Fr a c T :=
  (h.trans k).mono (fun i _ hi => hi.elim (fun e => e.elim) id)
theorem blk_new {w w1 : World} {p p1 : Option Addr} (h : ∀ k, blk p1 = some k → blk p = some k ∨ w1.heap.size ≤ k) (hs : w.heap.size ≤ w1.heap.size) : ∀ k, blk p1 = some k → blk p = some k ∨ w.heap.size ≤ k := by
  intro k hk
  rcases h k hk with h | h
  · exact .inl h
  · right; omega
theorem enc_le (x : Nat) : (enc x).length ≤ 10 := by
  have : ∀ f x, (encF f x).length ≤ f + 1 := by
    intro f
    induction f with
    | zero => intro x; simp [encF]
    | succ f ih => intro x; simp only [encF]; split <;> simp <;> have := ih (x / 128) <;> omega
  exact this 9 x
theorem enc_rng (x : Nat) (h : x < 18446744073709551616) : ∀ v ∈ enc x, 0 ≤ v ∧ v ≤ 255 := by
  have : ∀ f x, x < 128 ^ (f + 1) → ∀ v ∈ encF f x, 0 ≤ v ∧ v ≤ 255 := by
    intro f
    induction f with
    | zero => intro x hx v hv; simp [encF] at hv hx; omega
    | succ f ih =>
      intro x hx v hv
      simp only [encF] at hv
      split at hv
      · rcases List.mem_cons.1 hv with rfl | hv
        · omega
        · refine ih (x / 128) ?_ v hv
          rw [Nat.pow_succ] at hx
          exact Nat.div_lt_of_lt_mul (by omega)
      · simp at hv; omega
  exact this 9 x (by omega)

/-- What a packing call leaves (a definition, so that the walk leaves it standing). -/
def OutPost (w : World) (B base : Nat) (p : Option Addr) (n' : Nat) (xs' : List Int) (long : Bool) (e : Ending) (w' : World) : Prop :=
  ∃ p' cap', e = .returned (.tuple #[]) ∧ OutAt w' B base p' n' cap' xs' long ∧ Fr w w' (fun k => k = B ∨ some k = blk p) ∧ (∀ k, blk p' = some k → blk p = some k ∨ w.heap.size ≤ k)

set_option maxHeartbeats 400000 in
theorem outFlag_any (B base : Nat) (p : Option Addr) (n cap : Nat) (xs : List Int) (long : Bool) (f : Bool) (w : World) (h : OutAt w B base p n cap xs long)
    (hn : n + 1 ≤ 140737488355328) (hbase : base ≤ w.heap.size) :
    Calls Try.prog 27 #[.pointer (some ⟨B, 0, none⟩), .bool f] w (OutPost w B base p (n + 1) (xs ++ [if f then 1 else 0]) long) := by
  cases f
  · have HO := Lib.hid (h.fr (Fr.alloc w (.cells #[.int .u8 0] 5)) (fun h => h) (fun _ _ h => h))
    have HS := Lib.hid (src_one w 0 (by omega))
    clear h
    go_enter Try.func27, Try.ntmps27
    go_wp2_with (go_at_call 25; refine (put_any B base p n cap xs long _ 1 1 [0] _ HO.out HS.out (fun e => by cases e) (by omega) (by simp; omega)).mono ?_; rintro e w1 ⟨p1, cap1, rfl, h1, h2, h3⟩)
    go_end0
    exact ⟨p1, cap1, rfl, h1, fr_false (Fr.alloc w _) h2, blk_new h3 (by simp)⟩
  · have HO := Lib.hid (h.fr (Fr.alloc w (.cells #[.int .u8 1] 5)) (fun h => h) (fun _ _ h => h))
    have HS := Lib.hid (src_one w 1 (by omega))
    clear h
    go_enter Try.func27, Try.ntmps27
    go_wp2_with (go_at_call 25; refine (put_any B base p n cap xs long _ 1 1 [1] _ HO.out HS.out (fun e => by cases e) (by omega) (by simp; omega)).mono ?_; rintro e w1 ⟨p1, cap1, rfl, h1, h2, h3⟩)
    go_end0
    exact ⟨p1, cap1, rfl, h1, fr_false (Fr.alloc w _) h2, blk_new h3 (by simp)⟩

set_option maxHeartbeats 400000 in
theorem outText_long (B base : Nat) (p : Option Addr) (n cap : Nat) (xs : List Int) (long : Bool) (q : Option Addr) (m c : Nat) (w : World) (h : OutAt w B base p n cap xs long) (hm : 4096 < (m : Int)) :
    Calls Try.prog 26 #[.pointer (some ⟨B, 0, none⟩), .slice q m c] w fun e w' => e = .returned (.tuple #[]) ∧ OutAt w' B base p n cap xs true ∧ Fr w w' (fun k => k = B) := by
  have hc := h.cells
  have c1 : w.cell? ⟨B, 1, none⟩ = some (.bool long) := by rw [cell_of_row w B _ _ _ _ hc]; rfl
  have f1 : w.frozen? ⟨B, 1, none⟩ = false := frozen_of_row w B 1 _ _ hc
  have HC := Lib.hid hc
  have HO := Lib.hid h.own
  clear hc h
  go_enter Try.func26, Try.ntmps26
  go_wp2
  first | go_end0 | refine bodyPost_ret (results_none rfl _ _ _) rfl ?_
  exact ⟨rfl, ⟨by rw [heap_setCell_same w B 1 _ _ _ HC.out]; rfl, HO.out.fr (Fr.setCell w ⟨B, 1, none⟩ _) (fun k hk e => HO.out.ne HC.out (by decide) (by rw [hk]; exact congrArg some e.symm))⟩, Fr.setCell w ⟨B, 1, none⟩ _⟩

set_option maxHeartbeats 400000 in
theorem outText_ok (B base : Nat) (p : Option Addr) (n cap : Nat) (xs : List Int) (long : Bool) (q : Option Addr) (m c : Nat) (ys : List Int) (w : World) (h : OutAt w B base p n cap xs long) (hs : Src w q m ys) (hq : q = none → c = 0)
    (hqB : ∀ a, q = some a → 0 < m → a.block ≠ B ∧ blk p ≠ some a.block) (hm : (m : Int) ≤ 4096) (hn : n + 5000 ≤ 140737488355328) (hbase : base ≤ w.heap.size) :
    Calls Try.prog 26 #[.pointer (some ⟨B, 0, none⟩), .slice q m c] w (OutPost w B base p (n + (enc m).length + m) (xs ++ enc m ++ ys) long) := by
  have H := Lib.hid h
  have HS := Lib.hid hs
  have HQB := Lib.hid hqB
  have hel := enc_le m
  clear h hs hqB
  go_enter Try.func26, Try.ntmps26
  go_wp2_with (first | (go_at_call 20; refine (outNum_any B base p n cap xs long m w H.out (by omega) (by omega) hbase).mono ?_; rintro e w1 ⟨p1, cap1, rfl, h1, h2, h3⟩; have hsz := h2.size; have HS1 := Lib.hid (HS.out.fr h2 (fun hpos a ha e => by have := HQB.out a ha hpos; exact e.elim this.1 (fun e => this.2 e.symm))); have HH2 := Lib.hid h2; have HH3 := Lib.hid h3; clear h2 h3) | (go_at_call 11; refine (outRaw_any B base _ _ _ _ long q m c ys _ h1 HS1.out hq (by omega) (by omega)).mono ?_; rintro e w2 ⟨p2, cap2, rfl, k1, k2, k3⟩))
  go_end0
  refine ⟨p2, cap2, rfl, k1, (HH2.out.trans k2).mono ?_, ?_⟩
  · intro k hlt hk
    rcases hk with hk | hk | hk
    · exact hk
    · exact .inl hk
    · rcases HH3.out k hk.symm with h | h
      · exact .inr h.symm
      · omega
  · intro k hk
    rcases k3 k hk with h | h
    · exact HH3.out k h
    · right; omega

set_option maxHeartbeats 800000 in
theorem awake_any (w : World) : Calls Try.prog 8 #[] w fun e w' => e = .returned (.bool true) ∧ Below w.heap.size w w' := by
  have e300 : enc 300 = [172, 2] := by decide
  have O0 : OutAt (w.alloc (.cells #[.slice none 0 0, .bool false] 30)) w.heap.size w.heap.size none 0 0 [] false := ⟨heap_alloc_new _ _, Own.nil _ _⟩
  have K := outNum_any w.heap.size w.heap.size none 0 0 [] false 300 _ O0 (by omega) (by omega) (by simp)
  rw [e300] at K
  have HK := Lib.hid (show Calls Try.prog 20 #[.pointer (some ⟨w.heap.size, 0, none⟩), .int .u64 300] (w.alloc (.cells #[.slice none 0 0, .bool false] 30)) _ from K)
  clear O0 e300 K
  go_enter Try.func8, Try.ntmps8
  go_wp2_with (first | (go_at_call 20; refine HK.out.mono ?_; rintro e w1 ⟨p1, cap1, rfl, h1, h2, h3⟩; have HH2 := Lib.hid h2; clear h2 h3) | (go_at_call 12; refine (end_ok w.heap.size w.heap.size _ 2 _ _ _ h1 (by decide)).mono ?_; rintro e w2 ⟨p2, cap2, rfl, k1, k2⟩; obtain ⟨g, o, rfl, hcell⟩ := k1.src.mem (by omega); have c0 : w2.cell? ⟨g, o, none⟩ = some (.int .u8 172) := hcell 0 (by omega); clear hcell))
  go_ret
  refine ⟨rfl, (below_alloc w _).trans ((HH2.out.below (by simp) ?_).trans (k2.mono ?_))⟩
  · intro k hk e
    rcases e with e | e
    · omega
    · cases e
  · have := HH2.out.size; simp at this; omega
end Go.Proofs.Ytpdgbpoplljpkaa
