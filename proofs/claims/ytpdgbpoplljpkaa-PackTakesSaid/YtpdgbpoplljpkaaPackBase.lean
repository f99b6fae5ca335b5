/- The contracts of bytes.Clone and of package pack's smallest methods. -/
import Derived.Test.YtpdgbpoplljpkaaRows
import Derived.Test.YtpdgbpoplljpkaaBuf
import Derived.Test.YtpdgbpoplljpkaaRet
namespace Go.Proofs.Ytpdgbpoplljpkaa
open Go.RowKit
set_option linter.unusedVariables false
set_option linter.unusedSimpArgs false

theorem Try.info5 : (Try.prog.info? 5).map (fun i => (i.zero, i.size, i.bytes)) = some (some (.int .u8 0), 1, 1) := by kernel_rfl
theorem Try.sizeOf5 (w : World) : (sizeOf 5).run Try.prog w = .ok 1 w := by kernel_rfl

set_option maxHeartbeats 400000 in
theorem clone_any (p : Option Addr) (n c : Nat) (xs : List Int) (w : World) (h : Src w p n xs) (hp : p = none → n = 0 ∧ c = 0) (hn : n ≤ 140737488355328) :
    Calls Try.prog 23 #[.slice p n c] w fun e w' => ∃ p' cap', e = .returned (.slice p' n cap') ∧ Own w' w.heap.size p' n cap' xs ∧ Below w.heap.size w w' := by
  cases p with
  | none =>
    obtain ⟨rfl, rfl⟩ := hp rfl
    obtain rfl : xs = [] := List.eq_nil_of_length_eq_zero h.len
    have q22 := Lib.run_eql_slice_nil (P := Try.prog) w 22 5 none 0 0 0 0 Try.underlying22
    go_enter Try.func23, Try.ntmps23
    go_wp2
    go_ret
    exact ⟨none, 0, rfl, Own.nil _ _, Below.refl _ _⟩
  | some a =>
    have q22 := Lib.run_eql_slice_nil (P := Try.prog) w 22 5 (some a) n c 0 0 Try.underlying22
    have h' := h.below (below_alloc w (.cells #[] 5))
    have ho := Own.empty w
    have hq : some a = none → c = 0 := fun e => by cases e
    clear hp
    go_enter Try.func23, Try.ntmps23
    go_wp2_with (at_builtin; refine wpList_append_bytes rfl (.tmp 5) (.tmp 6) 22 rfl w.heap.size Try.underlying22 Try.info5 (some ⟨w.heap.size, 0, none⟩) 0 0 [] rfl ho (some a) n c xs rfl h' hq (by omega) (by simp) ?_)
    intro p' cap' w1 hown hg _ _
    try simp only [Nat.zero_add, List.nil_append] at hown
    try rw [Nat.zero_add]
    have hb : Below w.heap.size w w1 := (below_alloc w (.cells #[] 5)).trans ((Fr.of_grown hg).below (by simp) (fun k hk => by simp [blk]; omega))
    go_wp2
    go_ret
    exact ⟨p', cap', rfl, hown, hb⟩

/-- A pack.Out in block B. -/
structure OutAt (w : World) (B base : Nat) (p : Option Addr) (n cap : Nat) (xs : List Int) (long : Bool) : Prop where
  cells : w.heap[B]? = some (.cells #[.slice p n cap, .bool long] 30 (0, 0))
  own : Own w base p n cap xs
/-- A pack.In in block B. -/
structure InAt (w : World) (B : Nat) (p : Option Addr) (n cap : Nat) (xs : List Int) (bad : Bool) : Prop where
  cells : w.heap[B]? = some (.cells #[.slice p n cap, .bool bad] 55 (0, 0))
  src : Src w p n xs
  le : n ≤ cap
  nil : p = none → cap = 0
  big : n ≤ 140737488355328

theorem InAt.ne {w : World} {B : Nat} {p : Option Addr} {n cap : Nat} {xs : List Int} {bad : Bool} (h : InAt w B p n cap xs bad) (hn : 0 < n) : ∀ a, p = some a → ¬ a.block = B := by
  intro a ha e
  obtain ⟨b, o, rfl, hc⟩ := h.src.mem hn
  obtain rfl := Option.some.inj ha
  simp only at e
  subst e
  have := hc 0 hn
  rw [cell_of_row w b (o + 0) _ _ _ h.cells] at this
  rcases o with _ | _ | o <;> simp at this

set_option maxHeartbeats 400000 in
theorem put_any (B base : Nat) (p : Option Addr) (n cap : Nat) (xs : List Int) (long : Bool) (q : Option Addr) (m c : Nat) (ys : List Int) (w : World) (h : OutAt w B base p n cap xs long) (hs : Src w q m ys) (hq : q = none → c = 0)
    (hn : n + m ≤ 140737488355328) (hbase : base ≤ w.heap.size) :
    Calls Try.prog 25 #[.pointer (some ⟨B, 0, none⟩), .slice q m c] w fun e w' => ∃ p' cap', e = .returned (.tuple #[]) ∧ OutAt w' B base p' (n + m) cap' (xs ++ ys) long ∧ Fr w w' (fun k => k = B ∨ some k = blk p) ∧ (∀ k, blk p' = some k → blk p = some k ∨ w.heap.size ≤ k) := by
  obtain ⟨hc, ho⟩ := h
  have c0 : w.cell? ⟨B, 0, none⟩ = some (.slice p n cap) := by rw [cell_of_row w B 0 _ _ _ hc]; rfl
  have c1 : w.cell? ⟨B, 0 + 1, none⟩ = some (.bool long) := by rw [cell_of_row w B _ _ _ _ hc]; rfl
  have HC := Lib.hid hc
  have HO := Lib.hid ho
  have HS := Lib.hid hs
  have HN := Lib.hid (ho.ne hc (by decide))
  clear hc ho hs
  go_enter Try.func25, Try.ntmps25
  go_wp2_with (at_builtin; refine wpList_append_bytes rfl (.tmp 8) (.tmp 9) 22 rfl base Try.underlying22 Try.info5 p n cap xs rfl HO.out q m c ys rfl HS.out hq hn hbase ?_)
  intro p' cap' w1 hown hg _ hk
  have hf := Fr.of_grown hg
  have hB := hf.heap HC.out (fun e => HN.out e)
  have d0 : w1.cell? ⟨B, 0, none⟩ = some (.slice p n cap) := by rw [cell_of_row w1 B 0 _ _ _ hB]; rfl
  have f0 : w1.frozen? ⟨B, 0, none⟩ = false := frozen_of_row w1 B 0 _ _ hB
  have HB := Lib.hid hB
  have HG := Lib.hid hf
  have HW := Lib.hid hown
  clear hB hf hown hg c0 c1
  go_wp2
  go_end0
  refine ⟨p', cap', rfl, ⟨?_, HW.out.fr (Fr.setCell w1 ⟨B, 0, none⟩ _) (fun k hk e => HW.out.ne HB.out (by decide) (by rw [hk, e]))⟩, (HG.out.trans (Fr.setCell w1 ⟨B, 0, none⟩ _)).mono ?_, hk.out⟩
  · rw [heap_setCell_same w1 B 0 _ _ _ HB.out]; rfl
  · intro k _ hk
    rcases hk with hk | hk
    · exact .inr hk
    · exact .inl hk
end Go.Proofs.Ytpdgbpoplljpkaa
