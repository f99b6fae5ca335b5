/- The contract of the law's take. -/
import Derived.Test.YtpdgbpoplljpkaaPackTake
namespace Go.Proofs.Ytpdgbpoplljpkaa
open Go.RowKit
set_option linter.unusedVariables false
set_option linter.unusedSimpArgs false

/-- The world with a part laid in a box. -/
def boxed (w : World) (k : Int) (x : Nat) (q : Option Addr) (m c : Nat) : World := w.alloc (.cells #[.int .u8 k, .int .u64 x, .slice q m c] 42)
theorem fr_boxed (w : World) (k : Int) (x : Nat) (q : Option Addr) (m c : Nat) : Fr w (boxed w k x q m c) (fun _ => False) := Fr.alloc w _

section
variable (B : Nat) (k : Int) (x : Nat) (q : Option Addr) (m c : Nat) (w : World) (hk : 0 ≤ k ∧ k ≤ 255) (P : Ending → World → Prop)
include hk

set_option maxHeartbeats 400000 in
theorem take21_0 (h4 : k % 4 = 0) (K : Calls Try.prog 17 #[.pointer (some ⟨B, 0, none⟩), .int .u64 x] (w.alloc (.cells #[.int .u8 k, .int .u64 x, .slice q m c] 42)) (fun e w1 => ∃ v : Nat, e = .returned (.int .u64 v) ∧ P (.returned (.tuple #[.int .u64 v, .slice none 0 0])) w1)) :
    Calls Try.prog 21 #[.pointer (some ⟨B, 0, none⟩), .agg #[.int .u8 k, .int .u64 x, .slice q m c]] w P := by
  have HK := Lib.hid K
  clear K
  go_enter Try.func21, Try.ntmps21
  go_wp2_with fail
  refine HK.out.mono ?_
  rintro e w1 ⟨v, rfl, hP⟩
  have HP := Lib.hid hP
  clear hP
  go_wp2
  exact HP.out

set_option maxHeartbeats 400000 in
theorem take21_1 (h4 : k % 4 = 1) (ix : Int) (hix : IntKind.i64.wrap (x : Int) = ix) (K : Calls Try.prog 30 #[.pointer (some ⟨B, 0, none⟩), .int .i64 ix] (w.alloc (.cells #[.int .u8 k, .int .u64 x, .slice q m c] 42)) (fun e w1 => ∃ a n' c', e = .returned (.slice a n' c') ∧ P (.returned (.tuple #[.int .u64 0, .slice a n' c'])) w1)) :
    Calls Try.prog 21 #[.pointer (some ⟨B, 0, none⟩), .agg #[.int .u8 k, .int .u64 x, .slice q m c]] w P := by
  have HK := Lib.hid K
  clear K
  go_enter Try.func21, Try.ntmps21
  go_wp2_with fail
  refine HK.out.mono ?_
  rintro e w1 ⟨a, n', c', rfl, hP⟩
  have HP := Lib.hid hP
  clear hP
  go_wp2
  exact HP.out

set_option maxHeartbeats 400000 in
theorem take21_2 (h4 : k % 4 = 2) (ix : Int) (hix : IntKind.i64.wrap (x : Int) = ix) (K : Calls Try.prog 10 #[.pointer (some ⟨B, 0, none⟩), .int .i64 ix] (w.alloc (.cells #[.int .u8 k, .int .u64 x, .slice q m c] 42)) (fun e w1 => ∃ a n' c', e = .returned (.slice a n' c') ∧ P (.returned (.tuple #[.int .u64 0, .slice a n' c'])) w1)) :
    Calls Try.prog 21 #[.pointer (some ⟨B, 0, none⟩), .agg #[.int .u8 k, .int .u64 x, .slice q m c]] w P := by
  have HK := Lib.hid K
  clear K
  go_enter Try.func21, Try.ntmps21
  go_wp2_with fail
  refine HK.out.mono ?_
  rintro e w1 ⟨a, n', c', rfl, hP⟩
  have HP := Lib.hid hP
  clear hP
  go_wp2
  exact HP.out

set_option maxHeartbeats 400000 in
theorem take21_3 (h4 : k % 4 = 3) (K : Calls Try.prog 31 #[.pointer (some ⟨B, 0, none⟩)] (w.alloc (.cells #[.int .u8 k, .int .u64 x, .slice q m c] 42)) (fun e w1 => ∃ f : Bool, e = .returned (.bool f) ∧ P (.returned (.tuple #[.int .u64 (if f then 1 else 0), .slice none 0 0])) w1)) :
    Calls Try.prog 21 #[.pointer (some ⟨B, 0, none⟩), .agg #[.int .u8 k, .int .u64 x, .slice q m c]] w P := by
  have HK := Lib.hid K
  clear K
  go_enter Try.func21, Try.ntmps21
  go_wp2_with fail
  refine HK.out.mono ?_
  rintro e w1 ⟨f, rfl, hP⟩
  have HP := Lib.hid hP
  clear hP
  cases f
  · go_wp2
    exact HP.out
  · go_wp2
    exact HP.out
end

/-- What is taken where a text stands: the number, the bytes, and how many. -/
def got (xs : List Int) (k : Int) (X : Nat) : Option (Nat × List Int × Nat) :=
  if k % 4 = 0 then (if (dec xs).2 = 0 ∨ X < (dec xs).1 then none else some ((dec xs).1, [], (dec xs).2))
  else if k % 4 = 1 then (if (dec xs).2 = 0 ∨ 9223372036854775807 < X ∨ X < (dec xs).1 ∨ 4096 < (dec xs).1 ∨ xs.length < (dec xs).2 + (dec xs).1 then none else some (0, (xs.drop (dec xs).2).take (dec xs).1, (dec xs).2 + (dec xs).1))
  else if k % 4 = 2 then (if 9223372036854775807 < X ∨ xs.length < X then none else some (0, xs.take X, X))
  else (if xs.length = 0 ∨ 1 < xs.getD 0 0 then none else some ((xs.getD 0 0).toNat, [], 1))

theorem got_0 {xs : List Int} {k : Int} {X : Nat} (h : k % 4 = 0) : got xs k X = (if (dec xs).2 = 0 ∨ X < (dec xs).1 then none else some ((dec xs).1, [], (dec xs).2)) := by unfold got; rw [if_pos h]
theorem got_1 {xs : List Int} {k : Int} {X : Nat} (h : k % 4 = 1) : got xs k X = (if (dec xs).2 = 0 ∨ 9223372036854775807 < X ∨ X < (dec xs).1 ∨ 4096 < (dec xs).1 ∨ xs.length < (dec xs).2 + (dec xs).1 then none else some (0, (xs.drop (dec xs).2).take (dec xs).1, (dec xs).2 + (dec xs).1)) := by unfold got; rw [if_neg (by omega), if_pos h]
theorem got_2 {xs : List Int} {k : Int} {X : Nat} (h : k % 4 = 2) : got xs k X = (if 9223372036854775807 < X ∨ xs.length < X then none else some (0, xs.take X, X)) := by unfold got; rw [if_neg (by omega), if_neg (by omega), if_pos h]
theorem got_3 {xs : List Int} {k : Int} {X : Nat} (h : k % 4 = 3) : got xs k X = (if xs.length = 0 ∨ 1 < xs.getD 0 0 then none else some ((xs.getD 0 0).toNat, [], 1)) := by unfold got; rw [if_neg (by omega), if_neg (by omega), if_neg (by omega)]

/-- What a take leaves. -/
def Took (w : World) (B : Nat) (y : Nat) (ts : List Int) (j n cap : Nat) (xs : List Int) (bad : Bool) (e : Ending) (w' : World) : Prop :=
  ∃ pt capt q, e = .returned (.tuple #[.int .u64 (y : Int), .slice pt ts.length capt]) ∧ Own w' w.heap.size pt ts.length capt ts ∧ InAt w' B q (n - j) (cap - j) (xs.drop j) bad ∧ Fr w w' (fun i => i = B)
def TookPost (w : World) (B : Nat) (o : Option (Nat × List Int × Nat)) (n cap : Nat) (xs : List Int) (e : Ending) (w' : World) : Prop :=
  match o with
  | none => Took w B 0 [] 0 n cap xs true e w'
  | some (y, ts, j) => Took w B y ts j n cap xs false e w'

theorem InAt.frF {w w' : World} {B : Nat} {p : Option Addr} {n cap : Nat} {xs : List Int} {bad : Bool} (h : InAt w B p n cap xs bad) (hf : Fr w w' (fun _ => False)) : InAt w' B p n cap xs bad := ⟨hf.heap h.cells (fun h => h), h.src.fr hf (fun _ _ _ h => h), h.le, h.nil, h.big⟩

theorem take21_any (B : Nat) (p : Option Addr) (n cap : Nat) (xs : List Int) (bad : Bool) (k : Int) (x : Nat) (q : Option Addr) (m c : Nat) (w : World) (hk : 0 ≤ k ∧ k ≤ 255) (hx : x < 18446744073709551616) (h : InAt w B p n cap xs bad) :
    Calls Try.prog 21 #[.pointer (some ⟨B, 0, none⟩), .agg #[.int .u8 k, .int .u64 x, .slice q m c]] w (TookPost w B (if bad then none else got xs k x) n cap xs) := by
  have F : Fr w (w.alloc (.cells #[.int .u8 k, .int .u64 x, .slice q m c] 42)) (fun _ => False) := Fr.alloc w _
  have I := h.frF F
  have hl := h.src.len
  have big := h.big
  obtain ⟨ix, hix⟩ : ∃ ix, IntKind.i64.wrap (x : Int) = ix := ⟨_, rfl⟩
  have hix2 : ((x : Int) ≤ 9223372036854775807 ∧ ix = x) ∨ (9223372036854775807 < (x : Int) ∧ ix < 0) := by
    by_cases h : (x : Int) ≤ 9223372036854775807
    · exact .inl ⟨h, by rw [← hix]; exact IntWalk.i64_in _ (by omega)⟩
    · refine .inr ⟨by omega, ?_⟩
      rw [← hix]
      simp [IntKind.wrap, IntKind.bits, IntKind.signed]
      omega
  have bads : ∀ (e : Ending) (w' : World), e = .returned (.tuple #[.int .u64 0, .slice none 0 0]) → InAt w' B p n cap xs true → Fr (w.alloc (.cells #[.int .u8 k, .int .u64 x, .slice q m c] 42)) w' (fun i => i = B) → Took w B 0 [] 0 n cap xs true e w' :=
    fun e w' he h1 h2 => ⟨none, 0, p, he, Own.nil _ _, by simpa using h1, fr_false F h2⟩
  rcases (by omega : k % 4 = 0 ∨ k % 4 = 1 ∨ k % 4 = 2 ∨ k % 4 = 3) with h4 | h4 | h4 | h4
  · refine take21_0 B k x q m c w hk _ h4 ?_
    by_cases hb : bad = true ∨ (dec xs).2 = 0 ∨ x < (dec xs).1
    · have e : (if bad then none else got xs k x) = none := by
        rcases hb with hb | hb
        · rw [hb]; rfl
        · rw [got_0 h4, if_pos hb]; cases bad <;> rfl
      rw [e]
      exact (inNum_bad B p n cap xs bad x _ I (hb.imp_right fun h => by omega)).mono fun e w' ⟨h1, h2, h3⟩ => ⟨0, h1, bads _ _ rfl h2 h3⟩
    · obtain ⟨hb1, hb2⟩ : bad = false ∧ ¬ ((dec xs).2 = 0 ∨ x < (dec xs).1) := ⟨by cases bad; rfl; exact absurd (.inl rfl) hb, fun h => hb (.inr h)⟩
      subst hb1
      have e : (if false = true then none else got xs k x) = some ((dec xs).1, [], (dec xs).2) := by
        rw [got_0 h4, if_neg hb2]; rfl
      rw [e]
      refine (inNum_ok B p n cap xs x _ I (by omega) (by omega)).mono fun e w' ⟨q', h1, h2, h3⟩ => ⟨_, h1, none, 0, q', rfl, Own.nil _ _, h2, fr_false F h3⟩
  · refine take21_1 B k x q m c w hk _ h4 ix hix ?_
    by_cases hb : bad = true ∨ (dec xs).2 = 0 ∨ 9223372036854775807 < x ∨ x < (dec xs).1 ∨ 4096 < (dec xs).1 ∨ xs.length < (dec xs).2 + (dec xs).1
    · have e : (if bad then none else got xs k x) = none := by
        rcases hb with hb | hb
        · rw [hb]; rfl
        · rw [got_1 h4, if_pos hb]; cases bad <;> rfl
      rw [e]
      exact (inText_bad B p n cap xs bad ix _ I (by omega) (hb.imp_right fun h => by omega)).mono fun e w' ⟨h1, h2, h3⟩ => ⟨_, _, _, h1, bads _ _ rfl h2 h3⟩
    · obtain ⟨hb1, hb2⟩ : bad = false ∧ ¬ ((dec xs).2 = 0 ∨ 9223372036854775807 < x ∨ x < (dec xs).1 ∨ 4096 < (dec xs).1 ∨ xs.length < (dec xs).2 + (dec xs).1) := ⟨by cases bad; rfl; exact absurd (.inl rfl) hb, fun h => hb (.inr h)⟩
      subst hb1
      have e : (if false = true then none else got xs k x) = some (0, (xs.drop (dec xs).2).take (dec xs).1, (dec xs).2 + (dec xs).1) := by
        rw [got_1 h4, if_neg hb2]; rfl
      rw [e]
      refine (inText_ok B p n cap xs ix _ I (by omega) (by omega) (by omega) (by omega) (by omega) (by omega)).mono fun e w' ⟨p', cap', q', h1, h2, h3, h4⟩ => ⟨_, _, _, h1, p', cap', q', rfl, h2.base F.size, h3, fr_false F h4⟩
  · refine take21_2 B k x q m c w hk _ h4 ix hix ?_
    by_cases hb : bad = true ∨ 9223372036854775807 < x ∨ xs.length < x
    · have e : (if bad then none else got xs k x) = none := by
        rcases hb with hb | hb
        · rw [hb]; rfl
        · rw [got_2 h4, if_pos hb]; cases bad <;> rfl
      rw [e]
      exact (inRaw_bad B p n cap xs bad ix _ I (hb.imp_right fun h => by omega)).mono fun e w' ⟨h1, h2, h3⟩ => ⟨_, _, _, h1, bads _ _ rfl h2 h3⟩
    · obtain ⟨hb1, hb2⟩ : bad = false ∧ ¬ (9223372036854775807 < x ∨ xs.length < x) := ⟨by cases bad; rfl; exact absurd (.inl rfl) hb, fun h => hb (.inr h)⟩
      subst hb1
      have e : (if false = true then none else got xs k x) = some (0, xs.take x, x) := by
        rw [got_2 h4, if_neg hb2]; rfl
      rw [e]
      obtain rfl : ix = x := by omega
      have hlt : (xs.take x).length = x := by rw [List.length_take]; omega
      refine (inRaw_ok B p n cap xs x _ I (by omega)).mono fun e w' ⟨p', cap', q', h1, h2, h3, h4⟩ => ⟨_, _, _, h1, p', cap', q', by rw [hlt]; rfl, by rw [hlt]; exact h2.base F.size, h3, fr_false F h4⟩
  · refine take21_3 B k x q m c w hk _ h4 ?_
    by_cases hb : bad = true ∨ xs.length = 0 ∨ 1 < xs.getD 0 0
    · have e : (if bad then none else got xs k x) = none := by
        rcases hb with hb | hb
        · rw [hb]; rfl
        · rw [got_3 h4, if_pos hb]; cases bad <;> rfl
      rw [e]
      exact (inFlag_bad B p n cap xs bad _ I (hb.imp_right fun h => by omega)).mono fun e w' ⟨h1, h2, h3⟩ => ⟨_, h1, bads _ _ rfl h2 h3⟩
    · obtain ⟨hb1, hb2⟩ : bad = false ∧ ¬ (xs.length = 0 ∨ 1 < xs.getD 0 0) := ⟨by cases bad; rfl; exact absurd (.inl rfl) hb, fun h => hb (.inr h)⟩
      subst hb1
      have e : (if false = true then none else got xs k x) = some ((xs.getD 0 0).toNat, [], 1) := by
        rw [got_3 h4, if_neg hb2]; rfl
      rw [e]
      have hr : 0 ≤ xs.getD 0 0 ∧ xs.getD 0 0 ≤ 255 := by
        have : 0 < xs.length := by omega
        simp only [List.getD, List.getElem?_eq_getElem this, Option.getD_some]
        exact h.src.rng _ (List.getElem_mem _)
      have hv : (if (xs.getD 0 0 == 1) = true then (1 : Int) else 0) = ((xs.getD 0 0).toNat : Int) := by
        rcases (by omega : xs.getD 0 0 = 0 ∨ xs.getD 0 0 = 1) with h | h <;> rw [h] <;> decide
      refine (inFlag_ok B p n cap xs _ I (by omega) (by omega)).mono fun e w' ⟨q', h1, h2, h3⟩ => ⟨_, h1, none, 0, q', by rw [hv]; rfl, Own.nil _ _, h2, fr_false F h3⟩
end Go.Proofs.Ytpdgbpoplljpkaa
