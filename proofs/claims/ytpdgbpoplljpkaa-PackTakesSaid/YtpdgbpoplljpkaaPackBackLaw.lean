/- What was packed is taken. -/
import Derived.Test.YtpdgbpoplljpkaaPackTake21
import Derived.Test.YtpdgbpoplljpkaaPackPutsWalk
namespace Go.Proofs.Ytpdgbpoplljpkaa
open Go.RowKit
set_option linter.unusedVariables false
set_option linter.unusedSimpArgs false

theorem decF_encF : ∀ (f y x0 : Nat) (ys : List Int), f ≤ 9 → y < 2 * 128 ^ f → (f < 9 → 0 < y) → decF (9 - f) x0 (encF f y ++ ys) = (x0 + y * 128 ^ (9 - f), 9 - f + (encF f y).length)
  | 0, y, x0, ys, _, hy, h0 => by
    have h1 := h0 (by omega)
    obtain rfl : y = 1 := by omega
    simp [encF, decF]
  | f + 1, y, x0, ys, hf, hy, h0 => by
    obtain ⟨n, hn⟩ : ∃ n, 9 - (f + 1) = n := ⟨_, rfl⟩
    rw [hn]
    simp only [encF]
    by_cases hb : 128 ≤ y
    · rw [if_pos hb, List.cons_append]
      simp only [decF]
      rw [if_neg (fun h => by rcases h with ⟨h, _⟩ | h <;> omega), if_neg (by omega)]
      have ih := decF_encF f (y / 128) (x0 + ((y % 128 + 128 : Nat) : Int).toNat % 128 * 128 ^ n) ys (by omega) (by rw [Nat.pow_succ] at hy; omega) (fun _ => by omega)
      rw [show 9 - f = n + 1 by omega] at ih
      rw [ih, Int.toNat_natCast, Nat.add_mod_right, Nat.mod_mod]
      refine Prod.ext ?_ ?_
      · simp only
        rw [Nat.add_assoc]
        congr 1
        rw [Nat.pow_succ, Nat.mul_comm (128 ^ n) 128, ← Nat.mul_assoc, ← Nat.add_mul]
        congr 1
        omega
      · simp only [List.length_cons]; omega
    · rw [if_neg hb, List.singleton_append]
      simp only [decF]
      rw [if_neg (fun h => by rcases h with ⟨h, _⟩ | h <;> omega), if_pos (by omega), if_neg (fun h => by have := h0 (by omega); omega), Int.toNat_natCast, Nat.mod_eq_of_lt (by omega)]
      simp
theorem dec_enc_app (x : Nat) (ys : List Int) (h : x < 18446744073709551616) : dec (enc x ++ ys) = (x, (enc x).length) := by
  have := decF_encF 9 x 0 ys (by omega) (by simpa using h) (by omega)
  unfold dec enc
  simpa using this
theorem enc_pos (x : Nat) : 0 < (enc x).length := by
  unfold enc
  simp only [encF]
  split <;> simp

/-- What is asked of a part. -/
def Pt.ask (p : Pt) : Nat := if p.k % 4 = 1 ∨ p.k % 4 = 2 then p.m else p.x
def Pt.num (p : Pt) : Nat := if p.k % 4 = 0 then p.x else if p.k % 4 = 3 then p.x % 2 else 0
def Pt.txt (p : Pt) : List Int := if p.k % 4 = 1 ∨ p.k % 4 = 2 then p.bs else []

theorem got_bytes (p : Pt) (r : List Int) (hg : p.good = true) (hl : p.bs.length = p.m) (hx : p.x < 18446744073709551616) (hm : p.m ≤ 1048576) :
    got (p.bytes ++ r) p.k p.ask = some (p.num, p.txt, p.bytes.length) := by
  rcases (by omega : p.k % 4 = 0 ∨ p.k % 4 = 1 ∨ p.k % 4 = 2 ∨ p.k % 4 = 3) with h4 | h4 | h4 | h4
  · have e1 : p.bytes = enc p.x := by simp [Pt.bytes, h4]
    have e2 : p.ask = p.x := by simp [Pt.ask, h4]
    have e3 : p.num = p.x := by simp [Pt.num, h4]
    have e4 : p.txt = [] := by simp [Pt.txt, h4]
    have := enc_pos p.x
    rw [got_0 h4, e1, e2, e3, e4, dec_enc_app _ _ hx, if_neg (by simp only; omega)]
  · have hm2 : p.m ≤ 4096 := by
      have := of_decide_eq_true hg
      omega
    have e1 : p.bytes = enc p.m ++ p.bs := by simp [Pt.bytes, h4]; omega
    have e2 : p.ask = p.m := by simp [Pt.ask, h4]
    have e3 : p.num = 0 := by simp [Pt.num, h4]
    have e4 : p.txt = p.bs := by simp [Pt.txt, h4]
    have := enc_pos p.m
    rw [got_1 h4, e1, e2, e3, e4, List.append_assoc, dec_enc_app _ _ (by omega), if_neg (by simp only [List.length_append]; omega)]
    simp only [List.drop_left, List.length_append, hl]
    rw [← hl, List.take_left]
  · have e1 : p.bytes = p.bs := by simp [Pt.bytes, h4]
    have e2 : p.ask = p.m := by simp [Pt.ask, h4]
    have e3 : p.num = 0 := by simp [Pt.num, h4]
    have e4 : p.txt = p.bs := by simp [Pt.txt, h4]
    rw [got_2 h4, e1, e2, e3, e4, if_neg (by simp only [List.length_append]; omega), ← hl, List.take_left]
  · have e1 : p.bytes = [((p.x % 2 : Nat) : Int)] := by simp [Pt.bytes, h4]
    have e2 : p.ask = p.x := by simp [Pt.ask, h4]
    have e3 : p.num = p.x % 2 := by simp [Pt.num, h4]
    have e4 : p.txt = [] := by simp [Pt.txt, h4]
    rw [got_3 h4, e1, e3, e4, if_neg (by simp; omega)]
    simp only [List.singleton_append, List.getD_cons_zero, Int.toNat_natCast, List.length_singleton]

def catFrom (ps : List Pt) (k : Nat) : List Int := (ps.drop k).flatMap Pt.bytes
theorem catFrom_step {ps : List Pt} {k : Nat} {p : Pt} (h : ps[k]? = some p) : catFrom ps k = p.bytes ++ catFrom ps (k + 1) := by
  unfold catFrom
  obtain ⟨h1, rfl⟩ := List.getElem?_eq_some_iff.1 h
  rw [List.drop_eq_getElem_cons h1, List.flatMap_cons]
theorem catTo_all (ps : List Pt) : catTo ps ps.length = catFrom ps 0 := by simp [catTo, catFrom]
theorem good_all {ps : List Pt} (h : goodTo ps ps.length = true) : ∀ p ∈ ps, p.good = true := by
  intro p hp
  unfold goodTo at h
  rw [List.take_length] at h
  exact List.all_eq_true.1 h p hp
end Go.Proofs.Ytpdgbpoplljpkaa
