/- The contracts of Out.Num, Out.Text, Out.Flag. -/
import Derived.Test.YtpdgbpoplljpkaaPackRead
namespace Go.Proofs.Ytpdgbpoplljpkaa
open Go.RowKit
set_option linter.unusedVariables false
set_option linter.unusedSimpArgs false

/-- A number's bytes. -/
def encF : Nat → Nat → List Int
  | 0, x => [(x : Int)]
  | f + 1, x => if 128 ≤ x then ((x % 128 + 128 : Nat) : Int) :: encF f (x / 128) else [(x : Int)]
def enc (x : Nat) : List Int := encF 9 x

theorem encF_step (f y : Nat) (h : y < 128 ^ (f + 1)) (hy : 128 ≤ y) : ∃ g, f = g + 1 ∧ encF f y = ((y % 128 + 128 : Nat) : Int) :: encF g (y / 128) ∧ y / 128 < 128 ^ (g + 1) := by
  cases f with
  | zero => simp at h; omega
  | succ g =>
    refine ⟨g, rfl, by simp only [encF]; rw [if_pos hy], ?_⟩
    rw [Nat.pow_succ] at h
    exact Nat.div_lt_of_lt_mul (by omega)
theorem encF_stop (f y : Nat) (hy : y < 128) : encF f y = [(y : Int)] := by
  cases f with
  | zero => rfl
  | succ g => simp only [encF]; rw [if_neg (by omega)]
theorem or128 : ∀ v : Nat, v < 256 → bits BinOp.or IntKind.u8 (v : Int) 128 = ((v % 128 + 128 : Nat) : Int) := by decide +kernel
/-- One byte in a new block. -/
theorem src_one (w : World) (v : Int) (h : 0 ≤ v ∧ v ≤ 255) : Src (w.alloc (.cells #[.int .u8 v] 5)) (some ⟨w.heap.size, 0, none⟩) 1 [v] := by
  refine ⟨rfl, by simpa using h, fun _ => ⟨_, _, rfl, fun i hi => ?_⟩⟩
  obtain rfl : i = 0 := by omega
  rw [World.cell?_alloc_at _ _ _ _ rfl]; rfl
theorem OutAt.fr {w w' : World} {B base : Nat} {p : Option Addr} {n cap : Nat} {xs : List Int} {long : Bool} {T : Nat → Prop} (h : OutAt w B base p n cap xs long) (hf : Fr w w' T) (hB : ¬ T B) (hp : ∀ k, blk p = some k → ¬ T k) :
    OutAt w' B base p n cap xs long := ⟨hf.heap h.cells hB, h.own.fr hf hp⟩

/-- What holds of a number's packing, when y is still to be packed. -/
structure NumR (w : World) (B base : Nat) (p : Option Addr) (n : Nat) (xs : List Int) (long : Bool) (x : Nat) (y : Nat) (wr : World) : Prop where
  ex : ∃ p' cap' zs f, OutAt wr B base p' (n + zs.length) cap' (xs ++ zs) long ∧ zs ++ encF f y = enc x ∧ y < 128 ^ (f + 1) ∧ zs.length + f = 9 ∧ (∀ k, blk p' = some k → blk p = some k ∨ w.heap.size ≤ k)
  fr : Fr w wr (fun k => k = B ∨ some k = blk p)

theorem NumR.step {w : World} {B base : Nat} {p : Option Addr} {n : Nat} {xs : List Int} {long : Bool} {x y : Nat} {wr w1 : World} {p' p1 : Option Addr} {cap1 f : Nat} {zs : List Int} (hbB : B < w.heap.size)
    (h : OutAt w1 B base p1 (n + zs.length + 1) cap1 (xs ++ zs ++ [((y % 128 + 128 : Nat) : Int)]) long) (he : zs ++ encF f y = enc x) (hy : y < 128 ^ (f + 1)) (hl : zs.length + f = 9) (h128 : 128 ≤ y)
    (hk : ∀ k, blk p' = some k → blk p = some k ∨ w.heap.size ≤ k) (hk1 : ∀ k, blk p1 = some k → blk p' = some k ∨ wr.heap.size ≤ k) (hfr : Fr w wr (fun k => k = B ∨ some k = blk p)) (hfr1 : Fr wr w1 (fun k => k = B ∨ some k = blk p')) :
    NumR w B base p n xs long x (y / 128) w1 := by
  obtain ⟨g, rfl, e, h2⟩ := encF_step f y hy h128
  refine ⟨⟨p1, cap1, zs ++ [((y % 128 + 128 : Nat) : Int)], g, ?_, ?_, h2, by simp; omega, ?_⟩, (hfr.trans hfr1).mono ?_⟩
  · rw [List.length_append, ← List.append_assoc]; exact h
  · rw [List.append_assoc, List.singleton_append, ← e]; exact he
  · intro k hk'
    rcases hk1 k hk' with h | h
    · exact hk k h
    · right; have := hfr.size; omega
  · intro k hlt hk'
    rcases hk' with hk' | hk' | hk'
    · exact hk'
    · exact .inl hk'
    · rcases hk k hk'.symm with h | h
      · exact .inr h.symm
      · omega
theorem NumR.fin {w : World} {B base : Nat} {p : Option Addr} {n : Nat} {xs : List Int} {long : Bool} {x y : Nat} {wr w1 : World} {p' p1 : Option Addr} {cap1 f : Nat} {zs : List Int}
    (h : OutAt w1 B base p1 (n + zs.length + 1) cap1 (xs ++ zs ++ [(y : Int)]) long) (he : zs ++ encF f y = enc x) (h128 : y < 128)
    (hk : ∀ k, blk p' = some k → blk p = some k ∨ w.heap.size ≤ k) (hk1 : ∀ k, blk p1 = some k → blk p' = some k ∨ wr.heap.size ≤ k) (hfr : Fr w wr (fun k => k = B ∨ some k = blk p)) (hfr1 : Fr wr w1 (fun k => k = B ∨ some k = blk p')) :
    OutAt w1 B base p1 (n + (enc x).length) cap1 (xs ++ enc x) long ∧ Fr w w1 (fun k => k = B ∨ some k = blk p) ∧ (∀ k, blk p1 = some k → blk p = some k ∨ w.heap.size ≤ k) := by
  rw [encF_stop f y h128] at he
  refine ⟨?_, (hfr.trans hfr1).mono ?_, ?_⟩
  · rw [← he, List.length_append, ← List.append_assoc]; exact h
  · intro k hlt hk'
    rcases hk' with hk' | hk' | hk'
    · exact hk'
    · exact .inl hk'
    · rcases hk k hk'.symm with h | h
      · exact .inr h.symm
      · omega
  · intro k hk'
    rcases hk1 k hk' with h | h
    · exact hk k h
    · right; have := hfr.size; omega

set_option maxHeartbeats 800000 in
theorem outNum_any (B base : Nat) (p : Option Addr) (n cap : Nat) (xs : List Int) (long : Bool) (x : Nat) (w : World) (h : OutAt w B base p n cap xs long) (hx : x < 18446744073709551616)
    (hn : n + 10 ≤ 140737488355328) (hbase : base ≤ w.heap.size) :
    Calls Try.prog 20 #[.pointer (some ⟨B, 0, none⟩), .int .u64 x] w fun e w' => ∃ p' cap', e = .returned (.tuple #[]) ∧ OutAt w' B base p' (n + (enc x).length) cap' (xs ++ enc x) long ∧ Fr w w' (fun k => k = B ∨ some k = blk p) ∧
      (∀ k, blk p' = some k → blk p = some k ∨ w.heap.size ≤ k) := by
  have hbB : B < w.heap.size := (Array.getElem?_eq_some_iff.1 h.cells).1
  have H0 : NumR w B base p n xs long x x w := ⟨⟨p, cap, [], 9, by simpa using h, rfl, by omega, rfl, fun k hk => .inl hk⟩, Fr.refl _ _⟩
  have HX := Lib.hid hx
  clear h hx
  go_enter Try.func20, Try.ntmps20
  go_wp2_with fail
  go_loopw [1] (fun v wr => ∃ (y : Nat), v = .int .u64 y ∧ NumR w B base p n xs long x y wr ∧ (y : Int) ≤ 18446744073709551615) (fun v _ => (intOf v).toNat)
  case atStart => exact ⟨x, rfl, H0, by have := HX.out; omega⟩
  case round =>
    obtain ⟨y, rfl, hr, hy2⟩ := hrel
    obtain ⟨⟨p', cap', zs, f, ho, he, hyf, hl, hk⟩, hfr⟩ := hr
    have hs := hfr.size
    by_cases hy : 128 ≤ (y : Int)
    · have hb : bits BinOp.or IntKind.u8 ((y : Int) % 256) 128 = ((y % 128 + 128 : Nat) : Int) := by
        have := or128 (y % 256) (by omega)
        rw [show ((y % 256 : Nat) : Int) = (y : Int) % 256 by omega] at this
        rw [this]; congr 2; omega
      obtain ⟨b, hbe⟩ : ∃ b : Int, ((y % 128 + 128 : Nat) : Int) = b := ⟨_, rfl⟩
      rw [hbe] at hb
      have S1 := src_one wr b (by omega)
      have hf2 := Fr.alloc wr (.cells #[.int .u8 b] 5)
      have O1 := ho.fr hf2 (fun h => h) (fun _ _ h => h)
      have HBE := Lib.hid hbe
      have HO := Lib.hid O1
      have HS := Lib.hid S1
      have HK := Lib.hid hk
      have HE := Lib.hid he
      have HYF := Lib.hid hyf
      have HF := Lib.hid hfr
      have hzl : zs.length ≤ 9 := by omega
      clear hbe O1 S1 hk he hyf hfr ho hf2
      go_wp2_with (go_at_call 25; refine (put_any B base p' (n + zs.length) cap' (xs ++ zs) long _ 1 1 [b] _ HO.out HS.out (fun e => by cases e) (by omega) (by simp; omega)).mono ?_; rintro e w1 ⟨p1, cap1, rfl, h1, h2, h3⟩)
      go_roundw
      case rel =>
        refine ⟨y / 128, by go_num, ?_, by omega⟩
        refine NumR.step (wr := wr) (p' := p') hbB (by rw [HBE.out]; exact h1) HE.out HYF.out hl (by omega) HK.out ?_ HF.out ((Fr.alloc wr _).trans h2 |>.mono ?_)
        · intro k hk
          rcases h3 k hk with h | h
          · exact .inl h
          · right; simp at h; omega
        · intro k _ hk
          rcases hk with hk | hk
          · exact hk.elim
          · exact hk
      case measure => simp [intOf]; omega
    · have hb : (y : Int) % 256 = y := by omega
      have S1 := src_one wr y (by omega)
      have hf2 := Fr.alloc wr (.cells #[.int .u8 (y : Int)] 5)
      have O1 := ho.fr hf2 (fun h => h) (fun _ _ h => h)
      have HO := Lib.hid O1
      have HS := Lib.hid S1
      have HK := Lib.hid hk
      have HE := Lib.hid he
      have HF := Lib.hid hfr
      have hzl : zs.length ≤ 9 := by omega
      clear O1 S1 hk he hyf hfr ho hf2
      go_wp2_with (go_at_call 25; refine (put_any B base p' (n + zs.length) cap' (xs ++ zs) long _ 1 1 [(y : Int)] _ HO.out HS.out (fun e => by cases e) (by omega) (by simp; omega)).mono ?_; rintro e w1 ⟨p1, cap1, rfl, h1, h2, h3⟩)
      go_end0
      obtain ⟨k1, k2, k3⟩ := NumR.fin (w := w) (wr := wr) (p' := p') (p := p) h1 HE.out (by omega) HK.out (by
        intro k hk
        rcases h3 k hk with h | h
        · exact .inl h
        · right; simp at h; omega) HF.out ((Fr.alloc wr _).trans h2 |>.mono (by
        intro k _ hk
        rcases hk with hk | hk
        · exact hk.elim
        · exact hk))
      exact ⟨p1, cap1, rfl, k1, k2, k3⟩
end Go.Proofs.Ytpdgbpoplljpkaa
