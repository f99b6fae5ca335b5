/- The contract of the reference's Xor. -/
import Derived.Test.YtbgidkphbbpdeaaChaRefStream
namespace Go.Proofs.Ytbgidkphbbpdeaa
open Go.RowKit
set_option linter.unusedVariables false
set_option linter.unusedSimpArgs false

/-- The stream, its first i bytes with the text. -/
def mixL (xs : List Int) (s : Nat → Nat) (n i : Nat) : List Int := (List.range n).map fun j => if j < i then (((xs.getD j 0).toNat ^^^ s j : Nat) : Int) else (s j : Int)
theorem mixL_zero (xs : List Int) (s : Nat → Nat) (n : Nat) : mixL xs s n 0 = strL s n := by
  unfold mixL strL
  simp
theorem mixL_all (xs : List Int) (s : Nat → Nat) (n : Nat) : mixL xs s n n = xorL xs s n := by
  unfold mixL xorL
  apply List.map_congr_left
  intro j hj
  rw [if_pos (List.mem_range.1 hj)]
theorem mixL_get (xs : List Int) (s : Nat → Nat) (n i : Nat) (h : i < n) : (mixL xs s n i).getD i 0 = (s i : Int) := by
  unfold mixL
  simp [List.getD, List.getElem?_range, h]
theorem mixL_set (xs : List Int) (s : Nat → Nat) (n i : Nat) : (mixL xs s n i).set i (((xs.getD i 0).toNat ^^^ s i : Nat) : Int) = mixL xs s n (i + 1) := by
  unfold mixL
  apply List.ext_getElem (by simp)
  intro j h1 h2
  simp only [List.getElem_set, List.getElem_map, List.getElem_range]
  by_cases e : i = j
  · subst e
    rw [if_pos rfl, if_pos (Nat.lt_succ_self i)]
  · rw [if_neg e]
    by_cases e2 : j < i
    · rw [if_pos e2, if_pos (by omega)]
    · rw [if_neg e2, if_neg (by omega)]
theorem strm_lt (key nonce : List Nat) (c0 j : Nat) : strm key nonce c0 j < 256 := getD_lt_256 (blockF_lt _ _ _) _

set_option maxRecDepth 100000 in
set_option maxHeartbeats 1600000 in
theorem refXor_any (key nonce : List Nat) (c0 : Nat) (hk : key.length = 32) (hn : nonce.length = 12) (hkl : ∀ x ∈ key, x < 256) (hnl : ∀ x ∈ nonce, x < 256) (hc0 : (c0 : Int) ≤ 4294967295)
    (p : Option Addr) (n cap : Nat) (xs : List Int) (w : World) (hs : Src w p n xs) (hnn : (n : Int) ≤ 65536) :
    Calls Try.prog 12 #[octVal key, octVal nonce, .int .u32 (c0 : Int), .slice p n cap] w (XorPost w n (xorL xs (strm key nonce c0) n)) := by
  obtain ⟨C, hC, HCC, sC, oC⟩ := octVal_arr key 32 hk
  obtain ⟨D, hD, HDD, sD, oD⟩ := octVal_arr nonce 12 hn
  rw [hC, hD]
  have KX := Lib.hid (fun w => refStream_any key nonce c0 hk hn hkl hnl hc0 n hnn w)
  rw [hC, hD] at KX
  have H22 : Hid ((Try.prog.info? 22).map (·.size) = some C.size) := by rw [sC]; exact Lib.hid (by kernel_rfl)
  have H24 : Hid ((Try.prog.info? 24).map (·.size) = some D.size) := by rw [sD]; exact Lib.hid (by kernel_rfl)
  have HS := Lib.hid hs
  have HSL := Lib.hid (strm_lt key nonce c0)
  obtain ⟨s, hse⟩ : ∃ s, s = strm key nonce c0 := ⟨_, rfl⟩
  rw [← hse] at KX HSL ⊢
  clear hC hD HCC HDD sC sD oC oD hk hn hkl hnl hs hse
  go_enter Try.func12, Try.ntmps12
  go_upto_region 1 with (fail)
  obtain ⟨W, hW⟩ : ∃ W, W = (w.alloc (.cells C 22)).alloc (.cells D 24) := ⟨_, rfl⟩
  have hkh : W.heap[w.heap.size]? = some (.cells C 22 (0, 0)) := by rw [hW]; exact heap_alloc2_old w _ _
  have hnh : W.heap[w.heap.size + 1]? = some (.cells D 24 (0, 0)) := by rw [hW]; exact heap_alloc2_new w _ _
  have HW : Hid (Below w.heap.size w W) := Lib.hid (by rw [hW]; exact ((Below.refl _ _).alloc (Nat.le_refl _) _).alloc (by simp) _)
  rw [← hW]
  clear hW
  go_wp2_with (first | refine wpList_load_row rfl 22 _ rfl w.heap.size rfl 22 C (0, 0) _ hkh Try.underlying22 rfl H22.out ?_ | refine wpList_load_row rfl 24 _ rfl (w.heap.size + 1) rfl 24 D (0, 0) _ hnh Try.underlying24 rfl H24.out ?_)
  refine (KX.out _).mono ?_
  rintro e w1 ⟨q, cq, rfl, how, hb1⟩
  have HO1 := Lib.hid how
  have HB1 : Hid (Below w.heap.size w w1) := Lib.hid (HW.out.trans (hb1.mono HW.out.size))
  have HWS := Lib.hid HW.out.size
  clear how hb1 hkh hnh
  go_wp2_with fail
  go_loopw [10] (fun v wr => ∃ i : Nat, v = .int .i64 i ∧ i ≤ n ∧ Own wr W.heap.size q n cq (mixL xs s n i) ∧ Below w.heap.size w wr) (fun v _ => n - (intOf v).toNat)
  case atStart => exact ⟨0, rfl, by omega, by rw [mixL_zero]; exact HO1.out, HB1.out⟩
  case round =>
    obtain ⟨i, rfl, hi, how, hb⟩ := hrel
    by_cases hlt : (i : Int) < n
    · have hin : i < n := by omega
      obtain ⟨g, rfl⟩ := how.head (by omega)
      have hc := how.cell i hin
      rw [mixL_get xs s n i hin] at hc
      obtain ⟨z, hz⟩ : ∃ z, s i = z := ⟨_, rfl⟩
      have hzl : (z : Int) ≤ 255 := by have := HSL.out i; omega
      rw [hz] at hc
      have hsrc := HS.out.below hb
      obtain ⟨pb, po, rfl, hcs⟩ := hsrc.mem (by omega)
      have hlb := HS.out.lt (by omega) _ rfl
      have hcx0 := hcs i hin
      have hrx := hsrc.rng (xs.getD i 0) (by
        have hl := hsrc.len
        rw [List.getD_eq_getElem?_getD, List.getElem?_eq_getElem (show i < xs.length by omega)]
        exact List.getElem_mem _)
      obtain ⟨x, hx⟩ : ∃ x : Nat, xs.getD i 0 = (x : Int) := ⟨(xs.getD i 0).toNat, by omega⟩
      have hcx : wr.cell? ⟨pb, po + i, none⟩ = some (.int .u8 (x : Int)) := by rw [hcx0, hx]
      have hxl : (x : Int) ≤ 255 := by omega
      obtain ⟨y, hy⟩ : ∃ y, z ^^^ x = y := ⟨_, rfl⟩
      have hyl : (y : Int) ≤ 255 := by have := Nat.xor_lt_two_pow (n := 8) (show z < 2 ^ 8 by omega) (show x < 2 ^ 8 by omega); rw [hy] at this; omega
      have hbx : bits BinOp.xor IntKind.u8 (z : Int) (x : Int) = (y : Int) := by rw [bits_xor_u8_nat z x (by omega) (by omega), hy]
      have hco := hc.1
      have hcf := hc.2.1
      have hset := how.set i (y : Int) ⟨by omega, hyl⟩
      have hms := mixL_set xs s n i
      rw [hx, hz, Int.toNat_natCast, Nat.xor_comm x z, hy] at hms
      rw [hms] at hset
      have hgl := how.lt g rfl
      have HSET := Lib.hid hset
      have HBN := Lib.hid (hb.trans ((Fr.setCell wr ⟨g, i, none⟩ (.int .u8 (y : Int))).below (B := w.heap.size) (by have := hb.size; omega) (fun k hk e => by simp at e; have := HWS.out; omega)))
      clear hc hcs hcx0 hrx hx hy hz hset hms hsrc how hb hgl hlb hin
      go_wp2_with fail
      go_still_tail 12, (by kernel_rfl)
      change wpList _ _ _ _ _ wr.drew
      go_wp2_with fail
      go_roundw
      case rel => exact ⟨i + 1, by go_num, by omega, HSET.out.drew, HBN.out.drew⟩
      case measure => simp [intOf]; omega
    · obtain rfl : i = n := by omega
      rw [mixL_all] at how
      have HO := Lib.hid how
      have HB := Lib.hid hb
      clear how hb
      go_wp2_with fail
      go_ret
      exact ⟨q, cq, rfl, HO.out.base HWS.out, HB.out⟩
end Go.Proofs.Ytbgidkphbbpdeaa
