/- The contract of the reference's Stream. -/
import Derived.Test.YtbgidkphbbpdeaaChaStream
namespace Go.Proofs.Ytbgidkphbbpdeaa
open Go.RowKit
set_option linter.unusedVariables false
set_option linter.unusedSimpArgs false

theorem Own.trunc {w : World} {base : Nat} {p : Option Addr} {m cap : Nat} {xs : List Int} (h : Own w base p m cap xs) (n : Nat) (hn : n ≤ m) : Own w base p n cap (xs.take n) := by
  have hl := h.len
  have hr : ∀ x ∈ xs.take n, 0 ≤ x ∧ x ≤ 255 := fun x hx => h.rng x (List.mem_of_mem_take hx)
  rcases h.cases with ⟨rfl, rfl, rfl, rfl⟩ | ⟨g, cur, rfl, hb, hg, hnc, hcm, hcs, ht⟩
  · obtain rfl : n = 0 := by omega
    exact Own.nil _ _
  · refine ⟨⟨by simp; omega, .inr ⟨g, cap, cur, rfl, hb, hg, by omega, hcm, by simpa using hcs, ?_⟩⟩, hr⟩
    have := congrArg (List.take n) ht
    rw [List.take_take, Nat.min_eq_left hn] at this
    simpa using this
theorem strL_take (s : Nat → Nat) (m n : Nat) (h : n ≤ m) : (strL s m).take n = strL s n := by
  unfold strL
  rw [← List.map_take, List.take_range, Nat.min_eq_left h]
def octI (ks : List Nat) : List Int := ks.map fun (x : Nat) => (x : Int)
theorem strL_cat (s : Nat → Nat) (m : Nat) (bl : List Nat) (hl : bl.length = 64) (hs : ∀ j, j < 64 → s (m + j) = bl.getD j 0) : strL s (m + 64) = strL s m ++ octI bl := by
  unfold strL
  rw [List.range_add, List.map_append, List.map_map]
  congr 1
  unfold octI
  apply List.ext_getElem (by simp [hl])
  intro j h1 h2
  simp at h1
  simp only [List.getElem_map, List.getElem_range, Function.comp]
  rw [hs j h1]
  simp [List.getD, List.getElem?_eq_getElem (show j < bl.length by omega)]
theorem strm_at (key nonce : List Nat) (c0 i j : Nat) (hj : j < 64) : strm key nonce c0 (64 * i + j) = (blockF key nonce ((c0 + i) % 4294967296)).getD j 0 := by
  have e1 : (64 * i + j) / 64 = i := by omega
  have e2 : (64 * i + j) % 64 = j := by omega
  unfold strm
  rw [e1, e2]
theorem strL_block (key nonce : List Nat) (c0 i : Nat) : strL (strm key nonce c0) (64 * i + 64) = strL (strm key nonce c0) (64 * i) ++ octI (blockF key nonce ((c0 + i) % 4294967296)) :=
  strL_cat _ _ _ (blockF_len _ _ _) (fun j hj => strm_at key nonce c0 i j hj)
theorem Octs.src {w : World} {B : Nat} {t : TypeId} {n : Nat} {ks : List Nat} (h : Octs w B t n ks) : Src w (some ⟨B, 0, none⟩) n (octI ks) := by
  refine ⟨by simp [octI, h.len], fun x hx => ?_, fun hn => ⟨B, 0, rfl, fun i hi => ?_⟩⟩
  · simp only [octI, List.mem_map] at hx
    obtain ⟨k, hk, rfl⟩ := hx
    have := h.lt k hk
    omega
  · rw [Nat.zero_add, h.cell i hi]
    have hl := h.len
    simp [octI, List.getD, List.getElem?_eq_getElem (show i < ks.length by omega)]

theorem slice_arr_all {P : Program} (t : TypeId) (n : Nat) (ht : P.underlying t = some (.array n 5)) (hsz : ∀ w : World, (sizeOf 5).run P w = .ok 1 w) (B : Nat) (hn : 0 < n) (w : World) :
    (Instr.sliceAt t (.pointer (some ⟨B, 0, none⟩)) none none none).run P w = .ok (.slice (some ⟨B, 0, none⟩) n n) w := by
  have ha : P.arrayLen t = n := by simp [Program.arrayLen, ht]
  have he : P.elem t = 5 := by simp [Program.elem, ht]
  rw [run_sliceAt_array_all w t ⟨B, 0, none⟩ (by rw [ha, he]; exact ht), he, hsz w, ha]
  simp only [Result.andThen, slicedAt]
  rw [if_neg (by omega), Addr.add_lit]
  simp

set_option maxRecDepth 100000 in
set_option maxHeartbeats 1600000 in
theorem refStream_any (key nonce : List Nat) (c0 : Nat) (hk : key.length = 32) (hn : nonce.length = 12) (hkl : ∀ x ∈ key, x < 256) (hnl : ∀ x ∈ nonce, x < 256) (hc0 : (c0 : Int) ≤ 4294967295) (n : Nat) (hnn : (n : Int) ≤ 65536) (w : World) :
    Calls Try.prog 14 #[octVal key, octVal nonce, .int .u32 (c0 : Int), .int .i64 (n : Int)] w (XorPost w n (strL (strm key nonce c0) n)) := by
  obtain ⟨C, hC, HCC, sC, oC⟩ := octVal_arr key 32 hk
  obtain ⟨D, hD, HDD, sD, oD⟩ := octVal_arr nonce 12 hn
  rw [hC, hD]
  have KX := Lib.hid (fun i w => refBlock_any key nonce ((c0 + i) % 4294967296) hk hn hkl hnl (by omega) w)
  rw [hC, hD] at KX
  have H22 : Hid ((Try.prog.info? 22).map (·.size) = some C.size) := by rw [sC]; exact Lib.hid (by kernel_rfl)
  have H24 : Hid ((Try.prog.info? 24).map (·.size) = some D.size) := by rw [sD]; exact Lib.hid (by kernel_rfl)
  clear hC hD HCC HDD sC sD oC oD hk hn hkl hnl
  go_enter Try.func14, Try.ntmps14
  go_upto_region 3 with (fail)
  obtain ⟨W, hW⟩ : ∃ W, W = (w.alloc (.cells C 22)).alloc (.cells D 24) := ⟨_, rfl⟩
  have HA : Hid (W.heap[w.heap.size]? = some (.cells C 22 (0, 0)) ∧ W.heap[w.heap.size + 1]? = some (.cells D 24 (0, 0)) ∧ Below w.heap.size w W ∧ W.heap.size = w.heap.size + 1 + 1) := by
    rw [hW]
    exact Lib.hid ⟨heap_alloc2_old w _ _, heap_alloc2_new w _ _, ((Below.refl _ _).alloc (Nat.le_refl _) _).alloc (by simp) _, by simp⟩
  rw [← hW]
  clear hW
  obtain ⟨NB, hNB⟩ : ∃ R, R = w.heap.size + 1 := ⟨_, rfl⟩
  obtain ⟨KB, hKB⟩ : ∃ R, R = w.heap.size := ⟨_, rfl⟩
  have HKB := Lib.hid hKB
  have HNB : Hid (NB = KB + 1) := Lib.hid (by omega)
  rw [← hNB, ← hKB] at HA ⊢
  clear hNB hKB
  go_wp2_with fail
  go_loopw [9, 10] (fun o v wr => ∃ (i : Nat) (q : Option Addr) (cap : Nat), v = .int .i64 i ∧ o = .slice q (64 * i) cap ∧ i ≤ 1024 ∧ (0 < i → 64 * (i - 1) < n) ∧ Own wr W.heap.size q (64 * i) cap (strL (strm key nonce c0) (64 * i)) ∧ Below W.heap.size W wr) (fun _ v _ => 1024 - (intOf v).toNat)
  case atStart => exact ⟨0, none, 0, rfl, rfl, by omega, fun h => absurd h (by omega), Own.nil _ _, Below.refl _ _⟩
  case round =>
    obtain ⟨i, q, cap, rfl, rfl, hi, hin, how, hb⟩ := hrel
    have HOW := Lib.hid how
    have HB := Lib.hid hb
    have HIN := Lib.hid hin
    clear how hb hin
    by_cases hlt : (i : Int) * 64 < n
    · obtain ⟨m, hm⟩ : ∃ m, m = 64 * i := ⟨_, rfl⟩
      have HM := Lib.hid hm
      rw [← hm] at HOW ⊢
      obtain ⟨v, hv⟩ : ∃ v, (c0 + i) % 4294967296 = v := ⟨_, rfl⟩
      have KX1 := Lib.hid (KX.out i)
      rw [hv] at KX1
      have hvl : (v : Int) ≤ 4294967295 := by omega
      have hi1 : (i : Int) ≤ 1023 := by omega
      have e1 : IntKind.u32.wrap ((c0 : Int) + (i : Int)) = (v : Int) := by rw [IntKind.wrap_u32]; omega
      have e2 : ((c0 : Int) + (i : Int)) % 4294967296 = (v : Int) := by omega
      obtain ⟨E, hE, HEE, hEs, hE1⟩ := octVal_arr (blockF key nonce v) 64 (blockF_len _ _ _)
      rw [hE] at KX1
      have H27 : Hid ((Try.prog.info? 27).map (·.size) = some E.size) := by rw [hEs]; exact Lib.hid (by kernel_rfl)
      have HS64 : Hid ((#[.int .u8 0, .int .u8 0, .int .u8 0, .int .u8 0, .int .u8 0, .int .u8 0, .int .u8 0, .int .u8 0, .int .u8 0, .int .u8 0, .int .u8 0, .int .u8 0, .int .u8 0, .int .u8 0, .int .u8 0, .int .u8 0, .int .u8 0, .int .u8 0, .int .u8 0, .int .u8 0, .int .u8 0, .int .u8 0, .int .u8 0, .int .u8 0, .int .u8 0, .int .u8 0, .int .u8 0, .int .u8 0, .int .u8 0, .int .u8 0, .int .u8 0, .int .u8 0, .int .u8 0, .int .u8 0, .int .u8 0, .int .u8 0, .int .u8 0, .int .u8 0, .int .u8 0, .int .u8 0, .int .u8 0, .int .u8 0, .int .u8 0, .int .u8 0, .int .u8 0, .int .u8 0, .int .u8 0, .int .u8 0, .int .u8 0, .int .u8 0, .int .u8 0, .int .u8 0, .int .u8 0, .int .u8 0, .int .u8 0, .int .u8 0, .int .u8 0, .int .u8 0, .int .u8 0, .int .u8 0, .int .u8 0, .int .u8 0, .int .u8 0, .int .u8 0] : Array Value).size = E.size) := Lib.hid (by rw [hEs]; rfl)
      have HV := Lib.hid hv
      have hkb : wr.heap[KB]? = some (.cells C 22 (0, 0)) := (HB.out.block KB (by have := HA.out.2.2.2; have := HNB.out; omega)).trans HA.out.1
      have hnb : wr.heap[NB]? = some (.cells D 24 (0, 0)) := (HB.out.block NB (by have := HA.out.2.2.2; have := HNB.out; omega)).trans HA.out.2.1
      have HI := Lib.hid hi
      clear hm hv hE hEs
      go_wp2_with (first | refine wpList_load_row rfl 22 _ rfl KB rfl 22 C (0, 0) _ hkb Try.underlying22 rfl H22.out ?_ | refine wpList_load_row rfl 24 _ rfl NB rfl 24 D (0, 0) _ hnb Try.underlying24 rfl H24.out ?_)
      refine (KX1.out _).mono ?_
      rintro e w1 ⟨rfl, hb1⟩
      have HB1 := Lib.hid hb1
      clear hb1 hkb hnb e1 e2
      go_upto_region 6 with (refine wpList_store_row rfl 27 _ _ rfl _ E rfl rfl 27 _ (heap_alloc_new _ _) H27.out HS64.out hE1 ?_)
      rw [setRow_alloc_new]
      obtain ⟨W5, hW5⟩ : ∃ W', W' = w1.alloc (.cells E 27) := ⟨_, rfl⟩
      have hf5 : Fr wr W5 (fun _ => False) := by rw [hW5]; exact ((Fr.of_below HB1.out).trans (Fr.alloc _ _)).mono (by simp)
      have hz5 := hf5.size
      have hsrc5 : Src W5 (some ⟨w1.heap.size, 0, none⟩) 64 (octI (blockF key nonce v)) := by
        rw [hW5]
        exact Octs.src (t := 27) ⟨by rw [← HEE.out]; exact heap_alloc_new _ _, blockF_len _ _ _, blockF_lt _ _ _⟩
      have how5 := HOW.out.fr hf5 (fun _ _ h => h)
      have hb5 : Below W.heap.size W W5 := HB.out.trans (hf5.below HB.out.size (fun _ _ h => h))
      have hsl := slice_arr_all 27 64 Try.underlying27 Try.sizeOf5 w1.heap.size (by decide)
      have HBY : Hid (m + 64 ≤ 140737488355328) := Lib.hid (by have := HM.out; have := HI.out; omega)
      have HA5 := Lib.hid (And.intro hsrc5 (And.intro how5 hb5))
      rw [← hW5]
      clear hf5 hz5 hsrc5 how5 hb5 hW5
      have H5 := Lib.hid (show (Try.prog.info? 5).map (fun i => (i.zero, i.size, i.bytes)) = some (some (.int .u8 0), 1, 1) by kernel_rfl)
      go_wp2_with (refine wpList_append_bytes rfl _ _ 31 rfl W.heap.size Try.underlying31 H5.out q m cap _ rfl HA5.out.2.1 _ 64 64 _ rfl HA5.out.1 (by intro h; cases h) HBY.out HA5.out.2.2.size ?_; intro p6 c6 w6 how6 hg6 hn6 hk6)
      have hb6 := HA5.out.2.2.grown hg6 HA5.out.2.2.size (fun k hk => (HA5.out.2.1.lt k hk).1)
      have e6 : strL (strm key nonce c0) m ++ octI (blockF key nonce v) = strL (strm key nonce c0) (64 * (i + 1)) := by
        rw [HM.out, Nat.mul_add, strL_block, HV.out]
      rw [e6] at how6
      have H6 := Lib.hid (And.intro how6 hb6)
      clear how6 hb6 hg6 hn6 hk6 e6 hsl
      go_roundw
      case rel =>
        have hn : 64 * i < n := by omega
        have hm := HM.out
        exact ⟨i + 1, p6, c6, by go_num, by rw [hm, Nat.mul_add], by omega, fun _ => by omega, by rw [show 64 * (i + 1) = m + 64 by rw [hm, Nat.mul_add]] at H6 ⊢; exact H6.out.1, H6.out.2⟩
      case measure => simp [intOf]; omega
    · have hle : n ≤ 64 * i := by omega
      have hcp := HOW.out.le
      have hsl := slice_to (P := Try.prog) 31 Try.underlying31 Try.sizeOf5 q (64 * i) cap n (by omega)
      have hbb : Below KB w wr := HA.out.2.2.1.trans (HB.out.mono (by have := HA.out.2.2.2; have := HNB.out; omega))
      have hot : Own wr KB q n cap (strL (strm key nonce c0) n) := by
        have h := (HOW.out.trunc n hle).base (b' := KB) (by have := HA.out.2.2.2; have := HNB.out; omega)
        rwa [strL_take _ _ _ hle] at h
      have HF := Lib.hid (And.intro hot hbb)
      obtain ⟨m, hm⟩ : ∃ m, m = 64 * i := ⟨_, rfl⟩
      rw [← hm] at hsl ⊢
      have hlm : (n : Int) ≤ (i : Int) * 64 := by omega
      clear hot hbb hle hcp hm hlt
      go_wp2_with fail
      go_ret
      exact ⟨q, cap, rfl, by rw [← HKB.out]; exact HF.out.1, by rw [← HKB.out]; exact HF.out.2⟩
end Go.Proofs.Ytbgidkphbbpdeaa
