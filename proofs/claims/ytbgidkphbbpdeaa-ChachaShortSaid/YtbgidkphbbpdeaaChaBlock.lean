/- The contract of chacha's Block. -/
import Derived.Test.YtbgidkphbbpdeaaChaPut
namespace Go.Proofs.Ytbgidkphbbpdeaa
open Go.RowKit
set_option linter.unusedVariables false
set_option linter.unusedSimpArgs false

def iter10 : Nat → List Nat → List Nat
  | 0, g => g
  | i + 1, g => dround (iter10 i g)

theorem heap3 (w : World) (A B C : Obj) : (((w.alloc A).alloc B).alloc C).heap[w.heap.size]? = some A ∧ (((w.alloc A).alloc B).alloc C).heap[w.heap.size + 1]? = some B ∧ (((w.alloc A).alloc B).alloc C).heap[w.heap.size + 1 + 1]? = some C := by
  show (((w.heap.push A).push B).push C)[w.heap.size]? = some A ∧ (((w.heap.push A).push B).push C)[w.heap.size + 1]? = some B ∧ (((w.heap.push A).push B).push C)[w.heap.size + 1 + 1]? = some C
  refine ⟨?_, ?_, ?_⟩ <;> simp only [Array.getElem?_push, Array.size_push] <;> (repeat' split) <;> first | rfl | omega | (simp_all; done)
theorem fillW_len (ks : List Nat) (o : Nat) : ∀ (i : Nat) (g : List Nat), (fillW ks o i g).length = g.length
  | 0, g => rfl
  | i + 1, g => by simp [fillW, fillW_len ks o i g]
theorem fillW_lt (ks : List Nat) (hk : ∀ x ∈ ks, x < 256) (o : Nat) : ∀ (i : Nat) (g : List Nat), (∀ x ∈ g, x < 4294967296) → ∀ x ∈ fillW ks o i g, x < 4294967296
  | 0, g, h => h
  | i + 1, g, h => by
    intro x hx
    rcases List.mem_or_eq_of_mem_set hx with hx | rfl
    · exact fillW_lt ks hk o i g h x hx
    · exact kw_lt hk i
theorem begunW_len (key nonce : List Nat) (c : Nat) : (begunW key nonce c).length = 16 := by unfold begunW; rw [fillW_len, fillW_len]; rfl
theorem begunW_lt (key nonce : List Nat) (c : Nat) (hkl : ∀ x ∈ key, x < 256) (hnl : ∀ x ∈ nonce, x < 256) (hc : c < 4294967296) : ∀ x ∈ begunW key nonce c, x < 4294967296 := by
  refine fillW_lt _ hnl _ _ _ (fillW_lt _ hkl _ _ _ ?_)
  intro x hx
  simp at hx
  omega
theorem gridVal_arr (gs : List Nat) (hl : gs.length = 16) : ∃ E : Array Value, gridVal gs = .agg E ∧ Hid (E = (gs.map fun (x : Nat) => Value.int .u32 (x : Int)).toArray) ∧ E.size = 16 ∧ E.all (·.oneCell') = true := by
  refine ⟨_, rfl, Lib.hid rfl, by simp [hl], ?_⟩
  rw [Array.all_eq_true_iff_forall_mem]
  intro v hv
  simp at hv
  obtain ⟨x, _, rfl⟩ := hv
  rfl
def outF (g s : List Nat) : Nat → List Nat
  | 0 => List.replicate 64 0
  | i + 1 => put4 (outF g s i) (4 * i) ((g.getD i 0 + s.getD i 0) % 4294967296) 4
/-- The block of a key, a nonce and a counter. -/
def blockF (key nonce : List Nat) (c : Nat) : List Nat := outF (iter10 10 (begunW key nonce c)) (begunW key nonce c) 16

set_option maxRecDepth 100000 in
set_option maxHeartbeats 1600000 in
theorem block_any (key nonce : List Nat) (c : Nat) (hk : key.length = 32) (hn : nonce.length = 12) (hkl : ∀ x ∈ key, x < 256) (hnl : ∀ x ∈ nonce, x < 256) (hc : (c : Int) ≤ 4294967295) (w : World) :
    Calls Try.prog 9 #[octVal key, octVal nonce, .int .u32 (c : Int)] w fun e w' => e = .returned (octVal (blockF key nonce c)) ∧ Below w.heap.size w w' := by
  obtain ⟨C, hC⟩ : ∃ C : Array Value, C = (key.map fun (x : Nat) => Value.int .u8 (x : Int)).toArray := ⟨_, rfl⟩
  obtain ⟨D, hD⟩ : ∃ C : Array Value, C = (nonce.map fun (x : Nat) => Value.int .u8 (x : Int)).toArray := ⟨_, rfl⟩
  obtain ⟨g0, hg0⟩ : ∃ g, g = begunW key nonce c := ⟨_, rfl⟩
  obtain ⟨E, hE, HE, hEs, hE1⟩ := gridVal_arr g0 (by rw [hg0]; exact begunW_len _ _ _)
  have eC : octVal key = .agg C := by rw [hC]; rfl
  have eD : octVal nonce = .agg D := by rw [hD]; rfl
  have K := Lib.hid (fun w => begun_any key nonce c hk hn hkl hnl (by omega) w)
  have sC : C.size = 32 := by rw [hC]; simp [hk]
  have sD : D.size = 12 := by rw [hD]; simp [hn]
  rw [eC, eD, ← hg0, hE] at K
  rw [eC, eD]
  have H23 : Hid ((Try.prog.info? 23).map (·.size) = some C.size) := by rw [sC]; exact Lib.hid (by kernel_rfl)
  have H24 : Hid ((Try.prog.info? 24).map (·.size) = some D.size) := by rw [sD]; exact Lib.hid (by kernel_rfl)
  have H44 : Hid ((Try.prog.info? 44).map (·.size) = some E.size) := by rw [hEs]; exact Lib.hid (by kernel_rfl)
  have HS16 : Hid ((#[.int .u32 0, .int .u32 0, .int .u32 0, .int .u32 0, .int .u32 0, .int .u32 0, .int .u32 0, .int .u32 0, .int .u32 0, .int .u32 0, .int .u32 0, .int .u32 0, .int .u32 0, .int .u32 0, .int .u32 0, .int .u32 0] : Array Value).size = E.size) := Lib.hid (by rw [hEs]; rfl)
  have HG0 := Lib.hid hg0
  have HGL : Hid (g0.length = 16 ∧ ∀ x ∈ g0, x < 4294967296) := Lib.hid (by rw [hg0]; exact ⟨begunW_len _ _ _, begunW_lt _ _ _ hkl hnl (by omega)⟩)
  clear hC hD eC eD sC sD hk hn hkl hnl hg0 hE hEs
  go_enter Try.func9, Try.ntmps9
  go_upto_region 1 with (fail)
  obtain ⟨Z, hZ⟩ : ∃ Z : Array Value, Z = #[.int .u8 0, .int .u8 0, .int .u8 0, .int .u8 0, .int .u8 0, .int .u8 0, .int .u8 0, .int .u8 0, .int .u8 0, .int .u8 0, .int .u8 0, .int .u8 0, .int .u8 0, .int .u8 0, .int .u8 0, .int .u8 0, .int .u8 0, .int .u8 0, .int .u8 0, .int .u8 0, .int .u8 0, .int .u8 0, .int .u8 0, .int .u8 0, .int .u8 0, .int .u8 0, .int .u8 0, .int .u8 0, .int .u8 0, .int .u8 0, .int .u8 0, .int .u8 0, .int .u8 0, .int .u8 0, .int .u8 0, .int .u8 0, .int .u8 0, .int .u8 0, .int .u8 0, .int .u8 0, .int .u8 0, .int .u8 0, .int .u8 0, .int .u8 0, .int .u8 0, .int .u8 0, .int .u8 0, .int .u8 0, .int .u8 0, .int .u8 0, .int .u8 0, .int .u8 0, .int .u8 0, .int .u8 0, .int .u8 0, .int .u8 0, .int .u8 0, .int .u8 0, .int .u8 0, .int .u8 0, .int .u8 0, .int .u8 0, .int .u8 0, .int .u8 0] := ⟨_, rfl⟩
  rw [← hZ]
  obtain ⟨W0, hW⟩ : ∃ W, W = (((w.alloc (.cells C 23)).alloc (.cells D 24)).alloc (.cells Z 27)) := ⟨_, rfl⟩
  have hB0 : W0.heap[w.heap.size]? = some (.cells C 23 (0, 0)) := by rw [hW]; exact (heap3 w _ _ _).1
  have hN0 : W0.heap[w.heap.size + 1]? = some (.cells D 24 (0, 0)) := by rw [hW]; exact (heap3 w _ _ _).2.1
  have HR0 : Hid (W0.heap[w.heap.size + 1 + 1]? = some (.cells Z 27 (0, 0))) := Lib.hid (by rw [hW]; exact (heap3 w _ _ _).2.2)
  have HB : Hid (Below w.heap.size w W0) := by
    rw [hW]
    exact Lib.hid (((Below.refl _ _).alloc (Nat.le_refl _) _).alloc (by simp) _ |>.alloc (by simp; omega) _)
  have HSZ : Hid (w.heap.size + 1 + 1 < W0.heap.size) := Lib.hid (by rw [hW]; simp)
  rw [← hW]
  obtain ⟨R, hR⟩ : ∃ R, R = w.heap.size + 1 + 1 := ⟨_, rfl⟩
  obtain ⟨N, hN⟩ : ∃ R, R = w.heap.size + 1 := ⟨_, rfl⟩
  obtain ⟨B, hB⟩ : ∃ R, R = w.heap.size := ⟨_, rfl⟩
  rw [← hR] at HR0 HSZ ⊢
  rw [← hN] at hN0 ⊢
  rw [← hB] at hB0 HB ⊢
  have HZ := Lib.hid hZ
  have HBw := Lib.hid hB
  have HBR : Hid (B ≤ R) := Lib.hid (by omega)
  clear hZ hW hR hN hB
  go_wp2_with (first | refine wpList_load_row rfl 23 _ rfl B rfl 23 _ (0, 0) _ hB0 Try.underlying23 rfl H23.out ?_ | refine wpList_load_row rfl 24 _ rfl N rfl 24 _ (0, 0) _ hN0 Try.underlying24 rfl H24.out ?_)
  refine (K.out _).mono ?_
  rintro e w1 ⟨rfl, hb1⟩
  have HB1 := Lib.hid hb1
  clear hb1 hB0 hN0
  go_upto_region 2 with (refine wpList_store_row rfl 44 _ _ rfl _ E rfl rfl 44 _ (heap_alloc_new _ _) H44.out HS16.out hE1 ?_)
  rw [setRow_alloc_new]
  obtain ⟨W2, hW⟩ : ∃ W, W = w1.alloc (.cells E 44) := ⟨_, rfl⟩
  have hG1 : W2.heap[w1.heap.size]? = some (.cells E 44 (0, 0)) := by rw [hW]; exact heap_alloc_new _ _
  have HF2 := Lib.hid (show Fr w1 W2 (fun _ => False) by rw [hW]; exact Fr.alloc _ _)
  rw [← hW]
  have HL1 : Hid (w1.heap.size < W2.heap.size) := Lib.hid (by rw [hW]; simp)
  obtain ⟨G1, hG⟩ : ∃ G, G = w1.heap.size := ⟨_, rfl⟩
  have HRG1 : Hid (R < G1) := Lib.hid (by rw [hG]; have := HB1.out.size; have := HSZ.out; omega)
  rw [← hG] at hG1 HL1 ⊢
  clear hG hW
  go_upto_region 3 with (first | refine wpList_load_row rfl 44 _ rfl G1 rfl 44 _ (0, 0) _ hG1 Try.underlying44 rfl H44.out ?_ | refine wpList_store_row rfl 44 _ _ rfl _ E rfl rfl 44 _ (heap_alloc_new _ _) H44.out HS16.out hE1 ?_)
  rw [setRow_alloc_new]
  obtain ⟨W3, hW⟩ : ∃ W, W = W2.alloc (.cells E 44) := ⟨_, rfl⟩
  have Q : Hid (Grid W3 G1 44 g0 ∧ Grid W3 W2.heap.size 44 g0 ∧ W3.heap[R]? = some (.cells Z 27 (0, 0)) ∧ Below B w W3 ∧ W2.heap.size < W3.heap.size) := by
    refine Lib.hid ⟨⟨?_, HGL.out.1, HGL.out.2⟩, ⟨?_, HGL.out.1, HGL.out.2⟩, ?_, ?_, ?_⟩
    · rw [← HE.out, hW]; exact (Fr.alloc _ _).heap hG1 (fun h => h)
    · rw [← HE.out, hW]; exact heap_alloc_new _ _
    · rw [hW]; exact (Fr.alloc _ _).heap (HF2.out.heap ((Fr.of_below HB1.out).heap HR0.out (fun h => h)) (fun h => h)) (fun h => h)
    · rw [hW]
      have h1 : Below B w w1 := HB.out.trans (HB1.out.mono (by have := HSZ.out; have := HBR.out; omega))
      have h2 : Below B w W2 := h1.trans (HF2.out.below (by have := h1.size; have := HB1.out.size; have := HSZ.out; have := HBR.out; omega) (fun _ _ h => h))
      exact h2.alloc (by have := HL1.out; have := HRG1.out; have := HBR.out; omega) _
    · rw [hW]; simp
  rw [← hW]
  obtain ⟨G2, hG⟩ : ∃ G, G = W2.heap.size := ⟨_, rfl⟩
  rw [← hG] at Q HL1 ⊢
  clear hW hG hG1
  go_wp2_with fail
  go_loopw [16] (fun v wr => ∃ (i : Nat), v = .int .i64 i ∧ i ≤ 10 ∧ Grid wr G2 44 (iter10 i g0) ∧ Fr W3 wr (fun k => k = G2)) (fun v _ => 10 - (intOf v).toNat)
  case atStart => exact ⟨0, rfl, by omega, Q.out.2.1, Fr.refl _ _⟩
  case round =>
    obtain ⟨i, rfl, hi, hG, hF⟩ := hrel
    by_cases hlt : (i : Int) < 10
    · have K := Lib.hid (double_any G2 44 _ wr hG)
      have HF := Lib.hid hF
      clear hG hF
      go_wp2_with fail
      refine K.out.mono ?_
      rintro e w2 ⟨rfl, hG2, hF2⟩
      have HG2 := Lib.hid hG2
      have HF2 := Lib.hid ((HF.out.trans hF2).mono (U := fun k => k = G2) (by simp))
      clear hG2 hF2
      go_wp2
      go_roundw
      case rel => exact ⟨i + 1, by go_num, by omega, HG2.out, HF2.out⟩
      case measure => simp [intOf]; omega
    · obtain rfl : i = 10 := by omega
      obtain ⟨ga, hga⟩ : ∃ g, g = iter10 10 g0 := ⟨_, rfl⟩
      rw [← hga] at hG
      have HGA := Lib.hid hga
      have Q2 : Hid (Grid wr G1 44 g0 ∧ wr.heap[R]? = some (.cells Z 27 (0, 0)) ∧ Below B w wr) := Lib.hid ⟨Q.out.1.fr hF (by have := HL1.out; omega), hF.heap Q.out.2.2.1 (by have := HL1.out; have := HRG1.out; omega), Q.out.2.2.2.1.trans (hF.below (by have := Q.out.2.2.2.2; have := HL1.out; have := HRG1.out; have := HBR.out; omega) (fun k hk e => by have := HL1.out; have := HRG1.out; have := HBR.out; omega))⟩
      have HG2 := Lib.hid hG
      clear hG hF hga
      go_upto_region 8 with (fail)
      obtain ⟨W4, hW⟩ : ∃ W, W = wr.alloc (.cells #[.int .u8 0, .int .u8 0, .int .u8 0, .int .u8 0, .int .u8 0, .int .u8 0, .int .u8 0, .int .u8 0, .int .u8 0, .int .u8 0, .int .u8 0, .int .u8 0, .int .u8 0, .int .u8 0, .int .u8 0, .int .u8 0, .int .u8 0, .int .u8 0, .int .u8 0, .int .u8 0, .int .u8 0, .int .u8 0, .int .u8 0, .int .u8 0, .int .u8 0, .int .u8 0, .int .u8 0, .int .u8 0, .int .u8 0, .int .u8 0, .int .u8 0, .int .u8 0, .int .u8 0, .int .u8 0, .int .u8 0, .int .u8 0, .int .u8 0, .int .u8 0, .int .u8 0, .int .u8 0, .int .u8 0, .int .u8 0, .int .u8 0, .int .u8 0, .int .u8 0, .int .u8 0, .int .u8 0, .int .u8 0, .int .u8 0, .int .u8 0, .int .u8 0, .int .u8 0, .int .u8 0, .int .u8 0, .int .u8 0, .int .u8 0, .int .u8 0, .int .u8 0, .int .u8 0, .int .u8 0, .int .u8 0, .int .u8 0, .int .u8 0, .int .u8 0] 27) := ⟨_, rfl⟩
      have P : Hid (Octs W4 wr.heap.size 27 64 (outF ga g0 0) ∧ Grid W4 G1 44 g0 ∧ Grid W4 G2 44 ga ∧ W4.heap[R]? = some (.cells Z 27 (0, 0)) ∧ Below B w W4 ∧ wr.heap.size < W4.heap.size) := by
        rw [hW]
        refine Lib.hid ⟨⟨heap_alloc_new _ _, rfl, ?_⟩, Q2.out.1.fr (Fr.alloc _ _) (fun h => h), HG2.out.fr (Fr.alloc _ _) (fun h => h), (Fr.alloc _ _).heap Q2.out.2.1 (fun h => h), ?_, by simp⟩
        · intro x hx
          rw [List.eq_of_mem_replicate hx]
          decide
        · have := (Array.getElem?_eq_some_iff.1 Q2.out.2.1).1
          exact Q2.out.2.2.alloc (by have := HBR.out; omega) _
      have HLO : Hid (R < wr.heap.size ∧ G1 < wr.heap.size ∧ G2 < wr.heap.size ∧ B < wr.heap.size) := by
        have h1 := (Array.getElem?_eq_some_iff.1 Q2.out.2.1).1
        have h2 := (Array.getElem?_eq_some_iff.1 HG2.out.cells).1
        have h3 := (Array.getElem?_eq_some_iff.1 Q2.out.1.cells).1
        have := HBR.out
        exact Lib.hid (by omega)
      rw [← hW]
      obtain ⟨O, hO⟩ : ∃ O, O = wr.heap.size := ⟨_, rfl⟩
      rw [← hO] at P HLO ⊢
      clear hW hO HG2 Q2 Q
      go_wp2_with fail
      go_loopw [20] (fun v wr => ∃ (i : Nat), v = .int .i64 i ∧ i ≤ 16 ∧ Octs wr O 27 64 (outF ga g0 i) ∧ Fr W4 wr (fun k => k = O)) (fun v _ => 16 - (intOf v).toNat)
      case atStart => exact ⟨0, rfl, by omega, P.out.1, Fr.refl _ _⟩
      case round =>
        obtain ⟨i, rfl, hi2, hQ, hF⟩ := hrel
        by_cases hlt : (i : Int) < 16
        · have hii : i < 16 := by omega
          have g1 := P.out.2.1.fr hF (by have := HLO.out; omega)
          have g2 := P.out.2.2.1.fr hF (by have := HLO.out; omega)
          obtain ⟨x, hx⟩ : ∃ x, ga.getD i 0 = x := ⟨_, rfl⟩
          obtain ⟨y, hy⟩ : ∃ x, g0.getD i 0 = x := ⟨_, rfl⟩
          have cq := g1.cell i hii
          have cp := g2.cell i hii
          have lp := g2.getD_lt i
          have lq := g1.getD_lt i
          rw [hx] at cp lp
          rw [hy] at cq lq
          obtain ⟨v, hv⟩ : ∃ v, (x + y) % 4294967296 = v := ⟨_, rfl⟩
          have sv : IntKind.u32.wrap ((x : Int) + y) = (v : Int) := by rw [IntKind.wrap_u32]; omega
          have hvl : (v : Int) ≤ 4294967295 := by omega
          have K := Lib.hid (fun cap w h => put_any O 27 64 (4 * i) cap (outF ga g0 i) v hvl w h (by omega))
          have HO := Lib.hid hQ
          have HE2 : Hid (outF ga g0 (i + 1) = put4 (outF ga g0 i) (4 * i) v 4) := Lib.hid (by rw [← hv, ← hx, ← hy]; rfl)
          have HF := Lib.hid hF
          have hsl := slice4 27 64 Try.underlying27 Try.sizeOf5 O i (by omega)
          clear hv hx hy hF hQ g1 g2 hii
          have s1 : IntKind.i64.wrap (4 * (i : Int)) = 4 * (i : Int) := IntWalk.i64_in _ (by omega)
          have s2 : IntKind.i64.wrap (4 * (i : Int) + 4) = 4 * (i : Int) + 4 := IntWalk.i64_in _ (by omega)
          have s3 : IntKind.u64.wrap (v : Int) = (v : Int) := IntWalk.u64_in _ (by omega)
          go_wp2_with fail
          go_still_tail 14, (by kernel_rfl)
          clear s1 s2 s3 hsl sv
          change wpList _ _ _ _ _ wr.drew
          go_wp2_with fail
          refine (K.out _ _ HO.out.drew).mono ?_
          rintro e w5 ⟨rfl, hO5, hF5⟩
          have HO5 := Lib.hid hO5
          have HF5 := Lib.hid (((HF.out.trans (Fr.drew _)).trans hF5).mono (U := fun k => k = O) (by simp))
          clear hO5 hF5 cp cq
          go_wp2_with fail
          go_roundw
          case rel => exact ⟨i + 1, by go_num, by omega, by rw [HE2.out]; exact HO5.out, HF5.out⟩
          case measure => simp [intOf]; omega
        · obtain rfl : i = 16 := by omega
          obtain ⟨X, hX, hXO, hXs, hX1⟩ := hQ.arr
          have hZ0 := hF.heap P.out.2.2.2.1 (by have := HLO.out; omega)
          have H27 : Hid ((Try.prog.info? 27).map (·.size) = some X.size) := by rw [hXs]; exact Lib.hid (by kernel_rfl)
          have HS64 : Hid (Z.size = X.size) := Lib.hid (by rw [hXs, HZ.out]; rfl)
          have HR := heap_setRow_new _ R X _ 27 hZ0
          have HFF := Lib.hid hF
          clear hXs hQ hF
          go_wp2_with (first | refine wpList_load_row rfl 27 _ rfl O rfl 27 _ (0, 0) _ hXO Try.underlying27 rfl H27.out ?_ | refine wpList_store_row rfl 27 _ _ rfl R X rfl rfl 27 _ hZ0 H27.out HS64.out hX1 ?_)
          try simp only [Exit.inBlock, Exit.then]
          refine bodyPost_ret (v := .agg X) ?_ rfl ⟨?_, ?_⟩
          · exact results_cell_row rfl _ _ R 27 X (0, 0) _ rfl HR Try.underlying27 rfl H27.out
          · exact congrArg Ending.returned (by rw [← hX.out, HGA.out, HG0.out]; rfl)
          · rw [← HBw.out]
            refine (P.out.2.2.2.2.1.trans (HFF.out.below ?_ ?_)).trans (below_setRow _ B R X HBR.out)
            · have := P.out.2.2.2.2.2; have := HLO.out; omega
            · intro k hk e; have := HLO.out; omega
end Go.Proofs.Ytbgidkphbbpdeaa
