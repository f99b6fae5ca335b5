/- A part; the contracts of the reference's Bytes and of the law's put. -/
import Derived.Test.YtpdgbpoplljpkaaPackRef
import Derived.Deep.RegionLaw
namespace Go.Proofs.Ytpdgbpoplljpkaa
open Go.RowKit
set_option linter.unusedVariables false
set_option linter.unusedSimpArgs false

/-- A part as a value, and the bytes that it leads to. -/
structure Pt where
  k : Int
  x : Nat
  q : Option Addr
  m : Nat
  c : Nat
  bs : List Int
def Pt.val (p : Pt) : Value := .agg #[.int .u8 p.k, .int .u64 (p.x : Int), .slice p.q p.m p.c]
structure Pt.Ok (p : Pt) (w : World) : Prop where
  src : Src w p.q p.m p.bs
  nil : p.q = none → p.c = 0
  k0 : 0 ≤ p.k ∧ p.k ≤ 255
  x0 : p.x < 18446744073709551616
theorem Pt.Ok.below {p : Pt} {w w' : World} (h : p.Ok w) (hb : Below w.heap.size w w') : p.Ok w' := ⟨h.src.below hb, h.nil, h.k0, h.x0⟩
/-- A part's bytes. -/
def Pt.bytes (p : Pt) : List Int :=
  if p.k % 4 = 0 then enc p.x else if p.k % 4 = 1 then (if 4096 < p.m then [] else enc p.m ++ p.bs) else if p.k % 4 = 2 then p.bs else [((p.x % 2 : Nat) : Int)]
def Pt.good (p : Pt) : Bool := decide (¬ (p.k % 4 = 1 ∧ 4096 < p.m))

theorem fr_after {w w1 : World} {o : Obj} (h : Below (w.alloc o).drew.heap.size (w.alloc o).drew w1) : Fr w w1 (fun _ => False) :=
  ((Fr.alloc w o).trans ((Fr.drew _).trans (Fr.of_below h))).mono (by simp)

/-- What the reference's Bytes answers. -/
def BytesPost (w : World) (p : Pt) (e : Ending) (w' : World) : Prop :=
  ∃ q n c, e = .returned (.tuple #[.slice q n c, .bool p.good]) ∧ Src w' q n p.bytes ∧ (q = none → c = 0) ∧ Below w.heap.size w w'

set_option maxRecDepth 100000 in
set_option maxHeartbeats 1600000 in
theorem refBytes_any (p : Pt) (w : World) (h : p.Ok w) : Calls Try.prog 16 #[.agg #[.int .u8 p.k, .int .u64 (p.x : Int), .slice p.q p.m p.c]] w (BytesPost w p) := by
  obtain ⟨k, x, q, m, c, bs⟩ := p
  obtain ⟨hs, hq, hk, hx⟩ := h
  simp only at hs hq hk hx ⊢
  have hxi : (x : Int) ≤ 18446744073709551615 := by omega
  have hbW : Below w.heap.size w (w.alloc (.cells #[.int .u8 k, .int .u64 x, .slice q m c] 42)) := below_alloc w _
  have HB := Lib.hid hbW
  clear hbW
  rcases (by omega : k % 4 = 0 ∨ k % 4 = 1 ∨ k % 4 = 2 ∨ k % 4 = 3) with h4 | h4 | h4 | h4
  · have K := Lib.hid (refNum_any x hx (w.alloc (.cells #[.int .u8 k, .int .u64 x, .slice q m c] 42)))
    have E := Lib.hid (show (Pt.mk k x q m c bs).bytes = enc x by simp [Pt.bytes, h4])
    have E2 := Lib.hid (show (Pt.mk k x q m c bs).good = true by simp [Pt.good, h4])
    clear hs hq
    go_enter Try.func16, Try.ntmps16
    go_wp2_with fail
    refine K.out.mono ?_
    rintro e w1 ⟨p1, cap1, rfl, h1, h2⟩
    have P : BytesPost w (Pt.mk k x q m c bs) (.returned (.tuple #[.slice p1 (enc x).length cap1, .bool true])) w1 :=
      ⟨p1, _, cap1, by rw [E2.out], by rw [E.out]; exact h1.src, h1.capnil, HB.out.trans (h2.mono HB.out.size)⟩
    have HP := Lib.hid P
    clear h1 h2 P
    go_wp2
    go_ret2
    exact HP.out
  · by_cases hm : 4096 < (m : Int)
    · have E := Lib.hid (show (Pt.mk k x q m c bs).bytes = [] by simp [Pt.bytes, h4]; omega)
      have E2 := Lib.hid (show (Pt.mk k x q m c bs).good = false by simp [Pt.good, h4]; omega)
      clear hs hq
      go_enter Try.func16, Try.ntmps16
      go_wp2
      go_ret2
      exact ⟨none, 0, 0, by rw [E2.out]; rfl, by rw [E.out]; exact ⟨rfl, by simp, fun h => by omega⟩, fun _ => rfl, HB.out⟩
    · have E := Lib.hid (show (Pt.mk k x q m c bs).bytes = enc m ++ bs by simp [Pt.bytes, h4]; omega)
      have E2 := Lib.hid (show (Pt.mk k x q m c bs).good = true by simp [Pt.good, h4]; omega)
      have HQ := Lib.hid hq
      have hm2 : m ≤ 4096 := by omega
      have hwm : IntKind.u64.wrap (m : Int) = m := IntWalk.u64_in _ (by omega)
      have HS0 := Lib.hid hs
      have hel := enc_le m
      have K := Lib.hid (refNum_any m (by omega) (w.alloc (.cells #[.int .u8 k, .int .u64 x, .slice q m c] 42)).drew)
      have b1 : (w.alloc (.cells #[.int .u8 k, .int .u64 x, .slice q m c] 42)).drew.cell? ⟨w.heap.size, 2, none⟩ = some (.slice q m c) := by
        show (w.alloc (.cells #[.int .u8 k, .int .u64 x, .slice q m c] 42)).cell? _ = _
        rw [cell_of_row _ _ _ _ _ _ (heap_alloc_new w _)]; rfl
      clear hs hq
      go_enter Try.func16, Try.ntmps16
      go_wp2_with fail
      go_region_law (first
        | (go_simp; go_at_call 28; refine K.out.mono ?_; rintro e w1 ⟨p1, cap1, rfl, h1, h2⟩; have F1 := Lib.hid (fr_after h2); have d1 : w1.cell? ⟨w.heap.size, 2, none⟩ = some (.slice q m c) := (World.cell?_of_block (h2.block _ (by show w.heap.size < (w.alloc _).heap.size; simp))).trans b1; have H1 := Lib.hid h1; clear h1 h2)
        | (refine step_append_bytes rfl (.tmp 22) (.tmp 24) 22 rfl w.heap.size Try.underlying22 Try.info5 p1 (enc m).length cap1 (enc m) rfl (H1.out.base (by show w.heap.size ≤ (w.alloc _).heap.size; simp)) q m c bs rfl (HS0.out.fr F1.out (fun _ _ _ h => h)) HQ.out (by omega) (F1.out.size) ?_; intro p' cap' w2 hown hg hn1 hn2; have HO2 := Lib.hid hown; have HG2 := Lib.hid hg; clear hown hg))
      all_goals
        have P : BytesPost w (Pt.mk k x q m c bs) (.returned (.tuple #[.slice p' ((enc m).length + m) cap', .bool true])) w2 :=
          ⟨p', _, cap', by rw [E2.out], by rw [E.out]; exact HO2.out.src, HO2.out.capnil, ((F1.out.trans (Fr.of_grown HG2.out)).below (Nat.le_refl _) (by
            intro j hj e
            rcases e with e | e
            · exact e
            · have := (H1.out.lt j e.symm).1; have hz : w.heap.size ≤ (w.alloc (.cells #[.int .u8 k, .int .u64 x, .slice q m c] 42)).drew.heap.size := by show w.heap.size ≤ (w.alloc _).heap.size; simp
              omega))⟩
        have HP := Lib.hid P
        clear P
        go_wp2
        go_ret2
        exact HP.out
  · have E := Lib.hid (show (Pt.mk k x q m c bs).bytes = bs by simp [Pt.bytes, h4])
    have E2 := Lib.hid (show (Pt.mk k x q m c bs).good = true by simp [Pt.good, h4])
    have HS := Lib.hid (hs.below HB.out)
    have HQ := Lib.hid hq
    clear hs hq
    go_enter Try.func16, Try.ntmps16
    go_wp2
    go_ret2
    exact ⟨q, m, c, by rw [E2.out]; rfl, by rw [E.out]; exact HS.out, HQ.out, HB.out⟩
  · have E := Lib.hid (show (Pt.mk k x q m c bs).bytes = [(x : Int) % 2] by simp [Pt.bytes, h4])
    have E2 := Lib.hid (show (Pt.mk k x q m c bs).good = true by simp [Pt.good, h4])
    have hx2 : (x : Int) % 2 % 256 = (x : Int) % 2 := by omega
    clear hs hq
    go_enter Try.func16, Try.ntmps16
    go_wp2
    go_ret2
    refine ⟨_, _, _, by rw [E2.out]; rfl, by rw [E.out]; have := src_one (w.alloc (.cells #[.int .u8 k, .int .u64 x, .slice q m c] 42)) ((x : Int) % 2) (by omega); simpa using this, (fun h => by cases h), ?_⟩
    exact HB.out.trans ((below_alloc _ _).mono HB.out.size)
end Go.Proofs.Ytpdgbpoplljpkaa
