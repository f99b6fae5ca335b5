/- The walk of PackOwn. -/
import Derived.Test.YtpdgbpoplljpkaaPackText
namespace Go.Proofs.Ytpdgbpoplljpkaa
open Go.RowKit
set_option linter.unusedVariables false
set_option linter.unusedSimpArgs false

theorem InAt.fr {w w' : World} {B : Nat} {p : Option Addr} {n cap : Nat} {xs : List Int} {bad : Bool} {T : Nat → Prop} (h : InAt w B p n cap xs bad) (hf : Fr w w' T) (hB : ¬ T B) (hp : 0 < n → ∀ a, p = some a → ¬ T a.block) :
    InAt w' B p n cap xs bad := ⟨hf.heap h.cells hB, h.src.fr hf hp, h.le, h.nil, h.big⟩

/-- What holds in the loop that turns the answers. -/
structure OwnR (w7 : World) (pc p2 : Option Addr) (capc cap2 n : Nat) (wr : World) : Prop where
  ex : ∃ cs ts, Own wr 0 pc n capc cs ∧ Own wr 0 p2 n cap2 ts
  fr : Fr w7 wr (fun i => some i = blk pc ∨ some i = blk p2)
theorem OwnR.step {w7 : World} {g h capc cap2 n k : Nat} {wr : World} {cs ts : List Int} {u v : Int} (hc : Own wr 0 (some ⟨g, 0, none⟩) n capc cs) (ht : Own wr 0 (some ⟨h, 0, none⟩) n cap2 ts) (hf : Fr w7 wr (fun i => some i = blk (some ⟨g, 0, none⟩) ∨ some i = blk (some ⟨h, 0, none⟩)))
    (hne : g ≠ h) (hu : 0 ≤ u ∧ u ≤ 255) (hv : 0 ≤ v ∧ v ≤ 255) : OwnR w7 (some ⟨g, 0, none⟩) (some ⟨h, 0, none⟩) capc cap2 n ((wr.setCell ⟨g, k, none⟩ (.int .u8 u)).setCell ⟨h, k, none⟩ (.int .u8 v)) := by
  refine ⟨⟨cs.set k u, ts.set k v, (hc.set k u hu).fr (Fr.setCell _ ⟨h, k, none⟩ _) ?_, (ht.fr (Fr.setCell wr ⟨g, k, none⟩ (.int .u8 u)) ?_).set k v hv⟩, ((hf.trans (Fr.setCell wr ⟨g, k, none⟩ (.int .u8 u))).trans (Fr.setCell _ ⟨h, k, none⟩ _)).mono ?_⟩
  · intro i hi e
    simp [blk] at hi e; omega
  · intro i hi e
    simp [blk] at hi e; omega
  · intro i _ hi
    rcases hi with (hi | hi) | hi
    · exact hi
    · left; rw [hi]; rfl
    · right; rw [hi]; rfl

set_option maxRecDepth 100000 in
set_option maxHeartbeats 1600000 in
theorem own_walk (a0 : Option Addr) (len0 cap0 : Nat) (z0 : List Int) (w : World) (w0 : IsRow .u8 w a0 len0 cap0 z0) :
    Calls Try.prog 3 #[.slice a0 len0 cap0] w fun e w' => e = .returned (.bool true) ∧ Below w.heap.size w w' := by
  obtain ⟨S0, hc0, hcm0, hn0⟩ := w0.src
  obtain ⟨xs, hxs⟩ : ∃ xs, z0.take len0 = xs := ⟨_, rfl⟩
  rw [hxs] at S0
  clear w0 hxs
  by_cases h0 : 500 < (len0 : Int)
  · go_enter Try.func3, Try.ntmps3
    go_wp2_with fail
    refine (awake_any _).mono ?_
    rintro e w1 ⟨rfl, hb1⟩
    go_wp2_with fail
    refine (awake_any _).mono ?_
    rintro e w2 ⟨rfl, hb2⟩
    go_wp2_with fail
    go_ret
    exact ⟨rfl, hb1.trans (hb2.mono hb1.size)⟩
  have HP := Lib.hid (show a0 = none → len0 = 0 ∧ cap0 = 0 from fun e => ⟨by have := hn0 e; omega, hn0 e⟩)
  have j0 : (len0 : Int) ≤ 500 := by omega
  clear hn0 h0
  go_enter Try.func3, Try.ntmps3
  go_wp2_with fail
  refine (awake_any _).mono ?_
  rintro e w1 ⟨rfl, hb1⟩
  have S1 := S0.below hb1
  have cv := S1.convert (P := Try.prog) cap0 22 5 9 Try.underlying22 Try.underlying5 Try.underlying9
  have HB1 := Lib.hid hb1
  clear hb1
  go_wp2_with fail
  refine (read_any a0 len0 cap0 xs w1 S1 HP.out (by omega)).mono ?_
  rintro e w2 ⟨B, p1, cap1, rfl, hI, hBge, hb2⟩
  have HI := Lib.hid hI
  have hz12 := hb2.size
  have HB2 := Lib.hid hb2
  have HS2 := Lib.hid (S1.below hb2)
  have HL := Lib.hid (fun hn => S1.lt hn)
  have hBlt : B < w2.heap.size := (Array.getElem?_eq_some_iff.1 hI.cells).1
  clear hI hb2 S1 cv S0
  go_wp2_with fail
  refine (inRaw_ok B p1 len0 cap1 xs len0 w2 HI.out (Nat.le_refl _)).mono ?_
  rintro e w3 ⟨p2, cap2, q, rfl, hO3, hI3, hF3⟩
  have htake : xs.take len0 = xs := List.take_of_length_le (by have := HS2.out.len; omega)
  rw [htake] at hO3
  have HO3 := Lib.hid hO3
  have HI3 := Lib.hid hI3
  have HF3 := Lib.hid hF3
  have z23 := hF3.size
  clear hO3 hI3 hF3 htake
  go_wp2_with fail
  have O4 : OutAt (w3.alloc (.cells #[.slice none 0 0, .bool false] 30)) w3.heap.size w3.heap.size none 0 0 [] false := ⟨heap_alloc_new _ _, Own.nil _ _⟩
  refine (outRaw_any w3.heap.size w3.heap.size none 0 0 [] false p2 len0 cap2 xs _ O4 (HO3.out.src.below (below_alloc _ _)) HO3.out.capnil (by omega) (by simp)).mono ?_
  rintro e w5 ⟨p5, cap5, rfl, hO5, hF5, hN5⟩
  rw [Nat.zero_add, List.nil_append] at hO5
  have hF35 : Fr w3 w5 (fun _ => False) := ((Fr.alloc w3 _).trans hF5).mono (fun k hk h => by
    rcases h with h | h | h
    · exact h
    · omega
    · cases h)
  have HO5 := Lib.hid hO5
  have HF5 := Lib.hid hF35
  have z35 := hF35.size
  clear hO5 hF5 hF35 hN5 O4
  go_wp2_with fail
  refine (end_ok w3.heap.size _ _ len0 _ _ _ HO5.out (by omega)).mono ?_
  rintro e w6 ⟨pc, capc, rfl, hO6, hB6⟩
  have HO6 := Lib.hid hO6
  have HB6 := Lib.hid hB6
  have z56 := hB6.size
  have HO5' := Lib.hid (HO5.out.fr (Fr.of_below hB6) (fun h => h) (fun _ _ h => h))
  clear hO6 hB6
  go_wp2_with fail
  refine (end_ok w3.heap.size _ _ len0 _ _ _ HO5'.out (by omega)).mono ?_
  rintro e w7 ⟨pd, capd, rfl, hO7, hB7⟩
  have HO7 := Lib.hid hO7
  have HB7 := Lib.hid hB7
  have z67 := hB7.size
  clear hO7 hB7
  go_wp2_with fail
  have OC := HO6.out.fr (Fr.of_below HB7.out) (fun _ _ h => h)
  have OT := (((HO3.out.fr HF5.out (fun _ _ h => h)).fr (Fr.of_below HB6.out) (fun _ _ h => h)).fr (Fr.of_below HB7.out) (fun _ _ h => h))
  have hne : ∀ i, blk pc = some i → blk p2 ≠ some i := fun i h1 h2 => by
    have a := HO6.out.lt i h1
    have b := HO3.out.lt i h2
    omega
  have R0 : OwnR w7 pc p2 capc cap2 len0 w7 := ⟨⟨xs, xs, OC.base (Nat.zero_le _), OT.base (Nat.zero_le _)⟩, Fr.refl _ _⟩
  have HNE := Lib.hid hne
  clear OC OT hne
  go_loopw [11] (fun v wr => ∃ (k : Nat), v = .int .i64 k ∧ k ≤ len0 ∧ OwnR w7 pc p2 capc cap2 len0 wr) (fun v _ => len0 - (intOf v).toNat)
  case atStart => exact ⟨0, rfl, Nat.zero_le _, R0⟩
  case round =>
    obtain ⟨k, rfl, hk, ⟨cs, ts, oc, ot⟩, hfr⟩ := hrel
    by_cases hlt : (k : Int) < len0
    · obtain ⟨_, e, _⟩ | ⟨g, cur, rfl, _⟩ := oc.cases
      · omega
      obtain ⟨_, e, _⟩ | ⟨h, cur2, rfl, _⟩ := ot.cases
      · omega
      have hgh : g ≠ h := fun e => HNE.out g rfl (by rw [e]; rfl)
      obtain ⟨c1, c2, c3, c4⟩ := oc.cell k (by omega)
      obtain ⟨t1, t2, t3, t4⟩ := ot.cell k (by omega)
      obtain ⟨x, hx⟩ : ∃ x, cs.getD k 0 = x := ⟨_, rfl⟩
      obtain ⟨y, hy⟩ : ∃ x, ts.getD k 0 = x := ⟨_, rfl⟩
      rw [hx] at c1 c3 c4
      rw [hy] at t1 t3 t4
      have s1 : ∀ v, (wr.setCell ⟨g, k, none⟩ v).cell? ⟨h, k, none⟩ = some (.int .u8 y) := fun v => (Fr.setCell wr ⟨g, k, none⟩ v).cell t1 (fun e => hgh e.symm)
      clear hx hy
      go_wp2
      go_roundw
      case rel => exact ⟨k + 1, by go_num, by omega, OwnR.step oc ot hfr hgh (by omega) (by omega)⟩
      case measure => simp [intOf]; omega
    · have hpc : ∀ i, blk pc = some i → w5.heap.size ≤ i ∧ i < w6.heap.size := fun i h => HO6.out.lt i h
      have hp2 : ∀ i, blk p2 = some i → w2.heap.size ≤ i ∧ i < w3.heap.size := fun i h => HO3.out.lt i h
      have S3 : Src w3 a0 len0 xs := HS2.out.fr HF3.out (fun hn a ha e => by have := HL.out hn a ha; omega)
      have S7 : Src w7 a0 len0 xs := ((S3.fr HF5.out (fun _ _ _ h => h)).below HB6.out).below HB7.out
      have SR : Src wr a0 len0 xs := S7.fr hfr (fun hn a ha e => by
        have := HL.out hn a ha
        rcases e with e | e
        · have := hpc _ e.symm; omega
        · have := hp2 _ e.symm; omega)
      have cb := SR.convert (P := Try.prog) cap0 22 5 9 Try.underlying22 Try.underlying5 Try.underlying9
      have SD : Src wr pd len0 xs := (HO7.out.fr hfr (fun i hi e => by
        have := HO7.out.lt i hi
        rcases e with e | e
        · have := hpc _ e.symm; omega
        · have := hp2 _ e.symm; omega)).src
      have cd := SD.convert (P := Try.prog) capd 22 5 9 Try.underlying22 Try.underlying5 Try.underlying9
      have I7 : InAt w7 B q (len0 - len0) (cap1 - len0) (xs.drop len0) false := ((HI3.out.fr HF5.out (fun h => h) (fun _ _ _ h => h)).fr (Fr.of_below HB6.out) (fun h => h) (fun _ _ _ h => h)).fr (Fr.of_below HB7.out) (fun h => h) (fun _ _ _ h => h)
      have IR : InAt wr B q (len0 - len0) (cap1 - len0) (xs.drop len0) false := I7.fr hfr (fun e => by
        rcases e with e | e
        · have := hpc _ e.symm; omega
        · have := hp2 _ e.symm; omega) (fun hn => by omega)
      have HIR := Lib.hid IR
      have HFR := Lib.hid hfr
      have HPC := Lib.hid hpc
      have HP2 := Lib.hid hp2
      clear S3 S7 SR SD I7 IR hfr hpc hp2 oc ot R0
      go_wp2_with (go_at_call 13; refine (over_any B q (len0 - len0) (cap1 - len0) (xs.drop len0) false _ HIR.out).mono ?_; rintro e w9 ⟨rfl, rfl⟩)
      go_ret
      refine ⟨rfl, HB1.out.trans ((HB2.out.mono HB1.out.size).trans ?_)⟩
      have z01 := HB1.out.size
      have F := ((HF3.out.trans HF5.out).trans (Fr.of_below HB6.out)).trans ((Fr.of_below HB7.out).trans HFR.out)
      refine F.below (by omega) (fun k hk e => ?_)
      rcases e with ((e | e) | e) | (e | e | e)
      · omega
      · exact e
      · exact e
      · exact e
      · have := HPC.out k e.symm; omega
      · have := HP2.out k e.symm; omega
end Go.Proofs.Ytpdgbpoplljpkaa
