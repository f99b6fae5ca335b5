/- The walk of PackBack. -/
import Derived.Test.YtpdgbpoplljpkaaPackBackLaw
import Derived.Deep.QuietTactic
import Derived.BigQuiet
namespace Go.Proofs.Ytpdgbpoplljpkaa
open Go.RowKit
set_option linter.unusedVariables false
set_option linter.unusedSimpArgs false

/-- What holds in the loop that puts the parts in. -/
structure BackR (w2 : World) (B : Nat) (ps : List Pt) (k : Nat) (wr : World) : Prop where
  out : ∃ p n cap, OutAt wr B B p n cap (catTo ps k) (!goodTo ps k) ∧ n ≤ k * 1048586
  bel : Below B w2 wr
/-- What holds in the loop that takes them out. -/
structure TakeR (w2 : World) (B C : Nat) (ps : List Pt) (k : Nat) (wr : World) : Prop where
  inn : ∃ p n cap, InAt wr C p n cap (catFrom ps k) false
  bel : Below B w2 wr

theorem box_after {wr w5 : World} {C : Nat} {kk X : Int} {q : Option Addr} {m c : Nat} (hC : C < wr.heap.size) (hF : Fr (wr.alloc (.cells #[.int .u8 kk, .int .u64 X, .slice q m c] 42)) w5 (fun i => i = C)) :
    w5.cell? ⟨wr.heap.size, 0, none⟩ = some (.int .u8 kk) ∧ w5.cell? ⟨wr.heap.size, 1, none⟩ = some (.int .u64 X) ∧ w5.cell? ⟨wr.heap.size, 2, none⟩ = some (.slice q m c) := by
  have h := hF.heap (heap_alloc_new wr (.cells #[.int .u8 kk, .int .u64 X, .slice q m c] 42)) (by show ¬ wr.heap.size = C; omega)
  refine ⟨?_, ?_, ?_⟩ <;> rw [cell_of_row w5 _ _ _ _ _ h] <;> rfl

set_option maxRecDepth 100000 in
set_option maxHeartbeats 1600000 in
theorem back_walk (a : Option Addr) (len cap : Nat) (ps : List Pt) (w : World) (h : Parts w a len ps) (hms : ∀ p ∈ ps, p.m ≤ 1048576) :
    Calls Try.prog 7 #[.slice a len cap] w fun e w' => e = .returned (.bool true) ∧ Below w.heap.size w w' := by
  cases hf : fewOf ps
  · have HF := Lib.hid hf
    have H := Lib.hid h
    clear hf h
    go_enter Try.func7, Try.ntmps7
    go_wp2_with fail
    refine (awake_any _).mono ?_
    rintro e w1 ⟨rfl, hb1⟩
    go_wp2_with fail
    refine (few_any a len cap ps _ (H.out.below hb1)).mono ?_
    rintro e w2 ⟨rfl, rfl⟩
    rw [HF.out]
    go_wp2_with fail
    refine (awake_any _).mono ?_
    rintro e w2 ⟨rfl, hb2⟩
    go_wp2_with fail
    go_ret
    exact ⟨rfl, hb1.trans (hb2.mono hb1.size)⟩
  · have h40 : len ≤ 40 := by
      have := of_decide_eq_true hf
      rw [h.len] at this
      exact this.1
    have HF := Lib.hid hf
    have H := Lib.hid h
    have HMS := Lib.hid hms
    clear hf h hms
    go_enter Try.func7, Try.ntmps7
    go_wp2_with fail
    refine (awake_any _).mono ?_
    rintro e w1 ⟨rfl, hb1⟩
    go_wp2_with fail
    refine (few_any a len cap ps _ (H.out.below hb1)).mono ?_
    rintro e w2 ⟨rfl, rfl⟩
    rw [HF.out]
    have H1 := Lib.hid (H.out.below hb1)
    have HB1 := Lib.hid hb1
    clear hb1
    go_wp2_with fail
    have R0 : BackR w1 w1.heap.size ps 0 (w1.alloc (.cells #[.slice none 0 0, .bool false] 30)) :=
      ⟨⟨none, 0, 0, ⟨heap_alloc_new _ _, Own.nil _ _⟩, by omega⟩, below_alloc _ _⟩
    go_loopw [4] (fun v wr => ∃ (k : Nat), v = .int .i64 k ∧ k ≤ len ∧ BackR w1 w1.heap.size ps k wr) (fun v _ => len - (intOf v).toNat)
    case atStart => exact ⟨0, rfl, Nat.zero_le _, R0⟩
    case round =>
      obtain ⟨k, rfl, hk, hR⟩ := hrel
      by_cases hlt : (k : Int) < len
      · obtain ⟨b, o, rfl, hc⟩ := H1.out.mem (by omega)
        obtain ⟨p, hp⟩ : ∃ p, ps[k]? = some p := ⟨_, List.getElem?_eq_getElem (by rw [H1.out.len]; omega)⟩
        have hpm : p ∈ ps := List.mem_of_getElem? hp
        obtain ⟨⟨po, nw, co, hO, hn⟩, hB⟩ := hR
        have hpok := (H1.out.ok p hpm).below hB
        obtain ⟨a1, a2, a3⟩ := hc k p hp
        have hblt : b < w1.heap.size := block_lt_of_cell (hc k p hp).1
        have c1 := (hB.cell (p := ⟨b, o + k * 3, none⟩) hblt).trans a1
        have c2 := (hB.cell (p := ⟨b, o + k * 3 + 1, none⟩) hblt).trans a2
        have c3 := (hB.cell (p := ⟨b, o + k * 3 + 2, none⟩) hblt).trans a3
        have hplt : ∀ y, p.q = some y → 0 < p.m → y.block < w1.heap.size := Pt.lt (H1.out.ok p hpm)
        have hm := HMS.out p hpm
        have hbl := Pt.bytes_le hpok
        have hsB := hB.size
        have K := Lib.hid (put15_any w1.heap.size w1.heap.size po nw co (catTo ps k) (!goodTo ps k) p wr hO hpok (fun y hy hm => ⟨by have := hplt y hy hm; omega, fun e => by have := (hO.own.lt _ e).1; have := hplt y hy hm; omega⟩) (by omega) hB.size)
        rw [← catTo_succ hp, show (!goodTo ps k || !p.good) = !goodTo ps (k + 1) by rw [goodTo_succ hp, Bool.not_and]] at K
        have HO := Lib.hid hO
        have HB := Lib.hid hB
        have hbl2 : nw + p.bytes.length ≤ (k + 1) * 1048586 := by omega
        have HN := Lib.hid hbl2
        clear hc hp a1 a2 a3 hpm hO hB hpok hplt R0 hbl hbl2
        obtain ⟨kk, x, q, m, c, bs⟩ := p
        simp only at c1 c2 c3 hm K
        go_wp2_with fail
        refine K.out.mono ?_
        rintro e w2 ⟨po2, co2, rfl, hO2, hF2, hN2⟩
        have hR2 : BackR w1 w1.heap.size ps (k + 1) w2 := by
          refine ⟨⟨po2, _, co2, hO2, HN.out⟩, HB.out.trans (hF2.below hsB (fun i hi e => ?_))⟩
          rcases e with e | e
          · omega
          · have := (HO.out.own.lt i e.symm).1; omega
        have HR2 := Lib.hid hR2
        clear hO2 hF2 hN2 hR2 K c1 c2 c3
        go_wp2
        go_roundw
        case rel => exact ⟨k + 1, by go_num, by omega, HR2.out⟩
        case measure => simp [intOf]; omega
      · obtain ⟨⟨po, nw, co, hO, hn⟩, hB⟩ := hR
        obtain rfl : k = len := by omega
        have hz := HB1.out.size
        have hsB := hB.size
        by_cases hlong : (!goodTo ps k) = true ∨ 16384 < (nw : Int)
        · have K := Lib.hid (end_long w1.heap.size w1.heap.size po nw co _ _ wr hO hlong)
          have HB := Lib.hid hB
          clear hO hB R0 hlong
          go_wp2_with fail
          refine K.out.mono ?_
          rintro e w2 ⟨rfl, rfl⟩
          go_wp2
          go_ret
          exact ⟨rfl, HB1.out.trans (HB.out.mono hz)⟩
        · obtain ⟨hgd, h16⟩ : goodTo ps k = true ∧ (nw : Int) ≤ 16384 := by
            refine ⟨?_, by omega⟩
            cases hg : goodTo ps k
            · exact absurd (.inl (by rw [hg]; rfl)) hlong
            · rfl
          rw [hgd] at hO
          have HG := Lib.hid (good_all (by rw [H1.out.len]; exact hgd))
          have hcat : catTo ps k = catFrom ps 0 := by rw [← catTo_all, H1.out.len]
          rw [hcat] at hO
          have HB := Lib.hid hB
          have K := Lib.hid (end_ok w1.heap.size w1.heap.size po nw co (catFrom ps 0) wr hO h16)
          clear hO hB R0 hlong hgd hcat
          go_wp2_with fail
          refine K.out.mono ?_
          rintro e w3 ⟨p3, cap3, rfl, hO3, hB3⟩
          have hs3 := hB3.size
          have HO3 := Lib.hid hO3
          have HB3 := Lib.hid (HB.out.trans (hB3.mono hsB))
          clear hO3 hB3 K
          go_wp2_with fail
          refine (read_any p3 nw cap3 (catFrom ps 0) w3 HO3.out.src (fun e => by
            rcases HO3.out.cases with ⟨_, h1, h2, _⟩ | ⟨g, _, e', _⟩
            · exact ⟨h1, h2⟩
            · rw [e] at e'; cases e') (by omega)).mono ?_
          rintro e w4 ⟨C, p4, cap4, rfl, hI, hCge, hb4⟩
          have R1 : TakeR w1 w1.heap.size C ps 0 w4 := ⟨⟨p4, nw, cap4, hI⟩, HB3.out.trans (hb4.mono (by omega))⟩
          have hCB : w1.heap.size ≤ C := by omega
          have HR1 := Lib.hid R1
          clear hI hb4 R1
          go_wp2_with fail
          go_loopw [8] (fun v wr => ∃ (j : Nat), v = .int .i64 j ∧ j ≤ k ∧ TakeR w1 w1.heap.size C ps j wr) (fun v _ => k - (intOf v).toNat)
          case atStart => exact ⟨0, rfl, Nat.zero_le _, HR1.out⟩
          case round =>
            obtain ⟨j, rfl, hj, hR⟩ := hrel
            by_cases hlt : (j : Int) < k
            · obtain ⟨b, o, rfl, hc⟩ := H1.out.mem (by omega)
              obtain ⟨p, hp⟩ : ∃ p, ps[j]? = some p := ⟨_, List.getElem?_eq_getElem (by rw [H1.out.len]; omega)⟩
              have hpm : p ∈ ps := List.mem_of_getElem? hp
              obtain ⟨⟨pi, ni, ci, hI⟩, hB⟩ := hR
              have hpok := (H1.out.ok p hpm).below hB
              obtain ⟨a1, a2, a3⟩ := hc j p hp
              have hblt : b < w1.heap.size := block_lt_of_cell (hc j p hp).1
              have c1 := (hB.cell (p := ⟨b, o + j * 3, none⟩) hblt).trans a1
              have c2 := (hB.cell (p := ⟨b, o + j * 3 + 1, none⟩) hblt).trans a2
              have c3 := (hB.cell (p := ⟨b, o + j * 3 + 2, none⟩) hblt).trans a3
              have hplt : ∀ y, p.q = some y → 0 < p.m → y.block < w1.heap.size := Pt.lt (H1.out.ok p hpm)
              have hm := HMS.out p hpm
              have hsB := hB.size
              have hgot := got_bytes p (catFrom ps (j + 1)) (HG.out p hpm) hpok.src.len hpok.x0 hm
              rw [← catFrom_step hp] at hgot
              have hnext : (catFrom ps j).drop p.bytes.length = catFrom ps (j + 1) := by rw [catFrom_step hp, List.drop_left]
              have HN := Lib.hid hnext
              have HI := Lib.hid hI
              have HB := Lib.hid hB
              have HOK := Lib.hid hpok
              have HPL := Lib.hid hplt
              have HGOT := Lib.hid hgot
              have hk0 := hpok.k0
              have hx0 := hpok.x0
              clear hc hp a1 a2 a3 hpm hI hB hpok hplt hgot hnext HO3 HB3 HR1
              obtain ⟨kk, x, q, m, c, bs⟩ := p
              simp only at c1 c2 c3 hm hk0 hx0
              have hC : C < wr.heap.size := (Array.getElem?_eq_some_iff.1 HI.out.cells).1
              have KK : ∀ X : Nat, X = (Pt.mk kk x q m c bs).ask → X < 18446744073709551616 → Calls Try.prog 21 #[.pointer (some ⟨C, 0, none⟩), .agg #[.int .u8 kk, .int .u64 X, .slice q m c]] (wr.alloc (.cells #[.int .u8 kk, .int .u64 X, .slice q m c] 42)) (Took (wr.alloc (.cells #[.int .u8 kk, .int .u64 X, .slice q m c] 42)) C (Pt.mk kk x q m c bs).num (Pt.mk kk x q m c bs).txt (Pt.mk kk x q m c bs).bytes.length ni ci (catFrom ps j) false) := by
                intro X hX hX2
                have h1 := take21_any C pi ni ci (catFrom ps j) false kk X q m c (wr.alloc (.cells #[.int .u8 kk, .int .u64 X, .slice q m c] 42)) hk0 hX2 (HI.out.frF (Fr.alloc wr _))
                have h2 := HGOT.out
                rw [← hX] at h2
                simp only at h2
                rw [h2] at h1
                exact h1
              rcases (by omega : kk % 4 = 0 ∨ kk % 4 = 1 ∨ kk % 4 = 2 ∨ kk % 4 = 3) with h4 | h4 | h4 | h4
              · have K := Lib.hid (KK x (by simp [Pt.ask, h4]) (by omega))
                have E1 : (Pt.mk kk x q m c bs).num = x := by simp [Pt.num, h4]
                have E2 : (Pt.mk kk x q m c bs).txt = [] := by simp [Pt.txt, h4]
                rw [E1, E2] at K
                clear KK HGOT E1 E2
                go_wp2_with fail
                refine K.out.mono ?_
                rintro e w5 ⟨pt, capt, qi, rfl, hOwn, hI5, hF5⟩
                obtain ⟨d0, d1, d2⟩ := box_after hC hF5
                have S5 : Src w5 q m bs := (HOK.out.src.fr (Fr.alloc wr _) (fun _ _ _ h => h)).fr hF5 (fun hm a ha e => by have := HPL.out a ha hm; omega)
                have q1 := hOwn.src.convert (P := Try.prog) capt 22 5 9 Try.underlying22 Try.underlying5 Try.underlying9
                have q2 := S5.convert (P := Try.prog) c 22 5 9 Try.underlying22 Try.underlying5 Try.underlying9
                have R5 : TakeR w1 w1.heap.size C ps (j + 1) w5 := ⟨⟨qi, _, _, by rw [HN.out] at hI5; exact hI5⟩, HB.out.trans (((Fr.alloc wr _).trans hF5).below hsB (fun i hi e => by rcases e with e | e; exact e; omega))⟩
                have HR5 := Lib.hid R5
                clear hOwn hI5 hF5 S5 R5 K c1 c2 c3
                obtain ⟨s1, hs1⟩ : ∃ s, strOfNums ([] : List Int) = s := ⟨_, rfl⟩
                obtain ⟨s2, hs2⟩ : ∃ s, strOfNums bs = s := ⟨_, rfl⟩
                rw [hs1, List.length_nil] at q1
                rw [hs2] at q2
                obtain ⟨bb, hbb⟩ : ∃ bb, (s1.toList == s2.toList) = bb := ⟨_, rfl⟩
                clear hs1 hs2
                cases bb
                all_goals
                  go_wp2
                  go_roundw
                case rel => exact ⟨j + 1, by go_num, by omega, HR5.out⟩
                case measure => simp [intOf]; omega
                case rel => exact ⟨j + 1, by go_num, by omega, HR5.out⟩
                case measure => simp [intOf]; omega
              · have K := Lib.hid (KK m (by simp [Pt.ask, h4]) (by omega))
                have E1 : (Pt.mk kk x q m c bs).num = 0 := by simp [Pt.num, h4]
                have E2 : (Pt.mk kk x q m c bs).txt = bs := by simp [Pt.txt, h4]
                rw [E1, E2] at K
                have hwm : IntKind.u64.wrap (m : Int) = m := IntWalk.u64_in _ (by omega)
                clear KK HGOT E1 E2
                go_wp2_with fail
                refine K.out.mono ?_
                rintro e w5 ⟨pt, capt, qi, rfl, hOwn, hI5, hF5⟩
                obtain ⟨d0, d1, d2⟩ := box_after hC hF5
                have S5 : Src w5 q m bs := (HOK.out.src.fr (Fr.alloc wr _) (fun _ _ _ h => h)).fr hF5 (fun hm a ha e => by have := HPL.out a ha hm; omega)
                have q1 := hOwn.src.convert (P := Try.prog) capt 22 5 9 Try.underlying22 Try.underlying5 Try.underlying9
                have q2 := S5.convert (P := Try.prog) c 22 5 9 Try.underlying22 Try.underlying5 Try.underlying9
                have R5 : TakeR w1 w1.heap.size C ps (j + 1) w5 := ⟨⟨qi, _, _, by rw [HN.out] at hI5; exact hI5⟩, HB.out.trans (((Fr.alloc wr _).trans hF5).below hsB (fun i hi e => by rcases e with e | e; exact e; omega))⟩
                have HR5 := Lib.hid R5
                clear hOwn hI5 hF5 S5 R5 K c1 c2 c3
                obtain ⟨s2, hs2⟩ : ∃ s, strOfNums bs = s := ⟨_, rfl⟩
                rw [hs2] at q1 q2
                clear hs2
                go_wp2
                go_roundw
                case rel => exact ⟨j + 1, by go_num, by omega, HR5.out⟩
                case measure => simp [intOf]; omega
              · have K := Lib.hid (KK m (by simp [Pt.ask, h4]) (by omega))
                have E1 : (Pt.mk kk x q m c bs).num = 0 := by simp [Pt.num, h4]
                have E2 : (Pt.mk kk x q m c bs).txt = bs := by simp [Pt.txt, h4]
                rw [E1, E2] at K
                have hwm : IntKind.u64.wrap (m : Int) = m := IntWalk.u64_in _ (by omega)
                clear KK HGOT E1 E2
                go_wp2_with fail
                refine K.out.mono ?_
                rintro e w5 ⟨pt, capt, qi, rfl, hOwn, hI5, hF5⟩
                obtain ⟨d0, d1, d2⟩ := box_after hC hF5
                have S5 : Src w5 q m bs := (HOK.out.src.fr (Fr.alloc wr _) (fun _ _ _ h => h)).fr hF5 (fun hm a ha e => by have := HPL.out a ha hm; omega)
                have q1 := hOwn.src.convert (P := Try.prog) capt 22 5 9 Try.underlying22 Try.underlying5 Try.underlying9
                have q2 := S5.convert (P := Try.prog) c 22 5 9 Try.underlying22 Try.underlying5 Try.underlying9
                have R5 : TakeR w1 w1.heap.size C ps (j + 1) w5 := ⟨⟨qi, _, _, by rw [HN.out] at hI5; exact hI5⟩, HB.out.trans (((Fr.alloc wr _).trans hF5).below hsB (fun i hi e => by rcases e with e | e; exact e; omega))⟩
                have HR5 := Lib.hid R5
                clear hOwn hI5 hF5 S5 R5 K c1 c2 c3
                obtain ⟨s2, hs2⟩ : ∃ s, strOfNums bs = s := ⟨_, rfl⟩
                rw [hs2] at q1 q2
                clear hs2
                go_wp2
                go_roundw
                case rel => exact ⟨j + 1, by go_num, by omega, HR5.out⟩
                case measure => simp [intOf]; omega
              · have K := Lib.hid (KK x (by simp [Pt.ask, h4]) (by omega))
                have E1 : (Pt.mk kk x q m c bs).num = (x % 2) := by simp [Pt.num, h4]
                have E2 : (Pt.mk kk x q m c bs).txt = [] := by simp [Pt.txt, h4]
                rw [E1, E2] at K
                clear KK HGOT E1 E2
                go_wp2_with fail
                refine K.out.mono ?_
                rintro e w5 ⟨pt, capt, qi, rfl, hOwn, hI5, hF5⟩
                obtain ⟨d0, d1, d2⟩ := box_after hC hF5
                have S5 : Src w5 q m bs := (HOK.out.src.fr (Fr.alloc wr _) (fun _ _ _ h => h)).fr hF5 (fun hm a ha e => by have := HPL.out a ha hm; omega)
                have q1 := hOwn.src.convert (P := Try.prog) capt 22 5 9 Try.underlying22 Try.underlying5 Try.underlying9
                have q2 := S5.convert (P := Try.prog) c 22 5 9 Try.underlying22 Try.underlying5 Try.underlying9
                have R5 : TakeR w1 w1.heap.size C ps (j + 1) w5 := ⟨⟨qi, _, _, by rw [HN.out] at hI5; exact hI5⟩, HB.out.trans (((Fr.alloc wr _).trans hF5).below hsB (fun i hi e => by rcases e with e | e; exact e; omega))⟩
                have HR5 := Lib.hid R5
                clear hOwn hI5 hF5 S5 R5 K c1 c2 c3
                obtain ⟨s1, hs1⟩ : ∃ s, strOfNums ([] : List Int) = s := ⟨_, rfl⟩
                obtain ⟨s2, hs2⟩ : ∃ s, strOfNums bs = s := ⟨_, rfl⟩
                rw [hs1, List.length_nil] at q1
                rw [hs2] at q2
                obtain ⟨bb, hbb⟩ : ∃ bb, (s1.toList == s2.toList) = bb := ⟨_, rfl⟩
                clear hs1 hs2
                cases bb
                all_goals
                  go_wp2
                  go_roundw
                case rel => exact ⟨j + 1, by go_num, by omega, HR5.out⟩
                case measure => simp [intOf]; omega
                case rel => exact ⟨j + 1, by go_num, by omega, HR5.out⟩
                case measure => simp [intOf]; omega
            · obtain ⟨⟨pi, ni, ci, hI⟩, hB⟩ := hR
              obtain rfl : j = k := by omega
              have he : catFrom ps j = [] := by
                unfold catFrom
                rw [List.drop_eq_nil_of_le (by rw [H1.out.len]; omega)]
                rfl
              rw [he] at hI
              obtain rfl : ni = 0 := by have := hI.src.len; simpa using this.symm
              have K := Lib.hid (over_any C pi 0 ci [] false wr hI)
              have HB := Lib.hid hB
              clear hI hB he HO3 HB3 HR1
              go_wp2_with fail
              refine K.out.mono ?_
              rintro e w5 ⟨rfl, rfl⟩
              go_wp2
              go_ret
              exact ⟨rfl, HB1.out.trans (HB.out.mono hz)⟩
end Go.Proofs.Ytpdgbpoplljpkaa
