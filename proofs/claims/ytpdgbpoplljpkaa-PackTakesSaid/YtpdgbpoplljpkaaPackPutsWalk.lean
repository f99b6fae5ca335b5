/- The walk of PackPuts. -/
import Derived.Test.YtpdgbpoplljpkaaPackFew
import Derived.Deep.QuietTactic
import Derived.BigQuiet
namespace Go.Proofs.Ytpdgbpoplljpkaa
open Go.RowKit
set_option linter.unusedVariables false
set_option linter.unusedSimpArgs false

def catTo (ps : List Pt) (k : Nat) : List Int := (ps.take k).flatMap Pt.bytes
def goodTo (ps : List Pt) (k : Nat) : Bool := (ps.take k).all Pt.good
theorem catTo_succ {ps : List Pt} {k : Nat} {p : Pt} (h : ps[k]? = some p) : catTo ps (k + 1) = catTo ps k ++ p.bytes := by
  unfold catTo
  rw [List.take_add_one, h]
  simp
theorem goodTo_succ {ps : List Pt} {k : Nat} {p : Pt} (h : ps[k]? = some p) : goodTo ps (k + 1) = (goodTo ps k && p.good) := by
  unfold goodTo
  rw [List.take_add_one, h]
  simp
theorem Pt.bytes_le {p : Pt} {w : World} (h : p.Ok w) : p.bytes.length ≤ p.m + 10 := by
  have hl := h.src.len
  have e1 := enc_le p.x
  have e2 := enc_le p.m
  unfold Pt.bytes
  split
  · omega
  · split
    · split
      · simp
      · simp; omega
    · split
      · omega
      · simp
theorem Pt.lt {p : Pt} {w : World} (h : p.Ok w) : ∀ y, p.q = some y → 0 < p.m → y.block < w.heap.size := fun y hy hm => h.src.lt hm y hy

/-- What holds in the loop that puts the parts in. -/
structure PutsR (w2 : World) (B : Nat) (ps : List Pt) (k : Nat) (g : Bool) (pw : Option Addr) (nw cw : Nat) (wr : World) : Prop where
  out : ∃ p cap, OutAt wr B B p nw cap (catTo ps k) (!g) ∧ (∀ i, blk p = some i → blk pw ≠ some i)
  want : Own wr B pw nw cw (catTo ps k)
  bel : Below B w2 wr
  n : nw ≤ k * 1048586
  g : g = goodTo ps k

set_option maxRecDepth 100000 in
set_option maxHeartbeats 1600000 in
theorem puts_walk (a : Option Addr) (len cap : Nat) (ps : List Pt) (w : World) (h : Parts w a len ps) (hms : ∀ p ∈ ps, p.m ≤ 1048576) :
    Calls Try.prog 4 #[.slice a len cap] w fun e w' => e = .returned (.bool true) ∧ Below w.heap.size w w' := by
  cases hf : fewOf ps
  · have HF := Lib.hid hf
    have H := Lib.hid h
    clear hf h
    go_enter Try.func4, Try.ntmps4
    go_wp2_with fail
    refine (awake_any _).mono ?_
    rintro e w1 ⟨rfl, hb1⟩
    go_wp2_with fail
    refine (few_any a len cap ps _ (H.out.below hb1)).mono ?_
    rintro e w2 ⟨rfl, rfl⟩
    rw [HF.out]
    go_wp2_with fail
    refine (awake_any _).mono ?_
    rintro e w2 ⟨rfl, hb2⟩
    go_wp2_with fail
    go_ret
    exact ⟨rfl, hb1.trans (hb2.mono hb1.size)⟩
  · have h40 : len ≤ 40 := by
      have := of_decide_eq_true hf
      rw [h.len] at this
      exact this.1
    have HF := Lib.hid hf
    have H := Lib.hid h
    have HMS := Lib.hid hms
    clear hf h hms
    go_enter Try.func4, Try.ntmps4
    go_wp2_with fail
    refine (awake_any _).mono ?_
    rintro e w1 ⟨rfl, hb1⟩
    go_wp2_with fail
    refine (few_any a len cap ps _ (H.out.below hb1)).mono ?_
    rintro e w2 ⟨rfl, rfl⟩
    rw [HF.out]
    have H1 := Lib.hid (H.out.below hb1)
    have HB1 := Lib.hid hb1
    clear hb1
    go_wp2_with fail
    have R0 : PutsR w1 w1.heap.size ps 0 true none 0 0 (w1.alloc (.cells #[.slice none 0 0, .bool false] 30)) :=
      ⟨⟨none, 0, ⟨heap_alloc_new _ _, Own.nil _ _⟩, by simp [blk]⟩, Own.nil _ _, below_alloc _ _, by omega, rfl⟩
    go_loopw [4, 5, 6] (fun v0 v1 v2 wr => ∃ (k : Nat) (g : Bool) (pw : Option Addr) (nw cw : Nat), v0 = .slice pw nw cw ∧ v1 = .bool g ∧ v2 = .int .i64 k ∧ k ≤ len ∧ PutsR w1 w1.heap.size ps k g pw nw cw wr) (fun v0 v1 v2 _ => len - (intOf v2).toNat)
    case atStart => exact ⟨0, true, none, 0, 0, rfl, rfl, rfl, Nat.zero_le _, R0⟩
    case round =>
      obtain ⟨k, g, pw, nw, cw, rfl, rfl, rfl, hk, hR⟩ := hrel
      by_cases hlt : (k : Int) < len
      · obtain ⟨b, o, rfl, hc⟩ := H1.out.mem (by omega)
        obtain ⟨p, hp⟩ : ∃ p, ps[k]? = some p := ⟨_, List.getElem?_eq_getElem (by rw [H1.out.len]; omega)⟩
        have hpm : p ∈ ps := List.mem_of_getElem? hp
        obtain ⟨⟨po, co, hO, hNE⟩, hW, hB, hn, hg⟩ := hR
        have hpok := (H1.out.ok p hpm).below hB
        obtain ⟨a1, a2, a3⟩ := hc k p hp
        have hblt : b < w1.heap.size := block_lt_of_cell (hc k p hp).1
        have c1 := (hB.cell (p := ⟨b, o + k * 3, none⟩) hblt).trans a1
        have c2 := (hB.cell (p := ⟨b, o + k * 3 + 1, none⟩) hblt).trans a2
        have c3 := (hB.cell (p := ⟨b, o + k * 3 + 2, none⟩) hblt).trans a3
        have hplt : ∀ y, p.q = some y → 0 < p.m → y.block < w1.heap.size := Pt.lt (H1.out.ok p hpm)
        have hm := HMS.out p hpm
        have hsB := hB.size
        have K := Lib.hid (put15_any w1.heap.size w1.heap.size po nw co (catTo ps k) (!g) p wr hO hpok (fun y hy hm => ⟨by have := hplt y hy hm; omega, fun e => by have := (hO.own.lt _ e).1; have := hplt y hy hm; omega⟩) (by omega) hB.size)
        have HX := Lib.hid (catTo_succ hp)
        have HG := Lib.hid (goodTo_succ hp)
        have HG0 := Lib.hid hg
        have HOK := Lib.hid hpok
        have HPL := Lib.hid hplt
        have HNE := Lib.hid hNE
        have HO := Lib.hid hO
        have HW := Lib.hid hW
        have HB := Lib.hid hB
        clear hc hp a1 a2 a3 hpm hO hNE hW hB hg hpok hplt R0
        obtain ⟨kk, x, q, m, c, bs⟩ := p
        simp only at c1 c2 c3 hm K
        go_wp2_with fail
        refine K.out.mono ?_
        rintro e w2 ⟨po2, co2, rfl, hO2, hF2, hN2⟩
        have hpoB : ∀ i, blk po = some i → w1.heap.size ≤ i := fun i hi => (HO.out.own.lt i hi).1
        have hsT : ∀ i, i < w1.heap.size → ¬ (i = w1.heap.size ∨ some i = blk po) := fun i hi e => by
          rcases e with e | e
          · omega
          · have := hpoB i e.symm; omega
        have d1 := hF2.cell c1 (hsT _ hblt)
        have d2 := hF2.cell c2 (hsT _ hblt)
        have d3 := hF2.cell c3 (hsT _ hblt)
        have hOK2 : (Pt.mk kk x q m c bs).Ok w2 := ⟨HOK.out.src.fr hF2 (fun hm a ha => hsT _ (HPL.out a ha hm)), HOK.out.nil, HOK.out.k0, HOK.out.x0⟩
        have K2 := Lib.hid (refBytes_any _ w2 hOK2)
        have hbl := Pt.bytes_le hOK2
        have hpw2 : ∀ i, blk pw = some i → ¬ (i = w1.heap.size ∨ some i = blk po) := fun i hi e => by
          rcases e with e | e
          · exact HW.out.ne HO.out.cells (by decide) (by rw [hi, e])
          · exact HNE.out i e.symm hi
        have HW2 := Lib.hid (HW.out.fr hF2 hpw2)
        have HO2 := Lib.hid hO2
        have hs2 := hF2.size
        have HF2 := Lib.hid hF2
        have HN2 := Lib.hid hN2
        have HT := Lib.hid hsT
        have HP2 := Lib.hid hpw2
        obtain ⟨bb, hbb⟩ : ∃ bb, (Pt.mk kk x q m c bs).bytes = bb := ⟨_, rfl⟩
        obtain ⟨gg, hgg⟩ : ∃ gg, (Pt.mk kk x q m c bs).good = gg := ⟨_, rfl⟩
        unfold BytesPost at K2
        rw [hbb, hgg] at K2
        rw [hbb] at HX HO2 hbl
        rw [hgg] at HG HO2
        clear hO2 hF2 hN2 hsT hpw2 hOK2 c1 c2 c3 K hpoB hbb hgg
        simp only at hbl
        go_wp2_with fail
        refine K2.out.mono ?_
        rintro e w3 ⟨q3, n3, c3', rfl, hS3, hq3, hb3⟩
        have hln := hS3.len
        have HS3 := Lib.hid hS3
        have HB3 := Lib.hid hb3
        have hs3 := hb3.size
        have HW3 := Lib.hid (HW2.out.fr (Fr.of_below hb3) (fun _ _ h => h))
        clear hS3 hb3 d1 d2 d3 K2
        go_wp2_with (at_builtin; refine wpList_append_bytes rfl (.tmp 40) (.tmp 41) 22 rfl w1.heap.size Try.underlying22 Try.info5 pw nw cw (catTo ps k) rfl HW3.out q3 n3 c3' bb rfl HS3.out hq3 (by omega) (by omega) ?_)
        intro pw' cw' w4 hown hgr _ hkk
        have F24 := (Fr.of_below HB3.out).trans (Fr.of_grown hgr)
        have hpo2 : ∀ i, blk po2 = some i → blk pw ≠ some i := fun i hi e => by
          rcases HN2.out i hi with h | h
          · exact HNE.out i h e
          · have := (HW.out.lt i e).2; omega
        have O4 := HO2.out.fr F24 (fun e => by
          rcases e with e | e
          · exact e
          · exact HW2.out.ne HO2.out.cells (by decide) e) (fun i hi e => by
          rcases e with e | e
          · exact e
          · exact hpo2 i hi e.symm)
        have hR4 : PutsR w1 w1.heap.size ps (k + 1) (g && gg) pw' (nw + n3) cw' w4 := by
          refine ⟨⟨po2, co2, ?_, fun i hi e => ?_⟩, ?_, ?_, by omega, ?_⟩
          · rw [HX.out, ← hln, Bool.not_and]; exact O4
          · rcases hkk.out i e with h | h
            · exact hpo2 i hi h
            · have := (HO2.out.own.lt i hi).2; omega
          · rw [HX.out]; exact hown
          · refine HB.out.trans ((HF2.out.trans F24).below hsB (fun i hi e => ?_))
            rcases e with e | e | e
            · exact HT.out i hi e
            · exact e
            · have := (HW.out.lt i e.symm).1; omega
          · rw [HG.out, ← HG0.out]
        have HR4 := Lib.hid hR4
        clear hR4 O4 F24 hpo2 hown hgr hkk HW3 HS3 hq3
        cases g
        · go_wp2
          go_roundw
          case rel => exact ⟨k + 1, false, pw', nw + n3, cw', rfl, rfl, by go_num, by omega, HR4.out⟩
          case measure => simp [intOf]; omega
        · go_wp2
          go_roundw
          case rel => exact ⟨k + 1, gg, pw', nw + n3, cw', rfl, rfl, by go_num, by omega, by simpa using HR4.out⟩
          case measure => simp [intOf]; omega
      · obtain ⟨⟨po, co, hO, hNE⟩, hW, hB, hn, hg⟩ := hR
        have hz := HB1.out.size
        by_cases hlong : g = false ∨ 16384 < (nw : Int)
        · have hl2 : (!g) = true ∨ 16384 < (nw : Int) := by rcases hlong with h | h; exact .inl (by rw [h]; rfl); exact .inr h
          have K := Lib.hid (end_long w1.heap.size w1.heap.size po nw co _ _ wr hO hl2)
          have HB := Lib.hid hB
          have HLL := Lib.hid hl2
          clear hO hNE hW hB hg R0 hl2
          cases g
          · clear hlong
            go_wp2_with fail
            refine K.out.mono ?_
            rintro e w2 ⟨rfl, rfl⟩
            go_wp2
            go_ret
            exact ⟨rfl, HB1.out.trans (HB.out.mono hz)⟩
          · have h16 : 16384 < (nw : Int) := by simpa using hlong
            clear hlong
            go_wp2_with fail
            refine K.out.mono ?_
            rintro e w2 ⟨rfl, rfl⟩
            go_wp2
            go_ret
            exact ⟨rfl, HB1.out.trans (HB.out.mono hz)⟩
        · obtain ⟨rfl, h16⟩ : g = true ∧ (nw : Int) ≤ 16384 := by
            refine ⟨?_, by omega⟩
            cases g
            · exact absurd (.inl rfl) hlong
            · rfl
          clear hlong
          have HO := Lib.hid hO
          have HW := Lib.hid hW
          have HB := Lib.hid hB
          obtain ⟨xs, hxs⟩ : ∃ xs, catTo ps k = xs := ⟨_, rfl⟩
          rw [hxs] at HO HW
          have K := Lib.hid (end_ok w1.heap.size w1.heap.size po nw co xs wr HO.out h16)
          clear hO hNE hW hB hg hxs R0
          go_wp2_with fail
          refine K.out.mono ?_
          rintro e w3 ⟨p3, cap3, rfl, hO3, hB3⟩
          have HO3 := Lib.hid hO3
          have HB3 := Lib.hid hB3
          clear hO3 hB3 K
          have K := Lib.hid (end_ok w1.heap.size w1.heap.size po nw co xs w3 (HO.out.fr (Fr.of_below HB3.out) (fun h => h) (fun _ _ h => h)) h16)
          go_wp2_with fail
          refine K.out.mono ?_
          rintro e w4 ⟨p4, cap4, rfl, hO4, hB4⟩
          have S3 : Src w4 p3 nw xs := HO3.out.src.below hB4
          have S4 : Src w4 p4 nw xs := hO4.src
          have SW : Src w4 pw nw xs := (HW.out.src.below HB3.out).below hB4
          have q3 := S3.convert (P := Try.prog) cap3 22 5 9 Try.underlying22 Try.underlying5 Try.underlying9
          have q4 := S4.convert (P := Try.prog) cap4 22 5 9 Try.underlying22 Try.underlying5 Try.underlying9
          have qw := SW.convert (P := Try.prog) cw 22 5 9 Try.underlying22 Try.underlying5 Try.underlying9
          have HB4 := Lib.hid hB4
          have hs3 := HB3.out.size
          have hsb := HB.out.size
          clear S3 S4 SW hO4 hB4 K
          go_wp2
          go_ret
          exact ⟨rfl, HB1.out.trans ((HB.out.mono hz).trans ((HB3.out.mono (by omega)).trans (HB4.out.mono (by omega))))⟩
end Go.Proofs.Ytpdgbpoplljpkaa
