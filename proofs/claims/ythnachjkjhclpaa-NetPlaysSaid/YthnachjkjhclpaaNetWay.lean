/- The contract of Way. -/
import Derived.Test.YthnachjkjhclpaaNetDouble
import Derived.Deep.LoopGhost
namespace Go.Proofs.Ythnachjkjhclpaa
open Go.RowKit
set_option linter.unusedVariables false
set_option linter.unusedSimpArgs false

theorem wpList_append_row {P : Program} {ops : Array Oper} {rest : List Oper} {o : Oper} {a : Act} {w : World} {Q : Exit → Act → World → Prop} (hgd : o.guard = none) (s x : Operand) (t : TypeId)
    (ho : o.op = .call { callee := .builtin .append, args := #[s, x], argTypes := #[t, t] }) (base : Nat) (e : TypeId) (sz bytes : Nat) (z : Value) (ht : P.underlying t = some (.slice e))
    (hi : (P.info? e).map (fun i => (i.zero, i.size, i.bytes)) = some (some z, sz, bytes)) (hzs : z.cells.size = sz) (hsz : 0 < sz) (hb0 : 0 < bytes)
    (p : Option Addr) (n cap : Nat) (xs : List Value) (hs : a.eval s = .slice p n cap) (hown : w.ownsRow base e sz (.slice p n cap) n xs) (ad : Addr) (m c : Nat) (hx : a.eval x = .slice (some ad) m c) (news : List Value) (hl : news.length = m * sz)
    (hnews : ∀ j u, news[j]? = some u → w.cell? (ad.add j) = some u) (h1 : ∀ u ∈ news, u.oneCell' = true)
    (hbytes : (n + m) * bytes ≤ 140737488355328) (hbase : base ≤ w.heap.size)
    (h : ∀ p' cap' w', w'.ownsRow base e sz (.slice p' (n + m) cap') (n + m) (xs ++ news) → w.grownBy w' (blk p) → Hid (∀ k, blk p' = some k → blk p = some k ∨ w.heap.size ≤ k) → wpList P ops Q rest (a.put o.dst (.slice p' (n + m) cap')) w') : wpList P ops Q (o :: rest) a w := by
  obtain ⟨p', cap', w', hr, h2, h3, h4⟩ := run_append_row (P := P) w base t o.type e sz bytes z ht hi hzs hsz hb0 p n cap xs hown ad m c news hl hnews h1 hbytes hbase
  refine wpList_plain hgd fun K hK => ?_
  unfold Oper.wp execOp
  simp only [ho, resolve, invoke, builtin, Sem.run_bind, Sem.run_pure, Result.andThen_ok, List.map_toArray, List.map_cons, List.map_nil, hs, hx, hr]
  exact hK _ _ (h p' cap' w' h2 h3 h4)

/-- A copy of each of the letters ls. -/
def Copies (w : World) (base : Nat) (ls ls' : List Lt) : Prop :=
  ∀ (j : Nat) (l' : Lt), ls'[j]? = some l' → ∃ l, ls[j]? = some l ∧ l'.f = l.f ∧ l'.t = l.t ∧ l'.m = l.m ∧ l'.bs = l.bs ∧ Own w base l'.q l'.m l'.c l'.bs

/-- The row that is made: k letters so far. -/
structure WayR (w : World) (ls : List Lt) (q : Option Addr) (k cap : Nat) (wr : World) : Prop where
  ex : ∃ ls', wr.ownsRow w.heap.size 27 3 (.slice q k cap) k (ls'.flatMap Lt.cells) ∧ ls'.length = k ∧ Copies wr w.heap.size ls ls'
  bel : Below w.heap.size w wr

theorem WayR.step {w wr w1 w2 : World} {ls : List Lt} {q : Option Addr} {k cap : Nat} {l : Lt} (h : WayR w ls q k cap wr) (hl : ls[k]? = some l) {o o' : Obj} {q' : Option Addr} {c' : Nat} (h1 : Own w1 (wr.alloc o).heap.size q' l.m c' l.bs) (F : Fr wr w1 (fun _ => False)) {p' : Option Addr} {cap' : Nat}
    {ls0 : List Lt} (r0 : wr.ownsRow w.heap.size 27 3 (.slice q k cap) k (ls0.flatMap Lt.cells)) (l0 : ls0.length = k) (c0 : Copies wr w.heap.size ls ls0)
    (hown : w2.ownsRow w.heap.size 27 3 (.slice p' (k + 1) cap') (k + 1) (ls0.flatMap Lt.cells ++ [.int .i64 l.f, .int .i64 l.t, .slice q' l.m c'])) (hg : (w1.alloc o').grownBy w2 (blk q)) : WayR w ls p' (k + 1) cap' w2 := by
  have hs := h.bel.size
  have F1 : Fr w1 w2 (fun k => some k = blk q) := ((Fr.alloc w1 o').trans (Fr.of_grown hg)).mono (by simp)
  have F2 : Fr wr w2 (fun k => some k = blk q) := (F.trans F1).mono (by simp)
  have hq : ∀ k, blk q = some k → w.heap.size ≤ k ∧ k < wr.heap.size := fun k e => by
    obtain ⟨a, cur, hc⟩ := ownsRow_elem r0 k e
    exact ⟨a, (Array.getElem?_eq_some_iff.1 hc).1⟩
  refine ⟨⟨ls0 ++ [⟨l.f, l.t, q', l.m, c', l.bs⟩], by rw [List.flatMap_append]; exact hown, by simp [l0], ?_⟩, h.bel.trans (F2.below hs (fun j hj e => by have := (hq j e.symm).1; omega))⟩
  intro j x hx
  rw [List.getElem?_append] at hx
  split at hx
  · obtain ⟨y, a1, a2, a3, a4, a5, a6⟩ := c0 j x hx
    refine ⟨y, a1, a2, a3, a4, a5, a6.fr F2 ?_⟩
    intro i hi e
    obtain ⟨cur, hc⟩ := a6.elem i hi
    obtain ⟨_, cur', hc'⟩ := ownsRow_elem r0 i e.symm
    rw [hc] at hc'; simp at hc'
  · rename_i hj
    have : j = ls0.length := by
      rcases Nat.lt_or_ge ls0.length j with h1 | h1
      · rw [List.getElem?_eq_none (by simp; omega)] at hx; cases hx
      · omega
    subst this
    simp at hx
    subst hx
    refine ⟨l, by rw [l0]; exact hl, rfl, rfl, rfl, rfl, (h1.fr F1 ?_).base (by simp; omega)⟩
    intro i hi e
    have := (h1.lt i hi).1
    have := (hq i e.symm).2
    simp at *
    omega

/-- What Way answers. -/
def WayPost (w : World) (n : Nat) (ls : List Lt) (e : Ending) (w' : World) : Prop :=
  ∃ q cap', e = .returned (.slice q n cap') ∧ WayR w ls q n cap' w'

set_option maxRecDepth 100000 in
set_option maxHeartbeats 3200000 in
theorem way_any (B base : Nat) (p : Option Addr) (n cap : Nat) (ls : List Lt) (w : World) (h : NetAt w B base p n cap ls) (hls : ∀ l ∈ ls, l.m ≤ 16384) (hn : n ≤ 200) :
    Calls Try.prog 14 #[.pointer (some ⟨B, 0, none⟩)] w (WayPost w n ls) := by
  have c0 := h.cell
  have R0 : WayR w ls none 0 0 w := ⟨⟨[], World.ownsRow_nil _ _ _ _, rfl, by intro j l h; simp at h⟩, Below.refl _ _⟩
  have H := Lib.hid h
  have HL := Lib.hid hls
  clear h hls
  go_enter Try.func14, Try.ntmps14
  go_wp2_with fail
  go_loopw [3, 11] (fun v u wr => ∃ (k : Nat) (q : Option Addr) (c : Nat), v = .slice q k c ∧ u = .int .i64 k ∧ k ≤ n ∧ WayR w ls q k c wr) (fun v u _ => n - (intOf u).toNat)
  case atStart => exact ⟨0, none, 0, rfl, rfl, Nat.zero_le _, R0⟩
  case round =>
    obtain ⟨k, q, c, rfl, rfl, hk, hR⟩ := hrel
    by_cases hlt : (k : Int) < n
    · have hb := hR.bel
      obtain ⟨ls0, r0, l0, k0⟩ := hR.ex
      have N := H.out.fr (Fr.of_below hb) (fun h => h) (fun _ _ h => h) (fun _ _ _ _ h => h)
      have hkn : k < n := by omega
      have hkl : k < ls.length := by rw [N.len]; omega
      obtain ⟨l, hl⟩ : ∃ l, ls[k]? = some l := ⟨_, List.getElem?_eq_getElem hkl⟩
      have hmem := List.mem_of_getElem? hl
      have hm := HL.out l hmem
      obtain ⟨g, cur, rfl, hbg, hg, hnc, hcm, hcs, htk⟩ := N.block (by omega)
      obtain ⟨e0, e1, e2⟩ := flatMap_get ls _ l hl
      have hx : ∀ j, j < 3 → wr.cell? ⟨g, k * 3 + j, none⟩ = (ls.flatMap Lt.cells)[k * 3 + j]? := by
        intro j hj
        rw [cell_of_row _ _ _ _ _ _ hg, ← htk, List.getElem?_take_of_lt (by omega), Array.getElem?_toList]
      have d0 := (hx 0 (by omega)).trans e0
      have d1 := (hx 1 (by omega)).trans e1
      have d2 := (hx 2 (by omega)).trans e2
      simp only [Nat.add_zero] at d0
      have ho := N.own l hmem
      obtain ⟨f, t, q0, m, c0', bs⟩ := l
      simp only at hm d0 d1 d2
      have K := Lib.hid (copied_any ⟨f, t, q0, m, c0', bs⟩ (wr.alloc (.cells #[.int .i64 f, .int .i64 t, .slice q0 m c0'] 27)) (Own.lok (l := ⟨f, t, q0, m, c0', bs⟩) (ho.fr (Fr.alloc _ _) (fun _ _ h => h))) (by simp only; omega))
      have HR := Lib.hid hR
      have HBL := Lib.hid hb
      have HLL := Lib.hid hl
      have HR0 := Lib.hid r0
      have HL0 := Lib.hid l0
      have HK0 := Lib.hid k0
      clear hR hb r0 l0 k0 N hl hmem hg htk hcs hx e0 e1 e2 ho R0 c0 hkl
      go_wp2_with fail
      refine K.out.mono ?_
      rintro e w1 ⟨q', c', rfl, h1, h2⟩
      simp only [Lt.val]
      have F : Fr wr w1 (fun _ => False) := ((Fr.alloc wr _).trans (Fr.of_below h2)).mono (by simp)
      have HF := Lib.hid F
      have H1 := Lib.hid h1
      have R1 := Lib.hid (ownsRow_fr HR0.out F (fun _ _ h => h))
      have hsz : w.heap.size ≤ w1.heap.size := Nat.le_trans HBL.out.size F.size
      clear F h1 h2
      go_wp2_with (at_builtin; refine wpList_append_row rfl (.tmp 15) (.tmp 18) 34 rfl w.heap.size 27 3 40 _ Try.underlying34 Try.info27 rfl (by decide) (by decide) q k c (ls0.flatMap Lt.cells) rfl (ownsRow_fr R1.out (Fr.alloc _ _) (fun _ _ h => h)) _ 1 1 rfl [.int .i64 f, .int .i64 t, .slice q' m c'] rfl (news_one _ _ _) (by simp [Value.oneCell']) (by omega) (Nat.le_trans hsz (by simp)) ?_)
      intro p' cap' w2 hown hg2 hk2
      have HS := Lib.hid (WayR.step HR.out HLL.out H1.out HF.out HR0.out HL0.out HK0.out hown hg2)
      clear hown hg2 hk2
      go_wp2
      go_roundw
      case rel => exact ⟨k + 1, p', cap', rfl, by go_num, by omega, HS.out⟩
      case measure => simp [intOf]; omega
    · obtain rfl : k = n := by omega
      have HR := Lib.hid hR
      clear hR R0
      go_wp2
      go_ret
      exact ⟨q, c, rfl, HR.out⟩
end Go.Proofs.Ythnachjkjhclpaa
