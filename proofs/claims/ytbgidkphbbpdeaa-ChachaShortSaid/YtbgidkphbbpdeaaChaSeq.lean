/- The contract of the iterator that chacha's blocks hands back: the blocks, one behind the other. -/
import Derived.Test.YtbgidkphbbpdeaaChaAwake
import Derived.Test.YtbgidkphbbpdeaaChaRange
import Derived.Sort.LoopGhostIn
import Derived.OwnWalkIn
import Derived.TacticsInMore
namespace Go.Proofs.Ytbgidkphbbpdeaa
open Go.RowKit
set_option linter.unusedVariables false
set_option linter.unusedSimpArgs false

section
variable {n : Nat} {P : Program} {ops : Array Oper} {Q : Exit → Act → World → Prop} {a : Act} {w : World} {rest : List Oper} {o : Oper}
/-- An operation outside of a round, and in one, as everywhere. -/
theorem listIn0 (hg : o.guard = none) (hd : ∀ c, o.op ≠ .defer c) (h : ∀ K : Act → World → Prop, (∀ a w, wpListIn Fence.wide n P ops Q rest a w → K a w) → o.wp P a w K Q) : wpListIn Fence.wide n P ops Q (o :: rest) a w := by
  refine wpListIn_plain hg fun K hK => ?_
  refine ⟨fun _ _ => trivial, ?_⟩
  have h := h K hK
  rw [Oper.semAt_eq _ _ _ hd]
  unfold Oper.wp at h
  generalize (execOp a.eval o).run P w = r at h ⊢
  cases r with
  | ok x w' =>
    cases x <;> simp only [Oper.upon, Oper.uponIn] at h ⊢ <;> first
      | exact h
      | exact h.elim
      | exact ⟨fun h => by simp [Fence.wide] at h, callsIn_wide.2 h⟩
      | exact ⟨fun h => by simp [Fence.wide] at h, fun c cs _ => let ⟨v, w', r, s⟩ := h c cs; ⟨v, w', r, stepsIn_wide.2 s⟩⟩
  | halt x w' => cases x <;> simp only [Oper.upon, Oper.uponIn] at h ⊢ <;> exact h
theorem listInR {l : Nat} (hg : o.guard = none) (hd : ∀ c, o.op ≠ .defer c) (h : ∀ K : Act → World → Prop, (∀ a w, wpListIn (Fence.wide.inRound l) n P ops Q rest a w → K a w) → o.wp P a w K Q) : wpListIn (Fence.wide.inRound l) n P ops Q (o :: rest) a w :=
  wpListIn_plain hg fun K hK => opIn_of_op hd (h K hK)

/-- A whole array is read. -/
theorem listIn0_load (hg : o.guard = none) (ty : TypeId) (x : Operand) (ho : o.op = .load ty x) (g : Nat) (hx : a.eval x = .pointer (some ⟨g, 0, none⟩)) (t : TypeId) (cs : Array Value) (d : TypeDesc) (hh : w.heap[g]? = some (.cells cs t (0, 0)))
    (hu : P.underlying ty = some d) (hd : (match d with | .struct _ | .array _ _ => true | _ => false) = true) (hi : (P.info? ty).map (·.size) = some cs.size) (h : wpListIn Fence.wide n P ops Q rest (a.put o.dst (.agg cs)) w) : wpListIn Fence.wide n P ops Q (o :: rest) a w :=
  listIn0 hg (by rw [ho]; intro c h; cases h) fun K hK => wp_load_row ty x ho g hx t cs (0, 0) d hh hu hd hi (hK _ _ h)
theorem listInR_load {l : Nat} (hg : o.guard = none) (ty : TypeId) (x : Operand) (ho : o.op = .load ty x) (g : Nat) (hx : a.eval x = .pointer (some ⟨g, 0, none⟩)) (t : TypeId) (cs : Array Value) (d : TypeDesc) (hh : w.heap[g]? = some (.cells cs t (0, 0)))
    (hu : P.underlying ty = some d) (hd : (match d with | .struct _ | .array _ _ => true | _ => false) = true) (hi : (P.info? ty).map (·.size) = some cs.size) (h : wpListIn (Fence.wide.inRound l) n P ops Q rest (a.put o.dst (.agg cs)) w) : wpListIn (Fence.wide.inRound l) n P ops Q (o :: rest) a w :=
  listInR hg (by rw [ho]; intro c h; cases h) fun K hK => wp_load_row ty x ho g hx t cs (0, 0) d hh hu hd hi (hK _ _ h)
/-- A whole array is written. -/
theorem listInR_store {l : Nat} (hg : o.guard = none) (ty : TypeId) (x y : Operand) (ho : o.op = .store ty x y) (g : Nat) (cells : Array Value) (hx : a.eval x = .pointer (some ⟨g, 0, none⟩)) (hy : a.eval y = .agg cells)
    (t : TypeId) (old : Array Value) (hh : w.heap[g]? = some (.cells old t (0, 0))) (hi : (P.info? ty).map (·.size) = some cells.size) (hold : old.size = cells.size) (h1 : cells.all (·.oneCell') = true)
    (h : wpListIn (Fence.wide.inRound l) n P ops Q rest (a.put o.dst undef) (w.setRow g cells)) : wpListIn (Fence.wide.inRound l) n P ops Q (o :: rest) a w :=
  listInR hg (by rw [ho]; intro c h; cases h) fun K hK => wp_store_row ty x y ho g cells hx hy t old hh hi hold h1 (hK _ _ h)
end

def SeqEnd (Jx : Nat → World → Prop) (e : Ending) (B : World) : Prop := (∃ v, e = .returned v) ∧ ∃ i, Jx i B

set_option maxRecDepth 100000 in
set_option maxHeartbeats 1600000 in
theorem blocks_endless (key nonce : List Nat) (c0 : Nat) (hk : key.length = 32) (hn : nonce.length = 12) (hkl : ∀ x ∈ key, x < 256) (hnl : ∀ x ∈ nonce, x < 256) (hc0 : c0 < 4294967296) (kB nB c N : Nat) (C D : Array Value) (hC : octVal key = .agg C) (hD : octVal nonce = .agg D) (w : World)
    (wk : w.heap[kB]? = some (.cells C 23 (0, 0))) (wn : w.heap[nB]? = some (.cells D 24 (0, 0))) (wc : w.heap[c]? = some (.cells #[.int .u32 (c0 : Int)] 25 (0, 0))) :
    Endless Try.prog 24 #[.pointer (some ⟨kB, 0, none⟩), .pointer (some ⟨nB, 0, none⟩), .pointer (some ⟨c, 0, none⟩)] c N (fun k => k = kB ∨ k = nB ∨ k = c) (fun i => #[octVal (blockF key nonce ((c0 + i) % 4294967296))]) w := by
  intro l J Jx W hW hJ hY h0 hN
  have sC : C.size = 32 := by unfold octVal at hC; rw [← Value.agg.inj hC]; simp [hk]
  have sD : D.size = 12 := by unfold octVal at hD; rw [← Value.agg.inj hD]; simp [hn]
  have H23 : Hid ((Try.prog.info? 23).map (·.size) = some C.size) := by rw [sC]; exact Lib.hid (by kernel_rfl)
  have H24 : Hid ((Try.prog.info? 24).map (·.size) = some D.size) := by rw [sD]; exact Lib.hid (by kernel_rfl)
  have K := Lib.hid (fun i w => callsIn_wide (n := 2).2 (block_any key nonce ((c0 + i) % 4294967296) hk hn hkl hnl (by omega) w))
  rw [hC, hD] at K
  have HW := Lib.hid (And.intro (hW.heap wk (fun h => h)) (And.intro (hW.heap wn (fun h => h)) (hW.heap wc (fun h => h))))
  have HJ := Lib.hid hJ
  have HY := Lib.hid hY
  have H0 := Lib.hid h0
  have HN := Lib.hid hN
  have HCN : Hid (kB ≠ c ∧ nB ≠ c) := by
    refine Lib.hid ⟨fun e => ?_, fun e => ?_⟩
    · rw [e, wc] at wk; cases wk
    · rw [e, wc] at wn; cases wn
  have HC0 := Lib.hid hc0
  clear hC hD sC sD hk hn hkl hnl hW hJ hY h0 hN wk wn wc hc0
  refine CallsIn.mono (R := SeqEnd Jx) ?_ (fun e B h => h)
  refine callsIn_of_wp Try.func24 rfl trivial ?_ rfl
  simp only [Try.ntmps24, List.size_toArray, List.length_cons, List.length_nil, Nat.reduceAdd, Nat.reduceSub, Array.replicate_succ, Array.replicate_zero, List.push_toArray, List.append_toArray, List.nil_append, List.cons_append]
  gi_wp2
  gi_loopg [] N (fun k wr => ∃ i : Nat, i < N ∧ k = N - i ∧ J i wr ∧ wr.heap[kB]? = some (.cells C 23 (0, 0)) ∧ wr.heap[nB]? = some (.cells D 24 (0, 0)) ∧ wr.heap[c]? = some (.cells #[.int .u32 (((c0 + i) % 4294967296 : Nat) : Int)] 25 (0, 0)))
  case atStart => exact ⟨0, HN.out, rfl, H0.out, HW.out.1, HW.out.2.1, by rw [Nat.add_zero, Nat.mod_eq_of_lt HC0.out]; exact HW.out.2.2⟩
  case round =>
    obtain ⟨i, hi, rfl, hj, hk, hn, hc⟩ := hrel
    obtain ⟨v, hv⟩ : ∃ v, (c0 + i) % 4294967296 = v := ⟨_, rfl⟩
    have hvl : (v : Int) ≤ 4294967295 := by omega
    have K1 := Lib.hid (K.out i)
    rw [hv] at K1 hc
    have hcc : wr.cell? ⟨c, 0, none⟩ = some (.int .u32 (v : Int)) := by rw [cell_of_row _ _ _ _ _ _ hc]; rfl
    have HY1 := Lib.hid (HY.out i)
    simp only [hv] at HY1
    obtain ⟨E, hE, HEE, hEs, hE1⟩ := octVal_arr (blockF key nonce v) 64 (blockF_len _ _ _)
    rw [hE] at K1 HY1
    have HV := Lib.hid hv
    have HI := Lib.hid hi
    have HJ1 := Lib.hid hj
    have HH := Lib.hid (And.intro hk (And.intro hn hc))
    clear hv hE hEs hE1 hi hj
    gi_wp2_with (first | refine listIn0_load rfl 23 _ rfl kB rfl 23 C _ hk Try.underlying23 rfl H23.out ?_ | refine listIn0_load rfl 24 _ rfl nB rfl 24 D _ hn Try.underlying24 rfl H24.out ?_)
    refine ⟨trivial, (K1.out _).mono ?_⟩
    rintro e w1 ⟨rfl, hb⟩
    have HF1 := Lib.hid (Fr.of_below hb)
    obtain ⟨fn, tmps, assign, body, hy, hR⟩ := HY1.out w1 HI.out (HJ.out i _ _ HJ1.out (HF1.out.mono (fun _ _ h => h.elim)))
    have HR := Lib.hid hR
    have HK1 := Lib.hid (And.intro (HF1.out.heap HH.out.1 (fun h => h)) (And.intro (HF1.out.heap HH.out.2.1 (fun h => h)) (HF1.out.heap HH.out.2.2 (fun h => h))))
    clear hb hR hk hn hc hcc
    gi_wp2_with fail
    refine HR.out.mono ?_
    rintro e W' ⟨hor, hk', hs', ho', ht', hu'⟩
    have hc2 : W'.heap[c]? = some (.cells #[.int .u32 (v : Int)] 25 (0, 0)) := (hk' c (.inr (.inr rfl))).trans HK1.out.2.2
    have hcc : W'.cell? ⟨c, 0, none⟩ = some (.int .u32 (v : Int)) := by rw [cell_of_row _ _ _ _ _ _ hc2]; rfl
    have hcf : W'.frozen? ⟨c, 0, none⟩ = false := frozen_of_row _ _ _ _ _ hc2
    have HK2 := Lib.hid (And.intro ((hk' kB (.inl rfl)).trans HK1.out.1) (And.intro ((hk' nB (.inr (.inl rfl))).trans HK1.out.2.1) hc2))
    clear hk' hs' ho' ht' hu' hc2
    rcases hor with ⟨rfl, hJ2, hN2⟩ | ⟨rfl, hJx⟩
    · have HJ2 := Lib.hid hJ2
      have HN2 := Lib.hid hN2
      clear hJ2 hN2
      gi_wp2_with fail
      have HS := Lib.hid (Fr.setCell W' ⟨c, 0, none⟩ (.int .u32 (((v : Int) + 1) % 4294967296)))
      gi_roundg (N - (i + 1))
      case rel =>
        have e : ((v : Int) + 1) % 4294967296 = (((c0 + (i + 1)) % 4294967296 : Nat) : Int) := by have := HV.out; omega
        refine ⟨i + 1, HN2.out, rfl, HJ.out (i + 1) _ _ HJ2.out HS.out, HS.out.heap HK2.out.1 HCN.out.1, HS.out.heap HK2.out.2.1 HCN.out.2, ?_⟩
        rw [heap_setCell_same _ _ _ _ _ _ HK2.out.2.2, e]
        rfl
      case measure => have := HI.out; omega
    · have HJX := Lib.hid hJx
      clear hJx hcc hcf
      gi_wp2_with fail
      go_end0
      exact ⟨⟨_, rfl⟩, i + 1, HJX.out⟩
end Go.Proofs.Ytbgidkphbbpdeaa
