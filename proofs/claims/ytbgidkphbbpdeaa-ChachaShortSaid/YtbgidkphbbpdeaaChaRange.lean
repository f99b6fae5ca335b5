/- A range over a function whose iterator keeps a count in a cell of its own (the kit's laws know no such iterator): the loop by the iterator's contract, at a body that goes on or returns. Nothing here speaks of the program. -/
import Derived.Test.YtbgidkphbbpdeaaChaRound
import Derived.RangeFuncOwn
namespace Go.Proofs.Ytbgidkphbbpdeaa
open Go.RowKit
set_option linter.unusedVariables false
set_option linter.unusedSimpArgs false

/-- How a round of the loop is left: it goes on, or it returns. -/
def turnPost (I Ix : Nat → World → Prop) (N i : Nat) (T : Nat → Prop) (W : World) : Exit → Act → World → Prop
  | .normal, _, B => I (i + 1) B ∧ i + 1 < N ∧ Fr W B T
  | .ret, _, B => Ix (i + 1) B ∧ Fr W B T
  | _, _, _ => False
/-- What the iterator is told of a call of yield. -/
def yieldPost (J Jx : Nat → World → Prop) (N i : Nat) (kept : Nat → Prop) (A : World) (e : Ending) (B : World) : Prop :=
  ((e = .returned (.bool true) ∧ J (i + 1) B ∧ i + 1 < N) ∨ (e = .returned (.bool false) ∧ Jx (i + 1) B)) ∧ (∀ k, kept k → B.heap[k]? = A.heap[k]?) ∧ A.heap.size ≤ B.heap.size ∧ B.os = A.os ∧ B.tape = A.tape ∧ B.output = A.output
/-- An iterator that gives 'enc 0', 'enc 1', .. for ever, keeping its count in block c. -/
def Endless (P : Program) (gf : Nat) (lb : Array Value) (c N : Nat) (kept : Nat → Prop) (enc : Nat → Array Value) (w : World) : Prop :=
  ∀ (l : Nat) (J Jx : Nat → World → Prop) (W : World), Fr w W (fun _ => False) → (∀ i A B, J i A → Fr A B (fun k => k = c) → J i B) →
    (∀ i A, i < N → J i A → YieldAt Fence.wide 2 P l (enc i) A (yieldPost J Jx N i kept A)) → J 0 W → 0 < N →
    CallsIn Fence.wide 3 P gf (#[.func (.yield l) #[] #[]] ++ lb) W fun e B => (∃ v, e = .returned v) ∧ ∃ i, Jx i B

theorem fr_putObj (W : World) (l : Nat) (o : Obj) : Fr W (W.putObj l o) (fun k => k = l) :=
  ⟨rfl, rfl, rfl, by simp, fun k _ hk => World.putObj_heap_other hk⟩

theorem range_turns {P : Program} {g : Operand} {ps : Array Tmp} {assign body : Code} {Q : Exit → Act → World → Prop} {a : Act} {w : World} {gf : Nat} {lb : Array Value}
    (hg : a.eval g = .func (.func gf) #[] lb) (eg : ∀ args w, (callFunc gf args).run P w = .ok (.enter gf args) w) (c N : Nat) (kept : Nat → Prop) (enc : Nat → Array Value) (hps : ∀ i, (enc i).size = ps.size)
    (hN : 0 < N) (hk : ∀ k, kept k → k < w.heap.size) (hc : c < w.heap.size) (iter : Endless P gf lb c N kept enc w)
    (I Ix : Nat → World → Prop) (hI : ∀ i A B, I i A → Fr A B (fun k => k = c ∨ k = w.heap.size ∨ k = w.heap.size + 1) → I i B) (hIx : ∀ i A B, Ix i A → Fr A B (fun k => k = c ∨ k = w.heap.size ∨ k = w.heap.size + 1) → Ix i B) (h0 : I 0 w)
    (turn : ∀ (l i : Nat) (W : World), i < N → I i W → w.heap.size + 1 < W.heap.size →
      assign.wpIn (Fence.wide.inRound l) 2 P (Exit.then (fun a₁ w₁ => Fr W w₁ (fun _ => False) ∧ ∀ w₂, Fr w₁ w₂ (fun k => k = w.heap.size + 1) →
        body.wpIn (Fence.wide.inRound l) 2 P (turnPost I Ix N i (fun k => ¬ kept k ∧ k ≠ w.heap.size ∧ k ≠ w.heap.size + 1) w₂) a₁ w₂) (fun _ _ _ => False))
        { tmps := (ps.zip (enc i)).foldl (fun t (p, v) => t.setIfInBounds p v) a.tmps, defers := [] } W)
    (hstop : ∀ (i : Nat) (W : World), Ix i W → W.heap[w.heap.size]? = some (.deferred (some [])) → Code.ret.wpIn Fence.wide 4 P Q { a with defers := { target := .collected w.heap.size, args := #[] } :: a.defers } W) :
    (Code.rangeFunc g ps assign body).wpIn Fence.wide 4 P Q a w := by
  refine wpIn_rangeFunc ?_
  intro fn hfn
  obtain ⟨rec, hrec⟩ : ∃ rec : LoopState → Option Code → Loop, rec = fun st pe => { state := st, pending := pe, fn, tmps := a.tmps, params := ps, assign, body, defers := w.heap.size } := ⟨_, rfl⟩
  obtain ⟨W1, hW1⟩ : ∃ W1, (w.alloc (.deferred (some []))).alloc (.loop (rec .ready none)) = W1 := ⟨_, rfl⟩
  have fr1 : Fr w W1 (fun _ => False) := by rw [← hW1]; exact ((Fr.alloc _ _).trans (Fr.alloc _ _)).mono (by simp)
  have hL1 : W1.heap[w.heap.size + 1]? = some (.loop (rec .ready none)) := by rw [← hW1]; exact heap_alloc2_new w _ _
  have hD1 : W1.heap[w.heap.size]? = some (.deferred (some [])) := by rw [← hW1]; exact heap_alloc2_old w _ _
  refine ⟨w.heap.size + 1, [{ target := .collected w.heap.size, args := #[] }], W1, { target := .fn (.func gf) lb, args := #[.func (.yield (w.heap.size + 1)) #[] #[]] }, W1, gf,
    #[.func (.yield (w.heap.size + 1)) #[] #[]] ++ lb, W1, ?_, ?_, fun _ _ => trivial, ?_, fun h => by simp [Fence.wide] at h, ?_⟩
  · rw [← hW1, hrec]; exact run_enterLoop_outer _ _ _ _ _
  · simp only [resolve, hg]
    simp [go_sem]
  · simp [invoke, go_sem, eg]
  · refine (iter (w.heap.size + 1)
      (fun i W => I i W ∧ W.heap[w.heap.size + 1]? = some (.loop (rec .ready none)) ∧ W.heap[w.heap.size]? = some (.deferred (some [])))
      (fun i W => Ix i W ∧ W.heap[w.heap.size + 1]? = some (.loop (rec .done (some .ret))) ∧ W.heap[w.heap.size]? = some (.deferred (some []))) W1 fr1
      (fun i A B h hf => ⟨hI i A B h.1 (hf.mono (fun k _ e => .inl e)), hf.heap h.2.1 (by omega), hf.heap h.2.2 (by omega)⟩)
      ?_ ⟨hI 0 w W1 h0 (fr1.mono (fun _ _ h => h.elim)), hL1, hD1⟩ hN).mono ?_
    · rintro i W hi ⟨hi1, hl, hd⟩
      have hlt : w.heap.size + 1 < W.heap.size := (Array.getElem?_eq_some_iff.1 hl).1
      have hy := run_yield (P := P) (args := enc i) hl (by rw [hrec]; exact hps i)
      rw [hrec] at hy
      refine ⟨fn, _, assign, body, hy, roundIn_of_wpIn hfn (wpIn_mono (turn (w.heap.size + 1) i W hi hi1 hlt) ?_)⟩
      rintro e a1 w1 hp
      cases e with
      | normal =>
        obtain ⟨hf1, hb⟩ := hp
        have hl1 := hf1.heap hl (fun h => h)
        have hd1 := hf1.heap hd (fun h => h)
        have hlt1 := (Array.getElem?_eq_some_iff.1 hl1).1
        have hf2 := fr_putObj w1 (w.heap.size + 1) (.loop { rec .ready none with state := .busy })
        have hl2 : (w1.putObj (w.heap.size + 1) (.loop { rec .ready none with state := .busy })).heap[w.heap.size + 1]? = some (.loop { rec .ready none with state := .busy }) := World.putObj_heap_same hlt1
        have hd2 := hf2.heap hd1 (by omega)
        refine ⟨_, run_beginRound hl1 (by rw [hrec]), wpIn_mono (hb _ hf2) ?_⟩
        generalize w1.putObj (w.heap.size + 1) (.loop { rec .ready none with state := .busy }) = w2 at hf2 hl2 hd2
        have fin : ∀ (jump : Option Code) (W3 : World), Fr w2 W3 (fun k => ¬ kept k ∧ k ≠ w.heap.size ∧ k ≠ w.heap.size + 1) →
            (Instr.endRound (w.heap.size + 1) jump).run P W3 = .ok (.bool jump.isNone) (W3.putObj (w.heap.size + 1) (.loop (rec (if jump.isNone then .ready else .done) jump))) ∧
            (W3.putObj (w.heap.size + 1) (.loop (rec (if jump.isNone then .ready else .done) jump))).heap[w.heap.size + 1]? = some (.loop (rec (if jump.isNone then .ready else .done) jump)) ∧
            (W3.putObj (w.heap.size + 1) (.loop (rec (if jump.isNone then .ready else .done) jump))).heap[w.heap.size]? = some (.deferred (some [])) ∧
            (∀ k, kept k → (W3.putObj (w.heap.size + 1) (.loop (rec (if jump.isNone then .ready else .done) jump))).heap[k]? = W.heap[k]?) ∧
            W.heap.size ≤ (W3.putObj (w.heap.size + 1) (.loop (rec (if jump.isNone then .ready else .done) jump))).heap.size ∧
            (W3.putObj (w.heap.size + 1) (.loop (rec (if jump.isNone then .ready else .done) jump))).os = W.os ∧ (W3.putObj (w.heap.size + 1) (.loop (rec (if jump.isNone then .ready else .done) jump))).tape = W.tape ∧ (W3.putObj (w.heap.size + 1) (.loop (rec (if jump.isNone then .ready else .done) jump))).output = W.output := by
          intro jump W3 hf3
          have hl3 := hf3.heap hl2 (by simp)
          have hd3 := hf3.heap hd2 (by simp)
          have hr := run_endRound (P := P) jump hl3
          rw [hrec] at hr ⊢
          have hs := hf1.size
          have hs2 := hf2.size
          have hs3 := hf3.size
          refine ⟨hr, World.putObj_heap_same (Array.getElem?_eq_some_iff.1 hl3).1, (World.putObj_heap_other (by omega)).trans hd3, fun k hkk => ?_, by simp; omega, hf3.os.trans (hf2.os.trans hf1.os), hf3.tape.trans (hf2.tape.trans hf1.tape), hf3.output.trans (hf2.output.trans hf1.output)⟩
          have hkw := hk k hkk
          exact (World.putObj_heap_other (by omega)).trans ((hf3.block k (by omega) (by simp [hkk])).trans ((hf2.block k (by omega) (by omega)).trans (hf1.block k (by omega) (fun h => h))))
        rintro e a3 W3 hp
        cases e with
        | normal =>
          obtain ⟨hi3, hn3, hf3⟩ := hp
          obtain ⟨hr, hl4, hd4, hk4, hs4⟩ := fin none W3 hf3
          exact ⟨_, _, hr, .inl ⟨rfl, ⟨hI _ _ _ hi3 ((fr_putObj _ _ _).mono (fun k _ e => .inr (.inr e))), hl4, hd4⟩, hn3⟩, hk4, hs4⟩
        | ret =>
          obtain ⟨hi3, hf3⟩ := hp
          obtain ⟨hr, hl4, hd4, hk4, hs4⟩ := fin (some .ret) W3 hf3
          exact ⟨_, _, hr, .inr ⟨rfl, hIx _ _ _ hi3 ((fr_putObj _ _ _).mono (fun k _ e => .inr (.inr e))), hl4, hd4⟩, hk4, hs4⟩
        | exit id => exact hp.elim
        | goto t => exact hp.elim
        | panic ch => exact hp.elim
        | outgrown => exact hp.elim
      | ret => exact hp.elim
      | exit id => exact hp.elim
      | goto t => exact hp.elim
      | panic ch => exact hp.elim
      | outgrown => exact hp.elim
    · rintro e W2 ⟨⟨v, rfl⟩, i, hi, hl, hd⟩
      have he := run_endLoop (P := P) hl (by rw [hrec]; simp)
      rw [hrec] at he
      exact ⟨some .ret, _, he, hstop i _ (hIx _ _ _ hi ((fr_putObj _ _ _).mono (fun k _ e => .inr (.inr e)))) ((World.putObj_heap_other (by omega)).trans hd)⟩
end Go.Proofs.Ytbgidkphbbpdeaa
