/- Texts of this proof, laid together by wip/tools/pack.py: R. -/
import Derived.RangeFuncNested
import Derived.RangeFuncLeaves
import Derived.RangeFuncBound
section
namespace Go.Proofs.YtdklknfgcepcbaaGreat.X
open Go.RowKit
def E.KeepsOn (B : Nat) (W W' : World) : Prop := W.heap.size ≤ W'.heap.size ∧ ∀ b, B ≤ b → b < W.heap.size → W'.heap[b]? = W.heap[b]?
theorem E.KeepsOn.refl (B : Nat) (W : World) : E.KeepsOn B W W := ⟨Nat.le_refl _, fun _ _ _ => rfl⟩
theorem E.KeepsOn.trans {B : Nat} {X Y Z : World} (h : E.KeepsOn B X Y) (k : E.KeepsOn B Y Z) : E.KeepsOn B X Z :=
  ⟨Nat.le_trans h.1 k.1, fun b hb hl => (k.2 b hb (Nat.lt_of_lt_of_le hl h.1)).trans (h.2 b hb hl)⟩
theorem E.KeepsOn.mono {B B' : Nat} {X Y : World} (h : E.KeepsOn B X Y) (hb : B ≤ B') : E.KeepsOn B' X Y := ⟨h.1, fun b hb' hl => h.2 b (Nat.le_trans hb hb') hl⟩
theorem E.KeepsOn.of_below {B : Nat} {X Y : World} (h : Below X.heap.size X Y) : E.KeepsOn B X Y := ⟨h.size, fun b _ hl => h.block b hl⟩
theorem E.KeepsOn.setCell (B : Nat) (W : World) (a : Addr) (v : Value) (h : a.block < B) : E.KeepsOn B W (W.setCell a v) :=
  ⟨by simp, fun b hb _ => Below.heap_setCell W a v b (by omega)⟩
def E.SeqB {α : Type} (P : Program) (g : Nat) (lb : Array Value) (encs : α → Array Value) (els : List α) (R : World → Prop) : Prop :=
  ∀ (l : Nat) (J Jx : Nat → World → Prop) (W : World),
    (∀ k A B, J k A → Below W.heap.size A B → J k B) → (∀ k A B, Jx k A → Below W.heap.size A B → Jx k B) → (∀ k A, J k A → R A ∧ W.heap.size ≤ A.heap.size) →
    (∀ k x A, els[k]? = some x → J k A → YieldAt Fence.wide 0 P l (encs x) A fun e A' =>
      (e = .returned (.bool true) ∧ J (k + 1) A' ∧ E.KeepsOn W.heap.size A A') ∨ (e = .returned (.bool false) ∧ Jx k A' ∧ E.KeepsOn W.heap.size A A')) →
    J 0 W →
    CallsIn Fence.wide 0 P g (#[.func (.yield l) #[] #[]] ++ lb) W fun e W' => (∃ v, e = .returned v) ∧ (J els.length W' ∨ ∃ k, k < els.length ∧ Jx k W') ∧ W.heap.size ≤ W'.heap.size
def E.roundPost (B : Nat) (I Ix : Nat → World → Prop) (k : Nat) (W : World) : Exit → Act → World → Prop
  | .normal, _, W' => E.KeepsOn B W W' ∧ I (k + 1) W'
  | .ret, _, W' => E.KeepsOn B W W' ∧ Ix k W'
  | .exit _, _, _ => False
  | .goto _, _, _ => False
  | .panic _, _, _ => False
  | .outgrown, _, _ => False
theorem E.below_put {B : Nat} {W : World} {l : Nat} {o o' : Obj} (h : W.heap[l]? = some o) (hB : B ≤ l) : Below B W (W.putObj l o') :=
  (Below.refl B W).grown (grownBy_putObj' W l o') (by have := (Array.getElem?_eq_some_iff.1 h).1; omega) (fun k e => by cases e; exact hB)
theorem E.rangeLaw {α : Type} {P : Program} {g : Operand} {ps : Array Tmp} {assign body : Code} {Q : Exit → Act → World → Prop} {a : Act} {w : World} {gf : Nat} {lb : Array Value} (hg : a.eval g = .func (.func gf) #[] lb)
    (eg : ∀ args w, (callFunc gf args).run P w = .ok (.enter gf args) w) {encs : α → Array Value} {els : List α} {R : World → Prop} (hseq : E.SeqB P gf lb encs els R) (hps : ∀ x, (encs x).size = ps.size)
    (I Ix : Nat → World → Prop) (hI : ∀ k A B, I k A → Below w.heap.size A B → I k B) (hIx : ∀ k A B, Ix k A → Below w.heap.size A B → Ix k B) (hR : ∀ k A, I k A → R A) (h0 : I 0 w) (a₁ : α → Act)
    (hassign : ∀ (l : Nat) (x : α) (W : World) (K : Act → World → Prop), K (a₁ x) W →
      assign.wpIn (Fence.wide.inRound l) 0 P (Exit.then K (fun _ _ _ => False)) { tmps := (ps.zip (encs x)).foldl (fun t (p, v) => t.setIfInBounds p v) a.tmps, defers := [] } W)
    (hbody : ∀ (l k : Nat) (x : α) (W : World), els[k]? = some x → w.heap.size + 2 ≤ W.heap.size → I k W → body.wpIn (Fence.wide.inRound l) 0 P (E.roundPost w.heap.size I Ix k W) (a₁ x) W)
    (hdone : ∀ (W : World), w.heap.size + 2 ≤ W.heap.size → I els.length W → W.heap[w.heap.size]? = some (.deferred (some [])) → Q .normal { a with defers := { target := .collected w.heap.size, args := #[] } :: a.defers } W)
    (hstop : ∀ (k : Nat) (W : World), w.heap.size + 2 ≤ W.heap.size → k < els.length → Ix k W → W.heap[w.heap.size]? = some (.deferred (some [])) → Code.ret.wpIn Fence.wide 0 P Q { a with defers := { target := .collected w.heap.size, args := #[] } :: a.defers } W) :
    (Code.rangeFunc g ps assign body).wpIn Fence.wide 0 P Q a w := by
  refine wpIn_rangeFunc ?_
  intro fn hfn
  rw [show Fence.wide.round = none from rfl]
  obtain ⟨rec, hrec⟩ : ∃ rec : LoopState → Option Code → Loop, rec = fun st pe => { state := st, pending := pe, fn, tmps := a.tmps, params := ps, assign, body, defers := w.heap.size } := ⟨_, rfl⟩
  obtain ⟨W1, hW1⟩ : ∃ W1, (w.alloc (.deferred (some []))).alloc (.loop (rec .ready none)) = W1 := ⟨_, rfl⟩
  have hL1 : W1.heap[w.heap.size + 1]? = some (.loop (rec .ready none)) := by
    rw [← hW1]; have := World.alloc_heap_new (w.alloc (.deferred (some []))) (.loop (rec .ready none)); rwa [World.size_alloc] at this
  have hK1 : W1.heap[w.heap.size]? = some (.deferred (some [])) := by
    rw [← hW1]; exact (Below.heap_alloc _ _ _ (by simp)).trans (World.alloc_heap_new w _)
  have hb1 : Below w.heap.size w W1 := by
    rw [← hW1]; exact ((Below.refl _ w).alloc (Nat.le_refl _) _).alloc (by simp) _
  have hs1 : W1.heap.size = w.heap.size + 2 := by rw [← hW1]; simp
  have hI1 : I 0 W1 := hI _ _ _ h0 hb1
  refine ⟨w.heap.size + 1, [{ target := .collected w.heap.size, args := #[] }], W1, { target := .fn (.func gf) lb, args := #[.func (.yield (w.heap.size + 1)) #[] #[]] }, W1, gf,
    #[.func (.yield (w.heap.size + 1)) #[] #[]] ++ lb, W1, ?_, ?_, ?_, ?_, (fun h => by cases h), ?_⟩
  · rw [← hW1, hrec]; exact run_enterLoop_outer _ _ _ _ _
  · simp only [resolve, hg]
    simp [go_sem]
  · intro f' hf'; exact trivial
  · simp [invoke, go_sem, eg]
  · refine (hseq (w.heap.size + 1)
      (fun k W => I k W ∧ W.heap[w.heap.size + 1]? = some (.loop (rec .ready none)) ∧ W.heap[w.heap.size]? = some (.deferred (some [])))
      (fun k W => Ix k W ∧ W.heap[w.heap.size + 1]? = some (.loop (rec .done (some .ret))) ∧ W.heap[w.heap.size]? = some (.deferred (some [])))
      W1 ?_ ?_ ?_ ?_ ⟨hI1, hL1, hK1⟩).mono ?_
    · rintro k A B ⟨h1, h2, h3⟩ hb
      exact ⟨hI _ _ _ h1 (hb.mono (by omega)), (hb.block _ (by omega)).trans h2, (hb.block _ (by omega)).trans h3⟩
    · rintro k A B ⟨h1, h2, h3⟩ hb
      exact ⟨hIx _ _ _ h1 (hb.mono (by omega)), (hb.block _ (by omega)).trans h2, (hb.block _ (by omega)).trans h3⟩
    · rintro k A ⟨h1, h2, h3⟩
      have := (Array.getElem?_eq_some_iff.1 h2).1
      exact ⟨hR _ _ h1, by omega⟩
    · 
      rintro k x W hx ⟨hi, hl, hk⟩
      have hlt : w.heap.size + 1 < W.heap.size := (Array.getElem?_eq_some_iff.1 hl).1
      have hy := run_yield (P := P) (args := encs x) hl (by rw [hrec]; exact hps x)
      rw [hrec] at hy
      refine ⟨fn, _, assign, body, hy, roundIn_of_wpIn hfn (hassign _ x W _ ⟨_, run_beginRound hl (by rw [hrec]), ?_⟩)⟩
      have hl2 : (W.putObj (w.heap.size + 1) (.loop { rec .ready none with state := .busy })).heap[w.heap.size + 1]? = some (.loop { rec .ready none with state := .busy }) := World.putObj_heap_same hlt
      have hk2 : (W.putObj (w.heap.size + 1) (.loop { rec .ready none with state := .busy })).heap[w.heap.size]? = some (.deferred (some [])) := (World.putObj_heap_other (by omega)).trans hk
      have hw2 : E.KeepsOn W1.heap.size W (W.putObj (w.heap.size + 1) (.loop { rec .ready none with state := .busy })) := ⟨by simp, fun b hb _ => World.putObj_heap_other (by omega)⟩
      refine wpIn_mono (hbody _ k x _ hx (by simp; omega) (hI _ _ _ hi (E.below_put hl (by omega)))) ?_
      have fin : ∀ (jump : Option Code) (W3 : World), E.KeepsOn w.heap.size (W.putObj (w.heap.size + 1) (.loop { rec .ready none with state := .busy })) W3 →
          (Instr.endRound (w.heap.size + 1) jump).run P W3 = .ok (.bool jump.isNone) (W3.putObj (w.heap.size + 1) (.loop (rec (if jump.isNone then .ready else .done) jump))) ∧
          W3.heap[w.heap.size + 1]? = some (.loop { rec .ready none with state := .busy }) ∧
          (W3.putObj (w.heap.size + 1) (.loop (rec (if jump.isNone then .ready else .done) jump))).heap[w.heap.size + 1]? = some (.loop (rec (if jump.isNone then .ready else .done) jump)) ∧
          (W3.putObj (w.heap.size + 1) (.loop (rec (if jump.isNone then .ready else .done) jump))).heap[w.heap.size]? = some (.deferred (some [])) ∧
          E.KeepsOn W1.heap.size W (W3.putObj (w.heap.size + 1) (.loop (rec (if jump.isNone then .ready else .done) jump))) := fun jump W3 hk3 => by
        have hl3 := (hk3.2 (w.heap.size + 1) (by omega) (by simp; omega)).trans hl2
        have := run_endRound (P := P) jump hl3
        rw [hrec] at this ⊢
        refine ⟨this, by rw [hrec] at hl3; exact hl3, World.putObj_heap_same (Array.getElem?_eq_some_iff.1 hl3).1, (World.putObj_heap_other (by omega)).trans ((hk3.2 w.heap.size (Nat.le_refl _) (by simp; omega)).trans hk2), ?_⟩
        exact hw2.trans ((hk3.mono (B' := W1.heap.size) (by omega)).trans ⟨by simp, fun b hb _ => World.putObj_heap_other (by omega)⟩)
      rintro e a3 W3 hp
      cases e with
      | normal =>
        obtain ⟨hk3, hi3⟩ := hp
        obtain ⟨hr, hl3, hl4, hk4, hke⟩ := fin none W3 hk3
        exact ⟨_, _, hr, .inl ⟨rfl, ⟨hI _ _ _ hi3 (E.below_put hl3 (by omega)), hl4, hk4⟩, hke⟩⟩
      | ret =>
        obtain ⟨hk3, hi3⟩ := hp
        obtain ⟨hr, hl3, hl4, hk4, hke⟩ := fin (some .ret) W3 hk3
        exact ⟨_, _, hr, .inr ⟨rfl, ⟨hIx _ _ _ hi3 (E.below_put hl3 (by omega)), hl4, hk4⟩, hke⟩⟩
      | exit id => exact hp.elim
      | goto t => exact hp.elim
      | panic ch => exact hp.elim
      | outgrown => exact hp.elim
    · 
      rintro e W2 ⟨⟨v, rfl⟩, (⟨hi, hl, hk⟩ | ⟨k, hk0, hi, hl, hk⟩), hsz⟩
      · exact ⟨none, _, by have := run_endLoop (P := P) hl (by rw [hrec]; simp); rw [hrec] at this; exact this, hdone _ (by simp; omega) (hI _ _ _ hi (E.below_put hl (by omega))) ((World.putObj_heap_other (by omega)).trans hk)⟩
      · exact ⟨some .ret, _, by have := run_endLoop (P := P) hl (by rw [hrec]; simp); rw [hrec] at this; exact this, hstop k _ (by simp; omega) hk0 (hIx _ _ _ hi (E.below_put hl (by omega))) ((World.putObj_heap_other (by omega)).trans hk)⟩
end Go.Proofs.YtdklknfgcepcbaaGreat.X
end
