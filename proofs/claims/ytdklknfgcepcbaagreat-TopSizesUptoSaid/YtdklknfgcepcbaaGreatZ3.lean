/- Texts of this proof, laid together by wip/tools/pack.py: TA, TZ. -/
import Derived.Test.YtdklknfgcepcbaaGreatProg
import Derived.Below
import Derived.OwnWalk
import Derived.Laws.MakeOwn
import Derived.Laws.OwnMore
import Derived.Tactics
import Derived.WalkKit
import Derived.KernelRfl
import Derived.RowKit3
import Derived.Deep.LoopGhost
import Derived.Deep.QuietTactic
import Derived.BigQuiet
import Derived.Deep.RegionHeld3
import Derived.Laws.Rows
import Derived.Laws.BitsLemmas
import Derived.RowKit
import Derived.Test.YtdklknfgcepcbaaGreatZ1
import Derived.Test.YtdklknfgcepcbaaGreatZ2
import Derived.Laws.CopyRow
import Derived.Laws.CopyOwn
import Derived.Laws.AppendOwn
import Derived.Deep.MidRow
import Derived.Deep.DeepAppendWide
namespace Go.Proofs.YtdklknfgcepcbaaGreat.X
open Go.RowKit Go.Proofs.YtdklknfgcepcbaaGreatW.PrintWords Go.Proofs.YtdklknfgcepcbaaGreatW.PrintLast Go.Proofs.YtdklknfgcepcbaaGreatW.PrintMore
set_option linter.unusedSimpArgs false
set_option linter.unusedVariables false
set_option maxHeartbeats 2000000
set_option maxRecDepth 20000
abbrev T.wide (a : Int × Int × Int × Int) : Value := .agg #[.int .u64 a.1, .int .u64 a.2.1, .int .u64 a.2.2.1, .int .u64 a.2.2.2]
def T.at (a : Int × Int × Int × Int) (i : Int) : Int := if i = 0 then a.1 else if i = 1 then a.2.1 else if i = 2 then a.2.2.1 else if i = 3 then a.2.2.2 else 0
section
def T.gi (l : List Int) (i : Nat) : Int := l.getD i 0
inductive T.Blk where
  | b (n : Nat) (t : TypeId) (cs : List Value)
  | g (v : Value) (e : TypeId) (sz n : Nat) (xs : List Value)
  | o (n : Nat) (x : Obj)
def T.Blk.key : T.Blk → Option Nat
  | .b n _ _ => some n
  | .o n _ => some n
  | .g v _ _ _ _ => v.ownBlock
def T.Blk.lies (base : Nat) (w : World) : T.Blk → Prop
  | .b n t cs => w.heap[n]? = some (.cells cs.toArray t)
  | .o n x => w.heap[n]? = some x
  | .g v e sz n xs => w.ownsRow base e sz v n xs ∧ ∀ u ∈ xs, u.oneCell' = true
def T.Apart (x y : T.Blk) : Prop := ∀ k, x.key = some k → y.key ≠ some k
theorem T.Apart.symm {x y : T.Blk} (h : T.Apart x y) : T.Apart y x := fun k hy hx => h k hx hy
structure T.Mem (w0 : World) (F : Option Nat) (w : World) (L : List T.Blk) : Prop where
  grown : w0.grownBy w F
  own : ∀ e ∈ L, ∀ k, e.key = some k → w0.heap.size ≤ k ∨ F = some k
  row : ∀ e ∈ L, e.lies w0.heap.size w
  nd : L.Pairwise T.Apart
theorem T.gtrans {F : Option Nat} {a b c : World} (h : a.grownBy b F) (k : b.grownBy c F) : a.grownBy c F :=
  ⟨k.os.trans h.os, k.tape.trans h.tape, k.output.trans h.output, Nat.le_trans h.size k.size, fun i hi hn => (k.block i (Nat.lt_of_lt_of_le hi h.size) hn).trans (h.block i hi hn)⟩
theorem T.gbelow {a b : World} (h : a.grownBy b none) : Below a.heap.size a b := ⟨h.os, h.tape, h.output, h.size, fun i hi => h.block i hi (by simp)⟩
theorem T.gofb {a b : World} (h : Below a.heap.size a b) (F : Option Nat) : a.grownBy b F := ⟨h.os, h.tape, h.output, h.size, fun i hi _ => h.block i hi⟩
theorem T.lies_lt {base : Nat} {w : World} {e : T.Blk} (h : e.lies base w) {k : Nat} (hk : e.key = some k) : k < w.heap.size := by
  cases e with
  | b n t cs =>
    have e : n = k := Option.some.inj hk
    subst e
    have h : w.heap[n]? = some (.cells cs.toArray t) := h
    rcases Nat.lt_or_ge n w.heap.size with h1 | h1
    · exact h1
    · rw [Array.getElem?_eq_none h1] at h; cases h
  | o n x =>
    have e : n = k := Option.some.inj hk
    subst e
    have h : w.heap[n]? = some x := h
    rcases Nat.lt_or_ge n w.heap.size with h1 | h1
    · exact h1
    · rw [Array.getElem?_eq_none h1] at h; cases h
  | g v e sz n xs => exact (h.1.lt k hk).2
theorem T.lies_kept {base : Nat} {w w' : World} {e : T.Blk} {r : Option Nat} (h : e.lies base w) (hg : w.grownBy w' r) (hne : ∀ k, e.key = some k → some k ≠ r) : e.lies base w' := by
  cases e with
  | b n t cs => exact (hg.block n (T.lies_lt h rfl) (hne n rfl)).trans h
  | o n x => exact (hg.block n (T.lies_lt h rfl) (hne n rfl)).trans h
  | g v e sz n xs =>
    refine ⟨h.1.kept hg ?_, h.2⟩
    cases hk : v.ownBlock with
    | none => exact .inl rfl
    | some k => exact .inr (hne k hk)
theorem T.Mem.start (w : World) : T.Mem w none w [] := ⟨World.grownBy.refl _ _, fun _ h => (List.not_mem_nil h).elim, fun _ h => (List.not_mem_nil h).elim, List.Pairwise.nil⟩
theorem T.Mem.startF (w : World) {b : Nat} {t : TypeId} {cs : List Value} (h : w.heap[b]? = some (.cells cs.toArray t)) : T.Mem w (some b) w [.b b t cs] :=
  ⟨World.grownBy.refl _ _, fun e he k hk => by rw [List.mem_singleton.1 he] at hk; exact .inr hk, fun e he => by rw [List.mem_singleton.1 he]; exact h, by simp⟩
theorem T.Mem.below {w0 w : World} {L : List T.Blk} (h : T.Mem w0 none w L) : Below w0.heap.size w0 w := T.gbelow h.grown
theorem T.Mem.size {w0 w : World} {F : Option Nat} {L : List T.Blk} (h : T.Mem w0 F w L) {e : T.Blk} (he : e ∈ L) {k : Nat} (hk : e.key = some k) : k < w.heap.size := T.lies_lt (h.row e he) hk
theorem T.Mem.push {w0 w w' : World} {F : Option Nat} {L : List T.Blk} (h : T.Mem w0 F w L) (hg : w.grownBy w' none) {x : T.Blk} (hx : x.lies w0.heap.size w') (hk : ∀ k, x.key = some k → w.heap.size ≤ k) : T.Mem w0 F w' (x :: L) := by
  refine ⟨T.gtrans h.grown (T.gofb (T.gbelow hg) F), ?_, ?_, ?_⟩
  · intro e he k hk'
    rcases List.mem_cons.1 he with rfl | he
    · exact .inl (Nat.le_trans h.grown.size (hk k hk'))
    · exact h.own e he k hk'
  · intro e he
    rcases List.mem_cons.1 he with rfl | he
    · exact hx
    · exact T.lies_kept (h.row e he) hg (fun k _ => by simp)
  · refine List.pairwise_cons.2 ⟨fun e he k hk' hk2 => ?_, h.nd⟩
    have := h.size he hk2
    have := hk k hk'
    omega
theorem T.Mem.alloc {w0 w : World} {F : Option Nat} {L : List T.Blk} (h : T.Mem w0 F w L) (t : TypeId) (cs : List Value) : T.Mem w0 F (w.alloc (.cells cs.toArray t)) (.b w.heap.size t cs :: L) :=
  h.push (World.grownBy_alloc w _ _) (x := .b w.heap.size t cs) (heap_alloc_new _ _) (fun k hk => by cases hk; exact Nat.le_refl _)
theorem T.Mem.nil {w0 w : World} {F : Option Nat} {L : List T.Blk} (h : T.Mem w0 F w L) (e : TypeId) (sz : Nat) : T.Mem w0 F w (.g (.slice none 0 0) e sz 0 [] :: L) :=
  h.push (World.grownBy.refl _ _) (x := .g (.slice none 0 0) e sz 0 []) ⟨World.ownsRow_nil _ _ _ _, fun _ h => (List.not_mem_nil h).elim⟩ (fun k hk => by cases hk)
theorem T.Mem.drew {w0 w : World} {F : Option Nat} {L : List T.Blk} (h : T.Mem w0 F w L) : T.Mem w0 F w.drew L :=
  have hg : w.grownBy w.drew none := ⟨rfl, rfl, rfl, Nat.le_refl _, fun _ _ _ => rfl⟩
  ⟨T.gtrans h.grown (T.gofb (T.gbelow hg) F), h.own, fun e he => T.lies_kept (h.row e he) hg (fun k _ => by simp), h.nd⟩
theorem T.Mem.call {w0 w w' : World} {F : Option Nat} {L : List T.Blk} (h : T.Mem w0 F w L) (hb : Below w.heap.size w w') : T.Mem w0 F w' L :=
  ⟨T.gtrans h.grown (T.gofb hb F), h.own, fun e he => T.lies_kept (h.row e he) (T.gofb hb none) (fun k _ => by simp), h.nd⟩
theorem T.Mem.keep {w0 w w' : World} {F : Option Nat} {L : List T.Blk} {B : Nat} (h : T.Mem w0 F w L) (hk : ∀ e ∈ L, ∃ n t cs, e = .b n t cs ∧ n < B) (h0 : w0.heap.size ≤ B) (hb : Below B w w') : T.Mem w0 F w' L :=
  ⟨⟨hb.os.trans h.grown.os, hb.tape.trans h.grown.tape, hb.output.trans h.grown.output, Nat.le_trans h.grown.size hb.size, fun i hi hn => (hb.block i (Nat.lt_of_lt_of_le hi h0)).trans (h.grown.block i hi hn)⟩, h.own,
   fun e he => by obtain ⟨n, t, cs, rfl, hn⟩ := hk e he; exact (hb.block n hn).trans (h.row _ he), h.nd⟩
theorem T.Mem.drop {w0 w : World} {F : Option Nat} {L L' : List T.Blk} (h : T.Mem w0 F w L) (hs : L'.Sublist L) : T.Mem w0 F w L' :=
  ⟨h.grown, fun e he => h.own e (hs.subset he), fun e he => h.row e (hs.subset he), h.nd.sublist hs⟩
inductive T.Sub (x y : T.Blk) : List T.Blk → List T.Blk → Prop where
  | head (L : List T.Blk) : T.Sub x y (x :: L) (y :: L)
  | tail (e : T.Blk) {L L' : List T.Blk} (h : T.Sub x y L L') : T.Sub x y (e :: L) (e :: L')
theorem T.Sub.mem {x y : T.Blk} {L L' : List T.Blk} (h : T.Sub x y L L') : x ∈ L := by
  induction h with
  | head L => exact List.mem_cons_self
  | tail e _ ih => exact List.mem_cons_of_mem _ ih
theorem T.Sub.of {x y : T.Blk} {L L' : List T.Blk} (h : T.Sub x y L L') (hn : L.Pairwise T.Apart) : ∀ e ∈ L', e = y ∨ (e ∈ L ∧ T.Apart x e) := by
  induction h with
  | head L =>
    intro e he
    rcases List.mem_cons.1 he with rfl | he
    · exact .inl rfl
    · exact .inr ⟨List.mem_cons_of_mem _ he, (List.pairwise_cons.1 hn).1 e he⟩
  | tail z h ih =>
    intro e he
    have hp := List.pairwise_cons.1 hn
    rcases List.mem_cons.1 he with rfl | he
    · exact .inr ⟨List.mem_cons_self, (hp.1 _ h.mem).symm⟩
    · rcases ih hp.2 e he with h1 | ⟨h1, h2⟩
      · exact .inl h1
      · exact .inr ⟨List.mem_cons_of_mem _ h1, h2⟩
theorem T.Sub.pair {x y : T.Blk} {L L' : List T.Blk} (h : T.Sub x y L L') (hn : L.Pairwise T.Apart) (hy : ∀ e ∈ L, T.Apart x e → T.Apart y e) : L'.Pairwise T.Apart := by
  induction h with
  | head L =>
    have hp := List.pairwise_cons.1 hn
    exact List.pairwise_cons.2 ⟨fun e he => hy e (List.mem_cons_of_mem _ he) (hp.1 e he), hp.2⟩
  | tail z h ih =>
    have hp := List.pairwise_cons.1 hn
    refine List.pairwise_cons.2 ⟨fun e he => ?_, ih hp.2 (fun e he => hy e (List.mem_cons_of_mem _ he))⟩
    rcases h.of hp.2 e he with rfl | ⟨h1, _⟩
    · exact (hy z List.mem_cons_self (hp.1 _ h.mem).symm).symm
    · exact hp.1 e h1
theorem T.Mem.turn {w0 w w' : World} {F : Option Nat} {L L' : List T.Blk} {x y : T.Blk} (h : T.Mem w0 F w L) (hs : T.Sub x y L L') (hg : w.grownBy w' x.key) (hr : y.lies w0.heap.size w') (hk : ∀ k, y.key = some k → x.key = some k ∨ w.heap.size ≤ k) : T.Mem w0 F w' L' := by
  have hx := hs.mem
  refine ⟨⟨hg.os.trans h.grown.os, hg.tape.trans h.grown.tape, hg.output.trans h.grown.output, Nat.le_trans h.grown.size hg.size, fun k hk1 hn => ?_⟩, ?_, ?_, ?_⟩
  · rw [hg.block k (Nat.lt_of_lt_of_le hk1 h.grown.size) fun e => ?_]
    · exact h.grown.block k hk1 hn
    · rcases h.own _ hx k e.symm with h1 | h1
      · omega
      · exact hn h1.symm
  · intro e he k hk1
    rcases hs.of h.nd e he with rfl | ⟨h1, _⟩
    · rcases hk k hk1 with h1 | h1
      · exact h.own _ hx k h1
      · exact .inl (Nat.le_trans h.grown.size h1)
    · exact h.own e h1 k hk1
  · intro e he
    rcases hs.of h.nd e he with rfl | ⟨h1, h2⟩
    · exact hr
    · exact T.lies_kept (h.row e h1) hg (fun k hk1 e2 => h2 k e2.symm hk1)
  · refine hs.pair h.nd fun e he hap k hk1 hk2 => ?_
    rcases hk k hk1 with h1 | h1
    · exact hap k h1 hk2
    · have := h.size he hk2
      omega
theorem T.Mem.set {w0 w : World} {F : Option Nat} {L L' : List T.Blk} {b : Nat} {t : TypeId} {cs cs' : List Value} (h : T.Mem w0 F w L) (hs : T.Sub (.b b t cs) (.b b t cs') L L') : T.Mem w0 F (w.setRow b cs'.toArray) L' :=
  h.turn hs ⟨rfl, rfl, rfl, by simp [World.setRow], fun k _ hk => setRow_other w b k _ (fun e => hk (by rw [e]; rfl))⟩ (setRow_heap w b _ _ t _ (h.row _ hs.mem)) (fun k hk => .inl hk)
theorem T.Mem.open {w0 w : World} {F : Option Nat} {L : List T.Blk} {v : Value} {e : TypeId} {sz n : Nat} {xs : List Value} (h : T.Mem w0 F w (.g v e sz n xs :: L)) (hn : 0 < n) :
    ∃ g cap rest, v = .slice (some ⟨g, 0, none⟩) n cap ∧ n ≤ cap ∧ cap ≤ maxLen ∧ xs.length = n * sz ∧ (xs ++ rest).length = cap * sz ∧ (∀ u ∈ xs, u.oneCell' = true) ∧ (w0.heap.size ≤ g ∨ F = some g) ∧ T.Mem w0 F w (.b g e (xs ++ rest) :: L) := by
  obtain ⟨⟨hl, h1⟩, h2⟩ := h.row _ List.mem_cons_self
  rcases h1 with ⟨_, h0⟩ | ⟨g, cap, cur, rfl, hb, hc, hnc, hm, hsz, ht⟩
  · omega
  · have hcur : xs ++ cur.toList.drop (n * sz) = cur.toList := by rw [← ht]; exact List.take_append_drop _ _
    refine ⟨g, cap, cur.toList.drop (n * sz), rfl, hnc, hm, hl, by rw [hcur]; simpa using hsz, h2, h.own _ List.mem_cons_self g rfl, ?_⟩
    refine h.turn (.head _) (World.grownBy.refl _ _) (y := .b g e _) ?_ (fun k hk => .inl hk)
    show w.heap[g]? = _
    rw [hcur]
    simpa using hc
theorem T.Mem.shut {w0 w : World} {F : Option Nat} {L : List T.Blk} {e : TypeId} {sz n g cap : Nat} {xs rest : List Value} (h : T.Mem w0 F w (.b g e (xs ++ rest) :: L)) (hb : w0.heap.size ≤ g) (hn : n ≤ cap) (hm : cap ≤ maxLen) (hl : xs.length = n * sz) (hc : (xs ++ rest).length = cap * sz) (h1 : ∀ u ∈ xs, u.oneCell' = true) :
    T.Mem w0 F w (.g (.slice (some ⟨g, 0, none⟩) n cap) e sz n xs :: L) := by
  have hr := h.row _ List.mem_cons_self
  exact h.turn (.head _) (World.grownBy.refl _ _) (y := .g (.slice (some ⟨g, 0, none⟩) n cap) e sz n xs) ⟨⟨hl, .inr ⟨g, cap, _, rfl, hb, hr, hn, hm, by simpa using hc, by simp [← hl]⟩⟩, h1⟩ (fun k hk => .inl hk)
theorem T.n1 {w0 w : World} {F : Option Nat} {L : List T.Blk} {a : Nat} {t : TypeId} {c : List Value} (_ : T.Mem w0 F w (.b a t c :: L)) : ∃ x, x = a := ⟨_, rfl⟩
theorem T.n2 {w0 w : World} {F : Option Nat} {L : List T.Blk} {x1 : T.Blk} {a : Nat} {t : TypeId} {c : List Value} (_ : T.Mem w0 F w (x1 :: .b a t c :: L)) : ∃ x, x = a := ⟨_, rfl⟩
theorem T.n3 {w0 w : World} {F : Option Nat} {L : List T.Blk} {x1 x2 : T.Blk} {a : Nat} {t : TypeId} {c : List Value} (_ : T.Mem w0 F w (x1 :: x2 :: .b a t c :: L)) : ∃ x, x = a := ⟨_, rfl⟩
theorem T.n4 {w0 w : World} {F : Option Nat} {L : List T.Blk} {x1 x2 x3 : T.Blk} {a : Nat} {t : TypeId} {c : List Value} (_ : T.Mem w0 F w (x1 :: x2 :: x3 :: .b a t c :: L)) : ∃ x, x = a := ⟨_, rfl⟩
theorem T.n5 {w0 w : World} {F : Option Nat} {L : List T.Blk} {x1 x2 x3 x4 : T.Blk} {a : Nat} {t : TypeId} {c : List Value} (_ : T.Mem w0 F w (x1 :: x2 :: x3 :: x4 :: .b a t c :: L)) : ∃ x, x = a := ⟨_, rfl⟩
def T.Sl (w : World) (v : Value) (n : Nat) (cs : List Value) : Prop :=
  ∃ A c, v = .slice A n c ∧ n ≤ c ∧ (∀ u ∈ cs, u.oneCell' = true) ∧ ((A = A ∧ n = 0 ∧ c = 0 ∧ cs = []) ∨ ∃ b o, A = some ⟨b, o, none⟩ ∧ w.rangeAt b o cs)
theorem T.Sl.nil (w : World) : T.Sl w (.slice none 0 0) 0 [] := ⟨none, 0, rfl, Nat.le_refl _, fun _ h => (List.not_mem_nil h).elim, .inl ⟨rfl, rfl, rfl, rfl⟩⟩
theorem T.range_kept {w w' : World} {b o : Nat} {cs : List Value} {r : Option Nat} (h : w.rangeAt b o cs) (hg : w.grownBy w' r) (hne : r ≠ some b) : w'.rangeAt b o cs := fun j v hj =>
  hg.cell (h j v hj) (fun e => hne e.symm)
theorem T.Sl.kept {w w' : World} {v : Value} {n : Nat} {cs : List Value} (h : T.Sl w v n cs) (hb : Below w.heap.size w w') : T.Sl w' v n cs := by
  obtain ⟨A, c, e, hc, h1, h2⟩ := h
  refine ⟨A, c, e, hc, h1, h2.imp id ?_⟩
  rintro ⟨b, o, e, hr⟩
  exact ⟨b, o, e, T.range_kept hr (T.gofb hb none) (by simp)⟩
theorem T.Sl.of_pos {w : World} {ad : Addr} {n c : Nat} {cs : List Value} (h : T.Sl w (.slice (some ad) n c) n cs) (h0 : cs ≠ []) : ∃ b o, ad = ⟨b, o, none⟩ ∧ w.rangeAt b o cs := by
  obtain ⟨A, c', e, _, _, h⟩ := h
  cases e
  rcases h with ⟨_, _, _, e⟩ | ⟨b, o, e, hr⟩
  · exact absurd e h0
  · cases e; exact ⟨b, o, rfl, hr⟩
theorem T.Sl.of_some {w : World} {b0 o0 : Nat} {n c : Nat} {cs : List Value} (h : T.Sl w (.slice (some ⟨b0, o0, none⟩) n c) n cs) : ∃ b o, (⟨b0, o0, none⟩ : Addr) = ⟨b, o, none⟩ ∧ w.rangeAt b o cs := by
  obtain ⟨A, c', e, _, _, h⟩ := h
  cases e
  rcases h with ⟨_, _, _, rfl⟩ | ⟨b, o, e, hr⟩
  · exact ⟨b0, o0, rfl, fun j v hj => by simp at hj⟩
  · cases e; exact ⟨b0, o0, rfl, hr⟩
theorem T.Sl.adr {w : World} {A : Option Addr} {n c : Nat} {cs : List Value} (h : T.Sl w (.slice A n c) n cs) (hn : 0 < n) : ∃ b o, A = some ⟨b, o, none⟩ := by
  obtain ⟨A', c', e, _, _, h⟩ := h
  cases e
  rcases h with ⟨_, h, _⟩ | ⟨b, o, e, _⟩
  · omega
  · exact ⟨b, o, e⟩
theorem T.Sl.odd (w : World) (A : Option Addr) : T.Sl w (.slice A 0 0) 0 [] := ⟨A, 0, rfl, Nat.le_refl _, fun _ h => (List.not_mem_nil h).elim, .inl ⟨rfl, rfl, rfl, rfl⟩⟩
theorem T.range_at {w0 w : World} {F : Option Nat} {L : List T.Blk} {b o n : Nat} {t : TypeId} {cs : List Value} (hM : T.Mem w0 F w L) (hm : .b b t cs ∈ L) : w.rangeAt b o ((cs.drop o).take n) := fun j v hv => by
  have hr : w.heap[b]? = some (.cells cs.toArray t) := hM.row _ hm
  rw [cell_of_row w b (o + j) _ t (0, 0) hr]
  rw [List.getElem?_take] at hv
  split at hv
  · rw [List.getElem?_drop] at hv; simpa using hv
  · cases hv
theorem T.range_all {w0 w : World} {F : Option Nat} {L : List T.Blk} {b : Nat} {t : TypeId} {cs : List Value} (hM : T.Mem w0 F w L) (hm : .b b t cs ∈ L) : w.rangeAt b 0 cs := by
  have := T.range_at (o := 0) (n := cs.length) hM hm
  rwa [List.drop_zero, List.take_length] at this
theorem T.Mem.sl {w0 w : World} {F : Option Nat} {L : List T.Blk} {b o n c : Nat} {t : TypeId} {cs xs : List Value} (hM : T.Mem w0 F w L) (hm : .b b t cs ∈ L) (hx : (cs.drop o).take xs.length = xs) (hc : n ≤ c) (h1 : ∀ u ∈ xs, u.oneCell' = true) : T.Sl w (.slice (some ⟨b, o, none⟩) n c) n xs :=
  ⟨_, c, rfl, hc, h1, .inr ⟨b, o, rfl, by have := T.range_at (o := o) (n := xs.length) hM hm; rwa [hx] at this⟩⟩
theorem T.Mem.gsl {w0 w : World} {F : Option Nat} {L : List T.Blk} {v : Value} {e : TypeId} {sz n : Nat} {xs : List Value} (hM : T.Mem w0 F w L) (hm : .g v e sz n xs ∈ L) : T.Sl w v n xs := by
  obtain ⟨h, h1⟩ := hM.row _ hm
  rcases h.2 with ⟨rfl, rfl⟩ | ⟨g, cap, cur, rfl, hb, hc, hnc, hm, hsz, ht⟩
  · have hx : xs = [] := List.eq_nil_of_length_eq_zero (by simpa using h.1)
    subst hx
    exact T.Sl.nil _
  · refine ⟨_, cap, rfl, hnc, h1, .inr ⟨g, 0, rfl, fun j v hv => ?_⟩⟩
    rw [Nat.zero_add, cell_of_row w g j _ e (0, 0) hc]
    rw [← ht, List.getElem?_take] at hv
    split at hv
    · simpa using hv
    · cases hv
theorem T.Mem.slin {w0 w : World} {L : List T.Blk} {v : Value} {n : Nat} {cs : List Value} (hM : T.Mem w0 none w L) (h : T.Sl w0 v n cs) : T.Sl w v n cs := h.kept hM.below
section
variable {P : Program} {ops : Array Oper} {rest : List Oper} {op : Oper} {a : Act} {w w0 : World} {Q : Exit → Act → World → Prop} {L L' : List T.Blk} {F : Option Nat}
def T.cellsOf : Value → List Value
  | .agg cs => cs.toList
  | v => [v]
def T.zeroOf (P : Program) (ty : TypeId) : Option (List Value) := ((P.info? ty).bind (·.zero)).map fun v => v.cells.toList
theorem T.run_zero (ty : TypeId) (zs : List Value) (hz : T.zeroOf P ty = some zs) (w : World) : ∃ v, v.cells = zs.toArray ∧ (zeroValue ty).run P w = .ok v w := by
  unfold T.zeroOf at hz
  cases hq : P.info? ty with
  | none => rw [hq] at hz; cases hz
  | some i =>
    rw [hq] at hz
    cases hq2 : i.zero with
    | none => rw [Option.bind_some, hq2] at hz; cases hz
    | some v =>
      rw [Option.bind_some, hq2] at hz
      have hz2 : v.cells.toList = zs := Option.some.inj hz
      exact ⟨v, by rw [← hz2], by simp [zeroValue, typeInfo, hq, hq2]⟩
theorem T.run_newVar (ty : TypeId) (v : Value) (w : World) : (newVar ty v).run P w = .ok ⟨w.heap.size, 0, none⟩ (w.alloc (.cells v.cells ty)) := by
  simp [newVar, newRow]
theorem T.run_alloc (ty : TypeId) (zs : List Value) (hz : T.zeroOf P ty = some zs) (w : World) : (Instr.alloc ty true (.tuple #[])).run P w = .ok (.pointer (some ⟨w.heap.size, 0, none⟩)) (w.alloc (.cells zs.toArray ty)) := by
  obtain ⟨v, hv, hr⟩ := T.run_zero (P := P) ty zs hz w
  unfold Instr.alloc
  rw [Sem.run_bind, hr]
  simp only [Result.andThen_ok, Sem.run_bind, T.run_newVar, hv, Sem.run_pure]
theorem T.run_box (ty : TypeId) (v : Value) (w : World) : (Instr.box ty v).run P w = .ok (.pointer (some ⟨w.heap.size, 0, none⟩)) (w.alloc (.cells v.cells ty)) := by
  unfold Instr.box
  simp only [Result.andThen_ok, Sem.run_bind, T.run_newVar, Sem.run_pure]
structure T.OW (P : Program) (op : Oper) (a : Act) (w : World) (K : Act → World → Prop) (Q : Exit → Act → World → Prop) : Prop where
  out : op.wp P a w K Q
theorem T.op_alloc {K : Act → World → Prop} (ty : TypeId) (ho : op.op = .alloc ty) (zs : List Value) (hz : T.zeroOf P ty = some zs) (hM : T.Mem w0 F w L)
    (h : ∀ b w', T.Mem w0 F w' (.b b ty zs :: L) → w0.heap.size ≤ b → K (a.put op.dst (.pointer (some ⟨b, 0, none⟩))) w') : T.OW P op a w K Q := by
  refine ⟨?_⟩
  have hh := (h _ _ (hM.alloc ty zs) hM.grown.size)
  unfold Oper.wp execOp
  simp only [ho, T.run_alloc ty zs hz, Sem.run_bind, Sem.run_pure, Result.andThen_ok]
  exact hh
theorem T.op_box {K : Act → World → Prop} (ty : TypeId) (x : Operand) (ho : op.op = .box ty x) (cs : List Value) (hx : (a.eval x).cells = cs.toArray) (hM : T.Mem w0 F w L)
    (h : ∀ b w', T.Mem w0 F w' (.b b ty cs :: L) → w0.heap.size ≤ b → K (a.put op.dst (.pointer (some ⟨b, 0, none⟩))) w') : T.OW P op a w K Q := by
  refine ⟨?_⟩
  have hh := (h _ _ (hM.alloc ty cs) hM.grown.size)
  unfold Oper.wp execOp
  simp only [ho, T.run_box, hx, Sem.run_bind, Sem.run_pure, Result.andThen_ok]
  exact hh
theorem T.cell_at {b o : Nat} {t : TypeId} {cs : List Value} {v : Value} (hM : T.Mem w0 F w L) (hm : .b b t cs ∈ L) (hv : cs[o]? = some v) : w.cell? ⟨b, o, none⟩ = some v := by
  have hr : w.heap[b]? = some (.cells cs.toArray t) := hM.row _ hm
  rw [cell_of_row w b o _ t (0, 0) hr]
  simpa using hv
theorem T.x_cell {ty : TypeId} {x : Operand} {A : Addr} {v : Value} (ho : op.op = .load ty x) (hx : a.eval x = .pointer (some A)) (hg : ∀ w, (isAgg ty).run P w = .ok false w) (hc : w.cell? A = some v) : (execOp a.eval op).run P w = .ok (.value v) w := by
  unfold execOp
  simp only [ho, hx, Instr.loadAt, Instr.sureAddr, loadVar, hg, Sem.run_bind, Sem.run_pure, Result.andThen_ok]
  simp [hc]
theorem T.x_load {ty : TypeId} {x : Operand} {b o : Nat} {t : TypeId} {cs : List Value} {v : Value} (ho : op.op = .load ty x) (hx : a.eval x = .pointer (some ⟨b, o, none⟩))
    (hm : .b b t cs ∈ L) (hg : ∀ w, (isAgg ty).run P w = .ok false w) (hv : cs[o]? = some v) (hM : T.Mem w0 F w L) : (execOp a.eval op).run P w = .ok (.value v) w :=
  T.x_cell ho hx hg (T.cell_at hM hm hv)
theorem T.x_loadInt {ty : TypeId} {x : Operand} {b o : Nat} {t : TypeId} {k : IntKind} {l : List Int} (ho : op.op = .load ty x) (hx : a.eval x = .pointer (some ⟨b, o, none⟩))
    (hm : .b b t (encs (Value.int k) l) ∈ L) (hg : ∀ w, (isAgg ty).run P w = .ok false w) (hv : o < l.length) (hM : T.Mem w0 F w L) : (execOp a.eval op).run P w = .ok (.value (.int k (T.gi l o))) w :=
  T.x_load ho hx hm hg (encs_get (d := (0 : Int)) l o hv) hM
theorem T.x_range {ty : TypeId} {x : Operand} {b o : Nat} {vs : List Value} {n : Nat} (ho : op.op = .load ty x) (hx : a.eval x = .pointer (some ⟨b, o, none⟩)) (hr : w.rangeAt b o vs) (hu : ∃ d, P.underlying ty = some d ∧ d.isRow = true) (hi : (P.info? ty).map (·.size) = some n) (hlen : vs.length = n) :
    (execOp a.eval op).run P w = .ok (.value (.agg vs.toArray)) w := by
  obtain ⟨d, hu, hd⟩ := hu
  have hrun := run_loadAt_mid (P := P) w b o ty vs d hr hu hd (by rw [hi, hlen])
  unfold execOp
  simp only [ho, hx, hrun, Sem.run_bind, Sem.run_pure, Result.andThen_ok]
theorem T.x_loadAgg {ty : TypeId} {x : Operand} {b o : Nat} {t : TypeId} {cs : List Value} {n : Nat} {vs : List Value} (ho : op.op = .load ty x) (hx : a.eval x = .pointer (some ⟨b, o, none⟩))
    (hm : .b b t cs ∈ L) (hu : ∃ d, P.underlying ty = some d ∧ d.isRow = true) (hi : (P.info? ty).map (·.size) = some n) (hl : o + n ≤ cs.length) (hvs : (cs.drop o).take n = vs) (hM : T.Mem w0 F w L) :
    (execOp a.eval op).run P w = .ok (.value (.agg vs.toArray)) w := by
  have hr := T.range_at (o := o) (n := n) hM hm
  rw [hvs] at hr
  exact T.x_range ho hx hr hu hi (by rw [← hvs, List.length_take, List.length_drop]; omega)
theorem T.x_loadAll {ty : TypeId} {x : Operand} {b : Nat} {t : TypeId} {cs : List Value} {n : Nat} (ho : op.op = .load ty x) (hx : a.eval x = .pointer (some ⟨b, 0, none⟩))
    (hm : .b b t cs ∈ L) (hu : ∃ d, P.underlying ty = some d ∧ d.isRow = true) (hi : (P.info? ty).map (·.size) = some n) (hl : cs.length = n) (hM : T.Mem w0 F w L) :
    (execOp a.eval op).run P w = .ok (.value (.agg cs.toArray)) w :=
  T.x_loadAgg ho hx hm hu hi (by omega) (by rw [List.drop_zero, ← hl, List.take_length]) hM
theorem T.x_rgInt {ty : TypeId} {x : Operand} {b o j : Nat} {k : IntKind} {l : List Int} (ho : op.op = .load ty x) (hx : a.eval x = .pointer (some ⟨b, o + j, none⟩)) (hr : w.rangeAt b o (encs (Value.int k) l))
    (hg : ∀ w, (isAgg ty).run P w = .ok false w) (hv : j < l.length) : (execOp a.eval op).run P w = .ok (.value (.int k (T.gi l j))) w :=
  T.x_cell ho hx hg (hr j _ (encs_get (d := (0 : Int)) l j hv))
theorem T.size_run {el : TypeId} {size : Nat} (hi : (P.info? el).map (·.size) = some size) (w : World) : (sizeOf el).run P w = .ok size w := by
  cases hq : P.info? el with
  | none => simp [hq] at hi
  | some i =>
    have : i.size = size := by simpa [hq] using hi
    simp [sizeOf, typeInfo, hq, this]
theorem T.x_index {ty : TypeId} {x y : Operand} {k kk : IntKind} {l : List Int} {j : Int} {n : Nat} {el : TypeId} (ho : op.op = .index ty x y) (hx : a.eval x = .agg (encs (Value.int k) l).toArray) (hy : a.eval y = .int kk j)
    (hu : P.underlying ty = some (.array n el)) (hg : ∀ w, (isAgg el).run P w = .ok false w) (hi : (P.info? el).map (·.size) = some 1) (h0 : 0 ≤ j) (hn : j < n) (hl : l.length = n) : (execOp a.eval op).run P w = .ok (.value (.int k (T.gi l j.toNat))) w := by
  have hs := T.size_run (P := P) hi w
  have hget : (encs (Value.int k) l)[j.toNat]? = some (.int k (T.gi l j.toNat)) := encs_get (d := (0 : Int)) l j.toNat (by omega)
  have hi : (Instr.index ty (a.eval x) (a.eval y)).run P w = .ok (.int k (T.gi l j.toNat)) w := by
    rw [hx, hy]
    simp only [Instr.index, asIntOf, Sem.run_bind, Sem.run_pure, Result.andThen_ok, run_underlying hu w]
    rw [if_pos ⟨h0, hn⟩]
    simp only [Sem.run_bind, hs, Result.andThen_ok, Nat.mul_one, part, hg]
    simp [hget]
  unfold execOp
  simp only [ho, hi, Sem.run_bind, Sem.run_pure, Result.andThen_ok]
theorem T.ofx {K : Act → World → Prop} {v : Value} (h : (execOp a.eval op).run P w = .ok (.value v) w) (hK : K (a.put op.dst v) w) : T.OW P op a w K Q := by
  refine ⟨?_⟩
  unfold Oper.wp
  rw [h]
  exact hK
theorem T.w_o (hgd : op.guard = none) (h : T.OW P op a w (wpList P ops Q rest) Q) : wpList P ops Q (op :: rest) a w :=
  wpList_plain hgd fun _ hh => Oper.wp_mono hh h.out
theorem T.op_store {K : Act → World → Prop} (ty : TypeId) (x y : Operand) (ho : op.op = .store ty x y) (b o : Nat) (hx : a.eval x = .pointer (some ⟨b, o, none⟩)) (vs : List Value) (hy : (a.eval y).cells = vs.toArray)
    (t : TypeId) (cs cs' : List Value) (hM : T.Mem w0 F w L) (hs : T.Sub (.b b t cs) (.b b t cs') L L') (n : Nat) (hi : (P.info? ty).map (·.size) = some n) (hn : vs.length = n) (h1 : ∀ v ∈ vs, v.oneCell' = true) (hl : o + n ≤ cs.length)
    (hcs : cs.take o ++ vs ++ cs.drop (o + n) = cs')
    (h : ∀ w', T.Mem w0 F w' L' → K (a.put op.dst undef) w') : T.OW P op a w K Q := by
  refine ⟨?_⟩
  subst hn
  have hh := (h _ (hM.set hs))
  have hst := run_storeCells_at (P := P) b o t vs 0 cs.toArray w (hM.row _ hs.mem) (by simpa using hl) h1
  simp only [Nat.add_zero] at hst
  have hcs' : (cs.toArray.toList.take o ++ vs ++ cs.toArray.toList.drop (o + vs.length)) = cs' := hcs
  rw [hcs'] at hst
  have hsv : (storeVar ty ⟨b, o, none⟩ (a.eval y)).run P w = .ok () (w.setRow b cs'.toArray) := by
    cases hq : P.info? ty with
    | none => simp [hq] at hi
    | some i =>
      have hsz : i.size = vs.length := by simpa [hq] using hi
      simp [storeVar, sizeOf, typeInfo, hq, hy, hsz, hst]
  unfold Oper.wp execOp
  simp only [ho, hx, Instr.storeAt, Instr.sureAddr, hsv, Sem.run_bind, Sem.run_pure, Result.andThen_ok]
  exact hh
theorem T.op_storeInt {K : Act → World → Prop} (ty : TypeId) (x y : Operand) (ho : op.op = .store ty x y) (b o : Nat) (hx : a.eval x = .pointer (some ⟨b, o, none⟩)) (k : IntKind) (v : Int) (hy : a.eval y = .int k v)
    (t : TypeId) (l : List Int) (hM : T.Mem w0 F w L) (hs : T.Sub (.b b t (encs (Value.int k) l)) (.b b t (encs (Value.int k) (l.set o v))) L L') (hi : (P.info? ty).map (·.size) = some 1) (hv : o < l.length)
    (h : ∀ w', T.Mem w0 F w' L' → K (a.put op.dst undef) w') : T.OW P op a w K Q :=
  T.op_store ty x y ho b o hx [.int k v] (by rw [hy]; rfl) t _ _ hM hs 1 hi rfl (fun u hu => by rw [List.mem_singleton.1 hu]; rfl) (by rw [encs_length]; omega) (by
    unfold encs
    rw [← List.map_take, ← List.map_drop, List.set_eq_take_append_cons_drop, if_pos hv]
    simp) h
theorem T.op_storeIntR {K : Act → World → Prop} (ty : TypeId) (x y : Operand) (ho : op.op = .store ty x y) (b o : Nat) (hx : a.eval x = .pointer (some ⟨b, o, none⟩)) (k : IntKind) (v : Int) (hy : a.eval y = .int k v)
    (t : TypeId) (l : List Int) (rest : List Value) (hM : T.Mem w0 F w L) (hs : T.Sub (.b b t (encs (Value.int k) l ++ rest)) (.b b t (encs (Value.int k) (l.set o v) ++ rest)) L L') (hi : (P.info? ty).map (·.size) = some 1) (hv : o < l.length)
    (h : ∀ w', T.Mem w0 F w' L' → K (a.put op.dst undef) w') : T.OW P op a w K Q :=
  T.op_store ty x y ho b o hx [.int k v] (by rw [hy]; rfl) t _ _ hM hs 1 hi rfl (fun u hu => by rw [List.mem_singleton.1 hu]; rfl) (by rw [List.length_append, encs_length]; omega) (by
    have h1 : o ≤ (encs (Value.int k) l).length := by rw [encs_length]; omega
    have h2 : o + 1 ≤ (encs (Value.int k) l).length := by rw [encs_length]; omega
    rw [List.take_append_of_le_length h1, List.drop_append_of_le_length h2]
    unfold encs
    rw [← List.map_take, ← List.map_drop, List.set_eq_take_append_cons_drop, if_pos hv]
    simp) h
theorem T.op_storeAll {K : Act → World → Prop} (ty : TypeId) (x y : Operand) (ho : op.op = .store ty x y) (b : Nat) (hx : a.eval x = .pointer (some ⟨b, 0, none⟩)) (vs : List Value) (hy : (a.eval y).cells = vs.toArray)
    (t : TypeId) (cs : List Value) (hM : T.Mem w0 F w L) (hs : T.Sub (.b b t cs) (.b b t vs) L L') (n : Nat) (hi : (P.info? ty).map (·.size) = some n) (hn : vs.length = n) (h1 : ∀ v ∈ vs, v.oneCell' = true) (hl : cs.length = n)
    (h : ∀ w', T.Mem w0 F w' L' → K (a.put op.dst undef) w') : T.OW P op a w K Q :=
  T.op_store ty x y ho b 0 hx vs hy t cs vs hM hs n hi hn h1 (by omega) (by rw [List.take_zero, List.nil_append, Nat.zero_add, ← hl, List.drop_length, List.append_nil]) h
theorem T.x_buildArr {ty : TypeId} {parts : Array (Nat × Operand)} (ho : op.op = .build ty parts) {ln : Nat} {el : TypeId} (hu : P.underlying ty = some (.array ln el)) {size : Nat} (hi : (P.info? el).map (·.size) = some size)
    {zs : List Value} (hz : T.zeroOf P ty = some zs) {cs : List Value}
    (hf : Instr.fill (fun i => some (i * size, size)) zs.toArray (parts.map fun (i, x) => (i, a.eval x)).toList = some cs.toArray) : (execOp a.eval op).run P w = .ok (.value (.agg cs.toArray)) w := by
  obtain ⟨v, hv, hr⟩ := T.run_zero (P := P) ty zs hz w
  have hsz := T.size_run hi w
  have hrun : (Instr.build ty (parts.map fun (i, x) => (i, a.eval x))).run P w = .ok (.agg cs.toArray) w := by
    unfold Instr.build
    simp only [Sem.run_bind, hr, Result.andThen_ok, run_underlying hu w, hsz, hv, hf, Sem.run_pure]
  unfold execOp
  simp only [ho, hrun, Sem.run_bind, Sem.run_pure, Result.andThen_ok]
theorem T.ret_cell {fn : Func} {R : Ending → World → Prop} {k : Tmp} {ty : TypeId} (hf : fn.results = #[.cell k ty]) (hd : a.defers = []) (b : Nat) (hx : a.tmps.getD k undef = .pointer (some ⟨b, 0, none⟩))
    (t : TypeId) (cs : List Value) (hM : T.Mem w0 F w L) (hm : .b b t cs ∈ L) (hu : ∃ d, P.underlying ty = some d ∧ d.isRow = true) (n : Nat) (hi : (P.info? ty).map (·.size) = some n) (hn : cs.length = n) (hR : R (.returned (.agg cs.toArray)) w) : bodyPost P fn R .ret a w := by
  subst hn
  obtain ⟨d, hu, hdr⟩ := hu
  refine bodyPost_ret ?_ hd hR
  have hr : w.rangeAt b 0 cs := fun j v hv => T.cell_at hM hm (by simpa using hv)
  have := run_loadVar_mid (P := P) w b 0 ty cs d hr hu hdr hi
  rw [Array.getD_eq_getD_getElem?] at hx
  unfold results
  rw [hf]
  simp [hx, asAddr, this]
end
section
variable {P : Program} {a : Act} {w w0 : World} {L : List T.Blk} {F : Option Nat}
theorem T.run_cell {b : Nat} {t ty : TypeId} {cs : List Value} (hM : T.Mem w0 F w L) (hm : .b b t cs ∈ L) (hu : ∃ d, P.underlying ty = some d ∧ d.isRow = true) {n : Nat} (hi : (P.info? ty).map (·.size) = some n) (hn : cs.length = n) : (loadVar ty ⟨b, 0, none⟩).run P w = .ok (.agg cs.toArray) w := by
  subst hn
  obtain ⟨d, hu, hdr⟩ := hu
  exact run_loadVar_mid (P := P) w b 0 ty cs d (fun j v hv => T.cell_at hM hm (by simpa using hv)) hu hdr hi
theorem T.ret_ct {fn : Func} {R : Ending → World → Prop} {k m : Tmp} {ty : TypeId} (hf : fn.results = #[.cell k ty, .tmp m]) (hd : a.defers = []) (b : Nat) (hx : a.tmps.getD k undef = .pointer (some ⟨b, 0, none⟩)) (v : Value) (hv : a.tmps.getD m undef = v)
    (t : TypeId) (cs : List Value) (hM : T.Mem w0 F w L) (hm : .b b t cs ∈ L) (hu : ∃ d, P.underlying ty = some d ∧ d.isRow = true) (n : Nat) (hi : (P.info? ty).map (·.size) = some n) (hn : cs.length = n) (hR : R (.returned (.tuple #[.agg cs.toArray, v])) w) : bodyPost P fn R .ret a w := by
  refine bodyPost_ret ?_ hd hR
  have := T.run_cell (P := P) hM hm hu hi hn
  rw [Array.getD_eq_getD_getElem?] at hx hv
  unfold results
  rw [hf]
  simp [hx, hv, asAddr, this]
theorem T.ret_cct {fn : Func} {R : Ending → World → Prop} {k k2 m : Tmp} {ty ty2 : TypeId} (hf : fn.results = #[.cell k ty, .cell k2 ty2, .tmp m]) (hd : a.defers = []) (b : Nat) (hx : a.tmps.getD k undef = .pointer (some ⟨b, 0, none⟩)) (b2 : Nat) (hx2 : a.tmps.getD k2 undef = .pointer (some ⟨b2, 0, none⟩)) (v : Value) (hv : a.tmps.getD m undef = v)
    (t t2 : TypeId) (cs cs2 : List Value) (hM : T.Mem w0 F w L) (hm : .b b t cs ∈ L) (hm2 : .b b2 t2 cs2 ∈ L) (hu : ∃ d, P.underlying ty = some d ∧ d.isRow = true) (hu2 : ∃ d, P.underlying ty2 = some d ∧ d.isRow = true) (n n2 : Nat) (hi : (P.info? ty).map (·.size) = some n) (hi2 : (P.info? ty2).map (·.size) = some n2) (hn : cs.length = n) (hn2 : cs2.length = n2)
    (hR : R (.returned (.tuple #[.agg cs.toArray, .agg cs2.toArray, v])) w) : bodyPost P fn R .ret a w := by
  refine bodyPost_ret ?_ hd hR
  have h1 := T.run_cell (P := P) hM hm hu hi hn
  have h2 := T.run_cell (P := P) hM hm2 hu2 hi2 hn2
  rw [Array.getD_eq_getD_getElem?] at hx hv hx2
  unfold results
  rw [hf]
  simp [hx, hx2, hv, asAddr, h1, h2]
end
theorem T.one_ones {v : Value} (h : v.oneCell' = true) : ∀ u ∈ [v], u.oneCell' = true := fun u hu => by rw [List.mem_singleton.1 hu]; exact h
theorem T.ones_all {cs : List Value} (h : cs.all (·.oneCell') = true) : ∀ v ∈ cs, v.oneCell' = true := List.all_eq_true.1 h
theorem T.ones_encs (k : IntKind) (l : List Int) : ∀ v ∈ encs (Value.int k) l, v.oneCell' = true := fun v hv => by
  obtain ⟨x, _, rfl⟩ := List.mem_map.1 hv
  rfl
theorem T.ones_app {a b : List Value} (ha : ∀ v ∈ a, v.oneCell' = true) (hb : ∀ v ∈ b, v.oneCell' = true) : ∀ v ∈ a ++ b, v.oneCell' = true := fun v hv => (List.mem_append.1 hv).elim (ha v) (hb v)
theorem T.ones_cons {u : Value} {b : List Value} (ha : u.oneCell' = true) (hb : ∀ v ∈ b, v.oneCell' = true) : ∀ v ∈ u :: b, v.oneCell' = true := fun v hv => (List.mem_cons.1 hv).elim (fun e => e ▸ ha) (hb v)
theorem T.w64 {x : Int} (h0 : -9223372036854775808 ≤ x) (h1 : x ≤ 9223372036854775807) : IntKind.i64.wrap x = x := by rw [IntKind.wrap_i64]; omega
end
end Go.Proofs.YtdklknfgcepcbaaGreat.X
