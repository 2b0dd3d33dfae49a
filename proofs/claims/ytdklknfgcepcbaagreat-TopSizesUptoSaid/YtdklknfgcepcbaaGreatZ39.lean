/- Texts of this proof, laid together by wip/tools/pack.py: TO3, TO4. -/
import Derived.Test.YtdklknfgcepcbaaGreatZ38
namespace Go.Proofs.YtdklknfgcepcbaaGreat.X
open Go.RowKit Go.Proofs.YtdklknfgcepcbaaGreatW.PrintWords Go.Proofs.YtdklknfgcepcbaaGreatW.PrintLast Go.Proofs.YtdklknfgcepcbaaGreatW.PrintMore
set_option linter.unusedSimpArgs false
set_option linter.unusedVariables false
set_option maxHeartbeats 2000000
set_option maxRecDepth 20000
def E.SeqE {α : Type} (P : Program) (g : Nat) (lb : Array Value) (encs : α → Array Value) (N : Nat) (El : Nat → Nat → α → World → Prop) (R : World → Prop) : Prop :=
  ∀ (l : Nat) (J : Nat → World → Prop) (W : World),
    (∀ k A B, J k A → Below A.heap.size A B → J k B) → (∀ k A, J k A → R A ∧ W.heap.size ≤ A.heap.size) →
    (∀ k x A0 A, k < N → J k A0 → Below A0.heap.size A0 A → El A0.heap.size k x A → YieldAt Fence.wide 0 P l (encs x) A fun e A' => e = .returned (.bool true) ∧ J (k + 1) A') →
    J 0 W →
    CallsIn Fence.wide 0 P g (#[.func (.yield l) #[] #[]] ++ lb) W fun e W' => (∃ v, e = .returned v) ∧ J N W'
def E.roundPost4 (n : Nat) (W : World) (J : World → Prop) : Exit → Act → World → Prop
  | .normal, _, W' => W'.heap[n]? = W.heap[n]? ∧ W'.heap[n + 1]? = W.heap[n + 1]? ∧ J W'
  | .ret, _, _ => False
  | .exit _, _, _ => False
  | .goto _, _, _ => False
  | .panic _, _, _ => False
  | .outgrown, _, _ => False
theorem E.rangeLaw4 {α : Type} {P : Program} {g : Operand} {ps : Array Tmp} {assign body : Code} {Q : Exit → Act → World → Prop} {a : Act} {w : World} {gf : Nat} {lb : Array Value} (hg : a.eval g = .func (.func gf) #[] lb)
    (eg : ∀ args w, (callFunc gf args).run P w = .ok (.enter gf args) w) {encs : α → Array Value} {N : Nat} {El : Nat → Nat → α → World → Prop} {R : World → Prop} (hseq : E.SeqE P gf lb encs N El R)
    (hps : ∀ x, (encs x).size = ps.size)
    (I : Nat → World → Prop) (hI : ∀ k A B, I k A → Below A.heap.size A B → I k B) (hP : ∀ k A o, I k A → I k (A.putObj (w.heap.size + 1) o)) (Iy : Nat → α → World → Prop) (hIy : ∀ k x A0 A, k < N → w.heap.size + 2 ≤ A0.heap.size → I k A0 → Below A0.heap.size A0 A → El A0.heap.size k x A → Iy k x A) (hPy : ∀ k x A o, Iy k x A → Iy k x (A.putObj (w.heap.size + 1) o)) (hR : ∀ k A, I k A → R A) (h0 : ∀ o, I 0 ((w.alloc (.deferred (some []))).alloc o)) (a₁ : α → Act)
    (hassign : ∀ (l k : Nat) (x : α) (W : World) (K : Act → World → Prop), Iy k x W → K (a₁ x) W →
      assign.wpIn (Fence.wide.inRound l) 0 P (Exit.then K (fun _ _ _ => False)) { tmps := (ps.zip (encs x)).foldl (fun t (p, v) => t.setIfInBounds p v) a.tmps, defers := [] } W)
    (hbody : ∀ (l k : Nat) (x : α) (W : World), k < N → w.heap.size + 2 ≤ W.heap.size → Iy k x W → body.wpIn (Fence.wide.inRound l) 0 P (E.roundPost4 w.heap.size W (I (k + 1))) (a₁ x) W)
    (hdone : ∀ (W : World), w.heap.size + 2 ≤ W.heap.size → I N W → W.heap[w.heap.size]? = some (.deferred (some [])) → Q .normal { a with defers := { target := .collected w.heap.size, args := #[] } :: a.defers } W) :
    (Code.rangeFunc g ps assign body).wpIn Fence.wide 0 P Q a w := by
  refine wpIn_rangeFunc ?_
  intro fn hfn
  rw [show Fence.wide.round = none from rfl]
  obtain ⟨rec, hrec⟩ : ∃ rec : LoopState → Option Code → Loop, rec = fun st pe => { state := st, pending := pe, fn, tmps := a.tmps, params := ps, assign, body, defers := w.heap.size } := ⟨_, rfl⟩
  obtain ⟨W1, hW1⟩ : ∃ W1, (w.alloc (.deferred (some []))).alloc (.loop (rec .ready none)) = W1 := ⟨_, rfl⟩
  have hL1 : W1.heap[w.heap.size + 1]? = some (.loop (rec .ready none)) := by
    rw [← hW1]; have := World.alloc_heap_new (w.alloc (.deferred (some []))) (.loop (rec .ready none)); rwa [World.size_alloc] at this
  have hK1 : W1.heap[w.heap.size]? = some (.deferred (some [])) := by
    rw [← hW1]; exact (Below.heap_alloc _ _ _ (by simp)).trans (World.alloc_heap_new w _)
  have hs1 : W1.heap.size = w.heap.size + 2 := by rw [← hW1]; simp
  have hI1 : I 0 W1 := by rw [← hW1]; exact h0 _
  refine ⟨w.heap.size + 1, [{ target := .collected w.heap.size, args := #[] }], W1, { target := .fn (.func gf) lb, args := #[.func (.yield (w.heap.size + 1)) #[] #[]] }, W1, gf,
    #[.func (.yield (w.heap.size + 1)) #[] #[]] ++ lb, W1, ?_, ?_, ?_, ?_, (fun h => by cases h), ?_⟩
  · rw [← hW1, hrec]; exact run_enterLoop_outer _ _ _ _ _
  · simp only [resolve, hg]
    simp [go_sem]
  · intro f' hf'; exact trivial
  · simp [invoke, go_sem, eg]
  · refine (hseq (w.heap.size + 1)
      (fun k W => I k W ∧ W.heap[w.heap.size + 1]? = some (.loop (rec .ready none)) ∧ W.heap[w.heap.size]? = some (.deferred (some [])))
      W1 ?_ ?_ ?_ ⟨hI1, hL1, hK1⟩).mono ?_
    · rintro k A B ⟨h1, h2, h3⟩ hb
      exact ⟨hI _ _ _ h1 hb, (hb.block _ (Array.getElem?_eq_some_iff.1 h2).1).trans h2, (hb.block _ (Array.getElem?_eq_some_iff.1 h3).1).trans h3⟩
    · rintro k A ⟨h1, h2, h3⟩
      have := (Array.getElem?_eq_some_iff.1 h2).1
      exact ⟨hR _ _ h1, by omega⟩
    · 
      rintro k x W0 W hx ⟨hi0, hl0, hk0⟩ hbb hel
      have hlt0 : w.heap.size + 1 < W0.heap.size := (Array.getElem?_eq_some_iff.1 hl0).1
      have hi := hIy k x W0 W hx (by omega) hi0 hbb hel
      have hl := (hbb.block _ hlt0).trans hl0
      have hk := (hbb.block _ (by omega)).trans hk0
      have hlt : w.heap.size + 1 < W.heap.size := (Array.getElem?_eq_some_iff.1 hl).1
      have hy := run_yield (P := P) (args := encs x) hl (by rw [hrec]; exact hps x)
      rw [hrec] at hy
      refine ⟨fn, _, assign, body, hy, roundIn_of_wpIn hfn (hassign _ k x W _ hi ⟨_, run_beginRound hl (by rw [hrec]), ?_⟩)⟩
      have hl2 : (W.putObj (w.heap.size + 1) (.loop { rec .ready none with state := .busy })).heap[w.heap.size + 1]? = some (.loop { rec .ready none with state := .busy }) := World.putObj_heap_same hlt
      have hk2 : (W.putObj (w.heap.size + 1) (.loop { rec .ready none with state := .busy })).heap[w.heap.size]? = some (.deferred (some [])) := (World.putObj_heap_other (by omega)).trans hk
      refine wpIn_mono (hbody _ k x _ hx (by simp; omega) (hPy _ _ _ _ hi)) ?_
      rintro e a3 W3 hp
      cases e with
      | normal =>
        obtain ⟨hd3, hl3, hi3⟩ := hp
        have hl4 := hl3.trans hl2
        have := run_endRound (P := P) none hl4
        rw [hrec] at this ⊢
        exact ⟨_, _, this, rfl, hP _ _ _ hi3, World.putObj_heap_same (Array.getElem?_eq_some_iff.1 hl4).1, (World.putObj_heap_other (by omega)).trans (hd3.trans hk2)⟩
      | ret => exact hp.elim
      | exit id => exact hp.elim
      | goto t => exact hp.elim
      | panic ch => exact hp.elim
      | outgrown => exact hp.elim
    · 
      rintro e W2 ⟨⟨v, rfl⟩, hi, hl, hk⟩
      have := (Array.getElem?_eq_some_iff.1 hl).1
      exact ⟨none, _, by have := run_endLoop (P := P) hl (by rw [hrec]; simp); rw [hrec] at this; exact this, hdone _ (by simp; omega) (hP _ _ _ hi) ((World.putObj_heap_other (by omega)).trans hk)⟩
section
attribute [local go_sem] Oper.semAt_some
def T.pos (l : List (List Int)) (k : Nat) : Nat := 1 + ((l.take k).flatMap T.blob).length
theorem T.pos_step (l : List (List Int)) (k : Nat) (h : k < l.length) : T.pos l (k + 1) = T.pos l k + 2 + (l.getD k []).length := by
  rw [T.pos, T.pos, List.take_succ_eq_append_getElem h, List.flatMap_append, List.length_append, List.getD_eq_getElem?_getD, List.getElem?_eq_getElem h]
  simp only [List.flatMap_cons, List.flatMap_nil, List.append_nil, Option.getD_some, T.blob_len]
  omega
theorem T.pos_end (l : List (List Int)) : T.pos l l.length = (T.rowsB l).length := by
  rw [T.pos, List.take_length, T.rowsB, List.length_cons]
  omega
theorem T.pos_le (l : List (List Int)) (k : Nat) : T.pos l k ≤ (T.rowsB l).length := by
  have h : (l.take k).flatMap T.blob ++ (l.drop k).flatMap T.blob = l.flatMap T.blob := by rw [← List.flatMap_append, List.take_append_drop]
  have h2 := congrArg List.length h
  rw [List.length_append] at h2
  rw [T.pos, T.rowsB, List.length_cons]
  omega
theorem T.rows_drop (l : List (List Int)) (k : Nat) (h : k < l.length) : (T.rowsB l).drop (T.pos l k) = T.blob (l.getD k []) ++ (l.drop (k + 1)).flatMap T.blob := by
  rw [T.rowsB, T.pos, Nat.add_comm, List.drop_succ_cons]
  have h1 : l.flatMap T.blob = (l.take k).flatMap T.blob ++ (l.drop k).flatMap T.blob := by rw [← List.flatMap_append, List.take_append_drop]
  rw [h1, List.drop_left' rfl, List.drop_eq_getElem_cons h, List.flatMap_cons, List.getD_eq_getElem?_getD, List.getElem?_eq_getElem h]
  rfl
def T.encK (x : Int × Value) : Array Value := #[.int .i64 x.1, x.2]
def T.ElK (l : List (List Int)) (B k : Nat) (x : Int × Value) (w : World) : Prop := x.1 = (T.pos l (k + 1) : Nat) ∧ w.ownsRow B 5 1 x.2 (l.getD k []).length (T.u8s (l.getD k []))
def T.CuR (b o n c Bb : Nat) (l : List (List Int)) (A : World) : Prop := A.cell? ⟨Bb, 0, none⟩ = some (.slice (some ⟨b, o, none⟩) n c) ∧ T.Sl A (.slice (some ⟨b, o, none⟩) n c) n (T.u8s (T.rowsB l))
def T.cutR (l : List (List Int)) : Prop := ∀ x ∈ l, 1 ≤ x.length ∧ T.gets (T.put x.length 2) 2 = x.length
theorem T.cuts_seq (b o n c Bb : Nat) (l : List (List Int)) (hl : T.cutR l) (hn : (T.rowsB l).length = n) (hb : n ≤ 100000000) :
    E.SeqE Tryz.prog 160 #[.pointer (some ⟨Bb, 0, none⟩)] T.encK l.length (T.ElK l) (T.CuR b o n c Bb l) := by
  intro ll J W hJ hR hY h0
  have HR := Aside0.mk hR
  have HY := Aside0.mk hY
  have H0 := Aside0.mk h0
  have HJ0 := Aside0.mk hJ
  have HL := Aside0.mk hl
  have HN := Aside0.mk hn
  clear hR hY h0 hJ hl hn
  refine callsIn_of_wp Tryz.func160 rfl trivial ?_ rfl
  simp only [Tryz.ntmps160, List.size_toArray, List.length_cons, List.length_nil, Nat.reduceAdd, Nat.reduceSub, Array.replicate_succ, Array.replicate_zero, List.push_toArray, List.append_toArray, List.nil_append, List.cons_append]
  gi_wp2
  gi_loopw [3] (fun i wr => ∃ (k p : Nat), i = .int .i64 (p : Int) ∧ Aside0 (p = T.pos l k) ∧ k ≤ l.length ∧ p ≤ n ∧ Aside0 (J k wr))
    (fun i _ => (n + 1 - (intOf i)).toNat)
  case atStart => exact ⟨0, 1, rfl, ⟨by simp [T.pos]⟩, by omega, by have := HN.out; rw [T.rowsB, List.length_cons] at this; omega, H0⟩
  case round =>
    obtain ⟨k, p, rfl, HPP, hk, hpn, HJ⟩ := hrel
    clear H0
    obtain ⟨hc1, hs1⟩ := (HR.out k wr HJ.out).1
    have hWr := (HR.out k wr HJ.out).2
    have HS1 := Aside0.mk hs1
    clear hs1
    by_cases hlt : k < l.length
    · have HST := Aside0.mk (T.pos_step l k hlt)
      have HLE := Aside0.mk (T.pos_le l (k + 1))
      have hxm : l.getD k [] ∈ l := by rw [List.getD_eq_getElem?_getD, List.getElem?_eq_getElem hlt]; exact List.getElem_mem hlt
      obtain ⟨hx1, hxg⟩ := HL.out _ hxm
      have HRD := Aside0.mk (T.rows_drop l k hlt)
      have HEL := Aside0.mk (fun (B : Nat) (y : Int × Value) (X : World) (h1 : y.1 = (T.pos l (k + 1) : Nat)) (h2 : X.ownsRow B 5 1 y.2 (l.getD k []).length (T.u8s (l.getD k []))) => (show T.ElK l B k y X from ⟨h1, h2⟩))
      generalize l.getD k [] = x at *
      have HC := Aside0.mk (T.cut_yes b o n c (T.rowsB l) x ((l.drop (k + 1)).flatMap T.blob) p (by have := HST.out; have := HLE.out; have := HN.out; have := HPP.out; omega) hx1 hb HN.out (by rw [HPP.out]; exact HRD.out) hxg wr HS1.out)
      clear hxm hx1 hxg
      gi_wp2_with fail
      refine ⟨trivial, rfl, CallsIn.mono (callsIn_wide.2 HC.out) ?_⟩
      clear HC
      rintro e A' ⟨v, rfl, ho, h1, hbc⟩
      obtain ⟨Ag, cg, rfl⟩ := T.own_slice ho
      have HJ2 := Aside0.mk (HJ0.out _ _ _ HJ.out hbc)
      have HQ := Aside0.mk (show p + 2 + x.length = T.pos l (k + 1) by rw [HPP.out, HST.out])
      have HE : T.ElK l wr.heap.size k (((p + 2 + x.length : Nat) : Int), .slice Ag x.length cg) A' := HEL.out _ _ _ (by rw [HQ.out]) ho
      obtain ⟨fn, tmps, assign, body, hy, hRd⟩ := HY.out k _ wr A' hlt HJ.out hbc HE
      have HHE := Aside0.mk HE
      clear HE ho h1 hbc
      unfold T.encK at hy
      generalize p + 2 + x.length = p2 at *
      gi_wp2
      refine ⟨rfl, hRd.mono ?_⟩
      rintro e W3 ⟨rfl, hJ3⟩
      gi_wp2
      go_roundw
      case rel => exact ⟨k + 1, p2, rfl, HQ, by omega, by have := HLE.out; have := HQ.out; have := HN.out; omega, ⟨hJ3⟩⟩
      case measure => have := HQ.out; have := HST.out; have := HPP.out; have := HLE.out; have := HN.out; simp only [intOf]; omega
    · obtain rfl : k = l.length := by omega
      obtain rfl : p = n := by have := HPP.out; rw [T.pos_end, HN.out] at this; exact this
      gi_wp2_with fail
      refine ⟨trivial, rfl, CallsIn.mono (callsIn_wide.2 (T.cut_no _ p c (by omega) wr)) ?_⟩
      rintro e A' ⟨rfl, hbc⟩
      have HJ2 := Aside0.mk (HJ0.out _ _ _ HJ.out hbc)
      clear hbc
      gi_wp2
      refine ⟨(fun _ h => by cases h), ?_⟩
      gi_wp2
      refine bodyPost_ret (results_none rfl _ _ _) rfl ?_
      exact ⟨⟨_, rfl⟩, HJ2.out⟩
theorem T.cuts_calls {w0 w : World} {F : Option Nat} {L : List T.Blk} (hM : T.Mem w0 F w L) (A : Option Addr) (n c : Nat) : Calls Tryz.prog 126 #[.slice A n c] w fun e w' => ∃ b1, e = .returned (.func (.func 160) #[] #[.pointer (some ⟨b1, 0, none⟩)]) ∧ T.Mem w0 F w' (.b b1 37 [.slice A n c] :: L) := by
  generalize hP : (fun (e : Ending) w' => ∃ b1, e = .returned (.func (.func 160) #[] #[.pointer (some ⟨b1, 0, none⟩)]) ∧ T.Mem w0 F w' (.b b1 37 [.slice A n c] :: L)) = Post
  go_enter Tryz.func126, Tryz.ntmps126
  repeat' (first | ((((((with_reducible show wpList _ _ _ _ _ _); (refine T.w_o rfl ?_)))); (((with_reducible show T.OW _ ⟨_, .box _ _, _, _, _, _⟩ _ _ _ _); refine T.op_box _ _ rfl _ rfl hM ?_; clear hM; intro blk wld hM hlt; (try simp only [Act.eval, Array.getD_eq_getD_getElem?, List.getElem?_toArray, List.getElem?_cons_zero, List.getElem?_cons_succ, Option.getD_some] at hM)))); (try simp only [Act.put, List.setIfInBounds_toArray, List.set_cons_zero, List.set_cons_succ])) | (go_step) | go_back)
  subst hP
  exact ⟨_, rfl, hM⟩
def T.WSplit (l : List (List Int)) (w : World) (e : Ending) (w' : World) : Prop :=
  ∃ (v : Value) (rws : List (Value × List Int)), e = .returned (.tuple #[v, .bool true]) ∧ rws.map (·.2) = l ∧ T.Mem w none w' (.g v 37 1 l.length (rws.map (·.1)) :: rws.map T.rwItem)
def T.spL (N : Nat) (ob : Obj) (b1 b4 b5 bx : Nat) (sl v4 : Value) (p k : Nat) (rws : List (Value × List Int)) : List T.Blk :=
  .g v4 37 1 k (rws.map (·.1)) :: .o (N + 1) ob :: .o N (.deferred (some [])) :: .b bx 37 [sl] :: .b b5 3 [.int .i64 p] :: .b b4 111 [v4] :: .b b1 37 [sl] :: rws.map T.rwItem
theorem T.perm_end {α : Type} (x : α) (a b : List α) : (x :: (a ++ b)).Perm (a ++ (b ++ [x])) := by
  rw [← List.append_assoc]
  exact (List.perm_append_singleton _ _).symm
theorem T.Mem.markK {w0 w : World} {F : Option Nat} {L : List T.Blk} (h : T.Mem w0 F w L) {n : Nat} {x : Obj} (hx : w.heap[n]? = some x) (h0 : w0.heap.size ≤ n) (hk : ∀ e ∈ L, ∀ k, e.key = some k → k < n) : T.Mem w0 F w (.o n x :: L) := by
  refine ⟨h.grown, ?_, ?_, List.pairwise_cons.2 ⟨fun e he k hk1 hk2 => ?_, h.nd⟩⟩
  · intro e he k hk1
    rcases List.mem_cons.1 he with rfl | he
    · cases hk1; exact .inl h0
    · exact h.own e he k hk1
  · intro e he
    rcases List.mem_cons.1 he with rfl | he
    · exact hx
    · exact h.row e he
  · cases hk1
    have := hk e he _ hk2
    omega
theorem T.split_calls (l : List (List Int)) (hl : T.cutR l) (n : Nat) (hn : (T.rowsB l).length = n) (hb : n ≤ 100000000) (hl5 : l.length ≤ 255) (b o c : Nat) (w : World) (hS : T.Sl w (.slice (some ⟨b, o, none⟩) n c) n (T.u8s (T.rowsB l))) :
    Calls Tryz.prog 88 #[.slice (some ⟨b, o, none⟩) n c] w (T.WSplit l w) := by
  have hM := T.Mem.start w
  have HS := Aside0.mk hS
  have HL := Aside0.mk hl
  have HN := Aside0.mk hn
  have hn1 : 1 ≤ n := by rw [← hn, T.rowsB, List.length_cons]; omega
  have hn0 : 0 < n := by omega
  have hnz : (0 : Int) < (n : Int) := by omega
  have d1 : decide ((n : Int) = 0) = false := decide_eq_false (by omega)
  have d2 : decide (n = 0) = false := decide_eq_false (by omega)
  have HC0 := Aside0.mk (show (T.u8s (T.rowsB l))[0]? = some (.int .u8 (l.length : Int)) from rfl)
  clear hS hl hn
  generalize hP : T.WSplit l w = Post
  refine (callsIn_wide (n := 0)).1 ?_
  refine callsIn_of_wp_marks Tryz.func88 rfl trivial ?_ rfl
  simp only [Tryz.ntmps88, List.size_toArray, List.length_cons, List.length_nil, Nat.reduceAdd, Nat.reduceSub, Array.replicate_succ, Array.replicate_zero, List.push_toArray, List.append_toArray, List.nil_append, List.cons_append]
  refine wpIn_wide.2 ?_
  repeat' (first | (go_at_call 126; refine (T.cuts_calls hM _ _ _).mono ?_; rintro _ wr ⟨b1, rfl, hM2⟩; clear hM; have hM := hM2; clear hM2) | ((((((with_reducible show wpList _ _ _ _ _ _); (refine T.w_o rfl ?_)))); first | ((with_reducible show T.OW _ ⟨_, .load _ _, _, _, _, _⟩ _ _ _ _); ((refine T.ofx (T.x_load rfl rfl T.Fd.out T.TS.out rfl hM) ?_))) | ((with_reducible show T.OW _ ⟨_, .store _ _ _, _, _, _, _⟩ _ _ _ _); ((refine T.op_storeAll _ _ _ rfl _ rfl _ rfl _ _ hM (by (repeat ((exact T.Sub.head _)))) _ T.TN.out (by ((rfl))) (by ((exact T.one_ones rfl))) (by ((rfl))) ?_; clear hM; intro wld hM))) | ((with_reducible show T.OW _ ⟨_, .alloc _, _, _, _, _⟩ _ _ _ _); refine T.op_alloc _ rfl _ T.TZ.out hM ?_; clear hM; intro blk wld hM hlt) | ((with_reducible show T.OW _ ⟨_, .box _ _, _, _, _, _⟩ _ _ _ _); refine T.op_box _ _ rfl _ rfl hM ?_; clear hM; intro blk wld hM hlt; (try simp only [Act.eval, Array.getD_eq_getD_getElem?, List.getElem?_toArray, List.getElem?_cons_zero, List.getElem?_cons_succ, Option.getD_some] at hM))); (try simp only [Act.put, List.setIfInBounds_toArray, List.set_cons_zero, List.set_cons_succ])) | (go_step) | ((fail_if_success (with_reducible show T.Seq _ _ _ _ _ _ _)); (fail_if_success (with_reducible show T.OW _ _ _ _ _ _)); simp only [Int.not_lt, Int.not_le] at *; go_simp))
  obtain ⟨b5, rfl⟩ := T.n2 hM
  obtain ⟨b4, rfl⟩ := T.n3 hM
  obtain ⟨bq, rfl⟩ := T.n4 hM
  have h00 : w.heap.size ≤ wr.heap.size := hM.grown.size
  have HM := Aside0.mk hM
  have HLT := Aside0.mk (fun {e : T.Blk} {n : Nat} (he : e ∈ _) (hk : e.key = some n) => hM.size he hk)
  clear hM
  refine wpIn_wide.1 (E.rangeLaw4 (gf := 160) (lb := #[.pointer (some ⟨b1, 0, none⟩)]) rfl (enters_of Tryz.func160 (by kernel_rfl) rfl) (T.cuts_seq b o n c b1 l HL.out HN.out hb) (fun _ => rfl)
    (fun k X => ∃ (ob : Obj) (A4 : Option Addr) (c4 : Nat) (rws : List (Value × List Int)), rws.map (·.2) = l.take k ∧ rws.length = k ∧ T.Mem w none X (T.spL wr.heap.size ob bq b4 b5 b1 (.slice (some ⟨b, o, none⟩) n c) (.slice A4 k c4) (T.pos l k) k rws)) ?hI ?hP (fun k x X => ∃ (ob : Obj) (A4 : Option Addr) (c4 : Nat) (rws : List (Value × List Int)) (Av : Option Addr) (cv : Nat), x = (((T.pos l (k + 1) : Nat) : Int), .slice Av (l.getD k []).length cv) ∧ rws.map (·.2) = l.take k ∧ rws.length = k ∧ T.Mem w none X (T.rwItem (.slice Av (l.getD k []).length cv, l.getD k []) :: T.spL wr.heap.size ob bq b4 b5 b1 (.slice (some ⟨b, o, none⟩) n c) (.slice A4 k c4) (T.pos l k) k rws)) ?hIy ?hPy ?hR ?h0
    (fun x => { tmps := #[.slice (some ⟨b, o, none⟩) n c, .pointer (some ⟨bq, 0, none⟩), .slice none 0 0, .bool false, .pointer (some ⟨b4, 0, none⟩), .pointer (some ⟨b5, 0, none⟩), .int .i64 x.1, x.2, .slice (some ⟨b, o, none⟩) n c, .int .i64 n, .bool false, .slice (some ⟨b, o, none⟩) n c, .func (.func 160) #[] #[.pointer (some ⟨b1, 0, none⟩)], .int .i64 x.1, x.2, undef, undef, undef, undef, undef, undef, undef, undef, undef, undef, undef, undef, undef, undef, undef, undef, undef, undef, undef, undef, undef, undef, undef, undef, undef, undef], defers := [] }) ?assign ?body ?done)
  case hI =>
    rintro k X Y ⟨ob, A4, c4, rws, h1, h2, h3⟩ hb
    exact ⟨ob, A4, c4, rws, h1, h2, h3.call hb⟩
  case hP =>
    rintro k X ob2 ⟨ob, A4, c4, rws, h1, h2, h3⟩
    have hm : X.heap[wr.heap.size + 1]? = some ob := h3.row (.o _ _) (by unfold T.spL; (repeat (first | exact List.Mem.head _ | apply List.Mem.tail)))
    refine ⟨ob2, A4, c4, rws, h1, h2, h3.turn (x := .o (wr.heap.size + 1) ob) (y := .o (wr.heap.size + 1) ob2) (by unfold T.spL; (repeat (first | exact T.Sub.head _ | apply T.Sub.tail))) (grownBy_putObj' _ _ _) (World.putObj_heap_same (Array.getElem?_eq_some_iff.1 hm).1) (fun k hk => .inl hk)⟩
  case hIy =>
    rintro k ⟨xi, xv⟩ X Y hk hX ⟨ob, A4, c4, rws, h1, h2, h3⟩ hb ⟨hx1, ho⟩
    simp only at hx1 ho
    obtain ⟨Av, cv, rfl⟩ := T.own_slice ho
    exact ⟨ob, A4, c4, rws, Av, cv, by rw [hx1], h1, h2, h3.callG hb ho (T.ones_encs _ _)⟩
  case hPy =>
    rintro k x X ob2 ⟨ob, A4, c4, rws, Av, cv, hx, h1, h2, h3⟩
    have hm : X.heap[wr.heap.size + 1]? = some ob := h3.row (.o _ _) (by unfold T.spL; (repeat (first | exact List.Mem.head _ | apply List.Mem.tail)))
    refine ⟨ob2, A4, c4, rws, Av, cv, hx, h1, h2, h3.turn (x := .o (wr.heap.size + 1) ob) (y := .o (wr.heap.size + 1) ob2) (by unfold T.spL; (repeat (first | exact T.Sub.head _ | apply T.Sub.tail))) (grownBy_putObj' _ _ _) (World.putObj_heap_same (Array.getElem?_eq_some_iff.1 hm).1) (fun k hk => .inl hk)⟩
  case hR =>
    rintro k X ⟨ob, A4, c4, rws, h1, h2, h3⟩
    exact ⟨T.cell_at h3 (b := b1) (o := 0) (by unfold T.spL; (repeat (first | exact List.Mem.head _ | apply List.Mem.tail))) rfl, h3.slin HS.out⟩
  case h0 =>
    intro ob
    have hM := HM.out
    have hb2 : Below wr.heap.size wr ((wr.alloc (.deferred (some []))).alloc ob) := ((Below.refl _ wr).alloc (Nat.le_refl _) _).alloc (by simp) _
    have hx1 : ((wr.alloc (.deferred (some []))).alloc ob).heap[wr.heap.size]? = some (.deferred (some [])) := (Below.heap_alloc _ _ _ (by simp)).trans (World.alloc_heap_new wr _)
    have hx2 : ((wr.alloc (.deferred (some []))).alloc ob).heap[wr.heap.size + 1]? = some ob := by
      have := World.alloc_heap_new (wr.alloc (.deferred (some []))) ob
      rwa [World.size_alloc] at this
    have hM2 := ((hM.call hb2).markK hx1 h00 (fun e he k hk => HLT.out he hk)).markK hx2 (by omega) (fun e he k hk => by
      rcases List.mem_cons.1 he with rfl | he
      · cases hk; omega
      · have := HLT.out he hk; omega)
    refine ⟨ob, none, 0, [], rfl, rfl, ?_⟩
    have hp0 : T.pos l 0 = 1 := by simp [T.pos]
    unfold T.spL
    rw [hp0]
    exact hM2.nil 37 1
  case assign =>
    intro l2 k x X K hel hK
    simp only [T.encK]
    gi_wp2
    exact hK
  case body =>
    rintro l2 k x X hk hX ⟨ob, A4, c4, rws, Av, cv, rfl, h1, h2, h3⟩
    have hTK : l.take (k + 1) = l.take k ++ [l.getD k []] := by rw [List.take_succ_eq_append_getElem hk, List.getD_eq_getElem?_getD, List.getElem?_eq_getElem hk]; rfl
    generalize l.getD k [] = y at *
    have HTK := Aside0.mk hTK
    have H1 := Aside0.mk h1
    have H2 := Aside0.mk h2
    have hM := h3
    unfold T.spL T.rwItem at hM
    simp only at hM
    have HX0 := Aside0.mk (show X.heap[wr.heap.size]? = some (.deferred (some [])) from hM.row (.o _ _) (by (repeat (first | exact List.Mem.head _ | apply List.Mem.tail))))
    have HX1 := Aside0.mk (show X.heap[wr.heap.size + 1]? = some ob from hM.row (.o _ _) (by (repeat (first | exact List.Mem.head _ | apply List.Mem.tail))))
    have hc4 : X.cell? ⟨b4, 0, none⟩ = some (.slice A4 k c4) := T.cell_at hM (b := b4) (o := 0) (by (repeat (first | exact List.Mem.head _ | apply List.Mem.tail))) rfl
    have hcq : X.cell? ⟨bq, 0, none⟩ = some (.slice (some ⟨b, o, none⟩) n c) := T.cell_at hM (b := bq) (o := 0) (by (repeat (first | exact List.Mem.head _ | apply List.Mem.tail))) rfl
    have hcb : X.cell? ⟨b, o, none⟩ = some (.int .u8 (l.length : Int)) := by
      obtain ⟨b', o', e, hr⟩ := (hM.slin HS.out).of_some
      cases e
      exact hr 0 _ HC0.out
    have d3 : decide ((k : Int) = (l.length : Int)) = false := decide_eq_false (by omega)
    have d4 : decide (k = l.length) = false := decide_eq_false (by omega)
    have e1 : IntKind.i64.wrap (l.length : Int) = (l.length : Int) := T.w64 (by omega) (by omega)
    have d7 : ((k : Int) == IntKind.i64.wrap (l.length : Int)) = false := by rw [e1, beq_eq_false_iff_ne]; omega
    have hkb : k ≤ 255 := by omega
    have d5 : ¬ k = l.length := by omega
    have d6 : ((k : Int) == (l.length : Int)) = false := by rw [beq_eq_false_iff_ne]; omega
    have HK := Aside0.mk hk
    clear h1 h2 h3 hTK hk
    gi_wp2
    gi_region
    all_goals
      clear hc4 hcq hcb
      replace hM := hM.drew
      generalize X.drew = X2 at *
      gi_step
      gi_step
      gi_step
      gi_step
      gi_step
      gi_step
      gi_step
      with_reducible show Code.wpIn _ _ _ (Code.region 9 _ _) _ _ _
      refine wpIn_region_list ?_
      refine T.in_v rfl rfl (by intro c h; cases h) (fun _ _ => trivial) (T.ofx (T.x_load rfl rfl T.Fd.out T.TS.out rfl hM) ?_)
      (try simp only [Act.put, List.setIfInBounds_toArray, List.set_cons_zero, List.set_cons_succ])
      gi_step
      gi_step
      gi_step
      (skip)
      refine T.in_v rfl rfl (by intro c h; cases h) (fun _ _ => trivial) (T.op_buildSl _ _ _ rfl _ T.TL.out _ T.TN.out _ T.TZ.out rfl (by decide) (by decide) _ rfl (by (((simp [T.okp, Value.cells, Act.eval, *]; done)))) _ rfl hM ?_)
      (try simp only [List.map_toArray, List.map_cons, List.map_nil, Act.eval, Array.getD_eq_getD_getElem?, List.toList_toArray, List.getElem?_toArray, List.getElem?_cons_zero, List.getElem?_cons_succ, Option.getD_some, T.segs, List.replicate_succ, List.replicate_zero, List.set_cons_zero, List.set_cons_succ, Value.cells, List.flatten_cons, List.flatten_nil, List.append_nil, List.cons_append, List.nil_append])
      clear hM; intro blk wld hM hlt
      (try simp only [Act.put, List.setIfInBounds_toArray, List.set_cons_zero, List.set_cons_succ])
      refine T.in_v rfl rfl (by intro c h; cases h) (fun _ _ => trivial) (T.op_app _ _ _ rfl _ _ _ T.TE.out _ _ _ rfl _ _ _ hM (fun _ => by (repeat (first | exact T.Sub.head _ | apply T.Sub.tail))) (by (exact T.Mem.slB hM T.Fd.out (by ((exact T.one_ones rfl))) (by decide))) (by ((rfl))) (by decide) (by decide) (by ((omega))) ?_)
      clear hM; intro gsv wld hM
      have hM2 := hM.drop (List.Sublist.cons _ (List.Sublist.refl _))
      clear hM
      have hM := hM2
      clear hM2
      obtain ⟨Ae, ce, rfl⟩ := T.own_slice (hM.row _ (.tail _ (.head _))).1
      (try simp only [Act.put, List.setIfInBounds_toArray, List.set_cons_zero, List.set_cons_succ])
      refine T.in_store _ _ _ rfl rfl (fun _ _ => trivial) ?_
      refine T.op_storeAll _ _ _ rfl _ rfl [.slice Ae (k + 1) ce] rfl _ _ hM (by (repeat (first | exact T.Sub.head _ | apply T.Sub.tail))) _ T.TN.out (by ((rfl))) (by ((exact T.one_ones rfl))) (by ((rfl))) ?_
      clear hM; intro wld hM
      (try simp only [Act.put, List.setIfInBounds_toArray, List.set_cons_zero, List.set_cons_succ])
      iterate 12 (first | ((fail_if_success (with_reducible show wpListIn _ _ _ _ _ (⟨_, .store _ _ _, _, _, _, _⟩ :: _) _ _)); gi_step) | skip)
      refine T.in_store _ _ _ rfl rfl (fun _ _ => trivial) ?_
      refine T.op_storeAll _ _ _ rfl _ rfl [.int .i64 (T.pos l (k + 1) : Nat)] rfl _ _ hM (by (repeat (first | exact T.Sub.head _ | apply T.Sub.tail))) _ T.TN.out (by ((rfl))) (by ((exact T.one_ones rfl))) (by ((rfl))) ?_
      clear hM; intro wld hM
      (try simp only [Act.put, List.setIfInBounds_toArray, List.set_cons_zero, List.set_cons_succ])
      iterate 8 (first | gi_step | skip)
      refine ⟨(hM.row (.o _ _) (by (repeat (first | exact List.Mem.head _ | apply List.Mem.tail)))).trans HX0.out.symm, (hM.row (.o _ _) (by (repeat (first | exact List.Mem.head _ | apply List.Mem.tail)))).trans HX1.out.symm, ob, Ae, ce, rws ++ [(.slice Av y.length cv, y)], by rw [List.map_append, H1.out, HTK.out]; rfl, by rw [List.length_append, H2.out]; rfl, ?_⟩
      unfold T.spL
      rw [List.map_append, List.map_append]
      have hM3 : T.Mem w none wld (T.rwItem (.slice Av y.length cv, y) :: _) := hM
      exact hM3.perm (T.perm_end (T.rwItem (.slice Av y.length cv, y)) [_, _, _, _, _, _, _] (rws.map T.rwItem))
  case done =>
    rintro X hX ⟨ob, A4, c4, rws, h1, h2, h3⟩ hmark
    have hM := h3
    unfold T.spL at hM
    rw [List.take_length] at h1
    have hpe : T.pos l l.length = n := by rw [T.pos_end, HN.out]
    rw [hpe] at hM
    have H1 := Aside0.mk h1
    have hc4 : X.cell? ⟨b4, 0, none⟩ = some (.slice A4 l.length c4) := T.cell_at hM (b := b4) (o := 0) (by (repeat (first | exact List.Mem.head _ | apply List.Mem.tail))) rfl
    have hcq : X.cell? ⟨bq, 0, none⟩ = some (.slice (some ⟨b, o, none⟩) n c) := T.cell_at hM (b := bq) (o := 0) (by (repeat (first | exact List.Mem.head _ | apply List.Mem.tail))) rfl
    have hc5 : X.cell? ⟨b5, 0, none⟩ = some (.int .i64 n) := T.cell_at hM (b := b5) (o := 0) (by (repeat (first | exact List.Mem.head _ | apply List.Mem.tail))) rfl
    have hcb : X.cell? ⟨b, o, none⟩ = some (.int .u8 (l.length : Int)) := by
      obtain ⟨b', o', e, hr⟩ := (hM.slin HS.out).of_some
      cases e
      exact hr 0 _ HC0.out
    have e1 : IntKind.i64.wrap (l.length : Int) = (l.length : Int) := T.w64 (by omega) (by omega)
    have HMK := Aside0.mk hmark
    clear h1 h2 h3 hmark hpe HM
    dsimp only [Exit.inBlock]
    go_wp2
    go_region
    clear hc4 hcq hcb hc5
    replace hM := hM.drew
    have hmk2 : X.drew.heap[wr.heap.size]? = some (.deferred (some [])) := HMK.out
    generalize X.drew = X2 at *
    have hc4 : X2.cell? ⟨b4, 0, none⟩ = some (.slice A4 l.length c4) := T.cell_at hM (b := b4) (o := 0) (by (repeat (first | exact List.Mem.head _ | apply List.Mem.tail))) rfl
    go_wp2
    have hM3 : T.Mem w none (X2.putObj wr.heap.size (.deferred none)) _ := hM.turn (x := .o wr.heap.size (.deferred (some []))) (y := .o wr.heap.size (.deferred none)) (by (repeat (first | exact T.Sub.head _ | apply T.Sub.tail))) (grownBy_putObj' _ _ _) (World.putObj_heap_same (Array.getElem?_eq_some_iff.1 hmk2).1) (fun k hk => .inl hk)
    refine ⟨by simp, .inl ⟨_, _, rfl, run_takeDeferred hmk2, ?_⟩⟩
    refine ⟨.tuple #[.slice A4 l.length c4, .bool true], (by unfold results; rw [show (Tryz.f88).results = #[.tmp 2, .tmp 3] from rfl]; simp), ?_⟩
    rw [← hP]
    refine ⟨_, rws, rfl, H1.out, hM3.drop (.cons_cons _ (.cons _ (.cons _ (.cons _ (.cons _ (.cons _ (.cons _ (List.Sublist.refl _))))))))⟩
end
end Go.Proofs.YtdklknfgcepcbaaGreat.X
