/- Texts of this proof, laid together by wip/tools/pack.py: TF3, TF4, TF5, TD1. -/
import Derived.Test.YtdklknfgcepcbaaGreatZ7
import Derived.Test.YtdklknfgcepcbaaGreatZ8
import Derived.Test.YtdklknfgcepcbaaGreatZ9
import Derived.OwnWalkIn
import Derived.TacticsInMore
import Derived.LoopNIn
import Derived.LoopIn
import Derived.Shelf.Abstract
import Derived.WalkKit
namespace Go.Proofs.YtdklknfgcepcbaaGreat.X
open Go.RowKit Go.Proofs.YtdklknfgcepcbaaGreatW.PrintWords Go.Proofs.YtdklknfgcepcbaaGreatW.PrintLast Go.Proofs.YtdklknfgcepcbaaGreatW.PrintMore
set_option linter.unusedSimpArgs false
set_option linter.unusedVariables false
set_option maxHeartbeats 2000000
set_option maxRecDepth 20000
def T.encC (bg : Nat) (i : Nat) : Array Value := #[.slice (some ⟨bg, 64 * i, none⟩) 64 64]
def T.ChR (bg cap m Bs Bn : Nat) (A : World) : Prop := A.cell? ⟨Bs, 0, none⟩ = some (.slice (some ⟨bg, 0, none⟩) (64 * m) cap) ∧ A.cell? ⟨Bn, 0, none⟩ = some (.int .i64 64)
theorem T.chunk_seq (bg cap m Bs Bn : Nat) (hcap : 64 * m ≤ cap) (hm : m ≤ 100000000) :
    E.SeqB Tryz.prog 138 #[.pointer (some ⟨Bs, 0, none⟩), .pointer (some ⟨Bn, 0, none⟩)] (T.encC bg) (List.range m) (T.ChR bg cap m Bs Bn) := by
  intro ll J Jx W hJ hJx hR hY h0
  have HR := Aside0.mk hR
  have HY := Aside0.mk hY
  have H0 := Aside0.mk h0
  have HJ0 := Aside0.mk hJ
  clear hR hY h0 hJ hJx
  refine callsIn_of_wp Tryz.func138 rfl trivial ?_ rfl
  simp only [Tryz.ntmps138, List.size_toArray, List.length_cons, List.length_nil, Nat.reduceAdd, Nat.reduceSub, Array.replicate_succ, Array.replicate_zero, List.push_toArray, List.append_toArray, List.nil_append, List.cons_append]
  gi_wp2
  gi_loopw [4] (fun i wr => ∃ (k : Nat), i = .int .i64 (64 * k : Int) ∧ k ≤ m ∧ Aside0 (J k wr))
    (fun i _ => (64 * m - (intOf i)).toNat)
  case atStart => exact ⟨0, rfl, by omega, H0⟩
  case round =>
    obtain ⟨k, rfl, hk, HJ⟩ := hrel
    clear H0
    obtain ⟨hc1, hc2⟩ := (HR.out k wr HJ.out).1
    have ew : IntKind.i64.wrap (64 * (k : Int) + 64) = 64 * (k : Int) + 64 := T.w64 (by omega) (by omega)
    by_cases hlt : k < m
    · have cb : decide (64 * (k : Int) < ((64 * m : Nat) : Int)) = true := by rw [decide_eq_true_eq]; omega
      gi_wp2
      gi_region
      generalize hw2 : wr.drew = w2 at *
      have HJ2 : Aside0 (J k w2) := ⟨by rw [← hw2]; exact HJ0.out _ _ _ HJ.out ⟨rfl, rfl, rfl, Nat.le_refl _, fun _ _ => rfl⟩⟩
      clear hc1 hc2 HJ hw2
      obtain ⟨hc1, hc2⟩ := (HR.out k w2 HJ2.out).1
      obtain ⟨fn, tmps, assign, body, hy, hRd⟩ := HY.out k k w2 (by rw [List.getElem?_range hlt]) HJ2.out
      unfold T.encC at hy
      gi_wp2
      refine ⟨rfl, hRd.mono ?_⟩
      rintro e W3 (⟨rfl, hJ3, hk3⟩ | ⟨rfl, hJx3, hk3⟩)
      · obtain ⟨_, hc2⟩ := (HR.out _ _ hJ3).1
        gi_wp2
        go_roundw
        case rel => exact ⟨k + 1, by congr 1, by omega, ⟨hJ3⟩⟩
        case measure => simp only [intOf]; omega
      · gi_wp2
        refine bodyPost_ret (results_none rfl _ _ _) rfl ?_
        exact ⟨⟨_, rfl⟩, .inr ⟨k, by rw [List.length_range]; exact hlt, hJx3⟩, Nat.le_trans (HR.out k w2 HJ2.out).2 hk3.1⟩
    · have cb : decide (64 * (k : Int) < ((64 * m : Nat) : Int)) = false := by rw [decide_eq_false_iff_not]; omega
      obtain rfl : k = m := by omega
      gi_wp2
      go_end0
      exact ⟨⟨_, rfl⟩, .inl (by rw [List.length_range]; exact HJ.out), (HR.out _ _ HJ.out).2⟩
theorem T.chunk_calls {w0 w : World} {F : Option Nat} {L : List T.Blk} (hM : T.Mem w0 F w L) (A : Option Addr) (n c : Nat) : Calls Tryz.prog 102 #[.slice A n c, .int .i64 64] w fun e w' => ∃ b1 b2, e = .returned (.func (.func 138) #[] #[.pointer (some ⟨b1, 0, none⟩), .pointer (some ⟨b2, 0, none⟩)]) ∧ T.Mem w0 F w' (.b b2 3 [.int .i64 64] :: .b b1 37 [.slice A n c] :: L) := by
  generalize hP : (fun (e : Ending) w' => ∃ b1 b2, e = .returned (.func (.func 138) #[] #[.pointer (some ⟨b1, 0, none⟩), .pointer (some ⟨b2, 0, none⟩)]) ∧ T.Mem w0 F w' (.b b2 3 [.int .i64 64] :: .b b1 37 [.slice A n c] :: L)) = Post
  go_enter Tryz.func102, Tryz.ntmps102
  repeat' (first | ((((((with_reducible show wpList _ _ _ _ _ _); (refine T.w_o rfl ?_)))); first | ((with_reducible show T.OW _ ⟨_, .load _ _, _, _, _, _⟩ _ _ _ _); ((refine T.ofx (T.x_load rfl rfl T.Fd.out T.TS.out rfl hM) ?_))) | ((with_reducible show T.OW _ ⟨_, .box _ _, _, _, _, _⟩ _ _ _ _); refine T.op_box _ _ rfl _ rfl hM ?_; clear hM; intro blk wld hM hlt; (try simp only [Act.eval, Array.getD_eq_getD_getElem?, List.getElem?_toArray, List.getElem?_cons_zero, List.getElem?_cons_succ, Option.getD_some] at hM))); (try simp only [Act.put, List.setIfInBounds_toArray, List.set_cons_zero, List.set_cons_succ])) | (go_step) | go_back)
  subst hP
  exact ⟨_, _, rfl, hM⟩
section
attribute [local go_sem] Oper.semAt_some
def T.chunk (bs : List Int) (i : Nat) : List Int := (bs.drop (64 * i)).take 64
theorem T.chunk_len (bs : List Int) (i : Nat) (h : 64 * i + 64 ≤ bs.length) : (T.chunk bs i).length = 64 := by
  rw [T.chunk, List.length_take, List.length_drop]; omega
def T.shaAt (bs : List Int) : Nat → List Int
  | 0 => [1779033703, 3144134277, 1013904242, 2773480762, 1359893119, 2600822924, 528734635, 1541459225]
  | i + 1 => T.add (T.shaAt bs i) (T.chunk bs i)
theorem T.shaAt_len (bs : List Int) : ∀ i, (T.shaAt bs i).length = 8
  | 0 => rfl
  | i + 1 => by rw [T.shaAt]; exact T.add_len _ _ (T.shaAt_len bs i)
def T.outs (s : List Int) : Nat → List Int
  | 0 => T.z32
  | i + 1 => (T.outs s i).set i (T.gi s (i / 4) / 2 ^ (24 - 8 * (i % 4)) % 256)
theorem T.outs_len (s : List Int) : ∀ i, (T.outs s i).length = 32
  | 0 => rfl
  | i + 1 => by rw [T.outs, List.length_set, T.outs_len s i]
def T.sum (bs : List Int) : List Int := T.outs (T.shaAt (T.pad bs) ((T.pad bs).length / 64)) 32
theorem T.sum_len (bs : List Int) : (T.sum bs).length = 32 := T.outs_len _ 32
theorem T.chunk_at {xs : List Int} {rest : List Value} {i j : Nat} {v : Value} (h : (T.u8s (T.chunk xs i))[j]? = some v) : (T.u8s xs ++ rest)[64 * i + j]? = some v := by
  unfold T.u8s encs T.chunk at *
  rw [List.getElem?_map, List.getElem?_take] at h
  by_cases hj : j < 64
  · rw [if_pos hj, List.getElem?_drop] at h
    have hl : 64 * i + j < xs.length := by
      rcases Nat.lt_or_ge (64 * i + j) xs.length with h1 | h1
      · exact h1
      · rw [List.getElem?_eq_none h1] at h; cases h
    rw [List.getElem?_append_left (by simpa using hl), List.getElem?_map]
    exact h
  · rw [if_neg hj] at h; cases h
theorem T.Mem.mark {w0 w : World} {F : Option Nat} {L : List T.Blk} (h : T.Mem w0 F w L) {n : Nat} {x : Obj} (hx : w.heap[n]? = some x) (h0 : w0.heap.size ≤ n) (hk : ∀ e ∈ L, ∃ m t cs, e = .b m t cs ∧ m < n) : T.Mem w0 F w (.o n x :: L) := by
  refine ⟨h.grown, ?_, ?_, List.pairwise_cons.2 ⟨fun e he k hk1 hk2 => ?_, h.nd⟩⟩
  · intro e he k hk1
    rcases List.mem_cons.1 he with rfl | he
    · cases hk1; exact .inl h0
    · exact h.own e he k hk1
  · intro e he
    rcases List.mem_cons.1 he with rfl | he
    · exact hx
    · exact h.row e he
  · obtain ⟨m, t, cs, rfl, hm⟩ := hk e he
    cases hk1
    cases hk2
    omega
def T.sumL (b1 b2 bg bp bs bo m cap : Nat) (pad : List Int) (rest : List Value) (k : Nat) : List T.Blk :=
  [.b b2 3 [.int .i64 64], .b b1 37 [.slice (some ⟨bg, 0, none⟩) (64 * m) cap], .b bg 5 (T.u8s pad ++ rest), .b bp 186 [.pointer (some ⟨bs, 0, none⟩)], .b bs 188 (encs (Value.int .u32) (T.shaAt pad k)), .b bo 44 (T.u8s T.z32)]
theorem T.res_cell {P : Program} {w0 w : World} {F : Option Nat} {L : List T.Blk} {fn : Func} {tmps : Array Value} {k : Tmp} {ty : TypeId} (hf : fn.results = #[.cell k ty]) (b : Nat) (hx : tmps.getD k undef = .pointer (some ⟨b, 0, none⟩))
    (t : TypeId) (cs : List Value) (hM : T.Mem w0 F w L) (hm : .b b t cs ∈ L) (hu : ∃ d, P.underlying ty = some d ∧ d.isRow = true) (n : Nat) (hi : (P.info? ty).map (·.size) = some n) (hn : cs.length = n) : (results fn tmps).run P w = .ok (.agg cs.toArray) w := by
  subst hn
  obtain ⟨d, hu, hdr⟩ := hu
  have hr : w.rangeAt b 0 cs := fun j v hv => T.cell_at hM hm (by simpa using hv)
  have := run_loadVar_mid (P := P) w b 0 ty cs d hr hu hdr hi
  rw [Array.getD_eq_getD_getElem?] at hx
  unfold results
  rw [hf]
  simp [hx, asAddr, this]
theorem T.sum_calls (bs : List Int) (v : Value) (hn : bs.length ≤ 1000000000) (w : World) (hS : T.Sl w v bs.length (T.u8s bs)) : Calls Tryz.prog 59 #[v] w (T.E (.agg (T.u8s (T.sum bs)).toArray) w) := by
  have hM := T.Mem.start w
  obtain ⟨A, cc, hv, _, _, _⟩ := id hS
  rw [hv] at hS ⊢
  have HS := Aside0.mk hS
  clear hS hv
  generalize hP : T.E (.agg (T.u8s (T.sum bs)).toArray) w = Post
  refine (callsIn_wide (n := 0)).1 ?_
  refine callsIn_of_wp_marks Tryz.func59 rfl trivial ?_ rfl
  simp only [Tryz.ntmps59, List.size_toArray, List.length_cons, List.length_nil, Nat.reduceAdd, Nat.reduceSub, Array.replicate_succ, Array.replicate_zero, List.push_toArray, List.append_toArray, List.nil_append, List.cons_append]
  refine wpIn_wide.2 ?_
  repeat' (first | (go_at_call 103; refine (T.pad_calls bs _ hn _ (hM.slin HS.out)).mono ?_; rintro _ wr ⟨v, rfl, ho, h1, hbc⟩; replace hM := hM.callG hbc ho h1; clear hbc ho h1) | ((((((with_reducible show wpList _ _ _ _ _ _); (refine T.w_o rfl ?_)))); first | ((with_reducible show T.OW _ ⟨_, .store _ _ _, _, _, _, _⟩ _ _ _ _); ((refine T.op_storeAll _ _ _ rfl _ rfl _ rfl _ _ hM (by (repeat ((exact T.Sub.head _)))) _ T.TN.out (by ((rfl))) (by ((exact T.one_ones rfl))) (by ((rfl))) ?_; clear hM; intro wld hM))) | ((with_reducible show T.OW _ ⟨_, .alloc _, _, _, _, _⟩ _ _ _ _); refine T.op_alloc _ rfl _ T.TZ.out hM ?_; clear hM; intro blk wld hM hlt) | ((with_reducible show T.OW _ ⟨_, .box _ _, _, _, _, _⟩ _ _ _ _); refine T.op_box _ _ rfl _ rfl hM ?_; clear hM; intro blk wld hM hlt)); (try simp only [Act.put, List.setIfInBounds_toArray, List.set_cons_zero, List.set_cons_succ])) | (go_step) | ((fail_if_success (with_reducible show T.Seq _ _ _ _ _ _ _)); (fail_if_success (with_reducible show T.OW _ _ _ _ _ _)); simp only [Int.not_lt, Int.not_le] at *; go_simp))
  simp only [Act.eval, Array.getD_eq_getD_getElem?, List.getElem?_toArray, List.getElem?_cons_zero, List.getElem?_cons_succ, Option.getD_some] at hM
  obtain ⟨bp, rfl⟩ := T.n2 hM
  obtain ⟨bs', rfl⟩ := T.n3 hM
  obtain ⟨bo, rfl⟩ := T.n4 hM
  have hpl := T.pad_len bs
  obtain ⟨m, hm⟩ : ∃ m, (T.pad bs).length = 64 * m := ⟨(T.pad bs).length / 64, by omega⟩
  have hm1 : m ≤ 100000000 := by omega
  obtain ⟨bg, cap, rest, rfl, hnc, hcm, _, hcl, _, hg0, hM2⟩ := hM.open (by omega)
  clear hM
  have hM := hM2
  clear hM2
  rw [hm] at hnc ⊢
  have HPL := Aside0.mk hpl
  have HNC := Aside0.mk hnc
  have HCL := Aside0.mk hcl
  clear hpl hcm hcl hg0 hnc hn
  refine (T.chunk_calls hM _ _ _).mono ?_
  rintro _ wr2 ⟨b1, b2, rfl, hM2⟩
  clear hM
  have hM := hM2
  clear hM2
  repeat' (first | (go_step) | ((fail_if_success (with_reducible show T.Seq _ _ _ _ _ _ _)); (fail_if_success (with_reducible show T.OW _ _ _ _ _ _)); simp only [Int.not_lt, Int.not_le] at *; go_simp))
  have hs : ∀ k, ∀ e ∈ T.sumL b1 b2 bg bp bs' bo m cap (T.pad bs) rest k, ∃ n t cs, e = .b n t cs ∧ n < wr2.heap.size := by
    intro k e he
    have hlt := fun {e : T.Blk} {n : Nat} (he : e ∈ _) (hk : e.key = some n) => hM.size he hk
    unfold T.sumL at he
    simp only [List.mem_cons, List.not_mem_nil, or_false] at he
    rcases he with rfl | rfl | rfl | rfl | rfl | rfl
    · exact ⟨_, _, _, rfl, hlt (List.mem_cons_self) rfl⟩
    · exact ⟨_, _, _, rfl, hlt (List.mem_cons_of_mem _ List.mem_cons_self) rfl⟩
    · exact ⟨_, _, _, rfl, hlt (List.mem_cons_of_mem _ (List.mem_cons_of_mem _ List.mem_cons_self)) rfl⟩
    · exact ⟨_, _, _, rfl, hlt (List.mem_cons_of_mem _ (List.mem_cons_of_mem _ (List.mem_cons_of_mem _ List.mem_cons_self))) rfl⟩
    · exact ⟨_, _, _, rfl, hlt (e := .b bs' 188 [.int .u32 1779033703, .int .u32 3144134277, .int .u32 1013904242, .int .u32 2773480762, .int .u32 1359893119, .int .u32 2600822924, .int .u32 528734635, .int .u32 1541459225]) (List.mem_cons_of_mem _ (List.mem_cons_of_mem _ (List.mem_cons_of_mem _ (List.mem_cons_of_mem _ List.mem_cons_self)))) rfl⟩
    · exact ⟨_, _, _, rfl, hlt (List.mem_cons_of_mem _ (List.mem_cons_of_mem _ (List.mem_cons_of_mem _ (List.mem_cons_of_mem _ (List.mem_cons_of_mem _ List.mem_cons_self))))) rfl⟩
  have hS := Aside0.mk hs
  clear hs
  have h00 : w.heap.size ≤ wr2.heap.size := hM.grown.size
  have hltS : bs' < wr2.heap.size := hM.size (List.mem_cons_of_mem _ (List.mem_cons_of_mem _ (List.mem_cons_of_mem _ (List.mem_cons_of_mem _ List.mem_cons_self)))) rfl
  have HM := Aside0.mk hM
  clear hM
  refine wpIn_wide.1 (E.rangeLaw (gf := 138) (lb := #[.pointer (some ⟨b1, 0, none⟩), .pointer (some ⟨b2, 0, none⟩)]) rfl (enters_of Tryz.func138 (by kernel_rfl) rfl) (T.chunk_seq bg cap m b1 b2 HNC.out hm1) (fun _ => rfl)
    (fun k A => T.Mem w none A (T.sumL b1 b2 bg bp bs' bo m cap (T.pad bs) rest k)) (fun _ _ => False) ?hI ?hIx ?hR ?h0
    (fun x => { tmps := #[.slice A bs.length cc, undef, .pointer (some ⟨bo, 0, none⟩), .pointer (some ⟨bp, 0, none⟩), .slice (some ⟨bg, 64 * x, none⟩) 64 64, undef, undef,
          .agg #[.int .u32 1779033703, .int .u32 3144134277, .int .u32 1013904242, .int .u32 2773480762, .int .u32 1359893119, .int .u32 2600822924, .int .u32 528734635, .int .u32 1541459225],
          .pointer (some ⟨bs', 0, none⟩), .slice A bs.length cc, .slice (some ⟨bg, 0, none⟩) (64 * m) cap, .func (.func 138) #[] #[.pointer (some ⟨b1, 0, none⟩), .pointer (some ⟨b2, 0, none⟩)], .slice (some ⟨bg, 64 * x, none⟩) 64 64,
          undef, undef, undef, undef, undef, undef, undef, undef, undef, undef, undef, undef, undef, undef, undef, undef, undef, undef, undef, undef, undef, undef], defers := [] }) ?assign ?body ?done ?stop)
  case hI =>
    intro k X Y h hb
    exact h.keep (hS.out k) h00 hb
  case hIx => intro _ _ _ h; exact h.elim
  case hR =>
    intro k X h
    exact ⟨T.cell_at h (b := b1) (o := 0) (List.mem_cons_of_mem _ List.mem_cons_self) rfl, T.cell_at h (b := b2) (o := 0) List.mem_cons_self rfl⟩
  case h0 => exact HM.out
  case assign =>
    intro l2 x X K hK
    simp only [T.encC]
    gi_wp2
    exact hK
  case body =>
    rintro l2 j x X hx hX h
    have hj : j < m := by
      have := (List.getElem?_eq_some_iff.1 hx).1
      rw [List.length_range] at this
      exact this
    rw [List.getElem?_range hj] at hx
    obtain rfl := Option.some.inj hx
    clear hx
    have hcp : X.cell? ⟨bp, 0, none⟩ = some (.pointer (some ⟨bs', 0, none⟩)) := T.cell_at h (b := bp) (o := 0) (List.mem_cons_of_mem _ (List.mem_cons_of_mem _ (List.mem_cons_of_mem _ List.mem_cons_self))) rfl
    have hst : X.heap[bs']? = some (.cells (encs (Value.int .u32) (T.shaAt (T.pad bs) j)).toArray 188) := h.row (.b bs' _ _) (List.mem_cons_of_mem _ (List.mem_cons_of_mem _ (List.mem_cons_of_mem _ (List.mem_cons_of_mem _ List.mem_cons_self))))
    have hrg : X.rangeAt bg (64 * j) (T.u8s (T.chunk (T.pad bs) j)) := fun i v hv => T.cell_at h (b := bg) (o := 64 * j + i) (List.mem_cons_of_mem _ (List.mem_cons_of_mem _ List.mem_cons_self)) (T.chunk_at hv)
    have hcl := T.chunk_len (T.pad bs) j (by omega)
    have hap : some bs' ≠ some bg := fun e => by
      have := List.pairwise_cons.1 (List.pairwise_cons.1 (List.pairwise_cons.1 h.nd).2).2
      exact this.1 (.b bs' _ _) (List.mem_cons_of_mem _ List.mem_cons_self) bg rfl e
    have HST := Aside0.mk hst
    have HRG := Aside0.mk hrg
    have HH := Aside0.mk h
    clear hst hrg h
    gi_wp2_with fail
    refine ⟨trivial, rfl, CallsIn.mono (CallsIn.inRound l2 (callsIn_wide.2 (T.add_calls X bs' _ _ bg (64 * j) 64 HST.out (T.shaAt_len _ _) HRG.out hcl hap))) ?_⟩
    rintro e X' ⟨rfl, hg, hs2⟩
    gi_wp2
    refine ⟨?_, HH.out.turn (.tail _ (.tail _ (.tail _ (.tail _ (.head _))))) hg hs2 (fun k hk => .inl hk)⟩
    exact ⟨hg.size, fun b hb hl => hg.block b hl (fun e => by cases e; omega)⟩
  case done =>
    intro X hX h hmark
    have hM2 := T.Mem.mark h hmark h00 (hS.out _)
    rw [List.length_range] at hM2
    unfold T.sumL at hM2
    have hM := hM2
    clear hM2 h hmark
    have hsl : (T.shaAt (T.pad bs) m).length = 8 := T.shaAt_len _ _
    dsimp only [Exit.inBlock]
    clear HM HPL HCL HNC
    repeat' (first | ((((((with_reducible show wpList _ _ _ _ _ _); (refine T.w_o rfl ?_)))); (((with_reducible show T.OW _ ⟨_, .alloc _, _, _, _, _⟩ _ _ _ _); refine T.op_alloc _ rfl _ T.TZ.out hM ?_; clear hM; intro blk wld hM hlt))); (try simp only [Act.put, List.setIfInBounds_toArray, List.set_cons_zero, List.set_cons_succ])) | (go_step))
    generalize hQ : bodyPostM Fence.wide 0 Tryz.prog (Tryz.f59) Post = QQ
    go_loopg [16] (32 + 1) (fun kq vv Wd => ∃ i : Nat, vv = .int .i64 i ∧ i ≤ 32 ∧ 32 - i < kq ∧ Aside0 (T.Mem w none Wd [.b blk 44 (T.u8s (T.outs (T.shaAt (T.pad bs) m) i)), .o wr2.heap.size (.deferred (some [])), .b b2 3 [.int .i64 64], .b b1 37 [.slice (some ⟨bg, 0, none⟩) (64 * m) cap], .b bg 5 (T.u8s (T.pad bs) ++ rest), .b bp 186 [.pointer (some ⟨bs', 0, none⟩)], .b bs' 188 (encs (Value.int .u32) (T.shaAt (T.pad bs) m)), .b bo 44 (T.u8s T.z32)]))
    case atStart => exact ⟨0, rfl, by omega, by omega, ⟨hM⟩⟩
    case round =>
      clear hM
      obtain ⟨i, rfl, hi, hg, hMo⟩ := hrel
      have hM := hMo.out
      clear hMo
      by_cases hlt : i < 32
      · have hltz : (i : Int) < 32 := by omega
        have cb : decide ((i : Int) < 32) = true := decide_eq_true hltz
        have hi0 : (0 : Int) ≤ (i : Int) := by omega
        have hol := T.outs_len (T.shaAt (T.pad bs) m) i
        have ew2 : IntKind.i64.wrap ((i : Int) / 4) = ((i / 4 : Nat) : Int) := by rw [T.w64 (by omega) (by omega)]; omega
        repeat' (first | ((((((with_reducible show wpList _ _ _ _ _ _); (refine T.w_o rfl ?_)))); first | ((with_reducible show T.OW _ ⟨_, .load _ _, _, _, _, _⟩ _ _ _ _); first | (refine T.ofx (T.x_load rfl rfl T.Fd.out T.TS.out rfl hM) ?_) | (refine T.ofx (T.x_loadInt rfl rfl T.Fd.out T.TS.out (by ((omega))) hM) ?_)) | ((with_reducible show T.OW _ ⟨_, .store _ _ _, _, _, _, _⟩ _ _ _ _); ((refine T.op_storeInt _ _ _ rfl _ _ rfl _ _ rfl _ _ hM (by (repeat ((exact T.Sub.head _)))) T.TN.out (by ((omega))) ?_; clear hM; intro wld hM)))); (try simp only [Act.put, List.setIfInBounds_toArray, List.set_cons_zero, List.set_cons_succ])) | (go_step))
        go_roundg (32 - i)
        case measure => omega
        case rel => exact ⟨i + 1, by go_num, by omega, by omega, ⟨hM⟩⟩
      · have hiN : i = 32 := by omega
        have hltz : ¬ (i : Int) < 32 := by omega
        have cb : decide ((i : Int) < 32) = false := decide_eq_false hltz
        rw [hiN] at hM
        obtain ⟨o, ho⟩ : ∃ o, T.outs (T.shaAt (T.pad bs) m) 32 = o := ⟨_, rfl⟩
        have hol : o.length = 32 := by rw [← ho]; exact T.outs_len _ 32
        rw [ho] at hM
        repeat' (first | ((((((with_reducible show wpList _ _ _ _ _ _); (refine T.w_o rfl ?_)))); first | ((with_reducible show T.OW _ ⟨_, .load _ _, _, _, _, _⟩ _ _ _ _); ((refine T.ofx (T.x_loadAll rfl rfl T.Fd.out T.TU.out T.TN.out (by (((rw [encs_length]; with_reducible assumption)))) hM) ?_))) | ((with_reducible show T.OW _ ⟨_, .store _ _ _, _, _, _, _⟩ _ _ _ _); ((refine T.op_storeAll _ _ _ rfl _ rfl _ rfl _ _ hM (by (repeat (first | exact T.Sub.head _ | apply T.Sub.tail))) _ T.TN.out (by (((rw [encs_length]; with_reducible assumption)))) (by ((exact T.ones_encs _ _))) (by ((rfl))) ?_; clear hM; intro wld hM)))); (try simp only [Act.put, List.setIfInBounds_toArray, List.set_cons_zero, List.set_cons_succ])) | (go_step) | ((fail_if_success (with_reducible show T.Seq _ _ _ _ _ _ _)); (fail_if_success (with_reducible show T.OW _ _ _ _ _ _)); simp only [Int.not_lt, Int.not_le] at *; go_simp))
        rw [← hQ]
        have hmk : wld.heap[wr2.heap.size]? = some (.deferred (some [])) := hM.row (.o _ _) (List.mem_cons_of_mem _ List.mem_cons_self)
        have hM3 : T.Mem w none (wld.putObj wr2.heap.size (.deferred none)) _ := hM.turn (y := .o wr2.heap.size (.deferred none)) (.tail _ (.head _)) (grownBy_putObj' _ _ _) (World.putObj_heap_same (Array.getElem?_eq_some_iff.1 hmk).1) (fun k hk => .inl hk)
        refine ⟨by simp, .inl ⟨_, _, rfl, run_takeDeferred hmk, ?_⟩⟩
        refine ⟨.agg (T.u8s o).toArray, T.res_cell rfl bo rfl _ _ hM3 T.Fd.out T.TU.out _ T.TN.out (by (((rw [encs_length]; with_reducible assumption)))), ?_⟩
        rw [← hP]
        refine ⟨?_, hM3.below⟩
        rw [← ho, T.sum, show (T.pad bs).length / 64 = m by omega]
  case stop => intro _ _ _ _ h; exact h.elim
attribute [irreducible] T.sum
end
theorem T.of_calls (l : List (Value × List Int)) (b o c : Nat) (w : World) (hr : w.rangeAt b o (l.map (·.1))) (hn : l.length ≤ 100000) (hs : ∀ p ∈ l, T.Sl w p.1 p.2.length (T.u8s p.2)) (ht : (T.cat l).length ≤ 1000000000) :
    Calls Tryz.prog 34 #[.slice (some ⟨b, o, none⟩) l.length c] w (T.E (.agg (T.u8s (T.sum (T.cat l))).toArray) w) := by
  have hM := T.Mem.start w
  have HR := Aside0.mk hr
  have HS := Aside0.mk hs
  have HT := Aside0.mk ht
  clear hr hs ht
  generalize hP : T.E (.agg (T.u8s (T.sum (T.cat l))).toArray) w = Post
  go_enter Tryz.func34, Tryz.ntmps34
  have hl := T.sum_len (T.cat l)
  repeat' (first | (go_at_call 57; refine (T.concat_calls l b o c _ (T.range_kept HR.out hM.grown (by simp)) hn (fun p hp => hM.slin (HS.out p hp)) (Nat.le_trans HT.out (Nat.le_of_ble_eq_true rfl))).mono ?_; rintro _ wr ⟨v, rfl, ho, h1, hbc⟩; replace hM := hM.callG hbc ho h1; clear hbc ho h1) | (go_at_call 59; refine (T.sum_calls (T.cat l) _ HT.out _ (T.Mem.gsl hM T.Fg.out)).mono ?_; rintro _ _ ⟨rfl, hbc⟩; replace hM := hM.call hbc; clear hbc) | ((((((with_reducible show wpList _ _ _ _ _ _); (refine T.w_o rfl ?_)))); first | ((with_reducible show T.OW _ ⟨_, .store _ _ _, _, _, _, _⟩ _ _ _ _); ((refine T.op_storeAll _ _ _ rfl _ rfl _ rfl _ _ hM (by (repeat (first | exact T.Sub.head _ | apply T.Sub.tail))) _ T.TN.out (by (((rw [encs_length]; with_reducible assumption)))) (by ((exact T.ones_encs _ _))) (by ((rfl))) ?_; clear hM; intro wld hM))) | ((with_reducible show T.OW _ ⟨_, .alloc _, _, _, _, _⟩ _ _ _ _); refine T.op_alloc _ rfl _ T.TZ.out hM ?_; clear hM; intro blk wld hM hlt)); (try simp only [Act.put, List.setIfInBounds_toArray, List.set_cons_zero, List.set_cons_succ])) | (go_step) | ((fail_if_success (with_reducible show T.Seq _ _ _ _ _ _ _)); (fail_if_success (with_reducible show T.OW _ _ _ _ _ _)); simp only [Int.not_lt, Int.not_le] at *; go_simp))
  (refine T.ret_cell rfl rfl _ rfl _ _ hM T.Fd.out T.TU.out _ T.TN.out (by (((rw [encs_length]; with_reducible assumption)))) ?_)
  subst hP
  exact ⟨rfl, hM.below⟩
theorem T.ofM {w0 w : World} {F : Option Nat} {L : List T.Blk} {b c : Nat} {t : TypeId} (l : List (Value × List Int)) (hM : T.Mem w0 F w L) (hm : .b b t (l.map (·.1)) ∈ L) (hn : l.length ≤ 100000) (hs : ∀ p ∈ l, T.Sl w p.1 p.2.length (T.u8s p.2)) (ht : (T.cat l).length ≤ 1000000000) :
    Calls Tryz.prog 34 #[.slice (some ⟨b, 0, none⟩) l.length c] w (T.E (.agg (T.u8s (T.sum (T.cat l))).toArray) w) :=
  T.of_calls l b 0 c w (T.range_all hM hm) hn hs ht
theorem T.of2 {w0 w : World} {F : Option Nat} {L : List T.Blk} {b c : Nat} {t : TypeId} {v1 v2 : Value} (b1 b2 : List Int) (hM : T.Mem w0 F w L) (hm : .b b t [v1, v2] ∈ L) (h1 : T.Sl w v1 b1.length (T.u8s b1)) (h2 : T.Sl w v2 b2.length (T.u8s b2))
    (ht : (b1 ++ b2).length ≤ 1000000000) : Calls Tryz.prog 34 #[.slice (some ⟨b, 0, none⟩) 2 c] w (T.E (.agg (T.u8s (T.sum (b1 ++ b2))).toArray) w) := by
  have e : T.cat [(v1, b1), (v2, b2)] = b1 ++ b2 := by simp [T.cat]
  have := T.ofM (c := c) [(v1, b1), (v2, b2)] hM hm (Nat.le_of_ble_eq_true rfl) (by simp; exact ⟨h1, h2⟩) (by rw [e]; exact ht)
  rw [e] at this
  exact this
theorem T.of3 {w0 w : World} {F : Option Nat} {L : List T.Blk} {b c : Nat} {t : TypeId} {v1 v2 v3 : Value} (b1 b2 b3 : List Int) (hM : T.Mem w0 F w L) (hm : .b b t [v1, v2, v3] ∈ L) (h1 : T.Sl w v1 b1.length (T.u8s b1)) (h2 : T.Sl w v2 b2.length (T.u8s b2)) (h3 : T.Sl w v3 b3.length (T.u8s b3))
    (ht : (b1 ++ (b2 ++ b3)).length ≤ 1000000000) : Calls Tryz.prog 34 #[.slice (some ⟨b, 0, none⟩) 3 c] w (T.E (.agg (T.u8s (T.sum (b1 ++ (b2 ++ b3)))).toArray) w) := by
  have e : T.cat [(v1, b1), (v2, b2), (v3, b3)] = b1 ++ (b2 ++ b3) := by simp [T.cat]
  have := T.ofM (c := c) [(v1, b1), (v2, b2), (v3, b3)] hM hm (Nat.le_of_ble_eq_true rfl) (by simp; exact ⟨h1, h2, h3⟩) (by rw [e]; exact ht)
  rw [e] at this
  exact this
theorem T.wof_calls (n : Int) (w : World) : Calls Tryz.prog 68 #[.int .u64 n] w (T.E (.agg (T.u64s [n, 0, 0, 0]).toArray) w) := by
  have hM := T.Mem.start w
  generalize hP : T.E (.agg (T.u64s [n, 0, 0, 0]).toArray) w = Post
  go_enter Tryz.func68, Tryz.ntmps68
  repeat' (first | ((((((with_reducible show wpList _ _ _ _ _ _); (refine T.w_o rfl ?_)))); first | ((with_reducible show T.OW _ ⟨_, .store _ _ _, _, _, _, _⟩ _ _ _ _); ((refine T.op_storeAll _ _ _ rfl _ rfl _ rfl _ _ hM (by (repeat ((exact T.Sub.head _)))) _ T.TN.out (by ((rfl))) (by ((exact T.ones_all rfl))) (by ((rfl))) ?_; clear hM; intro wld hM))) | ((with_reducible show T.OW _ ⟨_, .alloc _, _, _, _, _⟩ _ _ _ _); refine T.op_alloc _ rfl _ T.TZ.out hM ?_; clear hM; intro blk wld hM hlt)); (try simp only [Act.put, List.setIfInBounds_toArray, List.set_cons_zero, List.set_cons_succ])) | (go_step))
  (refine T.ret_cell rfl rfl _ rfl _ _ hM T.Fd.out T.TU.out _ T.TN.out (by ((rfl))) ?_)
  subst hP
  exact ⟨rfl, hM.below⟩
def T.wat (a : List Int) (i : Int) : Int := if i < 0 ∨ 4 ≤ i then 0 else T.gi a i.toNat
theorem T.wat_calls (a : List Int) (ha : a.length = 4) (i : Int) (w : World) : Calls Tryz.prog 118 #[.agg (T.u64s a).toArray, .int .i64 i] w (T.E (.int .u64 (T.wat a i)) w) := by
  have hM := T.Mem.start w
  generalize hP : T.E (.int .u64 (T.wat a i)) w = Post
  by_cases h0 : i < 0
  · have d0 : decide (i < 0) = true := decide_eq_true h0
    go_enter Tryz.func118, Tryz.ntmps118
    repeat' (first | ((((((with_reducible show wpList _ _ _ _ _ _); (refine T.w_o rfl ?_)))); (((with_reducible show T.OW _ ⟨_, .box _ _, _, _, _, _⟩ _ _ _ _); refine T.op_box _ _ rfl _ rfl hM ?_; clear hM; intro blk wld hM hlt))); (try simp only [Act.put, List.setIfInBounds_toArray, List.set_cons_zero, List.set_cons_succ])) | go_skip | (go_step) | go_back)
    subst hP
    exact ⟨by rw [T.wat, if_pos (by omega)]; rfl, hM.below⟩
  · have d0 : decide (i < 0) = false := decide_eq_false h0
    by_cases h4 : 4 ≤ i
    · have d4 : decide (4 ≤ i) = true := decide_eq_true h4
      go_enter Tryz.func118, Tryz.ntmps118
      repeat' (first | ((((((with_reducible show wpList _ _ _ _ _ _); (refine T.w_o rfl ?_)))); (((with_reducible show T.OW _ ⟨_, .box _ _, _, _, _, _⟩ _ _ _ _); refine T.op_box _ _ rfl _ rfl hM ?_; clear hM; intro blk wld hM hlt))); (try simp only [Act.put, List.setIfInBounds_toArray, List.set_cons_zero, List.set_cons_succ])) | go_guarded | (go_step) | go_back | ((fail_if_success (with_reducible show T.Seq _ _ _ _ _ _ _)); (fail_if_success (with_reducible show T.OW _ _ _ _ _ _)); simp only [Int.not_lt, Int.not_le] at *; go_simp))
      subst hP
      exact ⟨by rw [T.wat, if_pos (by omega)], hM.below⟩
    · have d4 : decide (4 ≤ i) = false := decide_eq_false h4
      have h0' : 0 ≤ i := by omega
      have h4' : i < 4 := by omega
      obtain ⟨j, rfl⟩ := Int.eq_ofNat_of_zero_le h0'
      have hj : j < 4 := by omega
      go_enter Tryz.func118, Tryz.ntmps118
      repeat' (first | ((((((with_reducible show wpList _ _ _ _ _ _); (refine T.w_o rfl ?_)))); first | ((with_reducible show T.OW _ ⟨_, .load _ _, _, _, _, _⟩ _ _ _ _); ((refine T.ofx (T.x_loadInt rfl rfl T.Fd.out T.TS.out (by ((omega))) hM) ?_))) | ((with_reducible show T.OW _ ⟨_, .box _ _, _, _, _, _⟩ _ _ _ _); refine T.op_box _ _ rfl _ rfl hM ?_; clear hM; intro blk wld hM hlt)); (try simp only [Act.put, List.setIfInBounds_toArray, List.set_cons_zero, List.set_cons_succ])) | go_guarded | (go_step) | go_back | ((fail_if_success (with_reducible show T.Seq _ _ _ _ _ _ _)); (fail_if_success (with_reducible show T.OW _ _ _ _ _ _)); simp only [Int.not_lt, Int.not_le] at *; go_simp))
      subst hP
      exact ⟨by rw [T.wat, if_neg (by omega)]; rfl, hM.below⟩
def T.of32s (b : List Int) : Nat → List Int
  | 0 => [0, 0, 0, 0]
  | i + 1 => (T.of32s b i).set (3 - i / 8) (Go.bits .or .u64 (IntKind.u64.wrap (T.gi (T.of32s b i) (3 - i / 8) * 256)) (IntKind.u64.wrap (T.gi b i)))
theorem T.of32s_len (b : List Int) : ∀ i, (T.of32s b i).length = 4
  | 0 => rfl
  | i + 1 => by rw [T.of32s, List.length_set, T.of32s_len b i]
def T.of32 (b : List Int) : List Int := T.of32s b 32
theorem T.of32_len (b : List Int) : (T.of32 b).length = 4 := T.of32s_len b 32
theorem T.of32_calls (b : List Int) (hb : b.length = 32) (w : World) : Calls Tryz.prog 69 #[.agg (T.u8s b).toArray] w (T.E (.agg (T.u64s (T.of32 b)).toArray) w) := by
  have hM := T.Mem.start w
  generalize hP : T.E (.agg (T.u64s (T.of32 b)).toArray) w = Post
  go_enter Tryz.func69, Tryz.ntmps69
  repeat' (first | ((((((with_reducible show wpList _ _ _ _ _ _); (refine T.w_o rfl ?_)))); first | ((with_reducible show T.OW _ ⟨_, .load _ _, _, _, _, _⟩ _ _ _ _); ((refine T.ofx (T.x_loadAll rfl rfl T.Fd.out T.TU.out T.TN.out (by (((rw [encs_length]; with_reducible assumption)))) hM) ?_))) | ((with_reducible show T.OW _ ⟨_, .alloc _, _, _, _, _⟩ _ _ _ _); refine T.op_alloc _ rfl _ T.TZ.out hM ?_; clear hM; intro blk wld hM hlt) | ((with_reducible show T.OW _ ⟨_, .box _ _, _, _, _, _⟩ _ _ _ _); refine T.op_box _ _ rfl _ rfl hM ?_; clear hM; intro blk wld hM hlt)); (try simp only [Act.put, List.setIfInBounds_toArray, List.set_cons_zero, List.set_cons_succ])) | (go_step))
  obtain ⟨bx, rfl⟩ := T.n1 hM
  obtain ⟨b2, rfl⟩ := T.n2 hM
  obtain ⟨b3, rfl⟩ := T.n3 hM
  go_loopg [8] (32 + 1) (fun kq vv Wd => ∃ i : Nat, vv = .int .i64 i ∧ i ≤ 32 ∧ 32 - i < kq ∧ Aside0 (T.Mem w none Wd [.b bx 47 (T.u64s (T.of32s b i)), .b b2 47 (T.u64s [0, 0, 0, 0]), .b b3 44 (T.u8s b)]))
  case atStart => exact ⟨0, rfl, by omega, by omega, ⟨hM⟩⟩
  case round =>
    clear hM
    obtain ⟨i, rfl, hi, hg, hMo⟩ := hrel
    have hM := hMo.out
    clear hMo
    by_cases hlt : i < 32
    · have hltz : (i : Int) < 32 := by omega
      have cb : decide ((i : Int) < 32) = true := decide_eq_true hltz
      have hi0 : (0 : Int) ≤ (i : Int) := by omega
      have hl := T.of32s_len b i
      have e1 : IntKind.i64.wrap (3 - (i : Int) / 8) = ((3 - i / 8 : Nat) : Int) := by rw [T.w64 (by omega) (by omega)]; omega
      repeat' (first | ((((((with_reducible show wpList _ _ _ _ _ _); (refine T.w_o rfl ?_)))); first | ((with_reducible show T.OW _ ⟨_, .load _ _, _, _, _, _⟩ _ _ _ _); ((refine T.ofx (T.x_loadInt rfl rfl T.Fd.out T.TS.out (by ((omega))) hM) ?_))) | ((with_reducible show T.OW _ ⟨_, .store _ _ _, _, _, _, _⟩ _ _ _ _); ((refine T.op_storeInt _ _ _ rfl _ _ rfl _ _ rfl _ _ hM (by (repeat ((exact T.Sub.head _)))) T.TN.out (by ((omega))) ?_; clear hM; intro wld hM))) | ((with_reducible show T.OW _ ⟨_, .index _ _ _, _, _, _, _⟩ _ _ _ _); refine T.ofx (T.x_index rfl rfl rfl T.TA.out T.TS.out T.TN.out (by ((with_reducible assumption))) (by ((omega))) (by ((with_reducible assumption)))) ?_)); (try simp only [Act.put, List.setIfInBounds_toArray, List.set_cons_zero, List.set_cons_succ])) | (go_step))
      go_roundg (32 - i)
      case measure => omega
      case rel => exact ⟨i + 1, by go_num, by omega, by omega, ⟨hM⟩⟩
    · have hiN : i = 32 := by omega
      have hltz : ¬ (i : Int) < 32 := by omega
      have cb : decide ((i : Int) < 32) = false := decide_eq_false hltz
      rw [hiN] at hM
      have hl := T.of32s_len b 32
      repeat' (first | ((((((with_reducible show wpList _ _ _ _ _ _); (refine T.w_o rfl ?_)))); first | ((with_reducible show T.OW _ ⟨_, .load _ _, _, _, _, _⟩ _ _ _ _); ((refine T.ofx (T.x_loadAll rfl rfl T.Fd.out T.TU.out T.TN.out (by (((rw [encs_length]; with_reducible assumption)))) hM) ?_))) | ((with_reducible show T.OW _ ⟨_, .store _ _ _, _, _, _, _⟩ _ _ _ _); ((refine T.op_storeAll _ _ _ rfl _ rfl _ rfl _ _ hM (by (repeat (first | exact T.Sub.head _ | apply T.Sub.tail))) _ T.TN.out (by (((rw [encs_length]; with_reducible assumption)))) (by ((exact T.ones_encs _ _))) (by ((rfl))) ?_; clear hM; intro wld hM)))); (try simp only [Act.put, List.setIfInBounds_toArray, List.set_cons_zero, List.set_cons_succ])) | (go_step) | ((fail_if_success (with_reducible show T.Seq _ _ _ _ _ _ _)); (fail_if_success (with_reducible show T.OW _ _ _ _ _ _)); simp only [Int.not_lt, Int.not_le] at *; go_simp))
      (refine T.ret_cell rfl rfl _ rfl _ _ hM T.Fd.out T.TU.out _ T.TN.out (by (((rw [encs_length]; with_reducible assumption)))) ?_)
      subst hP
      exact ⟨rfl, hM.below⟩
def T.byteOf (a : List Int) (i : Nat) : Int := T.gi a (3 - i / 8) / 2 ^ (56 - 8 * (i % 8)) % 256
def T.wbs (a : List Int) : Nat → List Int
  | 0 => T.z32
  | i + 1 => (T.wbs a i).set i (T.byteOf a i)
theorem T.wbs_len (a : List Int) : ∀ i, (T.wbs a i).length = 32
  | 0 => rfl
  | i + 1 => by rw [T.wbs, List.length_set, T.wbs_len a i]
def T.wbytes (a : List Int) : List Int := T.wbs a 32
theorem T.wbytes_len (a : List Int) : (T.wbytes a).length = 32 := T.wbs_len a 32
theorem T.wbytes_calls (a : List Int) (ha : a.length = 4) (w : World) : Calls Tryz.prog 56 #[.agg (T.u64s a).toArray] w (T.E (.agg (T.u8s (T.wbytes a)).toArray) w) := by
  have hM := T.Mem.start w
  generalize hP : T.E (.agg (T.u8s (T.wbytes a)).toArray) w = Post
  go_enter Tryz.func56, Tryz.ntmps56
  repeat' (first | ((((((with_reducible show wpList _ _ _ _ _ _); (refine T.w_o rfl ?_)))); first | ((with_reducible show T.OW _ ⟨_, .alloc _, _, _, _, _⟩ _ _ _ _); refine T.op_alloc _ rfl _ T.TZ.out hM ?_; clear hM; intro blk wld hM hlt) | ((with_reducible show T.OW _ ⟨_, .box _ _, _, _, _, _⟩ _ _ _ _); refine T.op_box _ _ rfl _ rfl hM ?_; clear hM; intro blk wld hM hlt)); (try simp only [Act.put, List.setIfInBounds_toArray, List.set_cons_zero, List.set_cons_succ])) | (go_step))
  obtain ⟨bx, rfl⟩ := T.n1 hM
  obtain ⟨b2, rfl⟩ := T.n2 hM
  obtain ⟨b3, rfl⟩ := T.n3 hM
  go_loopg [5] (32 + 1) (fun kq vv Wd => ∃ i : Nat, vv = .int .i64 i ∧ i ≤ 32 ∧ 32 - i < kq ∧ Aside0 (T.Mem w none Wd [.b bx 44 (T.u8s (T.wbs a i)), .b b2 44 (T.u8s T.z32), .b b3 47 (T.u64s a)]))
  case atStart => exact ⟨0, rfl, by omega, by omega, ⟨hM⟩⟩
  case round =>
    clear hM
    obtain ⟨i, rfl, hi, hg, hMo⟩ := hrel
    have hM := hMo.out
    clear hMo
    by_cases hlt : i < 32
    · have hltz : (i : Int) < 32 := by omega
      have cb : decide ((i : Int) < 32) = true := decide_eq_true hltz
      have hi0 : (0 : Int) ≤ (i : Int) := by omega
      have hl := T.wbs_len a i
      have e1 : IntKind.i64.wrap (3 - (i : Int) / 8) = ((3 - i / 8 : Nat) : Int) := by rw [T.w64 (by omega) (by omega)]; omega
      repeat' (first | ((((((with_reducible show wpList _ _ _ _ _ _); (refine T.w_o rfl ?_)))); first | ((with_reducible show T.OW _ ⟨_, .load _ _, _, _, _, _⟩ _ _ _ _); ((refine T.ofx (T.x_loadInt rfl rfl T.Fd.out T.TS.out (by ((omega))) hM) ?_))) | ((with_reducible show T.OW _ ⟨_, .store _ _ _, _, _, _, _⟩ _ _ _ _); ((refine T.op_storeInt _ _ _ rfl _ _ rfl _ _ rfl _ _ hM (by (repeat ((exact T.Sub.head _)))) T.TN.out (by ((omega))) ?_; clear hM; intro wld hM)))); (try simp only [Act.put, List.setIfInBounds_toArray, List.set_cons_zero, List.set_cons_succ])) | (go_step))

      go_roundg (32 - i)
      case measure => omega
      case rel => exact ⟨i + 1, by go_num, by omega, by omega, ⟨hM⟩⟩
    · have hiN : i = 32 := by omega
      have hltz : ¬ (i : Int) < 32 := by omega
      have cb : decide ((i : Int) < 32) = false := decide_eq_false hltz
      rw [hiN] at hM
      have hl := T.wbs_len a 32
      repeat' (first | ((((((with_reducible show wpList _ _ _ _ _ _); (refine T.w_o rfl ?_)))); first | ((with_reducible show T.OW _ ⟨_, .load _ _, _, _, _, _⟩ _ _ _ _); ((refine T.ofx (T.x_loadAll rfl rfl T.Fd.out T.TU.out T.TN.out (by (((rw [encs_length]; with_reducible assumption)))) hM) ?_))) | ((with_reducible show T.OW _ ⟨_, .store _ _ _, _, _, _, _⟩ _ _ _ _); ((refine T.op_storeAll _ _ _ rfl _ rfl _ rfl _ _ hM (by (repeat (first | exact T.Sub.head _ | apply T.Sub.tail))) _ T.TN.out (by (((rw [encs_length]; with_reducible assumption)))) (by ((exact T.ones_encs _ _))) (by ((rfl))) ?_; clear hM; intro wld hM)))); (try simp only [Act.put, List.setIfInBounds_toArray, List.set_cons_zero, List.set_cons_succ])) | (go_step) | ((fail_if_success (with_reducible show T.Seq _ _ _ _ _ _ _)); (fail_if_success (with_reducible show T.OW _ _ _ _ _ _)); simp only [Int.not_lt, Int.not_le] at *; go_simp))
      (refine T.ret_cell rfl rfl _ rfl _ _ hM T.Fd.out T.TU.out _ T.TN.out (by (((rw [encs_length]; with_reducible assumption)))) ?_)
      subst hP
      exact ⟨rfl, hM.below⟩
attribute [irreducible] T.of32 T.wbytes T.wat
end Go.Proofs.YtdklknfgcepcbaaGreat.X
