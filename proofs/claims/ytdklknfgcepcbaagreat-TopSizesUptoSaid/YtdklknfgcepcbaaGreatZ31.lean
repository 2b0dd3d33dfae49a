/- Texts of this proof, laid together by wip/tools/pack.py: TM2, TM3. -/
import Derived.Test.YtdklknfgcepcbaaGreatZ30
namespace Go.Proofs.YtdklknfgcepcbaaGreat.X
open Go.RowKit Go.Proofs.YtdklknfgcepcbaaGreatW.PrintWords Go.Proofs.YtdklknfgcepcbaaGreatW.PrintLast Go.Proofs.YtdklknfgcepcbaaGreatW.PrintMore
set_option linter.unusedSimpArgs false
set_option linter.unusedVariables false
set_option maxHeartbeats 2000000
set_option maxRecDepth 20000
theorem T.eqf_nil (A : Option Addr) (n c : Nat) (fv : Value) (w : World) : Calls Tryz.prog 106 #[.slice none 0 0, .slice A n c, fv] w (T.E (.bool (decide (n = 0))) w) := by
  have hM := T.Mem.start w
  by_cases h0 : n = 0
  · subst h0
    generalize hP : T.E (.bool (decide ((0 : Nat) = 0))) w = Post
    go_enter Tryz.func106, Tryz.ntmps106
    repeat' (first | (go_step) | ((fail_if_success (with_reducible show T.Seq _ _ _ _ _ _ _)); (fail_if_success (with_reducible show T.OW _ _ _ _ _ _)); simp only [Int.not_lt, Int.not_le] at *; go_simp))
    refine T.wp_rounds 1 ?_
    unfold T.rounds
    repeat' (first | (go_step) | go_back | ((fail_if_success (with_reducible show T.Seq _ _ _ _ _ _ _)); (fail_if_success (with_reducible show T.OW _ _ _ _ _ _)); simp only [Int.not_lt, Int.not_le] at *; go_simp))
    subst hP
    exact ⟨rfl, hM.below⟩
  · have e : decide (n = 0) = false := decide_eq_false h0
    rw [e]
    have d1 : (0 == (n : Int)) = false := beq_eq_false_iff_ne.2 (by omega)
    have d2 : decide ((0 : Int) = (n : Int)) = false := decide_eq_false (by omega)
    have d3 : ((0 : Int) != (n : Int)) = true := by rw [bne, d1]; rfl
    generalize hP : T.E (.bool false) w = Post
    go_enter Tryz.func106, Tryz.ntmps106
    repeat' (first | (go_step) | go_back)
    subst hP
    exact ⟨rfl, hM.below⟩
def T.sameB (h : T.Head) (b : T.BlkV) : Bool := h.eq b.h && (decide ([] = b.ids) && decide (b.txs.length = 0))
theorem T.same_calls (h : T.Head) (k : h.ok) (b : T.BlkV) (w : World) (hb : b.At w) : Calls Tryz.prog 60 #[.agg (h.cells ++ [T.nilS, T.nilS]).toArray, .agg b.cells.toArray] w (T.E (.bool (T.sameB h b)) w) := by
  have hM := T.Mem.start w
  have HB := Aside0.mk hb
  have kb := hb.ok
  have hl1 : (h.cells ++ [T.nilS, T.nilS]).length = 137 := by rw [List.length_append, h.len k]; rfl
  have hl2 := b.len kb
  have hh1 : ((h.cells ++ [T.nilS, T.nilS]).drop 0).take 135 = h.cells := by rw [List.drop_zero, ← h.len k, List.take_left]
  have hh2 := b.hs kb
  have hla := b.l_at kb
  have hta := b.t_at kb
  have n1 : (h.cells ++ [T.nilS, T.nilS])[135]? = some T.nilS := by rw [List.getElem?_append_right (by rw [h.len k]; decide), h.len k]; rfl
  have n2 : (h.cells ++ [T.nilS, T.nilS])[136]? = some T.nilS := by rw [List.getElem?_append_right (by rw [h.len k]; decide), h.len k]; rfl
  have hlh := h.len k
  have hlb := b.h.len kb
  obtain ⟨At, ct, htv, _⟩ := id hb.t.s
  rw [htv] at hta
  clear hb
  generalize hP : T.E (.bool (T.sameB h b)) w = Post
  have hs : T.sameB h b = (h.eq b.h && (decide ([] = b.ids) && decide (b.txs.length = 0))) := rfl
  obtain ⟨qb, hq⟩ : ∃ qb, decide (b.txs.length = 0) = qb := ⟨_, rfl⟩
  rw [hs, hq] at hP
  have HQ := Aside0.mk hq
  clear hq
  cases hz : h.eq b.h
  all_goals rw [hz] at hP
  · go_enter Tryz.func60, Tryz.ntmps60
    repeat' (first | ((((((with_reducible show wpList _ _ _ _ _ _); (refine T.w_o rfl ?_)))); first | ((with_reducible show T.OW _ ⟨_, .load _ _, _, _, _, _⟩ _ _ _ _); first | (refine T.ofx (T.x_loadAgg rfl rfl T.Fd.out T.TU.out T.TN.out (by ((omega))) hh1 hM) ?_) | (refine T.ofx (T.x_loadAgg rfl rfl T.Fd.out T.TU.out T.TN.out (by ((omega))) hh2 hM) ?_)) | ((with_reducible show T.OW _ ⟨_, .box _ _, _, _, _, _⟩ _ _ _ _); refine T.op_box _ _ rfl _ rfl hM ?_; clear hM; intro blk wld hM hlt) | ((with_reducible show T.OW _ ⟨_, .binOp .eql _ _ _ _, _, _, _, _⟩ _ _ _ _); ((refine T.ofx (T.x_eqlHead rfl rfl rfl (by with_reducible assumption) (by with_reducible assumption)) ?_; try simp only [hz])))); (try simp only [Act.put, List.setIfInBounds_toArray, List.set_cons_zero, List.set_cons_succ])) | go_skip | (go_step) | go_back)
    subst hP
    exact ⟨rfl, hM.below⟩
  · cases hz2 : decide ([] = b.ids)
    all_goals rw [hz2] at hP
    all_goals go_enter Tryz.func60, Tryz.ntmps60
    all_goals repeat' (first | (go_at_call 105; refine (T.equalId_calls [] b.ids (fun _ h => (List.not_mem_nil h).elim) HB.out.kids (by decide) _ _ _ (T.Sl.nil _) (HB.out.l.kept hM.below)).mono ?_; rintro _ _ ⟨rfl, hbc⟩; replace hM := hM.call hbc; clear hbc; rw [hz2]) | (go_at_call 106; refine (T.eqf_nil _ _ _ _ _).mono ?_; rintro _ _ ⟨rfl, hbc⟩; replace hM := hM.call hbc; clear hbc; rw [HQ.out]) | ((((((with_reducible show wpList _ _ _ _ _ _); first | refine T.w_o rfl ?_ | ((with_reducible show wpList _ _ _ (⟨_, _, _, _, _, some _⟩ :: _) _ _); refine T.w_g rfl ?_)))); first | ((with_reducible show T.OW _ ⟨_, .load _ _, _, _, _, _⟩ _ _ _ _); first | (refine T.ofx (T.x_loadAgg rfl rfl T.Fd.out T.TU.out T.TN.out (by ((omega))) hh1 hM) ?_) | (refine T.ofx (T.x_loadAgg rfl rfl T.Fd.out T.TU.out T.TN.out (by ((omega))) hh2 hM) ?_) | (refine T.ofx (T.x_load rfl rfl T.Fd.out T.TS.out n1 hM) ?_) | (refine T.ofx (T.x_load rfl rfl T.Fd.out T.TS.out n2 hM) ?_) | (refine T.ofx (T.x_load rfl rfl T.Fd.out T.TS.out hla hM) ?_) | (refine T.ofx (T.x_load rfl rfl T.Fd.out T.TS.out hta hM) ?_)) | ((with_reducible show T.OW _ ⟨_, .box _ _, _, _, _, _⟩ _ _ _ _); refine T.op_box _ _ rfl _ rfl hM ?_; clear hM; intro blk wld hM hlt) | ((with_reducible show T.OW _ ⟨_, .binOp .eql _ _ _ _, _, _, _, _⟩ _ _ _ _); ((refine T.ofx (T.x_eqlHead rfl rfl rfl (by with_reducible assumption) (by with_reducible assumption)) ?_; try simp only [hz])))); (try simp only [Act.put, List.setIfInBounds_toArray, List.set_cons_zero, List.set_cons_succ])) | go_skip | go_guarded | (go_step) | go_back | ((fail_if_success (with_reducible show T.Seq _ _ _ _ _ _ _)); (fail_if_success (with_reducible show T.OW _ _ _ _ _ _)); simp only [Int.not_lt, Int.not_le] at *; go_simp))
    all_goals subst hP
    all_goals exact ⟨rfl, hM.below⟩
theorem T.Mem.belowF {w0 w : World} {L : List T.Blk} {g : Nat} {t : TypeId} {cs : List Value} (h : T.Mem w0 (some g) w L) (hm : .b g t cs ∈ L) (h0 : w0.heap[g]? = some (.cells cs.toArray t)) : Below w0.heap.size w0 w := by
  refine ⟨h.grown.os, h.grown.tape, h.grown.output, h.grown.size, fun k hk => ?_⟩
  by_cases e : k = g
  · subst e
    exact (h.row _ hm : w.heap[k]? = _).trans h0.symm
  · exact h.grown.block k hk (fun h => e (by cases h; rfl))
def T.tip0 (bits : Int) (v : Value) : T.TipV := ⟨⟨T.hfirst bits, T.nilS, T.nilS, [], []⟩, v, T.nilS, [T.bleaf (T.hfirst bits)], []⟩
theorem T.tip0_at (bits : Int) (h0 : 0 ≤ bits) (h1 : bits < 4294967296) (v : Value) (w : World) (hs : T.Sl w v 1 (T.bleaf (T.hfirst bits)).cells) : (T.tip0 bits v).At w :=
  ⟨⟨T.hfirst_ok bits, T.hfirst_nums bits h0 h1, fun _ h => (List.not_mem_nil h).elim, Nat.zero_le _, T.Sl.nil _, ⟨Nat.zero_le _, T.Sl.nil _, fun _ h => (List.not_mem_nil h).elim⟩⟩,
   fun y hy => by rw [List.mem_singleton.1 hy]; exact T.bleaf_okP _, by simp [T.tip0], by show T.Sl w v 1 (T.rc T.Tot.cells [T.bleaf (T.hfirst bits)]); rw [T.rc_one]; exact hs, fun _ h => (List.not_mem_nil h).elim, Nat.zero_le _, T.Sl.nil _⟩
theorem T.tip_blk (h : T.Head) (k : h.ok) (v : Value) : ((h.cells ++ [T.nilS, T.nilS, v, T.nilS]).drop 0).take 137 = h.cells ++ [T.nilS, T.nilS] := by
  have e : h.cells ++ [T.nilS, T.nilS, v, T.nilS] = (h.cells ++ [T.nilS, T.nilS]) ++ [v, T.nilS] := by simp
  rw [e, List.drop_zero, show (137 : Nat) = (h.cells ++ [T.nilS, T.nilS]).length by rw [List.length_append, h.len k]; rfl, List.take_left]
theorem T.tip0_cells (bits : Int) (v : Value) : (T.tip0 bits v).cells = (T.hfirst bits).cells ++ [T.nilS, T.nilS, v, T.nilS] := by simp [T.tip0, T.TipV.cells, T.BlkV.cells]
def T.goodL (l : List T.BlkV) : Prop := ∃ b0 r, l = b0 :: r ∧ T.tOk b0.h.bits = true ∧ T.sameB (T.hfirst b0.h.bits) b0 = true ∧ ∀ b ∈ r, T.hmay b.h = true
def T.WCheck (l : List T.BlkV) (w : World) (e : Ending) (w' : World) : Prop := ∃ (cs : List Value) (err : Int), cs.length = 139 ∧ (∀ v ∈ cs, v.oneCell' = true) ∧ e = .returned (.tuple #[.agg cs.toArray, .int .i64 err]) ∧ Below w.heap.size w w' ∧ (err = 0 → T.goodL l) ∧
  (∀ b0, l = [b0] → T.tOk b0.h.bits = true → T.sameB (T.hfirst b0.h.bits) b0 = true → err = 0 ∧ ∃ v, cs = (T.tip0 b0.h.bits v).cells ∧ w'.ownsRow w.heap.size 120 37 v 1 (T.bleaf (T.hfirst b0.h.bits)).cells) ∧
  (∀ b0 b1, l = [b0, b1] → T.tOk b0.h.bits = true → T.sameB (T.hfirst b0.h.bits) b0 = true → (∀ v, T.ConcP (T.tip0 b0.h.bits v) b1) → err = 0)
theorem T.zer3 (e : Int) : (e = 0 ∧ (e == 0) = true) ∨ (e ≠ 0 ∧ (e == 0) = false ∧ decide (e = 0) = false) := by
  by_cases h : e = 0
  · exact .inl ⟨h, by rw [h]; rfl⟩
  · exact .inr ⟨h, beq_eq_false_iff_ne.2 h, decide_eq_false h⟩
theorem T.zero139 : ((T.Head.zero.cells ++ [T.nilS, T.nilS]) ++ [T.nilS, T.nilS]).length = 139 := rfl
theorem T.zero139o : ∀ v ∈ ((T.Head.zero.cells ++ [T.nilS, T.nilS]) ++ [T.nilS, T.nilS]), v.oneCell' = true := T.ones_all (by decide)
theorem T.checkE_calls (A : Option Addr) (c : Nat) (w : World) : Calls Tryz.prog 36 #[.slice A 0 c] w (T.WCheck [] w) := by
  have hM := T.Mem.start w
  have hz139 := T.zero139
  have hzo := T.zero139o
  generalize hP : T.WCheck [] w = Post
  go_enter Tryz.func36, Tryz.ntmps36
  repeat' (first | ((((((with_reducible show wpList _ _ _ _ _ _); (refine T.w_o rfl ?_)))); (((with_reducible show T.OW _ ⟨_, .alloc _, _, _, _, _⟩ _ _ _ _); refine T.op_alloc _ rfl _ T.TZ.out hM ?_; clear hM; intro blk wld hM hlt))); (try simp only [Act.put, List.setIfInBounds_toArray, List.set_cons_zero, List.set_cons_succ])) | (go_step))
  go_step3
  repeat' (first | ((((((with_reducible show wpList _ _ _ _ _ _); (refine T.w_o rfl ?_)))); first | ((with_reducible show T.OW _ ⟨_, .store _ _ _, _, _, _, _⟩ _ _ _ _); ((refine T.op_storeAll _ _ _ rfl _ rfl _ rfl _ _ hM (by (repeat ((exact T.Sub.head _)))) _ T.TN.out (by ((with_reducible assumption))) (by ((with_reducible assumption))) (by ((with_reducible assumption))) ?_; clear hM; intro wld hM))) | ((with_reducible show T.OW _ ⟨_, .build _ _, _, _, _, _⟩ _ _ _ _); ((refine T.ofx (T.x_buildS0 rfl inferInstance inferInstance rfl) ?_)))); (try simp only [Act.put, List.setIfInBounds_toArray, List.set_cons_zero, List.set_cons_succ])) | (go_step))
  (refine T.ret_ct rfl rfl _ rfl _ rfl _ _ hM T.Fd.out T.TU.out _ T.TN.out (by ((with_reducible assumption))) ?_)
  subst hP
  exact ⟨_, 9, hz139, hzo, rfl, hM.below, fun h => (by cases h), fun _ h => (by cases h), fun _ _ h => (by cases h)⟩
theorem T.checkN_calls (b0 : T.BlkV) (r : List T.BlkV) (n : Nat) (hn : n = r.length + 1) (A : Option Addr) (c : Nat) (w : World) (hl : T.BlksAt w (.slice A n c) (b0 :: r)) : Calls Tryz.prog 36 #[.slice A n c] w (T.WCheck (b0 :: r) w) := by
  have hM := T.Mem.start w
  have hz139 := T.zero139
  have hzo := T.zero139o
  have hz137 : (T.Head.zero.cells ++ [T.nilS, T.nilS]).length = 137 := rfl
  have HL := Aside0.mk hl
  have HS := Aside0.mk (show T.Sl w (.slice A n c) n (T.rc T.BlkV.cells (b0 :: r)) by have := hl.s; rwa [List.length_cons, ← hn] at this)
  have hb0 := hl.all b0 List.mem_cons_self
  have HB0 := Aside0.mk hb0
  have k0 := hb0.ok
  obtain ⟨b, o, rfl⟩ := HS.out.adr (by omega)
  have hrc : T.rc T.BlkV.cells (b0 :: r) = b0.cells ++ T.rc T.BlkV.cells r := T.rc_cons _ _
  have hbl := b0.len k0
  have HBT := Aside0.mk (show (T.rc T.BlkV.cells (b0 :: r))[133]? = some (.int .u32 b0.h.bits) by
    rw [hrc, List.getElem?_append_left (by rw [hbl]; decide), T.BlkV.cells, List.getElem?_append_left (by rw [b0.h.len k0]; decide)]
    exact b0.h.bits_at k0)
  have HR0 := Aside0.mk (show ((T.rc T.BlkV.cells (b0 :: r)).drop 0).take 137 = b0.cells by rw [List.drop_zero, hrc, ← hbl, List.take_left])
  have HT := Aside0.mk (show T.Sl w (.slice (some ⟨b, o + 137, none⟩) (n - 1) (c - 1)) (n - 1) (T.rc T.BlkV.cells r) by
    have h := HS.out.hi (i := 1) (k := 137)
    have e : (T.rc T.BlkV.cells (b0 :: r)).drop (1 * 137) = T.rc T.BlkV.cells r := by rw [hrc, Nat.one_mul, ← hbl, List.drop_left]
    rw [e, Nat.one_mul] at h
    exact h)
  have h0b := hb0.nums.bits.1
  have h1b := hb0.nums.bits.2
  have hnc : n ≤ c := HS.out.cap
  have HNN := Aside0.mk (show n ≤ 1000000 by have := hl.n; rw [List.length_cons] at this; omega)
  have HKR := Aside0.mk (fun x hx => hl.all x (List.mem_cons_of_mem _ hx))
  obtain ⟨m, hm⟩ : ∃ m, m = n - 1 := ⟨_, rfl⟩
  rw [← hm] at HT
  have hnm : n = m + 1 := by omega
  have HM := Aside0.mk (show r.length = m by omega)
  have hn0 : (0 : Int) < (n : Int) := by omega
  have hn1 : ((n : Int) == 0) = false := beq_eq_false_iff_ne.2 (by omega)
  have hn2 : 1 ≤ n := by omega
  have hn4 : 0 < n := by omega
  have hn5 : ¬ (n : Int) ≤ 0 := by omega
  have hn3 : n - 1 = m := hm.symm
  have HNM := Aside0.mk hnm
  clear hl hb0 hn hm hrc hnm
  generalize hP : T.WCheck (b0 :: r) w = Post
  have hfo := T.hfirst_ok b0.h.bits
  have hfl := (T.hfirst b0.h.bits).len hfo
  have hfn := (T.hfirst b0.h.bits).ones
  cases htk : T.tOk b0.h.bits
  · go_enter Tryz.func36, Tryz.ntmps36
    repeat' (first | ((((((with_reducible show wpList _ _ _ _ _ _); (refine T.w_o rfl ?_)))); (((with_reducible show T.OW _ ⟨_, .alloc _, _, _, _, _⟩ _ _ _ _); refine T.op_alloc _ rfl _ T.TZ.out hM ?_; clear hM; intro blk wld hM hlt))); (try simp only [Act.put, List.setIfInBounds_toArray, List.set_cons_zero, List.set_cons_succ])) | (go_step) | ((fail_if_success (with_reducible show T.Seq _ _ _ _ _ _ _)); (fail_if_success (with_reducible show T.OW _ _ _ _ _ _)); simp only [Int.not_lt, Int.not_le] at *; go_simp))
    go_step3
    repeat' (first | ((with_reducible show Code.wp _ (Code.region 4 _ true) _ _ _); refine T.mregion 4 (.p 0 (.p 1 (.p 2 (.p 3 (.t 4 (.p 5 (.p 6 (.t 7 (.a 8 (.p 9 (.p 10 .nil))))))))))) 1000 (by kernel_rfl) (fun _ _ _ _ h => h) hM (List.Sublist.refl _) ?_; clear hM; intro wld hM) | (go_at_call 28; refine (T.first_no _ h0b h1b htk _).mono ?_; rintro _ _ ⟨rfl, hbc⟩; replace hM := hM.call hbc; clear hbc) | ((with_reducible show T.Seq _ _ _ (.a _ _) _ _ _); ((refine T.sq_as rfl rfl hM ?_; (try simp only [Act.put, List.setIfInBounds_toArray, List.set_cons_zero, List.set_cons_succ])))) | ((((((with_reducible show wpList _ _ _ _ _ _); (refine T.w_o rfl ?_)))); first | ((with_reducible show T.OW _ ⟨_, .load _ _, _, _, _, _⟩ _ _ _ _); ((refine T.ofx (T.x_slCell rfl rfl (hM.slin HS.out) T.TS.out HBT.out) ?_))) | ((with_reducible show T.OW _ ⟨_, .store _ _ _, _, _, _, _⟩ _ _ _ _); ((refine T.op_storeAll _ _ _ rfl _ rfl _ rfl _ _ hM (by (repeat (first | exact T.Sub.head _ | apply T.Sub.tail))) _ T.TN.out (by (first | with_reducible assumption | rfl)) (by (first | with_reducible assumption | exact T.ones_all rfl)) (by ((with_reducible assumption))) ?_; clear hM; intro wld hM))) | ((with_reducible show T.OW _ ⟨_, .alloc _, _, _, _, _⟩ _ _ _ _); refine T.op_alloc _ rfl _ T.TZ.out hM ?_; clear hM; intro blk wld hM hlt) | ((with_reducible show T.OW _ ⟨_, .build _ _, _, _, _, _⟩ _ _ _ _); ((refine T.ofx (T.x_buildS0 rfl inferInstance inferInstance rfl) ?_)))); (try simp only [Act.put, List.setIfInBounds_toArray, List.set_cons_zero, List.set_cons_succ])) | ((with_reducible show T.Seq _ _ _ _ _ _ _); first | ((with_reducible show T.Seq _ _ _ (.p _ _) _ _ _); first | (apply T.sq_p rfl rfl; (focus intro wS; ((go_simp; with_reducible rfl))); (try simp only [Act.put, List.setIfInBounds_toArray, List.set_cons_zero, List.set_cons_succ])) | (refine T.sq_pskip rfl rfl ?_; (try simp only [Act.put, List.setIfInBounds_toArray, List.set_cons_zero, List.set_cons_succ]))) | ((with_reducible show T.Seq _ _ _ (.t _ _) _ _ _); ((refine T.sq_skip rfl rfl ?_; (try simp only [Act.put, List.setIfInBounds_toArray, List.set_cons_zero, List.set_cons_succ])))) | ((with_reducible show T.Seq _ _ _ .nil _ _ _); refine T.sq_nil ?_)) | (go_step) | ((fail_if_success (with_reducible show T.Seq _ _ _ _ _ _ _)); (fail_if_success (with_reducible show T.OW _ _ _ _ _ _)); simp only [Int.not_lt, Int.not_le] at *; go_simp))
    (refine T.ret_ct rfl rfl _ rfl _ rfl _ _ hM T.Fd.out T.TU.out _ T.TN.out (by ((with_reducible assumption))) ?_)
    subst hP
    exact ⟨_, 12, hz139, hzo, rfl, hM.below, fun h => (by cases h), fun _ h1 h2 => (by cases h1; rw [htk] at h2; cases h2), fun _ _ h1 h2 => (by cases h1; rw [htk] at h2; cases h2)⟩
  · have hbo := (T.bleaf (T.hfirst b0.h.bits)).ones
    cases hsb : T.sameB (T.hfirst b0.h.bits) b0
    all_goals have hc1 : c = 1 → m = 0 := fun h => by have := HNM.out; omega
    all_goals have HC1 := Aside0.mk hc1
    all_goals clear hc1
    all_goals have q1 : ∀ v : Value, ((T.hfirst b0.h.bits).cells ++ [T.nilS, T.nilS, v, T.nilS]).length = 139 := fun v => by rw [List.length_append, hfl]; rfl
    all_goals have q2 := fun v : Value => T.tip_blk (T.hfirst b0.h.bits) hfo v
    all_goals have q3 : ((T.hfirst b0.h.bits).cells ++ [T.nilS, T.nilS]).length = 137 := by rw [List.length_append, hfl]; rfl
    · go_enter Tryz.func36, Tryz.ntmps36
      repeat' (first | ((((((with_reducible show wpList _ _ _ _ _ _); (refine T.w_o rfl ?_)))); (((with_reducible show T.OW _ ⟨_, .alloc _, _, _, _, _⟩ _ _ _ _); refine T.op_alloc _ rfl _ T.TZ.out hM ?_; clear hM; intro blk wld hM hlt))); (try simp only [Act.put, List.setIfInBounds_toArray, List.set_cons_zero, List.set_cons_succ])) | (go_step) | ((fail_if_success (with_reducible show T.Seq _ _ _ _ _ _ _)); (fail_if_success (with_reducible show T.OW _ _ _ _ _ _)); simp only [Int.not_lt, Int.not_le] at *; go_simp))
      go_step3
      repeat' (first | ((with_reducible show Code.wp _ (Code.region 4 _ true) _ _ _); refine T.mregion 4 (.p 0 (.p 1 (.p 2 (.p 3 (.t 4 (.p 5 (.p 6 (.t 7 (.a 8 (.p 9 (.p 10 .nil))))))))))) 1000 (by kernel_rfl) (fun _ _ _ _ h => h) hM (List.Sublist.refl _) ?_; clear hM; intro wld hM) | (go_at_call 28; refine (T.first_yes _ h0b h1b htk _).mono ?_; rintro _ wr ⟨v, rfl, ho, hbc⟩; (obtain ⟨Ag, cg, rfl⟩ := T.own_slice ho); replace hM := hM.callG hbc ho hbo; clear hbc ho; have q1v := q1 (.slice Ag 1 cg); have q2v := q2 (.slice Ag 1 cg); have q4v : ∀ v ∈ (T.hfirst b0.h.bits).cells ++ [T.nilS, T.nilS, Value.slice Ag 1 cg, T.nilS], v.oneCell' = true := T.ones_app hfn (T.ones_all rfl)) | (go_at_call 60; refine (T.same_calls _ hfo b0 _ (HB0.out.kept hM.below)).mono ?_; rintro _ _ ⟨rfl, hbc⟩; replace hM := hM.call hbc; clear hbc; rw [hsb]) | ((with_reducible show T.Seq _ _ _ (.a _ _) _ _ _); ((refine T.sq_ag rfl rfl (fun K hK => ?_)))) | (((first | ((with_reducible show wpList _ _ _ _ _ _); (refine T.w_o rfl ?_)) | (with_reducible show T.OW _ _ _ _ _ _)); first | ((with_reducible show T.OW _ ⟨_, .load _ _, _, _, _, _⟩ _ _ _ _); ((refine T.ofx (T.x_slCell rfl rfl (hM.slin HS.out) T.TS.out HBT.out) ?_))) | ((with_reducible show T.OW _ ⟨_, .store _ _ _, _, _, _, _⟩ _ _ _ _); ((refine T.op_storeAll _ _ _ rfl _ rfl _ rfl _ _ hM (by (repeat (first | exact T.Sub.head _ | apply T.Sub.tail))) _ T.TN.out (by ((with_reducible assumption))) (by ((with_reducible assumption))) (by ((with_reducible assumption))) ?_; clear hM; intro wld hM))) | ((with_reducible show T.OW _ ⟨_, .alloc _, _, _, _, _⟩ _ _ _ _); refine T.op_alloc _ rfl _ T.TZ.out hM ?_; clear hM; intro blk wld hM hlt) | ((with_reducible show T.OW _ ⟨_, .build _ _, _, _, _, _⟩ _ _ _ _); ((refine T.ofx (T.x_buildS0 rfl inferInstance inferInstance rfl) ?_)))); (try simp only [Act.put, List.setIfInBounds_toArray, List.set_cons_zero, List.set_cons_succ])) | ((with_reducible show T.Seq _ _ _ _ _ _ _); first | ((with_reducible show T.Seq _ _ _ (.p _ _) _ _ _); ((apply T.sq_p rfl rfl; (focus intro wS; ((go_simp; with_reducible rfl))); (try simp only [Act.put, List.setIfInBounds_toArray, List.set_cons_zero, List.set_cons_succ])))) | ((with_reducible show T.Seq _ _ _ (.t _ _) _ _ _); ((apply T.sq_t rfl rfl; (focus intro wS hS; first | exact T.x_loadAgg rfl rfl T.Fd.out T.TU.out T.TN.out (by ((omega))) q2v hS | exact T.x_slRow rfl rfl (hS.slin HS.out) T.TU.out T.TN.out HR0.out hbl); (try simp only [Act.put, List.setIfInBounds_toArray, List.set_cons_zero, List.set_cons_succ])))) | ((with_reducible show T.Seq _ _ _ .nil _ _ _); refine T.sq_nil ?_)) | (go_at_K; refine hK.out _ _ _ hM (by (repeat ((exact List.Sublist.refl _)))) ?_; clear hK K) | ((with_reducible show T.OW _ ⟨_, .call _, _, _, _, _⟩ _ _ _ _); refine T.OW.mk ?_; go_simp) | (go_step) | ((fail_if_success (with_reducible show T.Seq _ _ _ _ _ _ _)); (fail_if_success (with_reducible show T.OW _ _ _ _ _ _)); simp only [Int.not_lt, Int.not_le] at *; go_simp))
      (refine T.ret_ct rfl rfl _ rfl _ rfl _ _ hM T.Fd.out T.TU.out _ T.TN.out (by ((with_reducible assumption))) ?_)
      subst hP
      exact ⟨_, 12, hz139, hzo, rfl, hM.below, fun h => (by cases h), fun _ h1 _ h3 => (by cases h1; rw [hsb] at h3; cases h3), fun _ _ h1 _ h3 => (by cases h1; rw [hsb] at h3; cases h3)⟩
    · by_cases hcc : c = 1
      · have hm00 : m = 0 := HC1.out hcc
        have hr0 : r = [] := List.eq_nil_of_length_eq_zero (HM.out.trans hm00)
        go_enter Tryz.func36, Tryz.ntmps36
        repeat' (first | ((((((with_reducible show wpList _ _ _ _ _ _); (refine T.w_o rfl ?_)))); (((with_reducible show T.OW _ ⟨_, .alloc _, _, _, _, _⟩ _ _ _ _); refine T.op_alloc _ rfl _ T.TZ.out hM ?_; clear hM; intro blk wld hM hlt))); (try simp only [Act.put, List.setIfInBounds_toArray, List.set_cons_zero, List.set_cons_succ])) | (go_step) | ((fail_if_success (with_reducible show T.Seq _ _ _ _ _ _ _)); (fail_if_success (with_reducible show T.OW _ _ _ _ _ _)); simp only [Int.not_lt, Int.not_le] at *; go_simp))
        go_step3
        repeat' (first | ((with_reducible show Code.wp _ (Code.region 4 _ true) _ _ _); refine T.mregion 4 (.p 0 (.p 1 (.p 2 (.p 3 (.t 4 (.p 5 (.p 6 (.t 7 (.a 8 (.p 9 (.p 10 .nil))))))))))) 1000 (by kernel_rfl) (fun _ _ _ _ h => h) hM (List.Sublist.refl _) ?_; clear hM; intro wld hM) | (go_at_call 28; refine (T.first_yes _ h0b h1b htk _).mono ?_; rintro _ wr ⟨v, rfl, ho, hbc⟩; (obtain ⟨Ag, cg, rfl⟩ := T.own_slice ho); replace hM := hM.callG hbc ho hbo; clear hbc ho; have q1v := q1 (.slice Ag 1 cg); have q2v := q2 (.slice Ag 1 cg); have q4v : ∀ v ∈ (T.hfirst b0.h.bits).cells ++ [T.nilS, T.nilS, Value.slice Ag 1 cg, T.nilS], v.oneCell' = true := T.ones_app hfn (T.ones_all rfl)) | (go_at_call 60; refine (T.same_calls _ hfo b0 _ (HB0.out.kept hM.below)).mono ?_; rintro _ _ ⟨rfl, hbc⟩; replace hM := hM.call hbc; clear hbc; rw [hsb]) | ((with_reducible show T.Seq _ _ _ (.a _ _) _ _ _); ((refine T.sq_ag rfl rfl (fun K hK => ?_)))) | (((first | ((with_reducible show wpList _ _ _ _ _ _); (refine T.w_o rfl ?_)) | (with_reducible show T.OW _ _ _ _ _ _)); first | ((with_reducible show T.OW _ ⟨_, .load _ _, _, _, _, _⟩ _ _ _ _); ((refine T.ofx (T.x_slCell rfl rfl (hM.slin HS.out) T.TS.out HBT.out) ?_))) | ((with_reducible show T.OW _ ⟨_, .store _ _ _, _, _, _, _⟩ _ _ _ _); ((refine T.op_storeAll _ _ _ rfl _ rfl _ rfl _ _ hM (by (repeat ((exact T.Sub.head _)))) _ T.TN.out (by ((with_reducible assumption))) (by ((with_reducible assumption))) (by ((with_reducible assumption))) ?_; clear hM; intro wld hM))) | ((with_reducible show T.OW _ ⟨_, .alloc _, _, _, _, _⟩ _ _ _ _); refine T.op_alloc _ rfl _ T.TZ.out hM ?_; clear hM; intro blk wld hM hlt)); (try simp only [Act.put, List.setIfInBounds_toArray, List.set_cons_zero, List.set_cons_succ])) | ((with_reducible show T.Seq _ _ _ _ _ _ _); first | ((with_reducible show T.Seq _ _ _ (.p _ _) _ _ _); ((apply T.sq_p rfl rfl; (focus intro wS; ((go_simp; with_reducible rfl))); (try simp only [Act.put, List.setIfInBounds_toArray, List.set_cons_zero, List.set_cons_succ])))) | ((with_reducible show T.Seq _ _ _ (.t _ _) _ _ _); ((apply T.sq_t rfl rfl; (focus intro wS hS; first | exact T.x_loadAgg rfl rfl T.Fd.out T.TU.out T.TN.out (by ((omega))) q2v hS | exact T.x_slRow rfl rfl (hS.slin HS.out) T.TU.out T.TN.out HR0.out hbl); (try simp only [Act.put, List.setIfInBounds_toArray, List.set_cons_zero, List.set_cons_succ])))) | ((with_reducible show T.Seq _ _ _ .nil _ _ _); refine T.sq_nil ?_)) | (go_at_K; refine hK.out _ _ _ hM (by (repeat ((exact List.Sublist.refl _)))) ?_; clear hK K) | ((with_reducible show T.OW _ ⟨_, .call _, _, _, _, _⟩ _ _ _ _); refine T.OW.mk ?_; go_simp) | (go_step) | ((fail_if_success (with_reducible show T.Seq _ _ _ _ _ _ _)); (fail_if_success (with_reducible show T.OW _ _ _ _ _ _)); simp only [Int.not_lt, Int.not_le] at *; go_simp))
        go_step3
        repeat' (((go_step)))
        refine T.wp_rounds 1 ?_
        unfold T.rounds
        repeat' (first | ((((((with_reducible show wpList _ _ _ _ _ _); (refine T.w_o rfl ?_)))); first | ((with_reducible show T.OW _ ⟨_, .load _ _, _, _, _, _⟩ _ _ _ _); ((refine T.ofx (T.x_loadAll rfl rfl T.Fd.out T.TU.out T.TN.out (by ((with_reducible assumption))) hM) ?_))) | ((with_reducible show T.OW _ ⟨_, .store _ _ _, _, _, _, _⟩ _ _ _ _); ((refine T.op_storeAll _ _ _ rfl _ rfl _ rfl _ _ hM (by (repeat (first | exact T.Sub.head _ | apply T.Sub.tail))) _ T.TN.out (by ((with_reducible assumption))) (by ((with_reducible assumption))) (by ((with_reducible assumption))) ?_; clear hM; intro wld hM)))); (try simp only [Act.put, List.setIfInBounds_toArray, List.set_cons_zero, List.set_cons_succ])) | (go_step) | ((fail_if_success (with_reducible show T.Seq _ _ _ _ _ _ _)); (fail_if_success (with_reducible show T.OW _ _ _ _ _ _)); simp only [Int.not_lt, Int.not_le] at *; go_simp))
        (refine T.ret_ct rfl rfl _ rfl _ rfl _ _ hM T.Fd.out T.TU.out _ T.TN.out (by ((with_reducible assumption))) ?_)
        subst hP
        exact ⟨_, 0, q1v, q4v, rfl, hM.below, fun _ => ⟨b0, r, rfl, htk, hsb, fun y hy => by rw [hr0] at hy; cases hy⟩, fun b' h _ _ => by cases h; exact ⟨rfl, _, (T.tip0_cells _ _).symm, (hM.row (.g (.slice Ag 1 cg) 120 37 1 (T.bleaf (T.hfirst b0.h.bits)).cells) (by (repeat (first | exact List.Mem.head _ | apply List.Mem.tail)))).1⟩, fun _ _ h => by cases h; cases hr0⟩
      · go_enter Tryz.func36, Tryz.ntmps36
        repeat' (first | ((((((with_reducible show wpList _ _ _ _ _ _); (refine T.w_o rfl ?_)))); (((with_reducible show T.OW _ ⟨_, .alloc _, _, _, _, _⟩ _ _ _ _); refine T.op_alloc _ rfl _ T.TZ.out hM ?_; clear hM; intro blk wld hM hlt))); (try simp only [Act.put, List.setIfInBounds_toArray, List.set_cons_zero, List.set_cons_succ])) | (go_step) | ((fail_if_success (with_reducible show T.Seq _ _ _ _ _ _ _)); (fail_if_success (with_reducible show T.OW _ _ _ _ _ _)); simp only [Int.not_lt, Int.not_le] at *; go_simp))
        go_step3
        repeat' (first | ((with_reducible show Code.wp _ (Code.region 4 _ true) _ _ _); refine T.mregion 4 (.p 0 (.p 1 (.p 2 (.p 3 (.t 4 (.p 5 (.p 6 (.t 7 (.a 8 (.p 9 (.p 10 .nil))))))))))) 1000 (by kernel_rfl) (fun _ _ _ _ h => h) hM (List.Sublist.refl _) ?_; clear hM; intro wld hM) | (go_at_call 28; refine (T.first_yes _ h0b h1b htk _).mono ?_; rintro _ wr ⟨v, rfl, ho, hbc⟩; (obtain ⟨Ag, cg, rfl⟩ := T.own_slice ho); replace hM := hM.callG hbc ho hbo; clear hbc ho; have q1v := q1 (.slice Ag 1 cg); have q2v := q2 (.slice Ag 1 cg); have q4v : ∀ v ∈ (T.hfirst b0.h.bits).cells ++ [T.nilS, T.nilS, Value.slice Ag 1 cg, T.nilS], v.oneCell' = true := T.ones_app hfn (T.ones_all rfl)) | (go_at_call 60; refine (T.same_calls _ hfo b0 _ (HB0.out.kept hM.below)).mono ?_; rintro _ _ ⟨rfl, hbc⟩; replace hM := hM.call hbc; clear hbc; rw [hsb]) | ((with_reducible show T.Seq _ _ _ (.a _ _) _ _ _); ((refine T.sq_ag rfl rfl (fun K hK => ?_)))) | (((first | ((with_reducible show wpList _ _ _ _ _ _); (refine T.w_o rfl ?_)) | (with_reducible show T.OW _ _ _ _ _ _)); first | ((with_reducible show T.OW _ ⟨_, .load _ _, _, _, _, _⟩ _ _ _ _); ((refine T.ofx (T.x_slCell rfl rfl (hM.slin HS.out) T.TS.out HBT.out) ?_))) | ((with_reducible show T.OW _ ⟨_, .store _ _ _, _, _, _, _⟩ _ _ _ _); ((refine T.op_storeAll _ _ _ rfl _ rfl _ rfl _ _ hM (by (repeat ((exact T.Sub.head _)))) _ T.TN.out (by ((with_reducible assumption))) (by ((with_reducible assumption))) (by ((with_reducible assumption))) ?_; clear hM; intro wld hM))) | ((with_reducible show T.OW _ ⟨_, .alloc _, _, _, _, _⟩ _ _ _ _); refine T.op_alloc _ rfl _ T.TZ.out hM ?_; clear hM; intro blk wld hM hlt)); (try simp only [Act.put, List.setIfInBounds_toArray, List.set_cons_zero, List.set_cons_succ])) | ((with_reducible show T.Seq _ _ _ _ _ _ _); first | ((with_reducible show T.Seq _ _ _ (.p _ _) _ _ _); ((apply T.sq_p rfl rfl; (focus intro wS; ((go_simp; with_reducible rfl))); (try simp only [Act.put, List.setIfInBounds_toArray, List.set_cons_zero, List.set_cons_succ])))) | ((with_reducible show T.Seq _ _ _ (.t _ _) _ _ _); ((apply T.sq_t rfl rfl; (focus intro wS hS; first | exact T.x_loadAgg rfl rfl T.Fd.out T.TU.out T.TN.out (by ((omega))) q2v hS | exact T.x_slRow rfl rfl (hS.slin HS.out) T.TU.out T.TN.out HR0.out hbl); (try simp only [Act.put, List.setIfInBounds_toArray, List.set_cons_zero, List.set_cons_succ])))) | ((with_reducible show T.Seq _ _ _ .nil _ _ _); refine T.sq_nil ?_)) | (go_at_K; refine hK.out _ _ _ hM (by (repeat ((exact List.Sublist.refl _)))) ?_; clear hK K) | ((with_reducible show T.OW _ ⟨_, .call _, _, _, _, _⟩ _ _ _ _); refine T.OW.mk ?_; go_simp) | (go_step) | ((fail_if_success (with_reducible show T.Seq _ _ _ _ _ _ _)); (fail_if_success (with_reducible show T.OW _ _ _ _ _ _)); simp only [Int.not_lt, Int.not_le] at *; go_simp))
        go_step3
        repeat' (((go_step)))
        obtain ⟨b4, rfl⟩ := T.n1 hM
        obtain ⟨b2, rfl⟩ := T.n3 hM
        clear q2v q4v q1v
        go_loopg [6, 37] (m + 1) (fun kq v6 v37 Wd => ∃ (i : Nat) (tip : T.TipV), v37 = .int .i64 i ∧ v6 = .int .i64 0 ∧ i ≤ m ∧ m - i < kq ∧ tip.ps.length ≤ i + 1 ∧ (i = 0 → tip = T.tip0 b0.h.bits (.slice Ag 1 cg)) ∧ (∀ y ∈ r.take i, T.hmay y.h = true) ∧ Aside0 (tip.At Wd) ∧ Aside0 (T.Mem w none Wd [.b b4 79 tip.cells, .g (.slice Ag 1 cg) 120 37 1 (T.bleaf (T.hfirst b0.h.bits)).cells, .b b2 79 ((T.Head.zero.cells ++ [T.nilS, T.nilS]) ++ [T.nilS, T.nilS])]))
        case atStart => exact ⟨0, T.tip0 b0.h.bits (.slice Ag 1 cg), rfl, rfl, by omega, by omega, Nat.le_refl _, fun _ => rfl, fun y hy => (by cases hy), ⟨T.tip0_at _ h0b h1b _ _ (hM.gsl (by (repeat (first | exact List.Mem.head _ | apply List.Mem.tail))))⟩, ⟨by rw [T.tip0_cells]; exact hM⟩⟩
        case round =>
          clear hM
          obtain ⟨i, tip, rfl, rfl, hi, hg, hps, hi0, hmays, HTIP, HMO⟩ := hrel
          have HI0 := Aside0.mk hi0
          have HMAY := Aside0.mk hmays
          clear hi0 hmays
          have htl := tip.len HTIP.out.b.ok
          have hto := HTIP.out.ones
          by_cases hlt : i < m
          · have hltz : (i : Int) < (m : Int) := by omega
            have cb : decide ((i : Int) < (m : Int)) = true := decide_eq_true hltz
            have hiz : (0 : Int) ≤ (i : Int) := by omega
            have hlt2 : i < r.length := by rw [HM.out]; exact hlt
            have hmm := HNN.out
            have hmn := HNM.out
            have HPS := Aside0.mk (show tip.ps.length < 1000000 by omega)
            clear hmm hmn
            have H1 := Aside0.mk (T.rc_at (enc := T.BlkV.cells) (k := 137) (fun y hy => y.len (HKR.out y hy).ok) i hlt2)
            have HXW := Aside0.mk (HKR.out _ (List.getElem_mem hlt2))
            have HXI := Aside0.mk (List.getElem?_eq_getElem hlt2)
            have HTK := Aside0.mk (List.take_succ_eq_append_getElem hlt2)
            generalize r[i] = x at *
            clear hlt2
            have hx2 : x.cells.length = 137 := x.len HXW.out.ok
            have hxo := HXW.out.ones
            have HX := Aside0.mk (HXW.out.kept HMO.out.below)
            have HTD := Aside0.mk (HMO.out.slin HT.out)
            have HROW := Aside0.mk (HMO.out.row (.b b4 79 tip.cells) (.head _))
            have hM := T.Mem.startF _ HROW.out
            repeat' (first | (go_at_call 61; refine (T.push_calls tip x _ (HTIP.out.kept (T.Mem.belowF hM T.Fd.out HROW.out)) (HX.out.kept (T.Mem.belowF hM T.Fd.out HROW.out)) HPS.out).mono ?_; rintro _ w3 ⟨cs3, err, hc3, ho3, rfl, hbc, hgood, hconc⟩; have HSZ := Aside0.mk (hM.size (e := .b b4 79 tip.cells) T.Fd.out rfl); have hbl := T.Mem.belowF (hM.call hbc) T.Fd.out HROW.out; clear hM; have hM := HMO.out.call hbl; clear hbl hbc; have HG := Aside0.mk hgood; have HC := Aside0.mk hconc; clear hgood hconc; (rcases T.zer3 err with ⟨rfl, q6⟩ | ⟨q5, q6, q7⟩)) | ((with_reducible show wpList _ _ _ (⟨_, .store 79 (.tmp 4) (.tmp 45), _, _, _, _⟩ :: _) _ _); refine T.w_o rfl ?_; refine T.op_storeK _ _ _ rfl _ rfl _ rfl _ _ hM (by (repeat ((exact T.Sub.head _)))) _ T.TN.out hc3 ho3 htl ?_; clear hM; intro wld hM hks) | ((((((with_reducible show wpList _ _ _ _ _ _); (refine T.w_o rfl ?_)))); first | ((with_reducible show T.OW _ ⟨_, .load _ _, _, _, _, _⟩ _ _ _ _); first | (refine T.ofx (T.x_slRow rfl rfl (HTD.out.kept (T.Mem.belowF hM T.Fd.out HROW.out)) T.TU.out T.TN.out H1.out hx2) ?_) | (refine T.ofx (T.x_loadAll rfl rfl T.Fd.out T.TU.out T.TN.out (by ((with_reducible assumption))) hM) ?_)) | ((with_reducible show T.OW _ ⟨_, .store _ _ _, _, _, _, _⟩ _ _ _ _); ((refine T.op_storeAll _ _ _ rfl _ rfl _ rfl _ _ hM (by (repeat (first | exact T.Sub.head _ | apply T.Sub.tail))) _ T.TN.out (by ((with_reducible assumption))) (by ((with_reducible assumption))) (by ((with_reducible assumption))) ?_; clear hM; intro wld hM))) | ((with_reducible show T.OW _ ⟨_, .alloc _, _, _, _, _⟩ _ _ _ _); refine T.op_alloc _ rfl _ T.TZ.out hM ?_; clear hM; intro blk wld hM hlt) | ((with_reducible show T.OW _ ⟨_, .build _ _, _, _, _, _⟩ _ _ _ _); ((refine T.ofx (T.x_buildS0 rfl inferInstance inferInstance rfl) ?_)))); (try simp only [Act.put, List.setIfInBounds_toArray, List.set_cons_zero, List.set_cons_succ])) | (go_step) | ((fail_if_success (with_reducible show T.Seq _ _ _ _ _ _ _)); (fail_if_success (with_reducible show T.OW _ _ _ _ _ _)); simp only [Int.not_lt, Int.not_le] at *; go_simp))
            · have hmm := HNN.out
              have hmn := HNM.out
              obtain ⟨hmx, t', hcs, _, hln, hat⟩ := HG.out (by simp)
              go_roundg (m - i)
              case measure => omega
              case rel =>
                refine ⟨i + 1, t', (by ((refine congrArg (Value.int .i64) ?_; unfold wrap64; omega))), rfl, by omega, by omega, by omega, fun h => absurd h (Nat.succ_ne_zero _), ?_, ⟨hat _ (hks _ HSZ.out)⟩, ⟨by rw [← hcs]; exact hM⟩⟩
                intro y hy
                rw [HTK.out] at hy
                rcases List.mem_append.1 hy with hy | hy
                · exact HMAY.out y hy
                · rw [List.mem_singleton.1 hy]
                  exact hmx
            · (refine T.ret_ct rfl rfl _ rfl _ rfl _ _ hM T.Fd.out T.TU.out _ T.TN.out (by ((with_reducible assumption))) ?_)
              subst hP
              refine ⟨_, err, hz139, hzo, rfl, hM.below, fun h => absurd h q5, fun b' h _ _ => ?_, fun b' b1 h _ _ hcp => ?_⟩
              · cases h
                have := HM.out
                simp at this
                omega
              · cases h
                have h1 : i = 0 := by have := HM.out; simp at this; omega
                have h2 := HXI.out
                rw [h1] at h2
                cases h2
                exact HC.out (by rw [HI0.out h1]; exact hcp _)
          · have hM := HMO.out
            have hiN : i = m := by omega
            have hltz : ¬ (i : Int) < (m : Int) := by omega
            have cb : decide ((i : Int) < (m : Int)) = false := decide_eq_false hltz
            repeat' (first | ((((((with_reducible show wpList _ _ _ _ _ _); (refine T.w_o rfl ?_)))); first | ((with_reducible show T.OW _ ⟨_, .load _ _, _, _, _, _⟩ _ _ _ _); ((refine T.ofx (T.x_loadAll rfl rfl T.Fd.out T.TU.out T.TN.out (by ((with_reducible assumption))) hM) ?_))) | ((with_reducible show T.OW _ ⟨_, .store _ _ _, _, _, _, _⟩ _ _ _ _); ((refine T.op_storeAll _ _ _ rfl _ rfl _ rfl _ _ hM (by (repeat (first | exact T.Sub.head _ | apply T.Sub.tail))) _ T.TN.out (by ((with_reducible assumption))) (by ((with_reducible assumption))) (by ((with_reducible assumption))) ?_; clear hM; intro wld hM)))); (try simp only [Act.put, List.setIfInBounds_toArray, List.set_cons_zero, List.set_cons_succ])) | (go_step) | ((fail_if_success (with_reducible show T.Seq _ _ _ _ _ _ _)); (fail_if_success (with_reducible show T.OW _ _ _ _ _ _)); simp only [Int.not_lt, Int.not_le] at *; go_simp))
            (refine T.ret_ct rfl rfl _ rfl _ rfl _ _ hM T.Fd.out T.TU.out _ T.TN.out (by ((with_reducible assumption))) ?_)
            subst hP
            refine ⟨_, 0, htl, hto, rfl, hM.below, fun _ => ⟨b0, r, rfl, htk, hsb, fun y hy => HMAY.out y (by rw [hiN, ← HM.out, List.take_length]; exact hy)⟩, fun b' h _ _ => ?_, fun _ _ _ _ _ _ => rfl⟩
            cases h
            have h1 : i = 0 := by have := HM.out; simp at this; omega
            exact ⟨rfl, _, by rw [HI0.out h1], (hM.row (.g (.slice Ag 1 cg) 120 37 1 (T.bleaf (T.hfirst b0.h.bits)).cells) (by (repeat (first | exact List.Mem.head _ | apply List.Mem.tail)))).1⟩
theorem T.check_calls (l : List T.BlkV) (v : Value) (w : World) (hl : T.BlksAt w v l) : Calls Tryz.prog 36 #[v] w (T.WCheck l w) := by
  obtain ⟨A, c, rfl, _⟩ := id hl.s
  cases l with
  | nil => exact T.checkE_calls A c w
  | cons b0 r => exact T.checkN_calls b0 r _ rfl A c w hl
end Go.Proofs.YtdklknfgcepcbaaGreat.X
