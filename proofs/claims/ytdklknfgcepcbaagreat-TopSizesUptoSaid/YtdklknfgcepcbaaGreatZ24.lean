/- Texts of this proof, laid together by wip/tools/pack.py: TG3, TK4, TK5, TK6. -/
import Derived.Test.YtdklknfgcepcbaaGreatZ23
import Derived.Test.YtdklknfgcepcbaaGreatZ22
namespace Go.Proofs.YtdklknfgcepcbaaGreat.X
open Go.RowKit Go.Proofs.YtdklknfgcepcbaaGreatW.PrintWords Go.Proofs.YtdklknfgcepcbaaGreatW.PrintLast Go.Proofs.YtdklknfgcepcbaaGreatW.PrintMore
set_option linter.unusedSimpArgs false
set_option linter.unusedVariables false
set_option maxHeartbeats 2000000
set_option maxRecDepth 20000
def T.hlevel (h : T.Head) : Int := if T.tOk h.bits && h.fit then (if h.height = 0 then 31 else T.tlevel (T.hid h) (T.target h.bits)) else -1
theorem T.hlevel_bound (h : T.Head) : -1 ≤ T.hlevel h ∧ T.hlevel h ≤ 31 := by
  have := T.tlevel_bound (T.hid h) (T.target h.bits)
  unfold T.hlevel
  split
  · split <;> omega
  · omega
theorem T.hlevel_calls (h : T.Head) (k : h.ok) (kn : h.nums) (w : World) : Calls Tryz.prog 20 #[.agg h.cells.toArray] w (T.E (.int .i64 (T.hlevel h)) w) := by
  have hM := T.Mem.start w
  generalize hP : T.E (.int .i64 (T.hlevel h)) w = Post
  have hl := h.len k
  have htl := T.target_len h.bits
  have hil := T.hid_len h
  go_enter Tryz.func20, Tryz.ntmps20
  cases hf : T.tOk h.bits with
  | false =>
    repeat' (first | (go_at_call 39; refine (T.target_calls _ kn.bits.1 kn.bits.2 _).mono ?_; rintro _ _ ⟨rfl, hbc⟩; replace hM := hM.call hbc; clear hbc; rw [hf]) | ((((((with_reducible show wpList _ _ _ _ _ _); (refine T.w_o rfl ?_)))); first | ((with_reducible show T.OW _ ⟨_, .load _ _, _, _, _, _⟩ _ _ _ _); ((refine T.ofx (T.x_load rfl rfl T.Fd.out T.TS.out (h.bits_at k) hM) ?_))) | ((with_reducible show T.OW _ ⟨_, .store _ _ _, _, _, _, _⟩ _ _ _ _); ((refine T.op_storeAll _ _ _ rfl _ rfl _ rfl _ _ hM (by (repeat ((exact T.Sub.head _)))) _ T.TN.out (by (((rw [encs_length]; with_reducible assumption)))) (by ((exact T.ones_encs _ _))) (by ((rfl))) ?_; clear hM; intro wld hM))) | ((with_reducible show T.OW _ ⟨_, .alloc _, _, _, _, _⟩ _ _ _ _); refine T.op_alloc _ rfl _ T.TZ.out hM ?_; clear hM; intro blk wld hM hlt) | ((with_reducible show T.OW _ ⟨_, .box _ _, _, _, _, _⟩ _ _ _ _); refine T.op_box _ _ rfl _ rfl hM ?_; clear hM; intro blk wld hM hlt)); (try simp only [Act.put, List.setIfInBounds_toArray, List.set_cons_zero, List.set_cons_succ])) | (go_step) | go_back | ((fail_if_success (with_reducible show T.Seq _ _ _ _ _ _ _)); (fail_if_success (with_reducible show T.OW _ _ _ _ _ _)); simp only [Int.not_lt, Int.not_le] at *; go_simp))
    subst hP
    rw [T.hlevel, hf]
    exact ⟨rfl, hM.below⟩
  | true =>
    by_cases h0 : h.height < 0
    · have c1 : decide (h.height < 0) = true := decide_eq_true h0
      have hfit : h.fit = false := by unfold T.Head.fit; rw [decide_eq_false (by omega : ¬ 0 ≤ h.height)]; rfl
      repeat' (first | (go_at_call 39; refine (T.target_calls _ kn.bits.1 kn.bits.2 _).mono ?_; rintro _ _ ⟨rfl, hbc⟩; replace hM := hM.call hbc; clear hbc; rw [hf]) | ((((((with_reducible show wpList _ _ _ _ _ _); (refine T.w_o rfl ?_)))); first | ((with_reducible show T.OW _ ⟨_, .load _ _, _, _, _, _⟩ _ _ _ _); first | (refine T.ofx (T.x_load rfl rfl T.Fd.out T.TS.out (h.bits_at k) hM) ?_) | (refine T.ofx (T.x_load rfl rfl T.Fd.out T.TS.out rfl hM) ?_)) | ((with_reducible show T.OW _ ⟨_, .store _ _ _, _, _, _, _⟩ _ _ _ _); ((refine T.op_storeAll _ _ _ rfl _ rfl _ rfl _ _ hM (by (repeat ((exact T.Sub.head _)))) _ T.TN.out (by (((rw [encs_length]; with_reducible assumption)))) (by ((exact T.ones_encs _ _))) (by ((rfl))) ?_; clear hM; intro wld hM))) | ((with_reducible show T.OW _ ⟨_, .alloc _, _, _, _, _⟩ _ _ _ _); refine T.op_alloc _ rfl _ T.TZ.out hM ?_; clear hM; intro blk wld hM hlt) | ((with_reducible show T.OW _ ⟨_, .box _ _, _, _, _, _⟩ _ _ _ _); refine T.op_box _ _ rfl _ rfl hM ?_; clear hM; intro blk wld hM hlt)); (try simp only [Act.put, List.setIfInBounds_toArray, List.set_cons_zero, List.set_cons_succ])) | (go_step) | go_back | ((fail_if_success (with_reducible show T.Seq _ _ _ _ _ _ _)); (fail_if_success (with_reducible show T.OW _ _ _ _ _ _)); simp only [Int.not_lt, Int.not_le] at *; go_simp))
      subst hP
      rw [T.hlevel, hfit, Bool.and_false]
      exact ⟨rfl, hM.below⟩
    · have c1 : decide (h.height < 0) = false := decide_eq_false h0
      by_cases h2 : 1048576 < h.height
      · have c2 : decide (1048576 < h.height) = true := decide_eq_true h2
        have hfit : h.fit = false := by unfold T.Head.fit; rw [decide_eq_false (by omega : ¬ h.height ≤ 1048576), Bool.and_false]
        repeat' (first | (go_at_call 39; refine (T.target_calls _ kn.bits.1 kn.bits.2 _).mono ?_; rintro _ _ ⟨rfl, hbc⟩; replace hM := hM.call hbc; clear hbc; rw [hf]) | ((((((with_reducible show wpList _ _ _ _ _ _); (refine T.w_o rfl ?_)))); first | ((with_reducible show T.OW _ ⟨_, .load _ _, _, _, _, _⟩ _ _ _ _); first | (refine T.ofx (T.x_load rfl rfl T.Fd.out T.TS.out (h.bits_at k) hM) ?_) | (refine T.ofx (T.x_load rfl rfl T.Fd.out T.TS.out rfl hM) ?_)) | ((with_reducible show T.OW _ ⟨_, .store _ _ _, _, _, _, _⟩ _ _ _ _); ((refine T.op_storeAll _ _ _ rfl _ rfl _ rfl _ _ hM (by (repeat ((exact T.Sub.head _)))) _ T.TN.out (by (((rw [encs_length]; with_reducible assumption)))) (by ((exact T.ones_encs _ _))) (by ((rfl))) ?_; clear hM; intro wld hM))) | ((with_reducible show T.OW _ ⟨_, .alloc _, _, _, _, _⟩ _ _ _ _); refine T.op_alloc _ rfl _ T.TZ.out hM ?_; clear hM; intro blk wld hM hlt) | ((with_reducible show T.OW _ ⟨_, .box _ _, _, _, _, _⟩ _ _ _ _); refine T.op_box _ _ rfl _ rfl hM ?_; clear hM; intro blk wld hM hlt)); (try simp only [Act.put, List.setIfInBounds_toArray, List.set_cons_zero, List.set_cons_succ])) | (go_step) | go_back | ((fail_if_success (with_reducible show T.Seq _ _ _ _ _ _ _)); (fail_if_success (with_reducible show T.OW _ _ _ _ _ _)); simp only [Int.not_lt, Int.not_le] at *; go_simp))
        subst hP
        rw [T.hlevel, hfit, Bool.and_false]
        exact ⟨rfl, hM.below⟩
      · have c2 : decide (1048576 < h.height) = false := decide_eq_false h2
        have hfit : h.fit = true := by unfold T.Head.fit; rw [decide_eq_true (by omega : 0 ≤ h.height), decide_eq_true (by omega : h.height ≤ 1048576)]; rfl
        by_cases h3 : h.height = 0
        · have c3 : decide (h.height = 0) = true := decide_eq_true h3
          repeat' (first | (go_at_call 39; refine (T.target_calls _ kn.bits.1 kn.bits.2 _).mono ?_; rintro _ _ ⟨rfl, hbc⟩; replace hM := hM.call hbc; clear hbc; rw [hf]) | ((((((with_reducible show wpList _ _ _ _ _ _); (refine T.w_o rfl ?_)))); first | ((with_reducible show T.OW _ ⟨_, .load _ _, _, _, _, _⟩ _ _ _ _); first | (refine T.ofx (T.x_load rfl rfl T.Fd.out T.TS.out (h.bits_at k) hM) ?_) | (refine T.ofx (T.x_load rfl rfl T.Fd.out T.TS.out rfl hM) ?_)) | ((with_reducible show T.OW _ ⟨_, .store _ _ _, _, _, _, _⟩ _ _ _ _); ((refine T.op_storeAll _ _ _ rfl _ rfl _ rfl _ _ hM (by (repeat ((exact T.Sub.head _)))) _ T.TN.out (by (((rw [encs_length]; with_reducible assumption)))) (by ((exact T.ones_encs _ _))) (by ((rfl))) ?_; clear hM; intro wld hM))) | ((with_reducible show T.OW _ ⟨_, .alloc _, _, _, _, _⟩ _ _ _ _); refine T.op_alloc _ rfl _ T.TZ.out hM ?_; clear hM; intro blk wld hM hlt) | ((with_reducible show T.OW _ ⟨_, .box _ _, _, _, _, _⟩ _ _ _ _); refine T.op_box _ _ rfl _ rfl hM ?_; clear hM; intro blk wld hM hlt)); (try simp only [Act.put, List.setIfInBounds_toArray, List.set_cons_zero, List.set_cons_succ])) | (go_step) | go_back | ((fail_if_success (with_reducible show T.Seq _ _ _ _ _ _ _)); (fail_if_success (with_reducible show T.OW _ _ _ _ _ _)); simp only [Int.not_lt, Int.not_le] at *; go_simp))
          subst hP
          rw [T.hlevel, hfit, hf, Bool.and_self, if_pos rfl, if_pos h3]
          exact ⟨rfl, hM.below⟩
        · have c3 : decide (h.height = 0) = false := decide_eq_false h3
          repeat' (first | ((with_reducible show Code.wp _ (Code.region 8 _ true) _ _ _); refine T.mregion 8 (.t 0 (.t 2 (.a 1 (.a 3 (.p 4 .nil))))) 1000 (by kernel_rfl) (fun _ _ _ _ h => h) hM (List.Sublist.refl _) ?_; clear hM; intro wld hM) | (go_at_call 39; refine (T.target_calls _ kn.bits.1 kn.bits.2 _).mono ?_; rintro _ _ ⟨rfl, hbc⟩; replace hM := hM.call hbc; clear hbc; rw [hf]) | (go_at_call 14; refine (T.hid_calls h k kn _).mono ?_; rintro _ _ ⟨rfl, hbc⟩; replace hM := hM.call hbc; clear hbc) | (go_at_call 40; refine (T.tlevel_calls _ _ hil htl _).mono ?_; rintro _ _ ⟨rfl, hbc⟩; replace hM := hM.call hbc; clear hbc) | (((first | ((with_reducible show wpList _ _ _ _ _ _); (refine T.w_o rfl ?_)) | (with_reducible show T.OW _ _ _ _ _ _)); first | ((with_reducible show T.OW _ ⟨_, .load _ _, _, _, _, _⟩ _ _ _ _); first | (refine T.ofx (T.x_load rfl rfl T.Fd.out T.TS.out (h.bits_at k) hM) ?_) | (refine T.ofx (T.x_load rfl rfl T.Fd.out T.TS.out rfl hM) ?_)) | ((with_reducible show T.OW _ ⟨_, .store _ _ _, _, _, _, _⟩ _ _ _ _); ((refine T.op_storeAll _ _ _ rfl _ rfl _ rfl _ _ hM (by (repeat ((exact T.Sub.head _)))) _ T.TN.out (by (((rw [encs_length]; with_reducible assumption)))) (by ((exact T.ones_encs _ _))) (by ((rfl))) ?_; clear hM; intro wld hM))) | ((with_reducible show T.OW _ ⟨_, .alloc _, _, _, _, _⟩ _ _ _ _); refine T.op_alloc _ rfl _ T.TZ.out hM ?_; clear hM; intro blk wld hM hlt) | ((with_reducible show T.OW _ ⟨_, .box _ _, _, _, _, _⟩ _ _ _ _); refine T.op_box _ _ rfl _ rfl hM ?_; clear hM; intro blk wld hM hlt)); (try simp only [Act.put, List.setIfInBounds_toArray, List.set_cons_zero, List.set_cons_succ])) | ((with_reducible show T.Seq _ _ _ _ _ _ _); first | ((with_reducible show T.Seq _ _ _ (.p _ _) _ _ _); ((apply T.sq_p rfl rfl; (focus intro wS; ((go_simp; with_reducible rfl))); (try simp only [Act.put, List.setIfInBounds_toArray, List.set_cons_zero, List.set_cons_succ])))) | ((with_reducible show T.Seq _ _ _ (.t _ _) _ _ _); ((apply T.sq_t rfl rfl; (focus intro wS hS; (exact T.x_loadAll rfl rfl T.Fd.out T.TU.out T.TN.out (by (first | with_reducible assumption | (rw [encs_length]; with_reducible assumption))) hS)); (try simp only [Act.put, List.setIfInBounds_toArray, List.set_cons_zero, List.set_cons_succ])))) | ((with_reducible show T.Seq _ _ _ .nil _ _ _); refine T.sq_nil ?_) | ((with_reducible show T.Seq _ _ _ (.a _ _) _ _ _); refine T.sq_a rfl rfl (fun K hK => ?_))) | (go_at_K; refine hK.out _ _ _ hM (by (repeat ((exact List.Sublist.refl _)))) ?_; clear hK K) | ((with_reducible show T.OW _ ⟨_, .call _, _, _, _, _⟩ _ _ _ _); refine T.OW.mk ?_; go_simp) | (go_step) | go_back | ((fail_if_success (with_reducible show T.Seq _ _ _ _ _ _ _)); (fail_if_success (with_reducible show T.OW _ _ _ _ _ _)); simp only [Int.not_lt, Int.not_le] at *; go_simp))
          subst hP
          rw [T.hlevel, hfit, hf, Bool.and_self, if_pos rfl, if_neg h3]
          exact ⟨rfl, hM.below⟩
attribute [irreducible] T.hlevel
def T.hmay (h : T.Head) : Bool := T.hlevel h != -1
theorem T.hmay_calls (h : T.Head) (k : h.ok) (kn : h.nums) (w : World) : Calls Tryz.prog 55 #[.agg h.cells.toArray] w (T.E (.bool (T.hmay h)) w) := by
  have hM := T.Mem.start w
  generalize hP : T.E (.bool (T.hmay h)) w = Post
  have hl := h.len k
  go_enter Tryz.func55, Tryz.ntmps55
  repeat' (first | (go_at_call 20; refine (T.hlevel_calls h k kn _).mono ?_; rintro _ _ ⟨rfl, hbc⟩; replace hM := hM.call hbc; clear hbc) | ((((((with_reducible show wpList _ _ _ _ _ _); (refine T.w_o rfl ?_)))); first | ((with_reducible show T.OW _ ⟨_, .load _ _, _, _, _, _⟩ _ _ _ _); ((refine T.ofx (T.x_loadAll rfl rfl T.Fd.out T.TU.out T.TN.out (by ((with_reducible assumption))) hM) ?_))) | ((with_reducible show T.OW _ ⟨_, .box _ _, _, _, _, _⟩ _ _ _ _); refine T.op_box _ _ rfl _ rfl hM ?_; clear hM; intro blk wld hM hlt)); (try simp only [Act.put, List.setIfInBounds_toArray, List.set_cons_zero, List.set_cons_succ])) | (go_step) | go_back | ((fail_if_success (with_reducible show T.Seq _ _ _ _ _ _ _)); (fail_if_success (with_reducible show T.OW _ _ _ _ _ _)); simp only [Int.not_lt, Int.not_le] at *; go_simp))
  subst hP
  exact ⟨rfl, hM.below⟩
def T.bleaf (h : T.Head) : T.Tot := ⟨T.hid h, T.hwork h, 1⟩
theorem T.bleaf_calls (h : T.Head) (k : h.ok) (kn : h.nums) (w : World) : Calls Tryz.prog 53 #[.agg h.cells.toArray] w (T.E (.agg (T.bleaf h).cells.toArray) w) := by
  have hM := T.Mem.start w
  generalize hP : T.E (.agg (T.bleaf h).cells.toArray) w = Post
  have hl := h.len k
  have hil := T.hid_len h
  have hwl := T.hwork_len h
  have hbl : (T.bleaf h).cells.length = 37 := (T.bleaf h).len ⟨hil, hwl⟩
  have hbo := (T.bleaf h).ones
  have hz37 : T.Tot.zero.cells.length = 37 := rfl
  go_enter Tryz.func53, Tryz.ntmps53
  repeat' (first | ((with_reducible show Code.wp _ (Code.region 1 _ true) _ _ _); refine T.mregion 1 (.t 0 (.t 2 (.a 1 (.a 3 (.a 4 (.z 5 .nil)))))) 5 (by kernel_rfl) (fun _ _ _ _ h => h) hM (List.Sublist.refl _) ?_; clear hM; intro wld hM) | (go_at_call 14; refine (T.hid_calls h k kn _).mono ?_; rintro _ _ ⟨rfl, hbc⟩; replace hM := hM.call hbc; clear hbc) | (go_at_call 99; refine (T.hwork_calls h k kn _).mono ?_; rintro _ _ ⟨rfl, hbc⟩; replace hM := hM.call hbc; clear hbc) | (go_at_call 98; refine (T.mleaf_calls _ _ hil hwl _).mono ?_; rintro _ _ ⟨rfl, hbc⟩; replace hM := hM.call hbc; clear hbc; simp only [show (T.Tot.mk (T.hid h) (T.hwork h) 1) = T.bleaf h from rfl]) | (((first | ((with_reducible show wpList _ _ _ _ _ _); (refine T.w_o rfl ?_)) | (with_reducible show T.OW _ _ _ _ _ _)); first | ((with_reducible show T.OW _ ⟨_, .store _ _ _, _, _, _, _⟩ _ _ _ _); ((refine T.op_storeAll _ _ _ rfl _ rfl _ rfl _ _ hM (by (repeat ((exact T.Sub.head _)))) _ T.TN.out (by ((with_reducible assumption))) (by ((with_reducible assumption))) (by ((with_reducible assumption))) ?_; clear hM; intro wld hM))) | ((with_reducible show T.OW _ ⟨_, .alloc _, _, _, _, _⟩ _ _ _ _); refine T.op_alloc _ rfl _ T.TZ.out hM ?_; clear hM; intro blk wld hM hlt) | ((with_reducible show T.OW _ ⟨_, .box _ _, _, _, _, _⟩ _ _ _ _); refine T.op_box _ _ rfl _ rfl hM ?_; clear hM; intro blk wld hM hlt)); (try simp only [Act.put, List.setIfInBounds_toArray, List.set_cons_zero, List.set_cons_succ])) | ((with_reducible show T.Seq _ _ _ _ _ _ _); first | ((with_reducible show T.Seq _ _ _ (.t _ _) _ _ _); ((apply T.sq_t rfl rfl; (focus intro wS hS; (exact T.x_loadAll rfl rfl T.Fd.out T.TU.out T.TN.out (by ((with_reducible assumption))) hS)); (try simp only [Act.put, List.setIfInBounds_toArray, List.set_cons_zero, List.set_cons_succ])))) | ((with_reducible show T.Seq _ _ _ .nil _ _ _); refine T.sq_nil ?_) | ((with_reducible show T.Seq _ _ _ (.a _ _) _ _ _); refine T.sq_a rfl rfl (fun K hK => ?_)) | ((with_reducible show T.Seq _ _ _ (.z _ _) _ _ _); refine T.sq_z rfl rfl (fun K hK => ?_))) | (go_at_K; refine hK.out _ _ _ hM (by (repeat ((exact List.Sublist.refl _)))) ?_; clear hK K) | (go_at_K; refine hK.out _ _ _ hM ?_; clear hK K) | ((with_reducible show T.OW _ ⟨_, .call _, _, _, _, _⟩ _ _ _ _); refine T.OW.mk ?_; go_simp) | (go_step) | ((fail_if_success (with_reducible show T.Seq _ _ _ _ _ _ _)); (fail_if_success (with_reducible show T.OW _ _ _ _ _ _)); simp only [Int.not_lt, Int.not_le] at *; go_simp))
  (refine T.ret_cell rfl rfl _ rfl _ _ hM T.Fd.out T.TU.out _ T.TN.out (by ((with_reducible assumption))) ?_)
  subst hP
  exact ⟨rfl, hM.below⟩
structure T.BlkV where
  h : T.Head
  lv : Value
  tv : Value
  ids : List (List Int)
  txs : List T.TxV
def T.BlkV.cells (b : T.BlkV) : List Value := b.h.cells ++ [b.lv, b.tv]
structure T.BlkV.At (w : World) (b : T.BlkV) : Prop where
  ok : b.h.ok
  nums : b.h.nums
  kids : T.okn 32 b.ids
  n : b.ids.length ≤ 1000000
  l : T.Sl w b.lv b.ids.length (T.rc T.u8s b.ids)
  t : T.TxsAt w b.tv b.txs
theorem T.BlkV.At.kept {w w' : World} {b : T.BlkV} (h : b.At w) (hb : Below w.heap.size w w') : b.At w' := ⟨h.ok, h.nums, h.kids, h.n, h.l.kept hb, h.t.kept hb⟩
theorem T.BlkV.len (b : T.BlkV) (h : b.h.ok) : b.cells.length = 137 := by rw [T.BlkV.cells, List.length_append, b.h.len h]; rfl
theorem T.BlkV.At.ones {w : World} {b : T.BlkV} (h : b.At w) : ∀ v ∈ b.cells, v.oneCell' = true := T.ones_app b.h.ones (T.ones_cons h.l.one1 (T.one_ones h.t.s.one1))
theorem T.BlkV.hs (b : T.BlkV) (h : b.h.ok) : (b.cells.drop 0).take 135 = b.h.cells := by
  rw [List.drop_zero, T.BlkV.cells, ← b.h.len h]
  exact List.take_left
theorem T.BlkV.l_at (b : T.BlkV) (h : b.h.ok) : b.cells[135]? = some b.lv := by
  rw [T.BlkV.cells, List.getElem?_append_right (by rw [b.h.len h]; decide), b.h.len h]; rfl
theorem T.BlkV.t_at (b : T.BlkV) (h : b.h.ok) : b.cells[136]? = some b.tv := by
  rw [T.BlkV.cells, List.getElem?_append_right (by rw [b.h.len h]; decide), b.h.len h]; rfl
theorem T.clevel_calls (b : T.BlkV) (k : b.h.ok) (kn : b.h.nums) (w : World) : Calls Tryz.prog 19 #[.agg b.cells.toArray] w (T.E (.int .i64 (T.hlevel b.h)) w) := by
  have hM := T.Mem.start w
  generalize hP : T.E (.int .i64 (T.hlevel b.h)) w = Post
  have hl := b.h.len k
  have hbl := b.len k
  have hhs := b.hs k
  go_enter Tryz.func19, Tryz.ntmps19
  repeat' (first | (go_at_call 20; refine (T.hlevel_calls _ k kn _).mono ?_; rintro _ _ ⟨rfl, hbc⟩; replace hM := hM.call hbc; clear hbc) | ((((((with_reducible show wpList _ _ _ _ _ _); (refine T.w_o rfl ?_)))); first | ((with_reducible show T.OW _ ⟨_, .load _ _, _, _, _, _⟩ _ _ _ _); ((refine T.ofx (T.x_loadAgg rfl rfl T.Fd.out T.TU.out T.TN.out (by ((omega))) hhs hM) ?_))) | ((with_reducible show T.OW _ ⟨_, .box _ _, _, _, _, _⟩ _ _ _ _); refine T.op_box _ _ rfl _ rfl hM ?_; clear hM; intro blk wld hM hlt)); (try simp only [Act.put, List.setIfInBounds_toArray, List.set_cons_zero, List.set_cons_succ])) | (go_step) | go_back | ((fail_if_success (with_reducible show T.Seq _ _ _ _ _ _ _)); (fail_if_success (with_reducible show T.OW _ _ _ _ _ _)); simp only [Int.not_lt, Int.not_le] at *; go_simp))
  subst hP
  exact ⟨rfl, hM.below⟩
structure T.BlksAt (w : World) (v : Value) (l : List T.BlkV) : Prop where
  n : l.length ≤ 1000000
  s : T.Sl w v l.length (T.rc T.BlkV.cells l)
  all : ∀ b ∈ l, b.At w
theorem T.BlksAt.kept {w w' : World} {v : Value} {l : List T.BlkV} (h : T.BlksAt w v l) (hb : Below w.heap.size w w') : T.BlksAt w' v l := ⟨h.n, h.s.kept hb, fun t ht => (h.all t ht).kept hb⟩
def T.levels (l : List T.BlkV) : List Int := l.map fun b => T.hlevel b.h
theorem T.levels_snoc (l : List T.BlkV) (i : Nat) (h : i < l.length) : encs (Value.int .i64) (T.levels (l.take i)) ++ [Value.int .i64 (T.hlevel (l[i]).h)] = encs (Value.int .i64) (T.levels (l.take (i + 1))) := by
  rw [List.take_succ_eq_append_getElem h]
  unfold T.levels encs
  rw [List.map_append, List.map_append]
  rfl
theorem T.levels_len (l : List T.BlkV) : (T.levels l).length = l.length := List.length_map ..
theorem T.told_calls (l : List T.BlkV) (v : Value) (w : World) (h : T.BlksAt w v l) : Calls Tryz.prog 18 #[v, .func (.func 19) #[] #[]] w (T.EG 3 1 l.length (encs (Value.int .i64) (T.levels l)) w) := by
  have hM := T.Mem.start w
  obtain ⟨A, cc, hv, _, _, _⟩ := id h.s
  subst hv
  have HAT := Aside0.mk h
  clear h
  have hz : (T.Head.zero.cells ++ [T.nilS, T.nilS]).length = 137 := rfl
  generalize hP : T.EG 3 1 l.length (encs (Value.int .i64) (T.levels l)) w = Post
  go_enter Tryz.func18, Tryz.ntmps18
  repeat' (((go_step)))
  have hM := hM.nil 3 1
  go_loopg [5, 10] (l.length + 1) (fun kq v5 v10 Wd => ∃ i : Nat, v10 = .int .i64 i ∧ i ≤ l.length ∧ l.length - i < kq ∧ Aside0 (T.Mem w none Wd [.g v5 3 1 i (encs (Value.int .i64) (T.levels (l.take i)))]))
  case atStart => exact ⟨0, rfl, by omega, by omega, ⟨hM⟩⟩
  case round =>
    clear hM
    obtain ⟨i, rfl, hi, hg, hMo⟩ := hrel
    have hM := hMo.out
    clear hMo
    by_cases hlt : i < l.length
    · have hltz : (i : Int) < (l.length : Int) := by omega
      have cb : decide ((i : Int) < (l.length : Int)) = true := decide_eq_true hltz
      have hi0 : (0 : Int) ≤ (i : Int) := by omega
      obtain ⟨b, o, rfl⟩ := HAT.out.s.adr (by omega)
      have H1 := Aside0.mk (T.rc_at (enc := T.BlkV.cells) (k := 137) (fun x hx => x.len (HAT.out.all x hx).ok) i hlt)
      have HT := Aside0.mk (HAT.out.all _ (List.getElem_mem hlt))
      have HSN := Aside0.mk (T.levels_snoc l i hlt)
      generalize l[i] = x at *
      have hx2 : x.cells.length = 137 := x.len HT.out.ok
      have hxo := HT.out.ones
      have hbb : (i + 1) * 8 ≤ 70368744177664 := by have := HAT.out.n; omega
      repeat' (first | (go_at_call 19; refine (T.clevel_calls _ HT.out.ok HT.out.nums _).mono ?_; rintro _ _ ⟨rfl, hbc⟩; replace hM := hM.call hbc; clear hbc) | ((((((with_reducible show wpList _ _ _ _ _ _); (refine T.w_o rfl ?_)))); first | ((with_reducible show T.OW _ ⟨_, .load _ _, _, _, _, _⟩ _ _ _ _); first | (refine T.ofx (T.x_slRow rfl rfl (hM.slin HAT.out.s) T.TU.out T.TN.out H1.out hx2) ?_) | (refine T.ofx (T.x_loadAll rfl rfl T.Fd.out T.TU.out T.TN.out (by ((with_reducible assumption))) hM) ?_)) | ((with_reducible show T.OW _ ⟨_, .store _ _ _, _, _, _, _⟩ _ _ _ _); ((refine T.op_storeAll _ _ _ rfl _ rfl _ rfl _ _ hM (by (repeat ((exact T.Sub.head _)))) _ T.TN.out (by ((with_reducible assumption))) (by ((with_reducible assumption))) (by ((with_reducible assumption))) ?_; clear hM; intro wld hM))) | ((with_reducible show T.OW _ ⟨_, .alloc _, _, _, _, _⟩ _ _ _ _); refine T.op_alloc _ rfl _ T.TZ.out hM ?_; clear hM; intro blk wld hM hlt) | ((with_reducible show T.OW _ ⟨_, .call ⟨.builtin .append, _, _⟩, _, _, _, _⟩ _ _ _ _); refine T.op_app _ _ _ rfl _ _ _ T.TE.out _ _ _ rfl _ _ _ hM (fun _ => by (repeat (first | exact T.Sub.head _ | apply T.Sub.tail))) (by (exact T.Mem.slB hM T.Fd.out (by ((exact T.one_ones rfl))) (by decide))) (by ((rfl))) (by decide) (by decide) (by ((with_reducible assumption))) ?_; clear hM; intro gsv wld hM) | ((with_reducible show T.OW _ ⟨_, .buildSlice _ _ _, _, _, _, _⟩ _ _ _ _); refine T.op_buildSl _ _ _ rfl _ T.TL.out _ T.TN.out _ T.TZ.out rfl (by decide) (by decide) _ rfl (by (((simp [T.okp, Value.cells, Act.eval, *]; done)))) _ rfl hM ?_; (try simp only [List.map_toArray, List.map_cons, List.map_nil, Act.eval, Array.getD_eq_getD_getElem?, List.toList_toArray, List.getElem?_toArray, List.getElem?_cons_zero, List.getElem?_cons_succ, Option.getD_some, T.segs, List.replicate_succ, List.replicate_zero, List.set_cons_zero, List.set_cons_succ, Value.cells, List.flatten_cons, List.flatten_nil, List.append_nil, List.cons_append, List.nil_append]); clear hM; intro blk wld hM hlt)); (try simp only [Act.put, List.setIfInBounds_toArray, List.set_cons_zero, List.set_cons_succ])) | (go_step) | ((fail_if_success (with_reducible show T.Seq _ _ _ _ _ _ _)); (fail_if_success (with_reducible show T.OW _ _ _ _ _ _)); simp only [Int.not_lt, Int.not_le] at *; go_simp))
      rw [HSN.out] at hM
      have hib := HAT.out.n
      go_roundg (l.length - i)
      case measure => omega
      case rel => exact ⟨i + 1, (by (go_num)), by omega, by omega, ⟨hM.drop (by (repeat (first | exact List.Sublist.refl _ | apply List.Sublist.cons)))⟩⟩
    · have hiN : i = l.length := by omega
      have hltz : ¬ (i : Int) < (l.length : Int) := by omega
      have cb : decide ((i : Int) < (l.length : Int)) = false := decide_eq_false hltz
      subst hiN
      rw [List.take_length] at hM
      repeat' (first | (go_step) | go_back | ((fail_if_success (with_reducible show T.Seq _ _ _ _ _ _ _)); (fail_if_success (with_reducible show T.OW _ _ _ _ _ _)); simp only [Int.not_lt, Int.not_le] at *; go_simp))
      subst hP
      exact hM.eg List.mem_cons_self
theorem T.levels_calls (l : List T.BlkV) (v : Value) (w : World) (h : T.BlksAt w v l) : Calls Tryz.prog 7 #[v] w (T.EG 3 1 l.length (encs (Value.int .i64) (T.levels l)) w) := by
  have hM := T.Mem.start w
  have HAT := Aside0.mk h
  clear h
  generalize hP : T.EG 3 1 l.length (encs (Value.int .i64) (T.levels l)) w = Post
  go_enter Tryz.func7, Tryz.ntmps7
  repeat' (first | (go_at_call 18; refine (T.told_calls l _ _ (HAT.out.kept hM.below)).mono ?_; rintro _ wr ⟨v, rfl, ho, h1, hbc⟩; replace hM := hM.callG hbc ho h1; clear hbc ho h1) | (go_step) | go_back | ((fail_if_success (with_reducible show T.Seq _ _ _ _ _ _ _)); (fail_if_success (with_reducible show T.OW _ _ _ _ _ _)); simp only [Int.not_lt, Int.not_le] at *; go_simp))
  subst hP
  exact hM.eg List.mem_cons_self
theorem T.x_fieldAgg {P : Program} {op : Oper} {a : Act} {w : World} {ty : TypeId} {x : Operand} {f : Nat} {cs vs : List Value} {fs : Array Field} {fd : Field} {n : Nat} (ho : op.op = .field ty x f) (hx : a.eval x = .agg cs.toArray) (hu : P.underlying ty = some (.struct fs)) (hf : fs[f]? = some fd)
    (hg : ∀ w, (isAgg fd.type).run P w = .ok true w) (hi : (P.info? fd.type).map (·.size) = some n) (hv : (cs.drop fd.offset).take n = vs) : (execOp a.eval op).run P w = .ok (.value (.agg vs.toArray)) w := by
  have h := T.part_agg (P := P) hg hi cs vs fd.offset hv w
  have hr : (Instr.field ty (a.eval x) f).run P w = .ok (.agg vs.toArray) w := by
    rw [hx]
    simp only [Instr.field, Sem.run_bind, run_underlying hu w, Result.andThen_ok, hf, asAgg, Sem.run_pure, h]
  unfold execOp
  simp only [ho, hr, Sem.run_bind, Sem.run_pure, Result.andThen_ok]
theorem T.x_totH {op : Oper} {a : Act} {w : World} {x : Operand} (t : T.Tot) (k : t.ok) (ho : op.op = .field 120 x 0) (hx : a.eval x = .agg t.cells.toArray) : (execOp a.eval op).run Tryz.prog w = .ok (.value (.agg (T.u8s t.h).toArray)) w :=
  T.x_fieldAgg (n := 32) ho hx Tryz.underlying120 rfl (fun w => Tryz.isAgg44 w) (T.TN.out (ty := 44)) (t.hs k)
theorem T.x_tot4 {op : Oper} {a : Act} {w : World} {x : Operand} (ho : op.op = .field 120 x 0) (hx : a.eval x = .agg (T.Tot.mk (T.sum [4]) [0, 0, 0, 0] 0).cells.toArray) : (execOp a.eval op).run Tryz.prog w = .ok (.value (.agg (T.u8s (T.sum [4])).toArray)) w := T.x_totH _ ⟨T.sum_len _, rfl⟩ ho hx
def T.hfirst (bits : Int) : T.Head := ⟨0, T.z32, T.sum [2], T.sum [2], T.sum [4], [0, 0, 0, 0], bits, 0⟩
theorem T.hfirst_ok (bits : Int) : (T.hfirst bits).ok := ⟨rfl, T.sum_len _, T.sum_len _, T.sum_len _, rfl⟩
theorem T.hfirst_nums (bits : Int) (h0 : 0 ≤ bits) (h1 : bits < 4294967296) : (T.hfirst bits).nums := ⟨⟨by simp [T.hfirst], by simp [T.hfirst]⟩, ⟨h0, h1⟩, ⟨by simp [T.hfirst], by simp [T.hfirst]⟩⟩
theorem T.lroot0 (w : World) : Calls Tryz.prog 49 #[.slice none 0 0] w (T.E (.agg (T.u8s (T.sum [2])).toArray) w) :=
  T.lroot_calls [] (fun _ h => (List.not_mem_nil h).elim) (by decide) _ w (T.Sl.nil _)
def T.tot4 : T.Tot := ⟨T.sum [4], [0, 0, 0, 0], 0⟩
theorem T.mroot0 (w : World) : Calls Tryz.prog 51 #[.slice none 0 0] w (T.E (.agg T.tot4.cells.toArray) w) := T.mroot_nil 0 none w
theorem T.hwork_R (h : T.Head) : T.R64 (T.hwork h) := by
  unfold T.hwork
  split
  · exact T.work_R _
  · exact T.R64_zero
theorem T.bleaf_okP (h : T.Head) : (T.bleaf h).ok ∧ T.R64 (T.bleaf h).w := ⟨⟨T.hid_len h, T.hwork_len h⟩, T.hwork_R h⟩
theorem T.mapp0 (h : T.Head) (w : World) : Calls Tryz.prog 52 #[.slice none 0 0, .agg (T.bleaf h).cells.toArray] w (T.EG 120 37 1 (T.bleaf h).cells w) := by
  have := T.mapp_calls [] (T.bleaf h) (fun _ h => (List.not_mem_nil h).elim) (T.bleaf_okP h) (by decide) _ w (T.Sl.nil w)
  have e : T.mapp [] (T.bleaf h) = [T.bleaf h] := rfl
  rw [e, T.rc_one] at this
  exact this
def T.WFirst (bits : Int) (w : World) (e : Ending) (w' : World) : Prop :=
  ∃ v, e = .returned (.tuple #[.agg ((T.hfirst bits).cells ++ [T.nilS, T.nilS] ++ [v, T.nilS]).toArray, .bool true]) ∧ w'.ownsRow w.heap.size 120 37 v 1 (T.bleaf (T.hfirst bits)).cells ∧ Below w.heap.size w w'
theorem T.first_no (bits : Int) (h0 : 0 ≤ bits) (h1 : bits < 4294967296) (hf : T.tOk bits = false) (w : World) : Calls Tryz.prog 28 #[.int .u32 bits] w (T.E (.tuple #[.agg ((T.Head.zero.cells ++ [T.nilS, T.nilS]) ++ [T.nilS, T.nilS]).toArray, .bool false]) w) := by
  have hM := T.Mem.start w
  have htl := T.target_len bits
  have hz139 : ((T.Head.zero.cells ++ [T.nilS, T.nilS]) ++ [T.nilS, T.nilS]).length = 139 := rfl
  have hzo : ∀ v ∈ ((T.Head.zero.cells ++ [T.nilS, T.nilS]) ++ [T.nilS, T.nilS]), v.oneCell' = true := T.ones_all (by decide)
  have hz1 : (T.u64s [0, 0, 0, 0]).length = 4 := rfl
  generalize hP : T.E (.tuple #[.agg ((T.Head.zero.cells ++ [T.nilS, T.nilS]) ++ [T.nilS, T.nilS]).toArray, .bool false]) w = Post
  go_enter Tryz.func28, Tryz.ntmps28
  repeat' (first | (go_at_call 39; refine (T.target_calls _ h0 h1 _).mono ?_; rintro _ _ ⟨rfl, hbc⟩; replace hM := hM.call hbc; clear hbc; rw [hf]) | ((((((with_reducible show wpList _ _ _ _ _ _); (refine T.w_o rfl ?_)))); first | ((with_reducible show T.OW _ ⟨_, .store _ _ _, _, _, _, _⟩ _ _ _ _); ((refine T.op_storeAll _ _ _ rfl _ rfl _ rfl _ _ hM (by (repeat (first | exact T.Sub.head _ | apply T.Sub.tail))) _ T.TN.out (by (first | with_reducible assumption | (rw [encs_length]; with_reducible assumption))) (by (first | with_reducible assumption | exact T.ones_encs _ _)) (by ((with_reducible assumption))) ?_; clear hM; intro wld hM))) | ((with_reducible show T.OW _ ⟨_, .alloc _, _, _, _, _⟩ _ _ _ _); refine T.op_alloc _ rfl _ T.TZ.out hM ?_; clear hM; intro blk wld hM hlt) | ((with_reducible show T.OW _ ⟨_, .build _ _, _, _, _, _⟩ _ _ _ _); ((refine T.ofx (T.x_buildS0 rfl inferInstance inferInstance rfl) ?_)))); (try simp only [Act.put, List.setIfInBounds_toArray, List.set_cons_zero, List.set_cons_succ])) | (go_step) | ((fail_if_success (with_reducible show T.Seq _ _ _ _ _ _ _)); (fail_if_success (with_reducible show T.OW _ _ _ _ _ _)); simp only [Int.not_lt, Int.not_le] at *; go_simp))
  (refine T.ret_ct rfl rfl _ rfl _ rfl _ _ hM T.Fd.out T.TU.out _ T.TN.out (by ((with_reducible assumption))) ?_)
  subst hP
  exact ⟨rfl, hM.below⟩
theorem T.first_yes (bits : Int) (h0 : 0 ≤ bits) (h1 : bits < 4294967296) (hf : T.tOk bits = true) (w : World) : Calls Tryz.prog 28 #[.int .u32 bits] w (T.WFirst bits w) := by
  have hM := T.Mem.start w
  have htl := T.target_len bits
  have hz139 : ((T.Head.zero.cells ++ [T.nilS, T.nilS]) ++ [T.nilS, T.nilS]).length = 139 := rfl
  have hz135 : T.Head.zero.cells.length = 135 := rfl
  have hz1 : (T.u64s [0, 0, 0, 0]).length = 4 := rfl
  have hz0 : (T.u8s T.z32).length = 32 := by rw [encs_length]; rfl
  have s2 : (T.u8s (T.sum [2])).length = 32 := by rw [encs_length]; exact T.sum_len _
  have s4 : (T.u8s (T.sum [4])).length = 32 := by rw [encs_length]; exact T.sum_len _
  have ht4 : (T.tot4.cells.drop 0).take 32 = T.u8s (T.sum [4]) := T.tot4.hs ⟨T.sum_len _, rfl⟩
  have hL : (Value.int .i64 0 :: (T.u8s T.z32 ++ (T.u8s (T.sum [2]) ++ (T.u8s (T.sum [2]) ++ (T.u8s (T.sum [4]) ++ (T.u64s [0, 0, 0, 0] ++ [Value.int .u32 bits, Value.int .u64 0])))))).length = 135 := (T.hfirst bits).len (T.hfirst_ok bits)
  have hO : ∀ v ∈ (Value.int .i64 0 :: (T.u8s T.z32 ++ (T.u8s (T.sum [2]) ++ (T.u8s (T.sum [2]) ++ (T.u8s (T.sum [4]) ++ (T.u64s [0, 0, 0, 0] ++ [Value.int .u32 bits, Value.int .u64 0])))))), v.oneCell' = true := (T.hfirst bits).ones
  generalize hP : T.WFirst bits w = Post
  go_enter Tryz.func28, Tryz.ntmps28
  repeat' (first | (go_at_call 39; refine (T.target_calls _ h0 h1 _).mono ?_; rintro _ _ ⟨rfl, hbc⟩; replace hM := hM.call hbc; clear hbc; rw [hf]) | (go_at_call 49; refine (T.lroot0 _).mono ?_; rintro _ _ ⟨rfl, hbc⟩; replace hM := hM.call hbc; clear hbc) | (go_at_call 50; refine (T.croot_nil _).mono ?_; rintro _ _ ⟨rfl, hbc⟩; replace hM := hM.call hbc; clear hbc) | (go_at_call 51; refine (T.mroot0 _).mono ?_; rintro _ _ ⟨rfl, hbc⟩; replace hM := hM.call hbc; clear hbc) | ((with_reducible show wpList _ _ _ (⟨_, .field _ _ _, _, _, _, _⟩ :: _) _ _); refine T.w_o rfl ?_; refine T.ofx (T.x_tot4 rfl rfl) ?_; (try simp only [Act.put, List.setIfInBounds_toArray, List.set_cons_zero, List.set_cons_succ])) | ((((((with_reducible show wpList _ _ _ _ _ _); (refine T.w_o rfl ?_)))); first | ((with_reducible show T.OW _ ⟨_, .store _ _ _, _, _, _, _⟩ _ _ _ _); ((refine T.op_storeAll _ _ _ rfl _ rfl _ rfl _ _ hM (by (repeat ((exact T.Sub.head _)))) _ T.TN.out (by (first | with_reducible assumption | (rw [encs_length]; with_reducible assumption))) (by (first | with_reducible assumption | exact T.ones_encs _ _)) (by ((with_reducible assumption))) ?_; clear hM; intro wld hM))) | ((with_reducible show T.OW _ ⟨_, .alloc _, _, _, _, _⟩ _ _ _ _); refine T.op_alloc _ rfl _ T.TZ.out hM ?_; clear hM; intro blk wld hM hlt) | ((with_reducible show T.OW _ ⟨_, .build _ _, _, _, _, _⟩ _ _ _ _); ((refine T.ofx (T.x_build rfl inferInstance rfl (by (((simp [T.okp, Value.cells, Act.eval, *]; done)))) rfl) ?_; (try simp only [List.map_toArray, List.map_cons, List.map_nil, Act.eval, Array.getD_eq_getD_getElem?, List.toList_toArray, List.getElem?_toArray, List.getElem?_cons_zero, List.getElem?_cons_succ, Option.getD_some, T.segs, List.replicate_succ, List.replicate_zero, List.set_cons_zero, List.set_cons_succ, Value.cells, List.flatten_cons, List.flatten_nil, List.append_nil, List.cons_append, List.nil_append]))))); (try simp only [Act.put, List.setIfInBounds_toArray, List.set_cons_zero, List.set_cons_succ])) | (go_step) | ((fail_if_success (with_reducible show T.Seq _ _ _ _ _ _ _)); (fail_if_success (with_reducible show T.OW _ _ _ _ _ _)); simp only [Int.not_lt, Int.not_le] at *; go_simp))
  have hcells : (Value.int .i64 0 :: (T.u8s T.z32 ++ (T.u8s (T.sum [2]) ++ (T.u8s (T.sum [2]) ++ (T.u8s (T.sum [4]) ++ (T.u64s [0, 0, 0, 0] ++ [Value.int .u32 bits, Value.int .u64 0])))))) = (T.hfirst bits).cells := rfl
  rw [hcells] at hM hL hO
  simp only [hcells]
  clear hcells
  have kf := T.hfirst_ok bits
  have kn := T.hfirst_nums bits h0 h1
  unfold T.WFirst at hP
  have HLF := Aside0.mk hL
  generalize T.hfirst bits = hf at *
  have hq1 : ∀ v : Value, v.oneCell' = true → (hf.cells ++ [T.nilS, T.nilS] ++ [v, T.nilS]).length = 139 := fun v _ => by rw [List.length_append, List.length_append, hL]; rfl
  have hq2 : ∀ v : Value, v.oneCell' = true → ∀ u ∈ hf.cells ++ [T.nilS, T.nilS] ++ [v, T.nilS], u.oneCell' = true := fun v hv => T.ones_app (T.ones_app hO (T.ones_all (by decide))) (T.ones_cons hv (T.one_ones rfl))
  repeat' (first | ((with_reducible show Code.wp _ (Code.region 5 _ true) _ _ _); refine T.mregion 5 (.t 0 (.p 1 (.t 2 (.a 3 (.a 4 (.p 5 (.z 6 (.p 7 .nil)))))))) 6 (by kernel_rfl) (fun _ _ _ _ h => h) hM (List.Sublist.refl _) ?_; clear hM; intro wld hM) | (go_at_call 53; refine (T.bleaf_calls _ kf kn _).mono ?_; rintro _ _ ⟨rfl, hbc⟩; replace hM := hM.call hbc; clear hbc) | (go_at_call 52; refine (T.mapp0 _ _).mono ?_; rintro _ wr ⟨v, rfl, ho, h1, hbc⟩; (obtain ⟨Ag, cg, rfl⟩ := T.own_slice ho); replace hM := hM.callG hbc ho h1; clear hbc ho h1; have q1 := hq1 (.slice Ag 1 cg) rfl; have q2 := hq2 (.slice Ag 1 cg) rfl) | ((with_reducible show T.Seq _ _ _ (.p _ _) _ _ _); apply T.sq_p rfl rfl; (focus intro wS; (with_reducible show Sem.run _ (execOp _ ⟨_, .build _ _, _, _, _, _⟩) _ = _); exact T.x_build rfl inferInstance rfl (by (((simp [T.okp, Value.cells, Act.eval, *]; done)))) rfl); (try simp only [Act.put, List.setIfInBounds_toArray, List.set_cons_zero, List.set_cons_succ]); (try simp only [List.map_toArray, List.map_cons, List.map_nil, Act.eval, Array.getD_eq_getD_getElem?, List.toList_toArray, List.getElem?_toArray, List.getElem?_cons_zero, List.getElem?_cons_succ, Option.getD_some, T.segs, List.replicate_succ, List.replicate_zero, List.set_cons_zero, List.set_cons_succ, Value.cells, List.flatten_cons, List.flatten_nil, List.append_nil, List.cons_append, List.nil_append])) | (((((with_reducible show T.OW _ _ _ _ _ _))); (((with_reducible show T.OW _ ⟨_, .store _ _ _, _, _, _, _⟩ _ _ _ _); ((refine T.op_storeAll _ _ _ rfl _ rfl _ rfl _ _ hM (by (repeat (first | exact T.Sub.head _ | apply T.Sub.tail))) _ T.TN.out (by ((with_reducible assumption))) (by ((with_reducible assumption))) (by ((with_reducible assumption))) ?_; clear hM; intro wld hM))))); (try simp only [Act.put, List.setIfInBounds_toArray, List.set_cons_zero, List.set_cons_succ])) | ((with_reducible show T.Seq _ _ _ _ _ _ _); first | ((with_reducible show T.Seq _ _ _ (.p _ _) _ _ _); ((apply T.sq_p rfl rfl; (focus intro wS; ((go_simp; with_reducible rfl))); (try simp only [Act.put, List.setIfInBounds_toArray, List.set_cons_zero, List.set_cons_succ])))) | ((with_reducible show T.Seq _ _ _ (.t _ _) _ _ _); ((apply T.sq_t rfl rfl; (focus intro wS hS; (exact T.x_loadAll rfl rfl T.Fd.out T.TU.out T.TN.out (by ((with_reducible assumption))) hS)); (try simp only [Act.put, List.setIfInBounds_toArray, List.set_cons_zero, List.set_cons_succ])))) | ((with_reducible show T.Seq _ _ _ .nil _ _ _); refine T.sq_nil ?_) | ((with_reducible show T.Seq _ _ _ (.a _ _) _ _ _); refine T.sq_a rfl rfl (fun K hK => ?_)) | ((with_reducible show T.Seq _ _ _ (.z _ _) _ _ _); refine T.sq_z rfl rfl (fun K hK => ?_))) | (go_at_K; refine hK.out _ _ _ hM (by (repeat (first | exact List.Sublist.refl _ | apply List.Sublist.cons))) ?_; clear hK K) | (go_at_K; refine hK.out _ _ _ hM ?_; clear hK K) | ((with_reducible show T.OW _ ⟨_, .call _, _, _, _, _⟩ _ _ _ _); refine T.OW.mk ?_; go_simp) | (go_step) | ((fail_if_success (with_reducible show T.Seq _ _ _ _ _ _ _)); (fail_if_success (with_reducible show T.OW _ _ _ _ _ _)); simp only [Int.not_lt, Int.not_le] at *; go_simp))
  (refine T.ret_ct rfl rfl _ rfl _ rfl _ _ hM T.Fd.out T.TU.out _ T.TN.out (by ((with_reducible assumption))) ?_)
  subst hP
  exact ⟨_, rfl, (hM.row (.g (.slice Ag 1 cg) _ _ _ _) (by simp)).1, hM.below⟩
structure T.TipV where
  b : T.BlkV
  pv : Value
  cv : Value
  ps : List T.Tot
  cs : List T.CoinV
def T.TipV.cells (t : T.TipV) : List Value := t.b.cells ++ [t.pv, t.cv]
structure T.TipV.At (w : World) (t : T.TipV) : Prop where
  b : t.b.At w
  okp : T.okP t.ps
  np : t.ps.length ≤ 1000000
  p : T.Sl w t.pv t.ps.length (T.rc T.Tot.cells t.ps)
  okc : ∀ c ∈ t.cs, c.ok
  nc : t.cs.length ≤ 1000000
  c : T.Sl w t.cv t.cs.length (T.rc T.CoinV.cells t.cs)
theorem T.TipV.At.kept {w w' : World} {t : T.TipV} (h : t.At w) (hb : Below w.heap.size w w') : t.At w' := ⟨h.b.kept hb, h.okp, h.np, h.p.kept hb, h.okc, h.nc, h.c.kept hb⟩
theorem T.TipV.len (t : T.TipV) (h : t.b.h.ok) : t.cells.length = 139 := by rw [T.TipV.cells, List.length_append, t.b.len h]; rfl
theorem T.TipV.At.ones {w : World} {t : T.TipV} (h : t.At w) : ∀ v ∈ t.cells, v.oneCell' = true := T.ones_app h.b.ones (T.ones_cons h.p.one1 (T.one_ones h.c.one1))
theorem T.TipV.bs (t : T.TipV) (h : t.b.h.ok) : (t.cells.drop 0).take 137 = t.b.cells := by
  rw [List.drop_zero, T.TipV.cells, ← t.b.len h]
  exact List.take_left
theorem T.TipV.hs (t : T.TipV) (h : t.b.h.ok) : (t.cells.drop 0).take 135 = t.b.h.cells := by
  have := congrArg (List.take 135) (t.bs h)
  rw [List.take_take] at this
  rw [show (135 : Nat) = min 135 137 by rfl, this]
  exact (by rw [← List.drop_zero (l := t.b.cells)]; exact t.b.hs h)
theorem T.TipV.at_b (t : T.TipV) (h : t.b.h.ok) (i : Nat) (hi : i < 137) : t.cells[i]? = t.b.cells[i]? := by
  rw [T.TipV.cells, List.getElem?_append_left (by rw [t.b.len h]; exact hi)]
theorem T.TipV.l_at (t : T.TipV) (h : t.b.h.ok) : t.cells[135]? = some t.b.lv := (t.at_b h 135 (by decide)).trans (t.b.l_at h)
theorem T.TipV.height_at (t : T.TipV) (h : t.b.h.ok) : t.cells[0]? = some (.int .i64 t.b.h.height) := (t.at_b h 0 (by decide)).trans (by rw [T.BlkV.cells, List.getElem?_append_left (by rw [t.b.h.len h]; decide)]; rfl)
theorem T.TipV.bits_at (t : T.TipV) (h : t.b.h.ok) : t.cells[133]? = some (.int .u32 t.b.h.bits) := (t.at_b h 133 (by decide)).trans (by rw [T.BlkV.cells, List.getElem?_append_left (by rw [t.b.h.len h]; decide)]; exact t.b.h.bits_at h)
theorem T.TipV.p_at (t : T.TipV) (h : t.b.h.ok) : t.cells[137]? = some t.pv := by
  rw [T.TipV.cells, List.getElem?_append_right (by rw [t.b.len h]; decide), t.b.len h]; rfl
theorem T.TipV.c_at (t : T.TipV) (h : t.b.h.ok) : t.cells[138]? = some t.cv := by
  rw [T.TipV.cells, List.getElem?_append_right (by rw [t.b.len h]; decide), t.b.len h]; rfl
def T.blinks (t : T.TipV) : List (List Int) := T.lnext t.b.ids (T.hid t.b.h) (T.hlevel t.b.h)
theorem T.blinks_calls (t : T.TipV) (w : World) (h : t.At w) : Calls Tryz.prog 85 #[.agg t.cells.toArray] w (T.EG 44 32 (T.blinks t).length (T.rc T.u8s (T.blinks t)) w) := by
  have hM := T.Mem.start w
  have HAT := Aside0.mk h
  have k := h.b.ok
  have kn := h.b.nums
  have hl := t.len k
  have hh := t.hs k
  have hhl := t.b.h.len k
  have hla := t.l_at k
  have hil := T.hid_len t.b.h
  have hlb := T.hlevel_bound t.b.h
  clear h
  generalize hP : T.EG 44 32 (T.blinks t).length (T.rc T.u8s (T.blinks t)) w = Post
  go_enter Tryz.func85, Tryz.ntmps85
  repeat' (first | ((with_reducible show Code.wp _ (Code.region 1 _ true) _ _ _); refine T.mregion 1 (.p 0 (.p 1 (.t 2 (.p 3 (.p 4 (.t 5 (.p 7 (.p 8 (.t 9 (.a 6 (.a 10 (.a 11 (.p 12 .nil))))))))))))) 1000 (by kernel_rfl) (fun _ _ _ _ h => h) hM (List.Sublist.refl _) ?_; clear hM; intro wld hM) | (go_at_call 14; refine (T.hid_calls _ k kn _).mono ?_; rintro _ _ ⟨rfl, hbc⟩; replace hM := hM.call hbc; clear hbc) | (go_at_call 20; refine (T.hlevel_calls _ k kn _).mono ?_; rintro _ _ ⟨rfl, hbc⟩; replace hM := hM.call hbc; clear hbc) | (go_at_call 123; refine (T.lnext_calls t.b.ids HAT.out.b.kids HAT.out.b.n _ hil _ hlb.1 hlb.2 _ _ (hM.slin HAT.out.b.l)).mono ?_; rintro _ wr ⟨v, rfl, ho, h1, hbc⟩; replace hM := hM.callG hbc ho h1; clear hbc ho h1) | (((first | ((with_reducible show wpList _ _ _ _ _ _); (refine T.w_o rfl ?_)) | (with_reducible show T.OW _ _ _ _ _ _)); (((with_reducible show T.OW _ ⟨_, .box _ _, _, _, _, _⟩ _ _ _ _); refine T.op_box _ _ rfl _ rfl hM ?_; clear hM; intro blk wld hM hlt))); (try simp only [Act.put, List.setIfInBounds_toArray, List.set_cons_zero, List.set_cons_succ])) | ((with_reducible show T.Seq _ _ _ _ _ _ _); first | ((with_reducible show T.Seq _ _ _ (.p _ _) _ _ _); ((apply T.sq_p rfl rfl; (focus intro wS; ((go_simp; with_reducible rfl))); (try simp only [Act.put, List.setIfInBounds_toArray, List.set_cons_zero, List.set_cons_succ])))) | ((with_reducible show T.Seq _ _ _ (.t _ _) _ _ _); ((apply T.sq_t rfl rfl; (focus intro wS hS; first | exact T.x_load rfl rfl T.Fd.out T.TS.out hla hS | exact T.x_loadAgg rfl rfl T.Fd.out T.TU.out T.TN.out (by ((omega))) hh hS); (try simp only [Act.put, List.setIfInBounds_toArray, List.set_cons_zero, List.set_cons_succ])))) | ((with_reducible show T.Seq _ _ _ .nil _ _ _); refine T.sq_nil ?_) | ((with_reducible show T.Seq _ _ _ (.a _ _) _ _ _); refine T.sq_a rfl rfl (fun K hK => ?_))) | (go_at_K; refine hK.out _ _ _ hM (by (repeat (first | exact List.Sublist.refl _ | apply List.Sublist.cons))) ?_; clear hK K) | ((with_reducible show T.OW _ ⟨_, .call _, _, _, _, _⟩ _ _ _ _); refine T.OW.mk ?_; go_simp) | (go_step) | go_back | ((fail_if_success (with_reducible show T.Seq _ _ _ _ _ _ _)); (fail_if_success (with_reducible show T.OW _ _ _ _ _ _)); simp only [Int.not_lt, Int.not_le] at *; go_simp))
  subst hP
  exact hM.eg List.mem_cons_self
end Go.Proofs.YtdklknfgcepcbaaGreat.X
