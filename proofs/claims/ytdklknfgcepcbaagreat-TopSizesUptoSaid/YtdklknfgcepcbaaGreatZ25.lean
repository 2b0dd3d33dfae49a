/- Texts of this proof, laid together by wip/tools/pack.py: TK7, TK8, TK9, TK10. -/
import Derived.Test.YtdklknfgcepcbaaGreatZ24
namespace Go.Proofs.YtdklknfgcepcbaaGreat.X
open Go.RowKit Go.Proofs.YtdklknfgcepcbaaGreatW.PrintWords Go.Proofs.YtdklknfgcepcbaaGreatW.PrintLast Go.Proofs.YtdklknfgcepcbaaGreatW.PrintMore
set_option linter.unusedSimpArgs false
set_option linter.unusedVariables false
set_option maxHeartbeats 2000000
set_option maxRecDepth 20000
def T.WRoot (v : Value) (w : World) (e : Ending) (w' : World) : Prop := ∃ x : List Int, x.length = 32 ∧ (v = .slice none 0 0 → x = T.sum [2]) ∧ T.E (.agg (T.u8s x).toArray) w e w'
theorem T.croot_any (l : List T.TxV) (v : Value) (w : World) (h : T.TxsAt w v l) : Calls Tryz.prog 50 #[v] w (T.WRoot v w) := by
  by_cases hv : v = .slice none 0 0
  · subst hv
    exact (T.croot_nil w).mono fun e w' he => ⟨_, T.sum_len _, fun _ => rfl, he⟩
  · exact (T.croot_calls l v w h).mono fun e w' ⟨x, hx, he⟩ => ⟨x, hx, fun e => absurd e hv, he⟩
def T.hnext (t : T.TipV) (x : List Int) (nonce : Int) : T.Head :=
  ⟨IntKind.i64.wrap (t.b.h.height + 1), T.hid t.b.h, T.rootF ((T.blinks t).length + 1) ((T.blinks t).map T.tleaf), x, (T.mroot t.ps).h, (T.mroot t.ps).w, t.b.h.bits, nonce⟩
def T.WNext (t : T.TipV) (tv : Value) (nonce : Int) (w : World) (e : Ending) (w' : World) : Prop := ∃ x : List Int, x.length = 32 ∧ (tv = .slice none 0 0 → x = T.sum [2]) ∧ T.E (.agg (T.hnext t x nonce).cells.toArray) w e w'
theorem T.hnext_ok (t : T.TipV) (x : List Int) (nonce : Int) (hx : x.length = 32) (hp : T.okP t.ps) : (T.hnext t x nonce).ok :=
  ⟨T.hid_len _, T.rootF_len _ _ (T.okn_map T.tleaf_len), hx, (T.mroot_ok t.ps hp).1.h, (T.mroot_ok t.ps hp).1.w⟩
theorem T.next_calls (t : T.TipV) (txs : List T.TxV) (tv : Value) (nonce : Int) (w : World) (h : t.At w) (ht : T.TxsAt w tv txs) : Calls Tryz.prog 80 #[.agg t.cells.toArray, tv, .int .u64 nonce] w (T.WNext t tv nonce w) := by
  have hM := T.Mem.start w
  have HAT := Aside0.mk h
  have HTX := Aside0.mk ht
  have k := h.b.ok
  have kn := h.b.nums
  have hto := h.ones
  have hl := t.len k
  have hh := t.hs k
  have hhl := t.b.h.len k
  have hpa := t.p_at k
  have hba := t.bits_at k
  have hha := t.height_at k
  have hil := T.hid_len t.b.h
  have hil2 : (T.u8s (T.hid t.b.h)).length = 32 := by rw [encs_length]; exact hil
  have hmk := T.mroot_ok t.ps h.okp
  have htl := (T.mroot t.ps).len hmk.1
  have hto2 := (T.mroot t.ps).ones
  have hth := (T.mroot t.ps).hs hmk.1
  have htw := (T.mroot t.ps).ws hmk.1
  have hth2 : (T.u8s (T.mroot t.ps).h).length = 32 := by rw [encs_length]; exact hmk.1.h
  have htw2 : (T.u64s (T.mroot t.ps).w).length = 4 := by rw [encs_length]; exact hmk.1.w
  have hrl := T.rootF_len ((T.blinks t).length + 1) ((T.blinks t).map T.tleaf) (T.okn_map T.tleaf_len)
  have hrl2 : (T.u8s (T.rootF ((T.blinks t).length + 1) ((T.blinks t).map T.tleaf))).length = 32 := by rw [encs_length]; exact hrl
  have hz37 : T.Tot.zero.cells.length = 37 := rfl
  have hz0 : (T.u8s T.z32).length = 32 := by rw [encs_length]; rfl
  have hz1 : (T.u64s [0, 0, 0, 0]).length = 4 := rfl
  have hz135 : T.Head.zero.cells.length = 135 := rfl
  have HBN := Aside0.mk (show (T.blinks t).length ≤ 1000000 from Nat.le_trans (T.lnext_len _ _ _ (T.hlevel_bound t.b.h).2) (by decide))
  have HBK := Aside0.mk (show T.okn 32 (T.blinks t) from T.lnext_ok _ _ _ h.b.kids hil)
  clear h ht
  generalize hP : T.WNext t tv nonce w = Post
  go_enter Tryz.func80, Tryz.ntmps80
  repeat' (first | ((with_reducible show Code.wp _ (Code.region 2 _ true) _ _ _); refine T.mregion 2 (.p 0 (.p 1 (.p 2 (.t 3 (.p 4 (.p 5 (.p 6 (.t 7 (.t 9 (.p 12 (.p 14 (.t 15 (.p 16 (.t 17 (.p 18 (.p 19 (.p 20 (.t 21 (.p 22 (.a 8 (.a 10 (.a 11 (.a 13 (.p 23 (.z 24 .nil))))))))))))))))))))))))) 24 (by kernel_rfl) (fun _ _ _ _ h => h) hM (List.Sublist.refl _) ?_; clear hM; intro wld hM) | (go_at_call 51; refine (T.mroot_calls t.ps HAT.out.okp HAT.out.np _ _ (hM.slin HAT.out.p)).mono ?_; rintro _ _ ⟨rfl, hbc⟩; replace hM := hM.call hbc; clear hbc) | (go_at_call 14; refine (T.hid_calls _ k kn _).mono ?_; rintro _ _ ⟨rfl, hbc⟩; replace hM := hM.call hbc; clear hbc) | (go_at_call 85; refine (T.blinks_calls t _ (HAT.out.kept hM.below)).mono ?_; rintro _ wr ⟨v, rfl, ho, h1, hbc⟩; replace hM := hM.callG hbc ho h1; clear hbc ho h1) | (go_at_call 49; refine (T.lroot_calls (T.blinks t) HBK.out HBN.out _ _ (by rw [T.u8s_rc]; exact hM.gsl T.Fg.out)).mono ?_; rintro _ _ ⟨rfl, hbc⟩; replace hM := hM.call hbc; clear hbc) | (go_at_call 50; refine (T.croot_any txs _ _ (HTX.out.kept hM.below)).mono ?_; rintro _ _ ⟨x, hx, hxn, rfl, hbc⟩; replace hM := hM.call hbc; clear hbc; have hxl : (T.u8s x).length = 32 := (by rw [encs_length]; exact hx); have hnl : (Value.int .i64 (IntKind.i64.wrap (t.b.h.height + 1)) :: (T.u8s (T.hid t.b.h) ++ (T.u8s (T.rootF ((T.blinks t).length + 1) ((T.blinks t).map T.tleaf)) ++ (T.u8s x ++ (T.u8s (T.mroot t.ps).h ++ (T.u64s (T.mroot t.ps).w ++ [Value.int .u32 t.b.h.bits, Value.int .u64 nonce])))))).length = 135 := (T.hnext t x nonce).len (T.hnext_ok t x nonce hx HAT.out.okp); have hno : ∀ v ∈ (Value.int .i64 (IntKind.i64.wrap (t.b.h.height + 1)) :: (T.u8s (T.hid t.b.h) ++ (T.u8s (T.rootF ((T.blinks t).length + 1) ((T.blinks t).map T.tleaf)) ++ (T.u8s x ++ (T.u8s (T.mroot t.ps).h ++ (T.u64s (T.mroot t.ps).w ++ [Value.int .u32 t.b.h.bits, Value.int .u64 nonce])))))), v.oneCell' = true := (T.hnext t x nonce).ones) | ((with_reducible show T.Seq _ _ _ (.p _ _) _ _ _); apply T.sq_p rfl rfl; (focus intro wS; (with_reducible show Sem.run _ (execOp _ ⟨_, .build _ _, _, _, _, _⟩) _ = _); exact T.x_build rfl inferInstance rfl (by (((simp [T.okp, Value.cells, Act.eval, *]; done)))) rfl); (try simp only [Act.put, List.setIfInBounds_toArray, List.set_cons_zero, List.set_cons_succ]); (try simp only [List.map_toArray, List.map_cons, List.map_nil, Act.eval, Array.getD_eq_getD_getElem?, List.toList_toArray, List.getElem?_toArray, List.getElem?_cons_zero, List.getElem?_cons_succ, Option.getD_some, T.segs, List.replicate_succ, List.replicate_zero, List.set_cons_zero, List.set_cons_succ, Value.cells, List.flatten_cons, List.flatten_nil, List.append_nil, List.cons_append, List.nil_append])) | (((first | ((with_reducible show wpList _ _ _ _ _ _); (refine T.w_o rfl ?_)) | (with_reducible show T.OW _ _ _ _ _ _)); first | ((with_reducible show T.OW _ ⟨_, .load _ _, _, _, _, _⟩ _ _ _ _); ((refine T.ofx (T.x_load rfl rfl T.Fd.out T.TS.out hpa hM) ?_))) | ((with_reducible show T.OW _ ⟨_, .store _ _ _, _, _, _, _⟩ _ _ _ _); ((refine T.op_storeAll _ _ _ rfl _ rfl _ rfl _ _ hM (by (repeat (first | exact T.Sub.head _ | apply T.Sub.tail))) _ T.TN.out (by ((with_reducible assumption))) (by ((with_reducible assumption))) (by ((with_reducible assumption))) ?_; clear hM; intro wld hM))) | ((with_reducible show T.OW _ ⟨_, .alloc _, _, _, _, _⟩ _ _ _ _); refine T.op_alloc _ rfl _ T.TZ.out hM ?_; clear hM; intro blk wld hM hlt) | ((with_reducible show T.OW _ ⟨_, .box _ _, _, _, _, _⟩ _ _ _ _); refine T.op_box _ _ rfl _ rfl hM ?_; clear hM; intro blk wld hM hlt)); (try simp only [Act.put, List.setIfInBounds_toArray, List.set_cons_zero, List.set_cons_succ])) | ((with_reducible show T.Seq _ _ _ _ _ _ _); first | ((with_reducible show T.Seq _ _ _ (.p _ _) _ _ _); ((apply T.sq_p rfl rfl; (focus intro wS; ((go_simp; with_reducible rfl))); (try simp only [Act.put, List.setIfInBounds_toArray, List.set_cons_zero, List.set_cons_succ])))) | ((with_reducible show T.Seq _ _ _ (.t _ _) _ _ _); ((apply T.sq_t rfl rfl; (focus intro wS hS; first | exact T.x_load rfl rfl T.Fd.out T.TS.out hba hS | exact T.x_load rfl rfl T.Fd.out T.TS.out hha hS | exact T.x_loadAgg rfl rfl T.Fd.out T.TU.out T.TN.out (by ((omega))) hh hS | exact T.x_loadAgg rfl rfl T.Fd.out T.TU.out T.TN.out (by ((omega))) hth hS | exact T.x_loadAgg rfl rfl T.Fd.out T.TU.out T.TN.out (by ((omega))) htw hS | exact T.x_loadAll rfl rfl T.Fd.out T.TU.out T.TN.out (by ((with_reducible assumption))) hS); (try simp only [Act.put, List.setIfInBounds_toArray, List.set_cons_zero, List.set_cons_succ])))) | ((with_reducible show T.Seq _ _ _ .nil _ _ _); refine T.sq_nil ?_) | ((with_reducible show T.Seq _ _ _ (.a _ _) _ _ _); refine T.sq_a rfl rfl (fun K hK => ?_)) | ((with_reducible show T.Seq _ _ _ (.z _ _) _ _ _); refine T.sq_z rfl rfl (fun K hK => ?_))) | (go_at_K; refine hK.out _ _ _ hM (by (repeat (first | exact List.Sublist.refl _ | apply List.Sublist.cons))) ?_; clear hK K) | (go_at_K; refine hK.out _ _ _ hM ?_; clear hK K) | ((with_reducible show T.OW _ ⟨_, .call _, _, _, _, _⟩ _ _ _ _); refine T.OW.mk ?_; go_simp) | (go_step) | ((fail_if_success (with_reducible show T.Seq _ _ _ _ _ _ _)); (fail_if_success (with_reducible show T.OW _ _ _ _ _ _)); simp only [Int.not_lt, Int.not_le] at *; go_simp))
  (refine T.ret_cell rfl rfl _ rfl _ _ hM T.Fd.out T.TU.out _ T.TN.out (by ((with_reducible assumption))) ?_)
  subst hP
  exact ⟨x, hx, hxn, rfl, hM.below⟩
section
theorem T.x_rgRow {P : Program} {w : World} {op : Oper} {a : Act} {ty : TypeId} {x : Operand} {b j k : Nat} {cs vs : List Value} (ho : op.op = .load ty x) (hx : a.eval x = .pointer (some ⟨b, j, none⟩)) (hr : w.rangeAt b 0 cs)
    (hu : ∃ d, P.underlying ty = some d ∧ d.isRow = true) (hi : (P.info? ty).map (·.size) = some k) (hvs : (cs.drop j).take k = vs) (hl : vs.length = k) : (execOp a.eval op).run P w = .ok (.value (.agg vs.toArray)) w := by
  have h2 := T.range_part hr j k
  rw [hvs, Nat.zero_add] at h2
  exact T.x_range ho hx h2 hu hi hl
theorem T.x_rgCell {P : Program} {w : World} {op : Oper} {a : Act} {ty : TypeId} {x : Operand} {b j : Nat} {cs : List Value} {v : Value} (ho : op.op = .load ty x) (hx : a.eval x = .pointer (some ⟨b, j, none⟩)) (hr : w.rangeAt b 0 cs)
    (hg : ∀ w, (isAgg ty).run P w = .ok false w) (hv : cs[j]? = some v) : (execOp a.eval op).run P w = .ok (.value v) w :=
  T.x_cell ho hx hg (by have := hr j v hv; rwa [Nat.zero_add] at this)
structure T.TrialV where
  t : T.TipV
  b : T.BlkV
  want : T.Head
  cv : Value
def T.TrialV.cells (x : T.TrialV) : List Value := x.t.cells ++ (x.b.cells ++ (x.want.cells ++ [x.cv]))
structure T.TrialV.At (w : World) (x : T.TrialV) : Prop where
  t : x.t.At w
  b : x.b.At w
  ok : x.want.ok
theorem T.TrialV.At.kept {w w' : World} {x : T.TrialV} (h : x.At w) (hb : Below w.heap.size w w') : x.At w' := ⟨h.t.kept hb, h.b.kept hb, h.ok⟩
section
variable (x : T.TrialV) (ht : x.t.b.h.ok) (hb : x.b.h.ok) (hw : x.want.ok)
include ht
theorem T.TrialV.tip : (x.cells.drop 0).take 139 = x.t.cells := T.seg [] _ (x.b.cells ++ (x.want.cells ++ [x.cv])) _ 0 139 (by simp [T.TrialV.cells]) rfl (x.t.len ht)
include hb
theorem T.TrialV.blk : (x.cells.drop 139).take 137 = x.b.cells := T.seg x.t.cells _ (x.want.cells ++ [x.cv]) _ 139 137 (by simp [T.TrialV.cells]) (x.t.len ht) (x.b.len hb)
theorem T.TrialV.hd : (x.cells.drop 139).take 135 = x.b.h.cells := by
  have := congrArg (List.take 135) (x.blk ht hb)
  rw [List.take_take] at this
  rw [show (135 : Nat) = min 135 137 by rfl, this]
  exact (by rw [← List.drop_zero (l := x.b.cells)]; exact x.b.hs hb)
include hw
theorem T.TrialV.wnt : (x.cells.drop 276).take 135 = x.want.cells := T.seg (x.t.cells ++ x.b.cells) _ [x.cv] _ 276 135 (by simp [T.TrialV.cells]) (by rw [List.length_append, x.t.len ht, x.b.len hb]) (x.want.len hw)
theorem T.TrialV.len : x.cells.length = 412 := by simp [T.TrialV.cells, x.t.len ht, x.b.len hb, x.want.len hw]
omit hw
theorem T.TrialV.at_b (i : Nat) (hi : i < 137) : x.cells[139 + i]? = x.b.cells[i]? := by
  rw [T.TrialV.cells, List.getElem?_append_right (by rw [x.t.len ht]; omega), x.t.len ht, show 139 + i - 139 = i by omega, List.getElem?_append_left (by rw [x.b.len hb]; exact hi)]
end
theorem T.tsize_calls (x : T.TrialV) (bt : Nat) (w : World) (h : x.At w) (hr : w.rangeAt bt 0 x.cells) : Calls Tryz.prog 82 #[.pointer (some ⟨bt, 0, none⟩)] w (T.E (.int .i64 (if 48 ≤ x.b.h.height then 3 else 0)) w) := by
  have hM := T.Mem.start w
  have HR := Aside0.mk hr
  have hha : x.cells[139]? = some (.int .i64 x.b.h.height) := (x.at_b h.t.b.ok h.b.ok 0 (by decide)).trans (by rw [T.BlkV.cells, List.getElem?_append_left (by rw [x.b.h.len h.b.ok]; decide)]; rfl)
  clear hr h
  generalize hP : T.E (.int .i64 (if 48 ≤ x.b.h.height then 3 else 0)) w = Post
  by_cases hh : 48 ≤ x.b.h.height
  · have d1 : decide (48 ≤ x.b.h.height) = true := decide_eq_true hh
    rw [if_pos hh] at hP
    go_enter Tryz.func82, Tryz.ntmps82
    repeat' (first | ((((((with_reducible show wpList _ _ _ _ _ _); (refine T.w_o rfl ?_)))); (((with_reducible show T.OW _ ⟨_, .load _ _, _, _, _, _⟩ _ _ _ _); ((refine T.ofx (T.x_rgCell rfl rfl (T.range_kept HR.out hM.grown (by simp)) T.TS.out hha) ?_))))); (try simp only [Act.put, List.setIfInBounds_toArray, List.set_cons_zero, List.set_cons_succ])) | (go_step) | go_back)
    subst hP
    exact ⟨rfl, hM.below⟩
  · have d1 : decide (48 ≤ x.b.h.height) = false := decide_eq_false hh
    rw [if_neg hh] at hP
    go_enter Tryz.func82, Tryz.ntmps82
    repeat' (first | ((((((with_reducible show wpList _ _ _ _ _ _); (refine T.w_o rfl ?_)))); (((with_reducible show T.OW _ ⟨_, .load _ _, _, _, _, _⟩ _ _ _ _); ((refine T.ofx (T.x_rgCell rfl rfl (T.range_kept HR.out hM.grown (by simp)) T.TS.out hha) ?_))))); (try simp only [Act.put, List.setIfInBounds_toArray, List.set_cons_zero, List.set_cons_succ])) | (go_step) | go_back | ((fail_if_success (with_reducible show T.Seq _ _ _ _ _ _ _)); (fail_if_success (with_reducible show T.OW _ _ _ _ _ _)); simp only [Int.not_lt, Int.not_le] at *; go_simp))
    subst hP
    exact ⟨rfl, hM.below⟩
theorem T.twork_calls (x : T.TrialV) (bt : Nat) (w : World) (h : x.At w) (hr : w.rangeAt bt 0 x.cells) : Calls Tryz.prog 111 #[.pointer (some ⟨bt, 0, none⟩)] w (T.E (.int .i64 (if T.hmay x.b.h then 0 else 4)) w) := by
  have hM := T.Mem.start w
  have HR := Aside0.mk hr
  have hhd := x.hd h.t.b.ok h.b.ok
  have hhl := x.b.h.len h.b.ok
  have k := h.b.ok
  have kn := h.b.nums
  clear hr h
  generalize hP : T.E (.int .i64 (if T.hmay x.b.h then 0 else 4)) w = Post
  cases hz : T.hmay x.b.h
  all_goals rw [hz] at hP
  all_goals go_enter Tryz.func111, Tryz.ntmps111
  all_goals repeat' (first | (go_at_call 55; refine (T.hmay_calls _ k kn _).mono ?_; rintro _ _ ⟨rfl, hbc⟩; replace hM := hM.call hbc; clear hbc; rw [hz]) | ((((((with_reducible show wpList _ _ _ _ _ _); (refine T.w_o rfl ?_)))); (((with_reducible show T.OW _ ⟨_, .load _ _, _, _, _, _⟩ _ _ _ _); ((refine T.ofx (T.x_rgRow rfl rfl (T.range_kept HR.out hM.grown (by simp)) T.TU.out T.TN.out hhd hhl) ?_))))); (try simp only [Act.put, List.setIfInBounds_toArray, List.set_cons_zero, List.set_cons_succ])) | (go_step) | go_back | ((fail_if_success (with_reducible show T.Seq _ _ _ _ _ _ _)); (fail_if_success (with_reducible show T.OW _ _ _ _ _ _)); simp only [Int.not_lt, Int.not_le] at *; go_simp))
  all_goals subst hP
  all_goals exact ⟨rfl, hM.below⟩
theorem T.troot_calls (x : T.TrialV) (bt : Nat) (w : World) (h : x.At w) (hr : w.rangeAt bt 0 x.cells) : Calls Tryz.prog 110 #[.pointer (some ⟨bt, 0, none⟩)] w (T.E (.int .i64 (if x.b.h.eq x.want then 0 else 7)) w) := by
  have hM := T.Mem.start w
  have HR := Aside0.mk hr
  have hhd := x.hd h.t.b.ok h.b.ok
  have hwn := x.wnt h.t.b.ok h.b.ok h.ok
  have hhl := x.b.h.len h.b.ok
  have hwl := x.want.len h.ok
  have k := h.b.ok
  have kw := h.ok
  clear hr h
  generalize hP : T.E (.int .i64 (if x.b.h.eq x.want then 0 else 7)) w = Post
  cases hz : x.b.h.eq x.want
  all_goals rw [hz] at hP
  all_goals go_enter Tryz.func110, Tryz.ntmps110
  all_goals repeat' (first | ((with_reducible show Code.wp _ (Code.region 1 _ true) _ _ _); refine T.mregion 1 (.p 0 (.p 1 (.p 2 (.p 3 (.t 4 (.p 5 (.p 6 (.p 7 (.t 8 (.p 9 .nil)))))))))) 1000 (by kernel_rfl) (fun _ _ _ _ h => h) hM (List.Sublist.refl _) ?_; clear hM; intro wld hM) | ((with_reducible show T.Seq _ _ _ _ _ _ _); first | ((with_reducible show T.Seq _ _ _ (.p _ _) _ _ _); ((apply T.sq_p rfl rfl; (focus intro wS; first | ((with_reducible show Sem.run _ (execOp _ ⟨_, .binOp .neq _ _ _ _, _, _, _, _⟩) _ = _); (exact T.x_neqHead rfl rfl rfl (by with_reducible assumption) (by with_reducible assumption))) | (go_simp; with_reducible rfl)); (try simp only [Act.put, List.setIfInBounds_toArray, List.set_cons_zero, List.set_cons_succ]); (try simp only [hz])))) | ((with_reducible show T.Seq _ _ _ (.t _ _) _ _ _); ((apply T.sq_t rfl rfl; (focus intro wS hS; first | exact T.x_rgRow rfl rfl (T.range_kept HR.out hS.grown (by simp)) T.TU.out T.TN.out hhd hhl | exact T.x_rgRow rfl rfl (T.range_kept HR.out hS.grown (by simp)) T.TU.out T.TN.out hwn hwl); (try simp only [Act.put, List.setIfInBounds_toArray, List.set_cons_zero, List.set_cons_succ])))) | ((with_reducible show T.Seq _ _ _ .nil _ _ _); refine T.sq_nil ?_)) | (go_step) | go_back | ((fail_if_success (with_reducible show T.Seq _ _ _ _ _ _ _)); (fail_if_success (with_reducible show T.OW _ _ _ _ _ _)); simp only [Int.not_lt, Int.not_le] at *; go_simp))
  all_goals subst hP
  all_goals exact ⟨rfl, hM.below⟩
end
def T.hbehind (h : T.Head) : T.Head := ⟨h.height, h.prev, T.z32, T.z32, T.z32, [0, 0, 0, 0], h.bits, 0⟩
theorem T.hbehind_ok (h : T.Head) (k : h.ok) : (T.hbehind h).ok := ⟨k.prev, rfl, rfl, rfl, rfl⟩
theorem T.behind_calls (h : T.Head) (k : h.ok) (w : World) : Calls Tryz.prog 143 #[.agg h.cells.toArray] w (T.E (.agg (T.hbehind h).cells.toArray) w) := by
  have hM := T.Mem.start w
  have hl := h.len k
  have hp := h.prevs k
  have hb := h.bits_at k
  have h0 : h.cells[0]? = some (.int .i64 h.height) := rfl
  have hpl : (T.u8s h.prev).length = 32 := by rw [encs_length]; exact k.prev
  have hz0 : (T.u8s T.z32).length = 32 := by rw [encs_length]; rfl
  have hz1 : (T.u64s [0, 0, 0, 0]).length = 4 := rfl
  have hz135 : T.Head.zero.cells.length = 135 := rfl
  have hL : (Value.int .i64 h.height :: (T.u8s h.prev ++ (T.u8s T.z32 ++ (T.u8s T.z32 ++ (T.u8s T.z32 ++ (T.u64s [0, 0, 0, 0] ++ [Value.int .u32 h.bits, Value.int .u64 0])))))).length = 135 := (T.hbehind h).len (T.hbehind_ok h k)
  have hO : ∀ v ∈ (Value.int .i64 h.height :: (T.u8s h.prev ++ (T.u8s T.z32 ++ (T.u8s T.z32 ++ (T.u8s T.z32 ++ (T.u64s [0, 0, 0, 0] ++ [Value.int .u32 h.bits, Value.int .u64 0])))))), v.oneCell' = true := (T.hbehind h).ones
  generalize hP : T.E (.agg (T.hbehind h).cells.toArray) w = Post
  go_enter Tryz.func143, Tryz.ntmps143
  repeat' (first | ((((((with_reducible show wpList _ _ _ _ _ _); (refine T.w_o rfl ?_)))); first | ((with_reducible show T.OW _ ⟨_, .load _ _, _, _, _, _⟩ _ _ _ _); first | (refine T.ofx (T.x_load rfl rfl T.Fd.out T.TS.out h0 hM) ?_) | (refine T.ofx (T.x_load rfl rfl T.Fd.out T.TS.out hb hM) ?_) | (refine T.ofx (T.x_loadAgg rfl rfl T.Fd.out T.TU.out T.TN.out (by ((omega))) hp hM) ?_)) | ((with_reducible show T.OW _ ⟨_, .store _ _ _, _, _, _, _⟩ _ _ _ _); ((refine T.op_storeAll _ _ _ rfl _ rfl _ rfl _ _ hM (by (repeat ((exact T.Sub.head _)))) _ T.TN.out (by ((with_reducible assumption))) (by ((with_reducible assumption))) (by ((with_reducible assumption))) ?_; clear hM; intro wld hM))) | ((with_reducible show T.OW _ ⟨_, .alloc _, _, _, _, _⟩ _ _ _ _); refine T.op_alloc _ rfl _ T.TZ.out hM ?_; clear hM; intro blk wld hM hlt) | ((with_reducible show T.OW _ ⟨_, .box _ _, _, _, _, _⟩ _ _ _ _); refine T.op_box _ _ rfl _ rfl hM ?_; clear hM; intro blk wld hM hlt) | ((with_reducible show T.OW _ ⟨_, .build _ _, _, _, _, _⟩ _ _ _ _); ((refine T.ofx (T.x_build rfl inferInstance rfl (by (((simp [T.okp, Value.cells, Act.eval, *]; done)))) rfl) ?_; (try simp only [List.map_toArray, List.map_cons, List.map_nil, Act.eval, Array.getD_eq_getD_getElem?, List.toList_toArray, List.getElem?_toArray, List.getElem?_cons_zero, List.getElem?_cons_succ, Option.getD_some, T.segs, List.replicate_succ, List.replicate_zero, List.set_cons_zero, List.set_cons_succ, Value.cells, List.flatten_cons, List.flatten_nil, List.append_nil, List.cons_append, List.nil_append]))))); (try simp only [Act.put, List.setIfInBounds_toArray, List.set_cons_zero, List.set_cons_succ])) | (go_step))
  (refine T.ret_cell rfl rfl _ rfl _ _ hM T.Fd.out T.TU.out _ T.TN.out (by ((with_reducible assumption))) ?_)
  subst hP
  exact ⟨rfl, hM.below⟩
theorem T.tprev_calls (x : T.TrialV) (bt : Nat) (w : World) (h : x.At w) (hr : w.rangeAt bt 0 x.cells) : Calls Tryz.prog 108 #[.pointer (some ⟨bt, 0, none⟩)] w (T.E (.int .i64 (if (T.hbehind x.b.h).eq (T.hbehind x.want) then 0 else 5)) w) := by
  have hM := T.Mem.start w
  have HR := Aside0.mk hr
  have hhd := x.hd h.t.b.ok h.b.ok
  have hwn := x.wnt h.t.b.ok h.b.ok h.ok
  have hhl := x.b.h.len h.b.ok
  have hwl := x.want.len h.ok
  have k := h.b.ok
  have kw := h.ok
  have k2 := T.hbehind_ok _ k
  have kw2 := T.hbehind_ok _ kw
  clear hr h
  generalize hP : T.E (.int .i64 (if (T.hbehind x.b.h).eq (T.hbehind x.want) then 0 else 5)) w = Post
  cases hz : (T.hbehind x.b.h).eq (T.hbehind x.want)
  all_goals rw [hz] at hP
  all_goals go_enter Tryz.func108, Tryz.ntmps108
  all_goals repeat' (first | ((with_reducible show Code.wp _ (Code.region 1 _ true) _ _ _); refine T.mregion 1 (.p 0 (.p 1 (.p 2 (.p 3 (.t 4 (.p 6 (.p 7 (.p 8 (.t 9 (.a 5 (.a 10 (.p 11 .nil)))))))))))) 1000 (by kernel_rfl) (fun _ _ _ _ h => h) hM (List.Sublist.refl _) ?_; clear hM; intro wld hM) | (go_at_call 143; refine (T.behind_calls _ (by with_reducible assumption) _).mono ?_; rintro _ _ ⟨rfl, hbc⟩; replace hM := hM.call hbc; clear hbc) | ((with_reducible show T.Seq _ _ _ _ _ _ _); first | ((with_reducible show T.Seq _ _ _ (.p _ _) _ _ _); ((apply T.sq_p rfl rfl; (focus intro wS; first | ((with_reducible show Sem.run _ (execOp _ ⟨_, .binOp .neq _ _ _ _, _, _, _, _⟩) _ = _); (exact T.x_neqHead rfl rfl rfl (by with_reducible assumption) (by with_reducible assumption))) | (go_simp; with_reducible rfl)); (try simp only [Act.put, List.setIfInBounds_toArray, List.set_cons_zero, List.set_cons_succ]); (try simp only [hz])))) | ((with_reducible show T.Seq _ _ _ (.t _ _) _ _ _); ((apply T.sq_t rfl rfl; (focus intro wS hS; first | exact T.x_rgRow rfl rfl (T.range_kept HR.out hS.grown (by simp)) T.TU.out T.TN.out hhd hhl | exact T.x_rgRow rfl rfl (T.range_kept HR.out hS.grown (by simp)) T.TU.out T.TN.out hwn hwl); (try simp only [Act.put, List.setIfInBounds_toArray, List.set_cons_zero, List.set_cons_succ])))) | ((with_reducible show T.Seq _ _ _ .nil _ _ _); refine T.sq_nil ?_) | ((with_reducible show T.Seq _ _ _ (.a _ _) _ _ _); refine T.sq_a rfl rfl (fun K hK => ?_))) | (go_at_K; refine hK.out _ _ _ hM (by (repeat ((exact List.Sublist.refl _)))) ?_; clear hK K) | ((with_reducible show T.OW _ ⟨_, .call _, _, _, _, _⟩ _ _ _ _); refine T.OW.mk ?_; go_simp) | (go_step) | go_back | ((fail_if_success (with_reducible show T.Seq _ _ _ _ _ _ _)); (fail_if_success (with_reducible show T.OW _ _ _ _ _ _)); simp only [Int.not_lt, Int.not_le] at *; go_simp))
  all_goals subst hP
  all_goals exact ⟨rfl, hM.below⟩
theorem T.sub_seg {X B C : List Value} {n m i k : Nat} (h : (X.drop n).take m = B) (hk : (B.drop i).take k = C) (hi : i + k ≤ m) : (X.drop (n + i)).take k = C := by
  subst h
  rw [← hk, List.drop_take, List.take_take, List.drop_drop, Nat.min_eq_left (by omega)]
theorem T.tlink_calls (x : T.TrialV) (bt : Nat) (w : World) (h : x.At w) (hr : w.rangeAt bt 0 x.cells) : Calls Tryz.prog 109 #[.pointer (some ⟨bt, 0, none⟩)] w (T.E (.int .i64 (if x.b.h.links = x.want.links ∧ x.b.ids = T.blinks x.t then 0 else 6)) w) := by
  have hM := T.Mem.start w
  have HR := Aside0.mk hr
  have hb := x.hd h.t.b.ok h.b.ok
  have hwn := x.wnt h.t.b.ok h.b.ok h.ok
  have hlb := T.sub_seg hb (x.b.h.linkss h.b.ok) (by decide)
  have hlw := T.sub_seg hwn (x.want.linkss h.ok) (by decide)
  have l1 : (T.u8s x.b.h.links).length = 32 := by rw [encs_length]; exact h.b.ok.links
  have l2 : (T.u8s x.want.links).length = 32 := by rw [encs_length]; exact h.ok.links
  have l3 := h.b.ok.links
  have l4 := h.ok.links
  have hti := x.tip h.t.b.ok
  have htl := x.t.len h.t.b.ok
  have hlv : x.cells[274]? = some x.b.lv := (x.at_b h.t.b.ok h.b.ok 135 (by decide)).trans (x.b.l_at h.b.ok)
  have HAT := Aside0.mk h
  have HBK := Aside0.mk (show T.okn 32 (T.blinks x.t) from T.lnext_ok _ _ _ h.t.b.kids (T.hid_len _))
  clear hr h hb hwn
  generalize hP : T.E (.int .i64 (if x.b.h.links = x.want.links ∧ x.b.ids = T.blinks x.t then 0 else 6)) w = Post
  cases hz : (x.b.h.links == x.want.links)
  · rw [if_neg (fun e => by rw [e.1, beq_self_eq_true] at hz; cases hz)] at hP
    go_enter Tryz.func109, Tryz.ntmps109
    repeat' (first | ((with_reducible show Code.wp _ (Code.region 1 _ true) _ _ _); refine T.mregion 1 (.p 0 (.p 1 (.p 2 (.p 3 (.p 4 (.t 5 (.p 6 (.p 7 (.p 8 (.p 9 (.t 10 (.p 11 (.p 12 (.p 13 (.p 14 (.p 15 (.p 16 (.t 17 (.p 18 (.p 19 (.p 20 (.t 21 (.a 22 (.a 23 (.p 24 (.p 25 .nil)))))))))))))))))))))))))) 1000 (by kernel_rfl) (fun _ _ _ _ h => h) hM (List.Sublist.refl _) ?_; clear hM; intro wld hM) | ((with_reducible show T.Seq _ _ _ (.a _ _) _ _ _); ((refine T.sq_as rfl rfl hM ?_; (try simp only [Act.put, List.setIfInBounds_toArray, List.set_cons_zero, List.set_cons_succ])))) | ((with_reducible show T.Seq _ _ _ _ _ _ _); first | ((with_reducible show T.Seq _ _ _ (.p _ _) _ _ _); first | (apply T.sq_p rfl rfl; (focus intro wS; first | ((with_reducible show Sem.run _ (execOp _ ⟨_, .binOp .neq _ _ _ _, _, _, _, _⟩) _ = _); (exact T.x_neq rfl inferInstance rfl rfl (by ((with_reducible assumption))) (by ((with_reducible assumption))))) | (go_simp; with_reducible rfl)); (try simp only [Act.put, List.setIfInBounds_toArray, List.set_cons_zero, List.set_cons_succ]); (try simp only [hz])) | (refine T.sq_pskip rfl rfl ?_; (try simp only [Act.put, List.setIfInBounds_toArray, List.set_cons_zero, List.set_cons_succ]))) | ((with_reducible show T.Seq _ _ _ (.t _ _) _ _ _); first | (apply T.sq_t rfl rfl; (focus intro wS hS; first | exact T.x_rgRow rfl rfl (T.range_kept HR.out hS.grown (by simp)) T.TU.out T.TN.out hlb l1 | exact T.x_rgRow rfl rfl (T.range_kept HR.out hS.grown (by simp)) T.TU.out T.TN.out hlw l2); (try simp only [Act.put, List.setIfInBounds_toArray, List.set_cons_zero, List.set_cons_succ])) | (refine T.sq_skip rfl rfl ?_; (try simp only [Act.put, List.setIfInBounds_toArray, List.set_cons_zero, List.set_cons_succ]))) | ((with_reducible show T.Seq _ _ _ .nil _ _ _); refine T.sq_nil ?_)) | (go_step) | go_back)
    subst hP
    exact ⟨rfl, hM.below⟩
  · have hz2 : x.b.h.links = x.want.links := by simpa using hz
    by_cases he : x.b.ids = T.blinks x.t
    · rw [if_pos ⟨hz2, he⟩] at hP
      have de : decide (x.b.ids = T.blinks x.t) = true := decide_eq_true he
      have HE := Aside0.mk he
      clear he hz2
      go_enter Tryz.func109, Tryz.ntmps109
      repeat' (first | ((with_reducible show Code.wp _ (Code.region 1 _ true) _ _ _); refine T.mregion 1 (.p 0 (.p 1 (.p 2 (.p 3 (.p 4 (.t 5 (.p 6 (.p 7 (.p 8 (.p 9 (.t 10 (.p 11 (.p 12 (.p 13 (.p 14 (.p 15 (.p 16 (.t 17 (.p 18 (.p 19 (.p 20 (.t 21 (.a 22 (.a 23 (.p 24 (.p 25 .nil)))))))))))))))))))))))))) 1000 (by kernel_rfl) (fun _ _ _ _ h => h) hM (List.Sublist.refl _) ?_; clear hM; intro wld hM) | (go_at_call 85; refine (T.blinks_calls x.t _ (HAT.out.t.kept hM.below)).mono ?_; rintro _ wr ⟨v, rfl, ho, h1, hbc⟩; replace hM := hM.callG hbc ho h1; clear hbc ho h1) | (go_at_call 105; refine (T.equalId_calls x.b.ids (T.blinks x.t) HAT.out.b.kids HBK.out HAT.out.b.n _ _ _ (hM.slin HAT.out.b.l) (hM.gsl T.Fg.out)).mono ?_; rintro _ _ ⟨rfl, hbc⟩; replace hM := hM.call hbc; clear hbc; rw [de]) | ((with_reducible show T.Seq _ _ _ (.a _ _) _ _ _); ((refine T.sq_ag rfl rfl (fun K hK => ?_)))) | ((with_reducible show T.Seq _ _ _ _ _ _ _); first | ((with_reducible show T.Seq _ _ _ (.p _ _) _ _ _); ((apply T.sq_p rfl rfl; (focus intro wS; first | ((with_reducible show Sem.run _ (execOp _ ⟨_, .binOp .neq _ _ _ _, _, _, _, _⟩) _ = _); (exact T.x_neq rfl inferInstance rfl rfl (by ((with_reducible assumption))) (by ((with_reducible assumption))))) | (go_simp; with_reducible rfl)); (try simp only [Act.put, List.setIfInBounds_toArray, List.set_cons_zero, List.set_cons_succ]); (try simp only [hz])))) | ((with_reducible show T.Seq _ _ _ (.t _ _) _ _ _); ((apply T.sq_t rfl rfl; (focus intro wS hS; first | exact T.x_rgRow rfl rfl (T.range_kept HR.out hS.grown (by simp)) T.TU.out T.TN.out hlb l1 | exact T.x_rgRow rfl rfl (T.range_kept HR.out hS.grown (by simp)) T.TU.out T.TN.out hlw l2 | exact T.x_rgRow rfl rfl (T.range_kept HR.out hS.grown (by simp)) T.TU.out T.TN.out hti htl | exact T.x_rgCell rfl rfl (T.range_kept HR.out hS.grown (by simp)) T.TS.out hlv); (try simp only [Act.put, List.setIfInBounds_toArray, List.set_cons_zero, List.set_cons_succ])))) | ((with_reducible show T.Seq _ _ _ .nil _ _ _); refine T.sq_nil ?_)) | (go_at_K; refine hK.out _ _ _ hM (by (repeat (first | exact List.Sublist.refl _ | apply List.Sublist.cons))) ?_; clear hK K) | ((with_reducible show T.OW _ ⟨_, .call _, _, _, _, _⟩ _ _ _ _); refine T.OW.mk ?_; go_simp) | (go_step) | go_back | ((fail_if_success (with_reducible show T.Seq _ _ _ _ _ _ _)); (fail_if_success (with_reducible show T.OW _ _ _ _ _ _)); simp only [Int.not_lt, Int.not_le] at *; go_simp))
      subst hP
      exact ⟨rfl, hM.below⟩
    · rw [if_neg (fun e => he e.2)] at hP
      have de : decide (x.b.ids = T.blinks x.t) = false := decide_eq_false he
      have HE := Aside0.mk he
      clear he hz2
      go_enter Tryz.func109, Tryz.ntmps109
      repeat' (first | ((with_reducible show Code.wp _ (Code.region 1 _ true) _ _ _); refine T.mregion 1 (.p 0 (.p 1 (.p 2 (.p 3 (.p 4 (.t 5 (.p 6 (.p 7 (.p 8 (.p 9 (.t 10 (.p 11 (.p 12 (.p 13 (.p 14 (.p 15 (.p 16 (.t 17 (.p 18 (.p 19 (.p 20 (.t 21 (.a 22 (.a 23 (.p 24 (.p 25 .nil)))))))))))))))))))))))))) 1000 (by kernel_rfl) (fun _ _ _ _ h => h) hM (List.Sublist.refl _) ?_; clear hM; intro wld hM) | (go_at_call 85; refine (T.blinks_calls x.t _ (HAT.out.t.kept hM.below)).mono ?_; rintro _ wr ⟨v, rfl, ho, h1, hbc⟩; replace hM := hM.callG hbc ho h1; clear hbc ho h1) | (go_at_call 105; refine (T.equalId_calls x.b.ids (T.blinks x.t) HAT.out.b.kids HBK.out HAT.out.b.n _ _ _ (hM.slin HAT.out.b.l) (hM.gsl T.Fg.out)).mono ?_; rintro _ _ ⟨rfl, hbc⟩; replace hM := hM.call hbc; clear hbc; rw [de]) | ((with_reducible show T.Seq _ _ _ (.a _ _) _ _ _); ((refine T.sq_ag rfl rfl (fun K hK => ?_)))) | ((with_reducible show T.Seq _ _ _ _ _ _ _); first | ((with_reducible show T.Seq _ _ _ (.p _ _) _ _ _); ((apply T.sq_p rfl rfl; (focus intro wS; first | ((with_reducible show Sem.run _ (execOp _ ⟨_, .binOp .neq _ _ _ _, _, _, _, _⟩) _ = _); (exact T.x_neq rfl inferInstance rfl rfl (by ((with_reducible assumption))) (by ((with_reducible assumption))))) | (go_simp; with_reducible rfl)); (try simp only [Act.put, List.setIfInBounds_toArray, List.set_cons_zero, List.set_cons_succ]); (try simp only [hz])))) | ((with_reducible show T.Seq _ _ _ (.t _ _) _ _ _); ((apply T.sq_t rfl rfl; (focus intro wS hS; first | exact T.x_rgRow rfl rfl (T.range_kept HR.out hS.grown (by simp)) T.TU.out T.TN.out hlb l1 | exact T.x_rgRow rfl rfl (T.range_kept HR.out hS.grown (by simp)) T.TU.out T.TN.out hlw l2 | exact T.x_rgRow rfl rfl (T.range_kept HR.out hS.grown (by simp)) T.TU.out T.TN.out hti htl | exact T.x_rgCell rfl rfl (T.range_kept HR.out hS.grown (by simp)) T.TS.out hlv); (try simp only [Act.put, List.setIfInBounds_toArray, List.set_cons_zero, List.set_cons_succ])))) | ((with_reducible show T.Seq _ _ _ .nil _ _ _); refine T.sq_nil ?_)) | (go_at_K; refine hK.out _ _ _ hM (by (repeat (first | exact List.Sublist.refl _ | apply List.Sublist.cons))) ?_; clear hK K) | ((with_reducible show T.OW _ ⟨_, .call _, _, _, _, _⟩ _ _ _ _); refine T.OW.mk ?_; go_simp) | (go_step) | go_back | ((fail_if_success (with_reducible show T.Seq _ _ _ _ _ _ _)); (fail_if_success (with_reducible show T.OW _ _ _ _ _ _)); simp only [Int.not_lt, Int.not_le] at *; go_simp))
      subst hP
      exact ⟨rfl, hM.below⟩
theorem T.gsl_lies {base : Nat} {w : World} {v : Value} {e : TypeId} {sz n : Nat} {xs : List Value} (hl : (T.Blk.g v e sz n xs).lies base w) : T.Sl w v n xs := by
  obtain ⟨h, h1⟩ := hl
  rcases h.2 with ⟨rfl, rfl⟩ | ⟨g, cap, cur, rfl, hb, hc, hnc, hm, hsz, ht⟩
  · have hx : xs = [] := List.eq_nil_of_length_eq_zero (by simpa using h.1)
    subst hx
    exact T.Sl.nil _
  · refine ⟨_, cap, rfl, hnc, h1, .inr ⟨g, 0, rfl, fun j v hv => ?_⟩⟩
    rw [Nat.zero_add, cell_of_row w g j _ e (0, 0) hc]
    rw [← ht, List.getElem?_take] at hv
    split at hv
    · simpa using hv
    · cases hv
def T.On (B g : Nat) (W X : World) : Prop := W.heap.size ≤ X.heap.size ∧ ∀ b, B ≤ b → b < W.heap.size → b ≠ g → X.heap[b]? = W.heap[b]?
theorem T.On.of {B g : Nat} {W X : World} (h : W.grownBy X (some g)) : T.On B g W X := ⟨h.size, fun b _ hl hn => h.block b hl (fun e => hn (by cases e; rfl))⟩
theorem T.On.trans {B g : Nat} {W X Y : World} (h : T.On B g W X) (k : T.On B g X Y) : T.On B g W Y := ⟨Nat.le_trans h.1 k.1, fun b hb hl hn => (k.2 b hb (Nat.lt_of_lt_of_le hl h.1) hn).trans (h.2 b hb hl hn)⟩
theorem T.On.keeps {B g : Nat} {W X : World} (h : E.KeepsOn B W X) : T.On B g W X := ⟨h.1, fun b hb hl _ => h.2 b hb hl⟩
theorem T.sl_on {B g base : Nat} {W X : World} {v : Value} {e : TypeId} {sz n : Nat} {xs : List Value} (hl : (T.Blk.g v e sz n xs).lies base W) (hb : B ≤ base) (hap : ∀ k, v.ownBlock = some k → k ≠ g) (h : T.On B g W X) : T.Sl X v n xs := by
  obtain ⟨⟨h1, h2⟩, h3⟩ := hl
  have hx : X.ownsRow base e sz v n xs := by
    refine ⟨h1, h2.imp id ?_⟩
    rintro ⟨g', cap, cur, rfl, hg', hc, h4⟩
    exact ⟨g', cap, cur, rfl, hg', (h.2 g' (Nat.le_trans hb hg') (Array.getElem?_eq_some_iff.1 hc).1 (hap g' rfl)).trans hc, h4⟩
  exact T.gsl_lies (base := base) (e := e) (sz := sz) ⟨hx, h3⟩
theorem T.below2 {w W X : World} {g : Nat} (h : Below w.heap.size w W) (hg : W.grownBy X (some g)) (h0 : w.heap.size ≤ g) : Below w.heap.size w X :=
  ⟨hg.os.trans h.os, hg.tape.trans h.tape, hg.output.trans h.output, Nat.le_trans h.size hg.size, fun k hk => (hg.block k (Nat.lt_of_lt_of_le hk h.size) (fun e => by cases e; omega)).trans (h.block k hk)⟩
def T.WTxs (l : List T.TxV) (w : World) (e : Ending) (w' : World) : Prop := ∃ v' l', e = .returned v' ∧ (∀ X, E.KeepsOn w.heap.size w' X → T.TxsAt X v' l') ∧ l'.length = l.length ∧ Below w.heap.size w w'
theorem T.Mem.ne {w0 w : World} {F : Option Nat} {L : List T.Blk} {v : Value} {e : TypeId} {sz n : Nat} {xs : List Value} (hM : T.Mem w0 F w (.g v e sz n xs :: L)) (g : Nat) {t : TypeId} {cs : List Value} [h : T.Fd g L t cs] : ∀ k, v.ownBlock = some k → k ≠ g := fun k hk e =>
  (List.pairwise_cons.1 hM.nd).1 (.b g t cs) h.out k hk (by rw [e]; rfl)
theorem T.list_put (A B C D : List Value) : (A ++ (B ++ C)).take A.length ++ D ++ (A ++ (B ++ C)).drop (A.length + B.length) = A ++ (D ++ C) := by
  rw [List.take_left, ← List.drop_drop, List.drop_left, List.drop_left, List.append_assoc]
theorem T.txs_calls (l : List T.TxV) (v : Value) (w : World) (h : T.TxsAt w v l) : Calls Tryz.prog 86 #[v] w (T.WTxs l w) := by
  have hM := T.Mem.start w
  obtain ⟨A, cc, hv, _, _, _⟩ := id h.s
  subst hv
  have HAT := Aside0.mk h
  have hlc : (T.rc T.TxV.cells l).length = l.length * 2 := T.rc_len (fun _ _ => rfl)
  have hnn : l.length ≤ 100000000 := Nat.le_trans h.n (by decide)
  clear h
  generalize hP : T.WTxs l w = Post
  go_enter Tryz.func86, Tryz.ntmps86
  by_cases hn : l.length = 0
  · have hl0 : l = [] := List.eq_nil_of_length_eq_zero hn
    subst hl0
    repeat' (first | (go_at_call 124; refine (T.cloneTx _ _ _ _ (hM.slin HAT.out.s) hlc hnn).mono ?_; rintro _ wr ⟨v, rfl, ho, h1, hbc⟩; (obtain ⟨Ag, cg, rfl⟩ := T.own_slice ho); replace hM := hM.callG hbc ho h1; clear hbc ho h1) | (go_step) | ((fail_if_success (with_reducible show T.Seq _ _ _ _ _ _ _)); (fail_if_success (with_reducible show T.OW _ _ _ _ _ _)); simp only [Int.not_lt, Int.not_le] at *; go_simp))
    refine T.wp_rounds 1 ?_
    unfold T.rounds
    repeat' (first | (go_step) | go_back | ((fail_if_success (with_reducible show T.Seq _ _ _ _ _ _ _)); (fail_if_success (with_reducible show T.OW _ _ _ _ _ _)); simp only [Int.not_lt, Int.not_le] at *; go_simp))
    subst hP
    refine ⟨_, [], rfl, fun X hX => ⟨by simp, ?_, fun _ h => (List.not_mem_nil h).elim⟩, rfl, hM.below⟩
    have hrow := hM.row _ List.mem_cons_self
    rcases hrow.1.2 with ⟨e, _⟩ | ⟨g', cap, cur, e, hg', _⟩
    · cases e; exact T.Sl.nil _
    · cases e
      exact ⟨_, _, rfl, Nat.zero_le _, fun _ h => (List.not_mem_nil h).elim, .inr ⟨_, _, rfl, fun j v hj => by cases hj⟩⟩
  · repeat' (first | (go_at_call 124; refine (T.cloneTx _ _ _ _ (hM.slin HAT.out.s) hlc hnn).mono ?_; rintro _ wr ⟨v, rfl, ho, h1, hbc⟩; (obtain ⟨Ag, cg, rfl⟩ := T.own_slice ho); replace hM := hM.callG hbc ho h1; clear hbc ho h1) | (go_step) | ((fail_if_success (with_reducible show T.Seq _ _ _ _ _ _ _)); (fail_if_success (with_reducible show T.OW _ _ _ _ _ _)); simp only [Int.not_lt, Int.not_le] at *; go_simp))
    obtain ⟨g, cap, rest, he, hnc, hcm, _, hcl, h1s, hg0, hM2⟩ := hM.open (by omega)
    cases he
    clear hM
    have hg0 : w.heap.size ≤ g := hg0.resolve_right (by simp)
    have HCL := Aside0.mk hcl
    clear hcl hcm h1s hlc
    go_loopg [10] (l.length + 1) (fun kq v10 Wd => ∃ (i : Nat) (m : List T.TxV), v10 = .int .i64 i ∧ i ≤ l.length ∧ l.length - i < kq ∧ Aside0 (m.length = i ∧ ∀ t ∈ m, ∀ X, T.On w.heap.size g Wd X → t.At X) ∧ Aside0 (T.Mem w none Wd [.b g 95 (T.rc T.TxV.cells (m ++ l.drop i) ++ rest)]))
    case atStart => exact ⟨0, [], rfl, by omega, by omega, ⟨rfl, fun _ h => (List.not_mem_nil h).elim⟩, ⟨hM2⟩⟩
    case round =>
      clear hM2
      obtain ⟨i, m, rfl, hi, hg, HI, hMo⟩ := hrel
      by_cases hlt : i < l.length
      · have hltz : (i : Int) < (l.length : Int) := by omega
        have cb : decide ((i : Int) < (l.length : Int)) = true := decide_eq_true hltz
        have hi0 : (0 : Int) ≤ (i : Int) := by omega
        have hlen : (m ++ l.drop i).length = l.length := by rw [List.length_append, HI.out.1, List.length_drop]; omega
        have hlt2 : i < (m ++ l.drop i).length := by rw [hlen]; exact hlt
        have hget : (m ++ l.drop i)[i] = l[i] := by
          rw [List.getElem_append_right (by rw [HI.out.1]; exact Nat.le_refl _)]
          simp [HI.out.1]
        have hat := T.rc_at (enc := T.TxV.cells) (l := m ++ l.drop i) (k := 2) (fun _ _ => rfl) i hlt2
        rw [hget] at hat
        have HX := Aside0.mk (HAT.out.all _ (List.getElem_mem hlt))
        have hdr : l.drop i = l[i] :: l.drop (i + 1) := List.drop_eq_getElem_cons hlt
        have HDR := Aside0.mk hdr
        have hrl : (T.rc T.TxV.cells (m ++ l.drop i)).length = l.length * 2 := by rw [T.rc_len (k := 2) (fun _ _ => rfl), hlen]
        have HRL := Aside0.mk hrl
        have hM := T.Mem.startF _ (hMo.out.row (.b g _ _) List.mem_cons_self)
        have HB := Aside0.mk hMo.out.below
        have HAT2 := Aside0.mk (show ((T.rc T.TxV.cells (m ++ l.drop i) ++ rest).drop (i * 2)).take 2 = (l[i]).cells by
          rw [List.drop_append_of_le_length (by rw [hrl]; omega), List.take_append_of_le_length (by rw [List.length_drop, hrl]; omega)]
          exact hat)
        have hle : i * 2 + 2 ≤ (T.rc T.TxV.cells (m ++ l.drop i) ++ rest).length := by rw [List.length_append, hrl]; omega
        have HIL := Aside0.mk (show (T.rc T.InV.cells (l[i]).ins).length = (l[i]).ins.length * 33 from T.rc_len (fun y hy => y.len (HX.out.ok y hy)))
        have HOL := Aside0.mk (show (T.rc T.OutV.cells (l[i]).outs).length = (l[i]).outs.length * 2 from T.rc_len (fun _ _ => rfl))
        have HIN := Aside0.mk (Nat.le_trans HX.out.ni (by decide : (1000000 : Nat) ≤ 100000000))
        have HON := Aside0.mk (Nat.le_trans HX.out.no (by decide : (1000000 : Nat) ≤ 100000000))
        clear hat hrl hdr hget hlt2 hlen
        generalize l[i] = x at *
        have hx2 : x.cells.length = 2 := rfl
        have hxo := HX.out.ones
        have hx0 : x.cells[0]? = some x.iv := rfl
        have hx1 : x.cells[1]? = some x.ov := rfl
        repeat' (first | ((with_reducible show Code.wp _ (Code.region 5 _ true) _ _ _); refine T.mregion 5 (.p 0 (.p 1 (.p 2 (.t 3 (.p 5 (.t 6 (.a 4 (.a 7 (.p 8 (.p 9 (.z 10 .nil))))))))))) 10 (by kernel_rfl) (fun _ _ _ _ h => h) hM (List.Sublist.refl _) ?_; clear hM; intro wld hM) | (go_at_call 78; refine (T.cloneIn _ _ _ _ (HX.out.si.kept (T.below2 HB.out hM.grown hg0)) HIL.out HIN.out).mono ?_; rintro _ wr ⟨v, rfl, ho, h1, hbc⟩; (obtain ⟨A1, c1, rfl⟩ := T.own_slice ho); replace hM := hM.callG hbc ho h1; clear hbc ho h1) | (go_at_call 79; refine (T.cloneOut _ _ _ _ (HX.out.so.kept (T.below2 HB.out hM.grown hg0)) HOL.out HON.out).mono ?_; rintro _ wr ⟨v, rfl, ho, h1, hbc⟩; (obtain ⟨A2, c2, rfl⟩ := T.own_slice ho); replace hM := hM.callG hbc ho h1; clear hbc ho h1) | ((with_reducible show T.Seq _ _ _ (.p _ _) _ _ _); apply T.sq_p rfl rfl; (focus intro wS; (with_reducible show Sem.run _ (execOp _ ⟨_, .build _ _, _, _, _, _⟩) _ = _); exact T.x_build rfl inferInstance rfl (by (((simp [T.okp, Value.cells, Act.eval, *]; done)))) rfl); (try simp only [Act.put, List.setIfInBounds_toArray, List.set_cons_zero, List.set_cons_succ]); (try simp only [List.map_toArray, List.map_cons, List.map_nil, Act.eval, Array.getD_eq_getD_getElem?, List.toList_toArray, List.getElem?_toArray, List.getElem?_cons_zero, List.getElem?_cons_succ, Option.getD_some, T.segs, List.replicate_succ, List.replicate_zero, List.set_cons_zero, List.set_cons_succ, Value.cells, List.flatten_cons, List.flatten_nil, List.append_nil, List.cons_append, List.nil_append])) | (((first | ((with_reducible show wpList _ _ _ _ _ _); (refine T.w_o rfl ?_)) | (with_reducible show T.OW _ _ _ _ _ _)); first | ((with_reducible show T.OW _ ⟨_, .load _ _, _, _, _, _⟩ _ _ _ _); ((refine T.ofx (T.x_loadAgg rfl rfl T.Fd.out T.TU.out T.TN.out (by ((with_reducible assumption))) HAT2.out hM) ?_))) | ((with_reducible show T.OW _ ⟨_, .store _ _ _, _, _, _, _⟩ _ _ _ _); first | (refine T.op_storeAll _ _ _ rfl _ rfl _ rfl _ _ hM (by (repeat (first | exact T.Sub.head _ | apply T.Sub.tail))) _ T.TN.out (by (first | with_reducible assumption | rfl)) (by (first | with_reducible assumption | exact T.ones_all rfl)) (by (first | with_reducible assumption | rfl)) ?_; clear hM; intro wld hM) | (refine T.op_store _ _ _ rfl _ _ rfl _ rfl _ _ _ hM (by (repeat (first | exact T.Sub.head _ | apply T.Sub.tail))) _ T.TN.out (by ((rfl))) (by ((exact T.ones_all rfl))) (by ((with_reducible assumption))) rfl ?_; clear hM; intro wld hM)) | ((with_reducible show T.OW _ ⟨_, .alloc _, _, _, _, _⟩ _ _ _ _); refine T.op_alloc _ rfl _ T.TZ.out hM ?_; clear hM; intro blk wld hM hlt)); (try simp only [Act.put, List.setIfInBounds_toArray, List.set_cons_zero, List.set_cons_succ])) | ((with_reducible show T.Seq _ _ _ _ _ _ _); first | ((with_reducible show T.Seq _ _ _ (.p _ _) _ _ _); ((apply T.sq_p rfl rfl; (focus intro wS; ((go_simp; with_reducible rfl))); (try simp only [Act.put, List.setIfInBounds_toArray, List.set_cons_zero, List.set_cons_succ])))) | ((with_reducible show T.Seq _ _ _ (.t _ _) _ _ _); ((apply T.sq_t rfl rfl; (focus intro wS hS; first | exact T.x_load rfl rfl T.Fd.out T.TS.out hx0 hS | exact T.x_load rfl rfl T.Fd.out T.TS.out hx1 hS); (try simp only [Act.put, List.setIfInBounds_toArray, List.set_cons_zero, List.set_cons_succ])))) | ((with_reducible show T.Seq _ _ _ .nil _ _ _); refine T.sq_nil ?_) | ((with_reducible show T.Seq _ _ _ (.a _ _) _ _ _); refine T.sq_a rfl rfl (fun K hK => ?_)) | ((with_reducible show T.Seq _ _ _ (.z _ _) _ _ _); refine T.sq_z rfl rfl (fun K hK => ?_))) | (go_at_K; refine hK.out _ _ _ hM (by (repeat (first | exact List.Sublist.refl _ | apply List.Sublist.cons))) ?_; clear hK K) | (go_at_K; refine hK.out _ _ _ hM ?_; clear hK K) | ((with_reducible show T.OW _ ⟨_, .call _, _, _, _, _⟩ _ _ _ _); refine T.OW.mk ?_; go_simp) | (go_step) | ((fail_if_success (with_reducible show T.Seq _ _ _ _ _ _ _)); (fail_if_success (with_reducible show T.OW _ _ _ _ _ _)); simp only [Int.not_lt, Int.not_le] at *; go_simp))
        have n1 : ∀ k, (Value.slice A2 x.outs.length c2).ownBlock = some k → k ≠ g := hM.ne g
        have n2 : ∀ k, (Value.slice A1 x.ins.length c1).ownBlock = some k → k ≠ g := (hM.drop (List.Sublist.cons _ (List.Sublist.refl _))).ne g
        have hib := HAT.out.n
        go_roundg (l.length - i)
        case measure => omega
        case rel =>
          refine ⟨i + 1, m ++ [⟨.slice A1 x.ins.length c1, .slice A2 x.outs.length c2, x.ins, x.outs⟩], (by (go_num)), by omega, by omega, ⟨⟨by rw [List.length_append, HI.out.1]; rfl, fun t ht X hX => ?_⟩⟩, ⟨?_⟩⟩
          · rcases List.mem_append.1 ht with ht | ht
            · exact HI.out.2 t ht X ((T.On.of hM.grown).trans hX)
            · rw [List.mem_singleton.1 ht]
              exact ⟨HX.out.ok, HX.out.ni, HX.out.no, T.sl_on (hM.row _ (List.mem_cons_of_mem _ List.mem_cons_self)) HB.out.size n2 hX, T.sl_on (hM.row _ List.mem_cons_self) HB.out.size n1 hX⟩
          · have hrow := hM.row _ (T.Fd.out (b := g))
            have h2 := hMo.out.turn (.head _) hM.grown (y := .b g 95 _) hrow (fun k hk => .inl hk)
            have hmc : (T.rc T.TxV.cells m).length = i * 2 := by rw [T.rc_len (k := 2) (fun _ _ => rfl), HI.out.1]
            have heq : T.rc T.TxV.cells (m ++ l.drop i) ++ rest = T.rc T.TxV.cells m ++ (x.cells ++ (T.rc T.TxV.cells (l.drop (i + 1)) ++ rest)) := by
              rw [HDR.out, T.rc_app, T.rc_cons]
              simp only [List.append_assoc]
            rw [heq, ← hmc, show (T.rc T.TxV.cells m).length + 2 = (T.rc T.TxV.cells m).length + x.cells.length from rfl, T.list_put] at h2
            rw [T.rc_app, T.rc_app, T.rc_one, List.append_assoc, List.append_assoc]
            exact h2
      · have hiN : i = l.length := by omega
        have hM := hMo.out
        have hltz : ¬ (i : Int) < (l.length : Int) := by omega
        have cb : decide ((i : Int) < (l.length : Int)) = false := decide_eq_false hltz
        have hmi := HI.out
        have hdn : m ++ l.drop i = m := by rw [hiN, List.drop_length, List.append_nil]
        rw [hdn] at hM
        clear hiN
        have hml : (T.rc T.TxV.cells m).length = m.length * 2 := T.rc_len (fun _ _ => rfl)
        have hmn : m.length = l.length := by have := HI.out.1; omega
        have HMO := Aside0.mk (fun t ht X (h : E.KeepsOn w.heap.size _ X) => HI.out.2 t ht X (T.On.keeps h))
        have HMN := Aside0.mk hmn
        have HML := Aside0.mk hml
        have hon : ∀ u ∈ T.rc T.TxV.cells m, u.oneCell' = true := T.rc_ones (fun t ht => (HMO.out t ht _ (E.KeepsOn.refl _ _)).ones)
        clear hmn hml hmi hdn
        repeat' (first | (go_step) | go_back | ((fail_if_success (with_reducible show T.Seq _ _ _ _ _ _ _)); (fail_if_success (with_reducible show T.OW _ _ _ _ _ _)); simp only [Int.not_lt, Int.not_le] at *; go_simp))
        subst hP
        have hrow := hM.row (.b g _ _) List.mem_cons_self
        have hgl : g < wr.heap.size := hM.size (e := .b g _ _) List.mem_cons_self rfl
        refine ⟨_, m, rfl, fun X hX => ⟨by rw [HMN.out]; exact HAT.out.n, ?_, fun t ht => HMO.out t ht X hX⟩, HMN.out, hM.below⟩
        rw [HMN.out]
        have hXg : X.heap[g]? = some (.cells (T.rc T.TxV.cells m ++ rest).toArray 95) := (hX.2 g hg0 hgl).trans hrow
        exact ⟨_, _, rfl, hnc, hon, .inr ⟨g, 0, rfl, fun j v hj => by
          rw [Nat.zero_add, cell_of_row X g j _ _ (0, 0) hXg]
          simp only [List.getElem?_toArray]
          rw [List.getElem?_append_left (List.getElem?_eq_some_iff.1 hj).1]
          exact hj⟩⟩
end Go.Proofs.YtdklknfgcepcbaaGreat.X
