/- Texts of this proof, laid together by wip/tools/pack.py: TK11, TK12, TK13, TK14, TK15, TL1. -/
import Derived.Test.YtdklknfgcepcbaaGreatZ25
namespace Go.Proofs.YtdklknfgcepcbaaGreat.X
open Go.RowKit Go.Proofs.YtdklknfgcepcbaaGreatW.PrintWords Go.Proofs.YtdklknfgcepcbaaGreatW.PrintLast Go.Proofs.YtdklknfgcepcbaaGreatW.PrintMore
set_option linter.unusedSimpArgs false
set_option linter.unusedVariables false
set_option maxHeartbeats 2000000
set_option maxRecDepth 20000
theorem T.keeps_of {W X : World} {g B : Nat} (h : W.grownBy X (some g)) (hg : g < B) : E.KeepsOn B W X := ⟨h.size, fun b hb hl => h.block b hl (fun e => by cases e; omega)⟩
def T.WBlk (b : T.BlkV) (w : World) (e : Ending) (w' : World) : Prop := ∃ lv tv txs, e = .returned (.agg (T.BlkV.mk b.h lv tv b.ids txs).cells.toArray) ∧ (∀ X, E.KeepsOn w.heap.size w' X → (T.BlkV.mk b.h lv tv b.ids txs).At X) ∧ txs.length = b.txs.length ∧ Below w.heap.size w w'
set_option maxHeartbeats 2000000 in
set_option maxRecDepth 20000 in
theorem T.copied_calls (b : T.BlkV) (w : World) (h : b.At w) : Calls Tryz.prog 113 #[.agg b.cells.toArray] w (T.WBlk b w) := by
  have hM := T.Mem.start w
  have HAT := Aside0.mk h
  have k := h.ok
  have hl := b.len k
  have hla := b.l_at k
  have hta := b.t_at k
  have hlc : (T.rc T.u8s b.ids).length = b.ids.length * 32 := T.rc_len (fun x hx => by rw [encs_length]; exact h.kids x hx)
  have hln : b.ids.length ≤ 100000000 := Nat.le_trans h.n (by decide)
  have hhl := b.h.len k
  have hho := b.h.ones
  have hz137 : (T.Head.zero.cells ++ [T.nilS, T.nilS]).length = 137 := rfl
  clear h
  generalize hP : T.WBlk b w = Post
  go_enter Tryz.func113, Tryz.ntmps113
  have c1 : ∀ u v x : Value, (b.h.cells ++ [u, v]).take 135 ++ [x] ++ (b.h.cells ++ [u, v]).drop (135 + 1) = b.h.cells ++ [x, v] := fun u v x => by
    rw [← hhl, List.take_left, ← List.drop_drop, List.drop_left, List.append_assoc]
    rfl
  have c2 : ∀ u v x : Value, (b.h.cells ++ [u, v]).take 136 ++ [x] ++ (b.h.cells ++ [u, v]).drop (136 + 1) = b.h.cells ++ [u, x] := fun u v x => by
    rw [show (136 : Nat) = b.h.cells.length + 1 by omega, List.take_length_add_append, List.drop_eq_nil_of_le (by simp)]
    simp
  have hbc0 : b.cells = b.h.cells ++ [b.lv, b.tv] := rfl
  have hle1 : ∀ u v : Value, 135 + 1 ≤ (b.h.cells ++ [u, v]).length := fun u v => by rw [List.length_append, hhl]; simp
  have hle2 : ∀ u v : Value, 136 + 1 ≤ (b.h.cells ++ [u, v]).length := fun u v => by rw [List.length_append, hhl]; simp
  have hln2 : ∀ u v : Value, (b.h.cells ++ [u, v]).length = 137 := fun u v => by rw [List.length_append, hhl]; rfl
  have htv : ∀ u : Value, (b.h.cells ++ [u, b.tv])[136]? = some b.tv := fun u => by rw [List.getElem?_append_right (by rw [hhl]; decide), hhl]; rfl
  repeat' (first | (go_at_call 38; refine (T.cloneId _ _ _ _ (hM.slin HAT.out.l) hlc hln).mono ?_; rintro _ wr ⟨v, rfl, ho, h1, hbc⟩; (obtain ⟨A1, c1', rfl⟩ := T.own_slice ho); replace hM := hM.callG hbc ho h1; clear hbc ho h1; (obtain ⟨b2, rfl⟩ := T.n2 hM); (obtain ⟨bb, rfl⟩ := T.n3 hM)) | (go_at_call 86; refine (T.txs_calls b.txs _ _ (HAT.out.t.kept hM.below)).mono ?_; rintro _ wr2 ⟨tv2, txs2, rfl, hK, hll, hbc⟩; have hs1 := hM.size (e := .b bb _ _) T.Fd.out rfl; have hs2 := hM.size (e := .b b2 _ _) T.Fd.out rfl; have HWS := Aside0.mk hM.grown.size; have HK := Aside0.mk hK; have HLL := Aside0.mk hll; replace hM := hM.call hbc; have HMO := Aside0.mk hM; (obtain ⟨A3, c3, rfl, _, _, _⟩ := (hK _ (E.KeepsOn.refl _ _)).s); clear hbc hK hll hM; have hM := T.Mem.startF _ (HMO.out.row (.b bb _ _) T.Fd.out)) | ((with_reducible show wpList _ _ _ (⟨_, .store 51 _ _, _, _, _, _⟩ :: _) _ _); refine T.w_o rfl ?_; refine T.op_store _ _ _ rfl _ 135 rfl [.slice A1 b.ids.length c1'] rfl _ (b.h.cells ++ [b.lv, b.tv]) _ hM (by (repeat (first | exact T.Sub.head _ | apply T.Sub.tail))) 1 T.TN.out rfl (by ((exact T.one_ones rfl))) (hle1 _ _) (c1 _ _ _) ?_; clear hM; intro wld hM; (try simp only [Act.put, List.setIfInBounds_toArray, List.set_cons_zero, List.set_cons_succ])) | ((with_reducible show wpList _ _ _ (⟨_, .store 54 _ _, _, _, _, _⟩ :: _) _ _); refine T.w_o rfl ?_; refine T.op_store _ _ _ rfl _ 136 rfl [.slice A3 txs2.length c3] rfl _ (b.h.cells ++ [.slice A1 b.ids.length c1', b.tv]) _ hM (by (repeat ((exact T.Sub.head _)))) 1 T.TN.out rfl (by ((exact T.one_ones rfl))) (hle2 _ _) (c2 _ _ _) ?_; clear hM; intro wld hM; (try simp only [Act.put, List.setIfInBounds_toArray, List.set_cons_zero, List.set_cons_succ])) | ((((((with_reducible show wpList _ _ _ _ _ _); (refine T.w_o rfl ?_)))); first | ((with_reducible show T.OW _ ⟨_, .load _ _, _, _, _, _⟩ _ _ _ _); first | (refine T.ofx (T.x_load rfl rfl T.Fd.out T.TS.out hla hM) ?_) | (refine T.ofx (T.x_load rfl rfl T.Fd.out T.TS.out (htv _) hM) ?_) | (refine T.ofx (T.x_loadAll rfl rfl T.Fd.out T.TU.out T.TN.out (hln2 _ _) hM) ?_)) | ((with_reducible show T.OW _ ⟨_, .alloc _, _, _, _, _⟩ _ _ _ _); refine T.op_alloc _ rfl _ T.TZ.out hM ?_; clear hM; intro blk wld hM hlt) | ((with_reducible show T.OW _ ⟨_, .box _ _, _, _, _, _⟩ _ _ _ _); refine T.op_box _ _ rfl _ rfl hM ?_; clear hM; intro blk wld hM hlt)); (try simp only [Act.put, List.setIfInBounds_toArray, List.set_cons_zero, List.set_cons_succ])) | ((fail_if_success (with_reducible show wpList _ _ _ (⟨_, .load _ _, _, _, _, _⟩ :: _) _ _)); (fail_if_success (with_reducible show wpList _ _ _ (⟨_, .store _ _ _, _, _, _, _⟩ :: _) _ _)); (fail_if_success (with_reducible show wpList _ _ _ (⟨_, .call ⟨.builtin .append, _, _⟩, _, _, _, _⟩ :: _) _ _)); (fail_if_success (with_reducible show wpList _ _ _ (⟨_, .makeSlice _ _ _, _, _, _, _⟩ :: _) _ _)); go_step) | ((fail_if_success (with_reducible show wpList _ _ _ (⟨_, .load _ _, _, _, _, _⟩ :: _) _ _)); (fail_if_success (with_reducible show wpList _ _ _ (⟨_, .store _ _ _, _, _, _, _⟩ :: _) _ _)); (fail_if_success (with_reducible show wpList _ _ _ (⟨_, .call ⟨.builtin .append, _, _⟩, _, _, _, _⟩ :: _) _ _)); (fail_if_success (with_reducible show wpList _ _ _ (⟨_, .makeSlice _ _ _, _, _, _, _⟩ :: _) _ _)); (fail_if_success (with_reducible show T.Seq _ _ _ _ _ _ _)); (fail_if_success (with_reducible show T.OW _ _ _ _ _ _)); simp only [Int.not_lt, Int.not_le] at *; go_simp))
  have k1 := T.keeps_of hM.grown hs1
  have hr3 : T.Blk.lies w.heap.size _ (.b bb 56 (b.h.cells ++ [.slice A1 b.ids.length c1', .slice A3 txs2.length c3])) := hM.row (.b bb 56 _) List.mem_cons_self
  have hM3 := HMO.out.turn (x := .b bb _ _) (y := .b bb 56 (b.h.cells ++ [.slice A1 b.ids.length c1', .slice A3 txs2.length c3])) (.tail _ (.tail _ (.head _))) hM.grown hr3 (fun k hk => .inl hk)
  clear hr3
  have HM3 := Aside0.mk hM3
  have K1 := Aside0.mk k1
  clear hM hM3 k1 HMO
  have hM := T.Mem.startF _ (HM3.out.row (.b b2 _ _) T.Fd.out)
  have hno : ∀ u ∈ b.h.cells ++ [.slice A1 b.ids.length c1', .slice A3 txs2.length c3], u.oneCell' = true := T.ones_app hho (T.ones_all rfl)
  have hnl := hln2 (.slice A1 b.ids.length c1') (.slice A3 txs2.length c3)
  repeat' (first | ((((((with_reducible show wpList _ _ _ _ _ _); (refine T.w_o rfl ?_)))); (((with_reducible show T.OW _ ⟨_, .store _ _ _, _, _, _, _⟩ _ _ _ _); ((refine T.op_storeAll _ _ _ rfl _ rfl _ rfl _ _ hM (by (repeat ((exact T.Sub.head _)))) _ T.TN.out (by ((with_reducible assumption))) (by ((with_reducible assumption))) (by ((with_reducible assumption))) ?_; clear hM; intro wld hM))))); (try simp only [Act.put, List.setIfInBounds_toArray, List.set_cons_zero, List.set_cons_succ])) | ((fail_if_success (with_reducible show wpList _ _ _ (⟨_, .load _ _, _, _, _, _⟩ :: _) _ _)); (fail_if_success (with_reducible show wpList _ _ _ (⟨_, .store _ _ _, _, _, _, _⟩ :: _) _ _)); (fail_if_success (with_reducible show wpList _ _ _ (⟨_, .call ⟨.builtin .append, _, _⟩, _, _, _, _⟩ :: _) _ _)); (fail_if_success (with_reducible show wpList _ _ _ (⟨_, .makeSlice _ _ _, _, _, _, _⟩ :: _) _ _)); go_step))
  (refine T.ret_cell rfl rfl _ rfl _ _ hM T.Fd.out T.TU.out _ T.TN.out (by ((with_reducible assumption))) ?_)
  subst hP
  have k2 := T.keeps_of hM.grown hs2
  have hr5 : T.Blk.lies w.heap.size _ (.b b2 56 (b.h.cells ++ [.slice A1 b.ids.length c1', .slice A3 txs2.length c3])) := hM.row (.b b2 56 _) List.mem_cons_self
  have hM5 := HM3.out.turn (x := .b b2 _ _) (y := .b b2 56 (b.h.cells ++ [.slice A1 b.ids.length c1', .slice A3 txs2.length c3])) (.tail _ (.head _)) hM.grown hr5 (fun k hk => .inl hk)
  exact ⟨_, _, txs2, rfl, fun X hX => ⟨k, HAT.out.nums, HAT.out.kids, HAT.out.n, T.sl_on (B := w.heap.size) (g := bb) (hM5.row _ List.mem_cons_self) (Nat.le_refl _) (hM5.ne bb) (T.On.keeps hX), HK.out X (K1.out.trans (k2.trans (hX.mono HWS.out)))⟩, HLL.out, hM5.below⟩
def T.WTip (w : World) (e : Ending) (w' : World) : Prop := ∃ cs : List Value, cs.length = 139 ∧ (∀ v ∈ cs, v.oneCell' = true) ∧ e = .returned (.agg cs.toArray) ∧ Below w.heap.size w w'
theorem T.own_calls (t : T.TipV) (w : World) (h : t.At w) : Calls Tryz.prog 112 #[.agg t.cells.toArray] w (T.WTip w) := by
  have hM := T.Mem.start w
  have HAT := Aside0.mk h
  have k := h.b.ok
  have hl := t.len k
  have hb := t.bs k
  have hbl := t.b.len k
  have hpa := t.p_at k
  have hca := t.c_at k
  have hlp : (T.rc T.Tot.cells t.ps).length = t.ps.length * 37 := T.rc_len (fun x hx => x.len (h.okp x hx).1)
  have hlc : (T.rc T.CoinV.cells t.cs).length = t.cs.length * 35 := T.rc_len (fun x hx => x.len (h.okc x hx))
  have hnp : t.ps.length ≤ 100000000 := Nat.le_trans h.np (by decide)
  have hnc : t.cs.length ≤ 100000000 := Nat.le_trans h.nc (by decide)
  have hz139 : ((T.Head.zero.cells ++ [T.nilS, T.nilS]) ++ [T.nilS, T.nilS]).length = 139 := rfl
  have d1 : ∀ (A : List Value) (u v : Value), A.length = 137 → (t.b.cells ++ [t.pv, t.cv]).take 0 ++ A ++ (t.b.cells ++ [t.pv, t.cv]).drop (0 + 137) = A ++ [t.pv, t.cv] := fun A u v _ => by
    rw [Nat.zero_add, List.take_zero, List.nil_append, ← hbl, List.drop_left]
  have d2 : ∀ (A : List Value) (u v x : Value), A.length = 137 → (A ++ [u, v]).take 137 ++ [x] ++ (A ++ [u, v]).drop (137 + 1) = A ++ [x, v] := fun A u v x hA => by
    rw [← hA, List.take_left, ← List.drop_drop, List.drop_left, List.append_assoc]
    rfl
  have d3 : ∀ (A : List Value) (u v x : Value), A.length = 137 → (A ++ [u, v]).take 138 ++ [x] ++ (A ++ [u, v]).drop (138 + 1) = A ++ [u, x] := fun A u v x hA => by
    rw [show (138 : Nat) = A.length + 1 by omega, List.take_length_add_append, List.drop_eq_nil_of_le (by simp)]
    simp
  have hlen : ∀ (A : List Value) (u v : Value), A.length = 137 → (A ++ [u, v]).length = 139 := fun A u v hA => by rw [List.length_append, hA]; rfl
  clear h
  generalize hP : T.WTip w = Post
  go_enter Tryz.func112, Tryz.ntmps112
  repeat' (first | ((with_reducible show Code.wp _ (Code.region 1 _ true) _ _ _); refine T.mregion 1 (.p 0 (.t 1 (.p 3 (.t 4 (.p 6 (.t 7 (.a 2 (.p 9 (.a 5 (.a 8 (.z 10 (.p 11 (.z 12 (.p 13 (.z 14 .nil))))))))))))))) 10 (by kernel_rfl) (fun _ _ _ _ h => h) hM (List.Sublist.refl _) ?_; clear hM; intro wld hM) | (go_at_call 113; refine (T.copied_calls t.b _ (HAT.out.b.kept hM.below)).mono ?_; rintro _ wr ⟨lv, tv, txs', rfl, hK, _, hbc⟩; have hbk := hK _ (E.KeepsOn.refl _ _); replace hM := hM.call hbc; clear hbc hK; have hbo := hbk.ones; have hbl2 := (T.BlkV.mk t.b.h lv tv t.b.ids txs').len k; clear hbk; generalize (T.BlkV.mk t.b.h lv tv t.b.ids txs').cells = bc at *) | (go_at_call 97; refine (T.cloneTot _ _ _ _ (hM.slin HAT.out.p) hlp hnp).mono ?_; rintro _ wr ⟨v, rfl, ho, h1, hbc⟩; (obtain ⟨A1, c1', rfl⟩ := T.own_slice ho); replace hM := hM.callG hbc ho h1; clear hbc ho h1) | (go_at_call 144; refine (T.cloneCoin _ _ _ _ (hM.slin HAT.out.c) hlc hnc).mono ?_; rintro _ wr ⟨v, rfl, ho, h1, hbc⟩; (obtain ⟨A2, c2', rfl⟩ := T.own_slice ho); replace hM := hM.callG hbc ho h1; clear hbc ho h1) | ((with_reducible show T.OW _ ⟨_, .store 56 _ _, _, _, _, _⟩ _ _ _ _); refine T.op_store _ _ _ rfl _ 0 rfl bc rfl _ (t.b.cells ++ [t.pv, t.cv]) _ hM (by (repeat (first | exact T.Sub.head _ | apply T.Sub.tail))) 137 T.TN.out hbl2 hbo (by rw [hlen _ _ _ hbl]; exact Nat.le_of_ble_eq_true rfl) (d1 bc t.pv t.cv hbl2) ?_; clear hM; intro wld hM; (try simp only [Act.put, List.setIfInBounds_toArray, List.set_cons_zero, List.set_cons_succ])) | ((with_reducible show T.OW _ ⟨_, .store 76 _ _, _, _, _, _⟩ _ _ _ _); refine T.op_store _ _ _ rfl _ 137 rfl [.slice A1 t.ps.length c1'] rfl _ (bc ++ [t.pv, t.cv]) _ hM (by (repeat (first | exact T.Sub.head _ | apply T.Sub.tail))) 1 T.TN.out rfl (by ((exact T.one_ones rfl))) (by rw [hlen _ _ _ hbl2]; exact Nat.le_of_ble_eq_true rfl) (d2 bc t.pv t.cv _ hbl2) ?_; clear hM; intro wld hM; (try simp only [Act.put, List.setIfInBounds_toArray, List.set_cons_zero, List.set_cons_succ])) | ((with_reducible show T.OW _ ⟨_, .store 77 _ _, _, _, _, _⟩ _ _ _ _); refine T.op_store _ _ _ rfl _ 138 rfl [.slice A2 t.cs.length c2'] rfl _ (bc ++ [.slice A1 t.ps.length c1', t.cv]) _ hM (by (repeat (first | exact T.Sub.head _ | apply T.Sub.tail))) 1 T.TN.out rfl (by ((exact T.one_ones rfl))) (by rw [hlen _ _ _ hbl2]; exact Nat.le_of_ble_eq_true rfl) (d3 bc _ t.cv _ hbl2) ?_; clear hM; intro wld hM; (try simp only [Act.put, List.setIfInBounds_toArray, List.set_cons_zero, List.set_cons_succ])) | ((with_reducible show wpList _ _ _ (⟨_, .store 79 _ _, _, _, _, _⟩ :: _) _ _); refine T.w_o rfl ?_; refine T.op_storeAll _ _ _ rfl _ rfl (bc ++ [.slice A1 t.ps.length c1', .slice A2 t.cs.length c2']) rfl _ _ hM (by (repeat (first | exact T.Sub.head _ | apply T.Sub.tail))) _ T.TN.out (hlen _ _ _ hbl2) (T.ones_app hbo (T.ones_all rfl)) hz139 ?_; clear hM; intro wld hM; (try simp only [Act.put, List.setIfInBounds_toArray, List.set_cons_zero, List.set_cons_succ])) | (((first | ((with_reducible show wpList _ _ _ _ _ _); (refine T.w_o rfl ?_)) | (with_reducible show T.OW _ _ _ _ _ _)); first | ((with_reducible show T.OW _ ⟨_, .load _ _, _, _, _, _⟩ _ _ _ _); ((refine T.ofx (T.x_loadAll rfl rfl T.Fd.out T.TU.out T.TN.out (hlen _ _ _ hbl2) hM) ?_))) | ((with_reducible show T.OW _ ⟨_, .alloc _, _, _, _, _⟩ _ _ _ _); refine T.op_alloc _ rfl _ T.TZ.out hM ?_; clear hM; intro blk wld hM hlt) | ((with_reducible show T.OW _ ⟨_, .box _ _, _, _, _, _⟩ _ _ _ _); refine T.op_box _ _ rfl _ rfl hM ?_; clear hM; intro blk wld hM hlt)); (try simp only [Act.put, List.setIfInBounds_toArray, List.set_cons_zero, List.set_cons_succ])) | ((with_reducible show T.Seq _ _ _ _ _ _ _); first | ((with_reducible show T.Seq _ _ _ (.p _ _) _ _ _); ((apply T.sq_p rfl rfl; (focus intro wS; ((go_simp; with_reducible rfl))); (try simp only [Act.put, List.setIfInBounds_toArray, List.set_cons_zero, List.set_cons_succ])))) | ((with_reducible show T.Seq _ _ _ (.t _ _) _ _ _); ((apply T.sq_t rfl rfl; (focus intro wS hS; first | exact T.x_load rfl rfl T.Fd.out T.TS.out hpa hS | exact T.x_load rfl rfl T.Fd.out T.TS.out hca hS | exact T.x_loadAgg rfl rfl T.Fd.out T.TU.out T.TN.out (by ((omega))) hb hS); (try simp only [Act.put, List.setIfInBounds_toArray, List.set_cons_zero, List.set_cons_succ])))) | ((with_reducible show T.Seq _ _ _ .nil _ _ _); refine T.sq_nil ?_) | ((with_reducible show T.Seq _ _ _ (.a _ _) _ _ _); refine T.sq_a rfl rfl (fun K hK => ?_)) | ((with_reducible show T.Seq _ _ _ (.z _ _) _ _ _); refine T.sq_z rfl rfl (fun K hK => ?_))) | (go_at_K; refine hK.out _ _ _ hM (by (repeat (first | exact List.Sublist.refl _ | apply List.Sublist.cons))) ?_; clear hK K) | (go_at_K; refine hK.out _ _ _ hM ?_; clear hK K) | ((with_reducible show T.OW _ ⟨_, .call _, _, _, _, _⟩ _ _ _ _); refine T.OW.mk ?_; go_simp) | (go_step) | ((fail_if_success (with_reducible show T.Seq _ _ _ _ _ _ _)); (fail_if_success (with_reducible show T.OW _ _ _ _ _ _)); simp only [Int.not_lt, Int.not_le] at *; go_simp))
  refine T.ret_cell rfl rfl _ rfl _ _ hM T.Fd.out T.TU.out _ T.TN.out (hlen _ _ _ hbl2) ?_
  subst hP
  exact ⟨_, hlen _ _ _ hbl2, T.ones_app hbo (T.ones_all rfl), rfl, hM.below⟩
theorem T.first_calls (fs : List Nat) (J : Nat → World → Prop) (R : Int → World → Prop) (hE : ∀ f ∈ fs, ∀ args w, (callFunc f args).run Tryz.prog w = .ok (.enter f args) w) (bt bf c : Nat) (hn : fs.length ≤ 100) (hc : fs.length ≤ c)
    (hJ : ∀ i W, J i W → W.rangeAt bf 0 (fs.map fun f => Value.func (.func f) #[] #[]))
    (hF : ∀ i (hi : i < fs.length) W, J i W → Calls Tryz.prog fs[i] #[.pointer (some ⟨bt, 0, none⟩)] W fun e w' => ∃ err : Int, e = .returned (.int .i64 err) ∧ ((err = 0 ∧ J (i + 1) w') ∨ (err ≠ 0 ∧ R err w'))) (w : World) (h0 : J 0 w) :
    Calls Tryz.prog 81 #[.pointer (some ⟨bt, 0, none⟩), .slice (some ⟨bf, 0, none⟩) fs.length c] w fun e w' => (e = .returned (.int .i64 0) ∧ J fs.length w') ∨ ∃ err : Int, err ≠ 0 ∧ e = .returned (.int .i64 err) ∧ R err w' := by
  have HE := Aside0.mk hE
  have HJ := Aside0.mk hJ
  have HF := Aside0.mk hF
  have H0 := Aside0.mk h0
  clear hE hJ hF h0
  generalize hP : (fun (e : Ending) w' => (e = .returned (.int .i64 0) ∧ J fs.length w') ∨ ∃ err : Int, err ≠ 0 ∧ e = .returned (.int .i64 err) ∧ R err w') = Post
  go_enter Tryz.func81, Tryz.ntmps81
  go_wp2
  go_loopg [10] (fs.length + 1) (fun kq v10 Wd => ∃ i : Nat, v10 = .int .i64 i ∧ i ≤ fs.length ∧ fs.length - i < kq ∧ Aside0 (J i Wd))
  case atStart => exact ⟨0, rfl, by omega, by omega, H0⟩
  case round =>
    clear H0
    obtain ⟨i, rfl, hi, hg, HI⟩ := hrel
    by_cases hlt : i < fs.length
    · have hltz : (i : Int) < (fs.length : Int) := by omega
      have cb : decide ((i : Int) < (fs.length : Int)) = true := decide_eq_true hltz
      have hi0 : (0 : Int) ≤ (i : Int) := by omega
      have hcell := HJ.out i _ HI.out i (Value.func (.func fs[i]) #[] #[]) (by rw [List.getElem?_map, List.getElem?_eq_getElem hlt]; rfl)
      rw [Nat.zero_add] at hcell
      have he := HE.out fs[i] (List.getElem_mem hlt)
      have hf := Aside0.mk (HF.out i hlt _ HI.out)
      generalize fs[i] = f at *
      go_wp2_with (refine hf.out.mono ?_; rintro _ w2 ⟨err, rfl, (⟨rfl, hj⟩ | ⟨hne, hr⟩)⟩)
      · go_roundg (fs.length - i)
        case measure => omega
        case rel => exact ⟨i + 1, (by (go_num)), by omega, by omega, ⟨hj⟩⟩
      · subst hP
        exact .inr ⟨err, hne, rfl, hr⟩
    · have hiN : i = fs.length := by omega
      have hltz : ¬ (i : Int) < (fs.length : Int) := by omega
      have cb : decide ((i : Int) < (fs.length : Int)) = false := decide_eq_false hltz
      have HI2 := Aside0.mk (show J fs.length _ by have := HI.out; rwa [hiN] at this)
      clear hiN
      go_wp2
      subst hP
      exact .inl ⟨rfl, HI2.out⟩
theorem T.x_slCell2 {P : Program} {w : World} {op : Oper} {a : Act} {ty : TypeId} {x : Operand} {b o n c j k : Nat} {cs : List Value} {v : Value} (ho : op.op = .load ty x) (hx : a.eval x = .pointer (some ⟨b, o + j + k, none⟩)) (hS : T.Sl w (.slice (some ⟨b, o, none⟩) n c) n cs)
    (hg : ∀ w, (isAgg ty).run P w = .ok false w) (hv : cs[j + k]? = some v) : (execOp a.eval op).run P w = .ok (.value v) w :=
  T.x_slCell (j := j + k) ho (by rw [hx, Nat.add_assoc]) hS hg hv
theorem T.few35_calls (t : T.TxV) (w : World) (h : t.At w) : Calls Tryz.prog 35 #[.agg t.cells.toArray] w (T.WB w) := by
  have hM := T.Mem.start w
  obtain ⟨iv, ov, ins, outs⟩ := t
  obtain ⟨A, cc, hA, _, _, _⟩ := h.si
  obtain ⟨A2, cc2, hA2, _, _, _⟩ := h.so
  simp only at hA hA2
  subst hA
  subst hA2
  clear h
  generalize hP : T.WB w = Post
  go_enter Tryz.func35, Tryz.ntmps35
  cases d1 : decide ((ins.length : Int) ≤ 6) <;> cases d2 : decide ((outs.length : Int) ≤ 6)
  all_goals repeat' (first | ((((((with_reducible show wpList _ _ _ _ _ _); first | refine T.w_o rfl ?_ | ((with_reducible show wpList _ _ _ (⟨_, _, _, _, _, some _⟩ :: _) _ _); refine T.w_g rfl ?_)))); first | ((with_reducible show T.OW _ ⟨_, .load _ _, _, _, _, _⟩ _ _ _ _); ((refine T.ofx (T.x_load rfl rfl T.Fd.out T.TS.out rfl hM) ?_))) | ((with_reducible show T.OW _ ⟨_, .box _ _, _, _, _, _⟩ _ _ _ _); refine T.op_box _ _ rfl _ rfl hM ?_; clear hM; intro blk wld hM hlt)); (try simp only [Act.put, List.setIfInBounds_toArray, List.set_cons_zero, List.set_cons_succ])) | go_skip | go_guarded | (go_step) | go_back | ((fail_if_success (with_reducible show T.Seq _ _ _ _ _ _ _)); (fail_if_success (with_reducible show T.OW _ _ _ _ _ _)); simp only [Int.not_lt, Int.not_le] at *; go_simp))
  all_goals subst hP
  all_goals exact ⟨_, rfl, hM.below⟩
theorem T.few15_calls (l : List T.TxV) (v : Value) (w : World) (h : T.TxsAt w v l) : Calls Tryz.prog 15 #[v, .int .i64 6] w (T.WB w) := by
  have hM := T.Mem.start w
  obtain ⟨A, cc, hv, _, _, _⟩ := id h.s
  subst hv
  have HAT := Aside0.mk h
  clear h
  generalize hP : T.WB w = Post
  go_enter Tryz.func15, Tryz.ntmps15
  repeat' (((go_step)))
  go_loopg [5] (l.length + 1) (fun kq v5 Wd => ∃ i : Nat, v5 = .int .i64 i ∧ i ≤ l.length ∧ l.length - i < kq ∧ Aside0 (T.Mem w none Wd []))
  case atStart => exact ⟨0, rfl, by omega, by omega, ⟨hM⟩⟩
  case round =>
    clear hM
    obtain ⟨i, rfl, hi, hg, hMo⟩ := hrel
    have hM := hMo.out
    clear hMo
    by_cases hlt : i < l.length
    · have hltz : (i : Int) < (l.length : Int) := by omega
      have cb : decide ((i : Int) < (l.length : Int)) = true := decide_eq_true hltz
      have hi0 : (0 : Int) ≤ (i : Int) := by omega
      obtain ⟨b, o, rfl⟩ := HAT.out.s.adr (by omega)
      have H1 := Aside0.mk (T.rc_at (enc := T.TxV.cells) (k := 2) (fun _ _ => rfl) i hlt)
      have HT := Aside0.mk (HAT.out.all _ (List.getElem_mem hlt))
      generalize l[i] = t at *
      have hx2 : t.cells.length = 2 := rfl
      repeat' (first | (go_at_call 35; refine (T.few35_calls _ _ (HT.out.kept hM.below)).mono ?_; rintro _ _ ⟨bb, rfl, hbc⟩; replace hM := hM.call hbc; clear hbc; cases bb) | ((((((with_reducible show wpList _ _ _ _ _ _); (refine T.w_o rfl ?_)))); (((with_reducible show T.OW _ ⟨_, .load _ _, _, _, _, _⟩ _ _ _ _); ((refine T.ofx (T.x_slRow rfl rfl (hM.slin HAT.out.s) T.TU.out T.TN.out H1.out hx2) ?_))))); (try simp only [Act.put, List.setIfInBounds_toArray, List.set_cons_zero, List.set_cons_succ])) | (go_step) | go_back | ((fail_if_success (with_reducible show T.Seq _ _ _ _ _ _ _)); (fail_if_success (with_reducible show T.OW _ _ _ _ _ _)); simp only [Int.not_lt, Int.not_le] at *; go_simp))
      · subst hP
        exact ⟨_, rfl, hM.below⟩
      · have hib := HAT.out.n
        go_roundg (l.length - i)
        case measure => omega
        case rel => exact ⟨i + 1, (by ((refine congrArg (Value.int .i64) ?_; unfold wrap64; omega))), by omega, by omega, ⟨hM⟩⟩
    · have hltz : ¬ (i : Int) < (l.length : Int) := by omega
      have cb : decide ((i : Int) < (l.length : Int)) = false := decide_eq_false hltz
      repeat' (first | (go_step) | go_back | ((fail_if_success (with_reducible show T.Seq _ _ _ _ _ _ _)); (fail_if_success (with_reducible show T.OW _ _ _ _ _ _)); simp only [Int.not_lt, Int.not_le] at *; go_simp))
      subst hP
      exact ⟨_, rfl, hM.below⟩
def T.WFew (n : Nat) (w : World) (e : Ending) (w' : World) : Prop := ∃ b, e = .returned (.bool b) ∧ (b = true → n ≤ 50) ∧ Below w.heap.size w w'
set_option maxHeartbeats 16000000 in
theorem T.few_calls (l : List T.BlkV) (v : Value) (w : World) (h : T.BlksAt w v l) : Calls Tryz.prog 5 #[v] w (T.WFew l.length w) := by
  have hM := T.Mem.start w
  obtain ⟨A, cc, hv, _, _, _⟩ := id h.s
  subst hv
  have HAT := Aside0.mk h
  clear h
  generalize hP : T.WFew l.length w = Post
  go_enter Tryz.func5, Tryz.ntmps5
  repeat' (((go_step)))
  go_loopg [3] (l.length + 1) (fun kq v3 Wd => ∃ i : Nat, v3 = .int .i64 i ∧ i ≤ l.length ∧ l.length - i < kq ∧ Aside0 (T.Mem w none Wd []))
  case atStart => exact ⟨0, rfl, by omega, by omega, ⟨hM⟩⟩
  case round =>
    clear hM
    obtain ⟨i, rfl, hi, hg, hMo⟩ := hrel
    have hM := hMo.out
    clear hMo
    by_cases hlt : i < l.length
    · have hltz : (i : Int) < (l.length : Int) := by omega
      have cb : decide ((i : Int) < (l.length : Int)) = true := decide_eq_true hltz
      have hi0 : (0 : Int) ≤ (i : Int) := by omega
      obtain ⟨b, o, rfl⟩ := HAT.out.s.adr (by omega)
      have HT := Aside0.mk (HAT.out.all _ (List.getElem_mem hlt))
      have hal : ∀ x ∈ l, x.cells.length = 137 := fun x hx => x.len (HAT.out.all x hx).ok
      have c1 := (T.rc_cell (enc := T.BlkV.cells) hal i 136 hlt (by decide)).trans ((l[i]).t_at HT.out.ok)
      have c2 := (T.rc_cell (enc := T.BlkV.cells) hal i 135 hlt (by decide)).trans ((l[i]).l_at HT.out.ok)
      obtain ⟨A3, c3, hlv, _, _, _⟩ := HT.out.l
      rw [hlv] at c2
      generalize l[i] = x at *
      clear hal
      cases d1 : decide ((40 : Int) < (x.ids.length : Int))
      all_goals repeat' (first | (go_at_call 15; refine (T.few15_calls _ _ _ (HT.out.t.kept hM.below)).mono ?_; rintro _ _ ⟨bb, rfl, hbc⟩; replace hM := hM.call hbc; clear hbc; cases bb) | ((((((with_reducible show wpList _ _ _ _ _ _); first | refine T.w_o rfl ?_ | ((with_reducible show wpList _ _ _ (⟨_, _, _, _, _, some _⟩ :: _) _ _); refine T.w_g rfl ?_)))); (((with_reducible show T.OW _ ⟨_, .load _ _, _, _, _, _⟩ _ _ _ _); first | (refine T.ofx (T.x_slCell2 (j := i * 137) (k := 136) rfl rfl (hM.slin HAT.out.s) T.TS.out c1) ?_) | (refine T.ofx (T.x_slCell2 (j := i * 137) (k := 135) rfl rfl (hM.slin HAT.out.s) T.TS.out c2) ?_)))); (try simp only [Act.put, List.setIfInBounds_toArray, List.set_cons_zero, List.set_cons_succ])) | go_guarded | (go_step) | go_back | ((fail_if_success (with_reducible show T.Seq _ _ _ _ _ _ _)); (fail_if_success (with_reducible show T.OW _ _ _ _ _ _)); simp only [Int.not_lt, Int.not_le] at *; go_simp))
      all_goals first
        | (subst hP; exact ⟨_, rfl, fun h => (by cases h), hM.below⟩)
        | (have hib := HAT.out.n
           go_roundg (l.length - i)
           case measure => omega
           case rel => exact ⟨i + 1, (by ((refine congrArg (Value.int .i64) ?_; unfold wrap64; omega))), by omega, by omega, ⟨hM⟩⟩)
    · have hltz : ¬ (i : Int) < (l.length : Int) := by omega
      have cb : decide ((i : Int) < (l.length : Int)) = false := decide_eq_false hltz
      cases d1 : decide ((l.length : Int) ≤ 50)
      all_goals repeat' (first | (go_step) | go_back | ((fail_if_success (with_reducible show T.Seq _ _ _ _ _ _ _)); (fail_if_success (with_reducible show T.OW _ _ _ _ _ _)); simp only [Int.not_lt, Int.not_le] at *; go_simp))
      · subst hP
        exact ⟨false, rfl, fun h => (by cases h), hM.below⟩
      · subst hP
        exact ⟨true, rfl, fun _ => by have := of_decide_eq_true d1; omega, hM.below⟩
theorem T.CoinV.txs (c : T.CoinV) (h : c.ok) : (c.cells.drop 0).take 32 = T.u8s c.inp.tx := by
  have h1 := c.inp.txs h
  rw [T.CoinV.cells, List.drop_zero, List.take_append_of_le_length (by rw [c.inp.len h]; decide)]
  exact (by rw [← h1, List.drop_zero])
theorem T.made1_calls (c : T.CoinV) (kc : c.ok) (id : List Int) (hid : id.length = 32) (bi : Nat) (w : World) (hr : w.rangeAt bi 0 (T.u8s id)) : Calls Tryz.prog 187 #[.agg c.cells.toArray, .pointer (some ⟨bi, 0, none⟩)] w (T.WB w) := by
  have hM := T.Mem.start w
  have hlc := c.len kc
  have HR := Aside0.mk hr
  have hct := c.txs kc
  have hcl : c.inp.tx.length = 32 := kc
  have hii : ((T.u8s id).drop 0).take 32 = T.u8s id := by rw [List.drop_zero, List.take_of_length_le (by rw [encs_length, hid]; decide)]
  have hil : (T.u8s id).length = 32 := by rw [encs_length, hid]
  clear hr
  generalize hP : T.WB w = Post
  go_enter Tryz.func187, Tryz.ntmps187
  repeat' (first | ((((((with_reducible show wpList _ _ _ _ _ _); (refine T.w_o rfl ?_)))); first | ((with_reducible show T.OW _ ⟨_, .load _ _, _, _, _, _⟩ _ _ _ _); first | (refine T.ofx (T.x_loadAgg rfl rfl T.Fd.out T.TU.out T.TN.out (by ((omega))) hct hM) ?_) | (refine T.ofx (T.x_rgRow rfl rfl (T.range_kept HR.out hM.grown (by simp)) T.TU.out T.TN.out hii hil) ?_)) | ((with_reducible show T.OW _ ⟨_, .box _ _, _, _, _, _⟩ _ _ _ _); refine T.op_box _ _ rfl _ rfl hM ?_; clear hM; intro blk wld hM hlt) | ((with_reducible show T.OW _ ⟨_, .binOp .eql _ _ _ _, _, _, _, _⟩ _ _ _ _); ((refine T.ofx (T.x_eql rfl inferInstance rfl rfl (by ((with_reducible assumption))) (by ((with_reducible assumption)))) ?_; try simp only [hz])))); (try simp only [Act.put, List.setIfInBounds_toArray, List.set_cons_zero, List.set_cons_succ])) | (go_step) | go_back)
  subst hP
  exact ⟨_, rfl, hM.below⟩
theorem T.idxCoin_calls (l : List T.CoinV) (kl : ∀ x ∈ l, x.ok) (hnb : l.length ≤ 200000000) (id : List Int) (hid : id.length = 32) (bi : Nat) (v : Value) (w : World) (hS : T.Sl w v l.length (T.rc T.CoinV.cells l)) (hr : w.rangeAt bi 0 (T.u8s id)) : Calls Tryz.prog 209 #[v, .func (.func 187) #[] #[.pointer (some ⟨bi, 0, none⟩)]] w (T.WI w) := by
  have hM := T.Mem.start w
  have hS2 := hS
  obtain ⟨A, cc, hv, _, _, _⟩ := hS2
  rw [hv] at hS ⊢
  have HS := Aside0.mk hS
  have HK := Aside0.mk kl
  have HR := Aside0.mk hr
  clear hS hv kl hr
  generalize hP : T.WI w = Post
  go_enter Tryz.func209, Tryz.ntmps209
  repeat' (((go_step)))
  go_loopg [8] (l.length + 1) (fun kq v8 Wd => ∃ i : Nat, v8 = .int .i64 i ∧ i ≤ l.length ∧ l.length - i < kq ∧ Aside0 (T.Mem w none Wd []))
  case atStart => exact ⟨0, rfl, by omega, by omega, ⟨hM⟩⟩
  case round =>
    clear hM
    obtain ⟨i, rfl, hi, hg, hMo⟩ := hrel
    have hM := hMo.out
    clear hMo
    by_cases hlt : i < l.length
    · have hltz : (i : Int) < (l.length : Int) := by omega
      have cb : decide ((i : Int) < (l.length : Int)) = true := decide_eq_true hltz
      have hi0 : (0 : Int) ≤ (i : Int) := by omega
      obtain ⟨b, o, rfl⟩ := HS.out.adr (by omega)
      have H1 := Aside0.mk (T.rc_at (enc := T.CoinV.cells) (k := 35) (fun x hx => x.len (HK.out x hx)) i hlt)
      have kx : (l[i]).ok := HK.out _ (List.getElem_mem hlt)
      generalize l[i] = x at *
      have hx2 : x.cells.length = 35 := x.len kx
      have hxo := x.ones
      repeat' (first | (go_at_call 187; refine (T.made1_calls _ (by with_reducible assumption) id hid _ _ (T.range_kept HR.out hM.grown (by simp))).mono ?_; rintro _ _ ⟨rb, rfl, hbc⟩; replace hM := hM.call hbc; clear hbc; cases rb) | ((((((with_reducible show wpList _ _ _ _ _ _); (refine T.w_o rfl ?_)))); (((with_reducible show T.OW _ ⟨_, .load _ _, _, _, _, _⟩ _ _ _ _); ((refine T.ofx (T.x_slRow rfl rfl (hM.slin HS.out) T.TU.out T.TN.out H1.out hx2) ?_))))); (try simp only [Act.put, List.setIfInBounds_toArray, List.set_cons_zero, List.set_cons_succ])) | (go_step) | go_back | ((fail_if_success (with_reducible show T.Seq _ _ _ _ _ _ _)); (fail_if_success (with_reducible show T.OW _ _ _ _ _ _)); simp only [Int.not_lt, Int.not_le] at *; go_simp))
      · have hib : i < 4611686018427387904 := by omega
        go_roundg (l.length - i)
        case measure => omega
        case rel => exact ⟨i + 1, (by (go_num)), by omega, by omega, ⟨hM.drop (by (repeat ((exact List.Sublist.refl _))))⟩⟩
      · subst hP
        exact ⟨_, rfl, hM.below⟩
    · have hiN : i = l.length := by omega
      have hltz : ¬ (i : Int) < (l.length : Int) := by omega
      have cb : decide ((i : Int) < (l.length : Int)) = false := decide_eq_false hltz
      repeat' (first | (go_step) | go_back | ((fail_if_success (with_reducible show T.Seq _ _ _ _ _ _ _)); (fail_if_success (with_reducible show T.OW _ _ _ _ _ _)); simp only [Int.not_lt, Int.not_le] at *; go_simp))
      subst hP
      exact ⟨_, rfl, hM.below⟩
theorem T.hasCoin_calls (l : List T.CoinV) (kl : ∀ x ∈ l, x.ok) (hnb : l.length ≤ 200000000) (id : List Int) (hid : id.length = 32) (bi : Nat) (v : Value) (w : World) (hS : T.Sl w v l.length (T.rc T.CoinV.cells l)) (hr : w.rangeAt bi 0 (T.u8s id)) : Calls Tryz.prog 186 #[v, .func (.func 187) #[] #[.pointer (some ⟨bi, 0, none⟩)]] w (T.WB w) := by
  have hM := T.Mem.start w
  have HS := Aside0.mk hS
  have HR := Aside0.mk hr
  clear hS hr
  generalize hP : T.WB w = Post
  go_enter Tryz.func186, Tryz.ntmps186
  repeat' (first | (go_at_call 209; refine (T.idxCoin_calls l kl hnb id hid _ _ _ (hM.slin HS.out) (T.range_kept HR.out hM.grown (by simp))).mono ?_; rintro _ _ ⟨jj, rfl, hbc⟩; replace hM := hM.call hbc; clear hbc) | (go_step) | go_back | ((fail_if_success (with_reducible show T.Seq _ _ _ _ _ _ _)); (fail_if_success (with_reducible show T.OW _ _ _ _ _ _)); simp only [Int.not_lt, Int.not_le] at *; go_simp))
  subst hP
  exact ⟨_, rfl, hM.below⟩
theorem T.ret_ttt {P : Program} {fn : Func} {R : Ending → World → Prop} {a : Act} {w : World} {k m n : Tmp} (hf : fn.results = #[.tmp k, .tmp m, .tmp n]) (hd : a.defers = []) (x y z : Value) (hx : a.tmps.getD k undef = x) (hy : a.tmps.getD m undef = y) (hz : a.tmps.getD n undef = z)
    (hR : R (.returned (.tuple #[x, y, z])) w) : bodyPost P fn R .ret a w := by
  refine bodyPost_ret ?_ hd hR
  rw [Array.getD_eq_getD_getElem?] at hx hy hz
  unfold results
  rw [hf]
  simp [hx, hy, hz]
def T.OwnC (w : World) (v : Value) (l : List T.CoinV) (w' : World) : Prop := w'.ownsRow w.heap.size 234 35 v l.length (T.rc T.CoinV.cells l) ∧ (∀ x ∈ l, x.ok)
def T.WFailS (p : List T.CoinV) (err : Int) (w : World) (e : Ending) (w' : World) : Prop := ∃ v, e = .returned (.tuple #[v, .int .i64 0, .int .i64 err]) ∧ T.OwnC w v p w' ∧ Below w.heap.size w w'
def T.WFailA (p : List T.CoinV) (err : Int) (w : World) (e : Ending) (w' : World) : Prop := ∃ v, e = .returned (.tuple #[v, .int .i64 err]) ∧ T.OwnC w v p w' ∧ Below w.heap.size w w'
theorem T.failS_calls (p : List T.CoinV) (kp : ∀ x ∈ p, x.ok) (hn : p.length ≤ 100000000) (err : Int) (bp : Nat) (v : Value) (w : World) (hc : w.cell? ⟨bp, 0, none⟩ = some v) (hS : T.Sl w v p.length (T.rc T.CoinV.cells p)) : Calls Tryz.prog 180 #[.int .i64 err, .pointer (some ⟨bp, 0, none⟩)] w (T.WFailS p err w) := by
  have hM := T.Mem.start w
  have hlp : (T.rc T.CoinV.cells p).length = p.length * 35 := T.rc_len (fun x hx => x.len (kp x hx))
  obtain ⟨A, cc, hv, _, _, _⟩ := id hS
  rw [hv] at hS hc
  have HS := Aside0.mk hS
  have HR := Aside0.mk (show w.rangeAt bp 0 [.slice A p.length cc] by intro j u hj; cases j with | zero => cases hj; exact hc | succ j => cases hj)
  clear hS hv hc
  generalize hP : T.WFailS p err w = Post
  go_enter Tryz.func180, Tryz.ntmps180
  repeat' (first | (go_at_call 144; refine (T.cloneCoin _ _ _ _ (hM.slin HS.out) hlp hn).mono ?_; rintro _ wr ⟨v, rfl, ho, h1, hbc⟩; (obtain ⟨Ag, cg, rfl⟩ := T.own_slice ho); replace hM := hM.callG hbc ho h1; clear hbc ho h1) | ((((((with_reducible show wpList _ _ _ _ _ _); (refine T.w_o rfl ?_)))); (((with_reducible show T.OW _ ⟨_, .load _ _, _, _, _, _⟩ _ _ _ _); ((refine T.ofx (T.x_rgCell rfl rfl (T.range_kept HR.out hM.grown (by simp)) T.TS.out rfl) ?_))))); (try simp only [Act.put, List.setIfInBounds_toArray, List.set_cons_zero, List.set_cons_succ])) | (go_step) | ((fail_if_success (with_reducible show T.Seq _ _ _ _ _ _ _)); (fail_if_success (with_reducible show T.OW _ _ _ _ _ _)); simp only [Int.not_lt, Int.not_le] at *; go_simp))
  refine T.ret_ttt rfl rfl _ _ _ rfl rfl rfl ?_
  subst hP
  obtain ⟨v2, hv2, ho, h1, hb⟩ := hM.eg List.mem_cons_self
  cases hv2
  exact ⟨_, rfl, ⟨ho, kp⟩, hb⟩
theorem T.failA_calls (p : List T.CoinV) (kp : ∀ x ∈ p, x.ok) (hn : p.length ≤ 100000000) (err : Int) (bp : Nat) (v : Value) (w : World) (hc : w.cell? ⟨bp, 0, none⟩ = some v) (hS : T.Sl w v p.length (T.rc T.CoinV.cells p)) : Calls Tryz.prog 151 #[.int .i64 err, .pointer (some ⟨bp, 0, none⟩)] w (T.WFailA p err w) := by
  have hM := T.Mem.start w
  have hlp : (T.rc T.CoinV.cells p).length = p.length * 35 := T.rc_len (fun x hx => x.len (kp x hx))
  obtain ⟨A, cc, hv, _, _, _⟩ := id hS
  rw [hv] at hS hc
  have HS := Aside0.mk hS
  have HR := Aside0.mk (show w.rangeAt bp 0 [.slice A p.length cc] by intro j u hj; cases j with | zero => cases hj; exact hc | succ j => cases hj)
  clear hS hv hc
  generalize hP : T.WFailA p err w = Post
  go_enter Tryz.func151, Tryz.ntmps151
  repeat' (first | (go_at_call 144; refine (T.cloneCoin _ _ _ _ (hM.slin HS.out) hlp hn).mono ?_; rintro _ wr ⟨v, rfl, ho, h1, hbc⟩; (obtain ⟨Ag, cg, rfl⟩ := T.own_slice ho); replace hM := hM.callG hbc ho h1; clear hbc ho h1) | ((((((with_reducible show wpList _ _ _ _ _ _); (refine T.w_o rfl ?_)))); (((with_reducible show T.OW _ ⟨_, .load _ _, _, _, _, _⟩ _ _ _ _); ((refine T.ofx (T.x_rgCell rfl rfl (T.range_kept HR.out hM.grown (by simp)) T.TS.out rfl) ?_))))); (try simp only [Act.put, List.setIfInBounds_toArray, List.set_cons_zero, List.set_cons_succ])) | (go_step) | go_back | ((fail_if_success (with_reducible show T.Seq _ _ _ _ _ _ _)); (fail_if_success (with_reducible show T.OW _ _ _ _ _ _)); simp only [Int.not_lt, Int.not_le] at *; go_simp))
  subst hP
  obtain ⟨v2, hv2, ho, h1, hb⟩ := hM.eg List.mem_cons_self
  cases hv2
  exact ⟨_, rfl, ⟨ho, kp⟩, hb⟩
end Go.Proofs.YtdklknfgcepcbaaGreat.X
