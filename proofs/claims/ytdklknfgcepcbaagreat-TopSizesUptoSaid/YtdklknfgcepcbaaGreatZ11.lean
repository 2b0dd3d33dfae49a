/- Texts of this proof, laid together by wip/tools/pack.py: TG1, TH1, TH2, TH3, TH4, TD2. -/
import Derived.Test.YtdklknfgcepcbaaGreatZ10
import Derived.Test.YtdklknfgcepcbaaGreatZ7
namespace Go.Proofs.YtdklknfgcepcbaaGreat.X
open Go.RowKit Go.Proofs.YtdklknfgcepcbaaGreatW.PrintWords Go.Proofs.YtdklknfgcepcbaaGreatW.PrintLast Go.Proofs.YtdklknfgcepcbaaGreatW.PrintMore
set_option linter.unusedSimpArgs false
set_option linter.unusedVariables false
set_option maxHeartbeats 2000000
set_option maxRecDepth 20000
section
theorem T.w_g {P : Program} {op : Oper} {ops : Array Oper} {rest : List Oper} {a : Act} {w : World} {Q : Exit → Act → World → Prop} (hw : Region.wanted op (yielded ops a.tmps) = true) (h : T.OW P op a w (wpList P ops Q rest) Q) : wpList P ops Q (op :: rest) a w :=
  BigFrame.wpList_want hw fun _ hh => Oper.wp_mono hh h.out
def T.hput (h : T.Head) : List Int := T.put h.height 4 ++ (h.prev ++ (h.links ++ (h.txs ++ (h.past ++ (T.wbytes h.work ++ (T.put h.bits 4 ++ T.put h.nonce 8))))))
theorem T.hput_len (h : T.Head) (k : h.ok) : (T.hput h).length = 176 := by
  simp [T.hput, T.put_len, T.wbytes_len, k.prev, k.links, k.txs, k.past]
def T.hputs (h : T.Head) (v1 v2 v3 v4 v5 v6 v7 v8 : Value) : List (Value × List Int) :=
  [(v1, T.put h.height 4), (v2, h.prev), (v3, h.links), (v4, h.txs), (v5, h.past), (v6, T.wbytes h.work), (v7, T.put h.bits 4), (v8, T.put h.nonce 8)]
theorem T.hputs_cat (h : T.Head) (v1 v2 v3 v4 v5 v6 v7 v8 : Value) : T.cat (T.hputs h v1 v2 v3 v4 v5 v6 v7 v8) = T.hput h := by simp [T.cat, T.hputs, T.hput]
def T.Head.fit (h : T.Head) : Bool := decide (0 ≤ h.height) && decide (h.height ≤ 1048576)
structure T.Head.nums (h : T.Head) : Prop where
  height : -9223372036854775808 ≤ h.height ∧ h.height < 9223372036854775808
  bits : 0 ≤ h.bits ∧ h.bits < 4294967296
  nonce : 0 ≤ h.nonce ∧ h.nonce < 18446744073709551616
theorem T.hput_no (h : T.Head) (k : h.ok) (hf : h.fit = false) (w : World) : Calls Tryz.prog 33 #[.agg h.cells.toArray] w (T.E (.tuple #[.slice none 0 0, .bool false]) w) := by
  have hM := T.Mem.start w
  generalize hP : T.E (.tuple #[.slice none 0 0, .bool false]) w = Post
  have hl := h.len k
  go_enter Tryz.func33, Tryz.ntmps33
  by_cases h0 : h.height < 0
  · have c1 : decide (h.height < 0) = true := decide_eq_true h0
    repeat' (first | ((((((with_reducible show wpList _ _ _ _ _ _); (refine T.w_o rfl ?_)))); first | ((with_reducible show T.OW _ ⟨_, .load _ _, _, _, _, _⟩ _ _ _ _); ((refine T.ofx (T.x_load rfl rfl T.Fd.out T.TS.out rfl hM) ?_))) | ((with_reducible show T.OW _ ⟨_, .box _ _, _, _, _, _⟩ _ _ _ _); refine T.op_box _ _ rfl _ rfl hM ?_; clear hM; intro blk wld hM hlt)); (try simp only [Act.put, List.setIfInBounds_toArray, List.set_cons_zero, List.set_cons_succ])) | go_skip | (go_step) | go_back)
    all_goals subst hP
    all_goals exact ⟨rfl, hM.below⟩
  · have c1 : decide (h.height < 0) = false := decide_eq_false h0
    have c2 : decide (1048576 < h.height) = true := by
      unfold T.Head.fit at hf
      rw [decide_eq_true (by omega : 0 ≤ h.height), Bool.true_and, decide_eq_false_iff_not] at hf
      rw [decide_eq_true_eq]; omega
    repeat' (first | ((((((with_reducible show wpList _ _ _ _ _ _); first | refine T.w_o rfl ?_ | ((with_reducible show wpList _ _ _ (⟨_, _, _, _, _, some _⟩ :: _) _ _); refine T.w_g rfl ?_)))); first | ((with_reducible show T.OW _ ⟨_, .load _ _, _, _, _, _⟩ _ _ _ _); ((refine T.ofx (T.x_load rfl rfl T.Fd.out T.TS.out rfl hM) ?_))) | ((with_reducible show T.OW _ ⟨_, .box _ _, _, _, _, _⟩ _ _ _ _); refine T.op_box _ _ rfl _ rfl hM ?_; clear hM; intro blk wld hM hlt)); (try simp only [Act.put, List.setIfInBounds_toArray, List.set_cons_zero, List.set_cons_succ])) | go_guarded | (go_step) | go_back | ((fail_if_success (with_reducible show T.Seq _ _ _ _ _ _ _)); (fail_if_success (with_reducible show T.OW _ _ _ _ _ _)); simp only [Int.not_lt, Int.not_le] at *; go_simp))
    all_goals subst hP
    all_goals exact ⟨rfl, hM.below⟩
def T.EGT (xs : List Int) (w : World) (e : Ending) (w' : World) : Prop :=
  ∃ v, e = .returned (.tuple #[v, .bool true]) ∧ w'.ownsRow w.heap.size 5 1 v xs.length (T.u8s xs) ∧ (∀ u ∈ T.u8s xs, u.oneCell' = true) ∧ Below w.heap.size w w'
theorem T.putI (x k : Int) (h1 : 1 ≤ k) (h8 : k ≤ 8) (w : World) : Calls Tryz.prog 58 #[.int .u64 x, .int .i64 k] w (T.EG 5 1 k.toNat (T.u8s (T.put x k.toNat)) w) := by
  have := T.put_calls x k.toNat (by omega) (by omega) w
  rwa [Int.toNat_of_nonneg (by omega)] at this
theorem T.own_slice {w : World} {B : Nat} {el : TypeId} {sz n : Nat} {v : Value} {xs : List Value} (h : w.ownsRow B el sz v n xs) : ∃ A c, v = .slice A n c := by
  rcases h.2 with ⟨rfl, rfl⟩ | ⟨g, cap, cur, rfl, _⟩
  · exact ⟨_, _, rfl⟩
  · exact ⟨_, _, rfl⟩
theorem T.toNat4 : Int.toNat 4 = 4 := rfl
theorem T.toNat8 : Int.toNat 8 = 8 := rfl
theorem T.hconcat {w0 w : World} {F : Option Nat} {L : List T.Blk} {b c : Nat} {t : TypeId} {v1 v2 v3 v4 v5 v6 v7 v8 : Value} (h : T.Head) (k : h.ok) (hM : T.Mem w0 F w L) (hm : .b b t [v1, v2, v3, v4, v5, v6, v7, v8] ∈ L)
    (h1 : T.Sl w v1 4 (T.u8s (T.put h.height 4))) (h2 : T.Sl w v2 32 (T.u8s h.prev)) (h3 : T.Sl w v3 32 (T.u8s h.links)) (h4 : T.Sl w v4 32 (T.u8s h.txs)) (h5 : T.Sl w v5 32 (T.u8s h.past)) (h6 : T.Sl w v6 32 (T.u8s (T.wbytes h.work)))
    (h7 : T.Sl w v7 4 (T.u8s (T.put h.bits 4))) (h8 : T.Sl w v8 8 (T.u8s (T.put h.nonce 8))) : Calls Tryz.prog 57 #[.slice (some ⟨b, 0, none⟩) 8 c] w (T.EG 5 1 (T.hput h).length (T.u8s (T.hput h)) w) := by
  have := T.concatM (c := c) (T.hputs h v1 v2 v3 v4 v5 v6 v7 v8) hM hm (Nat.le_of_ble_eq_true rfl) (by
    intro p hp
    unfold T.hputs at hp
    simp only [List.mem_cons, List.not_mem_nil, or_false] at hp
    rcases hp with rfl | rfl | rfl | rfl | rfl | rfl | rfl | rfl
    · rw [T.put_len]; exact h1
    · rw [k.prev]; exact h2
    · rw [k.links]; exact h3
    · rw [k.txs]; exact h4
    · rw [k.past]; exact h5
    · rw [T.wbytes_len]; exact h6
    · rw [T.put_len]; exact h7
    · rw [T.put_len]; exact h8) (by rw [T.hputs_cat, T.hput_len h k]; exact Nat.le_of_ble_eq_true rfl)
  rw [T.hputs_cat] at this
  exact this
theorem T.Head.sl_prev {w0 w : World} {F : Option Nat} {L : List T.Blk} {b : Nat} {t : TypeId} (h : T.Head) (k : h.ok) (hM : T.Mem w0 F w L) (hm : .b b t h.cells ∈ L) : T.Sl w (.slice (some ⟨b, 1, none⟩) 32 32) 32 (T.u8s h.prev) := hM.sl hm (by rw [encs_length, k.prev]; exact h.prevs k) (Nat.le_refl _) (T.ones_encs _ _)
theorem T.Head.sl_links {w0 w : World} {F : Option Nat} {L : List T.Blk} {b : Nat} {t : TypeId} (h : T.Head) (k : h.ok) (hM : T.Mem w0 F w L) (hm : .b b t h.cells ∈ L) : T.Sl w (.slice (some ⟨b, 33, none⟩) 32 32) 32 (T.u8s h.links) := hM.sl hm (by rw [encs_length, k.links]; exact h.linkss k) (Nat.le_refl _) (T.ones_encs _ _)
theorem T.Head.sl_txs {w0 w : World} {F : Option Nat} {L : List T.Blk} {b : Nat} {t : TypeId} (h : T.Head) (k : h.ok) (hM : T.Mem w0 F w L) (hm : .b b t h.cells ∈ L) : T.Sl w (.slice (some ⟨b, 65, none⟩) 32 32) 32 (T.u8s h.txs) := hM.sl hm (by rw [encs_length, k.txs]; exact h.txss k) (Nat.le_refl _) (T.ones_encs _ _)
theorem T.Head.sl_past {w0 w : World} {F : Option Nat} {L : List T.Blk} {b : Nat} {t : TypeId} (h : T.Head) (k : h.ok) (hM : T.Mem w0 F w L) (hm : .b b t h.cells ∈ L) : T.Sl w (.slice (some ⟨b, 97, none⟩) 32 32) 32 (T.u8s h.past) := hM.sl hm (by rw [encs_length, k.past]; exact h.pasts k) (Nat.le_refl _) (T.ones_encs _ _)
attribute [local irreducible] T.put T.puts
theorem T.hput_yes (h : T.Head) (k : h.ok) (kn : h.nums) (hf : h.fit = true) (w : World) : Calls Tryz.prog 33 #[.agg h.cells.toArray] w (T.EGT (T.hput h) w) := by
  have hM := T.Mem.start w
  generalize hP : T.EGT (T.hput h) w = Post
  have hl := h.len k
  obtain ⟨f0, f1⟩ : 0 ≤ h.height ∧ h.height ≤ 1048576 := by
    unfold T.Head.fit at hf
    rw [Bool.and_eq_true, decide_eq_true_eq, decide_eq_true_eq] at hf
    exact hf
  have c1 : decide (h.height < 0) = false := decide_eq_false (by omega)
  have c2 : decide (1048576 < h.height) = false := decide_eq_false (by omega)
  have e1 : IntKind.u64.wrap h.height = h.height := by rw [IntKind.wrap_u64]; omega
  have e2 : IntKind.u64.wrap h.bits = h.bits := by have := kn.bits; rw [IntKind.wrap_u64]; omega
  have hwl := T.wbytes_len h.work
  have kw := k.work
  go_enter Tryz.func33, Tryz.ntmps33
  repeat' (first | ((with_reducible show Code.wp _ (Code.region 4 _ true) _ _ _); refine T.mregion 4 (.p 0 (.t 1 (.p 2 (.p 4 (.p 5 (.p 6 (.p 7 (.p 8 (.p 9 (.p 10 (.p 11 (.p 12 (.p 13 (.t 14 (.p 15 (.p 17 (.t 18 (.a 3 (.a 16 (.a 19 (.a 20 (.a 21 (.p 22 (.p 23 .nil)))))))))))))))))))))))) 1000 (by kernel_rfl) (fun _ _ _ _ h => h) hM (List.Sublist.refl _) ?_; clear hM; intro wld hM) | (go_at_call 56; refine (T.wbytes_calls _ kw _).mono ?_; rintro _ _ ⟨rfl, hbc⟩; replace hM := hM.call hbc; clear hbc) | (go_at_call 58; refine (T.putI _ _ (by decide) (by decide) _).mono ?_; rintro _ wr ⟨v, rfl, ho, h1, hbc⟩; (obtain ⟨Ag, cg, rfl⟩ := T.own_slice ho); replace hM := hM.callG hbc ho h1; clear hbc ho h1; simp only [T.toNat4, T.toNat8] at hM ⊢) | (go_at_call 57; refine (T.hconcat h k hM T.Fd.out (hM.gsl T.Fg.out) (h.sl_prev k hM T.Fd.out) (h.sl_links k hM T.Fd.out) (h.sl_txs k hM T.Fd.out) (h.sl_past k hM T.Fd.out) (hM.slB T.Fd.out (T.ones_encs _ _) (Nat.le_refl _)) (hM.gsl T.Fg.out) (hM.gsl T.Fg.out)).mono ?_; rintro _ wr ⟨v, rfl, ho, h1, hbc⟩; replace hM := hM.callG hbc ho h1; clear hbc ho h1) | (((first | ((with_reducible show wpList _ _ _ _ _ _); first | refine T.w_o rfl ?_ | ((with_reducible show wpList _ _ _ (⟨_, _, _, _, _, some _⟩ :: _) _ _); refine T.w_g rfl ?_)) | (with_reducible show T.OW _ _ _ _ _ _)); first | ((with_reducible show T.OW _ ⟨_, .load _ _, _, _, _, _⟩ _ _ _ _); first | (refine T.ofx (T.x_loadAgg rfl rfl T.Fd.out T.TU.out T.TN.out (by ((omega))) (h.works k) hM) ?_) | (refine T.ofx (T.x_load rfl rfl T.Fd.out T.TS.out rfl hM) ?_)) | ((with_reducible show T.OW _ ⟨_, .store _ _ _, _, _, _, _⟩ _ _ _ _); ((refine T.op_storeAll _ _ _ rfl _ rfl _ rfl _ _ hM (by (repeat ((exact T.Sub.head _)))) _ T.TN.out (by (((rw [encs_length]; with_reducible assumption)))) (by ((exact T.ones_encs _ _))) (by ((rfl))) ?_; clear hM; intro wld hM))) | ((with_reducible show T.OW _ ⟨_, .alloc _, _, _, _, _⟩ _ _ _ _); refine T.op_alloc _ rfl _ T.TZ.out hM ?_; clear hM; intro blk wld hM hlt) | ((with_reducible show T.OW _ ⟨_, .box _ _, _, _, _, _⟩ _ _ _ _); refine T.op_box _ _ rfl _ rfl hM ?_; clear hM; intro blk wld hM hlt) | ((with_reducible show T.OW _ ⟨_, .buildSlice _ _ _, _, _, _, _⟩ _ _ _ _); refine T.op_buildSl _ _ _ rfl _ T.TL.out _ T.TN.out _ T.TZ.out rfl (by decide) (by decide) _ rfl (by (((simp [T.okp, Value.cells, Act.eval, *]; done)))) _ rfl hM ?_; (try simp only [List.map_toArray, List.map_cons, List.map_nil, Act.eval, Array.getD_eq_getD_getElem?, List.toList_toArray, List.getElem?_toArray, List.getElem?_cons_zero, List.getElem?_cons_succ, Option.getD_some, T.segs, List.replicate_succ, List.replicate_zero, List.set_cons_zero, List.set_cons_succ, Value.cells, List.flatten_cons, List.flatten_nil, List.append_nil, List.cons_append, List.nil_append]); clear hM; intro blk wld hM hlt)); (try simp only [Act.put, List.setIfInBounds_toArray, List.set_cons_zero, List.set_cons_succ])) | ((with_reducible show T.Seq _ _ _ _ _ _ _); first | ((with_reducible show T.Seq _ _ _ (.p _ _) _ _ _); ((apply T.sq_p rfl rfl; (focus intro wS; ((go_simp; with_reducible rfl))); (try simp only [Act.put, List.setIfInBounds_toArray, List.set_cons_zero, List.set_cons_succ])))) | ((with_reducible show T.Seq _ _ _ (.t _ _) _ _ _); ((apply T.sq_t rfl rfl; (focus intro wS hS; first | exact T.x_load rfl rfl T.Fd.out T.TS.out (h.bits_at k) hS | exact T.x_load rfl rfl T.Fd.out T.TS.out (h.nonce_at k) hS | exact T.x_load rfl rfl T.Fd.out T.TS.out rfl hS); (try simp only [Act.put, List.setIfInBounds_toArray, List.set_cons_zero, List.set_cons_succ])))) | ((with_reducible show T.Seq _ _ _ .nil _ _ _); refine T.sq_nil ?_) | ((with_reducible show T.Seq _ _ _ (.a _ _) _ _ _); refine T.sq_a rfl rfl (fun K hK => ?_))) | (go_at_K; refine hK.out _ _ _ hM (by (repeat (first | exact List.Sublist.refl _ | apply List.Sublist.cons))) ?_; clear hK K) | ((with_reducible show T.OW _ ⟨_, .call _, _, _, _, _⟩ _ _ _ _); refine T.OW.mk ?_; go_simp) | go_guarded | (go_step) | go_back | ((fail_if_success (with_reducible show T.Seq _ _ _ _ _ _ _)); (fail_if_success (with_reducible show T.OW _ _ _ _ _ _)); simp only [Int.not_lt, Int.not_le] at *; go_simp))
  subst hP
  obtain ⟨v', hv, ho, h1, hb⟩ := hM.eg List.mem_cons_self
  cases hv
  exact ⟨_, rfl, ho, h1, hb⟩
end
def T.tleaf (bs : List Int) : List Int := T.sum (0 :: bs)
theorem T.tleaf_len (bs : List Int) : (T.tleaf bs).length = 32 := T.sum_len _
theorem T.tleaf_calls (bs : List Int) (v : Value) (hn : bs.length ≤ 900000000) (w : World) (hS : T.Sl w v bs.length (T.u8s bs)) : Calls Tryz.prog 131 #[v] w (T.E (.agg (T.u8s (T.tleaf bs)).toArray) w) := by
  have hM := T.Mem.start w
  obtain ⟨A, cc, hv, _, _, _⟩ := id hS
  rw [hv] at hS ⊢
  have HS := Aside0.mk hS
  have HN := Aside0.mk hn
  clear hS hv hn
  generalize hP : T.E (.agg (T.u8s (T.tleaf bs)).toArray) w = Post
  have hsl := T.sum_len (0 :: bs)
  go_enter Tryz.func131, Tryz.ntmps131
  repeat' (first | (go_at_call 34; refine (T.of2 [0] bs hM T.Fd.out (hM.slB (n := 1) (c := 1) T.Fd.out (T.one_ones rfl) (Nat.le_refl _)) (hM.slin HS.out) (by have := HN.out; simp only [List.length_append, List.length_cons, List.length_nil]; omega)).mono ?_; rintro _ _ ⟨rfl, hbc⟩; replace hM := hM.call hbc; clear hbc) | ((((((with_reducible show wpList _ _ _ _ _ _); (refine T.w_o rfl ?_)))); first | ((with_reducible show T.OW _ ⟨_, .store _ _ _, _, _, _, _⟩ _ _ _ _); ((refine T.op_storeAll _ _ _ rfl _ rfl _ rfl _ _ hM (by (repeat (first | exact T.Sub.head _ | apply T.Sub.tail))) _ T.TN.out (by (((rw [encs_length]; with_reducible assumption)))) (by ((exact T.ones_encs _ _))) (by ((rfl))) ?_; clear hM; intro wld hM))) | ((with_reducible show T.OW _ ⟨_, .alloc _, _, _, _, _⟩ _ _ _ _); refine T.op_alloc _ rfl _ T.TZ.out hM ?_; clear hM; intro blk wld hM hlt) | ((with_reducible show T.OW _ ⟨_, .buildSlice _ _ _, _, _, _, _⟩ _ _ _ _); refine T.op_buildSl _ _ _ rfl _ T.TL.out _ T.TN.out _ T.TZ.out rfl (by decide) (by decide) _ rfl (by (((simp [T.okp, Value.cells, Act.eval, *]; done)))) _ rfl hM ?_; (try simp only [List.map_toArray, List.map_cons, List.map_nil, Act.eval, Array.getD_eq_getD_getElem?, List.toList_toArray, List.getElem?_toArray, List.getElem?_cons_zero, List.getElem?_cons_succ, Option.getD_some, T.segs, List.replicate_succ, List.replicate_zero, List.set_cons_zero, List.set_cons_succ, Value.cells, List.flatten_cons, List.flatten_nil, List.append_nil, List.cons_append, List.nil_append]); clear hM; intro blk wld hM hlt)); (try simp only [Act.put, List.setIfInBounds_toArray, List.set_cons_zero, List.set_cons_succ])) | (go_step) | ((fail_if_success (with_reducible show T.Seq _ _ _ _ _ _ _)); (fail_if_success (with_reducible show T.OW _ _ _ _ _ _)); simp only [Int.not_lt, Int.not_le] at *; go_simp))
  (refine T.ret_cell rfl rfl _ rfl _ _ hM T.Fd.out T.TU.out _ T.TN.out (by (((rw [encs_length]; with_reducible assumption)))) ?_)
  subst hP
  exact ⟨rfl, hM.below⟩
attribute [irreducible] T.tleaf
theorem T.lleaf_calls (a : List Int) (ha : a.length = 32) (w : World) : Calls Tryz.prog 93 #[.agg (T.u8s a).toArray] w (T.E (.agg (T.u8s (T.tleaf a)).toArray) w) := by
  have hM := T.Mem.start w
  generalize hP : T.E (.agg (T.u8s (T.tleaf a)).toArray) w = Post
  have HA := Aside0.mk ha
  have hsl := T.tleaf_len a
  go_enter Tryz.func93, Tryz.ntmps93
  repeat' (first | (go_at_call 131; refine (T.tleaf_calls a _ (by rw [HA.out]; exact Nat.le_of_ble_eq_true rfl) _ (by rw [HA.out]; exact hM.slB (n := 32) (c := 32) T.Fd.out (T.ones_encs _ _) (Nat.le_refl _))).mono ?_; rintro _ _ ⟨rfl, hbc⟩; replace hM := hM.call hbc; clear hbc) | ((((((with_reducible show wpList _ _ _ _ _ _); (refine T.w_o rfl ?_)))); first | ((with_reducible show T.OW _ ⟨_, .store _ _ _, _, _, _, _⟩ _ _ _ _); ((refine T.op_storeAll _ _ _ rfl _ rfl _ rfl _ _ hM (by (repeat ((exact T.Sub.head _)))) _ T.TN.out (by (((rw [encs_length]; with_reducible assumption)))) (by ((exact T.ones_encs _ _))) (by ((rfl))) ?_; clear hM; intro wld hM))) | ((with_reducible show T.OW _ ⟨_, .alloc _, _, _, _, _⟩ _ _ _ _); refine T.op_alloc _ rfl _ T.TZ.out hM ?_; clear hM; intro blk wld hM hlt) | ((with_reducible show T.OW _ ⟨_, .box _ _, _, _, _, _⟩ _ _ _ _); refine T.op_box _ _ rfl _ rfl hM ?_; clear hM; intro blk wld hM hlt)); (try simp only [Act.put, List.setIfInBounds_toArray, List.set_cons_zero, List.set_cons_succ])) | (go_step) | ((fail_if_success (with_reducible show T.Seq _ _ _ _ _ _ _)); (fail_if_success (with_reducible show T.OW _ _ _ _ _ _)); simp only [Int.not_lt, Int.not_le] at *; go_simp))
  (refine T.ret_cell rfl rfl _ rfl _ _ hM T.Fd.out T.TU.out _ T.TN.out (by (((rw [encs_length]; with_reducible assumption)))) ?_)
  subst hP
  exact ⟨rfl, hM.below⟩
theorem T.ttext_calls (a b : List Int) (ha : a.length = 32) (hb : b.length = 32) (w : World) : Calls Tryz.prog 162 #[.agg (T.u8s a ++ T.u8s b).toArray] w (T.EG 5 1 ([1] ++ (a ++ b)).length (T.u8s ([1] ++ (a ++ b))) w) := by
  have hM := T.Mem.start w
  have HA := Aside0.mk ha
  have HB := Aside0.mk hb
  have HL := Aside0.mk (show ([1] ++ (a ++ b)).length = 65 by simp [ha, hb])
  clear ha hb
  generalize hP : T.EG 5 1 ([1] ++ (a ++ b)).length (T.u8s ([1] ++ (a ++ b))) w = Post
  go_enter Tryz.func162, Tryz.ntmps162
  repeat' (first | ((with_reducible show Code.wp _ (Code.region 1 _ true) _ _ _); refine T.mregion 1 (.p 1 (.p 2 (.p 3 (.p 4 (.a 0 (.a 5 (.a 6 (.p 7 .nil)))))))) 1000 (by kernel_rfl) (fun _ _ _ _ h => h) hM (List.Sublist.refl _) ?_; clear hM; intro wld hM) | (go_at_call 57; refine (T.concat3 [1] a b hM T.Fd.out (hM.slB (n := 1) (c := 1) T.Fd.out (T.one_ones rfl) (Nat.le_refl _)) (by rw [HA.out]; exact hM.sl (b := _) (o := 0) T.Fd.out (by rw [List.drop_zero]; exact List.take_left) (Nat.le_refl 32) (T.ones_encs _ _)) (by rw [HB.out]; exact hM.sl (b := _) (o := 32) T.Fd.out (by rw [show (32 : Nat) = (T.u8s a).length by rw [encs_length, HA.out], List.drop_left]; exact List.take_length) (Nat.le_refl 32) (T.ones_encs _ _)) (by rw [HL.out]; exact Nat.le_of_ble_eq_true rfl)).mono ?_; rintro _ wr ⟨v, rfl, ho, h1, hbc⟩; replace hM := hM.callG hbc ho h1; clear hbc ho h1) | (((first | ((with_reducible show wpList _ _ _ _ _ _); (refine T.w_o rfl ?_)) | (with_reducible show T.OW _ _ _ _ _ _)); first | ((with_reducible show T.OW _ ⟨_, .box _ _, _, _, _, _⟩ _ _ _ _); refine T.op_box _ _ rfl _ rfl hM ?_; clear hM; intro blk wld hM hlt) | ((with_reducible show T.OW _ ⟨_, .buildSlice _ _ _, _, _, _, _⟩ _ _ _ _); refine T.op_buildSl _ _ _ rfl _ T.TL.out _ T.TN.out _ T.TZ.out rfl (by decide) (by decide) _ rfl (by (((simp [T.okp, Value.cells, Act.eval, *]; done)))) _ rfl hM ?_; (try simp only [List.map_toArray, List.map_cons, List.map_nil, Act.eval, Array.getD_eq_getD_getElem?, List.toList_toArray, List.getElem?_toArray, List.getElem?_cons_zero, List.getElem?_cons_succ, Option.getD_some, T.segs, List.replicate_succ, List.replicate_zero, List.set_cons_zero, List.set_cons_succ, Value.cells, List.flatten_cons, List.flatten_nil, List.append_nil, List.cons_append, List.nil_append]); clear hM; intro blk wld hM hlt)); (try simp only [Act.put, List.setIfInBounds_toArray, List.set_cons_zero, List.set_cons_succ])) | ((with_reducible show T.Seq _ _ _ _ _ _ _); first | ((with_reducible show T.Seq _ _ _ (.p _ _) _ _ _); ((apply T.sq_p rfl rfl; (focus intro wS; ((go_simp; with_reducible rfl))); (try simp only [Act.put, List.setIfInBounds_toArray, List.set_cons_zero, List.set_cons_succ])))) | ((with_reducible show T.Seq _ _ _ .nil _ _ _); refine T.sq_nil ?_) | ((with_reducible show T.Seq _ _ _ (.a _ _) _ _ _); refine T.sq_a rfl rfl (fun K hK => ?_))) | (go_at_K; refine hK.out _ _ _ hM (by (repeat (first | exact List.Sublist.refl _ | apply List.Sublist.cons))) ?_; clear hK K) | ((with_reducible show T.OW _ ⟨_, .call _, _, _, _, _⟩ _ _ _ _); refine T.OW.mk ?_; go_simp) | (go_step) | go_back | ((fail_if_success (with_reducible show T.Seq _ _ _ _ _ _ _)); (fail_if_success (with_reducible show T.OW _ _ _ _ _ _)); simp only [Int.not_lt, Int.not_le] at *; go_simp))
  subst hP
  exact hM.eg List.mem_cons_self
theorem T.ttext2 (a b : List Int) (ha : a.length = 32) (hb : b.length = 32) (w : World) : Calls Tryz.prog 162 #[.agg (T.u8s a ++ T.u8s b).toArray] w (T.EG 5 1 (1 :: (a ++ b)).length (T.u8s (1 :: (a ++ b))) w) := T.ttext_calls a b ha hb w
theorem T.tg_arr {ty el : TypeId} {n size : Nat} {zs : List (List Value)} (hz : T.zeroOf Tryz.prog ty = some zs.flatten) (hu : Tryz.prog.underlying ty = some (.array n el)) (hi : (Tryz.prog.info? el).map (·.size) = some size) (hl : zs.map List.length = List.replicate n size) : T.TG ty zs := ⟨fun w parts hok => by
  obtain ⟨v, hv, hr⟩ := T.run_zero (P := Tryz.prog) ty zs.flatten hz w
  have hsz := T.size_run hi w
  have hfill := T.fill_segs (fun i => some (i * size, size)) (zs.map List.length) (fun i k hk => by
    rw [hl] at hk ⊢
    have hlt := (List.getElem?_eq_some_iff.1 hk).1
    rw [List.length_replicate] at hlt
    rw [List.getElem?_replicate, if_pos hlt] at hk
    cases hk
    rw [T.flat_take n i size hlt]) parts.toList zs rfl hok
  unfold Instr.build
  simp only [Sem.run_bind, hr, Result.andThen_ok, run_underlying hu w, hsz, hv, hfill, Sem.run_pure]⟩
instance : T.TG 252 [T.u8s T.z32, T.u8s T.z32] := T.tg_arr (n := 2) (size := 32) (el := 44) (by kernel_rfl) (by kernel_rfl) (by kernel_rfl) rfl
def T.tnode (a b : List Int) : List Int := T.sum (1 :: (a ++ b))
theorem T.tnode_len (a b : List Int) : (T.tnode a b).length = 32 := T.sum_len _
theorem T.tnode_calls (a b : List Int) (ha : a.length = 32) (hb : b.length = 32) (w : World) : Calls Tryz.prog 130 #[.agg (T.u8s a).toArray, .agg (T.u8s b).toArray] w (T.E (.agg (T.u8s (T.tnode a b)).toArray) w) := by
  have hM := T.Mem.start w
  have HL := Aside0.mk (show (1 :: (a ++ b)).length ≤ 1000000000 by simp [ha, hb])
  have hsl := T.sum_len (1 :: (a ++ b))
  have hz0 : (T.u8s T.z32).length = 32 := by rw [encs_length]; rfl
  have hza : (T.u8s a).length = 32 := by rw [encs_length, ha]
  have hzb : (T.u8s b).length = 32 := by rw [encs_length, hb]
  generalize hP : T.E (.agg (T.u8s (T.tnode a b)).toArray) w = Post
  go_enter Tryz.func130, Tryz.ntmps130
  repeat' (first | (go_at_call 162; refine (T.ttext2 _ _ ha hb _).mono ?_; rintro _ wr ⟨v, rfl, ho, h1, hbc⟩; replace hM := hM.callG hbc ho h1; clear hbc ho h1) | (go_at_call 59; refine (T.sum_calls (1 :: (a ++ b)) _ HL.out _ (hM.gsl T.Fg.out)).mono ?_; rintro _ _ ⟨rfl, hbc⟩; replace hM := hM.call hbc; clear hbc) | ((((((with_reducible show wpList _ _ _ _ _ _); (refine T.w_o rfl ?_)))); first | ((with_reducible show T.OW _ ⟨_, .load _ _, _, _, _, _⟩ _ _ _ _); ((refine T.ofx (T.x_loadAll rfl rfl T.Fd.out T.TU.out T.TN.out (by ((with_reducible assumption))) hM) ?_))) | ((with_reducible show T.OW _ ⟨_, .store _ _ _, _, _, _, _⟩ _ _ _ _); ((refine T.op_storeAll _ _ _ rfl _ rfl _ rfl _ _ hM (by (repeat (first | exact T.Sub.head _ | apply T.Sub.tail))) _ T.TN.out (by (((rw [encs_length]; with_reducible assumption)))) (by ((exact T.ones_encs _ _))) (by ((with_reducible assumption))) ?_; clear hM; intro wld hM))) | ((with_reducible show T.OW _ ⟨_, .alloc _, _, _, _, _⟩ _ _ _ _); refine T.op_alloc _ rfl _ T.TZ.out hM ?_; clear hM; intro blk wld hM hlt) | ((with_reducible show T.OW _ ⟨_, .box _ _, _, _, _, _⟩ _ _ _ _); refine T.op_box _ _ rfl _ rfl hM ?_; clear hM; intro blk wld hM hlt) | ((with_reducible show T.OW _ ⟨_, .build _ _, _, _, _, _⟩ _ _ _ _); ((refine T.ofx (T.x_build rfl inferInstance rfl (by (((simp [T.okp, Value.cells, Act.eval, *]; done)))) rfl) ?_; (try simp only [List.map_toArray, List.map_cons, List.map_nil, Act.eval, Array.getD_eq_getD_getElem?, List.toList_toArray, List.getElem?_toArray, List.getElem?_cons_zero, List.getElem?_cons_succ, Option.getD_some, T.segs, List.replicate_succ, List.replicate_zero, List.set_cons_zero, List.set_cons_succ, Value.cells, List.flatten_cons, List.flatten_nil, List.append_nil, List.cons_append, List.nil_append]))))); (try simp only [Act.put, List.setIfInBounds_toArray, List.set_cons_zero, List.set_cons_succ])) | (go_step) | ((fail_if_success (with_reducible show T.Seq _ _ _ _ _ _ _)); (fail_if_success (with_reducible show T.OW _ _ _ _ _ _)); simp only [Int.not_lt, Int.not_le] at *; go_simp))
  (refine T.ret_cell rfl rfl _ rfl _ _ hM T.Fd.out T.TU.out _ T.TN.out (by (((rw [encs_length]; with_reducible assumption)))) ?_)
  subst hP
  exact ⟨rfl, hM.below⟩
attribute [irreducible] T.tnode
theorem T.Tot.len (t : T.Tot) (k : t.ok) : t.cells.length = 37 := by
  simp [T.Tot.cells, encs_length, k.h, k.w]
theorem T.mleaf_calls (a v : List Int) (ha : a.length = 32) (hv : v.length = 4) (w : World) : Calls Tryz.prog 98 #[.agg (T.u8s a).toArray, .agg (T.u64s v).toArray] w (T.E (.agg (T.Tot.mk a v 1).cells.toArray) w) := by
  have hM := T.Mem.start w
  have hz0 : (T.u8s T.z32).length = 32 := by rw [encs_length]; rfl
  have hza : (T.u8s a).length = 32 := by rw [encs_length, ha]
  have hzv : (T.u64s v).length = 4 := by rw [encs_length, hv]
  have hz1 : (T.u64s [0, 0, 0, 0]).length = 4 := rfl
  have h37 : (T.u8s a ++ (T.u64s v ++ [Value.int .i64 1])).length = 37 := by simp [encs_length, ha, hv]
  have hz37 : T.Tot.zero.cells.length = 37 := rfl
  have ho : ∀ u ∈ T.u8s a ++ (T.u64s v ++ [Value.int .i64 1]), u.oneCell' = true := by
    intro u hu
    rcases List.mem_append.1 hu with h | h
    · exact T.ones_encs _ _ u h
    · rcases List.mem_append.1 h with h | h
      · exact T.ones_encs _ _ u h
      · rw [List.mem_singleton.1 h]; rfl
  generalize hP : T.E (.agg (T.Tot.mk a v 1).cells.toArray) w = Post
  go_enter Tryz.func98, Tryz.ntmps98
  repeat' (first | ((((((with_reducible show wpList _ _ _ _ _ _); (refine T.w_o rfl ?_)))); first | ((with_reducible show T.OW _ ⟨_, .load _ _, _, _, _, _⟩ _ _ _ _); ((refine T.ofx (T.x_loadAll rfl rfl T.Fd.out T.TU.out T.TN.out (by ((with_reducible assumption))) hM) ?_))) | ((with_reducible show T.OW _ ⟨_, .store _ _ _, _, _, _, _⟩ _ _ _ _); ((refine T.op_storeAll _ _ _ rfl _ rfl _ rfl _ _ hM (by (repeat ((exact T.Sub.head _)))) _ T.TN.out (by ((with_reducible assumption))) (by ((with_reducible assumption))) (by ((with_reducible assumption))) ?_; clear hM; intro wld hM))) | ((with_reducible show T.OW _ ⟨_, .alloc _, _, _, _, _⟩ _ _ _ _); refine T.op_alloc _ rfl _ T.TZ.out hM ?_; clear hM; intro blk wld hM hlt) | ((with_reducible show T.OW _ ⟨_, .box _ _, _, _, _, _⟩ _ _ _ _); refine T.op_box _ _ rfl _ rfl hM ?_; clear hM; intro blk wld hM hlt) | ((with_reducible show T.OW _ ⟨_, .build _ _, _, _, _, _⟩ _ _ _ _); ((refine T.ofx (T.x_build rfl inferInstance rfl (by (((simp [T.okp, Value.cells, Act.eval, *]; done)))) rfl) ?_; (try simp only [List.map_toArray, List.map_cons, List.map_nil, Act.eval, Array.getD_eq_getD_getElem?, List.toList_toArray, List.getElem?_toArray, List.getElem?_cons_zero, List.getElem?_cons_succ, Option.getD_some, T.segs, List.replicate_succ, List.replicate_zero, List.set_cons_zero, List.set_cons_succ, Value.cells, List.flatten_cons, List.flatten_nil, List.append_nil, List.cons_append, List.nil_append]))))); (try simp only [Act.put, List.setIfInBounds_toArray, List.set_cons_zero, List.set_cons_succ])) | (go_step))
  (refine T.ret_cell rfl rfl _ rfl _ _ hM T.Fd.out T.TU.out _ T.TN.out (by ((with_reducible assumption))) ?_)
  subst hP
  exact ⟨rfl, hM.below⟩
section
theorem T.Tot.hs (t : T.Tot) (k : t.ok) : (t.cells.drop 0).take 32 = T.u8s t.h := by
  rw [List.drop_zero, T.Tot.cells, show (32 : Nat) = (T.u8s t.h).length by rw [encs_length, k.h]]
  exact List.take_left
theorem T.Tot.ws (t : T.Tot) (k : t.ok) : (t.cells.drop 32).take 4 = T.u64s t.w := by
  rw [T.Tot.cells, show (32 : Nat) = (T.u8s t.h).length by rw [encs_length, k.h], List.drop_left, show (4 : Nat) = (T.u64s t.w).length by rw [encs_length, k.w]]
  exact List.take_left
theorem T.Tot.n_at (t : T.Tot) (k : t.ok) : t.cells[36]? = some (.int .i64 t.n) := by
  rw [T.Tot.cells, List.getElem?_append_right (by rw [encs_length, k.h]; decide), List.getElem?_append_right (by rw [encs_length, encs_length, k.h, k.w]; decide), encs_length, encs_length, k.h, k.w]
  rfl
def T.mtext (t : T.Tot) : List Int := t.h ++ (T.wbytes t.w ++ T.put (IntKind.u64.wrap t.n) 4)
theorem T.mtext_len (t : T.Tot) (k : t.ok) : (T.mtext t).length = 68 := by simp [T.mtext, T.put_len, T.wbytes_len, k.h]
attribute [local irreducible] T.put T.puts
theorem T.mtext_calls (t : T.Tot) (k : t.ok) (w : World) : Calls Tryz.prog 135 #[.agg t.cells.toArray] w (T.EG 5 1 (T.mtext t).length (T.u8s (T.mtext t)) w) := by
  have hM := T.Mem.start w
  have hl := t.len k
  have HL := Aside0.mk (T.mtext_len t k)
  have hwl := T.wbytes_len t.w
  have kw := k.w
  generalize hP : T.EG 5 1 (T.mtext t).length (T.u8s (T.mtext t)) w = Post
  go_enter Tryz.func135, Tryz.ntmps135
  repeat' (first | ((with_reducible show Code.wp _ (Code.region 2 _ true) _ _ _); refine T.mregion 2 (.p 0 (.p 1 (.p 2 (.p 3 (.t 4 (.p 5 (.a 6 (.a 7 (.a 8 (.p 9 .nil)))))))))) 1000 (by kernel_rfl) (fun _ _ _ _ h => h) hM (List.Sublist.refl _) ?_; clear hM; intro wld hM) | (go_at_call 56; refine (T.wbytes_calls _ kw _).mono ?_; rintro _ _ ⟨rfl, hbc⟩; replace hM := hM.call hbc; clear hbc) | (go_at_call 58; refine (T.putI _ _ (by decide) (by decide) _).mono ?_; rintro _ wr ⟨v, rfl, ho, h1, hbc⟩; (obtain ⟨Ag, cg, rfl⟩ := T.own_slice ho); replace hM := hM.callG hbc ho h1; clear hbc ho h1; simp only [T.toNat4, T.toNat8] at hM ⊢) | (((first | ((with_reducible show wpList _ _ _ _ _ _); (refine T.w_o rfl ?_)) | (with_reducible show T.OW _ _ _ _ _ _)); first | ((with_reducible show T.OW _ ⟨_, .load _ _, _, _, _, _⟩ _ _ _ _); ((refine T.ofx (T.x_loadAgg rfl rfl T.Fd.out T.TU.out T.TN.out (by ((omega))) (t.ws k) hM) ?_))) | ((with_reducible show T.OW _ ⟨_, .store _ _ _, _, _, _, _⟩ _ _ _ _); ((refine T.op_storeAll _ _ _ rfl _ rfl _ rfl _ _ hM (by (repeat ((exact T.Sub.head _)))) _ T.TN.out (by (((rw [encs_length]; with_reducible assumption)))) (by ((exact T.ones_encs _ _))) (by ((rfl))) ?_; clear hM; intro wld hM))) | ((with_reducible show T.OW _ ⟨_, .alloc _, _, _, _, _⟩ _ _ _ _); refine T.op_alloc _ rfl _ T.TZ.out hM ?_; clear hM; intro blk wld hM hlt) | ((with_reducible show T.OW _ ⟨_, .box _ _, _, _, _, _⟩ _ _ _ _); refine T.op_box _ _ rfl _ rfl hM ?_; clear hM; intro blk wld hM hlt) | ((with_reducible show T.OW _ ⟨_, .buildSlice _ _ _, _, _, _, _⟩ _ _ _ _); refine T.op_buildSl _ _ _ rfl _ T.TL.out _ T.TN.out _ T.TZ.out rfl (by decide) (by decide) _ rfl (by (((simp [T.okp, Value.cells, Act.eval, *]; done)))) _ rfl hM ?_; (try simp only [List.map_toArray, List.map_cons, List.map_nil, Act.eval, Array.getD_eq_getD_getElem?, List.toList_toArray, List.getElem?_toArray, List.getElem?_cons_zero, List.getElem?_cons_succ, Option.getD_some, T.segs, List.replicate_succ, List.replicate_zero, List.set_cons_zero, List.set_cons_succ, Value.cells, List.flatten_cons, List.flatten_nil, List.append_nil, List.cons_append, List.nil_append]); clear hM; intro blk wld hM hlt)); (try simp only [Act.put, List.setIfInBounds_toArray, List.set_cons_zero, List.set_cons_succ])) | ((with_reducible show T.Seq _ _ _ _ _ _ _); first | ((with_reducible show T.Seq _ _ _ (.p _ _) _ _ _); ((apply T.sq_p rfl rfl; (focus intro wS; ((go_simp; with_reducible rfl))); (try simp only [Act.put, List.setIfInBounds_toArray, List.set_cons_zero, List.set_cons_succ])))) | ((with_reducible show T.Seq _ _ _ (.t _ _) _ _ _); ((apply T.sq_t rfl rfl; (focus intro wS hS; (exact T.x_load rfl rfl T.Fd.out T.TS.out (t.n_at k) hS)); (try simp only [Act.put, List.setIfInBounds_toArray, List.set_cons_zero, List.set_cons_succ])))) | ((with_reducible show T.Seq _ _ _ (.a _ _) _ _ _); refine T.sq_a rfl rfl (fun K hK => ?_))) | (go_at_K; refine hK.out _ _ _ hM (by (repeat (first | exact List.Sublist.refl _ | apply List.Sublist.cons))) ?_; clear hK K) | ((with_reducible show T.OW _ ⟨_, .call _, _, _, _, _⟩ _ _ _ _); refine T.OW.mk ?_; go_simp) | (go_step) | ((fail_if_success (with_reducible show T.Seq _ _ _ _ _ _ _)); (fail_if_success (with_reducible show T.OW _ _ _ _ _ _)); simp only [Int.not_lt, Int.not_le] at *; go_simp))
  refine Calls.mono (T.concat3 t.h (T.wbytes t.w) (T.put (IntKind.u64.wrap t.n) 4) hM T.Fd.out (by rw [k.h]; exact hM.sl T.Fd.out (by rw [encs_length, k.h]; exact t.hs k) (Nat.le_refl 32) (T.ones_encs _ _)) (by rw [hwl]; exact hM.slB T.Fd.out (T.ones_encs _ _) (Nat.le_refl 32)) (by rw [T.put_len]; exact hM.gsl T.Fg.out) (by have := HL.out; unfold T.mtext at this; rw [this]; exact Nat.le_of_ble_eq_true rfl)) ?_
  rintro _ wr ⟨v, rfl, ho, h1, hbc⟩
  replace hM := hM.callG hbc ho h1
  clear hbc ho h1
  repeat' (first | ((with_reducible show T.Seq _ _ _ _ _ _ _); first | ((with_reducible show T.Seq _ _ _ (.p _ _) _ _ _); ((apply T.sq_p rfl rfl; (focus intro wS; ((go_simp; with_reducible rfl))); (try simp only [Act.put, List.setIfInBounds_toArray, List.set_cons_zero, List.set_cons_succ])))) | ((with_reducible show T.Seq _ _ _ .nil _ _ _); refine T.sq_nil ?_)) | (go_at_K; refine hK.out _ _ _ hM (by (repeat (first | exact List.Sublist.refl _ | apply List.Sublist.cons))) ?_; clear hK K) | (go_step) | go_back | ((fail_if_success (with_reducible show T.Seq _ _ _ _ _ _ _)); (fail_if_success (with_reducible show T.OW _ _ _ _ _ _)); simp only [Int.not_lt, Int.not_le] at *; go_simp))
  subst hP
  exact hM.eg List.mem_cons_self
end
def T.cmp (x y : Int) : Int := if x < y then -1 else if y < x then 1 else 0
theorem T.isNaN_calls (x : Int) (w : World) : Calls Tryz.prog 150 #[.int .u64 x] w (T.E (.bool false) w) := by
  generalize hP : T.E (.bool false) w = Post
  go_enter Tryz.func150, Tryz.ntmps150
  go_wp2
  subst hP
  exact ⟨by simp, Below.refl _ _⟩
theorem T.cmp_calls (x y : Int) (w : World) : Calls Tryz.prog 120 #[.int .u64 x, .int .u64 y] w (T.E (.int .i64 (T.cmp x y)) w) := by
  have hM := T.Mem.start w
  generalize hP : T.E (.int .i64 (T.cmp x y)) w = Post
  by_cases h1 : x < y
  · have d1 : decide (x < y) = true := decide_eq_true h1
    go_enter Tryz.func120, Tryz.ntmps120
    repeat' (first | (go_at_call 150; refine (T.isNaN_calls _ _).mono ?_; rintro _ _ ⟨rfl, hbc⟩; replace hM := hM.call hbc; clear hbc) | (go_step) | go_back | ((fail_if_success (with_reducible show T.Seq _ _ _ _ _ _ _)); (fail_if_success (with_reducible show T.OW _ _ _ _ _ _)); simp only [Int.not_lt, Int.not_le] at *; go_simp))
    subst hP
    exact ⟨by rw [T.cmp, if_pos h1]; rfl, hM.below⟩
  · have d1 : decide (x < y) = false := decide_eq_false h1
    by_cases h2 : y < x
    · have d2 : decide (y < x) = true := decide_eq_true h2
      go_enter Tryz.func120, Tryz.ntmps120
      repeat' (first | (go_at_call 150; refine (T.isNaN_calls _ _).mono ?_; rintro _ _ ⟨rfl, hbc⟩; replace hM := hM.call hbc; clear hbc) | (go_step) | go_back | ((fail_if_success (with_reducible show T.Seq _ _ _ _ _ _ _)); (fail_if_success (with_reducible show T.OW _ _ _ _ _ _)); simp only [Int.not_lt, Int.not_le] at *; go_simp))
      subst hP
      exact ⟨by rw [T.cmp, if_neg (by omega), if_pos h2]; rfl, hM.below⟩
    · have d2 : decide (y < x) = false := decide_eq_false h2
      go_enter Tryz.func120, Tryz.ntmps120
      repeat' (first | (go_at_call 150; refine (T.isNaN_calls _ _).mono ?_; rintro _ _ ⟨rfl, hbc⟩; replace hM := hM.call hbc; clear hbc) | (go_step) | go_back | ((fail_if_success (with_reducible show T.Seq _ _ _ _ _ _ _)); (fail_if_success (with_reducible show T.OW _ _ _ _ _ _)); simp only [Int.not_lt, Int.not_le] at *; go_simp))
      subst hP
      exact ⟨by rw [T.cmp, if_neg (by omega), if_neg (by omega)]; rfl, hM.below⟩
def T.or : List Int → Int
  | [] => 0
  | x :: l => if x = 0 then T.or l else x
theorem T.or_skip (l : List Int) (i : Nat) (h : i < l.length) (h0 : T.gi l i = 0) : T.or (l.drop i) = T.or (l.drop (i + 1)) := by
  rw [List.drop_eq_getElem_cons h, T.or, if_pos]
  simpa [T.gi, h] using h0
theorem T.or_at (l : List Int) (i : Nat) (h : i < l.length) (h0 : T.gi l i ≠ 0) : T.or (l.drop i) = T.gi l i := by
  have e : T.gi l i = l[i] := by simp [T.gi, h]
  rw [List.drop_eq_getElem_cons h, T.or, if_neg (by rw [← e]; exact h0), e]
theorem T.or_calls (l : List Int) (b o c : Nat) (hl : l.length ≤ 100) (w : World) (hr : w.rangeAt b o (encs (Value.int .i64) l)) : Calls Tryz.prog 119 #[.slice (some ⟨b, o, none⟩) l.length c] w (T.E (.int .i64 (T.or l)) w) := by
  have hM := T.Mem.start w
  have HB := Aside0.mk hr
  clear hr
  generalize hP : T.E (.int .i64 (T.or l)) w = Post
  go_enter Tryz.func119, Tryz.ntmps119
  repeat' (((go_step)))
  go_loopg [8] (l.length + 1) (fun kq vv Wd => ∃ i : Nat, vv = .int .i64 i ∧ i ≤ l.length ∧ l.length - i < kq ∧ T.or (l.drop i) = T.or l ∧ Aside0 (T.Mem w none Wd []))
  case atStart => exact ⟨0, rfl, by omega, by omega, by simp, ⟨hM⟩⟩
  case round =>
    clear hM
    obtain ⟨i, rfl, hi, hg, ho, hMo⟩ := hrel
    have hM := hMo.out
    clear hMo
    by_cases hlt : i < l.length
    · have hltz : (i : Int) < (l.length : Int) := by omega
      have cb : decide ((i : Int) < (l.length : Int)) = true := decide_eq_true hltz
      have hi0 : (0 : Int) ≤ (i : Int) := by omega
      repeat' (first | ((((((with_reducible show wpList _ _ _ _ _ _); (refine T.w_o rfl ?_)))); (((with_reducible show T.OW _ ⟨_, .load _ _, _, _, _, _⟩ _ _ _ _); ((refine T.ofx (T.x_rgInt rfl rfl (T.range_kept HB.out hM.grown (by simp)) T.TS.out (by ((with_reducible assumption)))) ?_))))); (try simp only [Act.put, List.setIfInBounds_toArray, List.set_cons_zero, List.set_cons_succ])) | (go_step) | go_back)
      · rename_i hne
        have hne' : T.gi l i ≠ 0 := by simpa using hne
        subst hP
        refine ⟨?_, hM.below⟩
        rw [← ho, T.or_at l i hlt hne']
        rfl
      rename_i hne
      have hne' : T.gi l i = 0 := by simpa using hne
      go_roundg (l.length - i)
      case measure => omega
      case rel => exact ⟨i + 1, by go_num, by omega, by omega, by rw [← T.or_skip l i hlt hne']; exact ho, ⟨hM⟩⟩
    · have hiN : i = l.length := by omega
      have hltz : ¬ (i : Int) < (l.length : Int) := by omega
      have cb : decide ((i : Int) < (l.length : Int)) = false := decide_eq_false hltz
      subst hiN
      repeat' (first | (go_step) | go_back | ((fail_if_success (with_reducible show T.Seq _ _ _ _ _ _ _)); (fail_if_success (with_reducible show T.OW _ _ _ _ _ _)); simp only [Int.not_lt, Int.not_le] at *; go_simp))
      subst hP
      refine ⟨?_, hM.below⟩
      rw [← ho, List.drop_length]
      rfl
theorem T.or4 {w0 w : World} {F : Option Nat} {L : List T.Blk} {b c : Nat} {t : TypeId} {x y z u : Int} (hM : T.Mem w0 F w L) (hm : .b b t [.int .i64 x, .int .i64 y, .int .i64 z, .int .i64 u] ∈ L) :
    Calls Tryz.prog 119 #[.slice (some ⟨b, 0, none⟩) 4 c] w (T.E (.int .i64 (T.or [x, y, z, u])) w) :=
  T.or_calls [x, y, z, u] b 0 c (Nat.le_of_ble_eq_true rfl) w (T.range_at (n := 4) hM hm)
def T.wcmp (a b : List Int) : Int := T.or [T.cmp (T.gi a 3) (T.gi b 3), T.cmp (T.gi a 2) (T.gi b 2), T.cmp (T.gi a 1) (T.gi b 1), T.cmp (T.gi a 0) (T.gi b 0)]
theorem T.wcmp_calls (a b : List Int) (ha : a.length = 4) (hb : b.length = 4) (w : World) : Calls Tryz.prog 71 #[.agg (T.u64s a).toArray, .agg (T.u64s b).toArray] w (T.E (.int .i64 (T.wcmp a b)) w) := by
  have hM := T.Mem.start w
  generalize hP : T.E (.int .i64 (T.wcmp a b)) w = Post
  go_enter Tryz.func71, Tryz.ntmps71
  repeat' (first | ((with_reducible show Code.wp _ (Code.region 1 _ true) _ _ _); refine T.mregion 1 (.p 0 (.t 1 (.p 2 (.t 3 (.p 5 (.t 6 (.p 7 (.t 8 (.p 10 (.t 11 (.p 12 (.t 13 (.p 15 (.t 16 (.p 17 (.t 18 (.a 4 (.a 9 (.a 14 (.a 19 (.a 20 (.a 21 (.p 22 .nil))))))))))))))))))))))) 1000 (by kernel_rfl) (fun _ _ _ _ h => h) hM (List.Sublist.refl _) ?_; clear hM; intro wld hM) | (go_at_call 120; refine (T.cmp_calls _ _ _).mono ?_; rintro _ _ ⟨rfl, hbc⟩; replace hM := hM.call hbc; clear hbc) | (go_at_call 119; refine (T.or4 hM T.Fd.out).mono ?_; rintro _ _ ⟨rfl, hbc⟩; replace hM := hM.call hbc; clear hbc) | (((first | ((with_reducible show wpList _ _ _ _ _ _); (refine T.w_o rfl ?_)) | (with_reducible show T.OW _ _ _ _ _ _)); first | ((with_reducible show T.OW _ ⟨_, .box _ _, _, _, _, _⟩ _ _ _ _); refine T.op_box _ _ rfl _ rfl hM ?_; clear hM; intro blk wld hM hlt) | ((with_reducible show T.OW _ ⟨_, .buildSlice _ _ _, _, _, _, _⟩ _ _ _ _); refine T.op_buildSl _ _ _ rfl _ T.TL.out _ T.TN.out _ T.TZ.out rfl (by decide) (by decide) _ rfl (by (((simp [T.okp, Value.cells, Act.eval, *]; done)))) _ rfl hM ?_; (try simp only [List.map_toArray, List.map_cons, List.map_nil, Act.eval, Array.getD_eq_getD_getElem?, List.toList_toArray, List.getElem?_toArray, List.getElem?_cons_zero, List.getElem?_cons_succ, Option.getD_some, T.segs, List.replicate_succ, List.replicate_zero, List.set_cons_zero, List.set_cons_succ, Value.cells, List.flatten_cons, List.flatten_nil, List.append_nil, List.cons_append, List.nil_append]); clear hM; intro blk wld hM hlt)); (try simp only [Act.put, List.setIfInBounds_toArray, List.set_cons_zero, List.set_cons_succ])) | ((with_reducible show T.Seq _ _ _ _ _ _ _); first | ((with_reducible show T.Seq _ _ _ (.p _ _) _ _ _); ((apply T.sq_p rfl rfl; (focus intro wS; ((go_simp; with_reducible rfl))); (try simp only [Act.put, List.setIfInBounds_toArray, List.set_cons_zero, List.set_cons_succ])))) | ((with_reducible show T.Seq _ _ _ (.t _ _) _ _ _); ((apply T.sq_t rfl rfl; (focus intro wS hS; (exact T.x_loadInt rfl rfl T.Fd.out T.TS.out (by ((omega))) hS)); (try simp only [Act.put, List.setIfInBounds_toArray, List.set_cons_zero, List.set_cons_succ])))) | ((with_reducible show T.Seq _ _ _ .nil _ _ _); refine T.sq_nil ?_) | ((with_reducible show T.Seq _ _ _ (.a _ _) _ _ _); refine T.sq_a rfl rfl (fun K hK => ?_))) | (go_at_K; refine hK.out _ _ _ hM (by (repeat (first | exact List.Sublist.refl _ | apply List.Sublist.cons))) ?_; clear hK K) | ((with_reducible show T.OW _ ⟨_, .call _, _, _, _, _⟩ _ _ _ _); refine T.OW.mk ?_; go_simp) | (go_step) | go_back | ((fail_if_success (with_reducible show T.Seq _ _ _ _ _ _ _)); (fail_if_success (with_reducible show T.OW _ _ _ _ _ _)); simp only [Int.not_lt, Int.not_le] at *; go_simp))

  subst hP
  exact ⟨rfl, hM.below⟩
attribute [irreducible] T.wcmp T.cmp T.or
end Go.Proofs.YtdklknfgcepcbaaGreat.X
