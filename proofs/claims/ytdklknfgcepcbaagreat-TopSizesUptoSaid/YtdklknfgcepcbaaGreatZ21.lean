/- Texts of this proof, laid together by wip/tools/pack.py: TJ7, TJ8, TK1. -/
import Derived.Test.YtdklknfgcepcbaaGreatZ20
import Derived.Test.YtdklknfgcepcbaaGreatZ11
namespace Go.Proofs.YtdklknfgcepcbaaGreat.X
open Go.RowKit Go.Proofs.YtdklknfgcepcbaaGreatW.PrintWords Go.Proofs.YtdklknfgcepcbaaGreatW.PrintLast Go.Proofs.YtdklknfgcepcbaaGreatW.PrintMore
set_option linter.unusedSimpArgs false
set_option linter.unusedVariables false
set_option maxHeartbeats 2000000
set_option maxRecDepth 20000
section
def T.WPut (w : World) (e : Ending) (w' : World) : Prop := T.E (.tuple #[.slice none 0 0, .bool false]) w e w' ∨ ∃ bs : List Int, bs.length ≤ 100000000 ∧ T.EGT bs w e w'
theorem T.u8s_app (a b : List Int) : T.u8s (a ++ b) = T.u8s a ++ T.u8s b := by simp [T.u8s, encs]
theorem T.toNat6 : Int.toNat 6 = 6 := rfl
attribute [local irreducible] T.put T.puts
theorem T.cput_calls (t : T.TxV) (w : World) (h : t.At w) : Calls Tryz.prog 132 #[.agg t.cells.toArray] w (T.WPut w) := by
  have hM := T.Mem.start w
  obtain ⟨iv, ov, ins, outs⟩ := t
  have HAT := Aside0.mk h
  obtain ⟨kl, ni, no, si, so⟩ := h
  simp only at kl ni no si so
  obtain ⟨A, cc, rfl, _, _, _⟩ := id si
  obtain ⟨A2, cc2, rfl, _, _, _⟩ := id so
  have HS := Aside0.mk si
  have HS2 := Aside0.mk so
  have HN := Aside0.mk ni
  have HN2 := Aside0.mk no
  have HK := Aside0.mk kl
  clear si so ni no kl
  generalize hP : T.WPut w = Post
  go_enter Tryz.func132, Tryz.ntmps132
  repeat' (first | (go_at_call 154; refine (T.cmay_calls _ _ (HAT.out.kept hM.below)).mono ?_; rintro _ _ ⟨bb, rfl, hbc⟩; replace hM := hM.call hbc; clear hbc; cases bb) | ((((((with_reducible show wpList _ _ _ _ _ _); (refine T.w_o rfl ?_)))); first | ((with_reducible show T.OW _ ⟨_, .load _ _, _, _, _, _⟩ _ _ _ _); first | (refine T.ofx (T.x_load rfl rfl T.Fd.out T.TS.out rfl hM) ?_) | (refine T.ofx (T.x_loadAll rfl rfl T.Fd.out T.TU.out T.TN.out (by ((rfl))) hM) ?_)) | ((with_reducible show T.OW _ ⟨_, .box _ _, _, _, _, _⟩ _ _ _ _); refine T.op_box _ _ rfl _ rfl hM ?_; clear hM; intro blk wld hM hlt) | ((with_reducible show T.OW _ ⟨_, .buildSlice _ _ _, _, _, _, _⟩ _ _ _ _); refine T.op_buildSl _ _ _ rfl _ T.TL.out _ T.TN.out _ T.TZ.out rfl (by decide) (by decide) _ rfl (by (((simp [T.okp, Value.cells, Act.eval, *]; done)))) _ rfl hM ?_; (try simp only [List.map_toArray, List.map_cons, List.map_nil, Act.eval, Array.getD_eq_getD_getElem?, List.toList_toArray, List.getElem?_toArray, List.getElem?_cons_zero, List.getElem?_cons_succ, Option.getD_some, T.segs, List.replicate_succ, List.replicate_zero, List.set_cons_zero, List.set_cons_succ, Value.cells, List.flatten_cons, List.flatten_nil, List.append_nil, List.cons_append, List.nil_append]); clear hM; intro blk wld hM hlt)); (try simp only [Act.put, List.setIfInBounds_toArray, List.set_cons_zero, List.set_cons_succ])) | (go_step) | go_back | ((fail_if_success (with_reducible show T.Seq _ _ _ _ _ _ _)); (fail_if_success (with_reducible show T.OW _ _ _ _ _ _)); simp only [Int.not_lt, Int.not_le] at *; go_simp))
  · subst hP
    exact .inl ⟨rfl, hM.below⟩
  obtain ⟨bg, rfl⟩ := T.n1 hM
  obtain ⟨bk, rfl⟩ := T.n2 hM
  have hM := hM.shut (rest := []) (xs := T.u8s [(ins.length : Int) % 256]) (sz := 1) (n := 1) (cap := 1) (by assumption) (Nat.le_refl 1) (by simp [maxLen]) rfl rfl (T.ones_encs _ _)
  go_loopg [4, 20] (ins.length + 1) (fun kq v4 v20 Wd => ∃ (i : Nat) (bs : List Int), v20 = .int .i64 i ∧ i ≤ ins.length ∧ ins.length - i < kq ∧ Aside0 (bs.length = 1 + 33 * i) ∧ Aside0 (T.Mem w none Wd [.g v4 5 1 bs.length (T.u8s bs), .b bk 95 [.slice A ins.length cc, .slice A2 outs.length cc2]]))
  case atStart => exact ⟨0, [(ins.length : Int) % 256], rfl, by omega, by omega, ⟨rfl⟩, ⟨hM⟩⟩
  case round =>
    clear hM
    obtain ⟨i, bs, rfl, hi, hg, HB, hMo⟩ := hrel
    rename_i v4
    have hM := hMo.out
    clear hMo
    by_cases hlt : i < ins.length
    · have hltz : (i : Int) < (ins.length : Int) := by omega
      have cb : decide ((i : Int) < (ins.length : Int)) = true := decide_eq_true hltz
      have hi0 : (0 : Int) ≤ (i : Int) := by omega
      obtain ⟨b, o, rfl⟩ := HS.out.adr (by omega)
      have H1 := Aside0.mk (T.rc_at (enc := T.InV.cells) (k := 33) (fun x hx => x.len (HK.out x hx)) i hlt)
      have kx : (ins[i]).ok := HK.out _ (List.getElem_mem hlt)
      generalize ins[i] = x at *
      have hx2 : x.cells.length = 33 := x.len kx
      have hxo := x.ones
      have hxi := x.i_at kx
      have hzi : (T.u8s T.z32 ++ [Value.int .i64 0]).length = 33 := by simp [encs_length, T.z32]
      have HTX := Aside0.mk (show (x.cells.drop 0).take (T.u8s x.tx).length = T.u8s x.tx by rw [encs_length, show x.tx.length = 32 from kx]; exact x.txs kx)
      have hxl : (T.u8s x.tx).length = 32 * 1 := by rw [encs_length, show x.tx.length = 32 from kx]
      have hb1 : (bs.length + 32) * 1 ≤ 70368744177664 := by have := HB.out; have := HN.out; omega
      have hb2 : (bs.length + 32 + 1) * 1 ≤ 70368744177664 := by have := HB.out; have := HN.out; omega
      repeat' (first | ((with_reducible show Code.wp _ (Code.region 7 _ true) _ _ _); refine T.mregion 7 (.p 0 (.p 1 (.p 2 (.p 4 (.t 5 (.p 6 (.f 3 7 (.a 7 (.a 8 (.p 9 .nil))) (.a 3 (.a 8 (.p 9 .nil)))))))))) 1000 (by kernel_rfl) (fun _ _ _ _ h => h) hM (List.Sublist.cons_cons _ (List.Sublist.cons _ (List.Sublist.refl _))) ?_; clear hM; intro wld hM) | ((with_reducible show T.OW _ ⟨_, .call ⟨.builtin .append, #[.tmp 24, .tmp 26], _⟩, _, _, _, _⟩ _ _ _ _); refine T.op_app _ _ _ rfl _ _ _ T.TE.out _ _ _ rfl _ _ _ hM (fun _ => by (repeat (first | exact T.Sub.head _ | apply T.Sub.tail))) (hM.sl T.Fd.out HTX.out (Nat.le_refl 32) (T.ones_encs _ _)) hxl (by decide) (by decide) hb1 ?_; clear hM; intro gsv wld hM; (try simp only [Act.put, List.setIfInBounds_toArray, List.set_cons_zero, List.set_cons_succ])) | (((first | ((with_reducible show wpList _ _ _ _ _ _); (refine T.w_o rfl ?_)) | (with_reducible show T.OW _ _ _ _ _ _)); first | ((with_reducible show T.OW _ ⟨_, .load _ _, _, _, _, _⟩ _ _ _ _); ((refine T.ofx (T.x_slRow rfl rfl (hM.slin HS.out) T.TU.out T.TN.out H1.out hx2) ?_))) | ((with_reducible show T.OW _ ⟨_, .store _ _ _, _, _, _, _⟩ _ _ _ _); ((refine T.op_storeAll _ _ _ rfl _ rfl _ rfl _ _ hM (by (repeat ((exact T.Sub.head _)))) _ T.TN.out (by ((with_reducible assumption))) (by ((with_reducible assumption))) (by ((with_reducible assumption))) ?_; clear hM; intro wld hM))) | ((with_reducible show T.OW _ ⟨_, .alloc _, _, _, _, _⟩ _ _ _ _); refine T.op_alloc _ rfl _ T.TZ.out hM ?_; clear hM; intro blk wld hM hlt) | ((with_reducible show T.OW _ ⟨_, .call ⟨.builtin .append, _, _⟩, _, _, _, _⟩ _ _ _ _); refine T.op_app _ _ _ rfl _ _ _ T.TE.out _ _ _ rfl _ _ _ hM (fun _ => by (repeat (first | exact T.Sub.head _ | apply T.Sub.tail))) (by (exact T.Mem.slB hM T.Fd.out (by ((exact T.one_ones rfl))) (by decide))) (by ((rfl))) (by decide) (by decide) (by ((with_reducible assumption))) ?_; clear hM; intro gsv wld hM) | ((with_reducible show T.OW _ ⟨_, .buildSlice _ _ _, _, _, _, _⟩ _ _ _ _); refine T.op_buildSl _ _ _ rfl _ T.TL.out _ T.TN.out _ T.TZ.out rfl (by decide) (by decide) _ rfl (by (((simp [T.okp, Value.cells, Act.eval, *]; done)))) _ rfl hM ?_; (try simp only [List.map_toArray, List.map_cons, List.map_nil, Act.eval, Array.getD_eq_getD_getElem?, List.toList_toArray, List.getElem?_toArray, List.getElem?_cons_zero, List.getElem?_cons_succ, Option.getD_some, T.segs, List.replicate_succ, List.replicate_zero, List.set_cons_zero, List.set_cons_succ, Value.cells, List.flatten_cons, List.flatten_nil, List.append_nil, List.cons_append, List.nil_append]); clear hM; intro blk wld hM hlt)); (try simp only [Act.put, List.setIfInBounds_toArray, List.set_cons_zero, List.set_cons_succ])) | ((with_reducible show T.Seq _ _ _ _ _ _ _); first | ((with_reducible show T.Seq _ _ _ (.p _ _) _ _ _); ((apply T.sq_p rfl rfl; (focus intro wS; ((go_simp; with_reducible rfl))); (try simp only [Act.put, List.setIfInBounds_toArray, List.set_cons_zero, List.set_cons_succ])))) | ((with_reducible show T.Seq _ _ _ (.t _ _) _ _ _); ((apply T.sq_t rfl rfl; (focus intro wS hS; (exact T.x_load rfl rfl T.Fd.out T.TS.out hxi hS)); (try simp only [Act.put, List.setIfInBounds_toArray, List.set_cons_zero, List.set_cons_succ])))) | ((with_reducible show T.Seq _ _ _ .nil _ _ _); refine T.sq_nil ?_) | ((with_reducible show T.Seq _ _ _ (.f _ _ _ _) _ _ _); refine T.sq_f ?_ ?_) | ((with_reducible show T.Seq _ _ _ (.a _ _) _ _ _); refine T.sq_a rfl rfl (fun K hK => ?_))) | (go_at_K; refine hK.out _ _ _ (hM.drop (by (repeat (first | exact List.Sublist.refl _ | apply List.Sublist.cons_cons | apply List.Sublist.cons)))) (List.Sublist.refl _) ?_; clear hK K) | (go_step))
      all_goals
        have hib : ins.length ≤ 1000000 := HN.out
        go_roundg (ins.length - i)
        case measure => omega
        case rel => exact ⟨i + 1, bs ++ (x.tx ++ [IntKind.u8.wrap x.i]), congrArg (Value.int .i64) (by unfold wrap64; omega), by omega, by omega, ⟨by have := HB.out; simp [show x.tx.length = 32 from kx]; omega⟩, ⟨by
          rw [show (bs ++ (x.tx ++ [IntKind.u8.wrap x.i])).length = bs.length + 32 + 1 by simp [show x.tx.length = 32 from kx], T.u8s_app, T.u8s_app, ← List.append_assoc]
          show T.Mem w none wld [.g gsv 5 1 (bs.length + 32 + 1) (T.u8s bs ++ T.u8s x.tx ++ [Value.int .u8 (IntKind.u8.wrap x.i)]), .b bk 95 [.slice (some ⟨b, o, none⟩) ins.length cc, .slice A2 outs.length cc2]]
          exact hM.drop (by (repeat (first | exact List.Sublist.refl _ | apply List.Sublist.cons)))⟩⟩
    · have hiN : i = ins.length := by omega
      have hltz : ¬ (i : Int) < (ins.length : Int) := by omega
      have cb : decide ((i : Int) < (ins.length : Int)) = false := decide_eq_false hltz
      have HI := Aside0.mk hi
      have hb1 : (bs.length + 1) * 1 ≤ 70368744177664 := by have := HB.out; have := HN.out; omega
      clear hiN
      repeat' (first | ((((((with_reducible show wpList _ _ _ _ _ _); (refine T.w_o rfl ?_)))); first | ((with_reducible show T.OW _ ⟨_, .load _ _, _, _, _, _⟩ _ _ _ _); ((refine T.ofx (T.x_load rfl rfl T.Fd.out T.TS.out rfl hM) ?_))) | ((with_reducible show T.OW _ ⟨_, .call ⟨.builtin .append, _, _⟩, _, _, _, _⟩ _ _ _ _); refine T.op_app _ _ _ rfl _ _ _ T.TE.out _ _ _ rfl _ _ _ hM (fun _ => by (repeat (first | exact T.Sub.head _ | apply T.Sub.tail))) (by (exact T.Mem.slB hM T.Fd.out (by ((exact T.one_ones rfl))) (by decide))) (by ((rfl))) (by decide) (by decide) (by ((with_reducible assumption))) ?_; clear hM; intro gsv wld hM) | ((with_reducible show T.OW _ ⟨_, .buildSlice _ _ _, _, _, _, _⟩ _ _ _ _); refine T.op_buildSl _ _ _ rfl _ T.TL.out _ T.TN.out _ T.TZ.out rfl (by decide) (by decide) _ rfl (by (((simp [T.okp, Value.cells, Act.eval, *]; done)))) _ rfl hM ?_; (try simp only [List.map_toArray, List.map_cons, List.map_nil, Act.eval, Array.getD_eq_getD_getElem?, List.toList_toArray, List.getElem?_toArray, List.getElem?_cons_zero, List.getElem?_cons_succ, Option.getD_some, T.segs, List.replicate_succ, List.replicate_zero, List.set_cons_zero, List.set_cons_succ, Value.cells, List.flatten_cons, List.flatten_nil, List.append_nil, List.cons_append, List.nil_append]); clear hM; intro blk wld hM hlt)); (try simp only [Act.put, List.setIfInBounds_toArray, List.set_cons_zero, List.set_cons_succ])) | (go_step) | ((fail_if_success (with_reducible show T.Seq _ _ _ _ _ _ _)); (fail_if_success (with_reducible show T.OW _ _ _ _ _ _)); simp only [Int.not_lt, Int.not_le] at *; go_simp))
      go_loopg [4, 44] (outs.length + 1) (fun kq v4 v44 Wd => ∃ (i : Nat) (bs : List Int), v44 = .int .i64 i ∧ i ≤ outs.length ∧ outs.length - i < kq ∧ Aside0 (bs.length ≤ 2 + 33 * ins.length + 7 * i) ∧ Aside0 (T.Mem w none Wd [.g v4 5 1 bs.length (T.u8s bs), .b bk 95 [.slice A ins.length cc, .slice A2 outs.length cc2]]))
      case atStart =>
        refine ⟨0, bs ++ [(outs.length : Int) % 256], rfl, by omega, by omega, ⟨by have := HB.out; have := HI.out; simp; omega⟩, ⟨?_⟩⟩
        rw [List.length_append, T.u8s_app]
        exact hM.drop (by (repeat (first | exact List.Sublist.refl _ | apply List.Sublist.cons)))
      case round =>
        clear hM HB
        obtain ⟨i, bs, rfl, hi, hg, HB, hMo⟩ := hrel
        rename_i v4
        have hM := hMo.out
        clear hMo
        by_cases hlt : i < outs.length
        · have hltz : (i : Int) < (outs.length : Int) := by omega
          have cb : decide ((i : Int) < (outs.length : Int)) = true := decide_eq_true hltz
          have hi0 : (0 : Int) ≤ (i : Int) := by omega
          obtain ⟨b, o, rfl⟩ := HS2.out.adr (by omega)
          have H1 := Aside0.mk (T.rc_at (enc := T.OutV.cells) (k := 2) (fun _ _ => rfl) i hlt)
          generalize outs[i] = x at *
          have hx2 : x.cells.length = 2 := rfl
          have hpl : (T.u8s (T.put (IntKind.u64.wrap x.v) 6)).length = 6 * 1 := by rw [encs_length, T.put_len]
          have hb1 : (bs.length + 6) * 1 ≤ 70368744177664 := by have := HB.out; have := HN.out; have := HN2.out; omega
          have hb2 : (bs.length + 6 + 1) * 1 ≤ 70368744177664 := by have := HB.out; have := HN.out; have := HN2.out; omega
          repeat' (first | ((with_reducible show Code.wp _ (Code.region 13 _ true) _ _ _); refine T.mregion 13 (.p 0 (.p 1 (.t 2 (.p 3 (.p 6 (.t 7 (.p 8 (.f 4 9 (.f 5 9 (.a 9 (.a 10 (.p 11 .nil))) (.a 5 (.a 10 (.p 11 .nil)))) (.a 4 (.a 5 (.a 10 (.p 11 .nil)))))))))))) 1000 (by kernel_rfl) (fun _ _ _ _ h => h) hM (List.Sublist.cons_cons _ (List.Sublist.cons _ (List.Sublist.refl _))) ?_; clear hM; intro wld hM) | (go_at_call 58; refine (T.putI _ _ (by decide) (by decide) _).mono ?_; rintro _ wr ⟨v, rfl, ho, h1, hbc⟩; (obtain ⟨Ag, cg, rfl⟩ := T.own_slice ho); replace hM := hM.callG hbc ho h1; clear hbc ho h1; simp only [T.toNat6] at hM ⊢) | ((with_reducible show T.OW _ ⟨_, .call ⟨.builtin .append, #[.tmp 48, .tmp 52], _⟩, _, _, _, _⟩ _ _ _ _); refine T.op_app _ _ _ rfl _ _ _ T.TE.out _ _ _ rfl _ _ _ hM (fun _ => by (repeat (first | exact T.Sub.head _ | apply T.Sub.tail))) (hM.gsl (v := .slice Ag 6 cg) T.Fg.out) hpl (by decide) (by decide) hb1 ?_; clear hM; intro gsv wld hM; (try simp only [Act.put, List.setIfInBounds_toArray, List.set_cons_zero, List.set_cons_succ])) | (((first | ((with_reducible show wpList _ _ _ _ _ _); (refine T.w_o rfl ?_)) | (with_reducible show T.OW _ _ _ _ _ _)); first | ((with_reducible show T.OW _ ⟨_, .load _ _, _, _, _, _⟩ _ _ _ _); ((refine T.ofx (T.x_slRow rfl rfl (hM.slin HS2.out) T.TU.out T.TN.out H1.out hx2) ?_))) | ((with_reducible show T.OW _ ⟨_, .store _ _ _, _, _, _, _⟩ _ _ _ _); ((refine T.op_storeAll _ _ _ rfl _ rfl _ rfl _ _ hM (by (repeat ((exact T.Sub.head _)))) _ T.TN.out (by ((with_reducible assumption))) (by ((exact T.ones_all rfl))) (by ((rfl))) ?_; clear hM; intro wld hM))) | ((with_reducible show T.OW _ ⟨_, .alloc _, _, _, _, _⟩ _ _ _ _); refine T.op_alloc _ rfl _ T.TZ.out hM ?_; clear hM; intro blk wld hM hlt) | ((with_reducible show T.OW _ ⟨_, .call ⟨.builtin .append, _, _⟩, _, _, _, _⟩ _ _ _ _); refine T.op_app _ _ _ rfl _ _ _ T.TE.out _ _ _ rfl _ _ _ hM (fun _ => by (repeat (first | exact T.Sub.head _ | apply T.Sub.tail))) (by (exact T.Mem.slB hM T.Fd.out (by ((exact T.one_ones rfl))) (by decide))) (by ((rfl))) (by decide) (by decide) (by ((with_reducible assumption))) ?_; clear hM; intro gsv wld hM) | ((with_reducible show T.OW _ ⟨_, .buildSlice _ _ _, _, _, _, _⟩ _ _ _ _); refine T.op_buildSl _ _ _ rfl _ T.TL.out _ T.TN.out _ T.TZ.out rfl (by decide) (by decide) _ rfl (by (((simp [T.okp, Value.cells, Act.eval, *]; done)))) _ rfl hM ?_; (try simp only [List.map_toArray, List.map_cons, List.map_nil, Act.eval, Array.getD_eq_getD_getElem?, List.toList_toArray, List.getElem?_toArray, List.getElem?_cons_zero, List.getElem?_cons_succ, Option.getD_some, T.segs, List.replicate_succ, List.replicate_zero, List.set_cons_zero, List.set_cons_succ, Value.cells, List.flatten_cons, List.flatten_nil, List.append_nil, List.cons_append, List.nil_append]); clear hM; intro blk wld hM hlt)); (try simp only [Act.put, List.setIfInBounds_toArray, List.set_cons_zero, List.set_cons_succ])) | ((with_reducible show T.Seq _ _ _ _ _ _ _); first | ((with_reducible show T.Seq _ _ _ (.p _ _) _ _ _); ((apply T.sq_p rfl rfl; (focus intro wS; ((go_simp; with_reducible rfl))); (try simp only [Act.put, List.setIfInBounds_toArray, List.set_cons_zero, List.set_cons_succ])))) | ((with_reducible show T.Seq _ _ _ (.t _ _) _ _ _); ((apply T.sq_t rfl rfl; (focus intro wS hS; (exact T.x_load rfl rfl T.Fd.out T.TS.out rfl hS)); (try simp only [Act.put, List.setIfInBounds_toArray, List.set_cons_zero, List.set_cons_succ])))) | ((with_reducible show T.Seq _ _ _ .nil _ _ _); refine T.sq_nil ?_) | ((with_reducible show T.Seq _ _ _ (.f _ _ _ _) _ _ _); refine T.sq_f ?_ ?_) | ((with_reducible show T.Seq _ _ _ (.a _ _) _ _ _); refine T.sq_a rfl rfl (fun K hK => ?_))) | (go_at_K; refine hK.out _ _ _ (hM.drop (by (repeat (first | exact List.Sublist.refl _ | apply List.Sublist.cons_cons | apply List.Sublist.cons)))) (List.Sublist.refl _) ?_; clear hK K) | ((with_reducible show T.OW _ ⟨_, .call _, _, _, _, _⟩ _ _ _ _); refine T.OW.mk ?_; go_simp) | (go_step))
          all_goals
            have hib : outs.length ≤ 1000000 := HN2.out
            go_roundg (outs.length - i)
            case measure => omega
            case rel => exact ⟨i + 1, bs ++ (T.put (IntKind.u64.wrap x.v) 6 ++ [IntKind.u8.wrap x.u]), congrArg (Value.int .i64) (by unfold wrap64; omega), by omega, by omega, ⟨by have := HB.out; simp [T.put_len]; omega⟩, ⟨by
              rw [show (bs ++ (T.put (IntKind.u64.wrap x.v) 6 ++ [IntKind.u8.wrap x.u])).length = bs.length + 6 + 1 by simp [T.put_len], T.u8s_app, T.u8s_app, ← List.append_assoc]
              show T.Mem w none wld [.g gsv 5 1 (bs.length + 6 + 1) (T.u8s bs ++ T.u8s (T.put (IntKind.u64.wrap x.v) 6) ++ [Value.int .u8 (IntKind.u8.wrap x.u)]), .b bk 95 [.slice A ins.length cc, .slice (some ⟨b, o, none⟩) outs.length cc2]]
              exact hM.drop (by (repeat (first | exact List.Sublist.refl _ | apply List.Sublist.cons)))⟩⟩
        · have hiN : i = outs.length := by omega
          have hltz : ¬ (i : Int) < (outs.length : Int) := by omega
          have cb : decide ((i : Int) < (outs.length : Int)) = false := decide_eq_false hltz
          repeat' (first | (go_step) | go_back | ((fail_if_success (with_reducible show T.Seq _ _ _ _ _ _ _)); (fail_if_success (with_reducible show T.OW _ _ _ _ _ _)); simp only [Int.not_lt, Int.not_le] at *; go_simp))
          subst hP
          obtain ⟨v', hv, ho, h1, hb⟩ := hM.eg List.mem_cons_self
          cases hv
          exact .inr ⟨bs, by have := HB.out; have := HN.out; have := HN2.out; omega, _, rfl, ho, h1, hb⟩
end
def T.WId (w : World) (e : Ending) (w' : World) : Prop := ∃ x : List Int, x.length = 32 ∧ T.E (.agg (T.u8s x).toArray) w e w'
theorem T.cid_calls (t : T.TxV) (w : World) (h : t.At w) : Calls Tryz.prog 94 #[.agg t.cells.toArray] w (T.WId w) := by
  have hM := T.Mem.start w
  have HAT := Aside0.mk h
  have hto := h.ones
  have htl : t.cells.length = 2 := rfl
  clear h
  have hz0 : (T.u8s T.z32).length = 32 := by rw [encs_length]; rfl
  generalize hP : T.WId w = Post
  go_enter Tryz.func94, Tryz.ntmps94
  repeat' (first | (go_at_call 132; refine (T.cput_calls _ _ (HAT.out.kept hM.below)).mono ?_; (rintro _ wr (⟨rfl, hbc⟩ | ⟨bs, hbl, v, rfl, ho, h1, hbc⟩) <;> first | ((obtain ⟨Ag, cg, rfl⟩ := T.own_slice ho); replace hM := hM.callG hbc ho h1; clear hbc ho h1) | (replace hM := hM.call hbc; clear hbc))) | (go_at_call 34; refine (T.of2 [6] bs hM T.Fd.out (hM.slB (n := 1) (c := 1) T.Fd.out (T.one_ones rfl) (Nat.le_refl _)) (hM.gsl T.Fg.out) (by simp only [List.length_append, List.length_cons, List.length_nil]; omega)).mono ?_; rintro _ _ ⟨rfl, hbc⟩; replace hM := hM.call hbc; clear hbc; have hsl := T.sum_len (6 :: bs)) | ((((((with_reducible show wpList _ _ _ _ _ _); (refine T.w_o rfl ?_)))); first | ((with_reducible show T.OW _ ⟨_, .load _ _, _, _, _, _⟩ _ _ _ _); ((refine T.ofx (T.x_loadAll rfl rfl T.Fd.out T.TU.out T.TN.out (by ((with_reducible assumption))) hM) ?_))) | ((with_reducible show T.OW _ ⟨_, .store _ _ _, _, _, _, _⟩ _ _ _ _); ((refine T.op_storeAll _ _ _ rfl _ rfl _ rfl _ _ hM (by (repeat (first | exact T.Sub.head _ | apply T.Sub.tail))) _ T.TN.out (by (first | with_reducible assumption | (rw [encs_length]; with_reducible assumption))) (by ((exact T.ones_encs _ _))) (by ((with_reducible assumption))) ?_; clear hM; intro wld hM))) | ((with_reducible show T.OW _ ⟨_, .alloc _, _, _, _, _⟩ _ _ _ _); refine T.op_alloc _ rfl _ T.TZ.out hM ?_; clear hM; intro blk wld hM hlt) | ((with_reducible show T.OW _ ⟨_, .box _ _, _, _, _, _⟩ _ _ _ _); refine T.op_box _ _ rfl _ rfl hM ?_; clear hM; intro blk wld hM hlt) | ((with_reducible show T.OW _ ⟨_, .buildSlice _ _ _, _, _, _, _⟩ _ _ _ _); refine T.op_buildSl _ _ _ rfl _ T.TL.out _ T.TN.out _ T.TZ.out rfl (by decide) (by decide) _ rfl (by (((simp [T.okp, Value.cells, Act.eval, *]; done)))) _ rfl hM ?_; (try simp only [List.map_toArray, List.map_cons, List.map_nil, Act.eval, Array.getD_eq_getD_getElem?, List.toList_toArray, List.getElem?_toArray, List.getElem?_cons_zero, List.getElem?_cons_succ, Option.getD_some, T.segs, List.replicate_succ, List.replicate_zero, List.set_cons_zero, List.set_cons_succ, Value.cells, List.flatten_cons, List.flatten_nil, List.append_nil, List.cons_append, List.nil_append]); clear hM; intro blk wld hM hlt) | ((with_reducible show T.OW _ ⟨_, .build _ _, _, _, _, _⟩ _ _ _ _); ((refine T.ofx (T.x_buildA0 rfl T.TA.out T.TN.out T.TZ.out) ?_)))); (try simp only [Act.put, List.setIfInBounds_toArray, List.set_cons_zero, List.set_cons_succ])) | (go_step) | ((fail_if_success (with_reducible show T.Seq _ _ _ _ _ _ _)); (fail_if_success (with_reducible show T.OW _ _ _ _ _ _)); simp only [Int.not_lt, Int.not_le] at *; go_simp))
  · (refine T.ret_cell rfl rfl _ rfl _ _ hM T.Fd.out T.TU.out _ T.TN.out (by ((with_reducible assumption))) ?_)
    subst hP
    exact ⟨T.z32, rfl, rfl, hM.below⟩
  · (refine T.ret_cell rfl rfl _ rfl _ _ hM T.Fd.out T.TU.out _ T.TN.out (by (((rw [encs_length]; with_reducible assumption)))) ?_)
    subst hP
    exact ⟨_, hsl, rfl, hM.below⟩
structure T.TxsAt (w : World) (v : Value) (l : List T.TxV) : Prop where
  n : l.length ≤ 1000000
  s : T.Sl w v l.length (T.rc T.TxV.cells l)
  all : ∀ t ∈ l, t.At w
theorem T.TxsAt.kept {w w' : World} {v : Value} {l : List T.TxV} (h : T.TxsAt w v l) (hb : Below w.heap.size w w') : T.TxsAt w' v l := ⟨h.n, h.s.kept hb, fun t ht => (h.all t ht).kept hb⟩
theorem T.root0 (w : World) : Calls Tryz.prog 91 #[.slice none 0 0] w (T.E (.agg (T.u8s (T.sum [2])).toArray) w) := T.rootF_calls 1 [] (by decide) (fun _ h => (List.not_mem_nil h).elim) (by decide) _ _ (T.Sl.nil _)
theorem T.croot_nil (w : World) : Calls Tryz.prog 50 #[.slice none 0 0] w (T.E (.agg (T.u8s (T.sum [2])).toArray) w) := by
  have hM := T.Mem.start w
  generalize hP : T.E (.agg (T.u8s (T.sum [2])).toArray) w = Post
  have hsl := T.sum_len [2]
  have hsl2 : (T.u8s (T.sum [2])).length = 32 := by rw [encs_length]; exact T.sum_len _
  have hz0 : (T.u8s T.z32).length = 32 := by rw [encs_length]; rfl
  go_enter Tryz.func50, Tryz.ntmps50
  repeat' (first | ((((((with_reducible show wpList _ _ _ _ _ _); (refine T.w_o rfl ?_)))); (((with_reducible show T.OW _ ⟨_, .alloc _, _, _, _, _⟩ _ _ _ _); refine T.op_alloc _ rfl _ T.TZ.out hM ?_; clear hM; intro blk wld hM hlt))); (try simp only [Act.put, List.setIfInBounds_toArray, List.set_cons_zero, List.set_cons_succ])) | (go_step))
  refine T.wp_rounds 1 ?_
  unfold T.rounds
  repeat' (first | (go_at_call 91; refine (T.root0 _).mono ?_; rintro _ _ ⟨rfl, hbc⟩; replace hM := hM.call hbc; clear hbc) | ((((((with_reducible show wpList _ _ _ _ _ _); (refine T.w_o rfl ?_)))); (((with_reducible show T.OW _ ⟨_, .store _ _ _, _, _, _, _⟩ _ _ _ _); ((refine T.op_storeAll _ _ _ rfl _ rfl _ rfl _ _ hM (by (repeat ((exact T.Sub.head _)))) _ T.TN.out (by ((with_reducible assumption))) (by ((exact T.ones_encs _ _))) (by ((with_reducible assumption))) ?_; clear hM; intro wld hM))))); (try simp only [Act.put, List.setIfInBounds_toArray, List.set_cons_zero, List.set_cons_succ])) | (go_step) | ((fail_if_success (with_reducible show T.Seq _ _ _ _ _ _ _)); (fail_if_success (with_reducible show T.OW _ _ _ _ _ _)); simp only [Int.not_lt, Int.not_le] at *; go_simp))
  (refine T.ret_cell rfl rfl _ rfl _ _ hM T.Fd.out T.TU.out _ T.TN.out (by ((with_reducible assumption))) ?_)
  subst hP
  exact ⟨rfl, hM.below⟩
theorem T.croot_calls (l : List T.TxV) (v : Value) (w : World) (h : T.TxsAt w v l) : Calls Tryz.prog 50 #[v] w (T.WId w) := by
  have hM := T.Mem.start w
  obtain ⟨A, cc, hv, _, _, _⟩ := id h.s
  subst hv
  have HAT := Aside0.mk h
  clear h
  have hz0 : (T.u8s T.z32).length = 32 := by rw [encs_length]; rfl
  generalize hP : T.WId w = Post
  go_enter Tryz.func50, Tryz.ntmps50
  repeat' (first | ((((((with_reducible show wpList _ _ _ _ _ _); (refine T.w_o rfl ?_)))); (((with_reducible show T.OW _ ⟨_, .alloc _, _, _, _, _⟩ _ _ _ _); refine T.op_alloc _ rfl _ T.TZ.out hM ?_; clear hM; intro blk wld hM hlt))); (try simp only [Act.put, List.setIfInBounds_toArray, List.set_cons_zero, List.set_cons_succ])) | (go_step))
  obtain ⟨bk, rfl⟩ := T.n1 hM
  have hM := hM.nil 44 32
  go_loopg [3, 8] (l.length + 1) (fun kq v3 v8 Wd => ∃ (i : Nat) (ids : List (List Int)), v8 = .int .i64 i ∧ i ≤ l.length ∧ l.length - i < kq ∧ Aside0 (ids.length = i ∧ T.okn 32 ids) ∧ Aside0 (T.Mem w none Wd [.g v3 44 32 ids.length (T.u8s ids.flatten), .b bk 44 (T.u8s T.z32)]))
  case atStart => exact ⟨0, [], rfl, by omega, by omega, ⟨rfl, fun _ h => (List.not_mem_nil h).elim⟩, ⟨hM⟩⟩
  case round =>
    clear hM
    obtain ⟨i, ids, rfl, hi, hg, HI, hMo⟩ := hrel
    rename_i v3
    have hM := hMo.out
    clear hMo
    by_cases hlt : i < l.length
    · have hltz : (i : Int) < (l.length : Int) := by omega
      have cb : decide ((i : Int) < (l.length : Int)) = true := decide_eq_true hltz
      have hi0 : (0 : Int) ≤ (i : Int) := by omega
      obtain ⟨b, o, rfl⟩ := HAT.out.s.adr (by omega)
      have H1 := Aside0.mk (T.rc_at (enc := T.TxV.cells) (k := 2) (fun _ _ => rfl) i hlt)
      have HT := Aside0.mk (HAT.out.all _ (List.getElem_mem hlt))
      generalize l[i] = t at *
      have hx2 : t.cells.length = 2 := rfl
      have hto := HT.out.ones
      have hbb : (ids.length + 1) * 32 ≤ 70368744177664 := by have := HI.out.1; have := HAT.out.n; omega
      repeat' (first | (go_at_call 94; refine (T.cid_calls _ _ (HT.out.kept hM.below)).mono ?_; rintro _ _ ⟨x, hx, rfl, hbc⟩; replace hM := hM.call hbc; clear hbc; have hux : (T.u8s x).length = 1 * 32 := (by rw [encs_length]; omega); have hux2 : (T.u8s x).length = 32 := hux) | ((((((with_reducible show wpList _ _ _ _ _ _); (refine T.w_o rfl ?_)))); first | ((with_reducible show T.OW _ ⟨_, .load _ _, _, _, _, _⟩ _ _ _ _); first | (refine T.ofx (T.x_slRow rfl rfl (hM.slin HAT.out.s) T.TU.out T.TN.out H1.out hx2) ?_) | (refine T.ofx (T.x_loadAll rfl rfl T.Fd.out T.TU.out T.TN.out (by ((with_reducible assumption))) hM) ?_)) | ((with_reducible show T.OW _ ⟨_, .store _ _ _, _, _, _, _⟩ _ _ _ _); ((refine T.op_storeAll _ _ _ rfl _ rfl _ rfl _ _ hM (by (repeat ((exact T.Sub.head _)))) _ T.TN.out (by ((with_reducible assumption))) (by ((with_reducible assumption))) (by ((rfl))) ?_; clear hM; intro wld hM))) | ((with_reducible show T.OW _ ⟨_, .alloc _, _, _, _, _⟩ _ _ _ _); refine T.op_alloc _ rfl _ T.TZ.out hM ?_; clear hM; intro blk wld hM hlt) | ((with_reducible show T.OW _ ⟨_, .call ⟨.builtin .append, _, _⟩, _, _, _, _⟩ _ _ _ _); refine T.op_app _ _ _ rfl _ _ _ T.TE.out _ _ _ rfl _ _ _ hM (fun _ => by (repeat (first | exact T.Sub.head _ | apply T.Sub.tail))) (by (exact T.Mem.slB hM T.Fd.out (by ((exact T.ones_encs _ _))) (by decide))) (by ((with_reducible assumption))) (by decide) (by decide) (by ((with_reducible assumption))) ?_; clear hM; intro gsv wld hM) | ((with_reducible show T.OW _ ⟨_, .buildSlice _ _ _, _, _, _, _⟩ _ _ _ _); refine T.op_buildSl _ _ _ rfl _ T.TL.out _ T.TN.out _ T.TZ.out rfl (by decide) (by decide) _ rfl (by (((simp [T.okp, Value.cells, Act.eval, *]; done)))) _ rfl hM ?_; (try simp only [List.map_toArray, List.map_cons, List.map_nil, Act.eval, Array.getD_eq_getD_getElem?, List.toList_toArray, List.getElem?_toArray, List.getElem?_cons_zero, List.getElem?_cons_succ, Option.getD_some, T.segs, List.replicate_succ, List.replicate_zero, List.set_cons_zero, List.set_cons_succ, Value.cells, List.flatten_cons, List.flatten_nil, List.append_nil, List.cons_append, List.nil_append]); clear hM; intro blk wld hM hlt)); (try simp only [Act.put, List.setIfInBounds_toArray, List.set_cons_zero, List.set_cons_succ])) | (go_step) | ((fail_if_success (with_reducible show T.Seq _ _ _ _ _ _ _)); (fail_if_success (with_reducible show T.OW _ _ _ _ _ _)); simp only [Int.not_lt, Int.not_le] at *; go_simp))
      have hib := HAT.out.n
      go_roundg (l.length - i)
      case measure => omega
      case rel => exact ⟨i + 1, ids ++ [x], congrArg (Value.int .i64) (by unfold wrap64; omega), by omega, by omega, ⟨by rw [List.length_append, HI.out.1]; rfl, T.okn_app HI.out.2 (fun y hy => by rw [List.mem_singleton.1 hy]; exact hx)⟩, ⟨by
        rw [List.length_append, List.flatten_append, T.u8s_app, show T.u8s [x].flatten = T.u8s x by simp]
        exact hM.drop (by (repeat (first | exact List.Sublist.refl _ | apply List.Sublist.cons)))⟩⟩
    · have hiN : i = l.length := by omega
      have hltz : ¬ (i : Int) < (l.length : Int) := by omega
      have cb : decide ((i : Int) < (l.length : Int)) = false := decide_eq_false hltz
      have hrl := T.rootF_len (ids.length + 1) ids HI.out.2
      have hrl2 : (T.u8s (T.rootF (ids.length + 1) ids)).length = 32 := by rw [encs_length]; exact hrl
      clear hiN
      repeat' (first | (go_at_call 91; refine (T.rootF_calls (ids.length + 1) ids (Nat.lt_succ_self _) HI.out.2 (by have := HI.out.1; have := HAT.out.n; omega) _ _ (hM.gsl T.Fg.out)).mono ?_; rintro _ _ ⟨rfl, hbc⟩; replace hM := hM.call hbc; clear hbc) | ((((((with_reducible show wpList _ _ _ _ _ _); (refine T.w_o rfl ?_)))); (((with_reducible show T.OW _ ⟨_, .store _ _ _, _, _, _, _⟩ _ _ _ _); ((refine T.op_storeAll _ _ _ rfl _ rfl _ rfl _ _ hM (by (repeat (first | exact T.Sub.head _ | apply T.Sub.tail))) _ T.TN.out (by ((with_reducible assumption))) (by ((exact T.ones_encs _ _))) (by ((with_reducible assumption))) ?_; clear hM; intro wld hM))))); (try simp only [Act.put, List.setIfInBounds_toArray, List.set_cons_zero, List.set_cons_succ])) | (go_step) | ((fail_if_success (with_reducible show T.Seq _ _ _ _ _ _ _)); (fail_if_success (with_reducible show T.OW _ _ _ _ _ _)); simp only [Int.not_lt, Int.not_le] at *; go_simp))
      (refine T.ret_cell rfl rfl _ rfl _ _ hM T.Fd.out T.TU.out _ T.TN.out (by ((with_reducible assumption))) ?_)
      subst hP
      exact ⟨_, hrl, rfl, hM.below⟩
def T.toBA (acc : ByteArray) (bs : List Int) : ByteArray := bs.foldl (fun acc b => acc.push b.toNat.toUInt8) acc
theorem T.loadBytes_run {P : Program} (w : World) : ∀ (bs : List Int) (b o : Nat) (acc : ByteArray), w.rangeAt b o (T.u8s bs) → (Extern.Bytes.loadBytes ⟨b, o, none⟩ bs.length acc).run P w = .ok (T.toBA acc bs) w
  | [], _, _, _, _ => rfl
  | x :: bs, b, o, acc, h => by
    have h0 : w.cell? ⟨b, o, none⟩ = some (.int .u8 x) := h 0 _ rfl
    have h1 : w.rangeAt b (o + 1) (T.u8s bs) := fun j v hj => by
      have := h (j + 1) v (by simpa [T.u8s, encs] using hj)
      rwa [Nat.add_assoc, Nat.add_comm 1 j]
    have ih := T.loadBytes_run (P := P) w bs b (o + 1) (acc.push x.toNat.toUInt8) h1
    rw [List.length_cons, Extern.Bytes.loadBytes]
    simp only [Sem.run_bind, run_load, h0, Result.andThen_ok]
    exact ih
def T.bcmp (a b : List Int) : Int := Extern.BytealgCompare.cmp (T.toBA .empty a) (T.toBA .empty b)
theorem T.bytealg_run (a b : List Int) (b1 o1 c1 b2 o2 c2 : Nat) (w : World) (h1 : w.rangeAt b1 o1 (T.u8s a)) (h2 : w.rangeAt b2 o2 (T.u8s b)) :
    (callFunc 215 #[.slice (some ⟨b1, o1, none⟩) a.length c1, .slice (some ⟨b2, o2, none⟩) b.length c2]).run Tryz.prog w = .ok (.value (.int .i64 (T.bcmp a b))) w := by
  rw [run_callFunc_extern Tryz.func215 (by kernel_rfl) (by kernel_rfl) (by kernel_rfl) (e := Extern.BytealgCompare.compare) (by kernel_rfl)]
  have h : (Extern.BytealgCompare.compare #[.slice (some ⟨b1, o1, none⟩) a.length c1, .slice (some ⟨b2, o2, none⟩) b.length c2]).run Tryz.prog w = .ok (.int .i64 (T.bcmp a b)) w := by
    have e : Extern.BytealgCompare.compare #[.slice (some ⟨b1, o1, none⟩) a.length c1, .slice (some ⟨b2, o2, none⟩) b.length c2] = (Extern.Bytes.loadBytes ⟨b1, o1, none⟩ a.length .empty >>= fun x => Extern.Bytes.loadBytes ⟨b2, o2, none⟩ b.length .empty >>= fun y => pure (goInt (Extern.BytealgCompare.cmp x y))) := rfl
    rw [e]
    simp only [Sem.run_bind, T.loadBytes_run w a b1 o1 _ h1, T.loadBytes_run w b b2 o2 _ h2, Result.andThen_ok, Sem.run_pure]
    rfl
  rw [h]
  rfl
theorem T.bcmp_calls (a b : List Int) (b1 o1 c1 b2 o2 c2 : Nat) (n m : Nat) (hn : a.length = n) (hm : b.length = m) (w : World) (h1 : w.rangeAt b1 o1 (T.u8s a)) (h2 : w.rangeAt b2 o2 (T.u8s b)) :
    Calls Tryz.prog 203 #[.slice (some ⟨b1, o1, none⟩) n c1, .slice (some ⟨b2, o2, none⟩) m c2] w fun e w' => e = .returned (.int .i64 (T.bcmp a b)) ∧ w' = w := by
  subst hn
  subst hm
  have hc := T.bytealg_run a b b1 o1 c1 b2 o2 c2 w h1 h2
  clear h1 h2
  go_enter Tryz.func203, Tryz.ntmps203
  go_wp2
  go_ret
  exact ⟨rfl, rfl⟩
def T.icmp (x y : Int) : Int := if x < y then -1 else if y < x then 1 else 0
theorem T.isNaNI_calls (x : Int) (w : World) : Calls Tryz.prog 202 #[.int .i64 x] w fun e w' => e = .returned (.bool false) ∧ w' = w := by
  go_enter Tryz.func202, Tryz.ntmps202
  go_wp2
  go_ret
  exact ⟨rfl, rfl⟩
theorem T.icmp_calls (x y : Int) (w : World) : Calls Tryz.prog 204 #[.int .i64 x, .int .i64 y] w fun e w' => e = .returned (.int .i64 (T.icmp x y)) ∧ w' = w := by
  by_cases h1 : x < y
  · have d1 : decide (x < y) = true := decide_eq_true h1
    have hv : T.icmp x y = -1 := by unfold T.icmp; rw [if_pos h1]
    rw [hv]
    go_enter Tryz.func204, Tryz.ntmps204
    go_wp2_with (go_at_call 202; refine (T.isNaNI_calls _ _).mono ?_; rintro e w' ⟨rfl, rfl⟩)
    go_ret
    exact ⟨rfl, rfl⟩
  · have d1 : decide (x < y) = false := decide_eq_false h1
    by_cases h2 : y < x
    · have d2 : decide (y < x) = true := decide_eq_true h2
      have hv : T.icmp x y = 1 := by unfold T.icmp; rw [if_neg h1, if_pos h2]
      rw [hv]
      go_enter Tryz.func204, Tryz.ntmps204
      go_wp2_with (go_at_call 202; refine (T.isNaNI_calls _ _).mono ?_; rintro e w' ⟨rfl, rfl⟩)
      go_ret
      exact ⟨rfl, rfl⟩
    · have d2 : decide (y < x) = false := decide_eq_false h2
      have hv : T.icmp x y = 0 := by unfold T.icmp; rw [if_neg h1, if_neg h2]
      rw [hv]
      go_enter Tryz.func204, Tryz.ntmps204
      go_wp2_with (go_at_call 202; refine (T.isNaNI_calls _ _).mono ?_; rintro e w' ⟨rfl, rfl⟩)
      go_ret
      exact ⟨rfl, rfl⟩
theorem T.rangeM {w0 w : World} {F : Option Nat} {L : List T.Blk} {b o n : Nat} {t : TypeId} {cs vs : List Value} (hM : T.Mem w0 F w L) (hm : .b b t cs ∈ L) (hx : (cs.drop o).take n = vs) : w.rangeAt b o vs := by
  have := T.range_at (o := o) (n := n) hM hm
  rwa [hx] at this
theorem T.or2 {w0 w : World} {F : Option Nat} {L : List T.Blk} {b c : Nat} {t : TypeId} {x y : Int} (hM : T.Mem w0 F w L) (hm : .b b t [.int .i64 x, .int .i64 y] ∈ L) : Calls Tryz.prog 119 #[.slice (some ⟨b, 0, none⟩) 2 c] w (T.E (.int .i64 (T.or [x, y])) w) :=
  T.or_calls [x, y] b 0 c (Nat.le_of_ble_eq_true rfl) w (T.range_at (n := 2) hM hm)
def T.pord (a b : T.InV) : Int := T.or [T.bcmp a.tx b.tx, T.icmp a.i b.i]
theorem T.pord_calls (a b : T.InV) (ka : a.ok) (kb : b.ok) (w : World) : Calls Tryz.prog 179 #[.agg a.cells.toArray, .agg b.cells.toArray] w (T.E (.int .i64 (T.pord a b)) w) := by
  have hM := T.Mem.start w
  have hla := a.len ka
  have hlb := b.len kb
  have hai := a.i_at ka
  have hbi := b.i_at kb
  have HA := Aside0.mk (a.txs ka)
  have HB := Aside0.mk (b.txs kb)
  have hta : a.tx.length = 32 := ka
  have htb : b.tx.length = 32 := kb
  generalize hP : T.E (.int .i64 (T.pord a b)) w = Post
  go_enter Tryz.func179, Tryz.ntmps179
  repeat' (first | ((with_reducible show Code.wp _ (Code.region 1 _ true) _ _ _); refine T.mregion 1 (.p 0 (.p 1 (.p 2 (.p 3 (.p 5 (.t 6 (.p 7 (.t 8 (.a 4 (.a 9 (.a 10 (.a 11 (.p 12 .nil))))))))))))) 1000 (by kernel_rfl) (fun _ _ _ _ h => h) hM (List.Sublist.refl _) ?_; clear hM; intro wld hM) | (go_at_call 203; refine (T.bcmp_calls a.tx b.tx _ _ _ _ _ _ _ _ hta htb _ (T.rangeM hM T.Fd.out HA.out) (T.rangeM hM T.Fd.out HB.out)).mono ?_; rintro _ _ ⟨rfl, rfl⟩) | (go_at_call 204; refine (T.icmp_calls _ _ _).mono ?_; rintro _ _ ⟨rfl, rfl⟩) | (go_at_call 119; refine (T.or2 hM T.Fd.out).mono ?_; rintro _ _ ⟨rfl, hbc⟩; replace hM := hM.call hbc; clear hbc) | (((first | ((with_reducible show wpList _ _ _ _ _ _); (refine T.w_o rfl ?_)) | (with_reducible show T.OW _ _ _ _ _ _)); first | ((with_reducible show T.OW _ ⟨_, .box _ _, _, _, _, _⟩ _ _ _ _); refine T.op_box _ _ rfl _ rfl hM ?_; clear hM; intro blk wld hM hlt) | ((with_reducible show T.OW _ ⟨_, .buildSlice _ _ _, _, _, _, _⟩ _ _ _ _); refine T.op_buildSl _ _ _ rfl _ T.TL.out _ T.TN.out _ T.TZ.out rfl (by decide) (by decide) _ rfl (by (((simp [T.okp, Value.cells, Act.eval, *]; done)))) _ rfl hM ?_; (try simp only [List.map_toArray, List.map_cons, List.map_nil, Act.eval, Array.getD_eq_getD_getElem?, List.toList_toArray, List.getElem?_toArray, List.getElem?_cons_zero, List.getElem?_cons_succ, Option.getD_some, T.segs, List.replicate_succ, List.replicate_zero, List.set_cons_zero, List.set_cons_succ, Value.cells, List.flatten_cons, List.flatten_nil, List.append_nil, List.cons_append, List.nil_append]); clear hM; intro blk wld hM hlt)); (try simp only [Act.put, List.setIfInBounds_toArray, List.set_cons_zero, List.set_cons_succ])) | ((with_reducible show T.Seq _ _ _ _ _ _ _); first | ((with_reducible show T.Seq _ _ _ (.p _ _) _ _ _); ((apply T.sq_p rfl rfl; (focus intro wS; ((go_simp; with_reducible rfl))); (try simp only [Act.put, List.setIfInBounds_toArray, List.set_cons_zero, List.set_cons_succ])))) | ((with_reducible show T.Seq _ _ _ (.t _ _) _ _ _); ((apply T.sq_t rfl rfl; (focus intro wS hS; first | exact T.x_load rfl rfl T.Fd.out T.TS.out hai hS | exact T.x_load rfl rfl T.Fd.out T.TS.out hbi hS); (try simp only [Act.put, List.setIfInBounds_toArray, List.set_cons_zero, List.set_cons_succ])))) | ((with_reducible show T.Seq _ _ _ .nil _ _ _); refine T.sq_nil ?_) | ((with_reducible show T.Seq _ _ _ (.a _ _) _ _ _); refine T.sq_a rfl rfl (fun K hK => ?_))) | (go_at_K; refine hK.out _ _ _ hM (by (repeat (first | exact List.Sublist.refl _ | apply List.Sublist.cons))) ?_; clear hK K) | ((with_reducible show T.OW _ ⟨_, .call _, _, _, _, _⟩ _ _ _ _); refine T.OW.mk ?_; go_simp) | (go_step) | go_back | ((fail_if_success (with_reducible show T.Seq _ _ _ _ _ _ _)); (fail_if_success (with_reducible show T.OW _ _ _ _ _ _)); simp only [Int.not_lt, Int.not_le] at *; go_simp))
  subst hP
  exact ⟨rfl, hM.below⟩
end Go.Proofs.YtdklknfgcepcbaaGreat.X
