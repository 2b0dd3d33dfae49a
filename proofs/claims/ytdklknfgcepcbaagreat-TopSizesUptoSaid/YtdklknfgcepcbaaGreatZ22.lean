/- Texts of this proof, laid together by wip/tools/pack.py: TK2, TK3. -/
import Derived.Test.YtdklknfgcepcbaaGreatZ21
namespace Go.Proofs.YtdklknfgcepcbaaGreat.X
open Go.RowKit Go.Proofs.YtdklknfgcepcbaaGreatW.PrintWords Go.Proofs.YtdklknfgcepcbaaGreatW.PrintLast Go.Proofs.YtdklknfgcepcbaaGreatW.PrintMore
set_option linter.unusedSimpArgs false
set_option linter.unusedVariables false
set_option maxHeartbeats 2000000
set_option maxRecDepth 20000
structure T.CoinV where
  inp : T.InV
  out : T.OutV
def T.CoinV.cells (c : T.CoinV) : List Value := c.inp.cells ++ c.out.cells
def T.CoinV.ok (c : T.CoinV) : Prop := c.inp.ok
theorem T.CoinV.len (c : T.CoinV) (h : c.ok) : c.cells.length = 35 := by rw [T.CoinV.cells, List.length_append, c.inp.len h]; rfl
theorem T.CoinV.ones (c : T.CoinV) : ∀ v ∈ c.cells, v.oneCell' = true := T.ones_app c.inp.ones c.out.ones
theorem T.CoinV.ins (c : T.CoinV) (h : c.ok) : (c.cells.drop 0).take 33 = c.inp.cells := by
  rw [List.drop_zero, T.CoinV.cells, ← c.inp.len h]
  exact List.take_left
theorem T.pl1_calls (c : T.CoinV) (y : T.InV) (kc : c.ok) (ky : y.ok) (w : World) : Calls Tryz.prog 206 #[.agg c.cells.toArray, .agg y.cells.toArray] w (T.E (.int .i64 (T.pord c.inp y)) w) := by
  have hM := T.Mem.start w
  have hlc := c.len kc
  have hly := y.len ky
  have hci := c.ins kc
  have hli := c.inp.len kc
  generalize hP : T.E (.int .i64 (T.pord c.inp y)) w = Post
  go_enter Tryz.func206, Tryz.ntmps206
  repeat' (first | (go_at_call 179; refine (T.pord_calls _ _ kc ky _).mono ?_; rintro _ _ ⟨rfl, hbc⟩; replace hM := hM.call hbc; clear hbc) | ((((((with_reducible show wpList _ _ _ _ _ _); (refine T.w_o rfl ?_)))); first | ((with_reducible show T.OW _ ⟨_, .load _ _, _, _, _, _⟩ _ _ _ _); first | (refine T.ofx (T.x_loadAgg rfl rfl T.Fd.out T.TU.out T.TN.out (by ((omega))) hci hM) ?_) | (refine T.ofx (T.x_loadAll rfl rfl T.Fd.out T.TU.out T.TN.out (by ((with_reducible assumption))) hM) ?_)) | ((with_reducible show T.OW _ ⟨_, .box _ _, _, _, _, _⟩ _ _ _ _); refine T.op_box _ _ rfl _ rfl hM ?_; clear hM; intro blk wld hM hlt)); (try simp only [Act.put, List.setIfInBounds_toArray, List.set_cons_zero, List.set_cons_succ])) | (go_step) | go_back | ((fail_if_success (with_reducible show T.Seq _ _ _ _ _ _ _)); (fail_if_success (with_reducible show T.OW _ _ _ _ _ _)); simp only [Int.not_lt, Int.not_le] at *; go_simp))
  subst hP
  exact ⟨rfl, hM.below⟩
def T.WAt (n : Nat) (w : World) (e : Ending) (w' : World) : Prop := ∃ (i : Nat) (b : Bool), e = .returned (.tuple #[.int .i64 i, .bool b]) ∧ i ≤ n ∧ (b = true → i < n) ∧ Below w.heap.size w w'
theorem T.bsf_calls (l : List T.CoinV) (kl : ∀ x ∈ l, x.ok) (y : T.InV) (ky : y.ok) (hn : l.length ≤ 1000000) (v : Value) (w : World) (hS : T.Sl w v l.length (T.rc T.CoinV.cells l)) : Calls Tryz.prog 205 #[v, .agg y.cells.toArray, .func (.func 206) #[] #[]] w (T.WAt l.length w) := by
  have hM := T.Mem.start w
  obtain ⟨A, cc, hv, _, _, _⟩ := id hS
  rw [hv] at hS ⊢
  have HS := Aside0.mk hS
  have HN := Aside0.mk hn
  have HK := Aside0.mk kl
  have hyl := y.len ky
  clear hS hv hn kl
  generalize hP : T.WAt l.length w = Post
  go_enter Tryz.func205, Tryz.ntmps205
  repeat' (first | ((((((with_reducible show wpList _ _ _ _ _ _); (refine T.w_o rfl ?_)))); (((with_reducible show T.OW _ ⟨_, .box _ _, _, _, _, _⟩ _ _ _ _); refine T.op_box _ _ rfl _ rfl hM ?_; clear hM; intro blk wld hM hlt))); (try simp only [Act.put, List.setIfInBounds_toArray, List.set_cons_zero, List.set_cons_succ])) | (go_step))
  obtain ⟨bk, rfl⟩ := T.n1 hM
  go_loopg [9, 10] (l.length + 1) (fun kq v9 v10 Wd => ∃ i j : Nat, v9 = .int .i64 i ∧ v10 = .int .i64 j ∧ i ≤ j ∧ j ≤ l.length ∧ j - i < kq ∧ Aside0 (T.Mem w none Wd [.b bk 151 y.cells]))
  case atStart => exact ⟨0, l.length, rfl, rfl, by omega, by omega, by omega, ⟨hM⟩⟩
  case round =>
    clear hM
    obtain ⟨i, j, rfl, rfl, hij, hjn, hg, hMo⟩ := hrel
    have hM := hMo.out
    clear hMo
    by_cases hlt : i < j
    · have cb : decide ((i : Int) < (j : Int)) = true := decide_eq_true (by omega)
      have hib := HN.out
      obtain ⟨m, hm⟩ : ∃ m, m = (i + j) / 2 := ⟨_, rfl⟩
      have e1 : IntKind.i64.wrap ((i : Int) + (j : Int)) = (i : Int) + (j : Int) := T.w64 (by omega) (by omega)
      have e2 : IntKind.u64.wrap ((i : Int) + (j : Int)) = (i : Int) + (j : Int) := by rw [IntKind.wrap_u64]; omega
      have e3 : IntKind.i64.wrap (((i : Int) + (j : Int)) / 2) = (m : Int) := by rw [T.w64 (by omega) (by omega)]; omega
      have e4 : IntKind.i64.wrap ((m : Int) + 1) = ((m + 1 : Nat) : Int) := by rw [T.w64 (by omega) (by omega)]; omega
      have b0 : (0 : Int) ≤ (m : Int) := by omega
      have hml : m < l.length := by omega
      have b1 : (m : Int) < (l.length : Int) := by omega
      have HM := Aside0.mk (show i ≤ m ∧ m < j by omega)
      obtain ⟨b, o, rfl⟩ := HS.out.adr (by omega)
      have H1 := Aside0.mk (T.rc_at (enc := T.CoinV.cells) (k := 35) (fun x hx => x.len (HK.out x hx)) m hml)
      have kx : (l[m]).ok := HK.out _ (List.getElem_mem hml)
      generalize l[m] = x at *
      have hx2 : x.cells.length = 35 := x.len kx
      clear hm hib
      cases hd : decide (T.pord x.inp y < 0)
      · repeat' (first | ((with_reducible show Code.wp _ (Code.region 5 _ true) _ _ _); refine T.mregion 5 (.p 0 (.p 1 (.p 2 (.p 3 (.t 4 (.t 5 (.a 6 (.p 7 .nil)))))))) 1000 (by kernel_rfl) (fun _ _ _ _ h => h) hM (List.Sublist.refl _) ?_; clear hM; intro wld hM) | (go_at_call 206; refine (T.pl1_calls x y kx ky _).mono ?_; rintro _ _ ⟨rfl, hbc⟩; replace hM := hM.call hbc; clear hbc) | ((with_reducible show T.Seq _ _ _ _ _ _ _); first | ((with_reducible show T.Seq _ _ _ (.p _ _) _ _ _); ((apply T.sq_p rfl rfl; (focus intro wS; ((go_simp; with_reducible rfl))); (try simp only [Act.put, List.setIfInBounds_toArray, List.set_cons_zero, List.set_cons_succ])))) | ((with_reducible show T.Seq _ _ _ (.t _ _) _ _ _); ((apply T.sq_t rfl rfl; (focus intro wS hS; first | exact T.x_slRow rfl rfl (hS.slin HS.out) T.TU.out T.TN.out H1.out hx2 | exact T.x_loadAll rfl rfl T.Fd.out T.TU.out T.TN.out (by ((with_reducible assumption))) hS); (try simp only [Act.put, List.setIfInBounds_toArray, List.set_cons_zero, List.set_cons_succ])))) | ((with_reducible show T.Seq _ _ _ .nil _ _ _); refine T.sq_nil ?_) | ((with_reducible show T.Seq _ _ _ (.a _ _) _ _ _); refine T.sq_a rfl rfl (fun K hK => ?_))) | (go_at_K; refine hK.out _ _ _ hM (by (repeat ((exact List.Sublist.refl _)))) ?_; clear hK K) | ((with_reducible show T.OW _ ⟨_, .call _, _, _, _, _⟩ _ _ _ _); refine T.OW.mk ?_; go_simp) | (go_step) | ((fail_if_success (with_reducible show T.Seq _ _ _ _ _ _ _)); (fail_if_success (with_reducible show T.OW _ _ _ _ _ _)); simp only [Int.not_lt, Int.not_le] at *; go_simp))
        go_roundg (m - i + 1)
        case measure => have := HM.out; omega
        case rel => exact ⟨i, m, rfl, rfl, HM.out.1, by omega, by have := HM.out; omega, ⟨hM⟩⟩
      · repeat' (first | ((with_reducible show Code.wp _ (Code.region 5 _ true) _ _ _); refine T.mregion 5 (.p 0 (.p 1 (.p 2 (.p 3 (.t 4 (.t 5 (.a 6 (.p 7 .nil)))))))) 1000 (by kernel_rfl) (fun _ _ _ _ h => h) hM (List.Sublist.refl _) ?_; clear hM; intro wld hM) | (go_at_call 206; refine (T.pl1_calls x y kx ky _).mono ?_; rintro _ _ ⟨rfl, hbc⟩; replace hM := hM.call hbc; clear hbc) | ((with_reducible show T.Seq _ _ _ _ _ _ _); first | ((with_reducible show T.Seq _ _ _ (.p _ _) _ _ _); ((apply T.sq_p rfl rfl; (focus intro wS; ((go_simp; with_reducible rfl))); (try simp only [Act.put, List.setIfInBounds_toArray, List.set_cons_zero, List.set_cons_succ])))) | ((with_reducible show T.Seq _ _ _ (.t _ _) _ _ _); ((apply T.sq_t rfl rfl; (focus intro wS hS; first | exact T.x_slRow rfl rfl (hS.slin HS.out) T.TU.out T.TN.out H1.out hx2 | exact T.x_loadAll rfl rfl T.Fd.out T.TU.out T.TN.out (by ((with_reducible assumption))) hS); (try simp only [Act.put, List.setIfInBounds_toArray, List.set_cons_zero, List.set_cons_succ])))) | ((with_reducible show T.Seq _ _ _ .nil _ _ _); refine T.sq_nil ?_) | ((with_reducible show T.Seq _ _ _ (.a _ _) _ _ _); refine T.sq_a rfl rfl (fun K hK => ?_))) | (go_at_K; refine hK.out _ _ _ hM (by (repeat ((exact List.Sublist.refl _)))) ?_; clear hK K) | ((with_reducible show T.OW _ ⟨_, .call _, _, _, _, _⟩ _ _ _ _); refine T.OW.mk ?_; go_simp) | (go_step) | ((fail_if_success (with_reducible show T.Seq _ _ _ _ _ _ _)); (fail_if_success (with_reducible show T.OW _ _ _ _ _ _)); simp only [Int.not_lt, Int.not_le] at *; go_simp))
        go_roundg (j - (m + 1) + 1)
        case measure => have := HM.out; omega
        case rel => exact ⟨m + 1, j, by go_num, rfl, by have := HM.out; omega, hjn, by omega, ⟨hM⟩⟩
    · have cb : decide ((i : Int) < (j : Int)) = false := decide_eq_false (by omega)
      by_cases hin : i < l.length
      · have d1 : decide ((i : Int) < (l.length : Int)) = true := decide_eq_true (by omega)
        have b0 : (0 : Int) ≤ (i : Int) := by omega
        have b1 : (i : Int) < (l.length : Int) := by omega
        obtain ⟨b, o, rfl⟩ := HS.out.adr (by omega)
        have H1 := Aside0.mk (T.rc_at (enc := T.CoinV.cells) (k := 35) (fun x hx => x.len (HK.out x hx)) i hin)
        have kx : (l[i]).ok := HK.out _ (List.getElem_mem hin)
        generalize l[i] = x at *
        have hx2 : x.cells.length = 35 := x.len kx
        repeat' (first | ((with_reducible show Code.wp _ (Code.region 8 _ true) _ _ _); refine T.mregion 8 (.p 0 (.p 1 (.p 2 (.p 3 (.p 4 (.p 5 (.p 6 (.p 7 (.p 8 (.t 9 (.t 10 (.a 11 (.p 12 (.p 13 (.p 14 (.p 15 .nil)))))))))))))))) 1000 (by kernel_rfl) (fun _ _ _ _ h => h) hM (List.Sublist.refl _) ?_; clear hM; intro wld hM) | (go_at_call 206; refine (T.pl1_calls x y kx ky _).mono ?_; rintro _ _ ⟨rfl, hbc⟩; replace hM := hM.call hbc; clear hbc) | ((with_reducible show T.Seq _ _ _ (.a _ _) _ _ _); ((refine T.sq_ag rfl rfl (fun K hK => ?_)))) | ((with_reducible show T.Seq _ _ _ _ _ _ _); first | ((with_reducible show T.Seq _ _ _ (.p _ _) _ _ _); ((apply T.sq_p rfl rfl; (focus intro wS; ((go_simp; with_reducible rfl))); (try simp only [Act.put, List.setIfInBounds_toArray, List.set_cons_zero, List.set_cons_succ])))) | ((with_reducible show T.Seq _ _ _ (.t _ _) _ _ _); ((apply T.sq_t rfl rfl; (focus intro wS hS; first | exact T.x_slRow rfl rfl (hS.slin HS.out) T.TU.out T.TN.out H1.out hx2 | exact T.x_loadAll rfl rfl T.Fd.out T.TU.out T.TN.out (by ((with_reducible assumption))) hS); (try simp only [Act.put, List.setIfInBounds_toArray, List.set_cons_zero, List.set_cons_succ])))) | ((with_reducible show T.Seq _ _ _ .nil _ _ _); refine T.sq_nil ?_)) | (go_at_K; refine hK.out _ _ _ hM (by (repeat ((exact List.Sublist.refl _)))) ?_; clear hK K) | ((with_reducible show T.OW _ ⟨_, .call _, _, _, _, _⟩ _ _ _ _); refine T.OW.mk ?_; go_simp) | (go_step) | go_back | ((fail_if_success (with_reducible show T.Seq _ _ _ _ _ _ _)); (fail_if_success (with_reducible show T.OW _ _ _ _ _ _)); simp only [Int.not_lt, Int.not_le] at *; go_simp))
        subst hP
        exact ⟨i, _, rfl, by omega, fun _ => hin, hM.below⟩
      · have d1 : decide ((i : Int) < (l.length : Int)) = false := decide_eq_false (by omega)
        repeat' (first | ((with_reducible show Code.wp _ (Code.region 8 _ true) _ _ _); refine T.mregion 8 (.p 0 (.p 1 (.p 2 (.p 3 (.p 4 (.p 5 (.p 6 (.p 7 (.p 8 (.t 9 (.t 10 (.a 11 (.p 12 (.p 13 (.p 14 (.p 15 .nil)))))))))))))))) 1000 (by kernel_rfl) (fun _ _ _ _ h => h) hM (List.Sublist.refl _) ?_; clear hM; intro wld hM) | ((with_reducible show T.Seq _ _ _ (.a _ _) _ _ _); ((refine T.sq_as rfl rfl hM ?_; (try simp only [Act.put, List.setIfInBounds_toArray, List.set_cons_zero, List.set_cons_succ])))) | ((with_reducible show T.Seq _ _ _ _ _ _ _); first | ((with_reducible show T.Seq _ _ _ (.p _ _) _ _ _); first | (apply T.sq_p rfl rfl; (focus intro wS; ((go_simp; with_reducible rfl))); (try simp only [Act.put, List.setIfInBounds_toArray, List.set_cons_zero, List.set_cons_succ])) | (refine T.sq_pskip rfl rfl ?_; (try simp only [Act.put, List.setIfInBounds_toArray, List.set_cons_zero, List.set_cons_succ]))) | ((with_reducible show T.Seq _ _ _ (.t _ _) _ _ _); ((refine T.sq_skip rfl rfl ?_; (try simp only [Act.put, List.setIfInBounds_toArray, List.set_cons_zero, List.set_cons_succ])))) | ((with_reducible show T.Seq _ _ _ .nil _ _ _); refine T.sq_nil ?_)) | (go_step) | go_back)
        subst hP
        exact ⟨i, _, rfl, by omega, fun h => (by cases h), hM.below⟩
theorem T.place_calls (l : List T.CoinV) (kl : ∀ x ∈ l, x.ok) (y : T.InV) (ky : y.ok) (hn : l.length ≤ 1000000) (v : Value) (w : World) (hS : T.Sl w v l.length (T.rc T.CoinV.cells l)) : Calls Tryz.prog 181 #[v, .agg y.cells.toArray] w (T.WAt l.length w) := by
  have hM := T.Mem.start w
  have hyl := y.len ky
  have HS := Aside0.mk hS
  clear hS
  generalize hP : T.WAt l.length w = Post
  go_enter Tryz.func181, Tryz.ntmps181
  repeat' (first | (go_at_call 205; refine (T.bsf_calls l kl y ky hn _ _ (hM.slin HS.out)).mono ?_; rintro _ _ ⟨ri, rb, rfl, hri, hrb, hbc⟩; replace hM := hM.call hbc; clear hbc) | ((((((with_reducible show wpList _ _ _ _ _ _); (refine T.w_o rfl ?_)))); first | ((with_reducible show T.OW _ ⟨_, .load _ _, _, _, _, _⟩ _ _ _ _); ((refine T.ofx (T.x_loadAll rfl rfl T.Fd.out T.TU.out T.TN.out (by ((with_reducible assumption))) hM) ?_))) | ((with_reducible show T.OW _ ⟨_, .box _ _, _, _, _, _⟩ _ _ _ _); refine T.op_box _ _ rfl _ rfl hM ?_; clear hM; intro blk wld hM hlt)); (try simp only [Act.put, List.setIfInBounds_toArray, List.set_cons_zero, List.set_cons_succ])) | (go_step) | go_back | ((fail_if_success (with_reducible show T.Seq _ _ _ _ _ _ _)); (fail_if_success (with_reducible show T.OW _ _ _ _ _ _)); simp only [Int.not_lt, Int.not_le] at *; go_simp))
  subst hP
  exact ⟨ri, rb, rfl, hri, hrb, hM.below⟩
theorem T.outv_calls (x : T.OutV) (w : World) : Calls Tryz.prog 191 #[.agg x.cells.toArray] w (T.E (.int .i64 x.v) w) := by
  have hM := T.Mem.start w
  generalize hP : T.E (.int .i64 x.v) w = Post
  have hx2 : x.cells.length = 2 := rfl
  go_enter Tryz.func191, Tryz.ntmps191
  repeat' (first | ((((((with_reducible show wpList _ _ _ _ _ _); (refine T.w_o rfl ?_)))); first | ((with_reducible show T.OW _ ⟨_, .load _ _, _, _, _, _⟩ _ _ _ _); ((refine T.ofx (T.x_load rfl rfl T.Fd.out T.TS.out rfl hM) ?_))) | ((with_reducible show T.OW _ ⟨_, .box _ _, _, _, _, _⟩ _ _ _ _); refine T.op_box _ _ rfl _ rfl hM ?_; clear hM; intro blk wld hM hlt)); (try simp only [Act.put, List.setIfInBounds_toArray, List.set_cons_zero, List.set_cons_succ])) | (go_step) | go_back)
  subst hP
  exact ⟨rfl, hM.below⟩
theorem T.worth_calls (l : List T.OutV) (hn : l.length ≤ 1000000) (v : Value) (w : World) (hS : T.Sl w v l.length (T.rc T.OutV.cells l)) : Calls Tryz.prog 190 #[v, .func (.func 191) #[] #[]] w (T.WI w) := by
  have hM := T.Mem.start w
  obtain ⟨A, cc, hv, _, _, _⟩ := id hS
  rw [hv] at hS ⊢
  have HS := Aside0.mk hS
  have HN := Aside0.mk hn
  clear hS hv hn
  generalize hP : T.WI w = Post
  go_enter Tryz.func190, Tryz.ntmps190
  repeat' (((go_step)))
  go_loopg [5, 10] (l.length + 1) (fun kq v5 v10 Wd => ∃ (i : Nat) (s : Int), v5 = .int .i64 s ∧ v10 = .int .i64 i ∧ i ≤ l.length ∧ l.length - i < kq ∧ Aside0 (T.Mem w none Wd []))
  case atStart => exact ⟨0, 0, rfl, rfl, by omega, by omega, ⟨hM⟩⟩
  case round =>
    clear hM
    obtain ⟨i, s, rfl, rfl, hi, hg, hMo⟩ := hrel
    have hM := hMo.out
    clear hMo
    by_cases hlt : i < l.length
    · have hltz : (i : Int) < (l.length : Int) := by omega
      have cb : decide ((i : Int) < (l.length : Int)) = true := decide_eq_true hltz
      have hi0 : (0 : Int) ≤ (i : Int) := by omega
      obtain ⟨b, o, rfl⟩ := HS.out.adr (by omega)
      have H1 := Aside0.mk (T.rc_at (enc := T.OutV.cells) (k := 2) (fun _ _ => rfl) i hlt)
      generalize l[i] = x at *
      have hx2 : x.cells.length = 2 := rfl
      have hxo := x.ones
      repeat' (first | (go_at_call 191; refine (T.outv_calls _ _).mono ?_; rintro _ _ ⟨rfl, hbc⟩; replace hM := hM.call hbc; clear hbc) | ((((((with_reducible show wpList _ _ _ _ _ _); (refine T.w_o rfl ?_)))); first | ((with_reducible show T.OW _ ⟨_, .load _ _, _, _, _, _⟩ _ _ _ _); first | (refine T.ofx (T.x_slRow rfl rfl (hM.slin HS.out) T.TU.out T.TN.out H1.out hx2) ?_) | (refine T.ofx (T.x_loadAll rfl rfl T.Fd.out T.TU.out T.TN.out (by ((with_reducible assumption))) hM) ?_)) | ((with_reducible show T.OW _ ⟨_, .store _ _ _, _, _, _, _⟩ _ _ _ _); ((refine T.op_storeAll _ _ _ rfl _ rfl _ rfl _ _ hM (by (repeat ((exact T.Sub.head _)))) _ T.TN.out (by ((with_reducible assumption))) (by ((with_reducible assumption))) (by ((rfl))) ?_; clear hM; intro wld hM))) | ((with_reducible show T.OW _ ⟨_, .alloc _, _, _, _, _⟩ _ _ _ _); refine T.op_alloc _ rfl _ T.TZ.out hM ?_; clear hM; intro blk wld hM hlt)); (try simp only [Act.put, List.setIfInBounds_toArray, List.set_cons_zero, List.set_cons_succ])) | (go_step) | ((fail_if_success (with_reducible show T.Seq _ _ _ _ _ _ _)); (fail_if_success (with_reducible show T.OW _ _ _ _ _ _)); simp only [Int.not_lt, Int.not_le] at *; go_simp))
      have hib : l.length ≤ 1000000 := HN.out
      go_roundg (l.length - i)
      case measure => omega
      case rel => exact ⟨i + 1, _, rfl, congrArg (Value.int .i64) (by unfold wrap64; omega), by omega, by omega, ⟨hM.drop (by (repeat (first | exact List.Sublist.refl _ | apply List.Sublist.cons)))⟩⟩
    · have hiN : i = l.length := by omega
      have hltz : ¬ (i : Int) < (l.length : Int) := by omega
      have cb : decide ((i : Int) < (l.length : Int)) = false := decide_eq_false hltz
      repeat' (first | (go_step) | go_back | ((fail_if_success (with_reducible show T.Seq _ _ _ _ _ _ _)); (fail_if_success (with_reducible show T.OW _ _ _ _ _ _)); simp only [Int.not_lt, Int.not_le] at *; go_simp))
      subst hP
      exact ⟨_, rfl, hM.below⟩
theorem T.outs_calls (t : T.TxV) (w : World) (h : t.At w) : Calls Tryz.prog 156 #[.agg t.cells.toArray] w (T.WI w) := by
  have hM := T.Mem.start w
  have HAT := Aside0.mk h
  clear h
  obtain ⟨iv, ov, ins, outs⟩ := t
  generalize hP : T.WI w = Post
  go_enter Tryz.func156, Tryz.ntmps156
  repeat' (first | (go_at_call 190; refine (T.worth_calls _ HAT.out.no _ _ (hM.slin HAT.out.so)).mono ?_; rintro _ _ ⟨jj, rfl, hbc⟩; replace hM := hM.call hbc; clear hbc) | ((((((with_reducible show wpList _ _ _ _ _ _); (refine T.w_o rfl ?_)))); first | ((with_reducible show T.OW _ ⟨_, .load _ _, _, _, _, _⟩ _ _ _ _); ((refine T.ofx (T.x_load rfl rfl T.Fd.out T.TS.out rfl hM) ?_))) | ((with_reducible show T.OW _ ⟨_, .box _ _, _, _, _, _⟩ _ _ _ _); refine T.op_box _ _ rfl _ rfl hM ?_; clear hM; intro blk wld hM hlt)); (try simp only [Act.put, List.setIfInBounds_toArray, List.set_cons_zero, List.set_cons_succ])) | (go_step) | go_back | ((fail_if_success (with_reducible show T.Seq _ _ _ _ _ _ _)); (fail_if_success (with_reducible show T.OW _ _ _ _ _ _)); simp only [Int.not_lt, Int.not_le] at *; go_simp))
  subst hP
  exact ⟨_, rfl, hM.below⟩
theorem T.CoinV.i_at (c : T.CoinV) (h : c.ok) : c.cells[32]? = some (.int .i64 c.inp.i) := by
  rw [T.CoinV.cells, List.getElem?_append_left (by rw [c.inp.len h]; decide)]
  exact c.inp.i_at h
theorem T.CoinV.v_at (c : T.CoinV) (h : c.ok) : c.cells[33]? = some (.int .i64 c.out.v) := by
  rw [T.CoinV.cells, List.getElem?_append_right (by rw [c.inp.len h]; decide), c.inp.len h]
  rfl
theorem T.CoinV.u_at (c : T.CoinV) (h : c.ok) : c.cells[34]? = some (.int .i64 c.out.u) := by
  rw [T.CoinV.cells, List.getElem?_append_right (by rw [c.inp.len h]; decide), c.inp.len h]
  rfl
theorem T.first6 (a b c d e f : Bool) : a = true ∨ (a = false ∧ b = true) ∨ (a = false ∧ b = false ∧ c = true) ∨ (a = false ∧ b = false ∧ c = false ∧ d = true) ∨ (a = false ∧ b = false ∧ c = false ∧ d = false ∧ e = true) ∨ (a = false ∧ b = false ∧ c = false ∧ d = false ∧ e = false ∧ f = true) ∨ (a = false ∧ b = false ∧ c = false ∧ d = false ∧ e = false ∧ f = false) := by
  cases a <;> cases b <;> cases c <;> cases d <;> cases e <;> cases f <;> simp
theorem T.pmay_calls (l : List T.CoinV) (kl : ∀ x ∈ l, x.ok) (hn : l.length ≤ 1000000) (v : Value) (w : World) (hS : T.Sl w v l.length (T.rc T.CoinV.cells l)) : Calls Tryz.prog 152 #[v] w (T.WB w) := by
  have hM := T.Mem.start w
  obtain ⟨A, cc, hv, _, _, _⟩ := id hS
  rw [hv] at hS ⊢
  have HS := Aside0.mk hS
  have HN := Aside0.mk hn
  have HK := Aside0.mk kl
  clear hS hv hn kl
  generalize hP : T.WB w = Post
  go_enter Tryz.func152, Tryz.ntmps152
  repeat' (((go_step)))
  go_loopg [7] (l.length + 1) (fun kq v7 Wd => ∃ i : Nat, v7 = .int .i64 i ∧ i ≤ l.length ∧ l.length - i < kq ∧ Aside0 (T.Mem w none Wd []))
  case atStart => exact ⟨0, rfl, by omega, by omega, ⟨hM⟩⟩
  case round =>
    clear hM
    obtain ⟨i, rfl, hi, hg, hMo⟩ := hrel
    have hM := hMo.out
    clear hMo
    by_cases hlt : i < l.length
    · have hltz : (i : Int) < (l.length : Int) := by omega
      have cb : decide ((i : Int) < (l.length : Int)) = true := decide_eq_true hltz
      have hi0 : (0 : Int) ≤ (i : Int) := by omega
      obtain ⟨b, o, rfl⟩ := HS.out.adr (by omega)
      have H1 := Aside0.mk (T.rc_at (enc := T.CoinV.cells) (k := 35) (fun x hx => x.len (HK.out x hx)) i hlt)
      have kx : (l[i]).ok := HK.out _ (List.getElem_mem hlt)
      have H2 := Aside0.mk (T.rc_at (enc := T.CoinV.cells) (k := 35) (fun x hx => x.len (HK.out x hx)) (i - 1) (by omega))
      have ky : (l[i - 1]).ok := HK.out _ (List.getElem_mem (by omega))
      generalize l[i] = x at *
      generalize l[i - 1] = y at *
      have hx2 : x.cells.length = 35 := x.len kx
      have hxo := x.ones
      have hz35 : ((T.u8s T.z32 ++ [Value.int .i64 0]) ++ [Value.int .i64 0, Value.int .i64 0]).length = 35 := by simp [encs_length, T.z32]
      have c1 := x.i_at kx
      have c2 := x.v_at kx
      have c3 := x.u_at kx
      have c4 := x.ins kx
      have c5 := x.inp.len kx
      have HY := Aside0.mk (show ((T.rc T.CoinV.cells l).drop ((i - 1) * 35)).take 33 = y.inp.cells by
        have := congrArg (List.take 33) H2.out
        rw [List.take_take] at this
        rw [show (33 : Nat) = min 33 35 by rfl, this]
        exact (by rw [← List.drop_zero (l := y.cells)]; exact y.ins ky))
      have hy2 : y.inp.cells.length = 33 := y.inp.len ky
      have e1 : IntKind.i64.wrap ((i : Int) - 1) = (i : Int) - 1 := T.w64 (by omega) (by have := HN.out; omega)
      rcases T.first6 (decide (x.inp.i < 0)) (decide (3 ≤ x.inp.i)) (decide (x.out.v < 1)) (decide (1099511627776 < x.out.v)) (decide (x.out.u < 0)) (decide (255 < x.out.u)) with d1 | ⟨d1, d2⟩ | ⟨d1, d2, d3⟩ | ⟨d1, d2, d3, d4⟩ | ⟨d1, d2, d3, d4, d5⟩ | ⟨d1, d2, d3, d4, d5, d6⟩ | ⟨d1, d2, d3, d4, d5, d6⟩
      rotate_right
      · by_cases h0 : 0 < i
        · have b0 : decide (0 < (i : Int)) = true := decide_eq_true (by omega)
          have b0' : decide (0 < i) = true := decide_eq_true h0
          obtain ⟨q, hq⟩ : ∃ q : Nat, (i : Int) - 1 = (q : Int) := ⟨i - 1, by omega⟩
          have e2 : IntKind.i64.wrap ((i : Int) - 1) = (q : Int) := by rw [e1]; exact hq
          have HQ := Aside0.mk (show i - 1 = q by omega)
          rw [HQ.out] at HY
          have q0 : (0 : Int) ≤ (q : Int) := by omega
          have q1 : (q : Int) < (l.length : Int) := by omega
          clear hq e1
          cases d8 : decide (0 ≤ T.pord y.inp x.inp)
          · repeat' (first | ((with_reducible show Code.wp _ (Code.region 6 _ true) _ _ _); refine T.mregion 6 (.p 0 (.p 1 (.p 2 (.p 3 (.p 4 (.p 5 (.p 6 (.p 7 (.t 8 (.p 9 (.t 10 (.a 11 (.p 12 (.p 13 .nil)))))))))))))) 1000 (by kernel_rfl) (fun _ _ _ _ h => h) hM (List.Sublist.refl _) ?_; clear hM; intro wld hM) | (go_at_call 179; refine (T.pord_calls _ _ ky kx _).mono ?_; rintro _ _ ⟨rfl, hbc⟩; replace hM := hM.call hbc; clear hbc) | ((with_reducible show T.Seq _ _ _ (.a _ _) _ _ _); ((refine T.sq_ag rfl rfl (fun K hK => ?_)))) | (((first | ((with_reducible show wpList _ _ _ _ _ _); first | refine T.w_o rfl ?_ | ((with_reducible show wpList _ _ _ (⟨_, _, _, _, _, some _⟩ :: _) _ _); refine T.w_g rfl ?_)) | (with_reducible show T.OW _ _ _ _ _ _)); first | ((with_reducible show T.OW _ ⟨_, .load _ _, _, _, _, _⟩ _ _ _ _); first | (refine T.ofx (T.x_load rfl rfl T.Fd.out T.TS.out c1 hM) ?_) | (refine T.ofx (T.x_load rfl rfl T.Fd.out T.TS.out c2 hM) ?_) | (refine T.ofx (T.x_load rfl rfl T.Fd.out T.TS.out c3 hM) ?_) | (refine T.ofx (T.x_slRow rfl rfl (hM.slin HS.out) T.TU.out T.TN.out H1.out hx2) ?_)) | ((with_reducible show T.OW _ ⟨_, .store _ _ _, _, _, _, _⟩ _ _ _ _); ((refine T.op_storeAll _ _ _ rfl _ rfl _ rfl _ _ hM (by (repeat ((exact T.Sub.head _)))) _ T.TN.out (by ((with_reducible assumption))) (by ((with_reducible assumption))) (by ((with_reducible assumption))) ?_; clear hM; intro wld hM))) | ((with_reducible show T.OW _ ⟨_, .alloc _, _, _, _, _⟩ _ _ _ _); refine T.op_alloc _ rfl _ T.TZ.out hM ?_; clear hM; intro blk wld hM hlt)); (try simp only [Act.put, List.setIfInBounds_toArray, List.set_cons_zero, List.set_cons_succ])) | ((with_reducible show T.Seq _ _ _ _ _ _ _); first | ((with_reducible show T.Seq _ _ _ (.p _ _) _ _ _); ((apply T.sq_p rfl rfl; (focus intro wS; ((go_simp; with_reducible rfl))); (try simp only [Act.put, List.setIfInBounds_toArray, List.set_cons_zero, List.set_cons_succ])))) | ((with_reducible show T.Seq _ _ _ (.t _ _) _ _ _); ((apply T.sq_t rfl rfl; (focus intro wS hS; first | exact T.x_slRow rfl rfl (hS.slin HS.out) T.TU.out T.TN.out HY.out hy2 | exact T.x_loadAgg rfl rfl T.Fd.out T.TU.out T.TN.out (by ((omega))) c4 hS); (try simp only [Act.put, List.setIfInBounds_toArray, List.set_cons_zero, List.set_cons_succ])))) | ((with_reducible show T.Seq _ _ _ .nil _ _ _); refine T.sq_nil ?_)) | (go_at_K; refine hK.out _ _ _ hM (by (repeat ((exact List.Sublist.refl _)))) ?_; clear hK K) | ((with_reducible show T.OW _ ⟨_, .call _, _, _, _, _⟩ _ _ _ _); refine T.OW.mk ?_; go_simp) | go_guarded | (go_step) | ((fail_if_success (with_reducible show T.Seq _ _ _ _ _ _ _)); (fail_if_success (with_reducible show T.OW _ _ _ _ _ _)); simp only [Int.not_lt, Int.not_le] at *; go_simp))
            have hib : l.length ≤ 1000000 := HN.out
            go_roundg (l.length - i)
            case measure => omega
            case rel => exact ⟨i + 1, congrArg (Value.int .i64) (by unfold wrap64; omega), by omega, by omega, ⟨hM.drop (by (repeat (first | exact List.Sublist.refl _ | apply List.Sublist.cons)))⟩⟩
          · repeat' (first | ((with_reducible show Code.wp _ (Code.region 6 _ true) _ _ _); refine T.mregion 6 (.p 0 (.p 1 (.p 2 (.p 3 (.p 4 (.p 5 (.p 6 (.p 7 (.t 8 (.p 9 (.t 10 (.a 11 (.p 12 (.p 13 .nil)))))))))))))) 1000 (by kernel_rfl) (fun _ _ _ _ h => h) hM (List.Sublist.refl _) ?_; clear hM; intro wld hM) | (go_at_call 179; refine (T.pord_calls _ _ ky kx _).mono ?_; rintro _ _ ⟨rfl, hbc⟩; replace hM := hM.call hbc; clear hbc) | ((with_reducible show T.Seq _ _ _ (.a _ _) _ _ _); ((refine T.sq_ag rfl rfl (fun K hK => ?_)))) | (((first | ((with_reducible show wpList _ _ _ _ _ _); first | refine T.w_o rfl ?_ | ((with_reducible show wpList _ _ _ (⟨_, _, _, _, _, some _⟩ :: _) _ _); refine T.w_g rfl ?_)) | (with_reducible show T.OW _ _ _ _ _ _)); first | ((with_reducible show T.OW _ ⟨_, .load _ _, _, _, _, _⟩ _ _ _ _); first | (refine T.ofx (T.x_load rfl rfl T.Fd.out T.TS.out c1 hM) ?_) | (refine T.ofx (T.x_load rfl rfl T.Fd.out T.TS.out c2 hM) ?_) | (refine T.ofx (T.x_load rfl rfl T.Fd.out T.TS.out c3 hM) ?_) | (refine T.ofx (T.x_slRow rfl rfl (hM.slin HS.out) T.TU.out T.TN.out H1.out hx2) ?_)) | ((with_reducible show T.OW _ ⟨_, .store _ _ _, _, _, _, _⟩ _ _ _ _); ((refine T.op_storeAll _ _ _ rfl _ rfl _ rfl _ _ hM (by (repeat ((exact T.Sub.head _)))) _ T.TN.out (by ((with_reducible assumption))) (by ((with_reducible assumption))) (by ((with_reducible assumption))) ?_; clear hM; intro wld hM))) | ((with_reducible show T.OW _ ⟨_, .alloc _, _, _, _, _⟩ _ _ _ _); refine T.op_alloc _ rfl _ T.TZ.out hM ?_; clear hM; intro blk wld hM hlt)); (try simp only [Act.put, List.setIfInBounds_toArray, List.set_cons_zero, List.set_cons_succ])) | ((with_reducible show T.Seq _ _ _ _ _ _ _); first | ((with_reducible show T.Seq _ _ _ (.p _ _) _ _ _); ((apply T.sq_p rfl rfl; (focus intro wS; ((go_simp; with_reducible rfl))); (try simp only [Act.put, List.setIfInBounds_toArray, List.set_cons_zero, List.set_cons_succ])))) | ((with_reducible show T.Seq _ _ _ (.t _ _) _ _ _); ((apply T.sq_t rfl rfl; (focus intro wS hS; first | exact T.x_slRow rfl rfl (hS.slin HS.out) T.TU.out T.TN.out HY.out hy2 | exact T.x_loadAgg rfl rfl T.Fd.out T.TU.out T.TN.out (by ((omega))) c4 hS); (try simp only [Act.put, List.setIfInBounds_toArray, List.set_cons_zero, List.set_cons_succ])))) | ((with_reducible show T.Seq _ _ _ .nil _ _ _); refine T.sq_nil ?_)) | (go_at_K; refine hK.out _ _ _ hM (by (repeat ((exact List.Sublist.refl _)))) ?_; clear hK K) | ((with_reducible show T.OW _ ⟨_, .call _, _, _, _, _⟩ _ _ _ _); refine T.OW.mk ?_; go_simp) | go_guarded | (go_step) | go_back | ((fail_if_success (with_reducible show T.Seq _ _ _ _ _ _ _)); (fail_if_success (with_reducible show T.OW _ _ _ _ _ _)); simp only [Int.not_lt, Int.not_le] at *; go_simp))
            subst hP
            exact ⟨_, rfl, hM.below⟩
        · have b0 : decide (0 < (i : Int)) = false := decide_eq_false (by omega)
          have b0' : decide (0 < i) = false := decide_eq_false h0
          repeat' (first | ((with_reducible show Code.wp _ (Code.region 6 _ true) _ _ _); refine T.mregion 6 (.p 0 (.p 1 (.p 2 (.p 3 (.p 4 (.p 5 (.p 6 (.p 7 (.t 8 (.p 9 (.t 10 (.a 11 (.p 12 (.p 13 .nil)))))))))))))) 1000 (by kernel_rfl) (fun _ _ _ _ h => h) hM (List.Sublist.refl _) ?_; clear hM; intro wld hM) | ((with_reducible show T.Seq _ _ _ (.a _ _) _ _ _); ((refine T.sq_as rfl rfl hM ?_; (try simp only [Act.put, List.setIfInBounds_toArray, List.set_cons_zero, List.set_cons_succ])))) | ((((((with_reducible show wpList _ _ _ _ _ _); first | refine T.w_o rfl ?_ | ((with_reducible show wpList _ _ _ (⟨_, _, _, _, _, some _⟩ :: _) _ _); refine T.w_g rfl ?_)))); first | ((with_reducible show T.OW _ ⟨_, .load _ _, _, _, _, _⟩ _ _ _ _); first | (refine T.ofx (T.x_load rfl rfl T.Fd.out T.TS.out c1 hM) ?_) | (refine T.ofx (T.x_load rfl rfl T.Fd.out T.TS.out c2 hM) ?_) | (refine T.ofx (T.x_load rfl rfl T.Fd.out T.TS.out c3 hM) ?_) | (refine T.ofx (T.x_slRow rfl rfl (hM.slin HS.out) T.TU.out T.TN.out H1.out hx2) ?_)) | ((with_reducible show T.OW _ ⟨_, .store _ _ _, _, _, _, _⟩ _ _ _ _); ((refine T.op_storeAll _ _ _ rfl _ rfl _ rfl _ _ hM (by (repeat ((exact T.Sub.head _)))) _ T.TN.out (by ((with_reducible assumption))) (by ((with_reducible assumption))) (by ((with_reducible assumption))) ?_; clear hM; intro wld hM))) | ((with_reducible show T.OW _ ⟨_, .alloc _, _, _, _, _⟩ _ _ _ _); refine T.op_alloc _ rfl _ T.TZ.out hM ?_; clear hM; intro blk wld hM hlt)); (try simp only [Act.put, List.setIfInBounds_toArray, List.set_cons_zero, List.set_cons_succ])) | ((with_reducible show T.Seq _ _ _ _ _ _ _); first | ((with_reducible show T.Seq _ _ _ (.p _ _) _ _ _); first | (apply T.sq_p rfl rfl; (focus intro wS; ((go_simp; with_reducible rfl))); (try simp only [Act.put, List.setIfInBounds_toArray, List.set_cons_zero, List.set_cons_succ])) | (refine T.sq_pskip rfl rfl ?_; (try simp only [Act.put, List.setIfInBounds_toArray, List.set_cons_zero, List.set_cons_succ]))) | ((with_reducible show T.Seq _ _ _ (.t _ _) _ _ _); ((refine T.sq_skip rfl rfl ?_; (try simp only [Act.put, List.setIfInBounds_toArray, List.set_cons_zero, List.set_cons_succ])))) | ((with_reducible show T.Seq _ _ _ .nil _ _ _); refine T.sq_nil ?_)) | go_guarded | (go_step))
          have hib : l.length ≤ 1000000 := HN.out
          go_roundg (l.length - i)
          case measure => omega
          case rel =>
            refine ⟨i + 1, ?_, by omega, by omega, ⟨hM.drop (by (repeat (first | exact List.Sublist.refl _ | apply List.Sublist.cons)))⟩⟩
            (go_num)
      all_goals repeat' (first | ((((((with_reducible show wpList _ _ _ _ _ _); first | refine T.w_o rfl ?_ | ((with_reducible show wpList _ _ _ (⟨_, _, _, _, _, some _⟩ :: _) _ _); refine T.w_g rfl ?_)))); first | ((with_reducible show T.OW _ ⟨_, .load _ _, _, _, _, _⟩ _ _ _ _); first | (refine T.ofx (T.x_load rfl rfl T.Fd.out T.TS.out c1 hM) ?_) | (refine T.ofx (T.x_load rfl rfl T.Fd.out T.TS.out c2 hM) ?_) | (refine T.ofx (T.x_load rfl rfl T.Fd.out T.TS.out c3 hM) ?_) | (refine T.ofx (T.x_slRow rfl rfl (hM.slin HS.out) T.TU.out T.TN.out H1.out hx2) ?_)) | ((with_reducible show T.OW _ ⟨_, .store _ _ _, _, _, _, _⟩ _ _ _ _); ((refine T.op_storeAll _ _ _ rfl _ rfl _ rfl _ _ hM (by (repeat ((exact T.Sub.head _)))) _ T.TN.out (by ((with_reducible assumption))) (by ((with_reducible assumption))) (by ((with_reducible assumption))) ?_; clear hM; intro wld hM))) | ((with_reducible show T.OW _ ⟨_, .alloc _, _, _, _, _⟩ _ _ _ _); refine T.op_alloc _ rfl _ T.TZ.out hM ?_; clear hM; intro blk wld hM hlt)); (try simp only [Act.put, List.setIfInBounds_toArray, List.set_cons_zero, List.set_cons_succ])) | go_guarded | (go_step) | go_back)
      all_goals subst hP
      all_goals exact ⟨_, rfl, hM.below⟩
    · have hiN : i = l.length := by omega
      have hltz : ¬ (i : Int) < (l.length : Int) := by omega
      have cb : decide ((i : Int) < (l.length : Int)) = false := decide_eq_false hltz
      repeat' (first | (go_step) | go_back | ((fail_if_success (with_reducible show T.Seq _ _ _ _ _ _ _)); (fail_if_success (with_reducible show T.OW _ _ _ _ _ _)); simp only [Int.not_lt, Int.not_le] at *; go_simp))
      subst hP
      exact ⟨_, rfl, hM.below⟩
end Go.Proofs.YtdklknfgcepcbaaGreat.X
