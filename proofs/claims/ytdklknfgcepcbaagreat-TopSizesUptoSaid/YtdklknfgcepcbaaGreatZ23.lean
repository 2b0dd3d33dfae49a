/- Texts of this proof, laid together by wip/tools/pack.py: TE1, TE2, TG2. -/
import Derived.Test.YtdklknfgcepcbaaGreatZ14
import Derived.Test.YtdklknfgcepcbaaGreatZ11
import Derived.Test.YtdklknfgcepcbaaGreatZ12
namespace Go.Proofs.YtdklknfgcepcbaaGreat.X
open Go.RowKit Go.Proofs.YtdklknfgcepcbaaGreatW.PrintWords Go.Proofs.YtdklknfgcepcbaaGreatW.PrintLast Go.Proofs.YtdklknfgcepcbaaGreatW.PrintMore
set_option linter.unusedSimpArgs false
set_option linter.unusedVariables false
set_option maxHeartbeats 2000000
set_option maxRecDepth 20000
def T.tE (b : Int) : Int := b / 16777216
def T.tM (b : Int) : Int := Go.bits .and .u32 b 16777215
def T.tOk (b : Int) : Bool := !(decide (T.tE b < 3) || decide (32 < T.tE b) || decide (T.tM b < 32768) || decide (8388608 ≤ T.tM b))
def T.target (b : Int) : List Int := if T.tOk b then T.up [T.tM b, 0, 0, 0] (8 * (T.tE b - 3)) else [0, 0, 0, 0]
theorem T.target_len (b : Int) : (T.target b).length = 4 := by
  unfold T.target
  split
  · exact T.up_len _ _ rfl
  · rfl
theorem T.tM_range (b : Int) : 0 ≤ T.tM b ∧ T.tM b < 18446744073709551616 := by
  unfold T.tM Go.bits
  simp only [IntKind.wrap_u32]
  omega
theorem T.target_R (b : Int) : T.R64 (T.target b) := by
  unfold T.target
  split
  · refine T.up_R _ _ fun i => ?_
    match i with
    | 0 => exact T.tM_range b
    | 1 => exact ⟨Int.le_refl _, by show (0 : Int) < 18446744073709551616; decide⟩
    | 2 => exact ⟨Int.le_refl _, by show (0 : Int) < 18446744073709551616; decide⟩
    | 3 => exact ⟨Int.le_refl _, by show (0 : Int) < 18446744073709551616; decide⟩
    | i + 4 => exact ⟨Int.le_refl _, by show (0 : Int) < 18446744073709551616; decide⟩
  · exact T.R64_zero
theorem T.target_calls (b : Int) (h0 : 0 ≤ b) (h1 : b < 4294967296) (w : World) :
    Calls Tryz.prog 39 #[.int .u32 b] w (T.E (.tuple #[.agg (T.u64s (T.target b)).toArray, .bool (T.tOk b)]) w) := by
  have hM := T.Mem.start w
  have em : IntKind.u64.wrap (Go.bits .and .u32 b 16777215) = Go.bits .and .u32 b 16777215 := by
    have := T.tM_range b
    unfold T.tM at this
    rw [IntKind.wrap_u64]
    omega
  have ee : IntKind.i64.wrap (b / 16777216) = b / 16777216 := T.w64 (by omega) (by omega)
  have ee2 : IntKind.i64.wrap (b / 16777216 - 3) = b / 16777216 - 3 := T.w64 (by omega) (by omega)
  have ee3 : IntKind.i64.wrap (8 * (b / 16777216 - 3)) = 8 * (b / 16777216 - 3) := T.w64 (by omega) (by omega)
  generalize hP : T.E (.tuple #[.agg (T.u64s (T.target b)).toArray, .bool (T.tOk b)]) w = Post
  clear h0 h1
  have fin : ∀ t o, T.target b = t → T.tOk b = o → ∀ w', Below w.heap.size w w' → Post (.returned (.tuple #[.agg (T.u64s t).toArray, .bool o])) w' := fun t o ht ho w' hw => by
    rw [← hP, ← ht, ← ho]
    exact ⟨rfl, hw⟩
  have FIN := Aside0.mk fin
  clear fin hP
  have no : T.tOk b = false → T.target b = [0, 0, 0, 0] := fun h => by rw [T.target, if_neg (by rw [h]; simp)]
  have NO := Aside0.mk no
  clear no
  by_cases c1 : b / 16777216 < 3
  · have d1 : decide (b / 16777216 < 3) = true := decide_eq_true c1
    have hk : T.tOk b = false := by unfold T.tOk T.tE; rw [d1]; rfl
    go_enter Tryz.func39, Tryz.ntmps39
    repeat' (first | ((((((with_reducible show wpList _ _ _ _ _ _); (refine T.w_o rfl ?_)))); first | ((with_reducible show T.OW _ ⟨_, .store _ _ _, _, _, _, _⟩ _ _ _ _); ((refine T.op_storeAll _ _ _ rfl _ rfl _ rfl _ _ hM (by (repeat ((exact T.Sub.head _)))) _ T.TN.out (by ((rfl))) (by ((exact T.ones_encs _ _))) (by ((rfl))) ?_; clear hM; intro wld hM))) | ((with_reducible show T.OW _ ⟨_, .alloc _, _, _, _, _⟩ _ _ _ _); refine T.op_alloc _ rfl _ T.TZ.out hM ?_; clear hM; intro blk wld hM hlt) | ((with_reducible show T.OW _ ⟨_, .build _ _, _, _, _, _⟩ _ _ _ _); ((refine T.ofx (T.x_buildA0 rfl T.TA.out T.TN.out T.TZ.out) ?_)))); (try simp only [Act.put, List.setIfInBounds_toArray, List.set_cons_zero, List.set_cons_succ])) | go_skip | (go_step))
    (refine T.ret_ct rfl rfl _ rfl _ rfl _ _ hM T.Fd.out T.TU.out _ T.TN.out (by ((rfl))) ?_)
    exact FIN.out _ _ (NO.out hk) hk _ hM.below
  have d1 : decide (b / 16777216 < 3) = false := decide_eq_false c1
  by_cases c2 : 32 < b / 16777216
  · have d2 : decide (32 < b / 16777216) = true := decide_eq_true c2
    have hk : T.tOk b = false := by unfold T.tOk T.tE; rw [d1, d2]; rfl
    go_enter Tryz.func39, Tryz.ntmps39
    repeat' (first | ((((((with_reducible show wpList _ _ _ _ _ _); (refine T.w_o rfl ?_)))); first | ((with_reducible show T.OW _ ⟨_, .store _ _ _, _, _, _, _⟩ _ _ _ _); ((refine T.op_storeAll _ _ _ rfl _ rfl _ rfl _ _ hM (by (repeat ((exact T.Sub.head _)))) _ T.TN.out (by ((rfl))) (by ((exact T.ones_encs _ _))) (by ((rfl))) ?_; clear hM; intro wld hM))) | ((with_reducible show T.OW _ ⟨_, .alloc _, _, _, _, _⟩ _ _ _ _); refine T.op_alloc _ rfl _ T.TZ.out hM ?_; clear hM; intro blk wld hM hlt) | ((with_reducible show T.OW _ ⟨_, .build _ _, _, _, _, _⟩ _ _ _ _); ((refine T.ofx (T.x_buildA0 rfl T.TA.out T.TN.out T.TZ.out) ?_)))); (try simp only [Act.put, List.setIfInBounds_toArray, List.set_cons_zero, List.set_cons_succ])) | go_skip | go_guarded | (go_step) | ((fail_if_success (with_reducible show T.Seq _ _ _ _ _ _ _)); (fail_if_success (with_reducible show T.OW _ _ _ _ _ _)); simp only [Int.not_lt, Int.not_le] at *; go_simp))
    (refine T.ret_ct rfl rfl _ rfl _ rfl _ _ hM T.Fd.out T.TU.out _ T.TN.out (by ((rfl))) ?_)
    exact FIN.out _ _ (NO.out hk) hk _ hM.below
  have d2 : decide (32 < b / 16777216) = false := decide_eq_false c2
  by_cases c3 : Go.bits .and .u32 b 16777215 < 32768
  · have d3 : decide (Go.bits .and .u32 b 16777215 < 32768) = true := decide_eq_true c3
    have hk : T.tOk b = false := by unfold T.tOk T.tE T.tM; rw [d1, d2, d3]; rfl
    go_enter Tryz.func39, Tryz.ntmps39
    repeat' (first | ((((((with_reducible show wpList _ _ _ _ _ _); (refine T.w_o rfl ?_)))); first | ((with_reducible show T.OW _ ⟨_, .store _ _ _, _, _, _, _⟩ _ _ _ _); ((refine T.op_storeAll _ _ _ rfl _ rfl _ rfl _ _ hM (by (repeat ((exact T.Sub.head _)))) _ T.TN.out (by ((rfl))) (by ((exact T.ones_encs _ _))) (by ((rfl))) ?_; clear hM; intro wld hM))) | ((with_reducible show T.OW _ ⟨_, .alloc _, _, _, _, _⟩ _ _ _ _); refine T.op_alloc _ rfl _ T.TZ.out hM ?_; clear hM; intro blk wld hM hlt) | ((with_reducible show T.OW _ ⟨_, .build _ _, _, _, _, _⟩ _ _ _ _); ((refine T.ofx (T.x_buildA0 rfl T.TA.out T.TN.out T.TZ.out) ?_)))); (try simp only [Act.put, List.setIfInBounds_toArray, List.set_cons_zero, List.set_cons_succ])) | go_skip | go_guarded | (go_step) | ((fail_if_success (with_reducible show T.Seq _ _ _ _ _ _ _)); (fail_if_success (with_reducible show T.OW _ _ _ _ _ _)); simp only [Int.not_lt, Int.not_le] at *; go_simp))
    (refine T.ret_ct rfl rfl _ rfl _ rfl _ _ hM T.Fd.out T.TU.out _ T.TN.out (by ((rfl))) ?_)
    exact FIN.out _ _ (NO.out hk) hk _ hM.below
  have d3 : decide (Go.bits .and .u32 b 16777215 < 32768) = false := decide_eq_false c3
  by_cases c4 : 8388608 ≤ Go.bits .and .u32 b 16777215
  · have d4 : decide (8388608 ≤ Go.bits .and .u32 b 16777215) = true := decide_eq_true c4
    have hk : T.tOk b = false := by unfold T.tOk T.tE T.tM; rw [d1, d2, d3, d4]; rfl
    go_enter Tryz.func39, Tryz.ntmps39
    repeat' (first | ((((((with_reducible show wpList _ _ _ _ _ _); (refine T.w_o rfl ?_)))); first | ((with_reducible show T.OW _ ⟨_, .store _ _ _, _, _, _, _⟩ _ _ _ _); ((refine T.op_storeAll _ _ _ rfl _ rfl _ rfl _ _ hM (by (repeat ((exact T.Sub.head _)))) _ T.TN.out (by ((rfl))) (by ((exact T.ones_encs _ _))) (by ((rfl))) ?_; clear hM; intro wld hM))) | ((with_reducible show T.OW _ ⟨_, .alloc _, _, _, _, _⟩ _ _ _ _); refine T.op_alloc _ rfl _ T.TZ.out hM ?_; clear hM; intro blk wld hM hlt) | ((with_reducible show T.OW _ ⟨_, .build _ _, _, _, _, _⟩ _ _ _ _); ((refine T.ofx (T.x_buildA0 rfl T.TA.out T.TN.out T.TZ.out) ?_)))); (try simp only [Act.put, List.setIfInBounds_toArray, List.set_cons_zero, List.set_cons_succ])) | go_guarded | (go_step) | ((fail_if_success (with_reducible show T.Seq _ _ _ _ _ _ _)); (fail_if_success (with_reducible show T.OW _ _ _ _ _ _)); simp only [Int.not_lt, Int.not_le] at *; go_simp))
    (refine T.ret_ct rfl rfl _ rfl _ rfl _ _ hM T.Fd.out T.TU.out _ T.TN.out (by ((rfl))) ?_)
    exact FIN.out _ _ (NO.out hk) hk _ hM.below
  have d4 : decide (8388608 ≤ Go.bits .and .u32 b 16777215) = false := decide_eq_false c4
  have hk : T.tOk b = true := by unfold T.tOk T.tE T.tM; rw [d1, d2, d3, d4]; rfl
  have hu := T.up_len [Go.bits .and .u32 b 16777215, 0, 0, 0] (8 * (b / 16777216 - 3)) rfl
  go_enter Tryz.func39, Tryz.ntmps39
  repeat' (first | (go_at_call 68; refine (T.wof_calls _ _).mono ?_; rintro _ _ ⟨rfl, hbc⟩; replace hM := hM.call hbc; clear hbc) | (go_at_call 67; refine (T.up_calls _ rfl _ _).mono ?_; rintro _ _ ⟨rfl, hbc⟩; replace hM := hM.call hbc; clear hbc) | ((((((with_reducible show wpList _ _ _ _ _ _); (refine T.w_o rfl ?_)))); first | ((with_reducible show T.OW _ ⟨_, .store _ _ _, _, _, _, _⟩ _ _ _ _); ((refine T.op_storeAll _ _ _ rfl _ rfl _ rfl _ _ hM (by (repeat ((exact T.Sub.head _)))) _ T.TN.out (by (((rw [encs_length]; with_reducible assumption)))) (by ((exact T.ones_encs _ _))) (by ((rfl))) ?_; clear hM; intro wld hM))) | ((with_reducible show T.OW _ ⟨_, .alloc _, _, _, _, _⟩ _ _ _ _); refine T.op_alloc _ rfl _ T.TZ.out hM ?_; clear hM; intro blk wld hM hlt)); (try simp only [Act.put, List.setIfInBounds_toArray, List.set_cons_zero, List.set_cons_succ])) | go_guarded | (go_step) | ((fail_if_success (with_reducible show T.Seq _ _ _ _ _ _ _)); (fail_if_success (with_reducible show T.OW _ _ _ _ _ _)); simp only [Int.not_lt, Int.not_le] at *; go_simp))
  (refine T.ret_ct rfl rfl _ rfl _ rfl _ _ hM T.Fd.out T.TU.out _ T.TN.out (by (((rw [encs_length]; with_reducible assumption)))) ?_)
  exact FIN.out _ _ (by rw [T.target, if_pos hk]; rfl) hk _ hM.below
def T.not64 (x : Int) : Int := Go.bits .xor .u64 (if IntKind.u64.signed = true then -1 else IntKind.u64.max) x
def T.work (t : List Int) : List Int :=
  if (T.wadd t [1, 0, 0, 0]).2 then (T.wadd (T.div [T.not64 (T.gi t 0), T.not64 (T.gi t 1), T.not64 (T.gi t 2), T.not64 (T.gi t 3)] (T.wadd t [1, 0, 0, 0]).1).1 [1, 0, 0, 0]).1 else [1, 0, 0, 0]
theorem T.R64_one : T.R64 [1, 0, 0, 0] := fun i => by
  match i with
  | 0 => exact ⟨by decide, by show (1 : Int) < 18446744073709551616; decide⟩
  | 1 => exact ⟨Int.le_refl _, by show (0 : Int) < 18446744073709551616; decide⟩
  | 2 => exact ⟨Int.le_refl _, by show (0 : Int) < 18446744073709551616; decide⟩
  | 3 => exact ⟨Int.le_refl _, by show (0 : Int) < 18446744073709551616; decide⟩
  | i + 4 => exact ⟨Int.le_refl _, by show (0 : Int) < 18446744073709551616; decide⟩
theorem T.R64_nots (x y z u : Int) : T.R64 [T.not64 x, T.not64 y, T.not64 z, T.not64 u] := fun i => by
  match i with
  | 0 =>
    show 0 ≤ T.not64 x ∧ T.not64 x < 18446744073709551616
    unfold T.not64
    exact T.bits_R _ _ _
  | 1 =>
    show 0 ≤ T.not64 y ∧ T.not64 y < 18446744073709551616
    unfold T.not64
    exact T.bits_R _ _ _
  | 2 =>
    show 0 ≤ T.not64 z ∧ T.not64 z < 18446744073709551616
    unfold T.not64
    exact T.bits_R _ _ _
  | 3 =>
    show 0 ≤ T.not64 u ∧ T.not64 u < 18446744073709551616
    unfold T.not64
    exact T.bits_R _ _ _
  | i + 4 => exact ⟨Int.le_refl _, by show (0 : Int) < 18446744073709551616; decide⟩
theorem T.work_len (t : List Int) : (T.work t).length = 4 := by
  unfold T.work
  split
  · exact T.wadd_len _ _ (T.div_len _ _ rfl).1
  · rfl
theorem T.work_R (t : List Int) : T.R64 (T.work t) := by
  unfold T.work
  split
  · exact T.wadd_R _ _ (T.div_R _ _ (T.R64_nots _ _ _ _))
  · exact T.R64_one
theorem T.work_calls (t : List Int) (ht : t.length = 4) (hr : T.R64 t) (w : World) :
    Calls Tryz.prog 136 #[.agg (T.u64s t).toArray] w (T.E (.agg (T.u64s (T.work t)).toArray) w) := by
  have hM := T.Mem.start w
  have HR := Aside0.mk hr
  clear hr
  generalize hP : T.E (.agg (T.u64s (T.work t)).toArray) w = Post
  have hl := T.wadd_len t [1, 0, 0, 0] ht
  have hR1 := Aside0.mk (T.wadd_R t [1, 0, 0, 0] HR.out)
  cases hc : (T.wadd t [1, 0, 0, 0]).2 with
  | false =>
    go_enter Tryz.func136, Tryz.ntmps136
    repeat' (first | ((with_reducible show Code.wp _ (Code.region 1 _ true) _ _ _); refine T.mregion 1 (.t 0 (.f 1 6 (.f 2 6 (.p 3 (.p 4 (.p 5 (.a 6 (.z 7 (.p 8 .nil)))))) (.a 2 (.p 3 (.p 4 (.p 5 (.z 7 (.p 8 .nil))))))) (.a 1 (.a 2 (.p 3 (.p 4 (.p 5 (.z 7 (.p 8 .nil))))))))) 7 (by kernel_rfl) (fun _ _ _ _ h => h) hM (List.Sublist.refl _) ?_; clear hM; intro wld hM) | (go_at_call 68; refine (T.wof_calls _ _).mono ?_; rintro _ _ ⟨rfl, hbc⟩; replace hM := hM.call hbc; clear hbc) | (go_at_call 134; refine (T.wadd_calls _ _ (by with_reducible assumption) rfl HR.out T.R64_one _).mono ?_; rintro _ _ ⟨rfl, hbc⟩; replace hM := hM.call hbc; clear hbc) | (((first | ((with_reducible show wpList _ _ _ _ _ _); (refine T.w_o rfl ?_)) | (with_reducible show T.OW _ _ _ _ _ _)); first | ((with_reducible show T.OW _ ⟨_, .store _ _ _, _, _, _, _⟩ _ _ _ _); ((refine T.op_storeAll _ _ _ rfl _ rfl _ rfl _ _ hM (by (repeat (first | exact T.Sub.head _ | apply T.Sub.tail))) _ T.TN.out (by (first | (rw [encs_length]; with_reducible assumption) | rfl)) (by ((exact T.ones_encs _ _))) (by ((rfl))) ?_; clear hM; intro wld hM))) | ((with_reducible show T.OW _ ⟨_, .alloc _, _, _, _, _⟩ _ _ _ _); refine T.op_alloc _ rfl _ T.TZ.out hM ?_; clear hM; intro blk wld hM hlt) | ((with_reducible show T.OW _ ⟨_, .box _ _, _, _, _, _⟩ _ _ _ _); refine T.op_box _ _ rfl _ rfl hM ?_; clear hM; intro blk wld hM hlt)); (try simp only [Act.put, List.setIfInBounds_toArray, List.set_cons_zero, List.set_cons_succ])) | ((with_reducible show T.Seq _ _ _ _ _ _ _); first | ((with_reducible show T.Seq _ _ _ (.p _ _) _ _ _); ((apply T.sq_p rfl rfl; (focus intro wS; ((go_simp; with_reducible rfl))); (try simp only [Act.put, List.setIfInBounds_toArray, List.set_cons_zero, List.set_cons_succ])))) | ((with_reducible show T.Seq _ _ _ (.t _ _) _ _ _); ((apply T.sq_t rfl rfl; (focus intro wS hS; (exact T.x_loadAll rfl rfl T.Fd.out T.TU.out T.TN.out (by (((rw [encs_length]; with_reducible assumption)))) hS)); (try simp only [Act.put, List.setIfInBounds_toArray, List.set_cons_zero, List.set_cons_succ])))) | ((with_reducible show T.Seq _ _ _ .nil _ _ _); refine T.sq_nil ?_) | ((with_reducible show T.Seq _ _ _ (.f _ _ _ _) _ _ _); refine T.sq_f ?_ ?_) | ((with_reducible show T.Seq _ _ _ (.a _ _) _ _ _); refine T.sq_a rfl rfl (fun K hK => ?_)) | ((with_reducible show T.Seq _ _ _ (.z _ _) _ _ _); refine T.sq_z rfl rfl (fun K hK => ?_))) | (go_at_K; refine hK.out _ _ _ hM (by (repeat (first | exact List.Sublist.refl _ | apply List.Sublist.cons))) ?_; clear hK K) | (go_at_K; refine hK.out _ _ _ hM ?_; clear hK K) | ((with_reducible show T.OW _ ⟨_, .call _, _, _, _, _⟩ _ _ _ _); refine T.OW.mk ?_; go_simp) | (go_step) | ((fail_if_success (with_reducible show T.Seq _ _ _ _ _ _ _)); (fail_if_success (with_reducible show T.OW _ _ _ _ _ _)); simp only [Int.not_lt, Int.not_le] at *; go_simp))
    all_goals
      (refine T.ret_cell rfl rfl _ rfl _ _ hM T.Fd.out T.TU.out _ T.TN.out (by ((rfl))) ?_)
      subst hP
      exact ⟨by rw [T.work, if_neg (by rw [hc]; simp)], hM.below⟩
  | true =>
    have hd := (T.div_len [T.not64 (T.gi t 0), T.not64 (T.gi t 1), T.not64 (T.gi t 2), T.not64 (T.gi t 3)] (T.wadd t [1, 0, 0, 0]).1 rfl).1
    have hd2 := (T.div_len [T.not64 (T.gi t 0), T.not64 (T.gi t 1), T.not64 (T.gi t 2), T.not64 (T.gi t 3)] (T.wadd t [1, 0, 0, 0]).1 rfl).2
    have hdr := Aside0.mk (T.div_R [T.not64 (T.gi t 0), T.not64 (T.gi t 1), T.not64 (T.gi t 2), T.not64 (T.gi t 3)] (T.wadd t [1, 0, 0, 0]).1 (T.R64_nots _ _ _ _))
    have hw := T.wadd_len (T.div [T.not64 (T.gi t 0), T.not64 (T.gi t 1), T.not64 (T.gi t 2), T.not64 (T.gi t 3)] (T.wadd t [1, 0, 0, 0]).1).1 [1, 0, 0, 0] hd
    go_enter Tryz.func136, Tryz.ntmps136
    repeat' (first | ((with_reducible show Code.wp _ (Code.region 1 _ true) _ _ _); refine T.mregion 1 (.t 0 (.f 1 6 (.f 2 6 (.p 3 (.p 4 (.p 5 (.a 6 (.z 7 (.p 8 .nil)))))) (.a 2 (.p 3 (.p 4 (.p 5 (.z 7 (.p 8 .nil))))))) (.a 1 (.a 2 (.p 3 (.p 4 (.p 5 (.z 7 (.p 8 .nil))))))))) 7 (by kernel_rfl) (fun _ _ _ _ h => h) hM (List.Sublist.refl _) ?_; clear hM; intro wld hM) | ((with_reducible show Code.wp _ (Code.region 6 _ true) _ _ _); refine T.mregion 6 (.t 0 (.a 1 (.a 2 (.p 3 (.p 4 (.p 5 (.z 6 .nil))))))) 6 (by kernel_rfl) (fun _ _ _ _ h => h) hM (List.Sublist.refl _) ?_; clear hM; intro wld hM) | (go_at_call 68; refine (T.wof_calls _ _).mono ?_; rintro _ _ ⟨rfl, hbc⟩; replace hM := hM.call hbc; clear hbc) | (go_at_call 134; refine (T.wadd_calls _ _ (by with_reducible assumption) rfl (by first | exact HR.out | exact hdr.out) T.R64_one _).mono ?_; rintro _ _ ⟨rfl, hbc⟩; replace hM := hM.call hbc; clear hbc) | (go_at_call 165; refine (T.div_calls [T.not64 _, T.not64 _, T.not64 _, T.not64 _] _ rfl (by with_reducible assumption) (T.R64_nots _ _ _ _) hR1.out _).mono ?_; rintro _ _ ⟨rfl, hbc⟩; replace hM := hM.call hbc; clear hbc) | (((first | ((with_reducible show wpList _ _ _ _ _ _); (refine T.w_o rfl ?_)) | (with_reducible show T.OW _ _ _ _ _ _)); first | ((with_reducible show T.OW _ ⟨_, .load _ _, _, _, _, _⟩ _ _ _ _); first | (refine T.ofx (T.x_loadInt rfl rfl T.Fd.out T.TS.out (by ((omega))) hM) ?_) | (refine T.ofx (T.x_loadAll rfl rfl T.Fd.out T.TU.out T.TN.out (by (first | (rw [encs_length]; with_reducible assumption) | rfl)) hM) ?_)) | ((with_reducible show T.OW _ ⟨_, .store _ _ _, _, _, _, _⟩ _ _ _ _); ((refine T.op_storeAll _ _ _ rfl _ rfl _ rfl _ _ hM (by (repeat (first | exact T.Sub.head _ | apply T.Sub.tail))) _ T.TN.out (by (first | (rw [encs_length]; with_reducible assumption) | rfl)) (by (first | exact T.ones_encs _ _ | exact T.ones_all rfl)) (by (first | (rw [encs_length]; with_reducible assumption) | rfl)) ?_; clear hM; intro wld hM))) | ((with_reducible show T.OW _ ⟨_, .alloc _, _, _, _, _⟩ _ _ _ _); refine T.op_alloc _ rfl _ T.TZ.out hM ?_; clear hM; intro blk wld hM hlt) | ((with_reducible show T.OW _ ⟨_, .box _ _, _, _, _, _⟩ _ _ _ _); refine T.op_box _ _ rfl _ rfl hM ?_; clear hM; intro blk wld hM hlt)); (try simp only [Act.put, List.setIfInBounds_toArray, List.set_cons_zero, List.set_cons_succ])) | ((with_reducible show T.Seq _ _ _ _ _ _ _); first | ((with_reducible show T.Seq _ _ _ (.p _ _) _ _ _); ((apply T.sq_p rfl rfl; (focus intro wS; ((go_simp; with_reducible rfl))); (try simp only [Act.put, List.setIfInBounds_toArray, List.set_cons_zero, List.set_cons_succ])))) | ((with_reducible show T.Seq _ _ _ (.t _ _) _ _ _); ((apply T.sq_t rfl rfl; (focus intro wS hS; (exact T.x_loadAll rfl rfl T.Fd.out T.TU.out T.TN.out (by (((rw [encs_length]; with_reducible assumption)))) hS)); (try simp only [Act.put, List.setIfInBounds_toArray, List.set_cons_zero, List.set_cons_succ])))) | ((with_reducible show T.Seq _ _ _ .nil _ _ _); refine T.sq_nil ?_) | ((with_reducible show T.Seq _ _ _ (.f _ _ _ _) _ _ _); refine T.sq_f ?_ ?_) | ((with_reducible show T.Seq _ _ _ (.a _ _) _ _ _); refine T.sq_a rfl rfl (fun K hK => ?_)) | ((with_reducible show T.Seq _ _ _ (.z _ _) _ _ _); refine T.sq_z rfl rfl (fun K hK => ?_))) | (go_at_K; refine hK.out _ _ _ hM (by (repeat (first | exact List.Sublist.refl _ | apply List.Sublist.cons))) ?_; clear hK K) | (go_at_K; refine hK.out _ _ _ hM ?_; clear hK K) | ((with_reducible show T.OW _ ⟨_, .call _, _, _, _, _⟩ _ _ _ _); refine T.OW.mk ?_; go_simp) | (go_step) | ((fail_if_success (with_reducible show T.Seq _ _ _ _ _ _ _)); (fail_if_success (with_reducible show T.OW _ _ _ _ _ _)); simp only [Int.not_lt, Int.not_le] at *; go_simp))
    all_goals
      trace_state
      (refine T.ret_cell rfl rfl _ rfl _ _ hM T.Fd.out T.TU.out _ T.TN.out (by (((rw [encs_length]; with_reducible assumption)))) ?_)
      subst hP
      exact ⟨by rw [T.work, if_pos hc], hM.below⟩
attribute [irreducible] T.work T.target T.tOk
def T.srch (p : Int → Bool) : Nat → Int → Int → Int
  | 0, i, _ => i
  | f + 1, i, j => if i < j then (if p ((i + j) / 2) then T.srch p f i ((i + j) / 2) else T.srch p f ((i + j) / 2 + 1) j) else i
def T.search (p : Int → Bool) (n : Int) : Int := T.srch p 64 0 n
theorem T.search_calls (g : Nat) (lb : Array Value) (p : Int → Bool) (R : World → Prop) (hR : ∀ w w', R w → Below w.heap.size w w' → R w')
    (hf : ∀ k w, R w → Calls Tryz.prog g (#[.int .i64 k] ++ lb) w (T.E (.bool (p k)) w)) (eg : ∀ args w, (callFunc g args).run Tryz.prog w = .ok (.enter g args) w) (n : Int) (hn : n ≤ 1000) (hn0 : 0 ≤ n) (w : World) (hw : R w) :
    Calls Tryz.prog 73 #[.int .i64 n, .func (.func g) #[] lb] w (T.E (.int .i64 (T.search p n)) w) := by
  have hM := T.Mem.start w
  have HF := Aside0.mk hf
  have HR := Aside0.mk hR
  clear hf hR
  generalize hP : T.E (.int .i64 (T.search p n)) w = Post
  go_enter Tryz.func73, Tryz.ntmps73
  repeat' (((go_step)))
  go_loopg [5, 6] 1002 (fun kq v5 v6 Wd => ∃ (f : Nat) (i j : Int), v5 = .int .i64 i ∧ v6 = .int .i64 j ∧ 0 ≤ i ∧ i ≤ j ∧ j ≤ n ∧ j - i < kq ∧ Aside0 (j - i < 2 ^ f ∧ T.srch p f i j = T.search p n) ∧ Aside0 (T.Mem w none Wd []) ∧ Aside0 (R Wd))
  case atStart => exact ⟨64, 0, n, rfl, rfl, by omega, by omega, by omega, by omega, ⟨by omega, rfl⟩, ⟨hM⟩, ⟨HR.out _ _ hw hM.below⟩⟩
  case round =>
    clear hM
    obtain ⟨f, i, j, rfl, rfl, hi, hij, hjn, hg, hso, hMo, hRo⟩ := hrel
    have hM := hMo.out
    clear hMo
    by_cases hlt : i < j
    · have cb : decide (i < j) = true := decide_eq_true hlt
      obtain ⟨f, rfl⟩ : ∃ f', f = f' + 1 := by
        cases f with
        | zero => have := hso.out.1; omega
        | succ f => exact ⟨f, rfl⟩
      have e1 : IntKind.i64.wrap (i + j) = i + j := T.w64 (by omega) (by omega)
      have e2 : IntKind.u64.wrap (i + j) = i + j := by rw [IntKind.wrap_u64]; omega
      have e3 : IntKind.i64.wrap ((i + j) / 2) = (i + j) / 2 := T.w64 (by omega) (by omega)
      have e4 : IntKind.i64.wrap ((i + j) / 2 + 1) = (i + j) / 2 + 1 := T.w64 (by omega) (by omega)
      have b1 : i ≤ (i + j) / 2 := by omega
      have b2 : (i + j) / 2 < j := by omega
      have hso2 := hso.out
      rw [T.srch, if_pos hlt] at hso2
      have hso3 := Aside0.mk hso2
      clear hso2 hso
      cases hp : p ((i + j) / 2) with
      | true =>
        repeat' (first | (refine (HF.out _ _ hRo.out).mono ?_; rintro _ _ ⟨rfl, hbc⟩; replace hM := hM.call hbc; replace hRo := Aside0.mk (HR.out _ _ hRo.out hbc); clear hbc) | (go_step) | ((fail_if_success (with_reducible show T.Seq _ _ _ _ _ _ _)); (fail_if_success (with_reducible show T.OW _ _ _ _ _ _)); simp only [Int.not_lt, Int.not_le] at *; go_simp))
        go_roundg ((i + j) / 2 - i + 1).toNat
        case measure => omega
        case rel =>
          refine ⟨f, i, (i + j) / 2, rfl, rfl, by omega, by omega, by omega, by omega, ⟨?_, ?_⟩, ⟨hM⟩, hRo⟩
          · have := hso3.out.1
            rw [Int.pow_succ] at this
            omega
          · have := hso3.out.2
            rwa [if_pos hp] at this
      | false =>
        repeat' (first | (refine (HF.out _ _ hRo.out).mono ?_; rintro _ _ ⟨rfl, hbc⟩; replace hM := hM.call hbc; replace hRo := Aside0.mk (HR.out _ _ hRo.out hbc); clear hbc) | (go_step) | ((fail_if_success (with_reducible show T.Seq _ _ _ _ _ _ _)); (fail_if_success (with_reducible show T.OW _ _ _ _ _ _)); simp only [Int.not_lt, Int.not_le] at *; go_simp))
        go_roundg (j - ((i + j) / 2 + 1) + 1).toNat
        case measure => omega
        case rel =>
          refine ⟨f, (i + j) / 2 + 1, j, rfl, rfl, by omega, by omega, by omega, by omega, ⟨?_, ?_⟩, ⟨hM⟩, hRo⟩
          · have := hso3.out.1
            rw [Int.pow_succ] at this
            omega
          · have := hso3.out.2
            rwa [if_neg (by rw [hp]; simp)] at this
    · have cb : decide (i < j) = false := decide_eq_false hlt
      repeat' (first | (go_step) | go_back | ((fail_if_success (with_reducible show T.Seq _ _ _ _ _ _ _)); (fail_if_success (with_reducible show T.OW _ _ _ _ _ _)); simp only [Int.not_lt, Int.not_le] at *; go_simp))
      subst hP
      refine ⟨?_, hM.below⟩
      rw [← hso.out.2]
      cases f with
      | zero => rfl
      | succ f => rw [T.srch, if_neg (by omega)]
def T.above (n t : List Int) (k : Int) : Bool := decide (0 < T.wcmp n (T.down t k))
theorem T.above_calls (n t : List Int) (hn : n.length = 4) (ht : t.length = 4) (bn bt : Nat) (k : Int) (w : World) (h1 : w.rangeAt bn 0 (T.u64s n)) (h2 : w.rangeAt bt 0 (T.u64s t)) :
    Calls Tryz.prog 70 #[.int .i64 k, .pointer (some ⟨bn, 0, none⟩), .pointer (some ⟨bt, 0, none⟩)] w (T.E (.bool (T.above n t k)) w) := by
  have hM := T.Mem.start w
  have H1 := Aside0.mk h1
  have H2 := Aside0.mk h2
  clear h1 h2
  generalize hP : T.E (.bool (T.above n t k)) w = Post
  have hl := T.down_len t k ht
  go_enter Tryz.func70, Tryz.ntmps70
  repeat' (first | ((with_reducible show Code.wp _ (Code.region 1 _ true) _ _ _); refine T.mregion 1 (.t 0 (.t 1 (.p 2 (.a 3 (.a 4 (.p 5 (.p 6 .nil))))))) 1000 (by kernel_rfl) (fun _ _ _ _ h => h) hM (List.Sublist.refl _) ?_; clear hM; intro wld hM) | (go_at_call 72; refine (T.down_calls _ ht _ _).mono ?_; rintro _ _ ⟨rfl, hbc⟩; replace hM := hM.call hbc; clear hbc) | (go_at_call 71; refine (T.wcmp_calls _ _ hn hl _).mono ?_; rintro _ _ ⟨rfl, hbc⟩; replace hM := hM.call hbc; clear hbc) | ((with_reducible show T.Seq _ _ _ _ _ _ _); first | ((with_reducible show T.Seq _ _ _ (.p _ _) _ _ _); ((apply T.sq_p rfl rfl; (focus intro wS; ((go_simp; with_reducible rfl))); (try simp only [Act.put, List.setIfInBounds_toArray, List.set_cons_zero, List.set_cons_succ])))) | ((with_reducible show T.Seq _ _ _ (.t _ _) _ _ _); ((apply T.sq_t rfl rfl; (focus intro wS hS; first | exact T.x_range rfl rfl (T.range_kept H1.out hS.grown (by simp)) T.TU.out T.TN.out (by (((rw [encs_length]; with_reducible assumption)))) | exact T.x_range rfl rfl (T.range_kept H2.out hS.grown (by simp)) T.TU.out T.TN.out (by (((rw [encs_length]; with_reducible assumption))))); (try simp only [Act.put, List.setIfInBounds_toArray, List.set_cons_zero, List.set_cons_succ])))) | ((with_reducible show T.Seq _ _ _ .nil _ _ _); refine T.sq_nil ?_) | ((with_reducible show T.Seq _ _ _ (.a _ _) _ _ _); refine T.sq_a rfl rfl (fun K hK => ?_))) | (go_at_K; refine hK.out _ _ _ hM (by (repeat ((exact List.Sublist.refl _)))) ?_; clear hK K) | ((with_reducible show T.OW _ ⟨_, .call _, _, _, _, _⟩ _ _ _ _); refine T.OW.mk ?_; go_simp) | (go_step) | go_back | ((fail_if_success (with_reducible show T.Seq _ _ _ _ _ _ _)); (fail_if_success (with_reducible show T.OW _ _ _ _ _ _)); simp only [Int.not_lt, Int.not_le] at *; go_simp))
  subst hP
  exact ⟨rfl, hM.below⟩
def T.tlevel (id t : List Int) : Int := T.search (T.above (T.of32 id) t) 32 - 1
theorem T.srch_bound (p : Int → Bool) : ∀ (f : Nat) (i j : Int), i ≤ j → i ≤ T.srch p f i j ∧ T.srch p f i j ≤ j
  | 0, i, j, h => ⟨Int.le_refl _, h⟩
  | f + 1, i, j, h => by
    rw [T.srch]
    split
    · split
      · have := T.srch_bound p f i ((i + j) / 2) (by omega)
        omega
      · have := T.srch_bound p f ((i + j) / 2 + 1) j (by omega)
        omega
    · exact ⟨Int.le_refl _, h⟩
theorem T.tlevel_bound (id t : List Int) : -1 ≤ T.tlevel id t ∧ T.tlevel id t ≤ 31 := by
  have := T.srch_bound (T.above (T.of32 id) t) 64 0 32 (by decide)
  unfold T.tlevel T.search
  omega
theorem T.tlevel_calls (id t : List Int) (hi : id.length = 32) (ht : t.length = 4) (w : World) :
    Calls Tryz.prog 40 #[.agg (T.u8s id).toArray, .agg (T.u64s t).toArray] w (T.E (.int .i64 (T.tlevel id t)) w) := by
  have hM := T.Mem.start w
  have hl := T.of32_len id
  generalize hP : T.E (.int .i64 (T.tlevel id t)) w = Post
  go_enter Tryz.func40, Tryz.ntmps40
  repeat' (first | (go_at_call 69; refine (T.of32_calls _ hi _).mono ?_; rintro _ _ ⟨rfl, hbc⟩; replace hM := hM.call hbc; clear hbc) | ((((((with_reducible show wpList _ _ _ _ _ _); (refine T.w_o rfl ?_)))); first | ((with_reducible show T.OW _ ⟨_, .load _ _, _, _, _, _⟩ _ _ _ _); ((refine T.ofx (T.x_loadAll rfl rfl T.Fd.out T.TU.out T.TN.out (by (((rw [encs_length]; with_reducible assumption)))) hM) ?_))) | ((with_reducible show T.OW _ ⟨_, .store _ _ _, _, _, _, _⟩ _ _ _ _); ((refine T.op_storeAll _ _ _ rfl _ rfl _ rfl _ _ hM (by (repeat ((exact T.Sub.head _)))) _ T.TN.out (by (((rw [encs_length]; with_reducible assumption)))) (by ((exact T.ones_encs _ _))) (by ((rfl))) ?_; clear hM; intro wld hM))) | ((with_reducible show T.OW _ ⟨_, .alloc _, _, _, _, _⟩ _ _ _ _); refine T.op_alloc _ rfl _ T.TZ.out hM ?_; clear hM; intro blk wld hM hlt) | ((with_reducible show T.OW _ ⟨_, .box _ _, _, _, _, _⟩ _ _ _ _); refine T.op_box _ _ rfl _ rfl hM ?_; clear hM; intro blk wld hM hlt)); (try simp only [Act.put, List.setIfInBounds_toArray, List.set_cons_zero, List.set_cons_succ])) | (go_step) | ((fail_if_success (with_reducible show T.Seq _ _ _ _ _ _ _)); (fail_if_success (with_reducible show T.OW _ _ _ _ _ _)); simp only [Int.not_lt, Int.not_le] at *; go_simp))
  obtain ⟨b1, rfl⟩ := T.n1 hM
  obtain ⟨b2, rfl⟩ := T.n2 hM
  refine (T.search_calls 70 #[.pointer (some ⟨b1, 0, none⟩), .pointer (some ⟨b2, 0, none⟩)] (T.above (T.of32 id) t) (fun W => W.rangeAt b1 0 (T.u64s (T.of32 id)) ∧ W.rangeAt b2 0 (T.u64s t))
    (fun W W' h hb => ⟨T.range_kept h.1 (T.gofb hb none) (by simp), T.range_kept h.2 (T.gofb hb none) (by simp)⟩) (fun k W h => T.above_calls _ t hl ht b1 b2 k W h.1 h.2) (fun args w => by go_simp) 32 (by decide) (by decide) _
    ⟨T.range_all hM T.Fd.out, T.range_all hM T.Fd.out⟩).mono ?_
  rintro _ _ ⟨rfl, hbc⟩
  replace hM := hM.call hbc
  clear hbc
  have hs : -1 ≤ T.tlevel id t ∧ T.tlevel id t ≤ 31 := T.tlevel_bound id t
  have hs2 : IntKind.i64.wrap (T.search (T.above (T.of32 id) t) 32 - 1) = T.search (T.above (T.of32 id) t) 32 - 1 := by
    unfold T.tlevel at hs
    exact T.w64 (by omega) (by omega)
  repeat' (first | (go_step) | go_back | ((fail_if_success (with_reducible show T.Seq _ _ _ _ _ _ _)); (fail_if_success (with_reducible show T.OW _ _ _ _ _ _)); simp only [Int.not_lt, Int.not_le] at *; go_simp))
  subst hP
  exact ⟨rfl, hM.below⟩
attribute [irreducible] T.tlevel
section
def T.hid (h : T.Head) : List Int := if h.fit then T.sum (5 :: T.hput h) else T.z32
theorem T.hid_len (h : T.Head) : (T.hid h).length = 32 := by
  rw [T.hid]; split
  · exact T.sum_len _
  · rfl
attribute [local irreducible] T.hput
theorem T.hid_calls (h : T.Head) (k : h.ok) (kn : h.nums) (w : World) : Calls Tryz.prog 14 #[.agg h.cells.toArray] w (T.E (.agg (T.u8s (T.hid h)).toArray) w) := by
  have hM := T.Mem.start w
  generalize hP : T.E (.agg (T.u8s (T.hid h)).toArray) w = Post
  have hl := h.len k
  have HPL := Aside0.mk (T.hput_len h k)
  have ho1 := h.ones
  go_enter Tryz.func14, Tryz.ntmps14
  cases hf : h.fit with
  | false =>
    repeat' (first | (go_at_call 33; refine (T.hput_no h k hf _).mono ?_; rintro _ _ ⟨rfl, hbc⟩; replace hM := hM.call hbc; clear hbc) | ((((((with_reducible show wpList _ _ _ _ _ _); (refine T.w_o rfl ?_)))); first | ((with_reducible show T.OW _ ⟨_, .load _ _, _, _, _, _⟩ _ _ _ _); ((refine T.ofx (T.x_loadAll rfl rfl T.Fd.out T.TU.out T.TN.out (by ((with_reducible assumption))) hM) ?_))) | ((with_reducible show T.OW _ ⟨_, .store _ _ _, _, _, _, _⟩ _ _ _ _); ((refine T.op_storeAll _ _ _ rfl _ rfl _ rfl _ _ hM (by (repeat ((exact T.Sub.head _)))) _ T.TN.out (by ((rfl))) (by ((exact T.ones_encs _ _))) (by ((rfl))) ?_; clear hM; intro wld hM))) | ((with_reducible show T.OW _ ⟨_, .alloc _, _, _, _, _⟩ _ _ _ _); refine T.op_alloc _ rfl _ T.TZ.out hM ?_; clear hM; intro blk wld hM hlt) | ((with_reducible show T.OW _ ⟨_, .box _ _, _, _, _, _⟩ _ _ _ _); refine T.op_box _ _ rfl _ rfl hM ?_; clear hM; intro blk wld hM hlt) | ((with_reducible show T.OW _ ⟨_, .build _ _, _, _, _, _⟩ _ _ _ _); ((refine T.ofx (T.x_buildA0 rfl T.TA.out T.TN.out T.TZ.out) ?_)))); (try simp only [Act.put, List.setIfInBounds_toArray, List.set_cons_zero, List.set_cons_succ])) | (go_step) | ((fail_if_success (with_reducible show T.Seq _ _ _ _ _ _ _)); (fail_if_success (with_reducible show T.OW _ _ _ _ _ _)); simp only [Int.not_lt, Int.not_le] at *; go_simp))
    (refine T.ret_cell rfl rfl _ rfl _ _ hM T.Fd.out T.TU.out _ T.TN.out (by ((rfl))) ?_)
    subst hP
    rw [T.hid, hf]
    exact ⟨rfl, hM.below⟩
  | true =>
    have hsl := T.sum_len (5 :: T.hput h)
    repeat' (first | (go_at_call 33; refine (T.hput_yes h k kn hf _).mono ?_; rintro _ wr ⟨v, rfl, ho, h1, hbc⟩; (obtain ⟨Ag, cg, rfl⟩ := T.own_slice ho); replace hM := hM.callG hbc ho h1; clear hbc ho h1) | (go_at_call 34; refine (T.of2 [5] (T.hput h) hM T.Fd.out (hM.slB (n := 1) (c := 1) T.Fd.out (T.one_ones rfl) (Nat.le_refl _)) (hM.gsl T.Fg.out) (by rw [List.length_append, HPL.out]; exact Nat.le_of_ble_eq_true rfl)).mono ?_; rintro _ _ ⟨rfl, hbc⟩; replace hM := hM.call hbc; clear hbc) | ((((((with_reducible show wpList _ _ _ _ _ _); (refine T.w_o rfl ?_)))); first | ((with_reducible show T.OW _ ⟨_, .load _ _, _, _, _, _⟩ _ _ _ _); ((refine T.ofx (T.x_loadAll rfl rfl T.Fd.out T.TU.out T.TN.out (by ((with_reducible assumption))) hM) ?_))) | ((with_reducible show T.OW _ ⟨_, .store _ _ _, _, _, _, _⟩ _ _ _ _); ((refine T.op_storeAll _ _ _ rfl _ rfl _ rfl _ _ hM (by (repeat (first | exact T.Sub.head _ | apply T.Sub.tail))) _ T.TN.out (by (((rw [encs_length]; with_reducible assumption)))) (by ((exact T.ones_encs _ _))) (by ((rfl))) ?_; clear hM; intro wld hM))) | ((with_reducible show T.OW _ ⟨_, .alloc _, _, _, _, _⟩ _ _ _ _); refine T.op_alloc _ rfl _ T.TZ.out hM ?_; clear hM; intro blk wld hM hlt) | ((with_reducible show T.OW _ ⟨_, .box _ _, _, _, _, _⟩ _ _ _ _); refine T.op_box _ _ rfl _ rfl hM ?_; clear hM; intro blk wld hM hlt) | ((with_reducible show T.OW _ ⟨_, .buildSlice _ _ _, _, _, _, _⟩ _ _ _ _); refine T.op_buildSl _ _ _ rfl _ T.TL.out _ T.TN.out _ T.TZ.out rfl (by decide) (by decide) _ rfl (by (((simp [T.okp, Value.cells, Act.eval, *]; done)))) _ rfl hM ?_; (try simp only [List.map_toArray, List.map_cons, List.map_nil, Act.eval, Array.getD_eq_getD_getElem?, List.toList_toArray, List.getElem?_toArray, List.getElem?_cons_zero, List.getElem?_cons_succ, Option.getD_some, T.segs, List.replicate_succ, List.replicate_zero, List.set_cons_zero, List.set_cons_succ, Value.cells, List.flatten_cons, List.flatten_nil, List.append_nil, List.cons_append, List.nil_append]); clear hM; intro blk wld hM hlt)); (try simp only [Act.put, List.setIfInBounds_toArray, List.set_cons_zero, List.set_cons_succ])) | (go_step) | ((fail_if_success (with_reducible show T.Seq _ _ _ _ _ _ _)); (fail_if_success (with_reducible show T.OW _ _ _ _ _ _)); simp only [Int.not_lt, Int.not_le] at *; go_simp))
    (refine T.ret_cell rfl rfl _ rfl _ _ hM T.Fd.out T.TU.out _ T.TN.out (by (((rw [encs_length]; with_reducible assumption)))) ?_)
    subst hP
    rw [T.hid, hf]
    exact ⟨rfl, hM.below⟩
def T.hwork (h : T.Head) : List Int := if T.tOk h.bits then T.work (T.target h.bits) else [0, 0, 0, 0]
theorem T.hwork_len (h : T.Head) : (T.hwork h).length = 4 := by
  rw [T.hwork]; split
  · exact T.work_len _
  · rfl
attribute [irreducible] T.hid
theorem T.hwork_calls (h : T.Head) (k : h.ok) (kn : h.nums) (w : World) : Calls Tryz.prog 99 #[.agg h.cells.toArray] w (T.E (.agg (T.u64s (T.hwork h)).toArray) w) := by
  have hM := T.Mem.start w
  generalize hP : T.E (.agg (T.u64s (T.hwork h)).toArray) w = Post
  have hl := h.len k
  have htl := T.target_len h.bits
  have hwl := T.work_len (T.target h.bits)
  go_enter Tryz.func99, Tryz.ntmps99
  cases hf : T.tOk h.bits with
  | false =>
    repeat' (first | (go_at_call 39; refine (T.target_calls _ kn.bits.1 kn.bits.2 _).mono ?_; rintro _ _ ⟨rfl, hbc⟩; replace hM := hM.call hbc; clear hbc; rw [hf]) | ((((((with_reducible show wpList _ _ _ _ _ _); (refine T.w_o rfl ?_)))); first | ((with_reducible show T.OW _ ⟨_, .load _ _, _, _, _, _⟩ _ _ _ _); ((refine T.ofx (T.x_load rfl rfl T.Fd.out T.TS.out (h.bits_at k) hM) ?_))) | ((with_reducible show T.OW _ ⟨_, .store _ _ _, _, _, _, _⟩ _ _ _ _); ((refine T.op_storeAll _ _ _ rfl _ rfl _ rfl _ _ hM (by (repeat (first | exact T.Sub.head _ | apply T.Sub.tail))) _ T.TN.out (by (first | (rw [encs_length]; with_reducible assumption) | rfl)) (by ((exact T.ones_encs _ _))) (by ((rfl))) ?_; clear hM; intro wld hM))) | ((with_reducible show T.OW _ ⟨_, .alloc _, _, _, _, _⟩ _ _ _ _); refine T.op_alloc _ rfl _ T.TZ.out hM ?_; clear hM; intro blk wld hM hlt) | ((with_reducible show T.OW _ ⟨_, .box _ _, _, _, _, _⟩ _ _ _ _); refine T.op_box _ _ rfl _ rfl hM ?_; clear hM; intro blk wld hM hlt) | ((with_reducible show T.OW _ ⟨_, .build _ _, _, _, _, _⟩ _ _ _ _); ((refine T.ofx (T.x_buildA0 rfl T.TA.out T.TN.out T.TZ.out) ?_)))); (try simp only [Act.put, List.setIfInBounds_toArray, List.set_cons_zero, List.set_cons_succ])) | (go_step) | ((fail_if_success (with_reducible show T.Seq _ _ _ _ _ _ _)); (fail_if_success (with_reducible show T.OW _ _ _ _ _ _)); simp only [Int.not_lt, Int.not_le] at *; go_simp))
    (refine T.ret_cell rfl rfl _ rfl _ _ hM T.Fd.out T.TU.out _ T.TN.out (by ((rfl))) ?_)
    subst hP
    rw [T.hwork, hf]
    exact ⟨rfl, hM.below⟩
  | true =>
    repeat' (first | (go_at_call 39; refine (T.target_calls _ kn.bits.1 kn.bits.2 _).mono ?_; rintro _ _ ⟨rfl, hbc⟩; replace hM := hM.call hbc; clear hbc; rw [hf]) | (go_at_call 136; refine (T.work_calls _ htl (T.target_R _) _).mono ?_; rintro _ _ ⟨rfl, hbc⟩; replace hM := hM.call hbc; clear hbc) | ((((((with_reducible show wpList _ _ _ _ _ _); (refine T.w_o rfl ?_)))); first | ((with_reducible show T.OW _ ⟨_, .load _ _, _, _, _, _⟩ _ _ _ _); first | (refine T.ofx (T.x_load rfl rfl T.Fd.out T.TS.out (h.bits_at k) hM) ?_) | (refine T.ofx (T.x_loadAll rfl rfl T.Fd.out T.TU.out T.TN.out (by (((rw [encs_length]; with_reducible assumption)))) hM) ?_)) | ((with_reducible show T.OW _ ⟨_, .store _ _ _, _, _, _, _⟩ _ _ _ _); ((refine T.op_storeAll _ _ _ rfl _ rfl _ rfl _ _ hM (by (repeat (first | exact T.Sub.head _ | apply T.Sub.tail))) _ T.TN.out (by (((rw [encs_length]; with_reducible assumption)))) (by ((exact T.ones_encs _ _))) (by ((rfl))) ?_; clear hM; intro wld hM))) | ((with_reducible show T.OW _ ⟨_, .alloc _, _, _, _, _⟩ _ _ _ _); refine T.op_alloc _ rfl _ T.TZ.out hM ?_; clear hM; intro blk wld hM hlt) | ((with_reducible show T.OW _ ⟨_, .box _ _, _, _, _, _⟩ _ _ _ _); refine T.op_box _ _ rfl _ rfl hM ?_; clear hM; intro blk wld hM hlt)); (try simp only [Act.put, List.setIfInBounds_toArray, List.set_cons_zero, List.set_cons_succ])) | (go_step) | ((fail_if_success (with_reducible show T.Seq _ _ _ _ _ _ _)); (fail_if_success (with_reducible show T.OW _ _ _ _ _ _)); simp only [Int.not_lt, Int.not_le] at *; go_simp))
    (refine T.ret_cell rfl rfl _ rfl _ _ hM T.Fd.out T.TU.out _ T.TN.out (by (((rw [encs_length]; with_reducible assumption)))) ?_)
    subst hP
    rw [T.hwork, hf]
    exact ⟨rfl, hM.below⟩
end
end Go.Proofs.YtdklknfgcepcbaaGreat.X
