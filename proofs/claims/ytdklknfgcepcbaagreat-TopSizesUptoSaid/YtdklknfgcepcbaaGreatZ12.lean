/- Texts of this proof, laid together by wip/tools/pack.py: TD3, TD4. -/
import Derived.Test.YtdklknfgcepcbaaGreatZ10
import Derived.Laws.Externs
namespace Go.Proofs.YtdklknfgcepcbaaGreat.X
open Go.RowKit Go.Proofs.YtdklknfgcepcbaaGreatW.PrintWords Go.Proofs.YtdklknfgcepcbaaGreatW.PrintLast Go.Proofs.YtdklknfgcepcbaaGreatW.PrintMore
set_option linter.unusedSimpArgs false
set_option linter.unusedVariables false
set_option maxHeartbeats 2000000
set_option maxRecDepth 20000
def T.down1 (a : List Int) (n i : Nat) : Int := Go.bits .or .u64 (T.wat a ((i : Int) + (n : Int) / 64) / 2 ^ ((n : Int) % 64).toNat) (IntKind.u64.wrap (IntKind.u64.wrap (T.wat a ((i : Int) + (n : Int) / 64 + 1) * 2) * 2 ^ (63 - (n : Int) % 64).toNat))
def T.downs (a : List Int) (n : Nat) : Nat → List Int
  | 0 => [0, 0, 0, 0]
  | i + 1 => (T.downs a n i).set i (T.down1 a n i)
theorem T.downs_len (a : List Int) (n : Nat) : ∀ i, (T.downs a n i).length = 4
  | 0 => rfl
  | i + 1 => by rw [T.downs, List.length_set, T.downs_len a n i]
def T.down (a : List Int) (n : Int) : List Int := if n < 0 then a else if 256 ≤ n then [0, 0, 0, 0] else T.downs a n.toNat 4
theorem T.down_len (a : List Int) (n : Int) (h : a.length = 4) : (T.down a n).length = 4 := by
  unfold T.down; split; exact h; split; rfl; exact T.downs_len _ _ _
theorem T.down_calls (a : List Int) (ha : a.length = 4) (n : Int) (w : World) : Calls Tryz.prog 72 #[.agg (T.u64s a).toArray, .int .i64 n] w (T.E (.agg (T.u64s (T.down a n)).toArray) w) := by
  have hM := T.Mem.start w
  generalize hP : T.E (.agg (T.u64s (T.down a n)).toArray) w = Post
  by_cases h0 : n < 0
  · have d0 : decide (n < 0) = true := decide_eq_true h0
    go_enter Tryz.func72, Tryz.ntmps72
    repeat' (first | ((((((with_reducible show wpList _ _ _ _ _ _); (refine T.w_o rfl ?_)))); first | ((with_reducible show T.OW _ ⟨_, .load _ _, _, _, _, _⟩ _ _ _ _); ((refine T.ofx (T.x_loadAll rfl rfl T.Fd.out T.TU.out T.TN.out (by (((rw [encs_length]; with_reducible assumption)))) hM) ?_))) | ((with_reducible show T.OW _ ⟨_, .store _ _ _, _, _, _, _⟩ _ _ _ _); ((refine T.op_storeAll _ _ _ rfl _ rfl _ rfl _ _ hM (by (repeat ((exact T.Sub.head _)))) _ T.TN.out (by (((rw [encs_length]; with_reducible assumption)))) (by ((exact T.ones_encs _ _))) (by ((rfl))) ?_; clear hM; intro wld hM))) | ((with_reducible show T.OW _ ⟨_, .alloc _, _, _, _, _⟩ _ _ _ _); refine T.op_alloc _ rfl _ T.TZ.out hM ?_; clear hM; intro blk wld hM hlt) | ((with_reducible show T.OW _ ⟨_, .box _ _, _, _, _, _⟩ _ _ _ _); refine T.op_box _ _ rfl _ rfl hM ?_; clear hM; intro blk wld hM hlt)); (try simp only [Act.put, List.setIfInBounds_toArray, List.set_cons_zero, List.set_cons_succ])) | (go_step))
    (refine T.ret_cell rfl rfl _ rfl _ _ hM T.Fd.out T.TU.out _ T.TN.out (by (((rw [encs_length]; with_reducible assumption)))) ?_)
    subst hP
    exact ⟨by rw [T.down, if_pos h0], hM.below⟩
  · have d0 : decide (n < 0) = false := decide_eq_false h0
    by_cases h4 : 256 ≤ n
    · have d4 : decide (256 ≤ n) = true := decide_eq_true h4
      go_enter Tryz.func72, Tryz.ntmps72
      repeat' (first | ((((((with_reducible show wpList _ _ _ _ _ _); (refine T.w_o rfl ?_)))); first | ((with_reducible show T.OW _ ⟨_, .store _ _ _, _, _, _, _⟩ _ _ _ _); ((refine T.op_storeAll _ _ _ rfl _ rfl _ rfl _ _ hM (by (repeat ((exact T.Sub.head _)))) _ T.TN.out (by ((rfl))) (by ((exact T.ones_encs _ _))) (by ((rfl))) ?_; clear hM; intro wld hM))) | ((with_reducible show T.OW _ ⟨_, .alloc _, _, _, _, _⟩ _ _ _ _); refine T.op_alloc _ rfl _ T.TZ.out hM ?_; clear hM; intro blk wld hM hlt) | ((with_reducible show T.OW _ ⟨_, .box _ _, _, _, _, _⟩ _ _ _ _); refine T.op_box _ _ rfl _ rfl hM ?_; clear hM; intro blk wld hM hlt) | ((with_reducible show T.OW _ ⟨_, .build _ _, _, _, _, _⟩ _ _ _ _); ((refine T.ofx (T.x_buildA0 rfl T.TA.out T.TN.out T.TZ.out) ?_)))); (try simp only [Act.put, List.setIfInBounds_toArray, List.set_cons_zero, List.set_cons_succ])) | (go_step) | ((fail_if_success (with_reducible show T.Seq _ _ _ _ _ _ _)); (fail_if_success (with_reducible show T.OW _ _ _ _ _ _)); simp only [Int.not_lt, Int.not_le] at *; go_simp))
      (refine T.ret_cell rfl rfl _ rfl _ _ hM T.Fd.out T.TU.out _ T.TN.out (by ((rfl))) ?_)
      subst hP
      exact ⟨by rw [T.down, if_neg (by omega), if_pos h4], hM.below⟩
    · have d4 : decide (256 ≤ n) = false := decide_eq_false h4
      have h0' : 0 ≤ n := by omega
      have h4' : n < 256 := by omega
      obtain ⟨j, rfl⟩ := Int.eq_ofNat_of_zero_le h0'
      have hj : j < 256 := by omega
      have j0 : (0 : Int) ≤ (j : Int) / 64 := by omega
      have j1 : (0 : Int) ≤ (j : Int) % 64 := by omega
      have e63 : IntKind.i64.wrap (63 - (j : Int) % 64) = 63 - (j : Int) % 64 := T.w64 (by omega) (by omega)
      have j2 : (0 : Int) ≤ 63 - (j : Int) % 64 := by omega
      go_enter Tryz.func72, Tryz.ntmps72
      repeat' (first | ((((((with_reducible show wpList _ _ _ _ _ _); (refine T.w_o rfl ?_)))); first | ((with_reducible show T.OW _ ⟨_, .alloc _, _, _, _, _⟩ _ _ _ _); refine T.op_alloc _ rfl _ T.TZ.out hM ?_; clear hM; intro blk wld hM hlt) | ((with_reducible show T.OW _ ⟨_, .box _ _, _, _, _, _⟩ _ _ _ _); refine T.op_box _ _ rfl _ rfl hM ?_; clear hM; intro blk wld hM hlt)); (try simp only [Act.put, List.setIfInBounds_toArray, List.set_cons_zero, List.set_cons_succ])) | (go_step) | ((fail_if_success (with_reducible show T.Seq _ _ _ _ _ _ _)); (fail_if_success (with_reducible show T.OW _ _ _ _ _ _)); simp only [Int.not_lt, Int.not_le] at *; go_simp))
      obtain ⟨bx, rfl⟩ := T.n1 hM
      obtain ⟨b2, rfl⟩ := T.n2 hM
      obtain ⟨b3, rfl⟩ := T.n3 hM
      go_loopg [19] (4 + 1) (fun kq vv Wd => ∃ i : Nat, vv = .int .i64 i ∧ i ≤ 4 ∧ 4 - i < kq ∧ Aside0 (T.Mem w none Wd [.b bx 47 (T.u64s (T.downs a j i)), .b b2 47 (T.u64s [0, 0, 0, 0]), .b b3 47 (T.u64s a)]))
      case atStart => exact ⟨0, rfl, by omega, by omega, ⟨hM⟩⟩
      case round =>
        clear hM
        obtain ⟨i, rfl, hi, hg, hMo⟩ := hrel
        have hM := hMo.out
        clear hMo
        by_cases hlt : i < 4
        · have hltz : (i : Int) < 4 := by omega
          have cb : decide ((i : Int) < 4) = true := decide_eq_true hltz
          have hi0 : (0 : Int) ≤ (i : Int) := by omega
          have hl := T.downs_len a j i
          have e5 : IntKind.i64.wrap ((i : Int) + (j : Int) / 64) = (i : Int) + (j : Int) / 64 := T.w64 (by omega) (by omega)
          have e6 : IntKind.i64.wrap ((i : Int) + (j : Int) / 64 + 1) = (i : Int) + (j : Int) / 64 + 1 := T.w64 (by omega) (by omega)
          repeat' (first | ((with_reducible show Code.wp _ (Code.region 10 _ true) _ _ _); refine T.mregion 10 (.p 0 (.t 1 (.p 2 (.p 3 (.p 4 (.p 6 (.t 8 (.p 9 (.p 10 (.p 11 (.p 12 (.p 15 (.p 16 (.a 5 (.p 7 (.a 13 (.p 14 (.p 17 (.p 18 (.p 19 (.z 20 .nil))))))))))))))))))))) 20 (by kernel_rfl) (fun _ _ _ _ h => h) hM (List.Sublist.refl _) ?_; clear hM; intro wld hM) | (go_at_call 118; refine (T.wat_calls a ha _ _).mono ?_; rintro _ _ ⟨rfl, hbc⟩; replace hM := hM.call hbc; clear hbc) | (((first | ((with_reducible show wpList _ _ _ _ _ _); (refine T.w_o rfl ?_)) | (with_reducible show T.OW _ _ _ _ _ _)); (((with_reducible show T.OW _ ⟨_, .store _ _ _, _, _, _, _⟩ _ _ _ _); ((refine T.op_storeInt _ _ _ rfl _ _ rfl _ _ rfl _ _ hM (by (repeat ((exact T.Sub.head _)))) T.TN.out (by ((omega))) ?_; clear hM; intro wld hM))))); (try simp only [Act.put, List.setIfInBounds_toArray, List.set_cons_zero, List.set_cons_succ])) | ((with_reducible show T.Seq _ _ _ _ _ _ _); first | ((with_reducible show T.Seq _ _ _ (.p _ _) _ _ _); ((apply T.sq_p rfl rfl; (focus intro wS; ((go_simp; with_reducible rfl))); (try simp only [Act.put, List.setIfInBounds_toArray, List.set_cons_zero, List.set_cons_succ])))) | ((with_reducible show T.Seq _ _ _ (.t _ _) _ _ _); ((apply T.sq_t rfl rfl; (focus intro wS hS; (exact T.x_loadAll rfl rfl T.Fd.out T.TU.out T.TN.out (by (((rw [encs_length]; with_reducible assumption)))) hS)); (try simp only [Act.put, List.setIfInBounds_toArray, List.set_cons_zero, List.set_cons_succ])))) | ((with_reducible show T.Seq _ _ _ .nil _ _ _); refine T.sq_nil ?_) | ((with_reducible show T.Seq _ _ _ (.a _ _) _ _ _); refine T.sq_a rfl rfl (fun K hK => ?_)) | ((with_reducible show T.Seq _ _ _ (.z _ _) _ _ _); refine T.sq_z rfl rfl (fun K hK => ?_))) | (go_at_K; refine hK.out _ _ _ hM (by (repeat ((exact List.Sublist.refl _)))) ?_; clear hK K) | (go_at_K; refine hK.out _ _ _ hM ?_; clear hK K) | ((with_reducible show T.OW _ ⟨_, .call _, _, _, _, _⟩ _ _ _ _); refine T.OW.mk ?_; go_simp) | (go_step) | ((fail_if_success (with_reducible show T.Seq _ _ _ _ _ _ _)); (fail_if_success (with_reducible show T.OW _ _ _ _ _ _)); simp only [Int.not_lt, Int.not_le] at *; go_simp))
          go_roundg (4 - i)
          case measure => omega
          case rel => exact ⟨i + 1, by go_num, by omega, by omega, ⟨hM⟩⟩
        · have hiN : i = 4 := by omega
          have hltz : ¬ (i : Int) < 4 := by omega
          have cb : decide ((i : Int) < 4) = false := decide_eq_false hltz
          rw [hiN] at hM
          have hl := T.downs_len a j 4
          repeat' (first | ((((((with_reducible show wpList _ _ _ _ _ _); (refine T.w_o rfl ?_)))); first | ((with_reducible show T.OW _ ⟨_, .load _ _, _, _, _, _⟩ _ _ _ _); ((refine T.ofx (T.x_loadAll rfl rfl T.Fd.out T.TU.out T.TN.out (by (((rw [encs_length]; with_reducible assumption)))) hM) ?_))) | ((with_reducible show T.OW _ ⟨_, .store _ _ _, _, _, _, _⟩ _ _ _ _); ((refine T.op_storeAll _ _ _ rfl _ rfl _ rfl _ _ hM (by (repeat (first | exact T.Sub.head _ | apply T.Sub.tail))) _ T.TN.out (by (((rw [encs_length]; with_reducible assumption)))) (by ((exact T.ones_encs _ _))) (by ((rfl))) ?_; clear hM; intro wld hM)))); (try simp only [Act.put, List.setIfInBounds_toArray, List.set_cons_zero, List.set_cons_succ])) | (go_step) | ((fail_if_success (with_reducible show T.Seq _ _ _ _ _ _ _)); (fail_if_success (with_reducible show T.OW _ _ _ _ _ _)); simp only [Int.not_lt, Int.not_le] at *; go_simp))
          (refine T.ret_cell rfl rfl _ rfl _ _ hM T.Fd.out T.TU.out _ T.TN.out (by (((rw [encs_length]; with_reducible assumption)))) ?_)
          subst hP
          exact ⟨by rw [T.down, if_neg (by omega), if_neg (by omega)]; rfl, hM.below⟩
def T.up1 (a : List Int) (n i : Nat) : Int := Go.bits .or .u64 (IntKind.u64.wrap (T.wat a ((i : Int) - (n : Int) / 64) * 2 ^ ((n : Int) % 64).toNat)) (T.wat a ((i : Int) - (n : Int) / 64 - 1) / 2 / 2 ^ (63 - (n : Int) % 64).toNat)
def T.ups (a : List Int) (n : Nat) : Nat → List Int
  | 0 => [0, 0, 0, 0]
  | i + 1 => (T.ups a n i).set i (T.up1 a n i)
theorem T.ups_len (a : List Int) (n : Nat) : ∀ i, (T.ups a n i).length = 4
  | 0 => rfl
  | i + 1 => by rw [T.ups, List.length_set, T.ups_len a n i]
def T.up (a : List Int) (n : Int) : List Int := if n < 0 then a else if 256 ≤ n then [0, 0, 0, 0] else T.ups a n.toNat 4
theorem T.up_len (a : List Int) (n : Int) (h : a.length = 4) : (T.up a n).length = 4 := by
  unfold T.up; split; exact h; split; rfl; exact T.ups_len _ _ _
theorem T.up_calls (a : List Int) (ha : a.length = 4) (n : Int) (w : World) : Calls Tryz.prog 67 #[.agg (T.u64s a).toArray, .int .i64 n] w (T.E (.agg (T.u64s (T.up a n)).toArray) w) := by
  have hM := T.Mem.start w
  generalize hP : T.E (.agg (T.u64s (T.up a n)).toArray) w = Post
  by_cases h0 : n < 0
  · have d0 : decide (n < 0) = true := decide_eq_true h0
    go_enter Tryz.func67, Tryz.ntmps67
    repeat' (first | ((((((with_reducible show wpList _ _ _ _ _ _); (refine T.w_o rfl ?_)))); first | ((with_reducible show T.OW _ ⟨_, .load _ _, _, _, _, _⟩ _ _ _ _); ((refine T.ofx (T.x_loadAll rfl rfl T.Fd.out T.TU.out T.TN.out (by (((rw [encs_length]; with_reducible assumption)))) hM) ?_))) | ((with_reducible show T.OW _ ⟨_, .store _ _ _, _, _, _, _⟩ _ _ _ _); ((refine T.op_storeAll _ _ _ rfl _ rfl _ rfl _ _ hM (by (repeat ((exact T.Sub.head _)))) _ T.TN.out (by (((rw [encs_length]; with_reducible assumption)))) (by ((exact T.ones_encs _ _))) (by ((rfl))) ?_; clear hM; intro wld hM))) | ((with_reducible show T.OW _ ⟨_, .alloc _, _, _, _, _⟩ _ _ _ _); refine T.op_alloc _ rfl _ T.TZ.out hM ?_; clear hM; intro blk wld hM hlt) | ((with_reducible show T.OW _ ⟨_, .box _ _, _, _, _, _⟩ _ _ _ _); refine T.op_box _ _ rfl _ rfl hM ?_; clear hM; intro blk wld hM hlt)); (try simp only [Act.put, List.setIfInBounds_toArray, List.set_cons_zero, List.set_cons_succ])) | (go_step))
    (refine T.ret_cell rfl rfl _ rfl _ _ hM T.Fd.out T.TU.out _ T.TN.out (by (((rw [encs_length]; with_reducible assumption)))) ?_)
    subst hP
    exact ⟨by rw [T.up, if_pos h0], hM.below⟩
  · have d0 : decide (n < 0) = false := decide_eq_false h0
    by_cases h4 : 256 ≤ n
    · have d4 : decide (256 ≤ n) = true := decide_eq_true h4
      go_enter Tryz.func67, Tryz.ntmps67
      repeat' (first | ((((((with_reducible show wpList _ _ _ _ _ _); (refine T.w_o rfl ?_)))); first | ((with_reducible show T.OW _ ⟨_, .store _ _ _, _, _, _, _⟩ _ _ _ _); ((refine T.op_storeAll _ _ _ rfl _ rfl _ rfl _ _ hM (by (repeat ((exact T.Sub.head _)))) _ T.TN.out (by ((rfl))) (by ((exact T.ones_encs _ _))) (by ((rfl))) ?_; clear hM; intro wld hM))) | ((with_reducible show T.OW _ ⟨_, .alloc _, _, _, _, _⟩ _ _ _ _); refine T.op_alloc _ rfl _ T.TZ.out hM ?_; clear hM; intro blk wld hM hlt) | ((with_reducible show T.OW _ ⟨_, .box _ _, _, _, _, _⟩ _ _ _ _); refine T.op_box _ _ rfl _ rfl hM ?_; clear hM; intro blk wld hM hlt) | ((with_reducible show T.OW _ ⟨_, .build _ _, _, _, _, _⟩ _ _ _ _); ((refine T.ofx (T.x_buildA0 rfl T.TA.out T.TN.out T.TZ.out) ?_)))); (try simp only [Act.put, List.setIfInBounds_toArray, List.set_cons_zero, List.set_cons_succ])) | (go_step) | ((fail_if_success (with_reducible show T.Seq _ _ _ _ _ _ _)); (fail_if_success (with_reducible show T.OW _ _ _ _ _ _)); simp only [Int.not_lt, Int.not_le] at *; go_simp))
      (refine T.ret_cell rfl rfl _ rfl _ _ hM T.Fd.out T.TU.out _ T.TN.out (by ((rfl))) ?_)
      subst hP
      exact ⟨by rw [T.up, if_neg (by omega), if_pos h4], hM.below⟩
    · have d4 : decide (256 ≤ n) = false := decide_eq_false h4
      have h0' : 0 ≤ n := by omega
      have h4' : n < 256 := by omega
      obtain ⟨j, rfl⟩ := Int.eq_ofNat_of_zero_le h0'
      have hj : j < 256 := by omega
      have j0 : (0 : Int) ≤ (j : Int) / 64 := by omega
      have j1 : (0 : Int) ≤ (j : Int) % 64 := by omega
      have e63 : IntKind.i64.wrap (63 - (j : Int) % 64) = 63 - (j : Int) % 64 := T.w64 (by omega) (by omega)
      have j2 : (0 : Int) ≤ 63 - (j : Int) % 64 := by omega
      go_enter Tryz.func67, Tryz.ntmps67
      repeat' (first | ((((((with_reducible show wpList _ _ _ _ _ _); (refine T.w_o rfl ?_)))); first | ((with_reducible show T.OW _ ⟨_, .alloc _, _, _, _, _⟩ _ _ _ _); refine T.op_alloc _ rfl _ T.TZ.out hM ?_; clear hM; intro blk wld hM hlt) | ((with_reducible show T.OW _ ⟨_, .box _ _, _, _, _, _⟩ _ _ _ _); refine T.op_box _ _ rfl _ rfl hM ?_; clear hM; intro blk wld hM hlt)); (try simp only [Act.put, List.setIfInBounds_toArray, List.set_cons_zero, List.set_cons_succ])) | (go_step) | ((fail_if_success (with_reducible show T.Seq _ _ _ _ _ _ _)); (fail_if_success (with_reducible show T.OW _ _ _ _ _ _)); simp only [Int.not_lt, Int.not_le] at *; go_simp))
      obtain ⟨bx, rfl⟩ := T.n1 hM
      obtain ⟨b2, rfl⟩ := T.n2 hM
      obtain ⟨b3, rfl⟩ := T.n3 hM
      go_loopg [19] (4 + 1) (fun kq vv Wd => ∃ i : Nat, vv = .int .i64 i ∧ i ≤ 4 ∧ 4 - i < kq ∧ Aside0 (T.Mem w none Wd [.b bx 47 (T.u64s (T.ups a j i)), .b b2 47 (T.u64s [0, 0, 0, 0]), .b b3 47 (T.u64s a)]))
      case atStart => exact ⟨0, rfl, by omega, by omega, ⟨hM⟩⟩
      case round =>
        clear hM
        obtain ⟨i, rfl, hi, hg, hMo⟩ := hrel
        have hM := hMo.out
        clear hMo
        by_cases hlt : i < 4
        · have hltz : (i : Int) < 4 := by omega
          have cb : decide ((i : Int) < 4) = true := decide_eq_true hltz
          have hi0 : (0 : Int) ≤ (i : Int) := by omega
          have hl := T.ups_len a j i
          have e5 : IntKind.i64.wrap ((i : Int) - (j : Int) / 64) = (i : Int) - (j : Int) / 64 := T.w64 (by omega) (by omega)
          have e6 : IntKind.i64.wrap ((i : Int) - (j : Int) / 64 - 1) = (i : Int) - (j : Int) / 64 - 1 := T.w64 (by omega) (by omega)
          repeat' (first | ((with_reducible show Code.wp _ (Code.region 10 _ true) _ _ _); refine T.mregion 10 (.p 0 (.t 1 (.p 2 (.p 3 (.p 4 (.p 6 (.t 8 (.p 9 (.p 10 (.p 11 (.p 12 (.p 15 (.p 16 (.a 5 (.p 7 (.a 13 (.p 14 (.p 17 (.p 18 (.p 19 (.z 20 .nil))))))))))))))))))))) 20 (by kernel_rfl) (fun _ _ _ _ h => h) hM (List.Sublist.refl _) ?_; clear hM; intro wld hM) | (go_at_call 118; refine (T.wat_calls a ha _ _).mono ?_; rintro _ _ ⟨rfl, hbc⟩; replace hM := hM.call hbc; clear hbc) | (((first | ((with_reducible show wpList _ _ _ _ _ _); (refine T.w_o rfl ?_)) | (with_reducible show T.OW _ _ _ _ _ _)); (((with_reducible show T.OW _ ⟨_, .store _ _ _, _, _, _, _⟩ _ _ _ _); ((refine T.op_storeInt _ _ _ rfl _ _ rfl _ _ rfl _ _ hM (by (repeat ((exact T.Sub.head _)))) T.TN.out (by ((omega))) ?_; clear hM; intro wld hM))))); (try simp only [Act.put, List.setIfInBounds_toArray, List.set_cons_zero, List.set_cons_succ])) | ((with_reducible show T.Seq _ _ _ _ _ _ _); first | ((with_reducible show T.Seq _ _ _ (.p _ _) _ _ _); ((apply T.sq_p rfl rfl; (focus intro wS; ((go_simp; with_reducible rfl))); (try simp only [Act.put, List.setIfInBounds_toArray, List.set_cons_zero, List.set_cons_succ])))) | ((with_reducible show T.Seq _ _ _ (.t _ _) _ _ _); ((apply T.sq_t rfl rfl; (focus intro wS hS; (exact T.x_loadAll rfl rfl T.Fd.out T.TU.out T.TN.out (by (((rw [encs_length]; with_reducible assumption)))) hS)); (try simp only [Act.put, List.setIfInBounds_toArray, List.set_cons_zero, List.set_cons_succ])))) | ((with_reducible show T.Seq _ _ _ .nil _ _ _); refine T.sq_nil ?_) | ((with_reducible show T.Seq _ _ _ (.a _ _) _ _ _); refine T.sq_a rfl rfl (fun K hK => ?_)) | ((with_reducible show T.Seq _ _ _ (.z _ _) _ _ _); refine T.sq_z rfl rfl (fun K hK => ?_))) | (go_at_K; refine hK.out _ _ _ hM (by (repeat ((exact List.Sublist.refl _)))) ?_; clear hK K) | (go_at_K; refine hK.out _ _ _ hM ?_; clear hK K) | ((with_reducible show T.OW _ ⟨_, .call _, _, _, _, _⟩ _ _ _ _); refine T.OW.mk ?_; go_simp) | (go_step) | ((fail_if_success (with_reducible show T.Seq _ _ _ _ _ _ _)); (fail_if_success (with_reducible show T.OW _ _ _ _ _ _)); simp only [Int.not_lt, Int.not_le] at *; go_simp))
          go_roundg (4 - i)
          case measure => omega
          case rel => exact ⟨i + 1, by go_num, by omega, by omega, ⟨hM⟩⟩
        · have hiN : i = 4 := by omega
          have hltz : ¬ (i : Int) < 4 := by omega
          have cb : decide ((i : Int) < 4) = false := decide_eq_false hltz
          rw [hiN] at hM
          have hl := T.ups_len a j 4
          repeat' (first | ((((((with_reducible show wpList _ _ _ _ _ _); (refine T.w_o rfl ?_)))); first | ((with_reducible show T.OW _ ⟨_, .load _ _, _, _, _, _⟩ _ _ _ _); ((refine T.ofx (T.x_loadAll rfl rfl T.Fd.out T.TU.out T.TN.out (by (((rw [encs_length]; with_reducible assumption)))) hM) ?_))) | ((with_reducible show T.OW _ ⟨_, .store _ _ _, _, _, _, _⟩ _ _ _ _); ((refine T.op_storeAll _ _ _ rfl _ rfl _ rfl _ _ hM (by (repeat (first | exact T.Sub.head _ | apply T.Sub.tail))) _ T.TN.out (by (((rw [encs_length]; with_reducible assumption)))) (by ((exact T.ones_encs _ _))) (by ((rfl))) ?_; clear hM; intro wld hM)))); (try simp only [Act.put, List.setIfInBounds_toArray, List.set_cons_zero, List.set_cons_succ])) | (go_step) | ((fail_if_success (with_reducible show T.Seq _ _ _ _ _ _ _)); (fail_if_success (with_reducible show T.OW _ _ _ _ _ _)); simp only [Int.not_lt, Int.not_le] at *; go_simp))
          (refine T.ret_cell rfl rfl _ rfl _ _ hM T.Fd.out T.TU.out _ T.TN.out (by (((rw [encs_length]; with_reducible assumption)))) ?_)
          subst hP
          exact ⟨by rw [T.up, if_neg (by omega), if_neg (by omega)]; rfl, hM.below⟩
attribute [irreducible] T.down T.up
def T.add64 (x y c : Int) : Int × Int := (((x.toNat + y.toNat + c.toNat) % 18446744073709551616 : Nat), ((x.toNat + y.toNat + c.toNat) / 18446744073709551616 : Nat))
def T.sub64 (x y c : Int) : Int × Int := (((x.toNat + 18446744073709551616 - y.toNat - c.toNat) % 18446744073709551616 : Nat), ((if x.toNat < y.toNat + c.toNat then 1 else 0 : Nat) : Int))
def T.sub64Entry : Array Value → Sem Value := fun args => do
  let (x, y, b) ← Extern.MathBitsCarry.three "Sub64" args
  pure (Extern.MathBitsCarry.pair ((x + Extern.MathBitsCarry.m64 - y - b) % Extern.MathBitsCarry.m64) (if x < y + b then 1 else 0))
theorem T.add64_run (x y c : Int) (hc : c = 0 ∨ c = 1) (w : World) :
    (callFunc 164 #[.int .u64 x, .int .u64 y, .int .u64 c]).run Tryz.prog w = .ok (.value (.tuple #[.int .u64 (T.add64 x y c).1, .int .u64 (T.add64 x y c).2])) w := by
  rw [run_callFunc_extern Tryz.func164 (by kernel_rfl) (by kernel_rfl) (by kernel_rfl) (e := add64Entry) (by kernel_rfl)]
  have h : (add64Entry #[.int .u64 x, .int .u64 y, .int .u64 c]).run Tryz.prog w = .ok (.tuple #[.int .u64 (T.add64 x y c).1, .int .u64 (T.add64 x y c).2]) w := by
    rcases hc with rfl | rfl <;> rfl
  rw [h]
  rfl
theorem T.sub64_run (x y c : Int) (hc : c = 0 ∨ c = 1) (w : World) :
    (callFunc 213 #[.int .u64 x, .int .u64 y, .int .u64 c]).run Tryz.prog w = .ok (.value (.tuple #[.int .u64 (T.sub64 x y c).1, .int .u64 (T.sub64 x y c).2])) w := by
  rw [run_callFunc_extern Tryz.func213 (by kernel_rfl) (by kernel_rfl) (by kernel_rfl) (e := T.sub64Entry) (by kernel_rfl)]
  have h : (T.sub64Entry #[.int .u64 x, .int .u64 y, .int .u64 c]).run Tryz.prog w = .ok (.tuple #[.int .u64 (T.sub64 x y c).1, .int .u64 (T.sub64 x y c).2]) w := by
    rcases hc with rfl | rfl <;> rfl
  rw [h]
  rfl
def T.carries (g : Int → Int → Int → Int × Int) (a b : List Int) : Nat → List Int × Int
  | 0 => (a, 0)
  | i + 1 => ((T.carries g a b i).1.set i (g (T.gi (T.carries g a b i).1 i) (T.gi b i) (T.carries g a b i).2).1, (g (T.gi (T.carries g a b i).1 i) (T.gi b i) (T.carries g a b i).2).2)
theorem T.carries_len (g : Int → Int → Int → Int × Int) (a b : List Int) (h : a.length = 4) : ∀ i, (T.carries g a b i).1.length = 4
  | 0 => h
  | i + 1 => by rw [T.carries, List.length_set, T.carries_len g a b h i]
def T.carry (g : Int → Int → Int → Int × Int) (a b : List Int) : List Int × Bool := ((T.carries g a b 4).1, (T.carries g a b 4).2 == 0)
theorem T.carry_calls (fn : Nat) (g : Int → Int → Int → Int × Int) (hcall : ∀ x y c w, (c = 0 ∨ c = 1) → (callFunc fn #[.int .u64 x, .int .u64 y, .int .u64 c]).run Tryz.prog w = .ok (.value (.tuple #[.int .u64 (g x y c).1, .int .u64 (g x y c).2])) w)
    (a b : List Int) (hg : ∀ i, (T.carries g a b i).2 = 0 ∨ (T.carries g a b i).2 = 1) (ha : a.length = 4) (hb : b.length = 4) (w : World) :
    Calls Tryz.prog 163 #[.agg (T.u64s a).toArray, .agg (T.u64s b).toArray, .func (.func fn) #[] #[]] w (T.E (.tuple #[.agg (T.u64s (T.carry g a b).1).toArray, .bool (T.carry g a b).2]) w) := by
  have hM := T.Mem.start w
  have HG := Aside0.mk hg
  clear hg
  generalize hP : T.E (.tuple #[.agg (T.u64s (T.carry g a b).1).toArray, .bool (T.carry g a b).2]) w = Post
  go_enter Tryz.func163, Tryz.ntmps163
  repeat' (first | ((((((with_reducible show wpList _ _ _ _ _ _); (refine T.w_o rfl ?_)))); first | ((with_reducible show T.OW _ ⟨_, .alloc _, _, _, _, _⟩ _ _ _ _); refine T.op_alloc _ rfl _ T.TZ.out hM ?_; clear hM; intro blk wld hM hlt) | ((with_reducible show T.OW _ ⟨_, .box _ _, _, _, _, _⟩ _ _ _ _); refine T.op_box _ _ rfl _ rfl hM ?_; clear hM; intro blk wld hM hlt)); (try simp only [Act.put, List.setIfInBounds_toArray, List.set_cons_zero, List.set_cons_succ])) | (go_step))
  obtain ⟨bx, rfl⟩ := T.n1 hM
  obtain ⟨b2, rfl⟩ := T.n2 hM
  obtain ⟨b3, rfl⟩ := T.n3 hM
  go_loopg [8, 10] 5 (fun kq v8 v10 Wd => ∃ i : Nat, v8 = .int .u64 (T.carries g a b i).2 ∧ v10 = .int .i64 i ∧ i ≤ 4 ∧ 4 - i < kq ∧ Aside0 (T.Mem w none Wd [.b bx 47 (T.u64s [0, 0, 0, 0]), .b b2 47 (T.u64s b), .b b3 47 (T.u64s (T.carries g a b i).1)]))
  case atStart => exact ⟨0, rfl, rfl, by omega, by omega, ⟨hM⟩⟩
  case round =>
    clear hM
    obtain ⟨i, rfl, rfl, hi, hg, hMo⟩ := hrel
    have hM := hMo.out
    clear hMo
    have hl := T.carries_len g a b ha i
    have hc := HG.out i
    by_cases hlt : i < 4
    · have hltz : (i : Int) < 4 := by omega
      have cb : decide ((i : Int) < 4) = true := decide_eq_true hltz
      have hi0 : (0 : Int) ≤ (i : Int) := by omega
      have hcc := fun x y w => hcall x y _ w hc
      clear hc hcall
      repeat' (first | ((with_reducible show Code.wp _ (Code.region 5 _ true) _ _ _); refine T.mregion 5 (.p 0 (.p 1 (.p 2 (.p 3 (.t 4 (.p 5 (.p 6 (.t 7 (.p 8 (.a 9 (.p 10 (.p 11 (.p 12 (.p 13 (.z 14 (.p 15 .nil)))))))))))))))) 14 (by kernel_rfl) (fun _ _ _ _ h => h) hM (List.Sublist.refl _) ?_; clear hM; intro wld hM) | (((first | ((with_reducible show wpList _ _ _ _ _ _); (refine T.w_o rfl ?_)) | (with_reducible show T.OW _ _ _ _ _ _)); (((with_reducible show T.OW _ ⟨_, .store _ _ _, _, _, _, _⟩ _ _ _ _); ((refine T.op_storeInt _ _ _ rfl _ _ rfl _ _ rfl _ _ hM (by (repeat (first | exact T.Sub.head _ | apply T.Sub.tail))) T.TN.out (by ((omega))) ?_; clear hM; intro wld hM))))); (try simp only [Act.put, List.setIfInBounds_toArray, List.set_cons_zero, List.set_cons_succ])) | ((with_reducible show T.Seq _ _ _ _ _ _ _); first | ((with_reducible show T.Seq _ _ _ (.p _ _) _ _ _); ((apply T.sq_p rfl rfl; (focus intro wS; ((go_simp; with_reducible rfl))); (try simp only [Act.put, List.setIfInBounds_toArray, List.set_cons_zero, List.set_cons_succ])))) | ((with_reducible show T.Seq _ _ _ (.t _ _) _ _ _); ((apply T.sq_t rfl rfl; (focus intro wS hS; (exact T.x_loadInt rfl rfl T.Fd.out T.TS.out (by ((omega))) hS)); (try simp only [Act.put, List.setIfInBounds_toArray, List.set_cons_zero, List.set_cons_succ])))) | ((with_reducible show T.Seq _ _ _ .nil _ _ _); refine T.sq_nil ?_) | ((with_reducible show T.Seq _ _ _ (.a _ _) _ _ _); refine T.sq_a rfl rfl (fun K hK => ?_)) | ((with_reducible show T.Seq _ _ _ (.z _ _) _ _ _); refine T.sq_z rfl rfl (fun K hK => ?_))) | (go_at_K; refine hK.out _ _ _ hM (by (repeat ((exact List.Sublist.refl _)))) ?_; clear hK K) | (go_at_K; refine hK.out _ _ _ hM ?_; clear hK K) | ((with_reducible show T.OW _ ⟨_, .call _, _, _, _, _⟩ _ _ _ _); refine T.OW.mk ?_; go_simp) | (go_step))
      go_roundg (4 - i)
      case measure => omega
      case rel => exact ⟨i + 1, rfl, by go_num, by omega, by omega, ⟨hM⟩⟩
    · have hiN : i = 4 := by omega
      have hltz : ¬ (i : Int) < 4 := by omega
      have cb : decide ((i : Int) < 4) = false := decide_eq_false hltz
      rw [hiN] at hM hl
      subst hiN
      repeat' (first | ((((((with_reducible show wpList _ _ _ _ _ _); (refine T.w_o rfl ?_)))); first | ((with_reducible show T.OW _ ⟨_, .load _ _, _, _, _, _⟩ _ _ _ _); ((refine T.ofx (T.x_loadAll rfl rfl T.Fd.out T.TU.out T.TN.out (by (((rw [encs_length]; with_reducible assumption)))) hM) ?_))) | ((with_reducible show T.OW _ ⟨_, .store _ _ _, _, _, _, _⟩ _ _ _ _); ((refine T.op_storeAll _ _ _ rfl _ rfl _ rfl _ _ hM (by (repeat ((exact T.Sub.head _)))) _ T.TN.out (by (((rw [encs_length]; with_reducible assumption)))) (by ((exact T.ones_encs _ _))) (by ((rfl))) ?_; clear hM; intro wld hM)))); (try simp only [Act.put, List.setIfInBounds_toArray, List.set_cons_zero, List.set_cons_succ])) | (go_step) | ((fail_if_success (with_reducible show T.Seq _ _ _ _ _ _ _)); (fail_if_success (with_reducible show T.OW _ _ _ _ _ _)); simp only [Int.not_lt, Int.not_le] at *; go_simp))
      (refine T.ret_ct rfl rfl _ rfl _ rfl _ _ hM T.Fd.out T.TU.out _ T.TN.out (by (((rw [encs_length]; with_reducible assumption)))) ?_)
      subst hP
      exact ⟨rfl, hM.below⟩
def T.wadd (a b : List Int) : List Int × Bool := T.carry T.add64 a b
def T.wsub (a b : List Int) : List Int × Bool := T.carry T.sub64 a b
theorem T.wadd_len (a b : List Int) (h : a.length = 4) : (T.wadd a b).1.length = 4 := T.carries_len _ _ _ h 4
theorem T.wsub_len (a b : List Int) (h : a.length = 4) : (T.wsub a b).1.length = 4 := T.carries_len _ _ _ h 4
def T.R64 (l : List Int) : Prop := ∀ i, 0 ≤ T.gi l i ∧ T.gi l i < 18446744073709551616
theorem T.gi_set (l : List Int) (i j : Nat) (x : Int) : T.gi (l.set i x) j = if i = j ∧ i < l.length then x else T.gi l j := by
  unfold T.gi
  rw [List.getD_eq_getElem?_getD, List.getD_eq_getElem?_getD, List.getElem?_set]
  by_cases h : i = j
  · subst h
    by_cases h2 : i < l.length
    · simp [h2]
    · simp [h2, List.getElem?_eq_none (Nat.le_of_not_lt h2)]
  · simp [h]
theorem T.R64_set {l : List Int} (h : T.R64 l) (i : Nat) {x : Int} (hx : 0 ≤ x ∧ x < 18446744073709551616) : T.R64 (l.set i x) := fun j => by
  rw [T.gi_set]
  split
  · exact hx
  · exact h j
theorem T.add64_out (x y c : Int) : 0 ≤ (T.add64 x y c).1 ∧ (T.add64 x y c).1 < 18446744073709551616 := by
  unfold T.add64
  omega
theorem T.sub64_out (x y c : Int) : 0 ≤ (T.sub64 x y c).1 ∧ (T.sub64 x y c).1 < 18446744073709551616 := by
  unfold T.sub64
  omega
theorem T.carries_R (g : Int → Int → Int → Int × Int) (hg : ∀ x y c, 0 ≤ (g x y c).1 ∧ (g x y c).1 < 18446744073709551616) (a b : List Int) (h : T.R64 a) : ∀ i, T.R64 (T.carries g a b i).1
  | 0 => h
  | i + 1 => T.R64_set (T.carries_R g hg a b h i) i (hg _ _ _)
theorem T.add_bits (a b : List Int) (ha : T.R64 a) (hb : T.R64 b) : ∀ i, (T.carries T.add64 a b i).2 = 0 ∨ (T.carries T.add64 a b i).2 = 1
  | 0 => .inl rfl
  | i + 1 => by
    have h1 := T.carries_R T.add64 T.add64_out a b ha i i
    have h2 := hb i
    have h3 := T.add_bits a b ha hb i
    rw [T.carries]
    generalize T.gi (T.carries T.add64 a b i).1 i = x at h1 ⊢
    generalize T.gi b i = y at h2 ⊢
    generalize (T.carries T.add64 a b i).2 = c at h3 ⊢
    show (T.add64 x y c).2 = 0 ∨ (T.add64 x y c).2 = 1
    unfold T.add64
    show (((x.toNat + y.toNat + c.toNat) / 18446744073709551616 : Nat) : Int) = 0 ∨ (((x.toNat + y.toNat + c.toNat) / 18446744073709551616 : Nat) : Int) = 1
    omega
theorem T.sub_bits (a b : List Int) : ∀ i, (T.carries T.sub64 a b i).2 = 0 ∨ (T.carries T.sub64 a b i).2 = 1
  | 0 => .inl rfl
  | i + 1 => by
    rw [T.carries]
    show (T.sub64 _ _ _).2 = 0 ∨ (T.sub64 _ _ _).2 = 1
    unfold T.sub64
    split <;> simp
theorem T.wadd_R (a b : List Int) (h : T.R64 a) : T.R64 (T.wadd a b).1 := T.carries_R T.add64 T.add64_out a b h 4
theorem T.wsub_R (a b : List Int) (h : T.R64 a) : T.R64 (T.wsub a b).1 := T.carries_R T.sub64 T.sub64_out a b h 4
theorem T.wadd_calls (a b : List Int) (ha : a.length = 4) (hb : b.length = 4) (hra : T.R64 a) (hrb : T.R64 b) (w : World) :
    Calls Tryz.prog 134 #[.agg (T.u64s a).toArray, .agg (T.u64s b).toArray] w (T.E (.tuple #[.agg (T.u64s (T.wadd a b).1).toArray, .bool (T.wadd a b).2]) w) := by
  have hM := T.Mem.start w
  have hl : (T.carry T.add64 a b).1.length = 4 := T.wadd_len a b ha
  have hB := Aside0.mk (T.add_bits a b hra hrb)
  generalize hP : T.E (.tuple #[.agg (T.u64s (T.wadd a b).1).toArray, .bool (T.wadd a b).2]) w = Post
  go_enter Tryz.func134, Tryz.ntmps134
  repeat' (first | (go_at_call 163; refine (T.carry_calls _ T.add64 (fun x y c w h => T.add64_run x y c h w) a b hB.out ha hb _).mono ?_; rintro _ _ ⟨rfl, hbc⟩; replace hM := hM.call hbc; clear hbc) | ((((((with_reducible show wpList _ _ _ _ _ _); (refine T.w_o rfl ?_)))); first | ((with_reducible show T.OW _ ⟨_, .load _ _, _, _, _, _⟩ _ _ _ _); ((refine T.ofx (T.x_loadAll rfl rfl T.Fd.out T.TU.out T.TN.out (by (((rw [encs_length]; with_reducible assumption)))) hM) ?_))) | ((with_reducible show T.OW _ ⟨_, .store _ _ _, _, _, _, _⟩ _ _ _ _); ((refine T.op_storeAll _ _ _ rfl _ rfl _ rfl _ _ hM (by (repeat ((exact T.Sub.head _)))) _ T.TN.out (by (((rw [encs_length]; with_reducible assumption)))) (by ((exact T.ones_encs _ _))) (by ((rfl))) ?_; clear hM; intro wld hM))) | ((with_reducible show T.OW _ ⟨_, .alloc _, _, _, _, _⟩ _ _ _ _); refine T.op_alloc _ rfl _ T.TZ.out hM ?_; clear hM; intro blk wld hM hlt) | ((with_reducible show T.OW _ ⟨_, .box _ _, _, _, _, _⟩ _ _ _ _); refine T.op_box _ _ rfl _ rfl hM ?_; clear hM; intro blk wld hM hlt)); (try simp only [Act.put, List.setIfInBounds_toArray, List.set_cons_zero, List.set_cons_succ])) | (go_step) | ((fail_if_success (with_reducible show T.Seq _ _ _ _ _ _ _)); (fail_if_success (with_reducible show T.OW _ _ _ _ _ _)); simp only [Int.not_lt, Int.not_le] at *; go_simp))
  (refine T.ret_ct rfl rfl _ rfl _ rfl _ _ hM T.Fd.out T.TU.out _ T.TN.out (by (((rw [encs_length]; with_reducible assumption)))) ?_)
  subst hP
  exact ⟨rfl, hM.below⟩
theorem T.wsub_calls (a b : List Int) (ha : a.length = 4) (hb : b.length = 4) (w : World) :
    Calls Tryz.prog 196 #[.agg (T.u64s a).toArray, .agg (T.u64s b).toArray] w (T.E (.tuple #[.agg (T.u64s (T.wsub a b).1).toArray, .bool (T.wsub a b).2]) w) := by
  have hM := T.Mem.start w
  have hl : (T.carry T.sub64 a b).1.length = 4 := T.wsub_len a b ha
  have hB := Aside0.mk (T.sub_bits a b)
  generalize hP : T.E (.tuple #[.agg (T.u64s (T.wsub a b).1).toArray, .bool (T.wsub a b).2]) w = Post
  go_enter Tryz.func196, Tryz.ntmps196
  repeat' (first | (go_at_call 163; refine (T.carry_calls _ T.sub64 (fun x y c w h => T.sub64_run x y c h w) a b hB.out ha hb _).mono ?_; rintro _ _ ⟨rfl, hbc⟩; replace hM := hM.call hbc; clear hbc) | ((((((with_reducible show wpList _ _ _ _ _ _); (refine T.w_o rfl ?_)))); first | ((with_reducible show T.OW _ ⟨_, .load _ _, _, _, _, _⟩ _ _ _ _); ((refine T.ofx (T.x_loadAll rfl rfl T.Fd.out T.TU.out T.TN.out (by (((rw [encs_length]; with_reducible assumption)))) hM) ?_))) | ((with_reducible show T.OW _ ⟨_, .store _ _ _, _, _, _, _⟩ _ _ _ _); ((refine T.op_storeAll _ _ _ rfl _ rfl _ rfl _ _ hM (by (repeat ((exact T.Sub.head _)))) _ T.TN.out (by (((rw [encs_length]; with_reducible assumption)))) (by ((exact T.ones_encs _ _))) (by ((rfl))) ?_; clear hM; intro wld hM))) | ((with_reducible show T.OW _ ⟨_, .alloc _, _, _, _, _⟩ _ _ _ _); refine T.op_alloc _ rfl _ T.TZ.out hM ?_; clear hM; intro blk wld hM hlt) | ((with_reducible show T.OW _ ⟨_, .box _ _, _, _, _, _⟩ _ _ _ _); refine T.op_box _ _ rfl _ rfl hM ?_; clear hM; intro blk wld hM hlt)); (try simp only [Act.put, List.setIfInBounds_toArray, List.set_cons_zero, List.set_cons_succ])) | (go_step) | ((fail_if_success (with_reducible show T.Seq _ _ _ _ _ _ _)); (fail_if_success (with_reducible show T.OW _ _ _ _ _ _)); simp only [Int.not_lt, Int.not_le] at *; go_simp))
  (refine T.ret_ct rfl rfl _ rfl _ rfl _ _ hM T.Fd.out T.TU.out _ T.TN.out (by (((rw [encs_length]; with_reducible assumption)))) ?_)
  subst hP
  exact ⟨rfl, hM.below⟩
attribute [irreducible] T.wadd T.wsub
end Go.Proofs.YtdklknfgcepcbaaGreat.X
