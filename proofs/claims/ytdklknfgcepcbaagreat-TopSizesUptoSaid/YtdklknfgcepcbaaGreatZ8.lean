/- Texts of this proof, laid together by wip/tools/pack.py: TC. -/
import Derived.Test.YtdklknfgcepcbaaGreatZ7
namespace Go.Proofs.YtdklknfgcepcbaaGreat.X
open Go.RowKit Go.Proofs.YtdklknfgcepcbaaGreatW.PrintWords Go.Proofs.YtdklknfgcepcbaaGreatW.PrintLast Go.Proofs.YtdklknfgcepcbaaGreatW.PrintMore
set_option linter.unusedSimpArgs false
set_option linter.unusedVariables false
set_option maxHeartbeats 2000000
set_option maxRecDepth 20000
def T.u32 (x : Int) : Int := IntKind.u32.wrap x
def T.four (b : List Int) (i : Nat) : Int :=
  Go.bits .or .u32 (Go.bits .or .u32 (Go.bits .or .u32 (T.u32 (T.u32 (T.gi b (4 * i)) * 16777216)) (T.u32 (T.u32 (T.gi b (4 * i + 1)) * 65536))) (T.u32 (T.u32 (T.gi b (4 * i + 2)) * 256))) (T.u32 (T.gi b (4 * i + 3)))
def T.xor (x y : Int) : Int := Go.bits .xor .u32 x y
def T.mix (W : List Int) (i : Nat) : Int :=
  T.u32 (T.u32 (T.u32 (T.gi W (i - 16) + T.gi W (i - 7)) + T.xor (T.xor (T.right (T.gi W (i - 15)) 7) (T.right (T.gi W (i - 15)) 18)) (T.gi W (i - 15) / 8)) + T.xor (T.xor (T.right (T.gi W (i - 2)) 17) (T.right (T.gi W (i - 2)) 19)) (T.gi W (i - 2) / 1024))
def T.word (b W : List Int) (i : Nat) : Int := if i < 16 then T.four b i else T.mix W i
def T.sch (b : List Int) : Nat → List Int
  | 0 => List.replicate 64 0
  | i + 1 => (T.sch b i).set i (T.word b (T.sch b i) i)
theorem T.sch_len (b : List Int) : ∀ i, (T.sch b i).length = 64
  | 0 => by rw [T.sch, List.length_replicate]
  | i + 1 => by rw [T.sch, List.length_set, T.sch_len b i]
def T.and (x y : Int) : Int := Go.bits .and .u32 x y
def T.not (x : Int) : Int := Go.bits .xor .u32 (if IntKind.u32.signed = true then -1 else IntKind.u32.max) x
def T.rndX (W v : List Int) (i : Nat) : Int :=
  T.gi v 7 + T.xor (T.xor (T.right (T.gi v 4) 6) (T.right (T.gi v 4) 11)) (T.right (T.gi v 4) 25) + T.xor (T.and (T.gi v 4) (T.gi v 5)) (T.and (T.not (T.gi v 4)) (T.gi v 6)) + T.gi T.num i + T.gi W i
def T.rndY (v : List Int) : Int :=
  T.xor (T.xor (T.right (T.gi v 0) 2) (T.right (T.gi v 0) 13)) (T.right (T.gi v 0) 22) + T.xor (T.xor (T.and (T.gi v 0) (T.gi v 1)) (T.and (T.gi v 0) (T.gi v 2))) (T.and (T.gi v 1) (T.gi v 2))
def T.rnd (W v : List Int) (i : Nat) : List Int :=
  [(T.rndX W v i + T.rndY v) % 4294967296, T.gi v 0, T.gi v 1, T.gi v 2, (T.gi v 3 + T.rndX W v i) % 4294967296, T.gi v 4, T.gi v 5, T.gi v 6]
def T.rnds (W v : List Int) : Nat → List Int
  | 0 => v
  | i + 1 => T.rnd W (T.rnds W v i) i
theorem T.rnds_len (W v : List Int) (h : v.length = 8) : ∀ i, (T.rnds W v i).length = 8
  | 0 => h
  | _ + 1 => rfl
def T.sums (st v : List Int) : Nat → List Int
  | 0 => st
  | i + 1 => (T.sums st v i).set i (T.u32 (T.gi (T.sums st v i) i + T.gi v i))
theorem T.sums_len (st v : List Int) (h : st.length = 8) : ∀ i, (T.sums st v i).length = 8
  | 0 => h
  | i + 1 => by rw [T.sums, List.length_set, T.sums_len st v h i]
def T.add (st b : List Int) : List Int := T.sums st (T.rnds (T.sch b 64) st 64) 8
theorem T.add_len (st b : List Int) (h : st.length = 8) : (T.add st b).length = 8 := T.sums_len _ _ h 8
def T.AddEnd (sb : Nat) (st bs : List Int) (w : World) (e : Ending) (w' : World) : Prop := e = .returned (.tuple #[]) ∧ w.grownBy w' (some sb) ∧ w'.heap[sb]? = some (.cells (encs (Value.int .u32) (T.add st bs)).toArray 188)
set_option maxHeartbeats 4000000 in
set_option maxRecDepth 100000 in
theorem T.add_calls (w : World) (sb : Nat) (st bs : List Int) (bb bo : Nat) (c : Nat) (hs : w.heap[sb]? = some (.cells (encs (Value.int .u32) st).toArray 188)) (hst : st.length = 8)
    (hb : w.rangeAt bb bo (T.u8s bs)) (hbl : bs.length = 64) (hne : some sb ≠ some bb) : Calls Tryz.prog 104 #[.pointer (some ⟨sb, 0, none⟩), .slice (some ⟨bb, bo, none⟩) 64 c] w (T.AddEnd sb st bs w) := by
  have hM := T.Mem.startF w hs
  have HB := Aside0.mk hb
  have HNE := Aside0.mk hne
  clear hb hne hs
  generalize hP : T.AddEnd sb st bs w = Post
  go_enter Tryz.func104, Tryz.ntmps104
  repeat' (first | ((((((with_reducible show wpList _ _ _ _ _ _); (refine T.w_o rfl ?_)))); (((with_reducible show T.OW _ ⟨_, .alloc _, _, _, _, _⟩ _ _ _ _); refine T.op_alloc _ rfl _ T.TZ.out hM ?_; clear hM; intro blk wld hM hlt))); (try simp only [Act.put, List.setIfInBounds_toArray, List.set_cons_zero, List.set_cons_succ])) | (go_step))
  go_loopg [17] 64 (fun kq v17 W => ∃ i : Nat, v17 = .int .i64 i ∧ i ≤ 64 ∧ 64 - i ≤ kq ∧ Aside0 (T.Mem w (some sb) W [.b blk 226 (encs (Value.int .u32) (T.sch bs i)), .b sb 188 (encs (Value.int .u32) st)]))
  case atStart =>
    exact ⟨0, rfl, by omega, by omega, ⟨hM⟩⟩
  case round =>
    obtain ⟨i, rfl, hi, hg, hMo⟩ := hrel
    by_cases hlt : i < 64
    ·
      have hltz : (i : Int) < 64 := by omega
      have cb : decide ((i : Int) < 64) = true := decide_eq_true hltz
      have hM := hMo.out
      by_cases h16 : i < 16
      · have h16z : (i : Int) < 16 := by omega
        have c16 : decide ((i : Int) < 16) = true := decide_eq_true h16z
        have hl := T.sch_len bs i
        have e0 : IntKind.i64.wrap (4 * (i : Int)) = 4 * (i : Int) := T.w64 (by omega) (by omega)
        have e1 : IntKind.i64.wrap (4 * (i : Int) + 1) = 4 * (i : Int) + 1 := T.w64 (by omega) (by omega)
        have e2 : IntKind.i64.wrap (4 * (i : Int) + 2) = 4 * (i : Int) + 2 := T.w64 (by omega) (by omega)
        have e3 : IntKind.i64.wrap (4 * (i : Int) + 3) = 4 * (i : Int) + 3 := T.w64 (by omega) (by omega)
        have p0 : (0 : Int) ≤ 4 * (i : Int) := by omega
        have p1 : (0 : Int) ≤ 4 * (i : Int) + 1 := by omega
        have p2 : (0 : Int) ≤ 4 * (i : Int) + 2 := by omega
        have p3 : (0 : Int) ≤ 4 * (i : Int) + 3 := by omega
        have q0 : 4 * (i : Int) < 64 := by omega
        have q1 : 4 * (i : Int) + 1 < 64 := by omega
        have q2 : 4 * (i : Int) + 2 < 64 := by omega
        have q3 : 4 * (i : Int) + 3 < 64 := by omega
        have t0 : (4 * (i : Int)).toNat = 4 * i := by omega
        have t1 : (4 * (i : Int) + 1).toNat = 4 * i + 1 := by omega
        have t2 : (4 * (i : Int) + 2).toNat = 4 * i + 2 := by omega
        have t3 : (4 * (i : Int) + 3).toNat = 4 * i + 3 := by omega
        repeat' (first | ((with_reducible show Code.wp _ (Code.region 5 _ true) _ _ _); refine T.mregion 5 (.p 0 (.p 1 (.p 2 (.p 3 (.p 4 (.t 5 (.p 6 (.p 7 (.p 8 (.p 9 (.p 10 (.p 11 (.p 12 (.t 13 (.p 14 (.p 15 (.p 16 (.p 17 (.p 18 (.p 19 (.p 20 (.p 21 (.t 22 (.p 23 (.p 24 (.p 25 (.p 26 (.p 27 (.p 28 (.p 29 (.p 30 (.t 31 (.p 32 (.p 33 (.p 34 (.z 35 .nil)))))))))))))))))))))))))))))))))))) 35 (by kernel_rfl) (fun _ _ _ _ h => h) hM (List.Sublist.refl _) ?_; clear hM; intro wld hM) | (((first | ((with_reducible show wpList _ _ _ _ _ _); (refine T.w_o rfl ?_)) | (with_reducible show T.OW _ _ _ _ _ _)); (((with_reducible show T.OW _ ⟨_, .store _ _ _, _, _, _, _⟩ _ _ _ _); ((refine T.op_storeInt _ _ _ rfl _ _ rfl _ _ rfl _ _ hM (by (repeat ((exact T.Sub.head _)))) T.TN.out (by ((omega))) ?_; clear hM; intro wld hM))))); (try simp only [Act.put, List.setIfInBounds_toArray, List.set_cons_zero, List.set_cons_succ])) | ((with_reducible show T.Seq _ _ _ _ _ _ _); first | ((with_reducible show T.Seq _ _ _ (.p _ _) _ _ _); ((apply T.sq_p rfl rfl; (focus intro wS; ((go_simp; with_reducible rfl))); (try simp only [Act.put, List.setIfInBounds_toArray, List.set_cons_zero, List.set_cons_succ])))) | ((with_reducible show T.Seq _ _ _ (.t _ _) _ _ _); ((apply T.sq_t rfl rfl; (focus intro wS hS; (exact T.x_rgInt rfl rfl (T.range_kept HB.out hS.grown HNE.out) T.TS.out (by ((omega))))); (try simp only [Act.put, List.setIfInBounds_toArray, List.set_cons_zero, List.set_cons_succ])))) | ((with_reducible show T.Seq _ _ _ .nil _ _ _); refine T.sq_nil ?_) | ((with_reducible show T.Seq _ _ _ (.z _ _) _ _ _); refine T.sq_z rfl rfl (fun K hK => ?_))) | (go_at_K; refine hK.out _ _ _ hM ?_; clear hK K) | (go_step))
        go_roundg (64 - (i + 1))
        case measure => omega
        case rel =>
          refine ⟨i + 1, by go_num, by omega, by omega, ⟨?_⟩⟩
          rw [T.sch, T.word, if_pos h16]
          exact hM
      · have h16z : ¬ (i : Int) < 16 := by omega
        have c16 : decide ((i : Int) < 16) = false := decide_eq_false h16z
        have hl := T.sch_len bs i
        have e15 : IntKind.i64.wrap ((i : Int) - 15) = (i : Int) - 15 := T.w64 (by omega) (by omega)
        have p15 : (0 : Int) ≤ (i : Int) - 15 := by omega
        have q15 : (i : Int) - 15 < 64 := by omega
        have r15 : (15 : Int) ≤ (i : Int) := by omega
        have t15 : ((i : Int) - 15).toNat = i - 15 := by omega
        have e2 : IntKind.i64.wrap ((i : Int) - 2) = (i : Int) - 2 := T.w64 (by omega) (by omega)
        have p2 : (0 : Int) ≤ (i : Int) - 2 := by omega
        have q2 : (i : Int) - 2 < 64 := by omega
        have r2 : (2 : Int) ≤ (i : Int) := by omega
        have t2 : ((i : Int) - 2).toNat = i - 2 := by omega
        have e16 : IntKind.i64.wrap ((i : Int) - 16) = (i : Int) - 16 := T.w64 (by omega) (by omega)
        have p16 : (0 : Int) ≤ (i : Int) - 16 := by omega
        have q16 : (i : Int) - 16 < 64 := by omega
        have r16 : (16 : Int) ≤ (i : Int) := by omega
        have t16 : ((i : Int) - 16).toNat = i - 16 := by omega
        have e7 : IntKind.i64.wrap ((i : Int) - 7) = (i : Int) - 7 := T.w64 (by omega) (by omega)
        have p7 : (0 : Int) ≤ (i : Int) - 7 := by omega
        have q7 : (i : Int) - 7 < 64 := by omega
        have r7 : (7 : Int) ≤ (i : Int) := by omega
        have t7 : ((i : Int) - 7).toNat = i - 7 := by omega
        repeat' (first | ((with_reducible show Code.wp _ (Code.region 6 _ true) _ _ _); refine T.mregion 6 (.p 0 (.p 1 (.p 2 (.t 3 (.p 4 (.p 5 (.p 6 (.t 7 (.p 8 (.p 9 .nil)))))))))) 1000 (by kernel_rfl) (fun _ _ _ _ h => h) hM (List.Sublist.refl _) ?_; clear hM; intro wld hM) | ((with_reducible show Code.wp _ (Code.region 7 _ true) _ _ _); refine T.mregion 7 (.p 0 (.p 1 (.p 2 (.p 3 (.t 4 (.p 5 (.p 6 (.p 7 (.t 8 (.p 9 (.p 10 (.p 12 (.p 15 (.p 16 (.p 19 (.p 21 (.p 24 (.p 25 (.a 11 (.a 13 (.p 14 (.p 17 (.p 18 (.a 20 (.a 22 (.p 23 (.p 26 (.p 27 (.p 28 (.z 29 .nil)))))))))))))))))))))))))))))) 29 (by kernel_rfl) (fun _ _ _ _ h => h) hM (List.Sublist.refl _) ?_; clear hM; intro wld hM) | (go_at_call 139; refine (T.right_calls _ _ (by decide) _).mono ?_; rintro _ _ ⟨rfl, hbc⟩; replace hM := hM.call hbc; clear hbc) | (((first | ((with_reducible show wpList _ _ _ _ _ _); (refine T.w_o rfl ?_)) | (with_reducible show T.OW _ _ _ _ _ _)); (((with_reducible show T.OW _ ⟨_, .store _ _ _, _, _, _, _⟩ _ _ _ _); ((refine T.op_storeInt _ _ _ rfl _ _ rfl _ _ rfl _ _ hM (by (repeat ((exact T.Sub.head _)))) T.TN.out (by ((omega))) ?_; clear hM; intro wld hM))))); (try simp only [Act.put, List.setIfInBounds_toArray, List.set_cons_zero, List.set_cons_succ])) | ((with_reducible show T.Seq _ _ _ _ _ _ _); first | ((with_reducible show T.Seq _ _ _ (.p _ _) _ _ _); ((apply T.sq_p rfl rfl; (focus intro wS; ((go_simp; with_reducible rfl))); (try simp only [Act.put, List.setIfInBounds_toArray, List.set_cons_zero, List.set_cons_succ])))) | ((with_reducible show T.Seq _ _ _ (.t _ _) _ _ _); ((apply T.sq_t rfl rfl; (focus intro wS hS; (exact T.x_loadInt rfl rfl T.Fd.out T.TS.out (by ((omega))) hS)); (try simp only [Act.put, List.setIfInBounds_toArray, List.set_cons_zero, List.set_cons_succ])))) | ((with_reducible show T.Seq _ _ _ .nil _ _ _); refine T.sq_nil ?_) | ((with_reducible show T.Seq _ _ _ (.a _ _) _ _ _); refine T.sq_a rfl rfl (fun K hK => ?_)) | ((with_reducible show T.Seq _ _ _ (.z _ _) _ _ _); refine T.sq_z rfl rfl (fun K hK => ?_))) | (go_at_K; refine hK.out _ _ _ hM (by (repeat ((exact List.Sublist.refl _)))) ?_; clear hK K) | (go_at_K; refine hK.out _ _ _ hM ?_; clear hK K) | ((with_reducible show T.OW _ ⟨_, .call _, _, _, _, _⟩ _ _ _ _); refine T.OW.mk ?_; go_simp) | (go_step) | ((fail_if_success (with_reducible show T.Seq _ _ _ _ _ _ _)); (fail_if_success (with_reducible show T.OW _ _ _ _ _ _)); simp only [Int.not_lt, Int.not_le] at *; go_simp))
        go_roundg (64 - (i + 1))
        case measure => omega
        case rel =>
          refine ⟨i + 1, by go_num, by omega, by omega, ⟨?_⟩⟩
          rw [T.sch, T.word, if_neg (by omega)]
          exact hM
    · have hi64 : i = 64 := by omega
      have hltz : ¬ (i : Int) < 64 := by omega
      have cb : decide ((i : Int) < 64) = false := decide_eq_false hltz
      have hM := hMo.out
      rw [hi64] at hM
      have hl := T.sch_len bs 64
      clear hMo
      generalize hW : T.sch bs 64 = W at hM hl ⊢
      have hnl := T.num_len
      repeat' (first | (go_at_call 140; refine (T.numbers_calls _).mono ?_; rintro _ _ ⟨rfl, hbc⟩; replace hM := hM.call hbc; clear hbc) | ((((((with_reducible show wpList _ _ _ _ _ _); (refine T.w_o rfl ?_)))); first | ((with_reducible show T.OW _ ⟨_, .load _ _, _, _, _, _⟩ _ _ _ _); ((refine T.ofx (T.x_loadAll rfl rfl T.Fd.out T.TU.out T.TN.out (by (((rw [encs_length]; with_reducible assumption)))) hM) ?_))) | ((with_reducible show T.OW _ ⟨_, .store _ _ _, _, _, _, _⟩ _ _ _ _); ((refine T.op_storeAll _ _ _ rfl _ rfl _ rfl _ _ hM (by (repeat ((exact T.Sub.head _)))) _ T.TN.out (by (((rw [encs_length]; with_reducible assumption)))) (by ((exact T.ones_encs _ _))) (by ((rfl))) ?_; clear hM; intro wld hM))) | ((with_reducible show T.OW _ ⟨_, .alloc _, _, _, _, _⟩ _ _ _ _); refine T.op_alloc _ rfl _ T.TZ.out hM ?_; clear hM; intro blk wld hM hlt)); (try simp only [Act.put, List.setIfInBounds_toArray, List.set_cons_zero, List.set_cons_succ])) | (go_step) | ((fail_if_success (with_reducible show T.Seq _ _ _ _ _ _ _)); (fail_if_success (with_reducible show T.OW _ _ _ _ _ _)); simp only [Int.not_lt, Int.not_le] at *; go_simp))
      obtain ⟨bv, rfl⟩ := T.n1 hM
      obtain ⟨bk, rfl⟩ := T.n2 hM
      obtain ⟨bw, rfl⟩ := T.n3 hM
      go_loopg [99] 64 (fun kq v99 Wd => ∃ i : Nat, v99 = .int .i64 i ∧ i ≤ 64 ∧ 64 - i ≤ kq ∧ Aside0 (T.Mem w (some sb) Wd [.b bv 188 (encs (Value.int .u32) (T.rnds W st i)), .b bk 226 (encs (Value.int .u32) T.num), .b bw 226 (encs (Value.int .u32) W), .b sb 188 (encs (Value.int .u32) st)]))
      case atStart => exact ⟨0, rfl, by omega, by omega, ⟨hM⟩⟩
      case round =>
        clear hM
        obtain ⟨i, rfl, hi, hg, hMo⟩ := hrel
        have hM := hMo.out
        have hr := T.rnds_len W st hst i
        clear hMo
        by_cases hlt : i < 64
        ·
          have hltz : (i : Int) < 64 := by omega
          have cb : decide ((i : Int) < 64) = true := decide_eq_true hltz
          repeat' (first | ((with_reducible show Code.wp _ (Code.region 14 _ true) _ _ _); refine T.mregion 14 (.p 0 (.t 1 (.p 2 (.t 3 (.p 4 (.p 5 .nil)))))) 1000 (by kernel_rfl) (fun _ _ _ _ h => h) hM (List.Sublist.refl _) ?_; clear hM; intro wld hM) | ((with_reducible show Code.wp _ (Code.region 15 _ true) _ _ _); refine T.mregion 15 (.p 0 (.t 1 (.p 2 (.p 4 (.p 7 (.p 11 (.p 12 (.t 13 (.p 14 (.p 15 (.p 16 (.p 17 (.t 18 (.p 19 (.p 20 (.p 22 (.p 23 (.t 24 (.p 26 (.p 27 (.t 28 (.a 3 (.a 5 (.p 6 (.a 8 (.p 9 (.p 10 (.p 21 (.p 25 (.p 29 (.p 30 .nil))))))))))))))))))))))))))))))) 1000 (by kernel_rfl) (fun _ _ _ _ h => h) hM (List.Sublist.refl _) ?_; clear hM; intro wld hM) | ((with_reducible show Code.wp _ (Code.region 16 _ true) _ _ _); refine T.mregion 16 (.p 0 (.p 2 (.p 5 (.p 8 (.p 9 (.t 10 (.p 11 (.p 12 (.p 13 (.t 14 (.p 15 (.p 16 (.p 17 (.t 18 (.p 19 (.t 20 (.p 21 (.p 22 (.a 1 (.a 3 (.p 4 (.a 6 (.p 7 (.p 23 (.p 24 .nil))))))))))))))))))))))))) 1000 (by kernel_rfl) (fun _ _ _ _ h => h) hM (List.Sublist.refl _) ?_; clear hM; intro wld hM) | (go_at_call 139; refine (T.right_calls _ _ (by decide) _).mono ?_; rintro _ _ ⟨rfl, hbc⟩; replace hM := hM.call hbc; clear hbc) | (((first | ((with_reducible show wpList _ _ _ _ _ _); (refine T.w_o rfl ?_)) | (with_reducible show T.OW _ _ _ _ _ _)); first | ((with_reducible show T.OW _ ⟨_, .load _ _, _, _, _, _⟩ _ _ _ _); ((refine T.ofx (T.x_loadInt rfl rfl T.Fd.out T.TS.out (by ((omega))) hM) ?_))) | ((with_reducible show T.OW _ ⟨_, .store _ _ _, _, _, _, _⟩ _ _ _ _); ((refine T.op_storeAll _ _ _ rfl _ rfl _ rfl _ _ hM (by (repeat ((exact T.Sub.head _)))) _ T.TN.out (by ((rfl))) (by ((exact T.ones_all rfl))) (by (((rw [encs_length]; with_reducible assumption)))) ?_; clear hM; intro wld hM)))); (try simp only [Act.put, List.setIfInBounds_toArray, List.set_cons_zero, List.set_cons_succ])) | ((with_reducible show T.Seq _ _ _ _ _ _ _); first | ((with_reducible show T.Seq _ _ _ (.p _ _) _ _ _); ((apply T.sq_p rfl rfl; (focus intro wS; ((go_simp; with_reducible rfl))); (try simp only [Act.put, List.setIfInBounds_toArray, List.set_cons_zero, List.set_cons_succ])))) | ((with_reducible show T.Seq _ _ _ (.t _ _) _ _ _); ((apply T.sq_t rfl rfl; (focus intro wS hS; (exact T.x_loadInt rfl rfl T.Fd.out T.TS.out (by ((omega))) hS)); (try simp only [Act.put, List.setIfInBounds_toArray, List.set_cons_zero, List.set_cons_succ])))) | ((with_reducible show T.Seq _ _ _ .nil _ _ _); refine T.sq_nil ?_) | ((with_reducible show T.Seq _ _ _ (.a _ _) _ _ _); refine T.sq_a rfl rfl (fun K hK => ?_))) | (go_at_K; refine hK.out _ _ _ hM (by (repeat ((exact List.Sublist.refl _)))) ?_; clear hK K) | ((with_reducible show T.OW _ ⟨_, .call _, _, _, _, _⟩ _ _ _ _); refine T.OW.mk ?_; go_simp) | (go_step) | ((fail_if_success (with_reducible show T.Seq _ _ _ _ _ _ _)); (fail_if_success (with_reducible show T.OW _ _ _ _ _ _)); simp only [Int.not_lt, Int.not_le] at *; go_simp))
          go_roundg (64 - (i + 1))
          case measure => omega
          case rel =>
            refine ⟨i + 1, by go_num, by omega, by omega, ⟨?_⟩⟩
            exact hM
        ·
          have hi64 : i = 64 := by omega
          have hltz : ¬ (i : Int) < 64 := by omega
          have cb : decide ((i : Int) < 64) = false := decide_eq_false hltz
          rw [hi64] at hM hr
          generalize hV : T.rnds W st 64 = V at hM hr ⊢
          repeat' (first | ((((((with_reducible show wpList _ _ _ _ _ _); (refine T.w_o rfl ?_)))); (((with_reducible show T.OW _ ⟨_, .load _ _, _, _, _, _⟩ _ _ _ _); ((refine T.ofx (T.x_loadAll rfl rfl T.Fd.out T.TU.out T.TN.out (by (((rw [encs_length]; with_reducible assumption)))) hM) ?_))))); (try simp only [Act.put, List.setIfInBounds_toArray, List.set_cons_zero, List.set_cons_succ])) | (go_step) | ((fail_if_success (with_reducible show T.Seq _ _ _ _ _ _ _)); (fail_if_success (with_reducible show T.OW _ _ _ _ _ _)); simp only [Int.not_lt, Int.not_le] at *; go_simp))
          go_loopg [180] 8 (fun kq v180 Wd => ∃ i : Nat, v180 = .int .i64 i ∧ i ≤ 8 ∧ 8 - i ≤ kq ∧ Aside0 (T.Mem w (some sb) Wd [.b bv 188 (encs (Value.int .u32) V), .b bk 226 (encs (Value.int .u32) T.num), .b bw 226 (encs (Value.int .u32) W), .b sb 188 (encs (Value.int .u32) (T.sums st V i))]))
          case atStart => exact ⟨0, rfl, by omega, by omega, ⟨hM⟩⟩
          case round =>
            clear hM
            obtain ⟨i, rfl, hi, hg, hMo⟩ := hrel
            have hM := hMo.out
            have hs := T.sums_len st V hst i
            clear hMo
            by_cases hlt : i < 8
            · have hltz : (i : Int) < 8 := by omega
              have cb : decide ((i : Int) < 8) = true := decide_eq_true hltz
              have hi0 : (0 : Int) ≤ (i : Int) := by omega
              repeat' (first | ((with_reducible show Code.wp _ (Code.region 22 _ true) _ _ _); refine T.mregion 22 (.p 0 (.p 1 (.p 2 (.p 3 (.t 4 (.p 5 (.p 6 (.p 7 (.p 8 (.z 9 .nil)))))))))) 9 (by kernel_rfl) (fun _ _ _ _ h => h) hM (List.Sublist.refl _) ?_; clear hM; intro wld hM) | (((first | ((with_reducible show wpList _ _ _ _ _ _); (refine T.w_o rfl ?_)) | (with_reducible show T.OW _ _ _ _ _ _)); first | ((with_reducible show T.OW _ ⟨_, .store _ _ _, _, _, _, _⟩ _ _ _ _); ((refine T.op_storeInt _ _ _ rfl _ _ rfl _ _ rfl _ _ hM (by (repeat (first | exact T.Sub.head _ | apply T.Sub.tail))) T.TN.out (by ((omega))) ?_; clear hM; intro wld hM))) | ((with_reducible show T.OW _ ⟨_, .index _ _ _, _, _, _, _⟩ _ _ _ _); refine T.ofx (T.x_index rfl rfl rfl T.TA.out T.TS.out T.TN.out (by ((with_reducible assumption))) (by ((omega))) (by ((with_reducible assumption)))) ?_)); (try simp only [Act.put, List.setIfInBounds_toArray, List.set_cons_zero, List.set_cons_succ])) | ((with_reducible show T.Seq _ _ _ _ _ _ _); first | ((with_reducible show T.Seq _ _ _ (.p _ _) _ _ _); ((apply T.sq_p rfl rfl; (focus intro wS; ((go_simp; with_reducible rfl))); (try simp only [Act.put, List.setIfInBounds_toArray, List.set_cons_zero, List.set_cons_succ])))) | ((with_reducible show T.Seq _ _ _ (.t _ _) _ _ _); ((apply T.sq_t rfl rfl; (focus intro wS hS; (exact T.x_loadInt rfl rfl T.Fd.out T.TS.out (by ((omega))) hS)); (try simp only [Act.put, List.setIfInBounds_toArray, List.set_cons_zero, List.set_cons_succ])))) | ((with_reducible show T.Seq _ _ _ .nil _ _ _); refine T.sq_nil ?_) | ((with_reducible show T.Seq _ _ _ (.z _ _) _ _ _); refine T.sq_z rfl rfl (fun K hK => ?_))) | (go_at_K; refine hK.out _ _ _ hM ?_; clear hK K) | (go_step))
              go_roundg (8 - (i + 1))
              case measure => omega
              case rel =>
                refine ⟨i + 1, by go_num, by omega, by omega, ⟨?_⟩⟩
                exact hM
            · have hi64 : i = 8 := by omega
              have hltz : ¬ (i : Int) < 8 := by omega
              have cb : decide ((i : Int) < 8) = false := decide_eq_false hltz
              rw [hi64] at hM hs
              repeat' (first | (go_step) | ((fail_if_success (with_reducible show T.Seq _ _ _ _ _ _ _)); (fail_if_success (with_reducible show T.OW _ _ _ _ _ _)); simp only [Int.not_lt, Int.not_le] at *; go_simp))
              go_end0
              subst hP
              subst hV
              subst hW
              exact ⟨rfl, hM.grown, hM.row _ T.Fd.out⟩
attribute [irreducible] T.add
end Go.Proofs.YtdklknfgcepcbaaGreat.X
