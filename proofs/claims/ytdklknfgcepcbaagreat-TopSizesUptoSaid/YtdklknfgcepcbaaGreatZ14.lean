/- Texts of this proof, laid together by wip/tools/pack.py: TD5, TH5, TI1. -/
import Derived.Test.YtdklknfgcepcbaaGreatZ11
import Derived.Test.YtdklknfgcepcbaaGreatZ12
import Derived.Test.YtdklknfgcepcbaaGreatZ13
namespace Go.Proofs.YtdklknfgcepcbaaGreat.X
open Go.RowKit Go.Proofs.YtdklknfgcepcbaaGreatW.PrintWords Go.Proofs.YtdklknfgcepcbaaGreatW.PrintLast Go.Proofs.YtdklknfgcepcbaaGreatW.PrintMore
set_option linter.unusedSimpArgs false
set_option linter.unusedVariables false
set_option maxHeartbeats 2000000
set_option maxRecDepth 20000
def T.len64 (x : Int) : Int := Lib.bitLen x.toNat
theorem T.len64_calls (x : Int) (h0 : 0 ≤ x) (h1 : x < 18446744073709551616) (w : World) : Calls Tryz.prog 178 #[.int .u64 x] w (T.E (.int .i64 (T.len64 x)) w) :=
  (Any.bits_Len64 Tryz.len64A x w h0 (by omega)).mono fun e w' h => ⟨h.1, by rw [h.2]; exact Below.refl _ _⟩
theorem T.len_calls (x : Int) (h0 : 0 ≤ x) (h1 : x < 18446744073709551616) (w : World) : Calls Tryz.prog 149 #[.int .u64 x] w (T.E (.int .i64 (T.len64 x)) w) :=
  (Any.bits_Len Tryz.lenA x w h0 (by omega)).mono fun e w' h => ⟨h.1, by rw [h.2]; exact Below.refl _ _⟩
theorem T.len64_bound (x : Int) (h0 : 0 ≤ x) (h1 : x < 18446744073709551616) : 0 ≤ T.len64 x ∧ T.len64 x ≤ 64 := by
  have := Lib.bitLen_le x.toNat 64 (Nat.le_refl _) (by omega)
  unfold T.len64
  omega
def T.longF (a : List Int) : Nat → Int
  | 0 => 0
  | i + 1 => if 0 < T.gi a i then (i : Int) * 64 + T.len64 (T.gi a i) else T.longF a i
def T.long (a : List Int) : Int := T.longF a 4
theorem T.longF_bound (a : List Int) (h : T.R64 a) : ∀ i, 0 ≤ T.longF a i ∧ T.longF a i ≤ (i : Int) * 64
  | 0 => by simp [T.longF]
  | i + 1 => by
    have h1 := T.len64_bound _ (h i).1 (h i).2
    have h2 := T.longF_bound a h i
    rw [T.longF]
    split <;> omega
theorem T.long_calls (a : List Int) (ha : a.length = 4) (hr : T.R64 a) (w : World) : Calls Tryz.prog 195 #[.agg (T.u64s a).toArray] w (T.E (.int .i64 (T.long a)) w) := by
  have hM := T.Mem.start w
  have HR := Aside0.mk hr
  clear hr
  generalize hP : T.E (.int .i64 (T.long a)) w = Post
  go_enter Tryz.func195, Tryz.ntmps195
  repeat' (first | ((((((with_reducible show wpList _ _ _ _ _ _); (refine T.w_o rfl ?_)))); (((with_reducible show T.OW _ ⟨_, .box _ _, _, _, _, _⟩ _ _ _ _); refine T.op_box _ _ rfl _ rfl hM ?_; clear hM; intro blk wld hM hlt))); (try simp only [Act.put, List.setIfInBounds_toArray, List.set_cons_zero, List.set_cons_succ])) | (go_step))
  obtain ⟨bx, rfl⟩ := T.n1 hM
  go_loopg [3] 6 (fun kq v3 Wd => ∃ i : Nat, v3 = .int .i64 ((i : Int) - 1) ∧ i ≤ 4 ∧ i < kq ∧ Aside0 (T.longF a i = T.long a) ∧ Aside0 (T.Mem w none Wd [.b bx 47 (T.u64s a)]))
  case atStart => exact ⟨4, rfl, by omega, by omega, ⟨rfl⟩, ⟨hM⟩⟩
  case round =>
    clear hM
    obtain ⟨i, rfl, hi, hg, hlo, hMo⟩ := hrel
    have hM := hMo.out
    clear hMo
    cases i with
    | zero =>
      have e0 : (((0 : Nat) : Int) - 1) = -1 := rfl
      rw [e0]
      repeat' (first | (go_step) | go_back)
      subst hP
      exact ⟨by rw [← hlo.out]; rfl, hM.below⟩
    | succ i =>
      have e0 : (((i + 1 : Nat) : Int) - 1) = (i : Int) := by omega
      rw [e0]
      have hi0 : (0 : Int) ≤ (i : Int) := by omega
      have hiz : (i : Int) < 4 := by omega
      have e1 : IntKind.i64.wrap ((i : Int) * 64) = (i : Int) * 64 := T.w64 (by omega) (by omega)
      have e2 : IntKind.i64.wrap ((i : Int) - 1) = (i : Int) - 1 := T.w64 (by omega) (by omega)
      by_cases hp : 0 < T.gi a i
      · have dp : decide (0 < T.gi a i) = true := decide_eq_true hp
        repeat' (first | (go_at_call 178; refine (T.len64_calls _ (HR.out _).1 (HR.out _).2 _).mono ?_; rintro _ _ ⟨rfl, hbc⟩; replace hM := hM.call hbc; clear hbc) | ((((((with_reducible show wpList _ _ _ _ _ _); (refine T.w_o rfl ?_)))); (((with_reducible show T.OW _ ⟨_, .load _ _, _, _, _, _⟩ _ _ _ _); ((refine T.ofx (T.x_loadInt rfl rfl T.Fd.out T.TS.out (by ((omega))) hM) ?_))))); (try simp only [Act.put, List.setIfInBounds_toArray, List.set_cons_zero, List.set_cons_succ])) | (go_step) | go_back | ((fail_if_success (with_reducible show T.Seq _ _ _ _ _ _ _)); (fail_if_success (with_reducible show T.OW _ _ _ _ _ _)); simp only [Int.not_lt, Int.not_le] at *; go_simp))
        subst hP
        refine ⟨?_, hM.below⟩
        have hb := T.len64_bound _ (HR.out i).1 (HR.out i).2
        have ew : wrap64 ((i : Int) * 64 + T.len64 (T.gi a i)) = (i : Int) * 64 + T.len64 (T.gi a i) := by unfold wrap64; omega
        refine congrArg Ending.returned ?_
        show Value.int .i64 (wrap64 _) = _
        rw [ew, ← hlo.out, T.longF, if_pos hp]
      · have dp : decide (0 < T.gi a i) = false := decide_eq_false hp
        repeat' (first | ((((((with_reducible show wpList _ _ _ _ _ _); (refine T.w_o rfl ?_)))); (((with_reducible show T.OW _ ⟨_, .load _ _, _, _, _, _⟩ _ _ _ _); ((refine T.ofx (T.x_loadInt rfl rfl T.Fd.out T.TS.out (by ((omega))) hM) ?_))))); (try simp only [Act.put, List.setIfInBounds_toArray, List.set_cons_zero, List.set_cons_succ])) | (go_step) | ((fail_if_success (with_reducible show T.Seq _ _ _ _ _ _ _)); (fail_if_success (with_reducible show T.OW _ _ _ _ _ _)); simp only [Int.not_lt, Int.not_le] at *; go_simp))
        go_roundg (i + 1)
        case measure => omega
        case rel => exact ⟨i, rfl, by omega, by omega, ⟨by rw [← hlo.out, T.longF, if_neg (by omega)]⟩, ⟨hM⟩⟩
theorem T.len64_pos (x : Int) (h0 : 0 < x) (h1 : x < 18446744073709551616) : 1 ≤ T.len64 x := by
  have := Lib.bitLen_half x.toNat (by omega) (by omega)
  unfold T.len64
  omega
theorem T.long_pos (b : List Int) (hl : b.length = 4) (hr : T.R64 b) (hz : (b == [0, 0, 0, 0]) = false) : 1 ≤ T.long b := by
  match b, hl with
  | [x, y, z, u], _ =>
    have h0 := hr 0
    have h1 := hr 1
    have h2 := hr 2
    have h3 := hr 3
    have hh : ∀ i v, 0 ≤ v ∧ v < 18446744073709551616 → 0 < v → 1 ≤ (i : Nat) * 64 + T.len64 v := fun i v hv hp => by
      have := T.len64_pos v hp hv.2
      omega
    have g0 : T.gi [x, y, z, u] 0 = x := rfl
    have g1 : T.gi [x, y, z, u] 1 = y := rfl
    have g2 : T.gi [x, y, z, u] 2 = z := rfl
    have g3 : T.gi [x, y, z, u] 3 = u := rfl
    rw [g0] at h0
    rw [g1] at h1
    rw [g2] at h2
    rw [g3] at h3
    unfold T.long
    rw [T.longF, g3]
    by_cases c3 : 0 < u
    · rw [if_pos c3]; exact hh 3 u h3 c3
    rw [if_neg c3, T.longF, g2]
    by_cases c2 : 0 < z
    · rw [if_pos c2]; exact hh 2 z h2 c2
    rw [if_neg c2, T.longF, g1]
    by_cases c1 : 0 < y
    · rw [if_pos c1]; exact hh 1 y h1 c1
    rw [if_neg c1, T.longF, g0]
    by_cases c0 : 0 < x
    · rw [if_pos c0]; exact hh 0 x h0 c0
    exfalso
    have e0 : x = 0 := by omega
    have e1 : y = 0 := by omega
    have e2 : z = 0 := by omega
    have e3 : u = 0 := by omega
    subst e0 e1 e2 e3
    simp at hz
def T.divStep (b : List Int) (n : Nat) (s : List Int × List Int) : List Int × List Int :=
  if (T.wsub s.1 (T.up b n)).2 then ((T.wsub s.1 (T.up b n)).1, s.2.set (n / 64) (Go.bits .or .u64 (T.gi s.2 (n / 64)) (IntKind.u64.wrap (2 ^ (n % 64))))) else s
def T.divL (b : List Int) : Nat → List Int × List Int → List Int × List Int
  | 0, s => s
  | n + 1, s => T.divL b n (T.divStep b n s)
def T.div (a b : List Int) : List Int × List Int × Bool :=
  if b == [0, 0, 0, 0] then ([0, 0, 0, 0], [0, 0, 0, 0], false)
  else ((T.divL b (T.long a - T.long b + 1).toNat (a, [0, 0, 0, 0])).2, (T.divL b (T.long a - T.long b + 1).toNat (a, [0, 0, 0, 0])).1, true)
theorem T.divStep_len (b : List Int) (n : Nat) (s : List Int × List Int) (h : s.1.length = 4) (h2 : s.2.length = 4) : (T.divStep b n s).1.length = 4 ∧ (T.divStep b n s).2.length = 4 := by
  by_cases hc : (T.wsub s.1 (T.up b n)).2 = true
  · rw [T.divStep, if_pos hc]
    exact ⟨T.wsub_len _ _ h, by rw [List.length_set]; exact h2⟩
  · rw [T.divStep, if_neg hc]
    exact ⟨h, h2⟩
theorem T.div_calls (a b : List Int) (ha : a.length = 4) (hb : b.length = 4) (hra : T.R64 a) (hrb : T.R64 b) (w : World) :
    Calls Tryz.prog 165 #[.agg (T.u64s a).toArray, .agg (T.u64s b).toArray] w (T.E (.tuple #[.agg (T.u64s (T.div a b).1).toArray, .agg (T.u64s (T.div a b).2.1).toArray, .bool (T.div a b).2.2]) w) := by
  have hM := T.Mem.start w
  have HRA := Aside0.mk hra
  have HRB := Aside0.mk hrb
  clear hra hrb
  generalize hP : T.E (.tuple #[.agg (T.u64s (T.div a b).1).toArray, .agg (T.u64s (T.div a b).2.1).toArray, .bool (T.div a b).2.2]) w = Post
  cases hz : (b == [0, 0, 0, 0]) with
  | true =>
    go_enter Tryz.func165, Tryz.ntmps165
    repeat' (first | ((((((with_reducible show wpList _ _ _ _ _ _); (refine T.w_o rfl ?_)))); first | ((with_reducible show T.OW _ ⟨_, .load _ _, _, _, _, _⟩ _ _ _ _); ((refine T.ofx (T.x_loadAll rfl rfl T.Fd.out T.TU.out T.TN.out (by (((rw [encs_length]; with_reducible assumption)))) hM) ?_))) | ((with_reducible show T.OW _ ⟨_, .store _ _ _, _, _, _, _⟩ _ _ _ _); ((refine T.op_storeAll _ _ _ rfl _ rfl _ rfl _ _ hM (by (repeat (first | exact T.Sub.head _ | apply T.Sub.tail))) _ T.TN.out (by ((rfl))) (by ((exact T.ones_encs _ _))) (by ((rfl))) ?_; clear hM; intro wld hM))) | ((with_reducible show T.OW _ ⟨_, .alloc _, _, _, _, _⟩ _ _ _ _); refine T.op_alloc _ rfl _ T.TZ.out hM ?_; clear hM; intro blk wld hM hlt) | ((with_reducible show T.OW _ ⟨_, .box _ _, _, _, _, _⟩ _ _ _ _); refine T.op_box _ _ rfl _ rfl hM ?_; clear hM; intro blk wld hM hlt) | ((with_reducible show T.OW _ ⟨_, .build _ _, _, _, _, _⟩ _ _ _ _); ((refine T.ofx (T.x_buildA0 rfl T.TA.out T.TN.out T.TZ.out) ?_))) | ((with_reducible show T.OW _ ⟨_, .binOp .eql _ _ _ _, _, _, _, _⟩ _ _ _ _); ((refine T.ofx (T.x_eql rfl inferInstance rfl rfl (by ((with_reducible assumption))) (by ((rfl)))) ?_; try simp only [hz])))); (try simp only [Act.put, List.setIfInBounds_toArray, List.set_cons_zero, List.set_cons_succ])) | (go_step))
    (refine T.ret_cct rfl rfl _ rfl _ rfl _ rfl _ _ _ _ hM T.Fd.out T.Fd.out T.TU.out T.TU.out _ _ T.TN.out T.TN.out (by ((rfl))) (by ((rfl))) ?_)
    subst hP
    exact ⟨by rw [T.div, hz]; rfl, hM.below⟩
  | false =>
    have bl := T.longF_bound a HRA.out 4
    have bl2 := T.longF_bound b HRB.out 4
    have e1 : IntKind.i64.wrap (T.long a - T.long b) = T.long a - T.long b := T.w64 (by unfold T.long; omega) (by unfold T.long; omega)
    have bl3 := T.long_pos b hb HRB.out hz
    have hN : (T.long a - T.long b + 1).toNat ≤ 256 := by unfold T.long at bl3 ⊢; omega
    go_enter Tryz.func165, Tryz.ntmps165
    repeat' (first | ((with_reducible show Code.wp _ (Code.region 4 _ true) _ _ _); refine T.mregion 4 (.t 0 (.t 2 (.a 1 (.a 3 (.p 4 (.p 5 .nil)))))) 1000 (by kernel_rfl) (fun _ _ _ _ h => h) hM (List.Sublist.refl _) ?_; clear hM; intro wld hM) | (go_at_call 195; refine (T.long_calls _ (by with_reducible assumption) (by first | exact HRA.out | exact HRB.out) _).mono ?_; rintro _ _ ⟨rfl, hbc⟩; replace hM := hM.call hbc; clear hbc) | (((first | ((with_reducible show wpList _ _ _ _ _ _); (refine T.w_o rfl ?_)) | (with_reducible show T.OW _ _ _ _ _ _)); first | ((with_reducible show T.OW _ ⟨_, .load _ _, _, _, _, _⟩ _ _ _ _); ((refine T.ofx (T.x_loadAll rfl rfl T.Fd.out T.TU.out T.TN.out (by (((rw [encs_length]; with_reducible assumption)))) hM) ?_))) | ((with_reducible show T.OW _ ⟨_, .alloc _, _, _, _, _⟩ _ _ _ _); refine T.op_alloc _ rfl _ T.TZ.out hM ?_; clear hM; intro blk wld hM hlt) | ((with_reducible show T.OW _ ⟨_, .box _ _, _, _, _, _⟩ _ _ _ _); refine T.op_box _ _ rfl _ rfl hM ?_; clear hM; intro blk wld hM hlt) | ((with_reducible show T.OW _ ⟨_, .build _ _, _, _, _, _⟩ _ _ _ _); ((refine T.ofx (T.x_buildA0 rfl T.TA.out T.TN.out T.TZ.out) ?_))) | ((with_reducible show T.OW _ ⟨_, .binOp .eql _ _ _ _, _, _, _, _⟩ _ _ _ _); ((refine T.ofx (T.x_eql rfl inferInstance rfl rfl (by ((with_reducible assumption))) (by ((rfl)))) ?_; try simp only [hz])))); (try simp only [Act.put, List.setIfInBounds_toArray, List.set_cons_zero, List.set_cons_succ])) | ((with_reducible show T.Seq _ _ _ _ _ _ _); first | ((with_reducible show T.Seq _ _ _ (.p _ _) _ _ _); ((apply T.sq_p rfl rfl; (focus intro wS; ((go_simp; with_reducible rfl))); (try simp only [Act.put, List.setIfInBounds_toArray, List.set_cons_zero, List.set_cons_succ])))) | ((with_reducible show T.Seq _ _ _ (.t _ _) _ _ _); ((apply T.sq_t rfl rfl; (focus intro wS hS; (exact T.x_loadAll rfl rfl T.Fd.out T.TU.out T.TN.out (by (((rw [encs_length]; with_reducible assumption)))) hS)); (try simp only [Act.put, List.setIfInBounds_toArray, List.set_cons_zero, List.set_cons_succ])))) | ((with_reducible show T.Seq _ _ _ .nil _ _ _); refine T.sq_nil ?_) | ((with_reducible show T.Seq _ _ _ (.a _ _) _ _ _); refine T.sq_a rfl rfl (fun K hK => ?_))) | (go_at_K; refine hK.out _ _ _ hM (by (repeat ((exact List.Sublist.refl _)))) ?_; clear hK K) | ((with_reducible show T.OW _ ⟨_, .call _, _, _, _, _⟩ _ _ _ _); refine T.OW.mk ?_; go_simp) | (go_step) | ((fail_if_success (with_reducible show T.Seq _ _ _ _ _ _ _)); (fail_if_success (with_reducible show T.OW _ _ _ _ _ _)); simp only [Int.not_lt, Int.not_le] at *; go_simp))
    obtain ⟨b7, rfl⟩ := T.n1 hM
    obtain ⟨b5, rfl⟩ := T.n2 hM
    obtain ⟨b4, rfl⟩ := T.n3 hM
    obtain ⟨b3, rfl⟩ := T.n4 hM
    obtain ⟨b2, rfl⟩ := T.n5 hM
    generalize hn : T.long a - T.long b = nn at hN ⊢
    have hP' : T.E (.tuple #[.agg (T.u64s (T.divL b (nn + 1).toNat (a, [0, 0, 0, 0])).2).toArray, .agg (T.u64s (T.divL b (nn + 1).toNat (a, [0, 0, 0, 0])).1).toArray, .bool true]) w = Post := by
      rw [← hP, T.div, hz, ← hn]
      rfl
    clear hP bl bl2 bl3 e1
    have hs0 : (a, [0, 0, 0, 0]).1.length = 4 := ha
    go_loopg [8] 259 (fun kq v8 Wd => ∃ (i : Nat) (n : Int) (s : List Int × List Int), v8 = .int .i64 n ∧ (n + 1).toNat = i ∧ i ≤ 256 ∧ i < kq ∧ s.1.length = 4 ∧ s.2.length = 4 ∧ Aside0 (T.divL b i s = T.divL b (nn + 1).toNat (a, [0, 0, 0, 0])) ∧
      Aside0 (T.Mem w none Wd [.b b7 47 (T.u64s s.2), .b b5 47 (T.u64s [0, 0, 0, 0]), .b b4 47 (T.u64s [0, 0, 0, 0]), .b b3 47 (T.u64s b), .b b2 47 (T.u64s s.1)]))
    case atStart => exact ⟨(nn + 1).toNat, nn, (a, [0, 0, 0, 0]), rfl, rfl, hN, by omega, ha, rfl, ⟨rfl⟩, ⟨hM⟩⟩
    case round =>
      clear hM hs0
      obtain ⟨i, n, s, rfl, hi, hi2, hg, hs1, hs2, hso, hMo⟩ := hrel
      have hM := hMo.out
      clear hMo
      by_cases hlt : 0 ≤ n
      · have cb : decide (0 ≤ n) = true := decide_eq_true hlt
        obtain ⟨j, rfl⟩ := Int.eq_ofNat_of_zero_le hlt
        have hij : i = j + 1 := by omega
        subst hij
        have hul := T.up_len b (j : Int) hb
        have hwl := T.wsub_len s.1 (T.up b j) hs1
        have j1 : (0 : Int) ≤ (j : Int) % 64 := by omega
        have j2 : (0 : Int) ≤ (j : Int) / 64 := by omega
        have j3 : (j : Int) / 64 < 4 := by omega
        have j5 : (j : Int) < 256 := by omega
        have j6 : j < 256 := by omega
        have j7 : ((j : Int) / 64).toNat = j / 64 := by omega
        have j8 : IntKind.i64.wrap ((j : Int) / 64) = (j : Int) / 64 := T.w64 (by omega) (by omega)
        have j10 : (j : Int).tmod 64 = (j : Int) % 64 := Int.tmod_eq_emod_of_nonneg (by omega)
        have j9 : ((j : Int) % 64).toNat = j % 64 := by omega
        have j4 : j / 64 < 4 := by omega
        have e1 : IntKind.i64.wrap ((j : Int) - 1) = (j : Int) - 1 := T.w64 (by omega) (by omega)
        cases hc : (T.wsub s.1 (T.up b j)).2 with
        | true =>
          repeat' (first | ((with_reducible show Code.wp _ (Code.region 7 _ true) _ _ _); refine T.mregion 7 (.t 0 (.t 1 (.p 2 (.f 3 8 (.f 4 8 (.p 5 (.p 6 (.p 7 (.a 8 (.z 9 (.p 10 .nil)))))) (.a 4 (.p 5 (.p 6 (.p 7 (.z 9 (.p 10 .nil))))))) (.a 3 (.a 4 (.p 5 (.p 6 (.p 7 (.z 9 (.p 10 .nil))))))))))) 9 (by kernel_rfl) (fun _ _ _ _ h => h) hM (List.Sublist.refl _) ?_; clear hM; intro wld hM) | ((with_reducible show Code.wp _ (Code.region 10 _ true) _ _ _); refine T.mregion 10 (.p 0 (.p 1 (.p 2 (.t 3 (.p 4 (.p 5 (.p 6 (.p 7 (.p 8 (.z 9 .nil)))))))))) 9 (by kernel_rfl) (fun _ _ _ _ h => h) hM (List.Sublist.refl _) ?_; clear hM; intro wld hM) | (go_at_call 67; refine (T.up_calls _ (by with_reducible assumption) _ _).mono ?_; rintro _ _ ⟨rfl, hbc⟩; replace hM := hM.call hbc; clear hbc) | (go_at_call 196; refine (T.wsub_calls _ _ (by with_reducible assumption) (by with_reducible assumption) _).mono ?_; rintro _ _ ⟨rfl, hbc⟩; replace hM := hM.call hbc; clear hbc) | (((first | ((with_reducible show wpList _ _ _ _ _ _); (refine T.w_o rfl ?_)) | (with_reducible show T.OW _ _ _ _ _ _)); first | ((with_reducible show T.OW _ ⟨_, .load _ _, _, _, _, _⟩ _ _ _ _); ((refine T.ofx (T.x_loadAll rfl rfl T.Fd.out T.TU.out T.TN.out (by (((rw [encs_length]; with_reducible assumption)))) hM) ?_))) | ((with_reducible show T.OW _ ⟨_, .store _ _ _, _, _, _, _⟩ _ _ _ _); first | (refine T.op_storeAll _ _ _ rfl _ rfl _ rfl _ _ hM (by (repeat (first | exact T.Sub.head _ | apply T.Sub.tail))) _ T.TN.out (by (first | (rw [encs_length]; with_reducible assumption) | rfl)) (by (first | exact T.ones_encs _ _ | exact T.one_ones rfl)) (by (first | (rw [encs_length]; with_reducible assumption) | rfl)) ?_; clear hM; intro wld hM) | (refine T.op_storeInt _ _ _ rfl _ _ rfl _ _ rfl _ _ hM (by (repeat (first | exact T.Sub.head _ | apply T.Sub.tail))) T.TN.out (by ((omega))) ?_; clear hM; intro wld hM)) | ((with_reducible show T.OW _ ⟨_, .alloc _, _, _, _, _⟩ _ _ _ _); refine T.op_alloc _ rfl _ T.TZ.out hM ?_; clear hM; intro blk wld hM hlt)); (try simp only [Act.put, List.setIfInBounds_toArray, List.set_cons_zero, List.set_cons_succ])) | ((with_reducible show T.Seq _ _ _ _ _ _ _); first | ((with_reducible show T.Seq _ _ _ (.p _ _) _ _ _); ((apply T.sq_p rfl rfl; (focus intro wS; ((go_simp; with_reducible rfl))); (try simp only [Act.put, List.setIfInBounds_toArray, List.set_cons_zero, List.set_cons_succ])))) | ((with_reducible show T.Seq _ _ _ (.t _ _) _ _ _); ((apply T.sq_t rfl rfl; (focus intro wS hS; first | exact T.x_loadInt rfl rfl T.Fd.out T.TS.out (by ((omega))) hS | exact T.x_loadAll rfl rfl T.Fd.out T.TU.out T.TN.out (by (((rw [encs_length]; with_reducible assumption)))) hS); (try simp only [Act.put, List.setIfInBounds_toArray, List.set_cons_zero, List.set_cons_succ])))) | ((with_reducible show T.Seq _ _ _ .nil _ _ _); refine T.sq_nil ?_) | ((with_reducible show T.Seq _ _ _ (.f _ _ _ _) _ _ _); refine T.sq_f ?_ ?_) | ((with_reducible show T.Seq _ _ _ (.a _ _) _ _ _); refine T.sq_a rfl rfl (fun K hK => ?_)) | ((with_reducible show T.Seq _ _ _ (.z _ _) _ _ _); refine T.sq_z rfl rfl (fun K hK => ?_))) | (go_at_K; refine hK.out _ _ _ hM (by (repeat (first | exact List.Sublist.refl _ | apply List.Sublist.cons))) ?_; clear hK K) | (go_at_K; refine hK.out _ _ _ hM ?_; clear hK K) | ((with_reducible show T.OW _ ⟨_, .call _, _, _, _, _⟩ _ _ _ _); refine T.OW.mk ?_; go_simp) | (go_step) | ((fail_if_success (with_reducible show T.Seq _ _ _ _ _ _ _)); (fail_if_success (with_reducible show T.OW _ _ _ _ _ _)); simp only [Int.not_lt, Int.not_le] at *; go_simp))
          all_goals
            go_roundg (j + 1)
            case measure => omega
            case rel =>
              refine ⟨j, (j : Int) - 1, T.divStep b j s, rfl, by omega, by omega, by omega, (T.divStep_len b j s hs1 hs2).1, (T.divStep_len b j s hs1 hs2).2, ⟨?_⟩, ⟨?_⟩⟩
              · rw [← hso.out, T.divL]
              · have hM2 := hM.drop (.cons _ (.refl _))
                rw [T.divStep, if_pos hc]
                exact hM2
        | false =>
          repeat' (first | ((with_reducible show Code.wp _ (Code.region 7 _ true) _ _ _); refine T.mregion 7 (.t 0 (.t 1 (.p 2 (.f 3 8 (.f 4 8 (.p 5 (.p 6 (.p 7 (.a 8 (.z 9 (.p 10 .nil)))))) (.a 4 (.p 5 (.p 6 (.p 7 (.z 9 (.p 10 .nil))))))) (.a 3 (.a 4 (.p 5 (.p 6 (.p 7 (.z 9 (.p 10 .nil))))))))))) 9 (by kernel_rfl) (fun _ _ _ _ h => h) hM (List.Sublist.refl _) ?_; clear hM; intro wld hM) | (go_at_call 67; refine (T.up_calls _ (by with_reducible assumption) _ _).mono ?_; rintro _ _ ⟨rfl, hbc⟩; replace hM := hM.call hbc; clear hbc) | (go_at_call 196; refine (T.wsub_calls _ _ (by with_reducible assumption) (by with_reducible assumption) _).mono ?_; rintro _ _ ⟨rfl, hbc⟩; replace hM := hM.call hbc; clear hbc) | (((first | ((with_reducible show wpList _ _ _ _ _ _); (refine T.w_o rfl ?_)) | (with_reducible show T.OW _ _ _ _ _ _)); first | ((with_reducible show T.OW _ ⟨_, .store _ _ _, _, _, _, _⟩ _ _ _ _); ((refine T.op_storeAll _ _ _ rfl _ rfl _ rfl _ _ hM (by (repeat ((exact T.Sub.head _)))) _ T.TN.out (by (((rw [encs_length]; with_reducible assumption)))) (by ((exact T.ones_encs _ _))) (by ((rfl))) ?_; clear hM; intro wld hM))) | ((with_reducible show T.OW _ ⟨_, .alloc _, _, _, _, _⟩ _ _ _ _); refine T.op_alloc _ rfl _ T.TZ.out hM ?_; clear hM; intro blk wld hM hlt)); (try simp only [Act.put, List.setIfInBounds_toArray, List.set_cons_zero, List.set_cons_succ])) | ((with_reducible show T.Seq _ _ _ _ _ _ _); first | ((with_reducible show T.Seq _ _ _ (.p _ _) _ _ _); ((apply T.sq_p rfl rfl; (focus intro wS; ((go_simp; with_reducible rfl))); (try simp only [Act.put, List.setIfInBounds_toArray, List.set_cons_zero, List.set_cons_succ])))) | ((with_reducible show T.Seq _ _ _ (.t _ _) _ _ _); ((apply T.sq_t rfl rfl; (focus intro wS hS; (exact T.x_loadAll rfl rfl T.Fd.out T.TU.out T.TN.out (by (((rw [encs_length]; with_reducible assumption)))) hS)); (try simp only [Act.put, List.setIfInBounds_toArray, List.set_cons_zero, List.set_cons_succ])))) | ((with_reducible show T.Seq _ _ _ .nil _ _ _); refine T.sq_nil ?_) | ((with_reducible show T.Seq _ _ _ (.f _ _ _ _) _ _ _); refine T.sq_f ?_ ?_) | ((with_reducible show T.Seq _ _ _ (.a _ _) _ _ _); refine T.sq_a rfl rfl (fun K hK => ?_)) | ((with_reducible show T.Seq _ _ _ (.z _ _) _ _ _); refine T.sq_z rfl rfl (fun K hK => ?_))) | (go_at_K; refine hK.out _ _ _ hM (by (repeat (first | exact List.Sublist.refl _ | apply List.Sublist.cons))) ?_; clear hK K) | (go_at_K; refine hK.out _ _ _ hM ?_; clear hK K) | ((with_reducible show T.OW _ ⟨_, .call _, _, _, _, _⟩ _ _ _ _); refine T.OW.mk ?_; go_simp) | (go_step) | ((fail_if_success (with_reducible show T.Seq _ _ _ _ _ _ _)); (fail_if_success (with_reducible show T.OW _ _ _ _ _ _)); simp only [Int.not_lt, Int.not_le] at *; go_simp))
          all_goals
            go_roundg (j + 1)
            case measure => omega
            case rel =>
              refine ⟨j, (j : Int) - 1, s, rfl, by omega, by omega, by omega, hs1, hs2, ⟨?_⟩, ⟨hM.drop (.cons _ (.refl _))⟩⟩
              rw [← hso.out, T.divL, T.divStep, if_neg (by rw [hc]; simp)]
      · have cb : decide (0 ≤ n) = false := decide_eq_false hlt
        have hi0 : i = 0 := by omega
        subst hi0
        repeat' (first | ((with_reducible show Code.wp _ (Code.region 11 _ true) _ _ _); refine T.mregion 11 (.t 0 (.t 1 (.a 2 (.a 3 (.p 4 .nil))))) 1000 (by kernel_rfl) (fun _ _ _ _ h => h) hM (List.Sublist.cons_cons _ (List.Sublist.cons _ (List.Sublist.cons _ (List.Sublist.refl _)))) ?_; clear hM; intro wld hM) | (((first | ((with_reducible show wpList _ _ _ _ _ _); (refine T.w_o rfl ?_)) | (with_reducible show T.OW _ _ _ _ _ _)); (((with_reducible show T.OW _ ⟨_, .store _ _ _, _, _, _, _⟩ _ _ _ _); ((refine T.op_storeAll _ _ _ rfl _ rfl _ rfl _ _ hM (by (repeat (first | exact T.Sub.head _ | apply T.Sub.tail))) _ T.TN.out (by (((rw [encs_length]; with_reducible assumption)))) (by ((exact T.ones_encs _ _))) (by ((rfl))) ?_; clear hM; intro wld hM))))); (try simp only [Act.put, List.setIfInBounds_toArray, List.set_cons_zero, List.set_cons_succ])) | ((with_reducible show T.Seq _ _ _ _ _ _ _); first | ((with_reducible show T.Seq _ _ _ (.p _ _) _ _ _); ((apply T.sq_p rfl rfl; (focus intro wS; ((go_simp; with_reducible rfl))); (try simp only [Act.put, List.setIfInBounds_toArray, List.set_cons_zero, List.set_cons_succ])))) | ((with_reducible show T.Seq _ _ _ (.t _ _) _ _ _); ((apply T.sq_t rfl rfl; (focus intro wS hS; (exact T.x_loadAll rfl rfl T.Fd.out T.TU.out T.TN.out (by (((rw [encs_length]; with_reducible assumption)))) hS)); (try simp only [Act.put, List.setIfInBounds_toArray, List.set_cons_zero, List.set_cons_succ])))) | ((with_reducible show T.Seq _ _ _ .nil _ _ _); refine T.sq_nil ?_) | ((with_reducible show T.Seq _ _ _ (.a _ _) _ _ _); refine T.sq_a rfl rfl (fun K hK => ?_))) | (go_at_K; refine hK.out _ _ _ (hM.drop (by (repeat (first | exact List.Sublist.refl _ | apply List.Sublist.cons_cons | apply List.Sublist.cons)))) (List.Sublist.refl _) ?_; clear hK K) | (go_step) | ((fail_if_success (with_reducible show T.Seq _ _ _ _ _ _ _)); (fail_if_success (with_reducible show T.OW _ _ _ _ _ _)); simp only [Int.not_lt, Int.not_le] at *; go_simp))
        (refine T.ret_cct rfl rfl _ rfl _ rfl _ rfl _ _ _ _ hM T.Fd.out T.Fd.out T.TU.out T.TU.out _ _ T.TN.out T.TN.out (by (((rw [encs_length]; with_reducible assumption)))) (by (((rw [encs_length]; with_reducible assumption)))) ?_)
        subst hP'
        refine ⟨?_, hM.below⟩
        rw [← hso.out]
        rfl
theorem T.bits_R (op : BinOp) (x y : Int) : 0 ≤ Go.bits op .u64 x y ∧ Go.bits op .u64 x y < 18446744073709551616 := by
  unfold Go.bits
  cases op <;> simp only [IntKind.wrap_u64] <;> omega
theorem T.divStep_R (b : List Int) (n : Nat) (s : List Int × List Int) (h : T.R64 s.1) (h2 : T.R64 s.2) : T.R64 (T.divStep b n s).1 ∧ T.R64 (T.divStep b n s).2 := by
  by_cases hc : (T.wsub s.1 (T.up b n)).2 = true
  · rw [T.divStep, if_pos hc]
    exact ⟨T.wsub_R _ _ h, T.R64_set h2 _ (T.bits_R _ _ _)⟩
  · rw [T.divStep, if_neg hc]
    exact ⟨h, h2⟩
theorem T.divL_R (b : List Int) : ∀ (n : Nat) (s : List Int × List Int), T.R64 s.1 → T.R64 s.2 → T.R64 (T.divL b n s).1 ∧ T.R64 (T.divL b n s).2
  | 0, _, h, h2 => ⟨h, h2⟩
  | n + 1, s, h, h2 => T.divL_R b n _ (T.divStep_R b n s h h2).1 (T.divStep_R b n s h h2).2
theorem T.divL_len (b : List Int) : ∀ (n : Nat) (s : List Int × List Int), s.1.length = 4 → s.2.length = 4 → (T.divL b n s).1.length = 4 ∧ (T.divL b n s).2.length = 4
  | 0, _, h, h2 => ⟨h, h2⟩
  | n + 1, s, h, h2 => T.divL_len b n _ (T.divStep_len b n s h h2).1 (T.divStep_len b n s h h2).2
theorem T.R64_zero : T.R64 [0, 0, 0, 0] := fun i => by
  match i with
  | 0 => exact ⟨Int.le_refl _, by decide⟩
  | 1 => exact ⟨Int.le_refl _, by decide⟩
  | 2 => exact ⟨Int.le_refl _, by decide⟩
  | 3 => exact ⟨Int.le_refl _, by decide⟩
  | i + 4 => exact ⟨Int.le_refl _, by show (0 : Int) < 18446744073709551616; decide⟩
theorem T.div_R (a b : List Int) (h : T.R64 a) : T.R64 (T.div a b).1 := by
  unfold T.div
  split
  · exact T.R64_zero
  · exact (T.divL_R b _ (a, [0, 0, 0, 0]) h T.R64_zero).2
theorem T.div_len (a b : List Int) (h : a.length = 4) : (T.div a b).1.length = 4 ∧ (T.div a b).2.1.length = 4 := by
  unfold T.div
  split
  · exact ⟨rfl, rfl⟩
  · exact ⟨(T.divL_len b _ (a, [0, 0, 0, 0]) h rfl).2, (T.divL_len b _ (a, [0, 0, 0, 0]) h rfl).1⟩
theorem T.ups_R (a : List Int) (n : Nat) : ∀ i, T.R64 (T.ups a n i)
  | 0 => T.R64_zero
  | i + 1 => by rw [T.ups]; exact T.R64_set (T.ups_R a n i) i (by rw [T.up1]; exact T.bits_R _ _ _)
theorem T.up_R (a : List Int) (n : Int) (h : T.R64 a) : T.R64 (T.up a n) := by
  unfold T.up
  split
  · exact h
  · split
    · exact T.R64_zero
    · exact T.ups_R _ _ _
attribute [irreducible] T.div T.long T.len64
def T.half (n : Int) : Int := wrap64 (2 ^ ((T.len64 (n - 1)).toNat - 1))
theorem T.half_calls (n : Int) (h2 : 2 ≤ n) (hn : n ≤ 1099511627776) (w : World) : Calls Tryz.prog 129 #[.int .i64 n] w (T.E (.int .i64 (T.half n)) w) := by
  have hM := T.Mem.start w
  have e1 : IntKind.i64.wrap (n - 1) = n - 1 := T.w64 (by omega) (by omega)
  have e2 : IntKind.u64.wrap (n - 1) = n - 1 := by rw [IntKind.wrap_u64]; omega
  have hb := T.len64_bound (n - 1) (by omega) (by omega)
  have hp := T.len64_pos (n - 1) (by omega) (by omega)
  have H1 := Aside0.mk (show 0 ≤ n - 1 ∧ n - 1 < 18446744073709551616 by omega)
  generalize hP : T.E (.int .i64 (T.half n)) w = Post
  unfold T.half at hP
  generalize hL : T.len64 (n - 1) = L at *
  have e3 : IntKind.i64.wrap (L - 1) = L - 1 := T.w64 (by omega) (by omega)
  have c1 : decide (L - 1 < 0) = false := decide_eq_false (by omega)
  clear h2 hn
  go_enter Tryz.func129, Tryz.ntmps129
  repeat' (first | (go_at_call 149; refine (T.len_calls _ H1.out.1 H1.out.2 _).mono ?_; rintro _ _ ⟨rfl, hbc⟩; replace hM := hM.call hbc; clear hbc; rw [hL]) | (go_step) | go_back | ((fail_if_success (with_reducible show T.Seq _ _ _ _ _ _ _)); (fail_if_success (with_reducible show T.OW _ _ _ _ _ _)); simp only [Int.not_lt, Int.not_le] at *; go_simp))
  subst hP
  exact ⟨rfl, hM.below⟩
def T.okn (k : Nat) (l : List (List Int)) : Prop := ∀ x ∈ l, x.length = k
theorem T.okn_cons {k : Nat} {x : List Int} {l : List (List Int)} (h : T.okn k (x :: l)) : x.length = k ∧ T.okn k l := ⟨h x List.mem_cons_self, fun y hy => h y (List.mem_cons_of_mem _ hy)⟩
theorem T.okn_take {k : Nat} {l : List (List Int)} (h : T.okn k l) (i : Nat) : T.okn k (l.take i) := fun x hx => h x (List.mem_of_mem_take hx)
theorem T.okn_drop {k : Nat} {l : List (List Int)} (h : T.okn k l) (i : Nat) : T.okn k (l.drop i) := fun x hx => h x (List.mem_of_mem_drop hx)
theorem T.okn_app {k : Nat} {l m : List (List Int)} (h : T.okn k l) (h2 : T.okn k m) : T.okn k (l ++ m) := fun x hx => (List.mem_append.1 hx).elim (h x) (h2 x)
theorem T.okn_map {k : Nat} {l : List (List Int)} {f : List Int → List Int} (h : ∀ x, (f x).length = k) : T.okn k (l.map f) := fun x hx => by
  obtain ⟨y, _, rfl⟩ := List.mem_map.1 hx
  exact h y
theorem T.flat_len {k : Nat} : ∀ {l : List (List Int)}, T.okn k l → l.flatten.length = l.length * k
  | [], _ => by simp
  | x :: l, h => by rw [List.flatten_cons, List.length_append, (T.okn_cons h).1, T.flat_len (T.okn_cons h).2, List.length_cons, Nat.succ_mul, Nat.add_comm]
theorem T.flat_at {k : Nat} : ∀ {l : List (List Int)}, T.okn k l → ∀ (i : Nat) (hi : i < l.length), (l.flatten.drop (i * k)).take k = l[i]
  | [], _, i, hi => by simp at hi
  | x :: l, h, 0, _ => by rw [Nat.zero_mul, List.drop_zero, List.flatten_cons, List.take_append_of_le_length (by rw [(T.okn_cons h).1]; exact Nat.le_refl _), ← (T.okn_cons h).1, List.take_length]; rfl
  | x :: l, h, i + 1, hi => by
    rw [List.flatten_cons, Nat.succ_mul, Nat.add_comm, ← List.drop_drop, show x ++ l.flatten = x ++ l.flatten from rfl, ← (T.okn_cons h).1, List.drop_left, (T.okn_cons h).1]
    exact T.flat_at (T.okn_cons h).2 i (by simpa using hi)
theorem T.cells_at {k : Nat} {l : List (List Int)} (h : T.okn k l) (i : Nat) (hi : i < l.length) : ((T.u8s l.flatten).drop (i * k)).take k = T.u8s l[i] := by
  have := congrArg T.u8s (T.flat_at h i hi)
  rw [← this]
  unfold T.u8s encs
  rw [List.map_take, List.map_drop]
theorem T.range_part {w : World} {b o : Nat} {cs : List Value} (h : w.rangeAt b o cs) (i n : Nat) : w.rangeAt b (o + i) ((cs.drop i).take n) := fun j v hv => by
  rw [List.getElem?_take] at hv
  split at hv
  · rw [List.getElem?_drop] at hv
    rw [Nat.add_assoc]
    exact h _ _ hv
  · cases hv
theorem T.x_slAgg {P : Program} {w : World} {op : Oper} {a : Act} {ty : TypeId} {x : Operand} {ad : Addr} {n c i j k : Nat} {cs vs : List Value} (ho : op.op = .load ty x) (hx : a.eval x = .pointer (some (ad.add j))) (hS : T.Sl w (.slice (some ad) n c) n cs)
    (hj : j = i * k) (hu : ∃ d, P.underlying ty = some d ∧ d.isRow = true) (hi : (P.info? ty).map (·.size) = some k) (hvs : (cs.drop (i * k)).take k = vs) (hl : vs.length = k) (hk : k ≠ 0 := by decide) : (execOp a.eval op).run P w = .ok (.value (.agg vs.toArray)) w := by
  obtain ⟨b, o, rfl, hr⟩ := hS.of_pos (fun e => hk (by rw [← hl, ← hvs, e]; simp))
  subst hj
  have h2 := T.range_part hr (i * k) k
  rw [hvs] at h2
  rw [Addr.add_mid] at hx
  exact T.x_range ho hx h2 hu hi hl
theorem T.Sl.some_of {w : World} {A : Option Addr} {n c : Nat} {cs : List Value} (h : T.Sl w (.slice A n c) n cs) (hn : 0 < n) : ∃ ad, A = some ad := by
  obtain ⟨A', c', e, _, _, h⟩ := h
  cases e
  rcases h with ⟨_, h, _⟩ | ⟨b, o, e, _⟩
  · omega
  · exact ⟨_, e⟩
theorem T.u8s_snoc (l : List (List Int)) (f : List Int → List Int) (i : Nat) (h : i < l.length) : T.u8s ((l.take i).map f).flatten ++ T.u8s (f l[i]) = T.u8s ((l.take (i + 1)).map f).flatten := by
  rw [List.take_succ_eq_append_getElem h, List.map_append, List.flatten_append]
  simp [T.u8s, encs]
theorem T.mapped_calls (l : List (List Int)) (k : T.okn 32 l) (hn : l.length ≤ 1000000) (v : Value) (w : World) (hS : T.Sl w v l.length (T.u8s l.flatten)) : Calls Tryz.prog 92 #[v, .func (.func 93) #[] #[]] w (T.EG 44 32 l.length (T.u8s (l.map T.tleaf).flatten) w) := by
  have hM := T.Mem.start w
  obtain ⟨A, cc, hv, _, _, _⟩ := id hS
  rw [hv] at hS ⊢
  have HS := Aside0.mk hS
  have HK := Aside0.mk k
  have HN := Aside0.mk hn
  clear hS hv k hn
  generalize hP : T.EG 44 32 l.length (T.u8s (l.map T.tleaf).flatten) w = Post
  go_enter Tryz.func92, Tryz.ntmps92
  repeat' (((go_step)))
  replace hM := hM.nil 44 32
  go_loopg [5, 10] (l.length + 1) (fun kq v5 v10 Wd => ∃ i : Nat, v10 = .int .i64 i ∧ i ≤ l.length ∧ l.length - i < kq ∧ Aside0 (T.Mem w none Wd [.g v5 44 32 i (T.u8s ((l.take i).map T.tleaf).flatten)]))
  case atStart => exact ⟨0, rfl, by omega, by omega, ⟨hM⟩⟩
  case round =>
    clear hM
    obtain ⟨i, rfl, hi, hg, hMo⟩ := hrel
    rename_i v5
    have hM := hMo.out
    clear hMo
    by_cases hlt : i < l.length
    · have hltz : (i : Int) < (l.length : Int) := by omega
      have cb : decide ((i : Int) < (l.length : Int)) = true := decide_eq_true hltz
      have hi0 : (0 : Int) ≤ (i : Int) := by omega
      obtain ⟨ad, rfl⟩ := HS.out.some_of (Nat.lt_of_le_of_lt (Nat.zero_le _) hlt)
      have hat := T.cells_at HK.out i hlt
      have hli : (l[i]).length = 32 := HK.out _ (List.getElem_mem hlt)
      have HAT := Aside0.mk hat
      clear hat
      have htl : (T.u8s (T.tleaf l[i])).length = 32 := by rw [encs_length, T.tleaf_len]
      have hz0 : (T.u8s T.z32).length = 32 := by rw [encs_length]; rfl
      have hcz : ((T.u8s (T.tleaf l[i])).length : Nat) = 1 * 32 := htl
      have hbb : (i + 1) * 32 ≤ 70368744177664 := by have := HN.out; omega
      have hsn := T.u8s_snoc l T.tleaf i hlt
      repeat' (first | (go_at_call 93; refine (T.lleaf_calls _ hli _).mono ?_; rintro _ _ ⟨rfl, hbc⟩; replace hM := hM.call hbc; clear hbc) | ((((((with_reducible show wpList _ _ _ _ _ _); (refine T.w_o rfl ?_)))); first | ((with_reducible show T.OW _ ⟨_, .load _ _, _, _, _, _⟩ _ _ _ _); first | (refine T.ofx (T.x_slAgg rfl rfl (hM.slin HS.out) (by omega) T.TU.out T.TN.out HAT.out (by rw [encs_length, hli])) ?_) | (refine T.ofx (T.x_loadAll rfl rfl T.Fd.out T.TU.out T.TN.out (by (((rw [encs_length]; with_reducible assumption)))) hM) ?_)) | ((with_reducible show T.OW _ ⟨_, .store _ _ _, _, _, _, _⟩ _ _ _ _); ((refine T.op_storeAll _ _ _ rfl _ rfl _ rfl _ _ hM (by (repeat ((exact T.Sub.head _)))) _ T.TN.out (by (((rw [encs_length]; with_reducible assumption)))) (by ((exact T.ones_encs _ _))) (by ((with_reducible assumption))) ?_; clear hM; intro wld hM))) | ((with_reducible show T.OW _ ⟨_, .alloc _, _, _, _, _⟩ _ _ _ _); refine T.op_alloc _ rfl _ T.TZ.out hM ?_; clear hM; intro blk wld hM hlt) | ((with_reducible show T.OW _ ⟨_, .call ⟨.builtin .append, _, _⟩, _, _, _, _⟩ _ _ _ _); refine T.op_app _ _ _ rfl _ _ _ T.TE.out _ _ _ rfl _ _ _ hM (fun _ => by (repeat (first | exact T.Sub.head _ | apply T.Sub.tail))) (by (exact T.Mem.slB hM T.Fd.out (by ((exact T.ones_encs _ _))) (by decide))) (by ((with_reducible assumption))) (by decide) (by decide) (by ((with_reducible assumption))) ?_; clear hM; intro gsv wld hM) | ((with_reducible show T.OW _ ⟨_, .buildSlice _ _ _, _, _, _, _⟩ _ _ _ _); refine T.op_buildSl _ _ _ rfl _ T.TL.out _ T.TN.out _ T.TZ.out rfl (by decide) (by decide) _ rfl (by (((simp [T.okp, Value.cells, Act.eval, *]; done)))) _ rfl hM ?_; (try simp only [List.map_toArray, List.map_cons, List.map_nil, Act.eval, Array.getD_eq_getD_getElem?, List.toList_toArray, List.getElem?_toArray, List.getElem?_cons_zero, List.getElem?_cons_succ, Option.getD_some, T.segs, List.replicate_succ, List.replicate_zero, List.set_cons_zero, List.set_cons_succ, Value.cells, List.flatten_cons, List.flatten_nil, List.append_nil, List.cons_append, List.nil_append]); clear hM; intro blk wld hM hlt)); (try simp only [Act.put, List.setIfInBounds_toArray, List.set_cons_zero, List.set_cons_succ])) | (go_step) | ((fail_if_success (with_reducible show T.Seq _ _ _ _ _ _ _)); (fail_if_success (with_reducible show T.OW _ _ _ _ _ _)); simp only [Int.not_lt, Int.not_le] at *; go_simp))
      rw [hsn] at hM
      go_roundg (l.length - i)
      case measure => omega
      case rel => exact ⟨i + 1, by go_num, by omega, by omega, ⟨hM.drop (by (repeat (first | exact List.Sublist.refl _ | apply List.Sublist.cons)))⟩⟩
    · have hiN : i = l.length := by omega
      have hltz : ¬ (i : Int) < (l.length : Int) := by omega
      have cb : decide ((i : Int) < (l.length : Int)) = false := decide_eq_false hltz
      subst hiN
      rw [List.take_length] at hM
      repeat' (first | (go_step) | go_back | ((fail_if_success (with_reducible show T.Seq _ _ _ _ _ _ _)); (fail_if_success (with_reducible show T.OW _ _ _ _ _ _)); simp only [Int.not_lt, Int.not_le] at *; go_simp))
      subst hP
      exact hM.eg List.mem_cons_self
end Go.Proofs.YtdklknfgcepcbaaGreat.X
