/- Texts of this proof, laid together by wip/tools/pack.py: TP6. -/
import Derived.Test.YtdklknfgcepcbaaGreatZ43
namespace Go.Proofs.YtdklknfgcepcbaaGreat.X
open Go.RowKit Go.Proofs.YtdklknfgcepcbaaGreatW.PrintWords Go.Proofs.YtdklknfgcepcbaaGreatW.PrintLast Go.Proofs.YtdklknfgcepcbaaGreatW.PrintMore
set_option linter.unusedSimpArgs false
set_option linter.unusedVariables false
set_option maxHeartbeats 2000000
set_option maxRecDepth 20000
theorem T.upz_calls (v : List Int) (A : Option Addr) (n c : Nat) (hn : v.length = n) (hb : n ≤ 1000000) (a1 a2 a3 : Int) (w : World) (hS : T.Sl w (.slice A n c) n (encs (Value.int .i64) v)) : Calls Tryz.prog 9 #[.slice A n c, .int .i64 a1, .int .i64 a2, .int .i64 a3] w (T.EG 3 1 (S.upZ v a1 a2 a3).length (encs (Value.int .i64) (S.upZ v a1 a2 a3)) w) := by
  subst hn
  refine (super_Up.calls (v.length + 2) A c v a1 a2 a3 _ w (T.kdC rfl (Nat.le_trans hb (by decide)) hS) hS.cap (E.up_f v a1 a2 a3 (by omega) _ (by omega))).mono ?_
  rintro _ w' ⟨pv, rfl, hR, hbl⟩
  exact ⟨pv, rfl, T.kdR hR, T.ones_encs _ _, hbl⟩
theorem T.top_out (W : T.Wake) (l : List T.BlkV) (A : Option Addr) (c : Nat) (m k n : Int) (w : World) (hl : T.BlksAt w (.slice A l.length c) l) (hn : n < 0 ∨ 31 < n) : Calls Tryz.prog 3 #[.slice A l.length c, .int .i64 m, .int .i64 k, .int .i64 n] w (T.E (.bool true) w) := by
  have hM := T.Mem.start w
  have HL := Aside0.mk hl
  have HW := Aside0.mk W
  have hz3 : [Value.int .i64 0, Value.int .i64 0, T.nilS].length = 3 := rfl
  clear hl W
  generalize hP : T.E (.bool true) w = Post
  rcases hn with hn | hn
  · have d1 : decide (n < 0) = true := decide_eq_true hn
    go_enter Tryz.func3, Tryz.ntmps3
    repeat' (first | (go_at_call 4; refine (T.awake_calls HW.out _).mono ?_; rintro _ _ ⟨rfl, hbc⟩; replace hM := hM.call hbc; clear hbc) | (go_at_call 5; refine (T.few_calls l _ _ (HL.out.kept hM.below)).mono ?_; rintro _ _ ⟨bb, rfl, hb50, hbc⟩; replace hM := hM.call hbc; clear hbc hb50; cases bb) | (go_at_call 6; refine (T.build_calls l _ m k _ (HL.out.kept hM.below)).mono ?_; rintro _ w2 (⟨err, hne, rfl, hbc, hnc⟩ | ⟨hg, hr, Ap, cp, ps, rfl, hpo, hpk, hM2⟩); (case' inl => (replace hM := hM.call hbc; (obtain ⟨q1, q2⟩ := T.err2 _ hne); clear hbc hne hnc)); (case' inr => (replace hM := hM.join hM2; clear hM2 hg hr hpo hpk; simp only [List.cons_append] at hM))) | ((((((with_reducible show wpList _ _ _ _ _ _); first | refine T.w_o rfl ?_ | ((with_reducible show wpList _ _ _ (⟨_, _, _, _, _, some _⟩ :: _) _ _); refine T.w_g rfl ?_)))); first | ((with_reducible show T.OW _ ⟨_, .store _ _ _, _, _, _, _⟩ _ _ _ _); ((refine T.op_storeAll _ _ _ rfl _ rfl _ rfl _ _ hM (by (repeat ((exact T.Sub.head _)))) _ T.TN.out (by (first | with_reducible assumption | rfl)) (by ((exact T.ones_all rfl))) (by ((with_reducible assumption))) ?_; clear hM; intro wld hM))) | ((with_reducible show T.OW _ ⟨_, .alloc _, _, _, _, _⟩ _ _ _ _); refine T.op_alloc _ rfl _ T.TZ.out hM ?_; clear hM; intro blk wld hM hlt)); (try simp only [Act.put, List.setIfInBounds_toArray, List.set_cons_zero, List.set_cons_succ])) | go_skip | go_guarded | (go_step) | go_back | ((fail_if_success (with_reducible show T.Seq _ _ _ _ _ _ _)); (fail_if_success (with_reducible show T.OW _ _ _ _ _ _)); simp only [Int.not_lt, Int.not_le] at *; go_simp))
    all_goals subst hP
    all_goals exact ⟨rfl, hM.below⟩
  · have d0 : decide (n < 0) = false := decide_eq_false (by omega)
    have d1 : decide (31 < n) = true := decide_eq_true hn
    go_enter Tryz.func3, Tryz.ntmps3
    repeat' (first | (go_at_call 4; refine (T.awake_calls HW.out _).mono ?_; rintro _ _ ⟨rfl, hbc⟩; replace hM := hM.call hbc; clear hbc) | (go_at_call 5; refine (T.few_calls l _ _ (HL.out.kept hM.below)).mono ?_; rintro _ _ ⟨bb, rfl, hb50, hbc⟩; replace hM := hM.call hbc; clear hbc hb50; cases bb) | (go_at_call 6; refine (T.build_calls l _ m k _ (HL.out.kept hM.below)).mono ?_; rintro _ w2 (⟨err, hne, rfl, hbc, hnc⟩ | ⟨hg, hr, Ap, cp, ps, rfl, hpo, hpk, hM2⟩); (case' inl => (replace hM := hM.call hbc; (obtain ⟨q1, q2⟩ := T.err2 _ hne); clear hbc hne hnc)); (case' inr => (replace hM := hM.join hM2; clear hM2 hg hr hpo hpk; simp only [List.cons_append] at hM))) | ((((((with_reducible show wpList _ _ _ _ _ _); first | refine T.w_o rfl ?_ | ((with_reducible show wpList _ _ _ (⟨_, _, _, _, _, some _⟩ :: _) _ _); refine T.w_g rfl ?_)))); first | ((with_reducible show T.OW _ ⟨_, .store _ _ _, _, _, _, _⟩ _ _ _ _); ((refine T.op_storeAll _ _ _ rfl _ rfl _ rfl _ _ hM (by (repeat ((exact T.Sub.head _)))) _ T.TN.out (by (first | with_reducible assumption | rfl)) (by ((exact T.ones_all rfl))) (by ((with_reducible assumption))) ?_; clear hM; intro wld hM))) | ((with_reducible show T.OW _ ⟨_, .alloc _, _, _, _, _⟩ _ _ _ _); refine T.op_alloc _ rfl _ T.TZ.out hM ?_; clear hM; intro blk wld hM hlt)); (try simp only [Act.put, List.setIfInBounds_toArray, List.set_cons_zero, List.set_cons_succ])) | go_skip | go_guarded | (go_step) | go_back | ((fail_if_success (with_reducible show T.Seq _ _ _ _ _ _ _)); (fail_if_success (with_reducible show T.OW _ _ _ _ _ _)); simp only [Int.not_lt, Int.not_le] at *; go_simp))
    all_goals subst hP
    all_goals exact ⟨rfl, hM.below⟩
theorem T.mth_at (v : List Int) (hi : Nat) (a3 m : Int) (hm : 1 ≤ m) : ∃ f : Nat, S.mthLast (S.upZ v 0 (hi : Int) a3) m = f ∧ f ≤ hi ∧ (m ≤ ((S.upZ v 0 (hi : Int) a3).length : Int) → ∃ j : Nat, ((S.upZ v 0 (hi : Int) a3).length : Int) - m = j ∧ j < (S.upZ v 0 (hi : Int) a3).length ∧ (encs (Value.int .i64) (S.upZ v 0 (hi : Int) a3))[j]? = some (.int .i64 f)) ∧ (¬ m ≤ ((S.upZ v 0 (hi : Int) a3).length : Int) → f = 0) := by
  unfold S.mthLast
  split
  · rename_i h
    obtain ⟨j, hj⟩ : ∃ j : Nat, ((S.upZ v 0 (hi : Int) a3).length : Int) - m = j := ⟨(((S.upZ v 0 (hi : Int) a3).length : Int) - m).toNat, by omega⟩
    have hjl : j < (S.upZ v 0 (hi : Int) a3).length := by omega
    rw [hj, rd_get hjl]
    have hx := S.upZ_mem.1 (List.getElem_mem hjl)
    obtain ⟨f, hf⟩ : ∃ f : Nat, (S.upZ v 0 (hi : Int) a3)[j] = f := ⟨((S.upZ v 0 (hi : Int) a3)[j]).toNat, by omega⟩
    refine ⟨f, hf, by omega, fun _ => ⟨j, rfl, hjl, ?_⟩, fun h2 => absurd h h2⟩
    simp [encs, hjl, hf]
  · rename_i h
    exact ⟨0, rfl, Nat.zero_le _, fun h2 => absurd h2 h, fun _ => rfl⟩
theorem Z.wsub (a b : Nat) (h : b ≤ a) (ha : a ≤ 1000000) : IntKind.i64.wrap ((a : Int) - (b : Int)) = ((a - b : Nat) : Int) := by
  rw [T.w64 (by omega) (by omega)]
  omega
theorem T.top_in (W : T.Wake) (l : List T.BlkV) (A : Option Addr) (c : Nat) (m k n : Int) (w : World) (hl : T.BlksAt w (.slice A l.length c) l) (n0 : 0 ≤ n) (n1 : n ≤ 31) : Calls Tryz.prog 3 #[.slice A l.length c, .int .i64 m, .int .i64 k, .int .i64 n] w (T.E (.bool true) w) := by
  have hM := T.Mem.start w
  have HL := Aside0.mk hl
  have HW := Aside0.mk W
  have hz3 : [Value.int .i64 0, Value.int .i64 0, T.nilS].length = 3 := rfl
  have d1 : decide (n < 0) = false := decide_eq_false (by omega)
  have d2 : decide (31 < n) = false := decide_eq_false (by omega)
  have hlv := T.levels_len l
  have HLV := Aside0.mk hlv
  have HLN := Aside0.mk hl.n
  clear hl W hlv
  generalize hP : T.E (.bool true) w = Post
  go_enter Tryz.func3, Tryz.ntmps3
  repeat' (first | (go_at_call 4; refine (T.awake_calls HW.out _).mono ?_; rintro _ _ ⟨rfl, hbc⟩; replace hM := hM.call hbc; clear hbc) | (go_at_call 5; refine (T.few_calls l _ _ (HL.out.kept hM.below)).mono ?_; rintro _ _ ⟨bb, rfl, hb50, hbc⟩; replace hM := hM.call hbc; clear hbc; have HB5 := Aside0.mk hb50; clear hb50; cases bb) | (go_at_call 6; refine (T.build_calls l _ m k _ (HL.out.kept hM.below)).mono ?_; rintro _ w2 (⟨err, hne, rfl, hbc, hnc⟩ | ⟨hg, hr, Ap, cp, ps, rfl, hpo, hpk, hM2⟩); (case' inl => (replace hM := hM.call hbc; (obtain ⟨q1, q2⟩ := T.err2 _ hne); clear hbc hnc)); (case' inr => (replace hM := hM.join hM2; clear hM2; have HG := Aside0.mk hg; have HR := Aside0.mk hr; have HPO := Aside0.mk hpo; have HPK := Aside0.mk hpk; (obtain ⟨r1, r2, r3, r4, r5⟩ := hr); have g1 : decide (m < 1) = false := decide_eq_false (by omega); have g2 : decide (k < 1) = false := decide_eq_false (by omega); have g3 : decide ((l.length : Int) ≤ k) = false := decide_eq_false (by omega); clear hg hpo hpk; simp only [List.cons_append] at hM))) | (go_at_call 7; refine (T.levels_calls l _ _ (HL.out.kept hM.below)).mono ?_; rintro _ wr ⟨v, rfl, ho, h1, hbc⟩; (obtain ⟨Ag, cg, rfl⟩ := T.own_slice ho); replace hM := hM.callG hbc ho h1; clear hbc ho h1) | ((((((with_reducible show wpList _ _ _ _ _ _); first | refine T.w_o rfl ?_ | ((with_reducible show wpList _ _ _ (⟨_, _, _, _, _, some _⟩ :: _) _ _); refine T.w_g rfl ?_)))); first | ((with_reducible show T.OW _ ⟨_, .load _ _, _, _, _, _⟩ _ _ _ _); ((refine T.ofx (T.x_loadAll rfl rfl T.Fd.out T.TU.out T.TN.out (by ((rfl))) hM) ?_))) | ((with_reducible show T.OW _ ⟨_, .store _ _ _, _, _, _, _⟩ _ _ _ _); ((refine T.op_storeAll _ _ _ rfl _ rfl _ rfl _ _ hM (by (repeat ((exact T.Sub.head _)))) _ T.TN.out (by (first | with_reducible assumption | rfl)) (by ((exact T.ones_all rfl))) (by ((with_reducible assumption))) ?_; clear hM; intro wld hM))) | ((with_reducible show T.OW _ ⟨_, .alloc _, _, _, _, _⟩ _ _ _ _); refine T.op_alloc _ rfl _ T.TZ.out hM ?_; clear hM; intro blk wld hM hlt)); (try simp only [Act.put, List.setIfInBounds_toArray, List.set_cons_zero, List.set_cons_succ])) | go_skip | go_guarded | (go_step) | go_back | ((fail_if_success (with_reducible show T.Seq _ _ _ _ _ _ _)); (fail_if_success (with_reducible show T.OW _ _ _ _ _ _)); simp only [Int.not_lt, Int.not_le] at *; go_simp))
  all_goals first | (subst hP; exact ⟨rfl, hM.below⟩) | skip
  have hn50 := HB5.out (by (trivial))
  obtain ⟨q, rfl⟩ : ∃ q : Nat, k = (q : Int) := ⟨k.toNat, by omega⟩
  have e1 := Z.wsub l.length q (by omega) (by omega)
  have e2 : IntKind.i64.wrap (n + 1) = n + 1 := T.w64 (by omega) (by omega)
  obtain ⟨f, hf, hfh, hfy, hfn⟩ := T.mth_at (T.levels l) (l.length - q) (n + 1) m r1
  have hlaw := Z.law l m q n HG.out hn50 HR.out n0 n1 ps HPO.out f (by rw [Int.toNat_natCast]; exact hf)
  rw [Int.toNat_natCast] at hlaw
  obtain ⟨hpl, hcn⟩ := hlaw
  have hpb : ps.length ≤ 1000 ∧ q ≤ ps.length := by
    have h1 := T.pref_len (T.levels l) m q
    rw [T.levels_len] at h1
    generalize (S.prefZ (T.levels l) m (q : Int)).1.length = z at h1 hpl
    clear hcn
    constructor <;> omega
  obtain ⟨hpb, hqp⟩ := hpb
  have HCN := Aside0.mk hcn
  have HWL := Aside0.mk (show (T.plevels ps).length = ps.length by simp [T.plevels])
  have e5 := Z.wsub ps.length q hqp (Nat.le_trans hpb (by decide))
  have hul := S.upZ_len (T.levels l) 0 ((l.length - q : Nat) : Int) (n + 1)
  rw [T.levels_len] at hul
  have HFN := Aside0.mk hfn
  have HFY := Aside0.mk hfy
  clear hpl hcn hf hfn hfy
  obtain ⟨b11, rfl⟩ := T.n2 hM
  generalize hUP : S.upZ (T.levels l) 0 ((l.length - q : Nat) : Int) (n + 1) = up at *
  have HUP := Aside0.mk hUP
  clear hUP
  by_cases hmu : m ≤ (up.length : Int)
  · obtain ⟨j, hj, hjl, hjv⟩ := HFY.out hmu
    have c1 : decide (m ≤ (up.length : Int)) = true := decide_eq_true hmu
    have e3 : IntKind.i64.wrap ((up.length : Int) - m) = (j : Int) := by rw [T.w64 (by omega) (by omega)]; exact hj
    have j0 : (0 : Int) ≤ (j : Int) := by omega
    have jl : (j : Int) < (up.length : Int) := by omega
    have f0 : decide ((f : Int) < 0) = false := decide_eq_false (by omega)
    have HJV := Aside0.mk hjv
    clear hj hjv
    repeat' (first | (go_at_call 8; refine (T.cklevels_calls ps HPK.out (by omega) m q _ _ (hM.gsl (by (repeat (first | exact List.Mem.head _ | apply List.Mem.tail))))).mono ?_; rintro _ wr ⟨v, rfl, ho, h1, hbc⟩; (obtain ⟨A8, c8, rfl⟩ := T.own_slice ho); replace hM := hM.callG hbc ho h1; clear hbc ho h1) | (go_at_call 9; refine (T.upz_calls (T.levels l) Ag l.length cg HLV.out HLN.out 0 _ _ _ (hM.gsl (by (repeat (first | exact List.Mem.head _ | apply List.Mem.tail))))).mono ?_; rintro _ wr ⟨v, rfl, ho, h1, hbc⟩; rw [HUP.out] at ho h1; (obtain ⟨A9, c9, rfl⟩ := T.own_slice ho); replace hM := hM.callG hbc ho h1; clear hbc ho h1; (obtain ⟨b9, o9, rfl⟩ := (hM.gsl (.head _)).adr (by omega))) | ((((((with_reducible show wpList _ _ _ _ _ _); first | refine T.w_o rfl ?_ | ((with_reducible show wpList _ _ _ (⟨_, _, _, _, _, some _⟩ :: _) _ _); refine T.w_g rfl ?_)))); (((with_reducible show T.OW _ ⟨_, .load _ _, _, _, _, _⟩ _ _ _ _); ((refine T.ofx (T.x_slCell (o := o9) (j := j) rfl rfl (hM.gsl (.head _)) T.TS.out HJV.out) ?_))))); (try simp only [Act.put, List.setIfInBounds_toArray, List.set_cons_zero, List.set_cons_succ])) | go_guarded | (go_step) | ((fail_if_success (with_reducible show T.Seq _ _ _ _ _ _ _)); (fail_if_success (with_reducible show T.OW _ _ _ _ _ _)); simp only [Int.not_lt, Int.not_le] at *; go_simp))
    obtain ⟨bw, ow, rfl⟩ : ∃ bw ow, A8 = some ⟨bw, ow, none⟩ := (hM.gsl (v := .slice A8 ps.length c8) (by (repeat (first | exact List.Mem.head _ | apply List.Mem.tail)))).adr (by omega)
    obtain ⟨bg, og, rfl⟩ : ∃ bg og, Ag = some ⟨bg, og, none⟩ := (hM.gsl (v := .slice Ag l.length cg) (by (repeat (first | exact List.Mem.head _ | apply List.Mem.tail)))).adr (by omega)
    have hM3 : T.Mem w none _ [.g (.slice (some ⟨bw, ow, none⟩) ps.length c8) 3 1 ps.length (encs (Value.int .i64) (T.plevels ps)), .g (.slice (some ⟨bg, og, none⟩) l.length cg) 3 1 l.length (encs (Value.int .i64) (T.levels l)), .b b11 27 [.int .i64 m, .int .i64 q, .slice Ap ps.length cp]] := hM.drop (.cons _ (.cons_cons _ (.cons_cons _ (.cons_cons _ (List.nil_sublist _)))))
    clear hM
    go_loopg [17, 18] (ps.length - q + 1) (fun kq v17 v18 Wd => ∃ (i cN : Nat), v18 = .int .i64 i ∧ v17 = .int .i64 cN ∧ i ≤ ps.length - q ∧ cN ≤ i ∧ ps.length - q - i < kq ∧ Aside0 (cN = Z.cnt ((T.plevels ps).take i) n) ∧ Aside0 (T.Mem w none Wd [.g (.slice (some ⟨bw, ow, none⟩) ps.length c8) 3 1 ps.length (encs (Value.int .i64) (T.plevels ps)), .g (.slice (some ⟨bg, og, none⟩) l.length cg) 3 1 l.length (encs (Value.int .i64) (T.levels l)), .b b11 27 [.int .i64 m, .int .i64 q, .slice Ap ps.length cp]]))
    case atStart => exact ⟨0, 0, rfl, rfl, by omega, by omega, by omega, ⟨rfl⟩, ⟨hM3⟩⟩
    case round =>
      clear hM3
      obtain ⟨i, cN, rfl, rfl, hi, hci, hg, HCC, hMo⟩ := hrel
      have hM := hMo.out
      clear hMo
      by_cases hlt : i < ps.length - q
      · have hltz : (i : Int) < ((ps.length - q : Nat) : Int) := by omega
        have cb : decide ((i : Int) < ((ps.length - q : Nat) : Int)) = true := decide_eq_true hltz
        have hi0 : (0 : Int) ≤ (i : Int) := by omega
        have hip : i < ps.length := by omega
        have hiz : (i : Int) < (ps.length : Int) := by omega
        have hiw : i < (T.plevels ps).length := by rw [HWL.out]; exact hip
        have HI := Aside0.mk (show (encs (Value.int .i64) (T.plevels ps))[i]? = some (.int .i64 (T.plevels ps)[i]) by simp [encs, hiw])
        have HTK := Aside0.mk (Z.cnt_take (T.plevels ps) n i hiw)
        generalize (T.plevels ps)[i] = y at *
        have e6 : IntKind.i64.wrap ((cN : Int) + 1) = ((cN + 1 : Nat) : Int) := by rw [T.w64 (by omega) (by omega)]; omega
        clear hiw
        by_cases hy : y = n
        · have cy : decide (y = n) = true := decide_eq_true hy
          have HY := Aside0.mk hy
          subst hy
          repeat' (first | ((((((with_reducible show wpList _ _ _ _ _ _); (refine T.w_o rfl ?_)))); (((with_reducible show T.OW _ ⟨_, .load _ _, _, _, _, _⟩ _ _ _ _); ((refine T.ofx (T.x_slCell (o := ow) (j := i) rfl rfl (hM.gsl (by (repeat ((exact List.Mem.head _))))) T.TS.out HI.out) ?_))))); (try simp only [Act.put, List.setIfInBounds_toArray, List.set_cons_zero, List.set_cons_succ])) | (go_step) | ((fail_if_success (with_reducible show T.Seq _ _ _ _ _ _ _)); (fail_if_success (with_reducible show T.OW _ _ _ _ _ _)); simp only [Int.not_lt, Int.not_le] at *; go_simp))
          go_roundg (ps.length - q - i)
          case measure => omega
          case rel => exact ⟨i + 1, cN + 1, (by (go_num)), rfl, by omega, by omega, by omega, ⟨by rw [HTK.out, ← HCC.out]; simp⟩, ⟨hM⟩⟩
        · have cy : decide (y = n) = false := decide_eq_false hy
          have cy2 : (y == n) = false := beq_eq_false_iff_ne.2 hy
          repeat' (first | ((((((with_reducible show wpList _ _ _ _ _ _); (refine T.w_o rfl ?_)))); (((with_reducible show T.OW _ ⟨_, .load _ _, _, _, _, _⟩ _ _ _ _); ((refine T.ofx (T.x_slCell (o := ow) (j := i) rfl rfl (hM.gsl (by (repeat ((exact List.Mem.head _))))) T.TS.out HI.out) ?_))))); (try simp only [Act.put, List.setIfInBounds_toArray, List.set_cons_zero, List.set_cons_succ])) | (go_step))
          go_roundg (ps.length - q - i)
          case measure => omega
          case rel => exact ⟨i + 1, cN, (by (go_num)), rfl, by omega, by omega, by omega, ⟨by rw [HTK.out, ← HCC.out]; simp [hy]⟩, ⟨hM⟩⟩
      · have hltz : ¬ (i : Int) < ((ps.length - q : Nat) : Int) := by omega
        have cb : decide ((i : Int) < ((ps.length - q : Nat) : Int)) = false := decide_eq_false hltz
        have HC1 := Aside0.mk (show cN = Z.cnt (((T.levels l).take (l.length - q)).drop f) n by
          rw [HCC.out, show i = ps.length - q by omega, HCN.out])
        clear HCC
        repeat' (first | (go_step) | ((fail_if_success (with_reducible show T.Seq _ _ _ _ _ _ _)); (fail_if_success (with_reducible show T.OW _ _ _ _ _ _)); simp only [Int.not_lt, Int.not_le] at *; go_simp))
        have hM3 := hM
        clear hM
        go_loopg [19, 20] (l.length - q + 1) (fun kq v19 v20 Wd => ∃ (j2 cM : Nat), v20 = .int .i64 j2 ∧ v19 = .int .i64 cM ∧ j2 ≤ l.length - q ∧ f ≤ j2 ∧ cM ≤ j2 ∧ l.length - q - j2 < kq ∧ Aside0 (cM = Z.cnt (((T.levels l).take j2).drop f) n) ∧ Aside0 (T.Mem w none Wd [.g (.slice (some ⟨bw, ow, none⟩) ps.length c8) 3 1 ps.length (encs (Value.int .i64) (T.plevels ps)), .g (.slice (some ⟨bg, og, none⟩) l.length cg) 3 1 l.length (encs (Value.int .i64) (T.levels l)), .b b11 27 [.int .i64 m, .int .i64 q, .slice Ap ps.length cp]]))
        case atStart => exact ⟨f, 0, rfl, rfl, by omega, by omega, by omega, by omega, ⟨by rw [List.drop_of_length_le (by rw [List.length_take]; omega)]; rfl⟩, ⟨hM3⟩⟩
        case round =>
          clear hM3
          obtain ⟨j2, cM, rfl, rfl, hj2, hfj, hcj, hgj, HCD, hMo⟩ := hrel
          have hM := hMo.out
          clear hMo
          by_cases hlt2 : j2 < l.length - q
          · have hlt2z : (j2 : Int) < ((l.length - q : Nat) : Int) := by omega
            have cb2 : decide ((j2 : Int) < ((l.length - q : Nat) : Int)) = true := decide_eq_true hlt2z
            have hj0 : (0 : Int) ≤ (j2 : Int) := by omega
            have hjp : j2 < l.length := by omega
            have hjz : (j2 : Int) < (l.length : Int) := by omega
            have hjw : j2 < (T.levels l).length := by rw [HLV.out]; exact hjp
            have HI := Aside0.mk (show (encs (Value.int .i64) (T.levels l))[j2]? = some (.int .i64 (T.levels l)[j2]) by simp [encs, hjw])
            have HTK := Aside0.mk (Z.cnt_drop (T.levels l) n f j2 hjw hfj)
            generalize (T.levels l)[j2] = y at *
            have e7 : IntKind.i64.wrap ((cM : Int) + 1) = ((cM + 1 : Nat) : Int) := by rw [T.w64 (by omega) (by omega)]; omega
            clear hjw
            by_cases hy : y = n
            · have cy : decide (y = n) = true := decide_eq_true hy
              subst hy
              repeat' (first | ((((((with_reducible show wpList _ _ _ _ _ _); (refine T.w_o rfl ?_)))); (((with_reducible show T.OW _ ⟨_, .load _ _, _, _, _, _⟩ _ _ _ _); ((refine T.ofx (T.x_slCell (o := og) (j := j2) rfl rfl (hM.gsl (by (repeat (first | exact List.Mem.head _ | apply List.Mem.tail)))) T.TS.out HI.out) ?_))))); (try simp only [Act.put, List.setIfInBounds_toArray, List.set_cons_zero, List.set_cons_succ])) | (go_step) | ((fail_if_success (with_reducible show T.Seq _ _ _ _ _ _ _)); (fail_if_success (with_reducible show T.OW _ _ _ _ _ _)); simp only [Int.not_lt, Int.not_le] at *; go_simp))
              go_roundg (l.length - q - j2)
              case measure => omega
              case rel => exact ⟨j2 + 1, cM + 1, (by (go_num)), rfl, by omega, by omega, by omega, by omega, ⟨by rw [HTK.out, ← HCD.out]; simp⟩, ⟨hM⟩⟩
            · have cy : decide (y = n) = false := decide_eq_false hy
              have cy2 : (y == n) = false := beq_eq_false_iff_ne.2 hy
              repeat' (first | ((((((with_reducible show wpList _ _ _ _ _ _); (refine T.w_o rfl ?_)))); (((with_reducible show T.OW _ ⟨_, .load _ _, _, _, _, _⟩ _ _ _ _); ((refine T.ofx (T.x_slCell (o := og) (j := j2) rfl rfl (hM.gsl (by (repeat (first | exact List.Mem.head _ | apply List.Mem.tail)))) T.TS.out HI.out) ?_))))); (try simp only [Act.put, List.setIfInBounds_toArray, List.set_cons_zero, List.set_cons_succ])) | (go_step))
              go_roundg (l.length - q - j2)
              case measure => omega
              case rel => exact ⟨j2 + 1, cM, (by (go_num)), rfl, by omega, by omega, by omega, by omega, ⟨by rw [HTK.out, ← HCD.out]; simp [hy]⟩, ⟨hM⟩⟩
          · have hlt2z : ¬ (j2 : Int) < ((l.length - q : Nat) : Int) := by omega
            have cb2 : decide ((j2 : Int) < ((l.length - q : Nat) : Int)) = false := decide_eq_false hlt2z
            obtain rfl : cM = cN := by rw [HCD.out, HC1.out, show j2 = l.length - q by omega]
            repeat' (first | ((((((with_reducible show wpList _ _ _ _ _ _); first | refine T.w_o rfl ?_ | ((with_reducible show wpList _ _ _ (⟨_, _, _, _, _, some _⟩ :: _) _ _); refine T.w_g rfl ?_)))); (((with_reducible show T.OW _ ⟨_, .load _ _, _, _, _, _⟩ _ _ _ _); ((refine T.ofx (T.x_load rfl rfl T.Fd.out T.TS.out rfl hM) ?_))))); (try simp only [Act.put, List.setIfInBounds_toArray, List.set_cons_zero, List.set_cons_succ])) | go_guarded | (go_step) | go_back | ((fail_if_success (with_reducible show T.Seq _ _ _ _ _ _ _)); (fail_if_success (with_reducible show T.OW _ _ _ _ _ _)); simp only [Int.not_lt, Int.not_le] at *; go_simp))
            subst hP
            exact ⟨rfl, hM.below⟩
  · have HF0 := Aside0.mk (HFN.out hmu)
    have c1 : decide (m ≤ (up.length : Int)) = false := decide_eq_false hmu
    repeat' (first | (go_at_call 8; refine (T.cklevels_calls ps HPK.out (by omega) m q _ _ (hM.gsl (by (repeat (first | exact List.Mem.head _ | apply List.Mem.tail))))).mono ?_; rintro _ wr ⟨v, rfl, ho, h1, hbc⟩; (obtain ⟨A8, c8, rfl⟩ := T.own_slice ho); replace hM := hM.callG hbc ho h1; clear hbc ho h1) | (go_at_call 9; refine (T.upz_calls (T.levels l) Ag l.length cg HLV.out HLN.out 0 _ _ _ (hM.gsl (by (repeat (first | exact List.Mem.head _ | apply List.Mem.tail))))).mono ?_; rintro _ wr ⟨v, rfl, ho, h1, hbc⟩; rw [HUP.out] at ho h1; (obtain ⟨A9, c9, rfl⟩ := T.own_slice ho); replace hM := hM.callG hbc ho h1; clear hbc ho h1) | go_guarded | (go_step) | ((fail_if_success (with_reducible show T.Seq _ _ _ _ _ _ _)); (fail_if_success (with_reducible show T.OW _ _ _ _ _ _)); simp only [Int.not_lt, Int.not_le] at *; go_simp))
    obtain ⟨bw, ow, rfl⟩ : ∃ bw ow, A8 = some ⟨bw, ow, none⟩ := (hM.gsl (v := .slice A8 ps.length c8) (by (repeat (first | exact List.Mem.head _ | apply List.Mem.tail)))).adr (by omega)
    obtain ⟨bg, og, rfl⟩ : ∃ bg og, Ag = some ⟨bg, og, none⟩ := (hM.gsl (v := .slice Ag l.length cg) (by (repeat (first | exact List.Mem.head _ | apply List.Mem.tail)))).adr (by omega)
    have hM3 : T.Mem w none _ [.g (.slice (some ⟨bw, ow, none⟩) ps.length c8) 3 1 ps.length (encs (Value.int .i64) (T.plevels ps)), .g (.slice (some ⟨bg, og, none⟩) l.length cg) 3 1 l.length (encs (Value.int .i64) (T.levels l)), .b b11 27 [.int .i64 m, .int .i64 q, .slice Ap ps.length cp]] := hM.drop (.cons _ (.cons_cons _ (.cons_cons _ (.cons_cons _ (List.nil_sublist _)))))
    clear hM
    go_loopg [17, 18] (ps.length - q + 1) (fun kq v17 v18 Wd => ∃ (i cN : Nat), v18 = .int .i64 i ∧ v17 = .int .i64 cN ∧ i ≤ ps.length - q ∧ cN ≤ i ∧ ps.length - q - i < kq ∧ Aside0 (cN = Z.cnt ((T.plevels ps).take i) n) ∧ Aside0 (T.Mem w none Wd [.g (.slice (some ⟨bw, ow, none⟩) ps.length c8) 3 1 ps.length (encs (Value.int .i64) (T.plevels ps)), .g (.slice (some ⟨bg, og, none⟩) l.length cg) 3 1 l.length (encs (Value.int .i64) (T.levels l)), .b b11 27 [.int .i64 m, .int .i64 q, .slice Ap ps.length cp]]))
    case atStart => exact ⟨0, 0, rfl, rfl, by omega, by omega, by omega, ⟨rfl⟩, ⟨hM3⟩⟩
    case round =>
      clear hM3
      obtain ⟨i, cN, rfl, rfl, hi, hci, hg, HCC, hMo⟩ := hrel
      have hM := hMo.out
      clear hMo
      by_cases hlt : i < ps.length - q
      · have hltz : (i : Int) < ((ps.length - q : Nat) : Int) := by omega
        have cb : decide ((i : Int) < ((ps.length - q : Nat) : Int)) = true := decide_eq_true hltz
        have hi0 : (0 : Int) ≤ (i : Int) := by omega
        have hip : i < ps.length := by omega
        have hiz : (i : Int) < (ps.length : Int) := by omega
        have hiw : i < (T.plevels ps).length := by rw [HWL.out]; exact hip
        have HI := Aside0.mk (show (encs (Value.int .i64) (T.plevels ps))[i]? = some (.int .i64 (T.plevels ps)[i]) by simp [encs, hiw])
        have HTK := Aside0.mk (Z.cnt_take (T.plevels ps) n i hiw)
        generalize (T.plevels ps)[i] = y at *
        have e6 : IntKind.i64.wrap ((cN : Int) + 1) = ((cN + 1 : Nat) : Int) := by rw [T.w64 (by omega) (by omega)]; omega
        clear hiw
        by_cases hy : y = n
        · have cy : decide (y = n) = true := decide_eq_true hy
          have HY := Aside0.mk hy
          subst hy
          repeat' (first | ((((((with_reducible show wpList _ _ _ _ _ _); (refine T.w_o rfl ?_)))); (((with_reducible show T.OW _ ⟨_, .load _ _, _, _, _, _⟩ _ _ _ _); ((refine T.ofx (T.x_slCell (o := ow) (j := i) rfl rfl (hM.gsl (by (repeat ((exact List.Mem.head _))))) T.TS.out HI.out) ?_))))); (try simp only [Act.put, List.setIfInBounds_toArray, List.set_cons_zero, List.set_cons_succ])) | (go_step) | ((fail_if_success (with_reducible show T.Seq _ _ _ _ _ _ _)); (fail_if_success (with_reducible show T.OW _ _ _ _ _ _)); simp only [Int.not_lt, Int.not_le] at *; go_simp))
          go_roundg (ps.length - q - i)
          case measure => omega
          case rel => exact ⟨i + 1, cN + 1, (by (go_num)), rfl, by omega, by omega, by omega, ⟨by rw [HTK.out, ← HCC.out]; simp⟩, ⟨hM⟩⟩
        · have cy : decide (y = n) = false := decide_eq_false hy
          have cy2 : (y == n) = false := beq_eq_false_iff_ne.2 hy
          repeat' (first | ((((((with_reducible show wpList _ _ _ _ _ _); (refine T.w_o rfl ?_)))); (((with_reducible show T.OW _ ⟨_, .load _ _, _, _, _, _⟩ _ _ _ _); ((refine T.ofx (T.x_slCell (o := ow) (j := i) rfl rfl (hM.gsl (by (repeat ((exact List.Mem.head _))))) T.TS.out HI.out) ?_))))); (try simp only [Act.put, List.setIfInBounds_toArray, List.set_cons_zero, List.set_cons_succ])) | (go_step))
          go_roundg (ps.length - q - i)
          case measure => omega
          case rel => exact ⟨i + 1, cN, (by (go_num)), rfl, by omega, by omega, by omega, ⟨by rw [HTK.out, ← HCC.out]; simp [hy]⟩, ⟨hM⟩⟩
      · have hltz : ¬ (i : Int) < ((ps.length - q : Nat) : Int) := by omega
        have cb : decide ((i : Int) < ((ps.length - q : Nat) : Int)) = false := decide_eq_false hltz
        have HC1 := Aside0.mk (show cN = Z.cnt (((T.levels l).take (l.length - q)).drop f) n by
          rw [HCC.out, show i = ps.length - q by omega, HCN.out])
        clear HCC
        repeat' (first | (go_step) | ((fail_if_success (with_reducible show T.Seq _ _ _ _ _ _ _)); (fail_if_success (with_reducible show T.OW _ _ _ _ _ _)); simp only [Int.not_lt, Int.not_le] at *; go_simp))
        have hM3 := hM
        clear hM
        go_loopg [19, 20] (l.length - q + 1) (fun kq v19 v20 Wd => ∃ (j2 cM : Nat), v20 = .int .i64 j2 ∧ v19 = .int .i64 cM ∧ j2 ≤ l.length - q ∧ f ≤ j2 ∧ cM ≤ j2 ∧ l.length - q - j2 < kq ∧ Aside0 (cM = Z.cnt (((T.levels l).take j2).drop f) n) ∧ Aside0 (T.Mem w none Wd [.g (.slice (some ⟨bw, ow, none⟩) ps.length c8) 3 1 ps.length (encs (Value.int .i64) (T.plevels ps)), .g (.slice (some ⟨bg, og, none⟩) l.length cg) 3 1 l.length (encs (Value.int .i64) (T.levels l)), .b b11 27 [.int .i64 m, .int .i64 q, .slice Ap ps.length cp]]))
        case atStart => exact ⟨f, 0, (by rw [HF0.out]; rfl), rfl, by omega, by omega, by omega, by omega, ⟨by rw [List.drop_of_length_le (by rw [List.length_take]; omega)]; rfl⟩, ⟨hM3⟩⟩
        case round =>
          clear hM3
          obtain ⟨j2, cM, rfl, rfl, hj2, hfj, hcj, hgj, HCD, hMo⟩ := hrel
          have hM := hMo.out
          clear hMo
          by_cases hlt2 : j2 < l.length - q
          · have hlt2z : (j2 : Int) < ((l.length - q : Nat) : Int) := by omega
            have cb2 : decide ((j2 : Int) < ((l.length - q : Nat) : Int)) = true := decide_eq_true hlt2z
            have hj0 : (0 : Int) ≤ (j2 : Int) := by omega
            have hjp : j2 < l.length := by omega
            have hjz : (j2 : Int) < (l.length : Int) := by omega
            have hjw : j2 < (T.levels l).length := by rw [HLV.out]; exact hjp
            have HI := Aside0.mk (show (encs (Value.int .i64) (T.levels l))[j2]? = some (.int .i64 (T.levels l)[j2]) by simp [encs, hjw])
            have HTK := Aside0.mk (Z.cnt_drop (T.levels l) n f j2 hjw hfj)
            generalize (T.levels l)[j2] = y at *
            have e7 : IntKind.i64.wrap ((cM : Int) + 1) = ((cM + 1 : Nat) : Int) := by rw [T.w64 (by omega) (by omega)]; omega
            clear hjw
            by_cases hy : y = n
            · have cy : decide (y = n) = true := decide_eq_true hy
              subst hy
              repeat' (first | ((((((with_reducible show wpList _ _ _ _ _ _); (refine T.w_o rfl ?_)))); (((with_reducible show T.OW _ ⟨_, .load _ _, _, _, _, _⟩ _ _ _ _); ((refine T.ofx (T.x_slCell (o := og) (j := j2) rfl rfl (hM.gsl (by (repeat (first | exact List.Mem.head _ | apply List.Mem.tail)))) T.TS.out HI.out) ?_))))); (try simp only [Act.put, List.setIfInBounds_toArray, List.set_cons_zero, List.set_cons_succ])) | (go_step) | ((fail_if_success (with_reducible show T.Seq _ _ _ _ _ _ _)); (fail_if_success (with_reducible show T.OW _ _ _ _ _ _)); simp only [Int.not_lt, Int.not_le] at *; go_simp))
              go_roundg (l.length - q - j2)
              case measure => omega
              case rel => exact ⟨j2 + 1, cM + 1, (by (go_num)), rfl, by omega, by omega, by omega, by omega, ⟨by rw [HTK.out, ← HCD.out]; simp⟩, ⟨hM⟩⟩
            · have cy : decide (y = n) = false := decide_eq_false hy
              have cy2 : (y == n) = false := beq_eq_false_iff_ne.2 hy
              repeat' (first | ((((((with_reducible show wpList _ _ _ _ _ _); (refine T.w_o rfl ?_)))); (((with_reducible show T.OW _ ⟨_, .load _ _, _, _, _, _⟩ _ _ _ _); ((refine T.ofx (T.x_slCell (o := og) (j := j2) rfl rfl (hM.gsl (by (repeat (first | exact List.Mem.head _ | apply List.Mem.tail)))) T.TS.out HI.out) ?_))))); (try simp only [Act.put, List.setIfInBounds_toArray, List.set_cons_zero, List.set_cons_succ])) | (go_step))
              go_roundg (l.length - q - j2)
              case measure => omega
              case rel => exact ⟨j2 + 1, cM, (by (go_num)), rfl, by omega, by omega, by omega, by omega, ⟨by rw [HTK.out, ← HCD.out]; simp [hy]⟩, ⟨hM⟩⟩
          · have hlt2z : ¬ (j2 : Int) < ((l.length - q : Nat) : Int) := by omega
            have cb2 : decide ((j2 : Int) < ((l.length - q : Nat) : Int)) = false := decide_eq_false hlt2z
            obtain rfl : cM = cN := by rw [HCD.out, HC1.out, show j2 = l.length - q by omega]
            repeat' (first | ((((((with_reducible show wpList _ _ _ _ _ _); first | refine T.w_o rfl ?_ | ((with_reducible show wpList _ _ _ (⟨_, _, _, _, _, some _⟩ :: _) _ _); refine T.w_g rfl ?_)))); (((with_reducible show T.OW _ ⟨_, .load _ _, _, _, _, _⟩ _ _ _ _); ((refine T.ofx (T.x_load rfl rfl T.Fd.out T.TS.out rfl hM) ?_))))); (try simp only [Act.put, List.setIfInBounds_toArray, List.set_cons_zero, List.set_cons_succ])) | go_guarded | (go_step) | go_back | ((fail_if_success (with_reducible show T.Seq _ _ _ _ _ _ _)); (fail_if_success (with_reducible show T.OW _ _ _ _ _ _)); simp only [Int.not_lt, Int.not_le] at *; go_simp))
            subst hP
            exact ⟨rfl, hM.below⟩
end Go.Proofs.YtdklknfgcepcbaaGreat.X
