/- Texts of this proof, laid together by wip/tools/pack.py: TL7, TL8, TL9, TM1. -/
import Derived.Test.YtdklknfgcepcbaaGreatZ29
namespace Go.Proofs.YtdklknfgcepcbaaGreat.X
open Go.RowKit Go.Proofs.YtdklknfgcepcbaaGreatW.PrintWords Go.Proofs.YtdklknfgcepcbaaGreatW.PrintLast Go.Proofs.YtdklknfgcepcbaaGreatW.PrintMore
set_option linter.unusedSimpArgs false
set_option linter.unusedVariables false
set_option maxHeartbeats 2000000
set_option maxRecDepth 20000
def T.WApply (pv tv : Value) (w : World) (e : Ending) (w' : World) : Prop := ∃ v l err, e = .returned (.tuple #[v, .int .i64 err]) ∧ (pv = T.nilS → tv = T.nilS → err = 0) ∧ T.OwnC w v l w' ∧ l.length ≤ 1000000 ∧ Below w.heap.size w w'
theorem T.WFailA.apply {p : List T.CoinV} (hn : p.length ≤ 1000000) {err : Int} {w0 w : World} {L : List T.Blk} (hM : T.Mem w0 none w L) {e : Ending} {w' : World} (h : T.WFailA p err w e w') : ∃ v, e = .returned (.tuple #[v, .int .i64 err]) ∧ T.Mem w0 none w' (.g v 234 35 p.length (T.rc T.CoinV.cells p) :: L) := by
  obtain ⟨v, rfl, ⟨ho, _⟩, hb⟩ := h
  exact ⟨v, rfl, hM.callG hb ho (T.rc_ones (fun y _ => y.ones))⟩
theorem T.apply_of {pv tv : Value} {w w' : World} {L : List T.Blk} {v : Value} {l : List T.CoinV} {n : Nat} (hl : l.length = n) (kl : ∀ x ∈ l, x.ok) (hn : l.length ≤ 1000000) (err : Int) (h0 : pv = T.nilS → tv = T.nilS → err = 0) (hM : T.Mem w none w' L) (hm : .g v 234 35 n (T.rc T.CoinV.cells l) ∈ L) : T.WApply pv tv w (.returned (.tuple #[v, .int .i64 err])) w' := by
  subst hl
  exact ⟨v, l, err, rfl, h0, ⟨(hM.row _ hm).1, kl⟩, hn, hM.below⟩
theorem T.pmay0_calls (w : World) : Calls Tryz.prog 152 #[.slice none 0 0] w (T.E (.bool true) w) := by
  have hM := T.Mem.start w
  generalize hP : T.E (.bool true) w = Post
  go_enter Tryz.func152, Tryz.ntmps152
  repeat' (((go_step)))
  refine T.wp_rounds 1 ?_
  unfold T.rounds
  repeat' (first | (go_step) | go_back | ((fail_if_success (with_reducible show T.Seq _ _ _ _ _ _ _)); (fail_if_success (with_reducible show T.OW _ _ _ _ _ _)); simp only [Int.not_lt, Int.not_le] at *; go_simp))
  subst hP
  exact ⟨rfl, hM.below⟩
theorem T.apply0_calls (w : World) : Calls Tryz.prog 121 #[.slice none 0 0, .slice none 0 0] w (T.WApply T.nilS T.nilS w) := by
  have hM := T.Mem.start w
  generalize hP : T.WApply T.nilS T.nilS w = Post
  have hS0 : T.Sl w (.slice none 0 0) 0 [] := T.Sl.nil _
  go_enter Tryz.func121, Tryz.ntmps121
  repeat' (first | (go_at_call 152; refine (T.pmay0_calls _).mono ?_; rintro _ _ ⟨rfl, hbc⟩; replace hM := hM.call hbc; clear hbc) | (go_at_call 144; refine (T.cloneCoin _ 0 [] _ (hM.slin hS0) rfl (by decide)).mono ?_; rintro _ wr ⟨v, rfl, ho, h1, hbc⟩; (obtain ⟨Ag, cg, rfl⟩ := T.own_slice ho); replace hM := hM.callG hbc ho h1; clear hbc ho h1) | ((((((with_reducible show wpList _ _ _ _ _ _); (refine T.w_o rfl ?_)))); first | ((with_reducible show T.OW _ ⟨_, .load _ _, _, _, _, _⟩ _ _ _ _); ((refine T.ofx (T.x_load rfl rfl T.Fd.out T.TS.out rfl hM) ?_))) | ((with_reducible show T.OW _ ⟨_, .box _ _, _, _, _, _⟩ _ _ _ _); refine T.op_box _ _ rfl _ rfl hM ?_; clear hM; intro blk wld hM hlt; (try simp only [Act.eval, Array.getD_eq_getD_getElem?, List.getElem?_toArray, List.getElem?_cons_zero, List.getElem?_cons_succ, Option.getD_some] at hM))); (try simp only [Act.put, List.setIfInBounds_toArray, List.set_cons_zero, List.set_cons_succ])) | go_skip | (go_step) | ((fail_if_success (with_reducible show T.Seq _ _ _ _ _ _ _)); (fail_if_success (with_reducible show T.OW _ _ _ _ _ _)); simp only [Int.not_lt, Int.not_le] at *; go_simp))
  refine T.wp_rounds 1 ?_
  unfold T.rounds
  repeat' (first | (go_step) | go_back | ((fail_if_success (with_reducible show T.Seq _ _ _ _ _ _ _)); (fail_if_success (with_reducible show T.OW _ _ _ _ _ _)); simp only [Int.not_lt, Int.not_le] at *; go_simp))
  subst hP
  exact T.apply_of (l := []) rfl (fun _ h => (List.not_mem_nil h).elim) (by decide) 0 (fun _ _ => rfl) hM List.mem_cons_self
theorem T.zer (e : Int) : (e = 0 ∧ (e == 0) = true) ∨ ((e == 0) = false ∧ decide (e = 0) = false) := by
  by_cases h : e = 0
  · exact .inl ⟨h, by rw [h]; rfl⟩
  · exact .inr ⟨beq_eq_false_iff_ne.2 h, decide_eq_false h⟩
theorem T.two4 (n : Nat) : (decide (4 < (n : Int)) = true ∧ decide (4 < n) = true) ∨ (decide (4 < (n : Int)) = false ∧ decide (4 < n) = false) := by
  by_cases h : 4 < n
  · exact .inl ⟨decide_eq_true (by omega), decide_eq_true h⟩
  · exact .inr ⟨decide_eq_false (by omega), decide_eq_false h⟩
theorem T.iz (i : Nat) : (((i : Int) == 0) = true ∧ decide ((i : Int) = 0) = true) ∨ (((i : Int) == 0) = false ∧ decide ((i : Int) = 0) = false) := by
  by_cases h : i = 0
  · exact .inl ⟨by rw [h]; rfl, by rw [h]; rfl⟩
  · exact .inr ⟨beq_eq_false_iff_ne.2 (by omega), decide_eq_false (by omega)⟩
def T.WApply0 (w : World) (e : Ending) (w' : World) : Prop := ∃ v l err, e = .returned (.tuple #[v, .int .i64 err]) ∧ T.OwnC w v l w' ∧ l.length ≤ 1000000 ∧ Below w.heap.size w w'
theorem T.apply0_of {w w' : World} {L : List T.Blk} {v : Value} {l : List T.CoinV} {n : Nat} (hl : l.length = n) (kl : ∀ x ∈ l, x.ok) (hn : l.length ≤ 1000000) (err : Int) (hM : T.Mem w none w' L) (hm : .g v 234 35 n (T.rc T.CoinV.cells l) ∈ L) : T.WApply0 w (.returned (.tuple #[v, .int .i64 err])) w' := by
  subst hl
  exact ⟨v, l, err, rfl, ⟨(hM.row _ hm).1, kl⟩, hn, hM.below⟩
theorem T.applyE_calls (p : List T.CoinV) (kp : ∀ x ∈ p, x.ok) (hn : p.length ≤ 1000000) (v : Value) (At : Option Addr) (ct : Nat) (w : World) (hS : T.Sl w v p.length (T.rc T.CoinV.cells p)) : Calls Tryz.prog 121 #[v, .slice At 0 ct] w (T.WApply0 w) := by
  have hM := T.Mem.start w
  obtain ⟨A, cc, hv, _, _, _⟩ := id hS
  subst hv
  have HS := Aside0.mk hS
  have HK := Aside0.mk kp
  have HN := Aside0.mk hn
  have HLP := Aside0.mk (show (T.rc T.CoinV.cells p).length = p.length * 35 from T.rc_len (fun x hx => x.len (kp x hx)))
  clear hS kp hn
  generalize hP : T.WApply0 w = Post
  go_enter Tryz.func121, Tryz.ntmps121
  repeat' (first | (go_at_call 152; refine (T.pmay_calls p HK.out HN.out _ _ (hM.slin HS.out)).mono ?_; rintro _ _ ⟨rb, rfl, hbc⟩; replace hM := hM.call hbc; clear hbc; cases rb) | (go_at_call 151; refine (T.failA_calls p HK.out (Nat.le_trans HN.out (by decide)) _ _ _ _ (T.cell_at hM T.Fd.out rfl) (hM.slin HS.out)).mono ?_; rintro _ _ hf; (obtain ⟨fv, rfl, hM2⟩ := T.WFailA.apply HN.out hM hf); clear hf hM; have hM := hM2; clear hM2) | (go_at_call 144; refine (T.cloneCoin _ _ _ _ (hM.slin HS.out) HLP.out (Nat.le_trans HN.out (by decide))).mono ?_; rintro _ wr ⟨v, rfl, ho, h1, hbc⟩; (obtain ⟨Ag, cg, rfl⟩ := T.own_slice ho); replace hM := hM.callG hbc ho h1; clear hbc ho h1) | ((((((with_reducible show wpList _ _ _ _ _ _); (refine T.w_o rfl ?_)))); first | ((with_reducible show T.OW _ ⟨_, .load _ _, _, _, _, _⟩ _ _ _ _); ((refine T.ofx (T.x_load rfl rfl T.Fd.out T.TS.out rfl hM) ?_))) | ((with_reducible show T.OW _ ⟨_, .box _ _, _, _, _, _⟩ _ _ _ _); refine T.op_box _ _ rfl _ rfl hM ?_; clear hM; intro blk wld hM hlt; (try simp only [Act.eval, Array.getD_eq_getD_getElem?, List.getElem?_toArray, List.getElem?_cons_zero, List.getElem?_cons_succ, Option.getD_some] at hM))); (try simp only [Act.put, List.setIfInBounds_toArray, List.set_cons_zero, List.set_cons_succ])) | go_skip | (go_step) | go_back | ((fail_if_success (with_reducible show T.Seq _ _ _ _ _ _ _)); (fail_if_success (with_reducible show T.OW _ _ _ _ _ _)); simp only [Int.not_lt, Int.not_le] at *; go_simp))
  rotate_left 1
  · refine T.wp_rounds 1 ?_
    unfold T.rounds
    repeat' (first | (go_step) | go_back | ((fail_if_success (with_reducible show T.Seq _ _ _ _ _ _ _)); (fail_if_success (with_reducible show T.OW _ _ _ _ _ _)); simp only [Int.not_lt, Int.not_le] at *; go_simp))
    subst hP
    exact T.apply0_of rfl HK.out HN.out _ hM List.mem_cons_self
  all_goals subst hP
  all_goals exact T.apply0_of rfl HK.out HN.out _ hM List.mem_cons_self
theorem T.applyT_calls (p : List T.CoinV) (kp : ∀ x ∈ p, x.ok) (hn : p.length ≤ 1000000) (v : Value) (n : Nat) (At : Option Addr) (ct : Nat) (txs : List T.TxV) (hnt : txs.length = n) (hn0 : 0 < n) (w : World) (hS : T.Sl w v p.length (T.rc T.CoinV.cells p)) (ht : T.TxsAt w (.slice At n ct) txs) : Calls Tryz.prog 121 #[v, .slice At n ct] w (T.WApply0 w) := by
  have hM := T.Mem.start w
  obtain ⟨A, cc, hv, _, _, _⟩ := id hS
  subst hv
  have HS := Aside0.mk hS
  have HK := Aside0.mk kp
  have HN := Aside0.mk hn
  have HLP := Aside0.mk (show (T.rc T.CoinV.cells p).length = p.length * 35 from T.rc_len (fun x hx => x.len (kp x hx)))
  have HTS := Aside0.mk (show T.Sl w (.slice At n ct) n (T.rc T.TxV.cells txs) by have := ht.s; rwa [hnt] at this)
  have HTN := Aside0.mk (show n ≤ 1000000 by rw [← hnt]; exact ht.n)
  have HTA := Aside0.mk ht.all
  have HNT := Aside0.mk hnt
  obtain ⟨b, o, rfl⟩ := HTS.out.adr (by omega)
  have h0l : 0 < txs.length := by omega
  have HT0 := Aside0.mk (ht.all _ (List.getElem_mem h0l))
  have H0 := Aside0.mk (T.rc_at (enc := T.TxV.cells) (k := 2) (fun _ _ => rfl) 0 h0l)
  generalize txs[0] = t0 at *
  obtain ⟨iv0, ov0, ins0, outs0⟩ := t0
  obtain ⟨A0, c0, hv, _, _, _⟩ := id HT0.out.si
  simp only at hv
  subst hv
  have h0z : (T.rc T.TxV.cells txs)[0]? = some (.slice A0 ins0.length c0) := by
    have := congrArg (·[0]?) H0.out
    simpa [T.TxV.cells] using this
  have h0i : (0 : Int) < (n : Int) := by omega
  have hnz : ((n : Int) == 0) = false := beq_eq_false_iff_ne.2 (by omega)
  have hx02 : (T.TxV.mk (.slice A0 ins0.length c0) ov0 ins0 outs0).cells.length = 2 := rfl
  obtain ⟨fb, hfb⟩ : ∃ fb, decide ((ins0.length : Int) = 0) = fb := ⟨_, rfl⟩
  have hfb2 : ((ins0.length : Int) == 0) = fb := hfb
  have d0 : decide (0 < (n : Int)) = true := decide_eq_true h0i
  have d0' : decide (0 < n) = true := decide_eq_true hn0
  clear hS kp hn ht hnt h0l
  generalize hP : T.WApply0 w = Post
  rcases T.two4 n with ⟨d1, d2⟩ | ⟨d1, d2⟩
  all_goals go_enter Tryz.func121, Tryz.ntmps121
  all_goals repeat' (first | (go_at_call 152; refine (T.pmay_calls p HK.out HN.out _ _ (hM.slin HS.out)).mono ?_; rintro _ _ ⟨rb, rfl, hbc⟩; replace hM := hM.call hbc; clear hbc; cases rb) | (go_at_call 151; refine (T.failA_calls p HK.out (Nat.le_trans HN.out (by decide)) _ _ _ _ (T.cell_at hM T.Fd.out rfl) (hM.slin HS.out)).mono ?_; rintro _ _ hf; (obtain ⟨fv, rfl, hM2⟩ := T.WFailA.apply HN.out hM hf); clear hf hM; have hM := hM2; clear hM2) | (go_at_call 144; refine (T.cloneCoin _ _ _ _ (hM.slin HS.out) HLP.out (Nat.le_trans HN.out (by decide))).mono ?_; rintro _ wr ⟨v, rfl, ho, h1, hbc⟩; (obtain ⟨Ag, cg, rfl⟩ := T.own_slice ho); replace hM := hM.callG hbc ho h1; clear hbc ho h1) | ((((((with_reducible show wpList _ _ _ _ _ _); first | refine T.w_o rfl ?_ | ((with_reducible show wpList _ _ _ (⟨_, _, _, _, _, some _⟩ :: _) _ _); refine T.w_g rfl ?_)))); first | ((with_reducible show T.OW _ ⟨_, .load _ _, _, _, _, _⟩ _ _ _ _); first | (refine T.ofx (T.x_slCell rfl rfl (hM.slin HTS.out) T.TS.out h0z) ?_) | (refine T.ofx (T.x_load rfl rfl T.Fd.out T.TS.out rfl hM) ?_)) | ((with_reducible show T.OW _ ⟨_, .box _ _, _, _, _, _⟩ _ _ _ _); refine T.op_box _ _ rfl _ rfl hM ?_; clear hM; intro blk wld hM hlt; (try simp only [Act.eval, Array.getD_eq_getD_getElem?, List.getElem?_toArray, List.getElem?_cons_zero, List.getElem?_cons_succ, Option.getD_some] at hM))); (try simp only [Act.put, List.setIfInBounds_toArray, List.set_cons_zero, List.set_cons_succ])) | go_guarded | (go_step) | go_back | ((fail_if_success (with_reducible show T.Seq _ _ _ _ _ _ _)); (fail_if_success (with_reducible show T.OW _ _ _ _ _ _)); simp only [Int.not_lt, Int.not_le] at *; go_simp))
  rotate_left 3
  · obtain ⟨b2, rfl⟩ := T.n2 hM
    have HP0 := Aside0.mk hM
    go_loopg [7, 8, 48] (n + 1) (fun kq v7 v8 v48 Wd => ∃ (i n8 : Nat) (m : List T.CoinV) (s : Int), v48 = .int .i64 i ∧ v8 = .int .i64 s ∧ i ≤ n ∧ n - i < kq ∧ m.length = n8 ∧ n8 ≤ 1000000 ∧ (∀ x ∈ m, x.ok) ∧ Aside0 (T.Mem w none Wd [.g v7 234 35 n8 (T.rc T.CoinV.cells m), .b b2 77 [.slice A p.length cc]]))
    case atStart => exact ⟨0, p.length, p, 50, rfl, rfl, by omega, by omega, rfl, HN.out, HK.out, ⟨hM⟩⟩
    case round =>
      clear hM HP0
      obtain ⟨i, n8, m, s, rfl, rfl, hi, hg, hml, hmn, hmk, hMo⟩ := hrel
      have hM := hMo.out
      clear hMo
      have HML := Aside0.mk hml
      have HMN := Aside0.mk hmn
      have HMK := Aside0.mk hmk
      clear hml hmk hmn
      by_cases hlt : i < n
      · have hltz : (i : Int) < (n : Int) := by omega
        have cb : decide ((i : Int) < (n : Int)) = true := decide_eq_true hltz
        have hi0 : (0 : Int) ≤ (i : Int) := by omega
        have hlt2 : i < txs.length := by rw [HNT.out]; exact hlt
        have H1 := Aside0.mk (T.rc_at (enc := T.TxV.cells) (k := 2) (fun _ _ => rfl) i hlt2)
        have hkx := Aside0.mk (HTA.out _ (List.getElem_mem hlt2))
        generalize txs[i] = x at *
        have hx2 : x.cells.length = 2 := rfl
        have hxo := hkx.out.ones
        clear hlt2
        have hTN := HTN.out
        rcases T.iz i with ⟨z1, z2⟩ | ⟨z1, z2⟩
        all_goals cases fb
        all_goals repeat' (first | (go_at_call 153; refine (T.spend_calls m HMK.out (by rw [HML.out]; exact HMN.out) _ x _ (by rw [HML.out]; exact hM.gsl T.Fg.out) (hkx.out.kept hM.below)).mono ?_; rintro _ w2 ⟨v2, l2, left, err, rfl, ho2, hl2, hbc⟩; (obtain ⟨A2, c2, rfl⟩ := T.own_slice ho2.1); replace hM := hM.callG hbc ho2.1 (T.rc_ones (fun y _ => y.ones)); have HK2 := Aside0.mk ho2.2; have HL2 := Aside0.mk hl2; clear hbc ho2 hl2; (rcases T.zer err with ⟨rfl, _⟩ | ⟨q1, q2⟩)) | (go_at_call 151; refine (T.failA_calls p HK.out (Nat.le_trans HN.out (by decide)) _ _ _ _ (T.cell_at hM T.Fd.out rfl) (hM.slin HS.out)).mono ?_; rintro _ _ hf; (obtain ⟨fv, rfl, hM2⟩ := T.WFailA.apply HN.out hM hf); clear hf hM; have hM := hM2; clear hM2) | ((((((with_reducible show wpList _ _ _ _ _ _); first | refine T.w_o rfl ?_ | ((with_reducible show wpList _ _ _ (⟨_, _, _, _, _, some _⟩ :: _) _ _); refine T.w_g rfl ?_)))); first | ((with_reducible show T.OW _ ⟨_, .load _ _, _, _, _, _⟩ _ _ _ _); first | (refine T.ofx (T.x_slRow rfl rfl (hM.slin HTS.out) T.TU.out T.TN.out H1.out hx2) ?_) | (refine T.ofx (T.x_loadAll rfl rfl T.Fd.out T.TU.out T.TN.out (by ((with_reducible assumption))) hM) ?_)) | ((with_reducible show T.OW _ ⟨_, .store _ _ _, _, _, _, _⟩ _ _ _ _); ((refine T.op_storeAll _ _ _ rfl _ rfl _ rfl _ _ hM (by (repeat ((exact T.Sub.head _)))) _ T.TN.out (by ((with_reducible assumption))) (by ((with_reducible assumption))) (by ((rfl))) ?_; clear hM; intro wld hM))) | ((with_reducible show T.OW _ ⟨_, .alloc _, _, _, _, _⟩ _ _ _ _); refine T.op_alloc _ rfl _ T.TZ.out hM ?_; clear hM; intro blk wld hM hlt)); (try simp only [Act.put, List.setIfInBounds_toArray, List.set_cons_zero, List.set_cons_succ])) | go_guarded | (go_step) | go_back | ((fail_if_success (with_reducible show T.Seq _ _ _ _ _ _ _)); (fail_if_success (with_reducible show T.OW _ _ _ _ _ _)); simp only [Int.not_lt, Int.not_le] at *; go_simp))
        all_goals first | (subst hP; exact T.apply0_of rfl HK.out HN.out _ hM List.mem_cons_self) | (go_roundg (n - i); (case measure => omega); (case rel => first | exact ⟨i + 1, _, l2, _, (by (go_num)), rfl, by omega, by omega, rfl, HL2.out, HK2.out, ⟨hM.drop (by (repeat (first | exact List.Sublist.refl _ | apply List.Sublist.cons_cons | apply List.Sublist.cons)))⟩⟩ | exact ⟨i + 1, _, m, _, (by (go_num)), rfl, by omega, by omega, HML.out, HMN.out, HMK.out, ⟨hM.drop (by (repeat (first | exact List.Sublist.refl _ | apply List.Sublist.cons)))⟩⟩))
      · have hiN : i = n := by omega
        have hltz : ¬ (i : Int) < (n : Int) := by omega
        have cb : decide ((i : Int) < (n : Int)) = false := decide_eq_false hltz
        cases fb
        · repeat' (first | (go_step) | go_back | ((fail_if_success (with_reducible show T.Seq _ _ _ _ _ _ _)); (fail_if_success (with_reducible show T.OW _ _ _ _ _ _)); simp only [Int.not_lt, Int.not_le] at *; go_simp))
          subst hP
          exact T.apply0_of HML.out HMK.out (by rw [HML.out]; exact HMN.out) _ hM List.mem_cons_self
        · repeat' (first | (go_at_call 154; refine (T.cmay_calls _ _ (HT0.out.kept hM.below)).mono ?_; rintro _ _ ⟨rb, rfl, hbc⟩; replace hM := hM.call hbc; clear hbc; cases rb) | (go_at_call 151; refine (T.failA_calls p HK.out (Nat.le_trans HN.out (by decide)) _ _ _ _ (T.cell_at hM T.Fd.out rfl) (hM.slin HS.out)).mono ?_; rintro _ _ hf; (obtain ⟨fv, rfl, hM2⟩ := T.WFailA.apply HN.out hM hf); clear hf hM; have hM := hM2; clear hM2) | (go_at_call 155; refine (T.made_calls _ _ m HMK.out HML.out (Nat.le_trans HMN.out (by decide)) _ HT0.out hM).mono ?_; rintro _ w2 ⟨v15, l15, err, rfl, kl15, _, hM2⟩; clear hM; have hM := hM2; clear hM2; (obtain ⟨A5, c5, rfl, _⟩ := hM.gsl List.mem_cons_self); (rcases T.three err l15.length with ⟨rfl, hg48, q1, q2⟩ | ⟨rfl, q1, q2⟩ | ⟨q1, q2⟩)) | (go_at_call 156; refine (T.outs_calls _ _ (HT0.out.kept hM.below)).mono ?_; rintro _ _ ⟨jj, rfl, hbc⟩; replace hM := hM.call hbc; clear hbc) | ((((((with_reducible show wpList _ _ _ _ _ _); (refine T.w_o rfl ?_)))); (((with_reducible show T.OW _ ⟨_, .load _ _, _, _, _, _⟩ _ _ _ _); ((refine T.ofx (T.x_slRow rfl rfl (hM.slin HTS.out) T.TU.out T.TN.out H0.out hx02) ?_))))); (try simp only [Act.put, List.setIfInBounds_toArray, List.set_cons_zero, List.set_cons_succ])) | (go_step) | go_back | ((fail_if_success (with_reducible show T.Seq _ _ _ _ _ _ _)); (fail_if_success (with_reducible show T.OW _ _ _ _ _ _)); simp only [Int.not_lt, Int.not_le] at *; go_simp))
          all_goals subst hP
          all_goals first | exact T.apply0_of rfl HK.out HN.out _ hM List.mem_cons_self | exact T.apply0_of rfl kl15 (Nat.le_trans hg48 (by decide)) _ hM List.mem_cons_self
  all_goals subst hP
  all_goals exact T.apply0_of rfl HK.out HN.out _ hM List.mem_cons_self
theorem T.apply_calls (p : List T.CoinV) (kp : ∀ x ∈ p, x.ok) (hn : p.length ≤ 1000000) (v tv : Value) (txs : List T.TxV) (w : World) (hS : T.Sl w v p.length (T.rc T.CoinV.cells p)) (ht : T.TxsAt w tv txs) : Calls Tryz.prog 121 #[v, tv] w (T.WApply v tv w) := by
  by_cases h : v = T.nilS ∧ tv = T.nilS
  · rw [h.1, h.2]
    exact T.apply0_calls w
  · obtain ⟨At, ct, rfl, _⟩ := id ht.s
    by_cases h0 : txs.length = 0
    · rw [h0] at h ⊢
      exact (T.applyE_calls p kp hn v At ct w hS).mono fun e w' ⟨x, l, err, h1, h2, h3, h4⟩ => ⟨x, l, err, h1, fun a b => absurd ⟨a, b⟩ h, h2, h3, h4⟩
    · exact (T.applyT_calls p kp hn v _ At ct txs rfl (by omega) w hS ht).mono fun e w' ⟨x, l, err, h1, h2, h3, h4⟩ => ⟨x, l, err, h1, fun a b => absurd ⟨a, b⟩ h, h2, h3, h4⟩
theorem T.TrialV.c_put (x : T.TrialV) (ht : x.t.b.h.ok) (hb : x.b.h.ok) (hw : x.want.ok) (v : Value) : x.cells.take 411 ++ [v] ++ x.cells.drop (411 + 1) = (T.TrialV.mk x.t x.b x.want v).cells := by
  have hl := x.len ht hb hw
  have h : x.cells = (x.t.cells ++ (x.b.cells ++ x.want.cells)) ++ [x.cv] := by simp [T.TrialV.cells]
  have h2 : (x.t.cells ++ (x.b.cells ++ x.want.cells)).length = 411 := by have := congrArg List.length h; rw [hl, List.length_append] at this; simp at this ⊢; omega
  rw [h, ← h2, List.take_left, List.drop_eq_nil_of_le (by simp only [List.length_append, List.length_cons, List.length_nil]; omega), List.append_nil]
  simp [T.TrialV.cells]
theorem T.TrialV.tc (x : T.TrialV) (ht : x.t.b.h.ok) : x.cells[138]? = some x.t.cv := by
  have := x.t.c_at ht
  rw [T.TrialV.cells, List.getElem?_append_left (by rw [x.t.len ht]; decide)]
  exact this
theorem T.TrialV.bt (x : T.TrialV) (ht : x.t.b.h.ok) (hb : x.b.h.ok) : x.cells[275]? = some x.b.tv := (x.at_b ht hb 136 (by decide)).trans (x.b.t_at hb)
theorem T.tcoins_calls {w0 w : World} {L : List T.Blk} {L' : Value → List T.Blk} (x : T.TrialV) (bt : Nat) (ht : x.t.At w0) (hb : x.b.At w0) (hw : x.want.ok) (hM : T.Mem w0 none w L) (hs : ∀ v, T.Sub (.b bt 160 x.cells) (.b bt 160 (T.TrialV.mk x.t x.b x.want v).cells) L (L' v)) :
    Calls Tryz.prog 83 #[.pointer (some ⟨bt, 0, none⟩)] w fun e w' => ∃ v l err, e = .returned (.int .i64 err) ∧ (x.t.cv = T.nilS → x.b.tv = T.nilS → err = 0) ∧ (∀ y ∈ l, y.ok) ∧ l.length ≤ 1000000 ∧ T.Mem w0 none w' (.g v 234 35 l.length (T.rc T.CoinV.cells l) :: L' v) := by
  have HT := Aside0.mk ht
  have hm := (hs T.nilS).mem
  have HB := Aside0.mk hb
  have k1 := ht.b.ok
  have k2 := hb.ok
  have h1 := x.tc k1
  have h2 := x.bt k1 k2
  have hlen := x.len k1 k2 hw
  have hput := x.c_put k1 k2 hw
  clear ht hb
  generalize hP : (fun (e : Ending) w' => ∃ v l err, e = .returned (.int .i64 err) ∧ (x.t.cv = T.nilS → x.b.tv = T.nilS → err = 0) ∧ (∀ y ∈ l, y.ok) ∧ l.length ≤ 1000000 ∧ T.Mem w0 none w' (.g v 234 35 l.length (T.rc T.CoinV.cells l) :: L' v)) = Post
  go_enter Tryz.func83, Tryz.ntmps83
  repeat' (first | ((with_reducible show Code.wp _ (Code.region 1 _ true) _ _ _); refine T.mregion 1 (.p 0 (.p 1 (.p 2 (.p 3 (.t 4 (.p 5 (.p 6 (.p 7 (.p 8 (.t 9 (.a 10 (.p 11 (.p 12 (.p 13 (.p 14 (.p 15 .nil)))))))))))))))) 1000 (by kernel_rfl) (fun _ _ _ _ h => h) hM (List.Sublist.refl _) ?_; clear hM; intro wld hM) | (go_at_call 121; refine (T.apply_calls x.t.cs HT.out.okc HT.out.nc x.t.cv x.b.tv x.b.txs _ (hM.slin HT.out.c) (HB.out.t.kept hM.below)).mono ?_; rintro _ w2 ⟨v, l, err, rfl, he0, ho, hl, hbc⟩; (obtain ⟨A2, c2, rfl⟩ := T.own_slice ho.1); replace hM := hM.callG hbc ho.1 (T.rc_ones (fun y _ => y.ones)); have HK2 := Aside0.mk ho.2; have HL2 := Aside0.mk hl; have HE0 := Aside0.mk he0; clear hbc ho hl he0) | ((with_reducible show wpList _ _ _ (⟨_, .store _ _ _, _, _, _, _⟩ :: _) _ _); refine T.w_o rfl ?_; refine T.op_store _ _ _ rfl _ 411 rfl [.slice A2 l.length c2] rfl _ x.cells _ hM (.tail _ (hs _)) 1 T.TN.out rfl (by ((exact T.one_ones rfl))) (by rw [hlen]; exact Nat.le_refl _) (hput _) ?_; clear hM; intro wld hM; (try simp only [Act.put, List.setIfInBounds_toArray, List.set_cons_zero, List.set_cons_succ])) | ((with_reducible show T.Seq _ _ _ _ _ _ _); first | ((with_reducible show T.Seq _ _ _ (.p _ _) _ _ _); ((apply T.sq_p rfl rfl; (focus intro wS; ((go_simp; with_reducible rfl))); (try simp only [Act.put, List.setIfInBounds_toArray, List.set_cons_zero, List.set_cons_succ])))) | ((with_reducible show T.Seq _ _ _ (.t _ _) _ _ _); ((apply T.sq_t rfl rfl; (focus intro wS hS; first | exact T.x_load rfl rfl hm T.TS.out h1 hS | exact T.x_load rfl rfl hm T.TS.out h2 hS); (try simp only [Act.put, List.setIfInBounds_toArray, List.set_cons_zero, List.set_cons_succ])))) | ((with_reducible show T.Seq _ _ _ .nil _ _ _); refine T.sq_nil ?_) | ((with_reducible show T.Seq _ _ _ (.a _ _) _ _ _); refine T.sq_a rfl rfl (fun K hK => ?_))) | (go_at_K; refine hK.out _ _ _ hM (by (repeat (first | exact List.Sublist.refl _ | apply List.Sublist.cons))) ?_; clear hK K) | ((with_reducible show T.OW _ ⟨_, .call _, _, _, _, _⟩ _ _ _ _); refine T.OW.mk ?_; go_simp) | (go_step) | go_back | ((fail_if_success (with_reducible show T.Seq _ _ _ _ _ _ _)); (fail_if_success (with_reducible show T.OW _ _ _ _ _ _)); simp only [Int.not_lt, Int.not_le] at *; go_simp))
  subst hP
  exact ⟨_, l, err, rfl, HE0.out, HK2.out, HL2.out, hM⟩
theorem T.Head.eq_self (h : T.Head) : h.eq h = true := by simp [T.Head.eq]
structure T.Conc (x : T.TrialV) : Prop where
  hh : x.b.h.height < 48
  hw : x.b.h = x.want
  hl : x.b.ids = T.blinks x.t
  cv : x.t.cv = T.nilS
  tv : x.b.tv = T.nilS
  may : T.hmay x.b.h = true
def T.asks : List Nat := [82, 108, 109, 110, 111, 83]
def T.askV : List Value := T.asks.map fun f => Value.func (.func f) #[] #[]
def T.Ja (w0 : World) (x : T.TrialV) (bt bf : Nat) (tf : TypeId) (L0 : List T.Blk) (i : Nat) (W : World) : Prop :=
  (i < 6 ∧ T.Mem w0 none W (.b bf tf T.askV :: .b bt 160 x.cells :: L0) ∧ (i = 5 → T.hmay x.b.h = true)) ∨
  (i = 6 ∧ T.hmay x.b.h = true ∧ ∃ (v : Value) (l : List T.CoinV), (∀ y ∈ l, y.ok) ∧ l.length ≤ 1000000 ∧ T.Mem w0 none W (.g v 234 35 l.length (T.rc T.CoinV.cells l) :: .b bf tf T.askV :: .b bt 160 (T.TrialV.mk x.t x.b x.want v).cells :: L0))
def T.Jr (w0 : World) (x : T.TrialV) (L0 : List T.Blk) (_ : Int) (W : World) : Prop := T.Mem w0 none W L0 ∧ ¬ T.Conc x
theorem T.ask_enter : ∀ f ∈ T.asks, ∀ args w, (callFunc f args).run Tryz.prog w = .ok (.enter f args) w := by
  intro f hf args w
  have : f = 82 ∨ f = 108 ∨ f = 109 ∨ f = 110 ∨ f = 111 ∨ f = 83 := by simpa [T.asks] using hf
  rcases this with rfl | rfl | rfl | rfl | rfl | rfl
  all_goals go_simp
theorem T.asks_calls {w0 w : World} (x : T.TrialV) (bt bf c : Nat) (tf : TypeId) (L0 : List T.Blk) (ht : x.t.At w0) (hb : x.b.At w0) (hw : x.want.ok) (hc : 6 ≤ c) (hM : T.Mem w0 none w (.b bf tf T.askV :: .b bt 160 x.cells :: L0)) :
    Calls Tryz.prog 81 #[.pointer (some ⟨bt, 0, none⟩), .slice (some ⟨bf, 0, none⟩) 6 c] w fun e w' => ∃ err : Int, e = .returned (.int .i64 err) ∧ ((err = 0 ∧ T.Ja w0 x bt bf tf L0 6 w') ∨ (err ≠ 0 ∧ T.Mem w0 none w' L0)) ∧ (T.Conc x → err = 0) := by
  have h := T.first_calls T.asks (T.Ja w0 x bt bf tf L0) (T.Jr w0 x L0) T.ask_enter bt bf c (by decide) hc ?_ ?_ w (.inl ⟨by decide, hM, fun h => by cases h⟩)
  · refine h.mono ?_
    rintro e w' (⟨rfl, hj⟩ | ⟨err, hne, rfl, hr⟩)
    · exact ⟨0, rfl, .inl ⟨rfl, hj⟩, fun _ => rfl⟩
    · exact ⟨err, rfl, .inr ⟨hne, hr.1⟩, fun hcc => absurd hcc hr.2⟩
  · rintro i W (⟨_, h, _⟩ | ⟨_, _, v, l, _, _, h⟩)
    · exact T.range_all h (.head _)
    · exact T.range_all h (.tail _ (.head _))
  · intro i hi W hJ
    have hi6 : i < 6 := hi
    obtain ⟨hW, h5⟩ : T.Mem w0 none W (.b bf tf T.askV :: .b bt 160 x.cells :: L0) ∧ (i = 5 → T.hmay x.b.h = true) := by
      rcases hJ with ⟨_, h, h5⟩ | ⟨h, _⟩
      · exact ⟨h, h5⟩
      · omega
    have hr : W.rangeAt bt 0 x.cells := T.range_all hW (.tail _ (.head _))
    have hA : x.At W := ⟨ht.kept hW.below, hb.kept hW.below, hw⟩
    have hL : ∀ {w' : World}, Below W.heap.size W w' → T.Mem w0 none w' L0 := fun h => (hW.call h).drop (.cons _ (.cons _ (List.Sublist.refl _)))
    match i, hi6 with
    | 0, _ =>
      refine (T.tsize_calls x bt W hA hr).mono ?_
      rintro _ w' ⟨rfl, hbl⟩
      refine ⟨_, rfl, ?_⟩
      by_cases h : 48 ≤ x.b.h.height
      · rw [if_pos h]
        exact .inr ⟨by decide, hL hbl, fun c => by have := c.hh; omega⟩
      · rw [if_neg h]
        exact .inl ⟨rfl, .inl ⟨by decide, hW.call hbl, fun h => by cases h⟩⟩
    | 1, _ =>
      refine (T.tprev_calls x bt W hA hr).mono ?_
      rintro _ w' ⟨rfl, hbl⟩
      refine ⟨_, rfl, ?_⟩
      cases h : (T.hbehind x.b.h).eq (T.hbehind x.want)
      · exact .inr ⟨by decide, hL hbl, fun c => by rw [c.hw, T.Head.eq_self] at h; cases h⟩
      · exact .inl ⟨rfl, .inl ⟨by decide, hW.call hbl, fun h => by cases h⟩⟩
    | 2, _ =>
      refine (T.tlink_calls x bt W hA hr).mono ?_
      rintro _ w' ⟨rfl, hbl⟩
      refine ⟨_, rfl, ?_⟩
      by_cases h : x.b.h.links = x.want.links ∧ x.b.ids = T.blinks x.t
      · rw [if_pos h]
        exact .inl ⟨rfl, .inl ⟨by decide, hW.call hbl, fun h => by cases h⟩⟩
      · rw [if_neg h]
        exact .inr ⟨by decide, hL hbl, fun c => h ⟨by rw [c.hw], c.hl⟩⟩
    | 3, _ =>
      refine (T.troot_calls x bt W hA hr).mono ?_
      rintro _ w' ⟨rfl, hbl⟩
      refine ⟨_, rfl, ?_⟩
      cases h : x.b.h.eq x.want
      · exact .inr ⟨by decide, hL hbl, fun c => by rw [c.hw, T.Head.eq_self] at h; cases h⟩
      · exact .inl ⟨rfl, .inl ⟨by decide, hW.call hbl, fun h => by cases h⟩⟩
    | 4, _ =>
      refine (T.twork_calls x bt W hA hr).mono ?_
      rintro _ w' ⟨rfl, hbl⟩
      refine ⟨_, rfl, ?_⟩
      cases h : T.hmay x.b.h
      · exact .inr ⟨by decide, hL hbl, fun c => by rw [c.may] at h; cases h⟩
      · exact .inl ⟨rfl, .inl ⟨by decide, hW.call hbl, fun _ => h⟩⟩
    | 5, _ =>
      refine (T.tcoins_calls x bt ht hb hw hW (fun v => .tail _ (.head _))).mono ?_
      rintro _ w' ⟨v, l, err, rfl, he0, kl, hl, hM2⟩
      refine ⟨err, rfl, ?_⟩
      by_cases h : err = 0
      · exact .inl ⟨h, .inr ⟨rfl, h5 rfl, v, l, kl, hl, hM2⟩⟩
      · exact .inr ⟨h, hM2.drop (.cons _ (.cons _ (.cons _ (List.Sublist.refl _)))), fun c => h (he0 c.cv c.tv)⟩
section
section
variable {P : Program} {l : List Oper} {Q : Exit → Act → World → Prop} {S R : World → Prop} {a : Act} {w w0 : World} {i : Nat} {r : T.Ord} {o : Oper} {F : Option Nat} {L : List T.Blk}
theorem T.sq_aN (ho : T.nth l i = some o) (hg : o.guard = none)
    (h : ∀ K : Act → World → Prop, Shut (∀ a' w' (L' : List T.Blk) (R : World → Prop), T.Mem w0 F w' L' → L.Sublist L' → R w' → T.Seq P l Q r (fun w => T.Mem w0 F w L' ∧ R w) a' w' → K a' w') → T.OW P o a w K Q) : T.Seq P l Q (.a i r) (fun w => T.Mem w0 F w L) a w :=
  ⟨o, ho, T.sq_wp ho hg (T.OW.out (h _ (fun _ _ L' R h1 h2 h4 h3 => ⟨fun w => T.Mem w0 F w L' ∧ R w, ⟨h1, h4⟩, fun _ hw => hw.1.drop h2, h3⟩)))⟩
theorem T.sq_aR (ho : T.nth l i = some o) (hg : o.guard = none)
    (h : ∀ K : Act → World → Prop, Shut (∀ a' w' (L' : List T.Blk), T.Mem w0 F w' L' → L.Sublist L' → R w' → T.Seq P l Q r (fun w => T.Mem w0 F w L' ∧ R w) a' w' → K a' w') → T.OW P o a w K Q) : T.Seq P l Q (.a i r) (fun w => T.Mem w0 F w L ∧ R w) a w :=
  ⟨o, ho, T.sq_wp ho hg (T.OW.out (h _ (fun _ _ L' h1 h2 h4 h3 => ⟨fun w => T.Mem w0 F w L' ∧ R w, ⟨h1, h4⟩, fun _ hw => ⟨hw.1.drop h2, hw.2⟩, h3⟩)))⟩
theorem T.sq_zT (ho : T.nth l i = some o) (hg : o.guard = none)
    (h : ∀ K : Act → World → Prop, Shut (∀ a' w', T.Seq P l Q r (fun _ => True) a' w' → K a' w') → T.OW P o a w K Q) : T.Seq P l Q (.z i r) S a w :=
  ⟨o, ho, T.sq_wp ho hg (T.OW.out (h _ (fun _ _ h3 => ⟨fun _ => True, trivial, h3⟩)))⟩
end
theorem T.kb {B : Nat} {wc w w' : World} (h : E.KeepsOn B wc w) (hb : Below w.heap.size w w') : E.KeepsOn B wc w' := h.trans (E.KeepsOn.of_below hb)
theorem T.sl_keeps {base B : Nat} {W X : World} {v : Value} {e : TypeId} {sz n : Nat} {xs : List Value} (hl : (T.Blk.g v e sz n xs).lies base W) (hb : B ≤ base) (h : E.KeepsOn B W X) : T.Sl X v n xs := by
  refine T.sl_on (B := B) (g := W.heap.size) hl hb (fun k hk e => ?_) (T.On.keeps h)
  have := T.lies_lt hl (k := k) hk
  omega
theorem T.op_storeK {P : Program} {op : Oper} {a : Act} {w w0 : World} {Q : Exit → Act → World → Prop} {L L' : List T.Blk} {F : Option Nat} {K : Act → World → Prop} (ty : TypeId) (x y : Operand) (ho : op.op = .store ty x y) (b : Nat) (hx : a.eval x = .pointer (some ⟨b, 0, none⟩)) (cs : List Value) (hy : (a.eval y).cells = cs.toArray)
    (t : TypeId) (old : List Value) (hM : T.Mem w0 F w L) (hs : T.Sub (.b b t old) (.b b t cs) L L') (n : Nat) (hi : (P.info? ty).map (·.size) = some n) (hn : cs.length = n) (h1 : ∀ v ∈ cs, v.oneCell' = true) (ho2 : old.length = n)
    (h : ∀ w', T.Mem w0 F w' L' → (∀ B, b < B → E.KeepsOn B w w') → K (a.put op.dst undef) w') : T.OW P op a w K Q := by
  have hm2 := T.Mem.startF w (hM.row _ hs.mem)
  refine T.op_storeAll ty x y ho b hx cs hy t old hm2 (.head _) n hi hn h1 ho2 ?_
  intro w' hM2
  refine h w' (hM.turn hs hM2.grown (hM2.row _ List.mem_cons_self) (fun k hk => .inl hk)) (fun B hB => T.keeps_of hM2.grown hB)
theorem T.upR_len : ∀ (r : List T.Tot) (y : T.Tot), (T.upR y r).length ≤ r.length + 1
  | [], _ => Nat.le_refl _
  | x :: r, y => by
    unfold T.upR
    split
    · have := T.upR_len r (T.join x y)
      simp only [List.length_cons]
      omega
    · simp
theorem T.mapp_len (p : List T.Tot) (y : T.Tot) : (T.mapp p y).length ≤ p.length + 1 := by
  have := T.upR_len p.reverse y
  simpa [T.mapp] using this
theorem T.mapp_ok (p : List T.Tot) (y : T.Tot) (kp : T.okP p) (ky : y.ok ∧ T.R64 y.w) : T.okP (T.mapp p y) := by
  intro z hz
  refine T.upR_ok p.reverse y (fun u hu => ?_) z (by simpa [T.mapp] using hz)
  rcases List.mem_cons.1 hu with rfl | hu
  · exact ky
  · exact kp u (by simpa using hu)
structure T.ConcP (t : T.TipV) (b : T.BlkV) : Prop where
  hh : b.h.height < 48
  hw : b.h = T.hnext t (T.sum [2]) b.h.nonce
  hl : b.ids = T.blinks t
  cv : t.cv = T.nilS
  tv : b.tv = T.nilS
  may : T.hmay b.h = true
theorem T.ConcP.conc {t : T.TipV} {b : T.BlkV} (c : T.ConcP t b) {rt : List Int} (h : b.tv = .slice none 0 0 → rt = T.sum [2]) : T.Conc (T.TrialV.mk t b (T.hnext t rt b.h.nonce) T.nilS) :=
  ⟨c.hh, by rw [h c.tv]; exact c.hw, c.hl, c.cv, c.tv, c.may⟩
def T.WPush (t : T.TipV) (b : T.BlkV) (w : World) (e : Ending) (w' : World) : Prop := ∃ (cs : List Value) (err : Int), cs.length = 139 ∧ (∀ v ∈ cs, v.oneCell' = true) ∧ e = .returned (.tuple #[.agg cs.toArray, .int .i64 err]) ∧ Below w.heap.size w w' ∧
  (err = 0 → T.hmay b.h = true ∧ ∃ t' : T.TipV, cs = t'.cells ∧ t'.b.h = b.h ∧ t'.ps.length ≤ t.ps.length + 1 ∧ (∀ X, E.KeepsOn w.heap.size w' X → t'.At X)) ∧ (T.ConcP t b → err = 0)
theorem T.BlkV.hh (b : T.BlkV) (h : b.h.ok) : (b.cells.drop 0).take 135 = b.h.cells := b.hs h
theorem T.BlkV.n_at (b : T.BlkV) (h : b.h.ok) : b.cells[134]? = some (.int .u64 b.h.nonce) := by
  rw [T.BlkV.cells, List.getElem?_append_left (by rw [b.h.len h]; decide)]
  exact b.h.nonce_at h
theorem T.TrialV.c_at (t : T.TipV) (b : T.BlkV) (h : T.Head) (v : Value) (k1 : t.b.h.ok) (k2 : b.h.ok) (kw : h.ok) : (T.TrialV.mk t b h v).cells[411]? = some v := by
  have hl : (t.cells ++ (b.cells ++ h.cells)).length = 411 := by rw [List.length_append, List.length_append, t.len k1, b.len k2, h.len kw]
  have e : (T.TrialV.mk t b h v).cells = (t.cells ++ (b.cells ++ h.cells)) ++ [v] := by simp [T.TrialV.cells]
  rw [e, List.getElem?_append_right (by omega), hl]
  rfl
theorem T.err2 (e : Int) (h : e ≠ 0) : (e == 0) = false ∧ decide (e = 0) = false := ⟨beq_eq_false_iff_ne.2 h, decide_eq_false h⟩
theorem T.Ja6 {w0 W : World} {x : T.TrialV} {bt bf : Nat} {tf : TypeId} {L0 : List T.Blk} (h : T.Ja w0 x bt bf tf L0 6 W) : T.hmay x.b.h = true ∧ ∃ (v : Value) (l : List T.CoinV), (∀ y ∈ l, y.ok) ∧ l.length ≤ 1000000 ∧ T.Mem w0 none W (.g v 234 35 l.length (T.rc T.CoinV.cells l) :: .b bf tf T.askV :: .b bt 160 (T.TrialV.mk x.t x.b x.want v).cells :: L0) := by
  rcases h with ⟨h, _⟩ | ⟨_, h⟩
  · omega
  · exact h
theorem T.krefl {B : Nat} {w : World} {p : World → Prop} (_ : ∀ X, E.KeepsOn B w X → p X) : E.KeepsOn B w w := E.KeepsOn.refl _ _
theorem T.push_calls (t : T.TipV) (b : T.BlkV) (w : World) (ht : t.At w) (hb : b.At w) (hps : t.ps.length < 1000000) : Calls Tryz.prog 61 #[.agg t.cells.toArray, .agg b.cells.toArray] w (T.WPush t b w) := by
  have hM := T.Mem.start w
  have HT := Aside0.mk ht
  have HB := Aside0.mk hb
  have k1 := ht.b.ok
  have k2 := hb.ok
  have hl1 := t.len k1
  have hl2 := b.len k2
  have ho1 := ht.ones
  have ho2 := hb.ones
  have hta := b.t_at k2
  have hna := b.n_at k2
  have hbh := b.hs k2
  have hhl := b.h.len k2
  have hpa := t.p_at k1
  have HPS := Aside0.mk hps
  have hz139 : ((T.Head.zero.cells ++ [T.nilS, T.nilS]) ++ [T.nilS, T.nilS]).length = 139 := rfl
  have hz137 : (T.Head.zero.cells ++ [T.nilS, T.nilS]).length = 137 := rfl
  have hz135 : T.Head.zero.cells.length = 135 := rfl
  clear ht hb hps
  generalize hP : T.WPush t b w = Post
  go_enter Tryz.func61, Tryz.ntmps61
  repeat' (first | ((with_reducible show Code.wp _ (Code.region 1 _ true) _ _ _); refine T.mregion 1 (.t 0 (.t 1 (.t 2 (.p 3 (.t 4 (.p 5 (.p 6 (.t 7 (.a 8 (.p 9 (.a 10 (.p 11 .nil)))))))))))) 1000 (by kernel_rfl) (fun _ _ _ _ h => h) hM (List.Sublist.refl _) ?_; clear hM; intro wld hM) | ((with_reducible show Code.wp _ (Code.region 6 _ true) _ _ _); refine T.mregion 6 (.t 0 (.p 2 (.t 3 (.p 4 (.t 5 (.p 8 (.p 9 (.p 10 (.t 11 (.a 1 (.a 6 (.a 7 (.p 12 (.z 13 (.p 14 .nil))))))))))))))) 13 (by kernel_rfl) (fun _ _ _ _ h => h) hM (List.Sublist.refl _) ?_; clear hM; intro wld hM) | (go_at_call 80; refine (T.next_calls t b.txs b.tv b.h.nonce _ (HT.out.kept hM.below) (HB.out.t.kept hM.below)).mono ?_; rintro _ _ ⟨rt, hrt, hrn, rfl, hbc⟩; replace hM := hM.call hbc; clear hbc; have kw := T.hnext_ok t rt b.h.nonce hrt HT.out.okp; have hwl := (T.hnext t rt b.h.nonce).len kw; have hwo := (T.hnext t rt b.h.nonce).ones; have HRN := Aside0.mk hrn; clear hrn) | (go_at_call 81; refine (T.asks_calls (T.TrialV.mk t b (T.hnext t rt b.h.nonce) T.nilS) _ _ _ _ _ HT.out HB.out kw (Nat.le_refl _) hM).mono ?_; rintro _ w2 ⟨err, rfl, hz, hcc⟩; clear hM; have HCC := Aside0.mk hcc; clear hcc; (rcases hz with ⟨rfl, hj⟩ | ⟨hne, hM⟩); (case' inl => ((obtain ⟨hmy, v8, l8, kl8, hl8, hM⟩ := T.Ja6 hj); (obtain ⟨A8, c8, rfl, _⟩ := hM.gsl List.mem_cons_self); have HMY := Aside0.mk hmy; have HK8 := Aside0.mk kl8; have HL8 := Aside0.mk hl8; clear hj hmy kl8 hl8)); (case' inr => ((obtain ⟨q1, q2⟩ := T.err2 _ hne); have HNE := Aside0.mk hne; clear hne))) | (go_at_call 112; refine (T.own_calls t _ (HT.out.kept hM.below)).mono ?_; rintro _ _ ⟨cs9, hl9, ho9, rfl, hbc⟩; replace hM := hM.call hbc; clear hbc) | (go_at_call 113; refine (T.copied_calls b _ (HB.out.kept hM.below)).mono ?_; rintro _ w3 ⟨lv3, tv3, tx3, rfl, hK3, hl3, hbc⟩; have HB3 := Aside0.mk hM.grown.size; have HB4 := Aside0.mk (hM.size (e := .b _ _ _) (.tail _ (.tail _ (.tail _ (.head _)))) rfl); replace hM := hM.call hbc; have hRR := T.krefl hK3; have HB5 := (hK3 _ hRR).ones; have HK3 := Aside0.mk hK3; have hbl3 := (T.BlkV.mk b.h lv3 tv3 b.ids tx3).len k2; clear hbc hK3 hl3) | (go_at_call 53; refine (T.bleaf_calls b.h k2 HB.out.nums _).mono ?_; rintro _ _ ⟨rfl, hbc⟩; replace hM := hM.call hbc; replace hRR := T.kb hRR hbc; clear hbc) | (go_at_call 52; refine (T.mapp_calls t.ps (T.bleaf b.h) HT.out.okp (T.bleaf_okP _) HT.out.np t.pv _ (hM.slin HT.out.p)).mono ?_; rintro _ wr ⟨v, rfl, ho, h1, hbc⟩; (obtain ⟨Ag, cg, rfl⟩ := T.own_slice ho); replace hM := hM.callG hbc ho h1; replace hRR := T.kb hRR hbc; clear hbc ho h1; have hl12 : ((T.BlkV.mk b.h lv3 tv3 b.ids tx3).cells ++ [Value.slice Ag (T.mapp t.ps (T.bleaf b.h)).length cg, Value.slice A8 l8.length c8]).length = 139 := (by rw [List.length_append, hbl3]; rfl); have ho12 : ∀ v ∈ (T.BlkV.mk b.h lv3 tv3 b.ids tx3).cells ++ [Value.slice Ag (T.mapp t.ps (T.bleaf b.h)).length cg, Value.slice A8 l8.length c8], v.oneCell' = true := T.ones_app HB5 (T.ones_all rfl)) | ((with_reducible show T.Seq _ _ _ (.a 1 _) _ _ _); refine T.sq_aN rfl rfl (fun K hK => ?_)) | ((with_reducible show T.Seq _ _ _ (.a 6 _) _ _ _); refine T.sq_aR rfl rfl (fun K hK => ?_)) | ((with_reducible show T.Seq _ _ _ (.a 7 _) _ _ _); refine T.sq_aR rfl rfl (fun K hK => ?_)) | ((with_reducible show T.Seq _ _ _ (.z 13 _) _ _ _); refine T.sq_zT rfl rfl (fun K hK => ?_)) | (go_at_K; refine hK.out _ _ _ (fun X => E.KeepsOn _ _ X) hM (by (repeat ((exact List.Sublist.refl _)))) hRR ?_; clear hK K) | (go_at_K; refine hK.out _ _ _ hM (by (repeat (first | exact List.Sublist.refl _ | apply List.Sublist.cons))) hRR ?_; clear hK K) | (go_at_K; refine hK.out _ _ ?_; clear hK K; (try simp only [Act.put, List.setIfInBounds_toArray, List.set_cons_zero, List.set_cons_succ])) | ((with_reducible show T.OW _ ⟨_, .store 79 (.tmp 4) (.tmp 41), _, _, _, _⟩ _ _ _ _); refine T.op_storeK _ _ _ rfl _ rfl _ rfl _ _ hM (by (repeat (first | exact T.Sub.head _ | apply T.Sub.tail))) _ T.TN.out hl12 ho12 hz139 ?_; clear hM; intro wld hM hks) | (((first | ((with_reducible show wpList _ _ _ _ _ _); (refine T.w_o rfl ?_)) | (with_reducible show T.OW _ _ _ _ _ _)); first | ((with_reducible show T.OW _ ⟨_, .load _ _, _, _, _, _⟩ _ _ _ _); ((refine T.ofx (T.x_loadAll rfl rfl T.Fd.out T.TU.out T.TN.out (by ((with_reducible assumption))) hM) ?_))) | ((with_reducible show T.OW _ ⟨_, .store _ _ _, _, _, _, _⟩ _ _ _ _); ((refine T.op_storeAll _ _ _ rfl _ rfl _ rfl _ _ hM (by (repeat ((exact T.Sub.head _)))) _ T.TN.out (by (first | with_reducible assumption | rfl)) (by (first | with_reducible assumption | exact T.ones_all rfl)) (by (first | with_reducible assumption | rfl)) ?_; clear hM; intro wld hM))) | ((with_reducible show T.OW _ ⟨_, .alloc _, _, _, _, _⟩ _ _ _ _); refine T.op_alloc _ rfl _ T.TZ.out hM ?_; clear hM; intro blk wld hM hlt) | ((with_reducible show T.OW _ ⟨_, .box _ _, _, _, _, _⟩ _ _ _ _); refine T.op_box _ _ rfl _ rfl hM ?_; clear hM; intro blk wld hM hlt)); (try simp only [Act.put, List.setIfInBounds_toArray, List.set_cons_zero, List.set_cons_succ])) | ((with_reducible show T.Seq _ _ _ _ _ _ _); first | ((with_reducible show T.Seq _ _ _ (.p _ _) _ _ _); first | (apply T.sq_p rfl rfl; (focus intro wS; ((go_simp; with_reducible rfl))); (try simp only [Act.put, List.setIfInBounds_toArray, List.set_cons_zero, List.set_cons_succ])) | (apply T.sq_p rfl rfl; (focus intro wS; exact T.x_build rfl inferInstance rfl (by (((simp [T.okp, Value.cells, Act.eval, *]; done)))) rfl); (try simp only [Act.put, List.setIfInBounds_toArray, List.set_cons_zero, List.set_cons_succ]); (try simp only [List.map_toArray, List.map_cons, List.map_nil, Act.eval, Array.getD_eq_getD_getElem?, List.toList_toArray, List.getElem?_toArray, List.getElem?_cons_zero, List.getElem?_cons_succ, Option.getD_some, T.segs, List.replicate_succ, List.replicate_zero, List.set_cons_zero, List.set_cons_succ, Value.cells, List.flatten_cons, List.flatten_nil, List.append_nil, List.cons_append, List.nil_append]))) | ((with_reducible show T.Seq _ _ _ (.t _ _) _ _ _); ((apply T.sq_t rfl rfl; (focus intro wS hS; first | exact T.x_load rfl rfl T.Fd.out T.TS.out hta hS | exact T.x_load rfl rfl T.Fd.out T.TS.out hna hS | exact T.x_load rfl rfl T.Fd.out T.TS.out hpa hS | exact T.x_loadAgg rfl rfl T.Fd.out T.TU.out T.TN.out (by ((omega))) hbh hS | exact T.x_load rfl rfl T.Fd.out T.TS.out (T.TrialV.c_at t b _ _ k1 k2 kw) hS | exact T.x_loadAll rfl rfl T.Fd.out T.TU.out T.TN.out (by ((with_reducible assumption))) hS); (try simp only [Act.put, List.setIfInBounds_toArray, List.set_cons_zero, List.set_cons_succ])))) | ((with_reducible show T.Seq _ _ _ .nil _ _ _); refine T.sq_nil ?_) | ((with_reducible show T.Seq _ _ _ (.a _ _) _ _ _); refine T.sq_a rfl rfl (fun K hK => ?_))) | (go_at_K; refine hK.out _ _ _ hM (by (repeat (first | exact List.Sublist.refl _ | apply List.Sublist.cons))) ?_; clear hK K) | ((with_reducible show T.OW _ ⟨_, .call _, _, _, _, _⟩ _ _ _ _); refine T.OW.mk ?_; go_simp) | (go_step) | ((fail_if_success (with_reducible show T.Seq _ _ _ _ _ _ _)); (fail_if_success (with_reducible show T.OW _ _ _ _ _ _)); simp only [Int.not_lt, Int.not_le] at *; go_simp))
  · (refine T.ret_ct rfl rfl _ rfl _ rfl _ _ hM T.Fd.out T.TU.out _ T.TN.out (by ((with_reducible assumption))) ?_)
    subst hP
    exact ⟨cs9, err, hl9, ho9, rfl, hM.below, fun h => absurd h HNE.out, fun c => HCC.out (c.conc HRN.out)⟩
  · (refine T.ret_ct rfl rfl _ rfl _ rfl _ _ hM T.Fd.out T.TU.out _ T.TN.out (by ((with_reducible assumption))) ?_)
    subst hP
    refine ⟨_, 0, hl12, ho12, rfl, hM.below, fun _ => ⟨HMY.out, T.TipV.mk (T.BlkV.mk b.h lv3 tv3 b.ids tx3) (.slice Ag (T.mapp t.ps (T.bleaf b.h)).length cg) (.slice A8 l8.length c8) (T.mapp t.ps (T.bleaf b.h)) l8, rfl, rfl, T.mapp_len _ _, fun X hX => ?_⟩, fun _ => rfl⟩
    exact ⟨HK3.out X ((hRR.trans (hks _ HB4.out)).trans (hX.mono HB3.out)), T.mapp_ok _ _ HT.out.okp (T.bleaf_okP _), Nat.le_trans (T.mapp_len _ _) HPS.out, T.sl_keeps (hM.row _ (by (repeat ((exact List.Mem.head _))))) (Nat.le_refl _) hX, HK8.out, HL8.out, T.sl_keeps (hM.row _ (by (repeat (first | exact List.Mem.head _ | apply List.Mem.tail)))) (Nat.le_refl _) hX⟩
end
end Go.Proofs.YtdklknfgcepcbaaGreat.X
