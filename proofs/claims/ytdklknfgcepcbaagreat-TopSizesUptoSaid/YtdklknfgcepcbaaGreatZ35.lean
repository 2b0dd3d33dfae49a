/- Texts of this proof, laid together by wip/tools/pack.py: TM4, TM5, TM6, TM7, TM8. -/
import Derived.Test.YtdklknfgcepcbaaGreatZ31
import Derived.Test.YtdklknfgcepcbaaGreatZ34
import Derived.Defers
import Derived.Recover
import Derived.Tactics2
import Derived.Laws.Pointers
namespace Go.Proofs.YtdklknfgcepcbaaGreat.X
open Go.RowKit Go.Proofs.YtdklknfgcepcbaaGreatW.PrintWords Go.Proofs.YtdklknfgcepcbaaGreatW.PrintLast Go.Proofs.YtdklknfgcepcbaaGreatW.PrintMore
set_option linter.unusedSimpArgs false
set_option linter.unusedVariables false
set_option maxHeartbeats 2000000
set_option maxRecDepth 20000
theorem T.kdC {w : World} {A : Option Addr} {n c : Nat} {l : List Int} (hn : l.length = n) (hb : n ≤ 9223372036854775807) (h : T.Sl w (.slice A n c) n (encs (Value.int .i64) l)) : Kd.C (Kd.int .i64) w A n l := by
  refine ⟨hn, hb, fun h0 => ?_⟩
  obtain ⟨b, o, rfl⟩ := h.adr h0
  obtain ⟨_, _, e, hr⟩ := h.of_some
  cases e
  refine ⟨_, rfl, fun j p hj => ⟨[.int .i64 p], rfl, rfl, fun i u hu => ?_⟩⟩
  cases i with
  | zero =>
    cases hu
    have := hr j (.int .i64 p) (by simp [encs, hj])
    rw [Addr.add_lit]
    show w.cell? ⟨b, o + (j * 1 + 0), none⟩ = _
    rw [Nat.mul_one, Nat.add_zero]
    exact this
  | succ i => cases hu
theorem T.kdR {e : TypeId} {w : World} {base : Nat} {ok : Nat → Prop} {v : Value} {l : List Int} (h : Kd.R (Kd.int .i64) e w base ok v l) : w.ownsRow base e 1 v l.length (encs (Value.int .i64) l) := by
  obtain ⟨_, inner, ho, hr⟩ := h
  have hi : inner = encs (Value.int .i64) l := by
    have hl : inner.length = l.length := hr.1.trans (Nat.mul_one _)
    refine List.ext_getElem (by rw [encs_length]; exact hl) fun j h1 h2 => ?_
    have hj : j < l.length := by omega
    have h3 : (inner.drop (j * 1)).take 1 = [Value.int .i64 l[j]] := hr.2 j l[j] (List.getElem?_eq_getElem hj)
    have h4 := congrArg (·[0]?) h3
    simp [h1] at h4
    rw [h4]
    simp [encs]
  rw [← hi]
  exact ho
theorem T.apart_symm : ∀ {x y : T.Blk}, T.Apart x y → T.Apart y x := fun h => h.symm
theorem T.Mem.perm {w0 w : World} {F : Option Nat} {L L' : List T.Blk} (h : T.Mem w0 F w L) (hp : L.Perm L') : T.Mem w0 F w L' :=
  ⟨h.grown, fun e he => h.own e (hp.mem_iff.2 he), fun e he => h.row e (hp.mem_iff.2 he), (hp.pairwise_iff T.apart_symm).1 h.nd⟩
theorem T.lies_lower {b b' : Nat} {w : World} {x : T.Blk} (h : x.lies b w) (hb : b' ≤ b) : x.lies b' w := by
  cases x with
  | b n t cs => exact h
  | o n x => exact h
  | g v e sz n xs =>
    obtain ⟨⟨h1, h2⟩, h3⟩ := h
    refine ⟨⟨h1, h2.imp id ?_⟩, h3⟩
    rintro ⟨g, cap, cur, rfl, hg, r⟩
    exact ⟨g, cap, cur, rfl, Nat.le_trans hb hg, r⟩
theorem T.Mem.join {w0 w w' : World} {F : Option Nat} {L L2 : List T.Blk} (h : T.Mem w0 F w L) (k : T.Mem w none w' L2) : T.Mem w0 F w' (L2 ++ L) := by
  have hc := h.call k.below
  refine ⟨hc.grown, fun e he q hq => ?_, fun e he => ?_, List.pairwise_append.2 ⟨k.nd, hc.nd, fun x hx y hy q hq hq2 => ?_⟩⟩
  · rcases List.mem_append.1 he with he | he
    · rcases k.own e he q hq with h1 | h1
      · exact .inl (Nat.le_trans h.grown.size h1)
      · cases h1
    · exact hc.own e he q hq
  · rcases List.mem_append.1 he with he | he
    · exact T.lies_lower (k.row e he) h.grown.size
    · exact hc.row e he
  · rcases k.own x hx q hq with h1 | h1
    · have := h.size hy hq2
      omega
    · cases h1
def T.good2 (l : List T.BlkV) : Prop := ∃ b0 b1, l = [b0, b1] ∧ T.tOk b0.h.bits = true ∧ T.sameB (T.hfirst b0.h.bits) b0 = true ∧ ∀ v, T.ConcP (T.tip0 b0.h.bits v) b1
def T.lastK (n k : Nat) : List Int := (List.range k).map fun i => (((n - k + i : Nat)) : Int)
def T.places (l : List T.BlkV) (m : Int) (k : Nat) : List Int := (S.prefZ (T.levels l) m k).1 ++ T.lastK l.length k
def T.rangeMK (n : Nat) (m k : Int) : Prop := 1 ≤ m ∧ m ≤ 20 ∧ 1 ≤ k ∧ k ≤ 20 ∧ k < n
def T.WStart (l : List T.BlkV) (lv : Value) (m k : Int) (w : World) (e : Ending) (w' : World) : Prop :=
  (∃ err : Int, err ≠ 0 ∧ e = .returned (.tuple #[.pointer none, .int .i64 err]) ∧ Below w.heap.size w w' ∧ ¬ (T.good2 l ∧ T.rangeMK l.length m k)) ∨
  (T.goodL l ∧ T.rangeMK l.length m k ∧ ∃ (bp : Nat) (vv pv : Value), e = .returned (.tuple #[.pointer (some ⟨bp, 0, none⟩), .int .i64 0]) ∧
    T.Mem w none w' [.g pv 3 1 (T.places l m k.toNat).length (encs (Value.int .i64) (T.places l m k.toNat)), .b bp 99 [lv, .int .i64 m, .int .i64 k, vv, pv]])
theorem T.five (a b c d e : Bool) : a = true ∨ (a = false ∧ b = true) ∨ (a = false ∧ b = false ∧ c = true) ∨ (a = false ∧ b = false ∧ c = false ∧ d = true) ∨ (a = false ∧ b = false ∧ c = false ∧ d = false ∧ e = true) ∨ (a = false ∧ b = false ∧ c = false ∧ d = false ∧ e = false) := by
  cases a <;> cases b <;> cases c <;> cases d <;> cases e <;> simp
theorem T.pref_len (v : List Int) (m k : Int) : (S.prefZ v m k).1.length ≤ v.length := by
  unfold S.prefZ
  split
  · exact Nat.le_trans (List.length_filter_le _ _) (S.upFrom_len _ _ _ _ _)
  · exact Nat.zero_le _
theorem T.lastK_len (n k : Nat) : (T.lastK n k).length = k := by simp [T.lastK]
theorem T.lastK_take (n k i : Nat) (h : i < k) : (T.lastK n k).take (i + 1) = (T.lastK n k).take i ++ [((n - k + i : Nat) : Int)] := by
  rw [List.take_succ_eq_append_getElem (by rw [T.lastK_len]; exact h)]
  simp [T.lastK]
theorem T.prefix_calls (v : List Int) (A : Option Addr) (n c : Nat) (hn : v.length = n) (hb : n ≤ 1000000) (m : Int) (hm : m ≤ 9223372036854775807) (k : Int) (w : World) (hS : T.Sl w (.slice A n c) n (encs (Value.int .i64) v)) : Calls Tryz.prog 37 #[.slice A n c, .int .i64 m, .int .i64 k] w fun e w' =>
    ∃ pv : Value, e = .returned (.tuple #[pv, .bool (S.prefZ v m k).2]) ∧ w'.ownsRow w.heap.size 3 1 pv (S.prefZ v m k).1.length (encs (Value.int .i64) (S.prefZ v m k).1) ∧ Below w.heap.size w w' := by
  subst hn
  refine (E.prefix_calls A c v m k w (T.kdC rfl (Nat.le_trans hb (by decide)) hS) hS.cap hm).mono ?_
  rintro _ w' ⟨pv, rfl, hR, hbl⟩
  exact ⟨pv, rfl, T.kdR hR, hbl⟩
theorem T.start_calls (l : List T.BlkV) (A : Option Addr) (n c : Nat) (hn : l.length = n) (m k : Int) (w : World) (hl : T.BlksAt w (.slice A n c) l) : Calls Tryz.prog 16 #[.slice A n c, .int .i64 m, .int .i64 k] w (T.WStart l (.slice A n c) m k w) := by
  have hM := T.Mem.start w
  have hz139 := T.zero139
  have HL := Aside0.mk hl
  have HN := Aside0.mk hn
  have HB := Aside0.mk hl.n
  have hnb : n ≤ 1000000 := by rw [← hn]; exact hl.n
  clear hl hn
  generalize hP : T.WStart l (.slice A n c) m k w = Post
  rcases T.five (decide (m < 1)) (decide (20 < m)) (decide (k < 1)) (decide (20 < k)) (decide ((n : Int) ≤ k)) with d1 | ⟨d1, d2⟩ | ⟨d1, d2, d3⟩ | ⟨d1, d2, d3, d4⟩ | ⟨d1, d2, d3, d4, d5⟩ | ⟨d1, d2, d3, d4, d5⟩
  rotate_right
  · have r1 : 1 ≤ m := by have := of_decide_eq_false d1; omega
    have r2 : m ≤ 20 := by have := of_decide_eq_false d2; omega
    have r3 : 1 ≤ k := by have := of_decide_eq_false d3; omega
    have r4 : k ≤ 20 := by have := of_decide_eq_false d4; omega
    have r5 : k < (n : Int) := by have := of_decide_eq_false d5; omega
    have HR := Aside0.mk (show T.rangeMK l.length m k from ⟨r1, r2, r3, r4, by rw [HN.out]; exact r5⟩)
    obtain ⟨kk, rfl⟩ : ∃ kk : Nat, k = (kk : Int) := ⟨k.toNat, by omega⟩
    have hkk : kk ≤ 20 := by omega
    have hkn : kk < n := by omega
    have d5' : decide (n ≤ kk) = false := decide_eq_false (by omega)
    clear r3 r4 r5
    have HRM := Aside0.mk (show m ≤ 9223372036854775807 by omega)
    clear r1 r2
    go_enter Tryz.func16, Tryz.ntmps16
    repeat' (first | (go_at_call 36; refine (T.check_calls l _ _ (HL.out.kept hM.below)).mono ?_; rintro _ w2 ⟨cs, err, hcl, hco, rfl, hbc, hgood, _, h2⟩; replace hM := hM.call hbc; clear hbc; have HG := Aside0.mk hgood; have H2 := Aside0.mk h2; clear hgood h2; (rcases T.zer3 err with ⟨rfl, q6⟩ | ⟨q5, q6, q7⟩)) | (go_at_call 7; refine (T.levels_calls l _ _ (HL.out.kept hM.below)).mono ?_; rintro _ wr ⟨v, rfl, ho, h1, hbc⟩; rw [HN.out] at ho; (obtain ⟨Ag, cg, rfl⟩ := T.own_slice ho); replace hM := hM.callG hbc ho h1; clear hbc ho h1) | (go_at_call 37; refine (T.prefix_calls (T.levels l) _ _ _ ((T.levels_len l).trans HN.out) hnb m HRM.out _ _ (hM.gsl T.Fg.out)).mono ?_; rintro _ w3 ⟨pv, rfl, hR, hbc⟩; (obtain ⟨Ap, cp, rfl⟩ := T.own_slice hR); replace hM := hM.callG hbc hR (T.ones_encs _ _); clear hbc hR; have HPB := Aside0.mk (T.pref_len (T.levels l) m (kk : Int)); (generalize hpl : (S.prefZ (T.levels l) m (kk : Int)).1 = pl at *); have HPL := Aside0.mk hpl; clear hpl) | ((((((with_reducible show wpList _ _ _ _ _ _); first | refine T.w_o rfl ?_ | ((with_reducible show wpList _ _ _ (⟨_, _, _, _, _, some _⟩ :: _) _ _); refine T.w_g rfl ?_)))); first | ((with_reducible show T.OW _ ⟨_, .load _ _, _, _, _, _⟩ _ _ _ _); ((refine T.ofx (T.x_load rfl rfl T.Fd.out T.TS.out rfl hM) ?_))) | ((with_reducible show T.OW _ ⟨_, .store _ _ _, _, _, _, _⟩ _ _ _ _); first | (refine T.op_storeAll _ _ _ rfl _ rfl _ rfl _ _ hM (by (repeat (first | exact T.Sub.head _ | apply T.Sub.tail))) _ T.TN.out (by (first | with_reducible assumption | rfl)) (by (first | with_reducible assumption | exact T.one_ones rfl)) (by ((with_reducible assumption))) ?_; clear hM; intro wld hM) | (refine T.op_store _ _ _ rfl _ _ rfl _ rfl _ _ _ hM (by (repeat (first | exact T.Sub.head _ | apply T.Sub.tail))) _ T.TN.out (by ((rfl))) (by ((exact T.one_ones rfl))) (by (((simp only [List.length_append, List.length_map, List.length_replicate, List.length_cons, List.length_nil, encs_length, *]; omega)))) rfl ?_; clear hM; intro wld hM)) | ((with_reducible show T.OW _ ⟨_, .alloc _, _, _, _, _⟩ _ _ _ _); refine T.op_alloc _ rfl _ T.TZ.out hM ?_; clear hM; intro blk wld hM hlt) | ((with_reducible show T.OW _ ⟨_, .box _ _, _, _, _, _⟩ _ _ _ _); refine T.op_box _ _ rfl _ rfl hM ?_; clear hM; intro blk wld hM hlt) | ((with_reducible show T.OW _ ⟨_, .build _ _, _, _, _, _⟩ _ _ _ _); ((refine T.ofx (T.x_build rfl inferInstance rfl (by (((simp [T.okp, Value.cells, Act.eval, *]; done)))) rfl) ?_; (try simp only [List.map_toArray, List.map_cons, List.map_nil, Act.eval, Array.getD_eq_getD_getElem?, List.toList_toArray, List.getElem?_toArray, List.getElem?_cons_zero, List.getElem?_cons_succ, Option.getD_some, T.segs, List.replicate_succ, List.replicate_zero, List.set_cons_zero, List.set_cons_succ, Value.cells, List.flatten_cons, List.flatten_nil, List.append_nil, List.cons_append, List.nil_append]))))); (try simp only [Act.put, List.setIfInBounds_toArray, List.set_cons_zero, List.set_cons_succ])) | go_guarded | (go_step) | go_back | ((fail_if_success (with_reducible show T.Seq _ _ _ _ _ _ _)); (fail_if_success (with_reducible show T.OW _ _ _ _ _ _)); simp only [Int.not_lt, Int.not_le] at *; go_simp))
    · obtain ⟨bp, rfl⟩ := T.n2 hM
      replace hM := hM.drop (L' := [.g (.slice Ap pl.length cp) 3 1 pl.length (encs (Value.int .i64) pl), .b bp 99 [.slice A n c, .int .i64 m, .int .i64 kk, .slice Ag n cg, .slice Ap pl.length cp]]) (by (repeat (first | exact List.Sublist.refl _ | apply List.Sublist.cons_cons | apply List.Sublist.cons)))
      go_loopg [61] (kk + 1) (fun kq v61 Wd => ∃ (i : Nat) (Aq : Option Addr) (cq : Nat), v61 = .int .i64 i ∧ i ≤ kk ∧ kk - i < kq ∧ Aside0 (T.Mem w none Wd [.g (.slice Aq (pl.length + i) cq) 3 1 (pl.length + i) (encs (Value.int .i64) (pl ++ (T.lastK n kk).take i)), .b bp 99 [.slice A n c, .int .i64 m, .int .i64 kk, .slice Ag n cg, .slice Aq (pl.length + i) cq]]))
      case atStart => exact ⟨0, Ap, cp, rfl, by omega, by omega, ⟨by simpa using hM⟩⟩
      case round =>
        clear hM
        obtain ⟨i, Aq, cq, rfl, hi, hg, hMo⟩ := hrel
        have hM := hMo.out
        clear hMo
        by_cases hlt : i < kk
        · have hltz : (i : Int) < (kk : Int) := by omega
          have cb : decide ((i : Int) < (kk : Int)) = true := decide_eq_true hltz
          have hi0 : (0 : Int) ≤ (i : Int) := by omega
          obtain ⟨dd, hdd⟩ : ∃ dd, dd = n - kk := ⟨_, rfl⟩
          obtain ⟨q, hq⟩ : ∃ q, q = dd + i := ⟨_, rfl⟩
          have e1 : IntKind.i64.wrap ((n : Int) - (kk : Int)) = (dd : Int) := by rw [T.w64 (by omega) (by omega)]; omega
          have e2 : IntKind.i64.wrap ((dd : Int) + (i : Int)) = (q : Int) := by rw [T.w64 (by omega) (by omega)]; omega
          have HQ := Aside0.mk (show ((n - kk + i : Nat) : Int) = (q : Int) by omega)
          have hplb : pl.length ≤ 1000000 := by have := HPB.out; rw [T.levels_len, HN.out] at this; omega
          clear hdd hq
          repeat' (first | ((with_reducible show wpList _ _ _ (⟨_, .call ⟨.builtin .append, _, _⟩, _, _, _, _⟩ :: _) _ _); refine T.w_o rfl ?_; refine T.op_app _ _ _ rfl _ _ _ T.TE.out _ _ _ rfl _ _ _ hM (fun _ => by (repeat (first | exact T.Sub.head _ | apply T.Sub.tail))) (by (exact T.Mem.slB hM T.Fd.out (by ((exact T.one_ones rfl))) (by decide))) (by ((rfl))) (by decide) (by decide) (by ((omega))) ?_; clear hM; intro gsv wld hM; (obtain ⟨Aq, cq, rfl, _⟩ := hM.gsl (v := gsv) T.Fg.out)) | ((((((with_reducible show wpList _ _ _ _ _ _); (refine T.w_o rfl ?_)))); first | ((with_reducible show T.OW _ ⟨_, .load _ _, _, _, _, _⟩ _ _ _ _); ((refine T.ofx (T.x_load rfl rfl T.Fd.out T.TS.out rfl hM) ?_))) | ((with_reducible show T.OW _ ⟨_, .store _ _ _, _, _, _, _⟩ _ _ _ _); ((refine T.op_store _ _ _ rfl _ _ rfl _ rfl _ _ _ hM (by (repeat (first | exact T.Sub.head _ | apply T.Sub.tail))) _ T.TN.out (by ((rfl))) (by ((exact T.one_ones rfl))) (by (((simp only [List.length_append, List.length_map, List.length_replicate, List.length_cons, List.length_nil, encs_length, *]; omega)))) rfl ?_; clear hM; intro wld hM))) | ((with_reducible show T.OW _ ⟨_, .buildSlice _ _ _, _, _, _, _⟩ _ _ _ _); refine T.op_buildSl _ _ _ rfl _ T.TL.out _ T.TN.out _ T.TZ.out rfl (by decide) (by decide) _ rfl (by (((simp [T.okp, Value.cells, Act.eval, *]; done)))) _ rfl hM ?_; (try simp only [List.map_toArray, List.map_cons, List.map_nil, Act.eval, Array.getD_eq_getD_getElem?, List.toList_toArray, List.getElem?_toArray, List.getElem?_cons_zero, List.getElem?_cons_succ, Option.getD_some, T.segs, List.replicate_succ, List.replicate_zero, List.set_cons_zero, List.set_cons_succ, Value.cells, List.flatten_cons, List.flatten_nil, List.append_nil, List.cons_append, List.nil_append]); clear hM; intro blk wld hM hlt)); (try simp only [Act.put, List.setIfInBounds_toArray, List.set_cons_zero, List.set_cons_succ])) | (go_step))
          go_roundg (kk - i)
          case measure => omega
          case rel =>
            refine ⟨i + 1, Aq, cq, (by (go_num)), by omega, by omega, ⟨?_⟩⟩
            rw [T.lastK_take n kk i (by omega), ← List.append_assoc, HQ.out]
            have e3 : encs (Value.int .i64) (pl ++ (T.lastK n kk).take i ++ [(q : Int)]) = encs (Value.int .i64) (pl ++ (T.lastK n kk).take i) ++ [.int .i64 q] := by simp [encs]
            rw [e3]
            exact hM.drop (by (repeat (first | exact List.Sublist.refl _ | apply List.Sublist.cons)))
        · have hiN : i = kk := by omega
          have hltz : ¬ (i : Int) < (kk : Int) := by omega
          have cb : decide ((i : Int) < (kk : Int)) = false := decide_eq_false hltz
          repeat' (first | (go_step) | go_back | ((fail_if_success (with_reducible show T.Seq _ _ _ _ _ _ _)); (fail_if_success (with_reducible show T.OW _ _ _ _ _ _)); simp only [Int.not_lt, Int.not_le] at *; go_simp))
          subst hP
          have hpp : T.places l m kk = pl ++ (T.lastK n kk).take i := by
            rw [T.places, HPL.out, HN.out, hiN, List.take_of_length_le (by rw [T.lastK_len]; exact Nat.le_refl _)]
          have hpl2 : (T.places l m kk).length = pl.length + i := by
            rw [hpp, List.length_append, List.length_take, T.lastK_len]
            omega
          refine .inr ⟨HG.out (by simp), HR.out, bp, .slice Ag n cg, .slice Aq (pl.length + i) cq, rfl, ?_⟩
          rw [Int.toNat_natCast, hpl2, hpp]
          exact hM
    · subst hP
      exact .inl ⟨err, q5, rfl, hM.below, fun h => (by obtain ⟨⟨b0, b1, h1, h3, h4, h5⟩, _⟩ := h; exact q5 (H2.out b0 b1 h1 h3 h4 h5))⟩
  all_goals go_enter Tryz.func16, Tryz.ntmps16
  all_goals repeat' (first | (go_at_call 36; refine (T.check_calls l _ _ (HL.out.kept hM.below)).mono ?_; rintro _ w2 ⟨cs, err, hcl, hco, rfl, hbc, hgood, _, h2⟩; replace hM := hM.call hbc; clear hbc; have HG := Aside0.mk hgood; have H2 := Aside0.mk h2; clear hgood h2; (rcases T.zer3 err with ⟨rfl, q6⟩ | ⟨q5, q6, q7⟩)) | ((((((with_reducible show wpList _ _ _ _ _ _); first | refine T.w_o rfl ?_ | ((with_reducible show wpList _ _ _ (⟨_, _, _, _, _, some _⟩ :: _) _ _); refine T.w_g rfl ?_)))); first | ((with_reducible show T.OW _ ⟨_, .store _ _ _, _, _, _, _⟩ _ _ _ _); ((refine T.op_storeAll _ _ _ rfl _ rfl _ rfl _ _ hM (by (repeat ((exact T.Sub.head _)))) _ T.TN.out (by ((with_reducible assumption))) (by ((with_reducible assumption))) (by ((with_reducible assumption))) ?_; clear hM; intro wld hM))) | ((with_reducible show T.OW _ ⟨_, .alloc _, _, _, _, _⟩ _ _ _ _); refine T.op_alloc _ rfl _ T.TZ.out hM ?_; clear hM; intro blk wld hM hlt)); (try simp only [Act.put, List.setIfInBounds_toArray, List.set_cons_zero, List.set_cons_succ])) | go_skip | go_guarded | (go_step) | go_back | ((fail_if_success (with_reducible show T.Seq _ _ _ _ _ _ _)); (fail_if_success (with_reducible show T.OW _ _ _ _ _ _)); simp only [Int.not_lt, Int.not_le] at *; go_simp))
  all_goals subst hP
  all_goals first | exact .inl ⟨err, q5, rfl, hM.below, fun h => (by obtain ⟨⟨b0, b1, h1, h3, h4, h5⟩, _⟩ := h; exact q5 (H2.out b0 b1 h1 h3 h4 h5))⟩ | exact .inl ⟨1, by decide, rfl, hM.below, fun h => (by obtain ⟨_, h1, h2, h3, h4, h5⟩ := h; rw [HN.out] at h5; simp only [decide_eq_true_iff, decide_eq_false_iff_not] at *; omega)⟩
structure T.PartV where
  h : T.Head
  lv : Value
  ids : List (List Int)
def T.PartV.cells (p : T.PartV) : List Value := p.h.cells ++ [p.lv]
def T.PartV.item (p : T.PartV) : T.Blk := .g p.lv 44 32 p.ids.length (T.rc T.u8s p.ids)
structure T.PartV.ok (p : T.PartV) : Prop where
  h : p.h.ok
  n : p.h.nums
  k : T.okn 32 p.ids
  b : p.ids.length ≤ 1000000
  s : p.lv.oneCell' = true
theorem T.PartV.len (p : T.PartV) (h : p.h.ok) : p.cells.length = 136 := by rw [T.PartV.cells, List.length_append, p.h.len h]; rfl
theorem T.PartV.ones (p : T.PartV) (h : p.lv.oneCell' = true) : ∀ v ∈ p.cells, v.oneCell' = true := T.ones_app p.h.ones (T.one_ones h)
def T.blk0 : T.BlkV := ⟨T.Head.zero, T.nilS, T.nilS, [], []⟩
def T.partsOf (l : List T.BlkV) (pl : List Int) (ps : List T.PartV) : Prop := ps.map (fun p => (p.h, p.ids)) = pl.map (fun x => ((l.getD x.toNat T.blk0).h, (l.getD x.toNat T.blk0).ids))
theorem T.proof_calls {w0 w : World} {L : List T.Blk} (l : List T.BlkV) (A : Option Addr) (n c : Nat) (hn : l.length = n) (hl : T.BlksAt w0 (.slice A n c) l) (m k : Int) (vv : Value) (pl : List Int) (np : Nat) (hnp : pl.length = np) (hpl : ∀ x ∈ pl, 0 ≤ x ∧ x < n) (hpb : np ≤ 1000000) (Ap : Option Addr) (cp : Nat) (bp : Nat)
    (hM : T.Mem w0 none w L) (hm1 : .g (.slice Ap np cp) 3 1 np (encs (Value.int .i64) pl) ∈ L) (hm2 : .b bp 99 [.slice A n c, .int .i64 m, .int .i64 k, vv, .slice Ap np cp] ∈ L) :
    Calls Tryz.prog 17 #[.pointer (some ⟨bp, 0, none⟩)] w fun e w' => ∃ (v : Value) (ps : List T.PartV), e = .returned (.agg #[.int .i64 m, .int .i64 k, v]) ∧ T.partsOf l pl ps ∧ (∀ p ∈ ps, p.ok) ∧ T.Mem w0 none w' (.g v 53 136 ps.length (T.rc T.PartV.cells ps) :: (ps.map T.PartV.item ++ L)) := by
  have HL := Aside0.mk hl
  have HN := Aside0.mk hn
  have HNP := Aside0.mk hnp
  have HPL := Aside0.mk hpl
  have HM1 := Aside0.mk hm1
  have HM2 := Aside0.mk hm2
  have HPB := Aside0.mk hpb
  clear hl hn hnp hpl hm1 hm2 hpb
  generalize hP : (fun (e : Ending) w' => ∃ (v : Value) (ps : List T.PartV), e = .returned (.agg #[.int .i64 m, .int .i64 k, v]) ∧ T.partsOf l pl ps ∧ (∀ p ∈ ps, p.ok) ∧ T.Mem w0 none w' (.g v 53 136 ps.length (T.rc T.PartV.cells ps) :: (ps.map T.PartV.item ++ L))) = Post
  have hz3 : [Value.int .i64 0, Value.int .i64 0, T.nilS].length = 3 := rfl
  go_enter Tryz.func17, Tryz.ntmps17
  repeat' (first | ((with_reducible show Code.wp _ (Code.region 1 _ true) _ _ _); refine T.mregion 1 (.p 0 (.p 1 (.p 2 (.t 3 (.p 4 (.p 5 (.p 6 (.t 7 (.p 8 (.a 9 (.z 10 .nil))))))))))) 10 (by kernel_rfl) (fun _ _ _ _ h => h) hM (List.Sublist.refl _) ?_; clear hM; intro wld hM) | (((first | ((with_reducible show wpList _ _ _ _ _ _); (refine T.w_o rfl ?_)) | (with_reducible show T.OW _ _ _ _ _ _)); first | ((with_reducible show T.OW _ ⟨_, .load _ _, _, _, _, _⟩ _ _ _ _); ((refine T.ofx (T.x_load rfl rfl (by repeat (first | exact HM2.out | apply List.Mem.tail)) T.TS.out rfl hM) ?_))) | ((with_reducible show T.OW _ ⟨_, .store _ _ _, _, _, _, _⟩ _ _ _ _); ((refine T.op_storeAll _ _ _ rfl _ rfl _ rfl _ _ hM (by (repeat ((exact T.Sub.head _)))) _ T.TN.out (by ((rfl))) (by ((exact T.ones_all rfl))) (by ((with_reducible assumption))) ?_; clear hM; intro wld hM))) | ((with_reducible show T.OW _ ⟨_, .alloc _, _, _, _, _⟩ _ _ _ _); refine T.op_alloc _ rfl _ T.TZ.out hM ?_; clear hM; intro blk wld hM hlt)); (try simp only [Act.put, List.setIfInBounds_toArray, List.set_cons_zero, List.set_cons_succ])) | ((with_reducible show T.Seq _ _ _ _ _ _ _); first | ((with_reducible show T.Seq _ _ _ (.p _ _) _ _ _); ((apply T.sq_p rfl rfl; (focus intro wS; ((go_simp; with_reducible rfl))); (try simp only [Act.put, List.setIfInBounds_toArray, List.set_cons_zero, List.set_cons_succ])))) | ((with_reducible show T.Seq _ _ _ (.t _ _) _ _ _); ((apply T.sq_t rfl rfl; (focus intro wS hS; (exact T.x_load rfl rfl (by repeat (first | exact HM2.out | apply List.Mem.tail)) T.TS.out rfl hS)); (try simp only [Act.put, List.setIfInBounds_toArray, List.set_cons_zero, List.set_cons_succ])))) | ((with_reducible show T.Seq _ _ _ .nil _ _ _); refine T.sq_nil ?_) | ((with_reducible show T.Seq _ _ _ (.a _ _) _ _ _); refine T.sq_a rfl rfl (fun K hK => ?_)) | ((with_reducible show T.Seq _ _ _ (.z _ _) _ _ _); refine T.sq_z rfl rfl (fun K hK => ?_))) | (go_at_K; refine hK.out _ _ _ hM (by (repeat (first | exact List.Sublist.refl _ | apply List.Sublist.cons))) ?_; clear hK K) | (go_at_K; refine hK.out _ _ _ hM ?_; clear hK K) | (go_step))
  obtain ⟨b3, rfl⟩ := T.n1 hM
  obtain ⟨b2, rfl⟩ := T.n2 hM
  go_loopg [20] (np + 1) (fun kq v20 Wd => ∃ (i : Nat) (Aq : Option Addr) (cq : Nat) (ps : List T.PartV), v20 = .int .i64 i ∧ i ≤ np ∧ np - i < kq ∧ ps.length = i ∧ T.partsOf l (pl.take i) ps ∧ (∀ p ∈ ps, p.ok) ∧ Aside0 (T.Mem w0 none Wd (.g (.slice Aq i cq) 53 136 i (T.rc T.PartV.cells ps) :: .b b3 27 [.int .i64 m, .int .i64 k, .slice Aq i cq] :: .b b2 27 [.int .i64 0, .int .i64 0, T.nilS] :: (ps.map T.PartV.item ++ L))))
  case atStart => exact ⟨0, none, 0, [], rfl, by omega, by omega, rfl, by simp [T.partsOf], fun _ h => (List.not_mem_nil h).elim, ⟨hM.nil 53 136⟩⟩
  case round =>
    clear hM
    obtain ⟨i, Aq, cq, ps, rfl, hi, hg, hpsl, hpo, hpk, hMo⟩ := hrel
    have HPSL := Aside0.mk hpsl
    have HPO := Aside0.mk hpo
    have HPK := Aside0.mk hpk
    clear hpsl hpo hpk
    have hM := hMo.out
    clear hMo
    by_cases hlt : i < np
    · have hltz : (i : Int) < (np : Int) := by omega
      have cb : decide ((i : Int) < (np : Int)) = true := decide_eq_true hltz
      have hi0 : (0 : Int) ≤ (i : Int) := by omega
      have hip : i < pl.length := by rw [HNP.out]; exact hlt
      have hx := HPL.out _ (List.getElem_mem hip)
      obtain ⟨q, hq⟩ : ∃ q : Nat, pl[i] = (q : Int) := ⟨(pl[i]).toNat, by omega⟩
      have HPI := Aside0.mk (show (encs (Value.int .i64) pl)[i]? = some (.int .i64 q) by simp [encs, hip, hq])
      have HTK := Aside0.mk (show pl.take (i + 1) = pl.take i ++ [(q : Int)] by rw [List.take_succ_eq_append_getElem hip, hq])
      rw [hq] at hx
      have hqn : q < n := by omega
      have hqz : (q : Int) < (n : Int) := by omega
      have hq0 : (0 : Int) ≤ (q : Int) := by omega
      have hql : q < l.length := by rw [HN.out]; exact hqn
      clear hx hq hip
      have HSP := Aside0.mk (hM.gsl (.tail _ (.tail _ (.tail _ (List.mem_append.2 (.inr HM1.out))))))
      obtain ⟨bq, oq, rfl⟩ := HSP.out.adr (by omega)
      have HS0 := Aside0.mk (show T.Sl w0 (.slice A n c) n (T.rc T.BlkV.cells l) by have := HL.out.s; rwa [HN.out] at this)
      obtain ⟨b, o, rfl⟩ := HS0.out.adr (by omega)
      have H1 := T.rc_at (enc := T.BlkV.cells) (k := 137) (l := l) (fun y hy => y.len (HL.out.all y hy).ok) q hql
      have HX := Aside0.mk (HL.out.all _ (List.getElem_mem hql))
      have HGD := Aside0.mk (show l.getD q T.blk0 = l[q] by simp [hql])
      generalize l[q] = x at *
      clear hql
      have kx := HX.out.ok
      have HH := Aside0.mk (show ((T.rc T.BlkV.cells l).drop (q * 137)).take 135 = x.h.cells by
        have := congrArg (List.take 135) H1
        rw [List.take_take] at this
        rw [show (135 : Nat) = min 135 137 by rfl, this]
        exact (by rw [← List.drop_zero (l := x.cells)]; exact x.hs kx))
      have HV := Aside0.mk (show (T.rc T.BlkV.cells l)[q * 137 + 135]? = some x.lv by
        have := congrArg (·[135]?) H1
        simp only [List.getElem?_take_of_lt (show 135 < 137 by decide), List.getElem?_drop] at this
        rw [this]
        exact x.l_at kx)
      clear H1
      have hxl := x.h.len kx
      have HIL := Aside0.mk (show (T.rc T.u8s x.ids).length = x.ids.length * 32 from T.rc_len (fun y hy => by rw [encs_length]; exact HX.out.kids y hy))
      have hxo := x.h.ones
      have hz136 : (T.Head.zero.cells ++ [T.nilS]).length = 136 := rfl
      have hz135 : T.Head.zero.cells.length = 135 := rfl
      have hpb2 := HPB.out
      repeat' (first | ((with_reducible show Code.wp _ (Code.region 5 _ true) _ _ _); refine T.mregion 5 (.p 0 (.t 1 (.p 2 (.p 3 (.p 4 (.t 5 (.p 6 (.p 7 (.p 8 (.t 9 (.p 10 (.p 11 (.p 12 (.t 13 (.p 14 (.p 15 (.p 16 (.t 17 (.a 18 (.p 19 (.a 20 (.a 21 (.p 22 (.z 23 .nil)))))))))))))))))))))))) 23 (by kernel_rfl) (fun _ _ _ _ h => h) hM (List.Sublist.cons _ (List.Sublist.refl _)) ?_; clear hM; intro wld hM) | (go_at_call 38; refine (T.cloneId _ _ _ _ (hM.slin HX.out.l) HIL.out (Nat.le_trans HX.out.n (by decide))).mono ?_; rintro _ wr ⟨v, rfl, ho, h1, hbc⟩; (obtain ⟨Ag, cg, rfl⟩ := T.own_slice ho); replace hM := hM.callG hbc ho h1; clear hbc ho h1; have hns : ∀ v ∈ x.h.cells ++ [Value.slice Ag x.ids.length cg], v.oneCell' = true := T.ones_app hxo (T.ones_all rfl); have hnl : (x.h.cells ++ [Value.slice Ag x.ids.length cg]).length = 136 := (by rw [List.length_append, hxl]; rfl)) | ((with_reducible show T.OW _ ⟨_, .call ⟨.builtin .append, _, _⟩, _, _, _, _⟩ _ _ _ _); refine T.op_app _ _ _ rfl _ _ _ T.TE.out _ _ _ rfl _ _ _ hM (fun _ => by (repeat (first | exact T.Sub.head _ | apply T.Sub.tail))) (by (exact T.Mem.slB hM T.Fd.out (by ((with_reducible assumption))) (by decide))) (by ((with_reducible assumption))) (by decide) (by decide) (by ((omega))) ?_; clear hM; intro gsv wld hM; (obtain ⟨Aw, cw, rfl, _⟩ := hM.gsl (v := gsv) T.Fg.out)) | (((first | ((with_reducible show wpList _ _ _ _ _ _); (refine T.w_o rfl ?_)) | (with_reducible show T.OW _ _ _ _ _ _)); first | ((with_reducible show T.OW _ ⟨_, .load _ _, _, _, _, _⟩ _ _ _ _); ((refine T.ofx (T.x_slCell rfl rfl (hM.gsl (.tail _ (.tail _ (.tail _ (List.mem_append.2 (.inr HM1.out)))))) T.TS.out HPI.out) ?_))) | ((with_reducible show T.OW _ ⟨_, .store _ _ _, _, _, _, _⟩ _ _ _ _); ((refine T.op_store _ _ _ rfl _ _ rfl _ rfl _ _ _ hM (by (repeat (first | exact T.Sub.head _ | apply T.Sub.tail))) _ T.TN.out (by ((rfl))) (by ((exact T.one_ones rfl))) (by (((simp only [List.length_append, List.length_map, List.length_replicate, List.length_cons, List.length_nil, encs_length, *]; omega)))) rfl ?_; clear hM; intro wld hM))) | ((with_reducible show T.OW _ ⟨_, .buildSlice _ _ _, _, _, _, _⟩ _ _ _ _); refine T.op_buildSl _ _ _ rfl _ T.TL.out _ T.TN.out _ T.TZ.out rfl (by decide) (by decide) _ rfl (by (((simp [T.okp, Value.cells, Act.eval, *]; done)))) _ rfl hM ?_; (try simp only [List.map_toArray, List.map_cons, List.map_nil, Act.eval, Array.getD_eq_getD_getElem?, List.toList_toArray, List.getElem?_toArray, List.getElem?_cons_zero, List.getElem?_cons_succ, Option.getD_some, T.segs, List.replicate_succ, List.replicate_zero, List.set_cons_zero, List.set_cons_succ, Value.cells, List.flatten_cons, List.flatten_nil, List.append_nil, List.cons_append, List.nil_append]); clear hM; intro blk wld hM hlt)); (try simp only [Act.put, List.setIfInBounds_toArray, List.set_cons_zero, List.set_cons_succ])) | ((with_reducible show T.Seq _ _ _ _ _ _ _); first | ((with_reducible show T.Seq _ _ _ (.p _ _) _ _ _); first | (apply T.sq_p rfl rfl; (focus intro wS; ((go_simp; with_reducible rfl))); (try simp only [Act.put, List.setIfInBounds_toArray, List.set_cons_zero, List.set_cons_succ])) | (apply T.sq_p rfl rfl; (focus intro wS; exact T.x_build rfl inferInstance rfl (by (((simp [T.okp, Value.cells, Act.eval, *]; done)))) rfl); (try simp only [Act.put, List.setIfInBounds_toArray, List.set_cons_zero, List.set_cons_succ]); (try simp only [List.map_toArray, List.map_cons, List.map_nil, Act.eval, Array.getD_eq_getD_getElem?, List.toList_toArray, List.getElem?_toArray, List.getElem?_cons_zero, List.getElem?_cons_succ, Option.getD_some, T.segs, List.replicate_succ, List.replicate_zero, List.set_cons_zero, List.set_cons_succ, Value.cells, List.flatten_cons, List.flatten_nil, List.append_nil, List.cons_append, List.nil_append]))) | ((with_reducible show T.Seq _ _ _ (.t _ _) _ _ _); ((apply T.sq_t rfl rfl; (focus intro wS hS; first | exact T.x_load rfl rfl T.Fd.out T.TS.out rfl hS | exact T.x_load rfl rfl (by repeat (first | exact List.mem_append.2 (.inr HM2.out) | apply List.Mem.tail)) T.TS.out rfl hS | exact T.x_slRow rfl rfl (hS.slin HS0.out) T.TU.out T.TN.out HH.out hxl | exact T.x_slCell2 rfl rfl (hS.slin HS0.out) T.TS.out HV.out); (try simp only [Act.put, List.setIfInBounds_toArray, List.set_cons_zero, List.set_cons_succ])))) | ((with_reducible show T.Seq _ _ _ .nil _ _ _); refine T.sq_nil ?_) | ((with_reducible show T.Seq _ _ _ (.a _ _) _ _ _); refine T.sq_a rfl rfl (fun K hK => ?_)) | ((with_reducible show T.Seq _ _ _ (.z _ _) _ _ _); refine T.sq_z rfl rfl (fun K hK => ?_))) | (go_at_K; refine hK.out _ _ _ (hM.drop (by (repeat (first | exact List.Sublist.refl _ | apply List.Sublist.cons)))) (List.Sublist.refl _) ?_; clear hK K; (try simp only [Act.put, List.setIfInBounds_toArray, List.set_cons_zero, List.set_cons_succ])) | (go_at_K; refine hK.out _ _ _ hM ?_; clear hK K) | ((with_reducible show T.OW _ ⟨_, .call _, _, _, _, _⟩ _ _ _ _); refine T.OW.mk ?_; go_simp) | (go_step) | ((fail_if_success (with_reducible show T.Seq _ _ _ _ _ _ _)); (fail_if_success (with_reducible show T.OW _ _ _ _ _ _)); simp only [Int.not_lt, Int.not_le] at *; go_simp))
      go_roundg (np - i)
      case measure => omega
      case rel =>
        have hM2 : T.Mem w0 none _ (.g (.slice Ag x.ids.length cg) 44 32 x.ids.length (T.rc T.u8s x.ids) :: .g (.slice Aw (i + 1) cw) 53 136 (i + 1) (T.rc T.PartV.cells ps ++ (x.h.cells ++ [.slice Ag x.ids.length cg])) :: .b b3 27 [.int .i64 m, .int .i64 k, .slice Aw (i + 1) cw] :: .b b2 27 [.int .i64 0, .int .i64 0, T.nilS] :: (ps.map T.PartV.item ++ L)) := hM.drop (.cons _ (List.Sublist.refl _))
        refine ⟨i + 1, Aw, cw, ps ++ [⟨x.h, .slice Ag x.ids.length cg, x.ids⟩], (by (go_num)), by omega, by omega, by rw [List.length_append, HPSL.out]; rfl, ?_, ?_, ⟨?_⟩⟩
        · have h := HPO.out
          unfold T.partsOf at h ⊢
          rw [HTK.out, List.map_append, List.map_append, h]
          simp only [List.map_cons, List.map_nil, Int.toNat_natCast, HGD.out]
        · intro y hy
          rcases List.mem_append.1 hy with hy | hy
          · exact HPK.out y hy
          · rw [List.mem_singleton.1 hy]
            exact ⟨kx, HX.out.nums, HX.out.kids, HX.out.n, rfl⟩
        · rw [T.rc_app, T.rc_one, List.map_append, List.append_assoc]
          exact hM2.perm (List.perm_middle (l₁ := .g (.slice Aw (i + 1) cw) 53 136 (i + 1) (T.rc T.PartV.cells ps ++ (x.h.cells ++ [.slice Ag x.ids.length cg])) :: .b b3 27 [.int .i64 m, .int .i64 k, .slice Aw (i + 1) cw] :: .b b2 27 [.int .i64 0, .int .i64 0, T.nilS] :: ps.map T.PartV.item) (l₂ := L) (a := .g (.slice Ag x.ids.length cg) 44 32 x.ids.length (T.rc T.u8s x.ids))).symm
    · have hiN : i = np := by omega
      have hltz : ¬ (i : Int) < (np : Int) := by omega
      have cb : decide ((i : Int) < (np : Int)) = false := decide_eq_false hltz
      repeat' (first | ((((((with_reducible show wpList _ _ _ _ _ _); (refine T.w_o rfl ?_)))); first | ((with_reducible show T.OW _ ⟨_, .load _ _, _, _, _, _⟩ _ _ _ _); ((refine T.ofx (T.x_loadAll rfl rfl T.Fd.out T.TU.out T.TN.out (by ((rfl))) hM) ?_))) | ((with_reducible show T.OW _ ⟨_, .store _ _ _, _, _, _, _⟩ _ _ _ _); ((refine T.op_storeAll _ _ _ rfl _ rfl _ rfl _ _ hM (by (repeat (first | exact T.Sub.head _ | apply T.Sub.tail))) _ T.TN.out (by ((rfl))) (by ((exact T.ones_all rfl))) (by ((with_reducible assumption))) ?_; clear hM; intro wld hM)))); (try simp only [Act.put, List.setIfInBounds_toArray, List.set_cons_zero, List.set_cons_succ])) | (go_step) | ((fail_if_success (with_reducible show T.Seq _ _ _ _ _ _ _)); (fail_if_success (with_reducible show T.OW _ _ _ _ _ _)); simp only [Int.not_lt, Int.not_le] at *; go_simp))
      (refine T.ret_cell rfl rfl _ rfl _ _ hM T.Fd.out T.TU.out _ T.TN.out (by ((rfl))) ?_)
      subst hP
      refine ⟨_, ps, rfl, ?_, HPK.out, ?_⟩
      · have h := HPO.out
        rwa [hiN, ← HNP.out, List.take_length] at h
      · rw [HPSL.out]
        exact hM.drop (.cons_cons _ (.cons _ (.cons _ (List.Sublist.refl _))))
theorem T.places_in (l : List T.BlkV) (m : Int) (k : Nat) (hk : k < l.length) : ∀ x ∈ T.places l m k, 0 ≤ x ∧ x < l.length := by
  intro x hx
  rcases List.mem_append.1 hx with hx | hx
  · unfold S.prefZ at hx
    split at hx
    · have := S.takenL_mem.1 hx
      rw [T.levels_len] at this
      exact ⟨this.1, this.2.1⟩
    · cases hx
  · obtain ⟨i, hi, rfl⟩ := List.mem_map.1 hx
    have := List.mem_range.1 hi
    omega
theorem T.places_len (l : List T.BlkV) (m : Int) (k : Nat) (hk : k ≤ 20) : (T.places l m k).length ≤ 1000000 := by
  rw [T.places, List.length_append, T.lastK_len]
  have : (S.prefZ (T.levels l) m k).1.length ≤ 200 := by
    unfold S.prefZ
    split
    · rename_i h
      exact Nat.le_trans (Nat.le_trans (List.length_filter_le _ _) (S.upFrom_len _ _ _ _ _)) (S.mayB_parts (S.okB_parts h).1).2.1
    · exact Nat.zero_le _
  omega
theorem T.Mem.up {w0 w : World} {F : Option Nat} {M : List T.Blk} {x p q a : T.Blk} (h : T.Mem w0 F w (x :: (M ++ [p, q, a]))) : T.Mem w0 F w (a :: x :: M) := by
  have h2 : T.Mem w0 F w ((x :: M) ++ [a]) := h.drop (.cons_cons _ (List.Sublist.append (List.Sublist.refl _) (.cons _ (.cons _ (List.Sublist.refl _)))))
  exact h2.perm (List.perm_append_singleton _ _)
def T.WBuild (l : List T.BlkV) (m k : Int) (w : World) (e : Ending) (w' : World) : Prop :=
  (∃ err : Int, err ≠ 0 ∧ e = .returned (.tuple #[.agg #[.int .i64 0, .int .i64 0, T.nilS], .int .i64 err]) ∧ Below w.heap.size w w' ∧ ¬ (T.good2 l ∧ T.rangeMK l.length m k)) ∨
  (T.goodL l ∧ T.rangeMK l.length m k ∧ ∃ (A : Option Addr) (c : Nat) (ps : List T.PartV), e = .returned (.tuple #[.agg #[.int .i64 m, .int .i64 k, .slice A ps.length c], .int .i64 0]) ∧ T.partsOf l (T.places l m k.toNat) ps ∧ (∀ p ∈ ps, p.ok) ∧
    T.Mem w none w' (.g (.slice A ps.length c) 53 136 ps.length (T.rc T.PartV.cells ps) :: ps.map T.PartV.item))
theorem T.build_calls (l : List T.BlkV) (v : Value) (m k : Int) (w : World) (hl : T.BlksAt w v l) : Calls Tryz.prog 6 #[v, .int .i64 m, .int .i64 k] w (T.WBuild l m k w) := by
  have hM := T.Mem.start w
  obtain ⟨A, c, rfl, _⟩ := id hl.s
  have HL := Aside0.mk hl
  clear hl
  generalize hP : T.WBuild l m k w = Post
  have hz3 : [Value.int .i64 0, Value.int .i64 0, T.nilS].length = 3 := rfl
  go_enter Tryz.func6, Tryz.ntmps6
  repeat' (first | (go_at_call 16; refine (T.start_calls l A l.length c rfl m k _ (HL.out.kept hM.below)).mono ?_; rintro _ w2 (⟨err, hne, rfl, hbc, hnc⟩ | ⟨hg, hr, bp, vv, pv, rfl, hM2⟩); (case' inl => (replace hM := hM.call hbc; (obtain ⟨q1, q2⟩ := T.err2 _ hne); have HNE := Aside0.mk hne; have HNC := Aside0.mk hnc; clear hbc hne hnc)); (case' inr => ((obtain ⟨Ap, cp, rfl, _⟩ := hM2.gsl (.head _)); replace hM := hM.join hM2; clear hM2; simp only [List.cons_append, List.nil_append] at hM; have HG := Aside0.mk hg; have HR := Aside0.mk hr; clear hg hr))) | (go_at_call 17; refine (T.proof_calls l A l.length c rfl HL.out m k vv (T.places l m k.toNat) _ rfl (T.places_in l m k.toNat (by have := HR.out.2.2.2.2; have := HR.out.2.2.1; omega)) (T.places_len l m k.toNat (by have := HR.out.2.2.2.1; omega)) Ap cp bp hM (.head _) (.tail _ (.head _))).mono ?_; rintro _ w3 ⟨v, ps, rfl, hpo, hpk, hM3⟩; (obtain ⟨Av, cv, rfl, _⟩ := hM3.gsl (.head _)); clear hM; have hM := hM3.up; clear hM3; have HPO := Aside0.mk hpo; have HPK := Aside0.mk hpk; clear hpo hpk) | ((((((with_reducible show wpList _ _ _ _ _ _); (refine T.w_o rfl ?_)))); first | ((with_reducible show T.OW _ ⟨_, .store _ _ _, _, _, _, _⟩ _ _ _ _); ((refine T.op_storeAll _ _ _ rfl _ rfl _ rfl _ _ hM (by (repeat ((exact T.Sub.head _)))) _ T.TN.out (by (first | with_reducible assumption | rfl)) (by ((exact T.ones_all rfl))) (by ((with_reducible assumption))) ?_; clear hM; intro wld hM))) | ((with_reducible show T.OW _ ⟨_, .alloc _, _, _, _, _⟩ _ _ _ _); refine T.op_alloc _ rfl _ T.TZ.out hM ?_; clear hM; intro blk wld hM hlt) | ((with_reducible show T.OW _ ⟨_, .build _ _, _, _, _, _⟩ _ _ _ _); ((refine T.ofx (T.x_buildS0 rfl inferInstance inferInstance rfl) ?_)))); (try simp only [Act.put, List.setIfInBounds_toArray, List.set_cons_zero, List.set_cons_succ])) | (go_step) | ((fail_if_success (with_reducible show T.Seq _ _ _ _ _ _ _)); (fail_if_success (with_reducible show T.OW _ _ _ _ _ _)); simp only [Int.not_lt, Int.not_le] at *; go_simp))
  all_goals (refine T.ret_ct rfl rfl _ rfl _ rfl _ _ hM T.Fd.out T.TU.out _ T.TN.out (by (first | with_reducible assumption | rfl)) ?_)
  all_goals subst hP
  all_goals first | exact .inl ⟨err, HNE.out, rfl, hM.below, HNC.out⟩ | exact .inr ⟨HG.out, HR.out, Av, cv, ps, rfl, HPO.out, HPK.out, hM.drop (.cons _ (List.Sublist.refl _))⟩
def T.plevels (ps : List T.PartV) : List Int := ps.map fun p => T.hlevel p.h
theorem T.plevels_snoc (l : List T.PartV) (i : Nat) (h : i < l.length) : encs (Value.int .i64) (T.plevels (l.take i)) ++ [Value.int .i64 (T.hlevel (l[i]).h)] = encs (Value.int .i64) (T.plevels (l.take (i + 1))) := by
  rw [List.take_succ_eq_append_getElem h, T.plevels, T.plevels, List.map_append, encs, encs, List.map_append]
  rfl
theorem T.cklevels_calls (ps : List T.PartV) (kp : ∀ p ∈ ps, p.ok) (hb : ps.length ≤ 1000000) (m k : Int) (v : Value) (w : World) (hS : T.Sl w v ps.length (T.rc T.PartV.cells ps)) : Calls Tryz.prog 8 #[.agg #[.int .i64 m, .int .i64 k, v]] w (T.EG 3 1 ps.length (encs (Value.int .i64) (T.plevels ps)) w) := by
  have hM := T.Mem.start w
  obtain ⟨A, cc, hv, _, _, _⟩ := id hS
  subst hv
  have HS := Aside0.mk hS
  have HK := Aside0.mk kp
  have HB := Aside0.mk hb
  clear hS kp hb
  generalize hP : T.EG 3 1 ps.length (encs (Value.int .i64) (T.plevels ps)) w = Post
  go_enter Tryz.func8, Tryz.ntmps8
  repeat' (first | ((((((with_reducible show wpList _ _ _ _ _ _); (refine T.w_o rfl ?_)))); first | ((with_reducible show T.OW _ ⟨_, .load _ _, _, _, _, _⟩ _ _ _ _); ((refine T.ofx (T.x_load rfl rfl T.Fd.out T.TS.out rfl hM) ?_))) | ((with_reducible show T.OW _ ⟨_, .box _ _, _, _, _, _⟩ _ _ _ _); refine T.op_box _ _ rfl _ rfl hM ?_; clear hM; intro blk wld hM hlt)); (try simp only [Act.put, List.setIfInBounds_toArray, List.set_cons_zero, List.set_cons_succ])) | (go_step))
  go_loopg [3, 9] (ps.length + 1) (fun kq v3 v9 Wd => ∃ i : Nat, v9 = .int .i64 i ∧ i ≤ ps.length ∧ ps.length - i < kq ∧ Aside0 (T.Mem w none Wd [.g v3 3 1 i (encs (Value.int .i64) (T.plevels (ps.take i)))]))
  case atStart => exact ⟨0, rfl, by omega, by omega, ⟨(hM.nil 3 1).drop (by (repeat (first | exact List.Sublist.refl _ | apply List.Sublist.cons_cons | apply List.Sublist.cons)))⟩⟩
  case round =>
    clear hM
    obtain ⟨i, rfl, hi, hg, hMo⟩ := hrel
    have hM := hMo.out
    clear hMo
    by_cases hlt : i < ps.length
    · have hltz : (i : Int) < (ps.length : Int) := by omega
      have cb : decide ((i : Int) < (ps.length : Int)) = true := decide_eq_true hltz
      have hi0 : (0 : Int) ≤ (i : Int) := by omega
      obtain ⟨b, o, rfl⟩ := HS.out.adr (by omega)
      have H1 := Aside0.mk (T.rc_at (enc := T.PartV.cells) (k := 136) (fun y hy => y.len (HK.out y hy).h) i hlt)
      have hsn := Aside0.mk (T.plevels_snoc ps i hlt)
      have kx := HK.out _ (List.getElem_mem hlt)
      generalize ps[i] = x at *
      have hx2 : x.cells.length = 136 := x.len kx.h
      have hxo := x.ones kx.s
      have hz136 : (T.Head.zero.cells ++ [T.nilS]).length = 136 := rfl
      have hhl := x.h.len kx.h
      have hh : (x.cells.drop 0).take 135 = x.h.cells := by rw [List.drop_zero, T.PartV.cells, ← hhl, List.take_left]
      have hib := HB.out
      repeat' (first | (go_at_call 20; refine (T.hlevel_calls _ kx.h kx.n _).mono ?_; rintro _ _ ⟨rfl, hbc⟩; replace hM := hM.call hbc; clear hbc) | ((((((with_reducible show wpList _ _ _ _ _ _); (refine T.w_o rfl ?_)))); first | ((with_reducible show T.OW _ ⟨_, .load _ _, _, _, _, _⟩ _ _ _ _); first | (refine T.ofx (T.x_slRow rfl rfl (hM.slin HS.out) T.TU.out T.TN.out H1.out hx2) ?_) | (refine T.ofx (T.x_loadAgg rfl rfl T.Fd.out T.TU.out T.TN.out (by ((omega))) hh hM) ?_)) | ((with_reducible show T.OW _ ⟨_, .store _ _ _, _, _, _, _⟩ _ _ _ _); ((refine T.op_storeAll _ _ _ rfl _ rfl _ rfl _ _ hM (by (repeat ((exact T.Sub.head _)))) _ T.TN.out (by ((with_reducible assumption))) (by ((with_reducible assumption))) (by ((with_reducible assumption))) ?_; clear hM; intro wld hM))) | ((with_reducible show T.OW _ ⟨_, .alloc _, _, _, _, _⟩ _ _ _ _); refine T.op_alloc _ rfl _ T.TZ.out hM ?_; clear hM; intro blk wld hM hlt) | ((with_reducible show T.OW _ ⟨_, .call ⟨.builtin .append, _, _⟩, _, _, _, _⟩ _ _ _ _); refine T.op_app _ _ _ rfl _ _ _ T.TE.out _ _ _ rfl _ _ _ hM (fun _ => by (repeat (first | exact T.Sub.head _ | apply T.Sub.tail))) (by (exact T.Mem.slB hM T.Fd.out (by ((exact T.one_ones rfl))) (by decide))) (by ((rfl))) (by decide) (by decide) (by ((omega))) ?_; clear hM; intro gsv wld hM) | ((with_reducible show T.OW _ ⟨_, .buildSlice _ _ _, _, _, _, _⟩ _ _ _ _); refine T.op_buildSl _ _ _ rfl _ T.TL.out _ T.TN.out _ T.TZ.out rfl (by decide) (by decide) _ rfl (by (((simp [T.okp, Value.cells, Act.eval, *]; done)))) _ rfl hM ?_; (try simp only [List.map_toArray, List.map_cons, List.map_nil, Act.eval, Array.getD_eq_getD_getElem?, List.toList_toArray, List.getElem?_toArray, List.getElem?_cons_zero, List.getElem?_cons_succ, Option.getD_some, T.segs, List.replicate_succ, List.replicate_zero, List.set_cons_zero, List.set_cons_succ, Value.cells, List.flatten_cons, List.flatten_nil, List.append_nil, List.cons_append, List.nil_append]); clear hM; intro blk wld hM hlt)); (try simp only [Act.put, List.setIfInBounds_toArray, List.set_cons_zero, List.set_cons_succ])) | (go_step) | ((fail_if_success (with_reducible show T.Seq _ _ _ _ _ _ _)); (fail_if_success (with_reducible show T.OW _ _ _ _ _ _)); simp only [Int.not_lt, Int.not_le] at *; go_simp))
      go_roundg (ps.length - i)
      case measure => omega
      case rel => exact ⟨i + 1, (by (go_num)), by omega, by omega, ⟨by rw [← hsn.out]; exact hM.drop (by (repeat (first | exact List.Sublist.refl _ | apply List.Sublist.cons)))⟩⟩
    · have hiN : i = ps.length := by omega
      have hltz : ¬ (i : Int) < (ps.length : Int) := by omega
      have cb : decide ((i : Int) < (ps.length : Int)) = false := decide_eq_false hltz
      repeat' (first | (go_step) | go_back | ((fail_if_success (with_reducible show T.Seq _ _ _ _ _ _ _)); (fail_if_success (with_reducible show T.OW _ _ _ _ _ _)); simp only [Int.not_lt, Int.not_le] at *; go_simp))
      subst hP
      have hE := hM.eg List.mem_cons_self
      rw [hiN, List.take_length] at hE
      exact hE
theorem T.must_calls (w : World) : Calls Tryz.prog 45 #[.bool true] w (T.E (.tuple #[]) w) := by
  have hM := T.Mem.start w
  generalize hP : T.E (.tuple #[]) w = Post
  go_enter Tryz.func45, Tryz.ntmps45
  repeat' (((go_step)))
  (refine bodyPost_ret (results_none rfl _ _ _) rfl ?_)
  subst hP
  exact ⟨rfl, hM.below⟩
theorem T.fin_idle (p : Addr) (w : World) : CallsD Tryz.prog 43 #[.pointer (some p)] .returning w fun e u' w' => e = .returned (.tuple #[]) ∧ u' = .returning ∧ w' = w := by
  refine callsD_of_wpS Tryz.func43 rfl fun c₀ cs hu => ?_
  apply wpS_seq
  apply wpS_region
  simp [wpOpsS, go_sem, recoverD, hu, Tryz.ntmps43, Exit.thenS]
  apply wpS_seq
  apply wpS_region
  simp [wpOpsS, go_sem, recoverD, hu, Tryz.ntmps43, Exit.thenS]
  refine wpS_cond (t := false) (by simp [Act.eval, Array.replicate]) ?_
  simp only [Bool.false_eq_true, if_false]
  refine wpS_of_wp (wp_skip ?_)
  cases c₀
  simp_all [bodyPostS, results, Tryz.results43]
theorem T.fine_calls {X : Type} {w0 w : World} {L : List T.Blk} (g : Nat) (cb : Array Value) (eg : ∀ args w, (callFunc g args).run Tryz.prog w = .ok (.enter g args) w) (L' : X → List T.Blk) (p : X → Prop) (hM : T.Mem w0 none w L)
    (hg : ∀ W b2, T.Mem w0 none W (.b b2 4 [.bool false] :: L) → Calls Tryz.prog g cb W fun e w' => e = .returned (.tuple #[]) ∧ ∃ x, p x ∧ T.Mem w0 none w' (.b b2 4 [.bool false] :: L' x)) :
    Calls Tryz.prog 23 #[.func (.func g) #[] cb] w fun e w' => e = .returned (.bool true) ∧ ∃ x, p x ∧ T.Mem w0 none w' (L' x) := by
  have hmf : ∀ (fn : Fn) (first cap : Array Value) (w : World), (Instr.makeFunc fn first cap).run Tryz.prog w = .ok (.func fn first cap) w := fun _ _ _ _ => rfl
  have HG := Aside0.mk hg
  clear hg
  generalize hP : (fun (e : Ending) w' => e = .returned (.bool true) ∧ ∃ x, p x ∧ T.Mem w0 none w' (L' x)) = Post
  go_enter_defers Tryz.func23, Tryz.ntmps23
  repeat' (first | (refine (HG.out _ _ hM).mono ?_; rintro _ w2 ⟨rfl, x, hpx, hM2⟩; clear hM; have hM := hM2; clear hM2) | ((((((with_reducible show wpList _ _ _ _ _ _); (refine T.w_o rfl ?_)))); first | ((with_reducible show T.OW _ ⟨_, .store _ _ _, _, _, _, _⟩ _ _ _ _); ((refine T.op_storeAll _ _ _ rfl _ rfl _ rfl _ _ hM (by (repeat ((exact T.Sub.head _)))) _ T.TN.out (by ((rfl))) (by ((exact T.one_ones rfl))) (by ((rfl))) ?_; clear hM; intro wld hM))) | ((with_reducible show T.OW _ ⟨_, .alloc _, _, _, _, _⟩ _ _ _ _); refine T.op_alloc _ rfl _ T.TZ.out hM ?_; clear hM; intro blk wld hM hlt)); (try simp only [Act.put, List.setIfInBounds_toArray, List.set_cons_zero, List.set_cons_succ])) | (go_step) | ((fail_if_success (with_reducible show T.Seq _ _ _ _ _ _ _)); (fail_if_success (with_reducible show T.OW _ _ _ _ _ _)); simp only [Int.not_lt, Int.not_le] at *; go_simp))
  obtain ⟨b2, rfl⟩ := T.n1 hM
  have hM2 : T.Mem w0 none _ (.b b2 4 [.bool true] :: L' x) := hM
  have hc := T.cell_at (o := 0) hM2 (.head _) rfl
  clear hM
  refine leaves_cons (f := 43) (args := #[.pointer (some ⟨b2, 0, none⟩)]) (by simp) (by simp [go_sem]) ?_
  refine (T.fin_idle _ _).mono ?_
  rintro e u' w'' ⟨rfl, rfl, rfl⟩
  subst hP
  refine ⟨.bool true, ?_, rfl, x, hpx, hM2.drop (.cons _ (List.Sublist.refl _))⟩
  simp [results, Tryz.results23, go_sem, hc]
end Go.Proofs.YtdklknfgcepcbaaGreat.X
