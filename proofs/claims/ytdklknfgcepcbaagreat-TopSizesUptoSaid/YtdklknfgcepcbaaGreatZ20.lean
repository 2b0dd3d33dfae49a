/- Texts of this proof, laid together by wip/tools/pack.py: TJ2, TJ3, TJ4, TJ5, TJ6. -/
import Derived.Test.YtdklknfgcepcbaaGreatZ19
namespace Go.Proofs.YtdklknfgcepcbaaGreat.X
open Go.RowKit Go.Proofs.YtdklknfgcepcbaaGreatW.PrintWords Go.Proofs.YtdklknfgcepcbaaGreatW.PrintLast Go.Proofs.YtdklknfgcepcbaaGreatW.PrintMore
set_option linter.unusedSimpArgs false
set_option linter.unusedVariables false
set_option maxHeartbeats 2000000
set_option maxRecDepth 20000
def T.lnext (l : List (List Int)) (id : List Int) (level : Int) : List (List Int) :=
  if 32 < l.length then [] else if l.length = 0 then [id] else if level < 1 then l else
    if level.toNat + 1 < l.length then (l.take 1 ++ List.replicate level.toNat id) ++ l.drop (level.toNat + 1) else l.take 1 ++ List.replicate level.toNat id
theorem T.lnext_ok (l : List (List Int)) (id : List Int) (level : Int) (k : T.okn 32 l) (hid : id.length = 32) : T.okn 32 (T.lnext l id level) := by
  have hr : T.okn 32 (List.replicate level.toNat id) := fun x hx => by rw [(List.mem_replicate.1 hx).2]; exact hid
  unfold T.lnext
  split
  · exact fun x hx => (List.not_mem_nil hx).elim
  · split
    · intro x hx; rw [List.mem_singleton.1 hx]; exact hid
    · split
      · exact k
      · split
        · exact T.okn_app (T.okn_app (T.okn_take k 1) hr) (T.okn_drop k _)
        · exact T.okn_app (T.okn_take k 1) hr
theorem T.lnext_len (l : List (List Int)) (id : List Int) (level : Int) (h31 : level ≤ 31) : (T.lnext l id level).length ≤ 32 := by
  unfold T.lnext
  split
  · simp
  · split
    · simp
    · split
      · omega
      · split
        · simp only [List.length_append, List.length_take, List.length_replicate, List.length_drop]; omega
        · simp only [List.length_append, List.length_take, List.length_replicate]; omega
theorem T.lnext_calls (l : List (List Int)) (k : T.okn 32 l) (hn : l.length ≤ 1000000) (id : List Int) (hid : id.length = 32) (level : Int) (h0 : -1 ≤ level) (h31 : level ≤ 31) (v : Value) (w : World) (hS : T.Sl w v l.length (T.rc T.u8s l)) :
    Calls Tryz.prog 123 #[v, .agg (T.u8s id).toArray, .int .i64 level] w (T.EG 44 32 (T.lnext l id level).length (T.rc T.u8s (T.lnext l id level)) w) := by
  have hM := T.Mem.start w
  obtain ⟨A, cc, hv, _, _, _⟩ := _root_.id hS
  rw [hv] at hS ⊢
  have hcc := hS.cap
  have HS := Aside0.mk hS
  have HK := Aside0.mk k
  have hidl : (T.u8s id).length = 32 := by rw [encs_length]; exact hid
  have hido := T.ones_encs .u8 id
  have hz0 : (T.u8s T.z32).length = 32 := by rw [encs_length]; rfl
  clear hS hv
  generalize hP : T.EG 44 32 (T.lnext l id level).length (T.rc T.u8s (T.lnext l id level)) w = Post
  by_cases c1 : 32 < l.length
  · have d1 : decide ((32 : Int) < (l.length : Int)) = true := decide_eq_true (by omega)
    go_enter Tryz.func123, Tryz.ntmps123
    repeat' (first | ((((((with_reducible show wpList _ _ _ _ _ _); (refine T.w_o rfl ?_)))); (((with_reducible show T.OW _ ⟨_, .box _ _, _, _, _, _⟩ _ _ _ _); refine T.op_box _ _ rfl _ rfl hM ?_; clear hM; intro blk wld hM hlt))); (try simp only [Act.put, List.setIfInBounds_toArray, List.set_cons_zero, List.set_cons_succ])) | (go_step) | go_back)
    subst hP
    rw [T.lnext, if_pos c1]
    exact (hM.nil 44 32).eg List.mem_cons_self
  · have d1 : decide ((32 : Int) < (l.length : Int)) = false := decide_eq_false (by omega)
    by_cases c2 : l.length = 0
    · have e0 : l = [] := List.eq_nil_of_length_eq_zero c2
      go_enter Tryz.func123, Tryz.ntmps123
      subst e0
      repeat' (first | ((((((with_reducible show wpList _ _ _ _ _ _); (refine T.w_o rfl ?_)))); first | ((with_reducible show T.OW _ ⟨_, .load _ _, _, _, _, _⟩ _ _ _ _); ((refine T.ofx (T.x_loadAll rfl rfl T.Fd.out T.TU.out T.TN.out (by ((with_reducible assumption))) hM) ?_))) | ((with_reducible show T.OW _ ⟨_, .box _ _, _, _, _, _⟩ _ _ _ _); refine T.op_box _ _ rfl _ rfl hM ?_; clear hM; intro blk wld hM hlt) | ((with_reducible show T.OW _ ⟨_, .buildSlice _ _ _, _, _, _, _⟩ _ _ _ _); refine T.op_buildSl _ _ _ rfl _ T.TL.out _ T.TN.out _ T.TZ.out rfl (by decide) (by decide) _ rfl (by (((simp [T.okp, Value.cells, Act.eval, *]; done)))) _ rfl hM ?_; (try simp only [List.map_toArray, List.map_cons, List.map_nil, Act.eval, Array.getD_eq_getD_getElem?, List.toList_toArray, List.getElem?_toArray, List.getElem?_cons_zero, List.getElem?_cons_succ, Option.getD_some, T.segs, List.replicate_succ, List.replicate_zero, List.set_cons_zero, List.set_cons_succ, Value.cells, List.flatten_cons, List.flatten_nil, List.append_nil, List.cons_append, List.nil_append]); clear hM; intro blk wld hM hlt)); (try simp only [Act.put, List.setIfInBounds_toArray, List.set_cons_zero, List.set_cons_succ])) | (go_step) | go_back)
      subst hP
      rw [T.lnext, if_neg c1, if_pos c2, T.rc_one]
      exact hM.egB T.Fd.out (by assumption) (by rw [encs_length]; exact hid) (by simp [maxLen]) (T.ones_encs _ _)
    · have d2 : decide ((l.length : Int) = 0) = false := decide_eq_false (by omega)
      by_cases c3 : level < 1
      · have d3 : decide (level < 1) = true := decide_eq_true c3
        have hlc : (T.rc T.u8s l).length = l.length * 32 := T.rc_len (fun x hx => by rw [encs_length]; exact k x hx)
        have hnn : l.length ≤ 100000000 := by omega
        have HNN := Aside0.mk hnn
        clear hnn hn
        go_enter Tryz.func123, Tryz.ntmps123
        repeat' (first | (go_at_call 38; refine (T.cloneId _ _ _ _ (hM.slin HS.out) hlc HNN.out).mono ?_; rintro _ wr ⟨v, rfl, ho, h1, hbc⟩; (obtain ⟨Ag, cg, rfl⟩ := T.own_slice ho); replace hM := hM.callG hbc ho h1; clear hbc ho h1) | ((((((with_reducible show wpList _ _ _ _ _ _); (refine T.w_o rfl ?_)))); (((with_reducible show T.OW _ ⟨_, .box _ _, _, _, _, _⟩ _ _ _ _); refine T.op_box _ _ rfl _ rfl hM ?_; clear hM; intro blk wld hM hlt))); (try simp only [Act.put, List.setIfInBounds_toArray, List.set_cons_zero, List.set_cons_succ])) | (go_step) | go_back | ((fail_if_success (with_reducible show T.Seq _ _ _ _ _ _ _)); (fail_if_success (with_reducible show T.OW _ _ _ _ _ _)); simp only [Int.not_lt, Int.not_le] at *; go_simp))
        subst hP
        rw [T.lnext, if_neg c1, if_neg c2, if_pos c3]
        exact hM.eg List.mem_cons_self
      · have d3 : decide (level < 1) = false := decide_eq_false c3
        obtain ⟨c, rfl⟩ : ∃ c : Nat, level = (c : Int) := ⟨level.toNat, by omega⟩
        have hc1 : 1 ≤ c := by omega
        have hc31 : c ≤ 31 := by omega
        obtain ⟨p, hp⟩ : ∃ p : Nat, p = c + 1 := ⟨_, rfl⟩
        have e1 : IntKind.i64.wrap ((c : Int) + 1) = (p : Int) := by rw [T.w64 (by omega) (by omega)]; omega
        have e2 : IntKind.i64.wrap ((p : Int) - 1) = (c : Int) := by rw [T.w64 (by omega) (by omega)]; omega
        have ip : (0 : Int) ≤ (p : Int) := by omega
        have dm : min (c : Int) 31 = (c : Int) := by omega
        obtain ⟨b, o, rfl⟩ := HS.out.adr (by omega)
        have i1 : (1 : Int) ≤ (cc : Int) := by omega
        have l1 : (l.take 1).length = 1 := by rw [List.length_take]; omega
        have s1 := HS.out.lo (i := 1) (k := 32) (by omega)
        rw [T.rc_take (fun x hx => by rw [encs_length]; exact k x hx)] at s1
        have S1 := Aside0.mk s1
        have hrk : T.okn 32 (List.replicate c id) := fun x hx => by rw [(List.mem_replicate.1 hx).2]; exact hid
        have hrl : (List.replicate c id).length = c := List.length_replicate
        have hlt : (l.take 1 ++ List.replicate c id).length = c + 1 := by rw [List.length_append, l1, hrl]; omega
        have HC := Aside0.mk (show 1 ≤ c ∧ c ≤ 31 from ⟨hc1, hc31⟩)
        have hlb : (l.take 1 ++ List.replicate c id).length ≤ 1000000 := by rw [hlt]; omega
        have HPP := Aside0.mk hp
        have HN := Aside0.mk hn
        clear s1 hc1 hc31 hn
        by_cases c4 : c + 1 < l.length
        · have d4 : decide (p < l.length) = true := decide_eq_true (by omega)
          have ip2 : (p : Int) ≤ (l.length : Int) := by omega
          have ip3 : (p : Int) ≤ (cc : Int) := by omega
          have hcp : ¬ cc = p := by omega
          have s2 := HS.out.hi (i := p) (k := 32)
          rw [T.rc_drop (fun x hx => by rw [encs_length]; exact HK.out x hx)] at s2
          have S2 := Aside0.mk s2
          have hdl : (T.rc T.u8s (l.drop p)).length = (l.length - p) * 32 := by rw [T.rc_len (k := 32) (fun x hx => by rw [encs_length]; exact T.okn_drop HK.out p x hx), List.length_drop]
          have hbb : ((l.take 1 ++ List.replicate c id).length + (l.length - p)) * 32 ≤ 70368744177664 := by have := HN.out; omega
          have hfin : T.lnext l id (c : Int) = (l.take 1 ++ List.replicate c id) ++ l.drop p := by
            rw [T.lnext, if_neg c1, if_neg c2, if_neg c3, if_pos (by rw [Int.toNat_natCast]; exact c4), Int.toNat_natCast, hp]
          have hfl : (l.take 1 ++ List.replicate c id ++ l.drop p).length = (l.take 1 ++ List.replicate c id).length + (l.length - p) := by rw [List.length_append, List.length_drop]
          have HFL := Aside0.mk hfl
          have HBB := Aside0.mk hbb
          clear s2 hp hfl hbb
          go_enter Tryz.func123, Tryz.ntmps123
          repeat' (first | ((with_reducible show Code.wp _ (Code.region 8 _ true) _ _ _); refine T.mregion 8 (.p 0 (.p 1 (.t 2 (.p 4 (.p 5 (.a 3 (.a 6 (.a 7 (.a 8 (.p 9 .nil)))))))))) 1000 (by kernel_rfl) (fun _ _ _ _ h => h) hM (List.Sublist.refl _) ?_; clear hM; intro wld hM) | (go_at_call 159; refine (T.repeat_calls id hid c HC.out.1 HC.out.2 _ _ _ _ (hM.slB (n := 1) (c := 1) T.Fd.out hido (Nat.le_refl _))).mono ?_; rintro _ wr ⟨v, rfl, ho, h1, hbc⟩; (obtain ⟨Ag, cg, rfl⟩ := T.own_slice ho); replace hM := hM.callG hbc ho h1; clear hbc ho h1) | (go_at_call 158; refine (T.concatI2 (l.take 1) (List.replicate c id) (T.okn_take HK.out 1) hrk hM T.Fd.out (by rw [l1]; exact hM.slin S1.out) (by rw [hrl]; exact hM.gsl T.Fg.out) hlb).mono ?_; rintro _ wr ⟨v, rfl, ho, h1, hbc⟩; replace hM := hM.callG hbc ho h1; clear hbc ho h1) | ((with_reducible show wpList _ _ _ (⟨_, .call ⟨.builtin .append, _, _⟩, _, _, _, _⟩ :: _) _ _); refine T.w_o rfl ?_; refine T.op_app _ _ _ rfl _ _ _ T.TE.out _ _ _ rfl _ _ _ hM (fun _ => by (repeat ((exact T.Sub.head _)))) (hM.slin S2.out) hdl (by decide) (by decide) HBB.out ?_; clear hM; intro gsv wld hM; (try simp only [Act.put, List.setIfInBounds_toArray, List.set_cons_zero, List.set_cons_succ])) | (((first | ((with_reducible show wpList _ _ _ _ _ _); (refine T.w_o rfl ?_)) | (with_reducible show T.OW _ _ _ _ _ _)); first | ((with_reducible show T.OW _ ⟨_, .box _ _, _, _, _, _⟩ _ _ _ _); refine T.op_box _ _ rfl _ rfl hM ?_; clear hM; intro blk wld hM hlt) | ((with_reducible show T.OW _ ⟨_, .buildSlice _ _ _, _, _, _, _⟩ _ _ _ _); refine T.op_buildSl _ _ _ rfl _ T.TL.out _ T.TN.out _ T.TZ.out rfl (by decide) (by decide) _ rfl (by (((simp [T.okp, Value.cells, Act.eval, *]; done)))) _ rfl hM ?_; (try simp only [List.map_toArray, List.map_cons, List.map_nil, Act.eval, Array.getD_eq_getD_getElem?, List.toList_toArray, List.getElem?_toArray, List.getElem?_cons_zero, List.getElem?_cons_succ, Option.getD_some, T.segs, List.replicate_succ, List.replicate_zero, List.set_cons_zero, List.set_cons_succ, Value.cells, List.flatten_cons, List.flatten_nil, List.append_nil, List.cons_append, List.nil_append]); clear hM; intro blk wld hM hlt)); (try simp only [Act.put, List.setIfInBounds_toArray, List.set_cons_zero, List.set_cons_succ])) | ((with_reducible show T.Seq _ _ _ _ _ _ _); first | ((with_reducible show T.Seq _ _ _ (.p _ _) _ _ _); ((apply T.sq_p rfl rfl; (focus intro wS; ((go_simp; with_reducible rfl))); (try simp only [Act.put, List.setIfInBounds_toArray, List.set_cons_zero, List.set_cons_succ])))) | ((with_reducible show T.Seq _ _ _ (.t _ _) _ _ _); ((apply T.sq_t rfl rfl; (focus intro wS hS; (exact T.x_loadAll rfl rfl T.Fd.out T.TU.out T.TN.out (by ((with_reducible assumption))) hS)); (try simp only [Act.put, List.setIfInBounds_toArray, List.set_cons_zero, List.set_cons_succ])))) | ((with_reducible show T.Seq _ _ _ .nil _ _ _); refine T.sq_nil ?_) | ((with_reducible show T.Seq _ _ _ (.a _ _) _ _ _); refine T.sq_a rfl rfl (fun K hK => ?_))) | (go_at_K; refine hK.out _ _ _ hM (by (repeat (first | exact List.Sublist.refl _ | apply List.Sublist.cons))) ?_; clear hK K) | ((with_reducible show T.OW _ ⟨_, .call _, _, _, _, _⟩ _ _ _ _); refine T.OW.mk ?_; go_simp) | (go_step) | go_back | ((fail_if_success (with_reducible show T.Seq _ _ _ _ _ _ _)); (fail_if_success (with_reducible show T.OW _ _ _ _ _ _)); simp only [Int.not_lt, Int.not_le] at *; go_simp))
          subst hP
          rw [hfin, HFL.out, T.rc_app]
          exact hM.eg List.mem_cons_self
        · have d4 : decide (p < l.length) = false := decide_eq_false (by omega)
          have hfin : T.lnext l id (c : Int) = l.take 1 ++ List.replicate c id := by
            rw [T.lnext, if_neg c1, if_neg c2, if_neg c3, if_neg (by rw [Int.toNat_natCast]; exact c4), Int.toNat_natCast]
          clear hp
          go_enter Tryz.func123, Tryz.ntmps123
          repeat' (first | ((with_reducible show Code.wp _ (Code.region 8 _ true) _ _ _); refine T.mregion 8 (.p 0 (.p 1 (.t 2 (.p 4 (.p 5 (.a 3 (.a 6 (.a 7 (.a 8 (.p 9 .nil)))))))))) 1000 (by kernel_rfl) (fun _ _ _ _ h => h) hM (List.Sublist.refl _) ?_; clear hM; intro wld hM) | (go_at_call 159; refine (T.repeat_calls id hid c HC.out.1 HC.out.2 _ _ _ _ (hM.slB (n := 1) (c := 1) T.Fd.out hido (Nat.le_refl _))).mono ?_; rintro _ wr ⟨v, rfl, ho, h1, hbc⟩; (obtain ⟨Ag, cg, rfl⟩ := T.own_slice ho); replace hM := hM.callG hbc ho h1; clear hbc ho h1) | (go_at_call 158; refine (T.concatI2 (l.take 1) (List.replicate c id) (T.okn_take HK.out 1) hrk hM T.Fd.out (by rw [l1]; exact hM.slin S1.out) (by rw [hrl]; exact hM.gsl T.Fg.out) hlb).mono ?_; rintro _ wr ⟨v, rfl, ho, h1, hbc⟩; replace hM := hM.callG hbc ho h1; clear hbc ho h1) | (((first | ((with_reducible show wpList _ _ _ _ _ _); (refine T.w_o rfl ?_)) | (with_reducible show T.OW _ _ _ _ _ _)); first | ((with_reducible show T.OW _ ⟨_, .box _ _, _, _, _, _⟩ _ _ _ _); refine T.op_box _ _ rfl _ rfl hM ?_; clear hM; intro blk wld hM hlt) | ((with_reducible show T.OW _ ⟨_, .buildSlice _ _ _, _, _, _, _⟩ _ _ _ _); refine T.op_buildSl _ _ _ rfl _ T.TL.out _ T.TN.out _ T.TZ.out rfl (by decide) (by decide) _ rfl (by (((simp [T.okp, Value.cells, Act.eval, *]; done)))) _ rfl hM ?_; (try simp only [List.map_toArray, List.map_cons, List.map_nil, Act.eval, Array.getD_eq_getD_getElem?, List.toList_toArray, List.getElem?_toArray, List.getElem?_cons_zero, List.getElem?_cons_succ, Option.getD_some, T.segs, List.replicate_succ, List.replicate_zero, List.set_cons_zero, List.set_cons_succ, Value.cells, List.flatten_cons, List.flatten_nil, List.append_nil, List.cons_append, List.nil_append]); clear hM; intro blk wld hM hlt)); (try simp only [Act.put, List.setIfInBounds_toArray, List.set_cons_zero, List.set_cons_succ])) | ((with_reducible show T.Seq _ _ _ _ _ _ _); first | ((with_reducible show T.Seq _ _ _ (.p _ _) _ _ _); ((apply T.sq_p rfl rfl; (focus intro wS; ((go_simp; with_reducible rfl))); (try simp only [Act.put, List.setIfInBounds_toArray, List.set_cons_zero, List.set_cons_succ])))) | ((with_reducible show T.Seq _ _ _ (.t _ _) _ _ _); ((apply T.sq_t rfl rfl; (focus intro wS hS; (exact T.x_loadAll rfl rfl T.Fd.out T.TU.out T.TN.out (by ((with_reducible assumption))) hS)); (try simp only [Act.put, List.setIfInBounds_toArray, List.set_cons_zero, List.set_cons_succ])))) | ((with_reducible show T.Seq _ _ _ .nil _ _ _); refine T.sq_nil ?_) | ((with_reducible show T.Seq _ _ _ (.a _ _) _ _ _); refine T.sq_a rfl rfl (fun K hK => ?_))) | (go_at_K; refine hK.out _ _ _ hM (by (repeat (first | exact List.Sublist.refl _ | apply List.Sublist.cons))) ?_; clear hK K) | ((with_reducible show T.OW _ ⟨_, .call _, _, _, _, _⟩ _ _ _ _); refine T.OW.mk ?_; go_simp) | (go_step) | go_back | ((fail_if_success (with_reducible show T.Seq _ _ _ _ _ _ _)); (fail_if_success (with_reducible show T.OW _ _ _ _ _ _)); simp only [Int.not_lt, Int.not_le] at *; go_simp))
          subst hP
          rw [hfin]
          exact hM.eg List.mem_cons_self
theorem T.equalId_calls (l m : List (List Int)) (kl : T.okn 32 l) (km : T.okn 32 m) (hl : l.length ≤ 1000000) (v v2 : Value) (w : World) (hS : T.Sl w v l.length (T.rc T.u8s l)) (hS2 : T.Sl w v2 m.length (T.rc T.u8s m)) : Calls Tryz.prog 105 #[v, v2] w (T.E (.bool (decide (l = m))) w) := by
  have hM := T.Mem.start w
  obtain ⟨A, cc, hv, _, _, _⟩ := id hS
  obtain ⟨A2, cc2, hv2, _, _, _⟩ := id hS2
  rw [hv] at hS ⊢
  rw [hv2] at hS2 ⊢
  have HS := Aside0.mk hS
  have HS2 := Aside0.mk hS2
  have HL := Aside0.mk hl
  have el : ∀ x ∈ l, (T.u8s x).length = 32 := fun x hx => by rw [encs_length]; exact kl x hx
  have em : ∀ x ∈ m, (T.u8s x).length = 32 := fun x hx => by rw [encs_length]; exact km x hx
  have HE := Aside0.mk (And.intro el em)
  have HK := Aside0.mk (And.intro kl km)
  clear hS hS2 hv hv2 hl el em kl km
  generalize hP : T.E (.bool (decide (l = m))) w = Post
  by_cases hn : l.length = m.length
  · have d0 : decide ((l.length : Int) = (m.length : Int)) = true := decide_eq_true (by omega)
    have HN := Aside0.mk hn
    rw [← hn] at HS2 ⊢
    clear hn
    go_enter Tryz.func105, Tryz.ntmps105
    repeat' (((go_step)))
    go_loopg [13] (l.length + 1) (fun kq v13 Wd => ∃ i : Nat, v13 = .int .i64 i ∧ i ≤ l.length ∧ l.length - i < kq ∧ Aside0 (l.take i = m.take i) ∧ Aside0 (T.Mem w none Wd []))
    case atStart => exact ⟨0, rfl, by omega, by omega, ⟨rfl⟩, ⟨hM⟩⟩
    case round =>
      clear hM
      obtain ⟨i, rfl, hi, hg, HT, hMo⟩ := hrel
      have hM := hMo.out
      clear hMo
      by_cases hlt : i < l.length
      · have hltz : (i : Int) < (l.length : Int) := by omega
        have cb : decide ((i : Int) < (l.length : Int)) = true := decide_eq_true hltz
        have hi0 : (0 : Int) ≤ (i : Int) := by omega
        have hlt2 : i < m.length := by rw [← HN.out]; exact hlt
        obtain ⟨b, o, rfl⟩ := HS.out.adr (by omega)
        obtain ⟨b2, o2, rfl⟩ := HS2.out.adr (by omega)
        have H1 := Aside0.mk (T.rc_at HE.out.1 i hlt)
        have H2 := Aside0.mk (T.rc_at HE.out.2 i hlt2)
        have hu1 : (l[i]).length = 32 := HK.out.1 _ (List.getElem_mem hlt)
        have hu2 : (m[i]).length = 32 := HK.out.2 _ (List.getElem_mem hlt2)
        have hv1 : (T.u8s l[i]).length = 32 := by rw [encs_length]; exact hu1
        have hv2 : (T.u8s m[i]).length = 32 := by rw [encs_length]; exact hu2
        have hst : l[i] = m[i] → l.take (i + 1) = m.take (i + 1) := fun h => by
          rw [List.take_succ_eq_append_getElem hlt, List.take_succ_eq_append_getElem hlt2, HT.out, h]
        have hne : l[i] ≠ m[i] → decide (l = m) = false := fun h => decide_eq_false (fun e => h (by subst e; rfl))
        have HST := Aside0.mk hst
        have HNE := Aside0.mk hne
        clear hst hne
        generalize l[i] = x at *
        generalize m[i] = y at *
        by_cases hxy : x = y
        · have hz : (x == y) = true := by rw [hxy]; exact beq_self_eq_true y
          repeat' (first | ((with_reducible show Code.wp _ (Code.region 6 _ true) _ _ _); refine T.mregion 6 (.p 0 (.p 1 (.p 2 (.t 3 (.p 4 (.p 5 (.p 6 (.t 7 (.p 8 .nil))))))))) 1000 (by kernel_rfl) (fun _ _ _ _ h => h) hM (List.Sublist.refl _) ?_; clear hM; intro wld hM) | ((with_reducible show T.Seq _ _ _ _ _ _ _); first | ((with_reducible show T.Seq _ _ _ (.p _ _) _ _ _); ((apply T.sq_p rfl rfl; (focus intro wS; first | ((with_reducible show Sem.run _ (execOp _ ⟨_, .binOp .neq _ _ _ _, _, _, _, _⟩) _ = _); (exact T.x_neq rfl inferInstance rfl rfl (by ((with_reducible assumption))) (by ((with_reducible assumption))))) | (go_simp; with_reducible rfl)); (try simp only [Act.put, List.setIfInBounds_toArray, List.set_cons_zero, List.set_cons_succ]); (try simp only [hz])))) | ((with_reducible show T.Seq _ _ _ (.t _ _) _ _ _); ((apply T.sq_t rfl rfl; (focus intro wS hS; first | exact T.x_slRow rfl rfl (hS.slin HS.out) T.TU.out T.TN.out H1.out hv1 | exact T.x_slRow rfl rfl (hS.slin HS2.out) T.TU.out T.TN.out H2.out hv2); (try simp only [Act.put, List.setIfInBounds_toArray, List.set_cons_zero, List.set_cons_succ])))) | ((with_reducible show T.Seq _ _ _ .nil _ _ _); refine T.sq_nil ?_)) | (go_step))
          have hib : l.length ≤ 1000000 := HL.out
          go_roundg (l.length - i)
          case measure => omega
          case rel => exact ⟨i + 1, congrArg (Value.int .i64) (by unfold wrap64; omega), by omega, by omega, ⟨HST.out hxy⟩, ⟨hM⟩⟩
        · have hz : (x == y) = false := beq_eq_false_iff_ne.2 hxy
          repeat' (first | ((with_reducible show Code.wp _ (Code.region 6 _ true) _ _ _); refine T.mregion 6 (.p 0 (.p 1 (.p 2 (.t 3 (.p 4 (.p 5 (.p 6 (.t 7 (.p 8 .nil))))))))) 1000 (by kernel_rfl) (fun _ _ _ _ h => h) hM (List.Sublist.refl _) ?_; clear hM; intro wld hM) | ((with_reducible show T.Seq _ _ _ _ _ _ _); first | ((with_reducible show T.Seq _ _ _ (.p _ _) _ _ _); ((apply T.sq_p rfl rfl; (focus intro wS; first | ((with_reducible show Sem.run _ (execOp _ ⟨_, .binOp .neq _ _ _ _, _, _, _, _⟩) _ = _); (exact T.x_neq rfl inferInstance rfl rfl (by ((with_reducible assumption))) (by ((with_reducible assumption))))) | (go_simp; with_reducible rfl)); (try simp only [Act.put, List.setIfInBounds_toArray, List.set_cons_zero, List.set_cons_succ]); (try simp only [hz])))) | ((with_reducible show T.Seq _ _ _ (.t _ _) _ _ _); ((apply T.sq_t rfl rfl; (focus intro wS hS; first | exact T.x_slRow rfl rfl (hS.slin HS.out) T.TU.out T.TN.out H1.out hv1 | exact T.x_slRow rfl rfl (hS.slin HS2.out) T.TU.out T.TN.out H2.out hv2); (try simp only [Act.put, List.setIfInBounds_toArray, List.set_cons_zero, List.set_cons_succ])))) | ((with_reducible show T.Seq _ _ _ .nil _ _ _); refine T.sq_nil ?_)) | (go_step) | go_back)
          subst hP
          rw [HNE.out hxy]
          exact ⟨rfl, hM.below⟩
      · have hiN : i = l.length := by omega
        have hltz : ¬ (i : Int) < (l.length : Int) := by omega
        have cb : decide ((i : Int) < (l.length : Int)) = false := decide_eq_false hltz
        have heq : decide (l = m) = true := by
          have := HT.out
          rw [hiN, List.take_length, HN.out, List.take_length] at this
          exact decide_eq_true this
        subst hiN
        rw [heq] at hP
        repeat' (first | (go_step) | go_back | ((fail_if_success (with_reducible show T.Seq _ _ _ _ _ _ _)); (fail_if_success (with_reducible show T.OW _ _ _ _ _ _)); simp only [Int.not_lt, Int.not_le] at *; go_simp))
        subst hP
        exact ⟨rfl, hM.below⟩
  · have d0 : decide ((l.length : Int) = (m.length : Int)) = false := decide_eq_false (by omega)
    have heq : decide (l = m) = false := decide_eq_false (fun e => hn (by rw [e]))
    rw [heq] at hP
    go_enter Tryz.func105, Tryz.ntmps105
    repeat' (first | (go_step) | go_back)
    subst hP
    exact ⟨rfl, hM.below⟩
def T.WB (w : World) (e : Ending) (w' : World) : Prop := ∃ b, e = .returned (.bool b) ∧ Below w.heap.size w w'
def T.WI (w : World) (e : Ending) (w' : World) : Prop := ∃ j, e = .returned (.int .i64 j) ∧ Below w.heap.size w w'
structure T.InV where
  tx : List Int
  i : Int
structure T.OutV where
  v : Int
  u : Int
def T.InV.cells (x : T.InV) : List Value := T.u8s x.tx ++ [.int .i64 x.i]
def T.OutV.cells (x : T.OutV) : List Value := [.int .i64 x.v, .int .i64 x.u]
def T.InV.ok (x : T.InV) : Prop := x.tx.length = 32
theorem T.InV.len (x : T.InV) (h : x.ok) : x.cells.length = 33 := by simp [T.InV.cells, encs_length, show x.tx.length = 32 from h]
theorem T.InV.ones (x : T.InV) : ∀ v ∈ x.cells, v.oneCell' = true := T.ones_app (T.ones_encs _ _) (T.one_ones rfl)
theorem T.OutV.ones (x : T.OutV) : ∀ v ∈ x.cells, v.oneCell' = true := T.ones_cons rfl (T.one_ones rfl)
theorem T.odd_calls (x : T.OutV) (w : World) : Calls Tryz.prog 184 #[.agg x.cells.toArray] w (T.WB w) := by
  have hM := T.Mem.start w
  generalize hP : T.WB w = Post
  obtain ⟨v, u⟩ := x
  go_enter Tryz.func184, Tryz.ntmps184
  cases d1 : decide (v < 1) <;> cases d2 : decide (1099511627776 < v) <;> cases d3 : decide (u < 0) <;> cases d4 : decide (255 < u)
  all_goals repeat' (first | ((((((with_reducible show wpList _ _ _ _ _ _); first | refine T.w_o rfl ?_ | ((with_reducible show wpList _ _ _ (⟨_, _, _, _, _, some _⟩ :: _) _ _); refine T.w_g rfl ?_)))); first | ((with_reducible show T.OW _ ⟨_, .load _ _, _, _, _, _⟩ _ _ _ _); ((refine T.ofx (T.x_load rfl rfl T.Fd.out T.TS.out rfl hM) ?_))) | ((with_reducible show T.OW _ ⟨_, .box _ _, _, _, _, _⟩ _ _ _ _); refine T.op_box _ _ rfl _ rfl hM ?_; clear hM; intro blk wld hM hlt)); (try simp only [Act.put, List.setIfInBounds_toArray, List.set_cons_zero, List.set_cons_succ])) | go_skip | go_guarded | (go_step) | go_back)
  all_goals subst hP
  all_goals exact ⟨_, rfl, hM.below⟩
theorem T.idxOut_calls (l : List T.OutV) (hn : l.length ≤ 1000000) (v : Value) (w : World) (hS : T.Sl w v l.length (T.rc T.OutV.cells l)) : Calls Tryz.prog 208 #[v, .func (.func 184) #[] #[]] w (T.WI w) := by
  have hM := T.Mem.start w
  obtain ⟨A, cc, hv, _, _, _⟩ := id hS
  rw [hv] at hS ⊢
  have HS := Aside0.mk hS
  have HN := Aside0.mk hn
  clear hS hv hn
  generalize hP : T.WI w = Post
  go_enter Tryz.func208, Tryz.ntmps208
  repeat' (((go_step)))
  go_loopg [8] (l.length + 1) (fun kq v8 Wd => ∃ i : Nat, v8 = .int .i64 i ∧ i ≤ l.length ∧ l.length - i < kq ∧ Aside0 (T.Mem w none Wd []))
  case atStart => exact ⟨0, rfl, by omega, by omega, ⟨hM⟩⟩
  case round =>
    clear hM
    obtain ⟨i, rfl, hi, hg, hMo⟩ := hrel
    have hM := hMo.out
    clear hMo
    by_cases hlt : i < l.length
    · have hltz : (i : Int) < (l.length : Int) := by omega
      have cb : decide ((i : Int) < (l.length : Int)) = true := decide_eq_true hltz
      have hi0 : (0 : Int) ≤ (i : Int) := by omega
      obtain ⟨b, o, rfl⟩ := HS.out.adr (by omega)
      have H1 := Aside0.mk (T.rc_at (enc := T.OutV.cells) (k := 2) (fun _ _ => rfl) i hlt)
      generalize l[i] = x at *
      have hx2 : x.cells.length = 2 := rfl
      repeat' (first | (go_at_call 184; refine (T.odd_calls _ _).mono ?_; rintro _ _ ⟨bb, rfl, hbc⟩; replace hM := hM.call hbc; clear hbc; cases bb) | ((((((with_reducible show wpList _ _ _ _ _ _); (refine T.w_o rfl ?_)))); (((with_reducible show T.OW _ ⟨_, .load _ _, _, _, _, _⟩ _ _ _ _); ((refine T.ofx (T.x_slRow rfl rfl (hM.slin HS.out) T.TU.out T.TN.out H1.out hx2) ?_))))); (try simp only [Act.put, List.setIfInBounds_toArray, List.set_cons_zero, List.set_cons_succ])) | (go_step) | go_back | ((fail_if_success (with_reducible show T.Seq _ _ _ _ _ _ _)); (fail_if_success (with_reducible show T.OW _ _ _ _ _ _)); simp only [Int.not_lt, Int.not_le] at *; go_simp))
      · have hib : l.length ≤ 1000000 := HN.out
        go_roundg (l.length - i)
        case measure => omega
        case rel => exact ⟨i + 1, congrArg (Value.int .i64) (by unfold wrap64; omega), by omega, by omega, ⟨hM⟩⟩
      · subst hP
        exact ⟨_, rfl, hM.below⟩
    · have hiN : i = l.length := by omega
      have hltz : ¬ (i : Int) < (l.length : Int) := by omega
      have cb : decide ((i : Int) < (l.length : Int)) = false := decide_eq_false hltz
      repeat' (first | (go_step) | go_back | ((fail_if_success (with_reducible show T.Seq _ _ _ _ _ _ _)); (fail_if_success (with_reducible show T.OW _ _ _ _ _ _)); simp only [Int.not_lt, Int.not_le] at *; go_simp))
      subst hP
      exact ⟨_, rfl, hM.below⟩
theorem T.anyOut_calls (l : List T.OutV) (hn : l.length ≤ 1000000) (v : Value) (w : World) (hS : T.Sl w v l.length (T.rc T.OutV.cells l)) : Calls Tryz.prog 185 #[v, .func (.func 184) #[] #[]] w (T.WB w) := by
  have hM := T.Mem.start w
  generalize hP : T.WB w = Post
  have HS := Aside0.mk hS
  clear hS
  go_enter Tryz.func185, Tryz.ntmps185
  repeat' (first | (go_at_call 208; refine (T.idxOut_calls l hn _ _ (hM.slin HS.out)).mono ?_; rintro _ _ ⟨jj, rfl, hbc⟩; replace hM := hM.call hbc; clear hbc) | (go_step) | go_back | ((fail_if_success (with_reducible show T.Seq _ _ _ _ _ _ _)); (fail_if_success (with_reducible show T.OW _ _ _ _ _ _)); simp only [Int.not_lt, Int.not_le] at *; go_simp))
  subst hP
  exact ⟨_, rfl, hM.below⟩
def T.InV.eq (x y : T.InV) : Bool := x.tx == y.tx && x.i == y.i
theorem T.InV.txs (x : T.InV) (h : x.ok) : (x.cells.drop 0).take 32 = T.u8s x.tx :=
  T.seg [] _ [.int .i64 x.i] _ 0 32 (by simp [T.InV.cells]) rfl (by rw [encs_length]; exact h)
theorem T.InV.i_at (x : T.InV) (h : x.ok) : x.cells[32]? = some (.int .i64 x.i) := by
  rw [T.InV.cells, List.getElem?_append_right (by rw [encs_length, show x.tx.length = 32 from h]; decide), encs_length, show x.tx.length = 32 from h]
  rfl
theorem T.run_eqIn (d : Nat) (x y : T.InV) (hx : x.ok) (hy : y.ok) (w : World) : (Op.equalIn (d + 3) 151 (.agg x.cells.toArray) (.agg y.cells.toArray)).run Tryz.prog w = .ok (x.eq y) w := by
  have ei := fun (dd : Nat) (t : TypeId) (k k' : IntKind) (a b : Int) (hh : Tryz.prog.underlying t = some (.int k')) => run_equalIn_int (P := Tryz.prog) w dd t k k' a b hh
  refine eqA_of Tryz.underlying151 (by kernel_rfl) ?_
  refine eqf_cons (by rfl) (T.part_agg T.TB.out T.TN.out _ _ _ (x.txs hx) w) (T.part_agg T.TB.out T.TN.out _ _ _ (y.txs hy) w) (T.EQ.out d _ _ w hx hy) ?_
  exact eqf_last (by rfl) (T.part_one T.TS.out _ _ _ (x.i_at hx) w) (T.part_one T.TS.out _ _ _ (y.i_at hy) w) (ei _ _ _ _ _ _ Tryz.underlying3)
theorem T.x_eqlIn {op : Oper} {a : Act} {w : World} {x y : Operand} {h g : T.InV} {t2 : TypeId} (ho : op.op = .binOp .eql 151 x y t2) (hx : a.eval x = .agg h.cells.toArray) (hy : a.eval y = .agg g.cells.toArray) (kh : h.ok) (kg : g.ok) :
    (execOp a.eval op).run Tryz.prog w = .ok (.value (.bool (h.eq g))) w :=
  T.x_bin ho (by kernel_rfl) hx hy (by rw [run_eql_struct, T.run_eqIn 9997 h g kh kg w]; rfl)
section
section
variable {P : Program} {l : List Oper} {Q : Exit → Act → World → Prop} {a : Act} {w w0 : World} {i : Nat} {r : T.Ord} {o : Oper} {F : Option Nat} {L : List T.Blk}
theorem T.sq_ag (ho : T.nth l i = some o) (hw : Region.wanted o (yielded l.toArray a.tmps) = true)
    (h : ∀ K : Act → World → Prop, Shut (∀ a' w' (L' : List T.Blk), T.Mem w0 F w' L' → L.Sublist L' → T.Seq P l Q r (fun w => T.Mem w0 F w L') a' w' → K a' w') → T.OW P o a w K Q) : T.Seq P l Q (.a i r) (fun w => T.Mem w0 F w L) a w :=
  ⟨o, ho, by
    unfold wpOp
    simp only [T.nth_arr ho, hw, if_true]
    exact .inl (T.OW.out (h _ (fun _ _ L' h1 h2 h3 => ⟨fun w => T.Mem w0 F w L', h1, fun _ hw => hw.drop h2, h3⟩)))⟩
theorem T.sq_as (ho : T.nth l i = some o) (hw : Region.wanted o (yielded l.toArray a.tmps) = false) (hM : T.Mem w0 F w L) (h : T.Seq P l Q r (fun w => T.Mem w0 F w L) (a.put o.dst undef) w) : T.Seq P l Q (.a i r) (fun w => T.Mem w0 F w L) a w :=
  ⟨o, ho, by
    unfold wpOp
    simp only [T.nth_arr ho, hw, Bool.false_eq_true, if_false]
    exact ⟨fun w => T.Mem w0 F w L, hM, fun _ hw => hw, h⟩⟩
end
theorem T.idxIn_calls (l : List T.InV) (kl : ∀ x ∈ l, x.ok) (y : T.InV) (ky : y.ok) (hn : l.length ≤ 1000000) (v : Value) (w : World) (hS : T.Sl w v l.length (T.rc T.InV.cells l)) : Calls Tryz.prog 207 #[v, .agg y.cells.toArray] w (T.WI w) := by
  have hM := T.Mem.start w
  obtain ⟨A, cc, hv, _, _, _⟩ := id hS
  rw [hv] at hS ⊢
  have HS := Aside0.mk hS
  have HN := Aside0.mk hn
  have HK := Aside0.mk kl
  have hyl := y.len ky
  clear hS hv hn kl
  generalize hP : T.WI w = Post
  go_enter Tryz.func207, Tryz.ntmps207
  repeat' (first | ((((((with_reducible show wpList _ _ _ _ _ _); (refine T.w_o rfl ?_)))); (((with_reducible show T.OW _ ⟨_, .box _ _, _, _, _, _⟩ _ _ _ _); refine T.op_box _ _ rfl _ rfl hM ?_; clear hM; intro blk wld hM hlt))); (try simp only [Act.put, List.setIfInBounds_toArray, List.set_cons_zero, List.set_cons_succ])) | (go_step))
  obtain ⟨bk, rfl⟩ := T.n1 hM
  go_loopg [8] (l.length + 1) (fun kq v8 Wd => ∃ i : Nat, v8 = .int .i64 i ∧ i ≤ l.length ∧ l.length - i < kq ∧ Aside0 (T.Mem w none Wd [.b bk 151 y.cells]))
  case atStart => exact ⟨0, rfl, by omega, by omega, ⟨hM⟩⟩
  case round =>
    clear hM
    obtain ⟨i, rfl, hi, hg, hMo⟩ := hrel
    have hM := hMo.out
    clear hMo
    by_cases hlt : i < l.length
    · have hltz : (i : Int) < (l.length : Int) := by omega
      have cb : decide ((i : Int) < (l.length : Int)) = true := decide_eq_true hltz
      have hi0 : (0 : Int) ≤ (i : Int) := by omega
      obtain ⟨b, o, rfl⟩ := HS.out.adr (by omega)
      have H1 := Aside0.mk (T.rc_at (enc := T.InV.cells) (k := 33) (fun x hx => x.len (HK.out x hx)) i hlt)
      have kx : (l[i]).ok := HK.out _ (List.getElem_mem hlt)
      generalize l[i] = x at *
      have hx2 : x.cells.length = 33 := x.len kx
      cases hz : y.eq x
      all_goals repeat' (first | ((with_reducible show Code.wp _ (Code.region 4 _ true) _ _ _); refine T.mregion 4 (.t 0 (.p 1 (.p 2 (.p 3 (.t 4 (.p 5 .nil)))))) 1000 (by kernel_rfl) (fun _ _ _ _ h => h) hM (List.Sublist.refl _) ?_; clear hM; intro wld hM) | ((with_reducible show T.Seq _ _ _ (.p _ _) _ _ _); apply T.sq_p rfl rfl; (focus intro wS; exact T.x_eqlIn rfl rfl rfl ky kx); (try simp only [Act.put, List.setIfInBounds_toArray, List.set_cons_zero, List.set_cons_succ]); simp only [hz]) | ((with_reducible show T.Seq _ _ _ _ _ _ _); first | ((with_reducible show T.Seq _ _ _ (.p _ _) _ _ _); ((apply T.sq_p rfl rfl; (focus intro wS; ((go_simp; with_reducible rfl))); (try simp only [Act.put, List.setIfInBounds_toArray, List.set_cons_zero, List.set_cons_succ])))) | ((with_reducible show T.Seq _ _ _ (.t _ _) _ _ _); ((apply T.sq_t rfl rfl; (focus intro wS hS; first | exact T.x_slRow rfl rfl (hS.slin HS.out) T.TU.out T.TN.out H1.out hx2 | exact T.x_loadAll rfl rfl T.Fd.out T.TU.out T.TN.out (by ((with_reducible assumption))) hS); (try simp only [Act.put, List.setIfInBounds_toArray, List.set_cons_zero, List.set_cons_succ])))) | ((with_reducible show T.Seq _ _ _ .nil _ _ _); refine T.sq_nil ?_)) | (go_step) | go_back)
      · have hib : l.length ≤ 1000000 := HN.out
        go_roundg (l.length - i)
        case measure => omega
        case rel => exact ⟨i + 1, congrArg (Value.int .i64) (by unfold wrap64; omega), by omega, by omega, ⟨hM⟩⟩
      · subst hP
        exact ⟨_, rfl, hM.below⟩
    · have hiN : i = l.length := by omega
      have hltz : ¬ (i : Int) < (l.length : Int) := by omega
      have cb : decide ((i : Int) < (l.length : Int)) = false := decide_eq_false hltz
      repeat' (first | (go_step) | go_back | ((fail_if_success (with_reducible show T.Seq _ _ _ _ _ _ _)); (fail_if_success (with_reducible show T.OW _ _ _ _ _ _)); simp only [Int.not_lt, Int.not_le] at *; go_simp))
      subst hP
      exact ⟨_, rfl, hM.below⟩
theorem T.contIn_calls (l : List T.InV) (kl : ∀ x ∈ l, x.ok) (y : T.InV) (ky : y.ok) (hn : l.length ≤ 1000000) (v : Value) (w : World) (hS : T.Sl w v l.length (T.rc T.InV.cells l)) : Calls Tryz.prog 183 #[v, .agg y.cells.toArray] w (T.WB w) := by
  have hM := T.Mem.start w
  generalize hP : T.WB w = Post
  have hyl := y.len ky
  have HS := Aside0.mk hS
  clear hS
  go_enter Tryz.func183, Tryz.ntmps183
  repeat' (first | (go_at_call 207; refine (T.idxIn_calls l kl y ky hn _ _ (hM.slin HS.out)).mono ?_; rintro _ _ ⟨jj, rfl, hbc⟩; replace hM := hM.call hbc; clear hbc) | ((((((with_reducible show wpList _ _ _ _ _ _); (refine T.w_o rfl ?_)))); first | ((with_reducible show T.OW _ ⟨_, .load _ _, _, _, _, _⟩ _ _ _ _); ((refine T.ofx (T.x_loadAll rfl rfl T.Fd.out T.TU.out T.TN.out (by ((with_reducible assumption))) hM) ?_))) | ((with_reducible show T.OW _ ⟨_, .box _ _, _, _, _, _⟩ _ _ _ _); refine T.op_box _ _ rfl _ rfl hM ?_; clear hM; intro blk wld hM hlt)); (try simp only [Act.put, List.setIfInBounds_toArray, List.set_cons_zero, List.set_cons_succ])) | (go_step) | go_back | ((fail_if_success (with_reducible show T.Seq _ _ _ _ _ _ _)); (fail_if_success (with_reducible show T.OW _ _ _ _ _ _)); simp only [Int.not_lt, Int.not_le] at *; go_simp))
  subst hP
  exact ⟨_, rfl, hM.below⟩
structure T.TxV where
  iv : Value
  ov : Value
  ins : List T.InV
  outs : List T.OutV
def T.TxV.cells (t : T.TxV) : List Value := [t.iv, t.ov]
structure T.TxV.At (w : World) (t : T.TxV) : Prop where
  ok : ∀ x ∈ t.ins, x.ok
  ni : t.ins.length ≤ 1000000
  no : t.outs.length ≤ 1000000
  si : T.Sl w t.iv t.ins.length (T.rc T.InV.cells t.ins)
  so : T.Sl w t.ov t.outs.length (T.rc T.OutV.cells t.outs)
theorem T.TxV.At.kept {w w' : World} {t : T.TxV} (h : t.At w) (hb : Below w.heap.size w w') : t.At w' := ⟨h.ok, h.ni, h.no, h.si.kept hb, h.so.kept hb⟩
theorem T.Sl.one1 {w : World} {v : Value} {n : Nat} {cs : List Value} (h : T.Sl w v n cs) : v.oneCell' = true := by
  obtain ⟨A, c, rfl, _⟩ := h
  rfl
theorem T.TxV.At.ones {w : World} {t : T.TxV} (h : t.At w) : ∀ v ∈ t.cells, v.oneCell' = true := T.ones_cons h.si.one1 (T.one_ones h.so.one1)
theorem T.cmay_calls (t : T.TxV) (w : World) (h : t.At w) : Calls Tryz.prog 154 #[.agg t.cells.toArray] w (T.WB w) := by
  have hM := T.Mem.start w
  obtain ⟨iv, ov, ins, outs⟩ := t
  obtain ⟨kl, ni, no, si, so⟩ := h
  simp only at kl ni no si so
  obtain ⟨A, cc, rfl, _, _, _⟩ := id si
  obtain ⟨A2, cc2, rfl, _, _, _⟩ := id so
  have HS := Aside0.mk si
  have HS2 := Aside0.mk so
  have HN := Aside0.mk ni
  have HN2 := Aside0.mk no
  have HK := Aside0.mk kl
  have hcc := si.cap
  clear si so ni no kl
  generalize hP : T.WB w = Post
  go_enter Tryz.func154, Tryz.ntmps154
  repeat' (first | ((((((with_reducible show wpList _ _ _ _ _ _); (refine T.w_o rfl ?_)))); first | ((with_reducible show T.OW _ ⟨_, .load _ _, _, _, _, _⟩ _ _ _ _); ((refine T.ofx (T.x_load rfl rfl T.Fd.out T.TS.out rfl hM) ?_))) | ((with_reducible show T.OW _ ⟨_, .box _ _, _, _, _, _⟩ _ _ _ _); refine T.op_box _ _ rfl _ rfl hM ?_; clear hM; intro blk wld hM hlt)); (try simp only [Act.put, List.setIfInBounds_toArray, List.set_cons_zero, List.set_cons_succ])) | (go_step))
  obtain ⟨bk, rfl⟩ := T.n1 hM
  go_loopg [9] (ins.length + 1) (fun kq v9 Wd => ∃ i : Nat, v9 = .int .i64 i ∧ i ≤ ins.length ∧ ins.length - i < kq ∧ Aside0 (T.Mem w none Wd [.b bk 95 [.slice A ins.length cc, .slice A2 outs.length cc2]]))
  case atStart => exact ⟨0, rfl, by omega, by omega, ⟨hM⟩⟩
  case round =>
    clear hM
    obtain ⟨i, rfl, hi, hg, hMo⟩ := hrel
    have hM := hMo.out
    clear hMo
    by_cases hlt : i < ins.length
    · have hltz : (i : Int) < (ins.length : Int) := by omega
      have cb : decide ((i : Int) < (ins.length : Int)) = true := decide_eq_true hltz
      have hi0 : (0 : Int) ≤ (i : Int) := by omega
      have hic : (i : Int) ≤ (cc : Int) := by omega
      obtain ⟨b, o, rfl⟩ := HS.out.adr (by omega)
      have H1 := Aside0.mk (T.rc_at (enc := T.InV.cells) (k := 33) (fun x hx => x.len (HK.out x hx)) i hlt)
      have kx : (ins[i]).ok := HK.out _ (List.getElem_mem hlt)
      have S1 := HS.out.lo (i := i) (k := 33) (by omega)
      rw [T.rc_take (fun x hx => x.len (HK.out x hx))] at S1
      have hti : (ins.take i).length = i := by rw [List.length_take]; omega
      have C1 := Aside0.mk (fun (W : World) (y : T.InV) (ky : y.ok) (h : T.Sl W (.slice (some ⟨b, o, none⟩) i cc) i (T.rc T.InV.cells (ins.take i))) => T.contIn_calls (ins.take i) (fun x hx => HK.out x (List.mem_of_mem_take hx)) y ky (by have := HN.out; omega) _ W (by rw [hti]; exact h))
      have HS1 := Aside0.mk S1
      clear S1 hti
      generalize ins[i] = x at *
      have hx2 : x.cells.length = 33 := x.len kx
      have hxo := x.ones
      have hxi := x.i_at kx
      have hzi : (T.u8s T.z32 ++ [Value.int .i64 0]).length = 33 := by simp [encs_length, T.z32]
      cases d1 : decide (x.i < 0) <;> cases d2 : decide (3 ≤ x.i)
      all_goals repeat' (first | ((with_reducible show Code.wp _ (Code.region 4 _ true) _ _ _); refine T.mregion 4 (.p 0 (.t 1 (.p 2 (.p 3 (.p 4 (.t 5 (.p 6 (.p 7 (.p 8 (.p 9 (.t 10 (.p 11 (.p 12 (.t 13 (.a 14 (.p 15 .nil)))))))))))))))) 1000 (by kernel_rfl) (fun _ _ _ _ h => h) hM (List.Sublist.refl _) ?_; clear hM; intro wld hM) | (go_at_call 183; refine (C1.out _ _ kx (hM.slin HS1.out)).mono ?_; rintro _ _ ⟨bb, rfl, hbc⟩; replace hM := hM.call hbc; clear hbc; cases bb) | ((with_reducible show T.Seq _ _ _ (.a _ _) _ _ _); first | (refine T.sq_ag rfl rfl (fun K hK => ?_)) | (refine T.sq_as rfl rfl hM ?_; (try simp only [Act.put, List.setIfInBounds_toArray, List.set_cons_zero, List.set_cons_succ]))) | (((first | ((with_reducible show wpList _ _ _ _ _ _); (refine T.w_o rfl ?_)) | (with_reducible show T.OW _ _ _ _ _ _)); first | ((with_reducible show T.OW _ ⟨_, .load _ _, _, _, _, _⟩ _ _ _ _); ((refine T.ofx (T.x_slRow rfl rfl (hM.slin HS.out) T.TU.out T.TN.out H1.out hx2) ?_))) | ((with_reducible show T.OW _ ⟨_, .store _ _ _, _, _, _, _⟩ _ _ _ _); ((refine T.op_storeAll _ _ _ rfl _ rfl _ rfl _ _ hM (by (repeat ((exact T.Sub.head _)))) _ T.TN.out (by ((with_reducible assumption))) (by ((with_reducible assumption))) (by ((with_reducible assumption))) ?_; clear hM; intro wld hM))) | ((with_reducible show T.OW _ ⟨_, .alloc _, _, _, _, _⟩ _ _ _ _); refine T.op_alloc _ rfl _ T.TZ.out hM ?_; clear hM; intro blk wld hM hlt)); (try simp only [Act.put, List.setIfInBounds_toArray, List.set_cons_zero, List.set_cons_succ])) | ((with_reducible show T.Seq _ _ _ _ _ _ _); first | ((with_reducible show T.Seq _ _ _ (.p _ _) _ _ _); first | (apply T.sq_p rfl rfl; (focus intro wS; ((go_simp; with_reducible rfl))); (try simp only [Act.put, List.setIfInBounds_toArray, List.set_cons_zero, List.set_cons_succ])) | (refine T.sq_pskip rfl rfl ?_; (try simp only [Act.put, List.setIfInBounds_toArray, List.set_cons_zero, List.set_cons_succ]))) | ((with_reducible show T.Seq _ _ _ (.t _ _) _ _ _); first | (apply T.sq_t rfl rfl; (focus intro wS hS; first | exact T.x_load rfl rfl T.Fd.out T.TS.out hxi hS | exact T.x_load rfl rfl T.Fd.out T.TS.out rfl hS | exact T.x_loadAll rfl rfl T.Fd.out T.TU.out T.TN.out (by ((with_reducible assumption))) hS); (try simp only [Act.put, List.setIfInBounds_toArray, List.set_cons_zero, List.set_cons_succ])) | (refine T.sq_skip rfl rfl ?_; (try simp only [Act.put, List.setIfInBounds_toArray, List.set_cons_zero, List.set_cons_succ]))) | ((with_reducible show T.Seq _ _ _ .nil _ _ _); refine T.sq_nil ?_)) | (go_at_K; refine hK.out _ _ _ hM (by (repeat ((exact List.Sublist.refl _)))) ?_; clear hK K) | ((with_reducible show T.OW _ ⟨_, .call _, _, _, _, _⟩ _ _ _ _); refine T.OW.mk ?_; go_simp) | (go_step) | go_back | ((fail_if_success (with_reducible show T.Seq _ _ _ _ _ _ _)); (fail_if_success (with_reducible show T.OW _ _ _ _ _ _)); simp only [Int.not_lt, Int.not_le] at *; go_simp))
      all_goals first
        | (subst hP; exact ⟨_, rfl, hM.below⟩)
        | (have hib : ins.length ≤ 1000000 := HN.out
           go_roundg (ins.length - i)
           case measure => omega
           case rel => exact ⟨i + 1, congrArg (Value.int .i64) (by unfold wrap64; omega), by omega, by omega, ⟨hM.drop (by (repeat (first | exact List.Sublist.refl _ | apply List.Sublist.cons)))⟩⟩)
    · have hiN : i = ins.length := by omega
      have hltz : ¬ (i : Int) < (ins.length : Int) := by omega
      have cb : decide ((i : Int) < (ins.length : Int)) = false := decide_eq_false hltz
      cases d1 : decide ((ins.length : Int) ≤ 3) <;> cases d2 : decide ((0 : Int) < (outs.length : Int)) <;> cases d3 : decide ((outs.length : Int) ≤ 3)
      all_goals repeat' (first | (go_at_call 185; refine (T.anyOut_calls outs HN2.out _ _ (hM.slin HS2.out)).mono ?_; rintro _ _ ⟨bb, rfl, hbc⟩; replace hM := hM.call hbc; clear hbc) | ((((((with_reducible show wpList _ _ _ _ _ _); first | refine T.w_o rfl ?_ | ((with_reducible show wpList _ _ _ (⟨_, _, _, _, _, some _⟩ :: _) _ _); refine T.w_g rfl ?_)))); (((with_reducible show T.OW _ ⟨_, .load _ _, _, _, _, _⟩ _ _ _ _); ((refine T.ofx (T.x_load rfl rfl T.Fd.out T.TS.out rfl hM) ?_))))); (try simp only [Act.put, List.setIfInBounds_toArray, List.set_cons_zero, List.set_cons_succ])) | go_skip | go_guarded | (go_step) | go_back | ((fail_if_success (with_reducible show T.Seq _ _ _ _ _ _ _)); (fail_if_success (with_reducible show T.OW _ _ _ _ _ _)); simp only [Int.not_lt, Int.not_le] at *; go_simp))
      all_goals subst hP
      all_goals exact ⟨_, rfl, hM.below⟩
end
end Go.Proofs.YtdklknfgcepcbaaGreat.X
