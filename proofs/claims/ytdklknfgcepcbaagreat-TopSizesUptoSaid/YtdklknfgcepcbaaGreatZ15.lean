/- Texts of this proof, laid together by wip/tools/pack.py: TI2, TI3. -/
import Derived.Test.YtdklknfgcepcbaaGreatZ14
import Derived.Lib.ItoaNum
import Derived.Test.YtdklknfgcepcbaaGreatZ12
namespace Go.Proofs.YtdklknfgcepcbaaGreat.X
open Go.RowKit Go.Proofs.YtdklknfgcepcbaaGreatW.PrintWords Go.Proofs.YtdklknfgcepcbaaGreatW.PrintLast Go.Proofs.YtdklknfgcepcbaaGreatW.PrintMore
set_option linter.unusedSimpArgs false
set_option linter.unusedVariables false
set_option maxHeartbeats 2000000
set_option maxRecDepth 20000
theorem T.half_lt (n : Nat) (h2 : 2 ≤ n) (hn : n ≤ 1000000000) : ∃ k : Nat, T.half (n : Int) = (k : Int) ∧ 1 ≤ k ∧ k < n := by
  have h := Lib.bitLenAux_bounds 64 (n - 1) (by omega) (by omega)
  have e : T.len64 ((n : Int) - 1) = ((Lib.bitLenAux 64 (n - 1) : Nat) : Int) := by
    unfold T.len64 Lib.bitLen
    rw [show ((n : Int) - 1).toNat = n - 1 by omega]
  have e2 : T.half (n : Int) = ((2 ^ (Lib.bitLenAux 64 (n - 1) - 1) : Nat) : Int) := by
    unfold T.half
    rw [e, show ((((Lib.bitLenAux 64 (n - 1) : Nat) : Int)).toNat - 1) = Lib.bitLenAux 64 (n - 1) - 1 by omega]
    generalize hq : Lib.bitLenAux 64 (n - 1) - 1 = q at *
    rw [show ((2 : Int) ^ q) = ((2 ^ q : Nat) : Int) by rw [Int.natCast_pow]; rfl]
    have h21 := h.2.1
    generalize (2 ^ q : Nat) = p at *
    unfold wrap64
    omega
  refine ⟨_, e2, Nat.pos_of_ne_zero (by simp), by omega⟩
def T.rootF : Nat → List (List Int) → List Int
  | 0, _ => T.z32
  | n + 1, l => match l with
    | [] => T.sum [2]
    | [x] => x
    | x :: y :: r => T.tnode (T.rootF n ((x :: y :: r).take (T.half ((x :: y :: r).length : Nat)).toNat)) (T.rootF n ((x :: y :: r).drop (T.half ((x :: y :: r).length : Nat)).toNat))
theorem T.rootF_len : ∀ (n : Nat) (l : List (List Int)), T.okn 32 l → (T.rootF n l).length = 32
  | 0, _, _ => rfl
  | n + 1, [], _ => T.sum_len _
  | n + 1, [x], h => h x List.mem_cons_self
  | n + 1, _ :: _ :: _, _ => T.tnode_len _ _
theorem T.Sl.lo {w : World} {b o n c i k : Nat} {cs : List Value} (h : T.Sl w (.slice (some ⟨b, o, none⟩) n c) n cs) (hi : i ≤ n) : T.Sl w (.slice (some ⟨b, o, none⟩) i c) i (cs.take (i * k)) := by
  obtain ⟨A, c', e, hc, h1, h2⟩ := h
  cases e
  refine ⟨_, c, rfl, Nat.le_trans hi hc, fun u hu => h1 u (List.mem_of_mem_take hu), .inr ⟨b, o, rfl, ?_⟩⟩
  rcases h2 with ⟨_, _, _, rfl⟩ | ⟨b', o', e, hr⟩
  · exact fun j v hj => by simp at hj
  · cases e
    have := T.range_part hr 0 (i * k)
    rwa [List.drop_zero, Nat.add_zero] at this
theorem T.Sl.hi {w : World} {b o n c i k : Nat} {cs : List Value} (h : T.Sl w (.slice (some ⟨b, o, none⟩) n c) n cs) : T.Sl w (.slice (some ⟨b, o + i * k, none⟩) (n - i) (c - i)) (n - i) (cs.drop (i * k)) := by
  obtain ⟨A, c', e, hc, h1, h2⟩ := h
  cases e
  refine ⟨_, c - i, rfl, by omega, fun u hu => h1 u (List.mem_of_mem_drop hu), .inr ⟨b, o + i * k, rfl, ?_⟩⟩
  rcases h2 with ⟨_, _, _, rfl⟩ | ⟨b', o', e, hr⟩
  · exact fun j v hj => by simp at hj
  · cases e
    have := T.range_part hr (i * k) (cs.drop (i * k)).length
    rwa [List.take_length] at this
theorem T.cells_take {k : Nat} {l : List (List Int)} (h : T.okn k l) (i : Nat) (hi : i ≤ l.length) : (T.u8s l.flatten).take (i * k) = T.u8s (l.take i).flatten := by
  unfold T.u8s encs
  rw [← List.map_take]
  congr 1
  conv => lhs; rw [← List.take_append_drop i l, List.flatten_append]
  rw [List.take_append_of_le_length (by rw [T.flat_len (T.okn_take h i), List.length_take, Nat.min_eq_left hi]; exact Nat.le_refl _), List.take_of_length_le (by rw [T.flat_len (T.okn_take h i), List.length_take, Nat.min_eq_left hi]; exact Nat.le_refl _)]
theorem T.cells_drop {k : Nat} {l : List (List Int)} (h : T.okn k l) (i : Nat) (hi : i ≤ l.length) : (T.u8s l.flatten).drop (i * k) = T.u8s (l.drop i).flatten := by
  unfold T.u8s encs
  rw [← List.map_drop]
  congr 1
  conv => lhs; rw [← List.take_append_drop i l, List.flatten_append]
  rw [List.drop_append_of_le_length (by rw [T.flat_len (T.okn_take h i), List.length_take, Nat.min_eq_left hi]; exact Nat.le_refl _), List.drop_eq_nil_of_le (by rw [T.flat_len (T.okn_take h i), List.length_take, Nat.min_eq_left hi]; exact Nat.le_refl _), List.nil_append]
theorem T.rootF_calls : ∀ (n : Nat) (l : List (List Int)), l.length < n → T.okn 32 l → l.length ≤ 1000000 → ∀ (v : Value) (w : World), T.Sl w v l.length (T.u8s l.flatten) → Calls Tryz.prog 91 #[v] w (T.E (.agg (T.u8s (T.rootF n l)).toArray) w)
  | 0, _, h, _, _, _, _, _ => absurd h (Nat.not_lt_zero _)
  | n + 1, l, hlt, k, hn, v, w, hS => by
    have hM := T.Mem.start w
    obtain ⟨A, cc, hv, _, _, _⟩ := id hS
    rw [hv] at hS ⊢
    have hrl := T.rootF_len (n + 1) l k
    have HS := Aside0.mk hS
    have HK := Aside0.mk k
    have HN := Aside0.mk hn
    clear hS hv
    generalize hP : T.E (.agg (T.u8s (T.rootF (n + 1) l)).toArray) w = Post
    match l, hlt with
    | [], _ =>
      go_enter Tryz.func91, Tryz.ntmps91
      have hsl := T.sum_len [2]
      repeat' (first | (go_at_call 59; refine (T.sum_calls [2] _ (by decide) _ (hM.slB (n := 1) (c := 1) T.Fd.out (T.one_ones rfl) (Nat.le_refl _))).mono ?_; rintro _ _ ⟨rfl, hbc⟩; replace hM := hM.call hbc; clear hbc) | ((((((with_reducible show wpList _ _ _ _ _ _); (refine T.w_o rfl ?_)))); first | ((with_reducible show T.OW _ ⟨_, .store _ _ _, _, _, _, _⟩ _ _ _ _); ((refine T.op_storeAll _ _ _ rfl _ rfl _ rfl _ _ hM (by (repeat (first | exact T.Sub.head _ | apply T.Sub.tail))) _ T.TN.out (by (((rw [encs_length]; with_reducible assumption)))) (by ((exact T.ones_encs _ _))) (by ((rfl))) ?_; clear hM; intro wld hM))) | ((with_reducible show T.OW _ ⟨_, .alloc _, _, _, _, _⟩ _ _ _ _); refine T.op_alloc _ rfl _ T.TZ.out hM ?_; clear hM; intro blk wld hM hlt) | ((with_reducible show T.OW _ ⟨_, .buildSlice _ _ _, _, _, _, _⟩ _ _ _ _); refine T.op_buildSl _ _ _ rfl _ T.TL.out _ T.TN.out _ T.TZ.out rfl (by decide) (by decide) _ rfl (by (((simp [T.okp, Value.cells, Act.eval, *]; done)))) _ rfl hM ?_; (try simp only [List.map_toArray, List.map_cons, List.map_nil, Act.eval, Array.getD_eq_getD_getElem?, List.toList_toArray, List.getElem?_toArray, List.getElem?_cons_zero, List.getElem?_cons_succ, Option.getD_some, T.segs, List.replicate_succ, List.replicate_zero, List.set_cons_zero, List.set_cons_succ, Value.cells, List.flatten_cons, List.flatten_nil, List.append_nil, List.cons_append, List.nil_append]); clear hM; intro blk wld hM hlt)); (try simp only [Act.put, List.setIfInBounds_toArray, List.set_cons_zero, List.set_cons_succ])) | (go_step) | ((fail_if_success (with_reducible show T.Seq _ _ _ _ _ _ _)); (fail_if_success (with_reducible show T.OW _ _ _ _ _ _)); simp only [Int.not_lt, Int.not_le] at *; go_simp))
      (refine T.ret_cell rfl rfl _ rfl _ _ hM T.Fd.out T.TU.out _ T.TN.out (by (((rw [encs_length]; with_reducible assumption)))) ?_)
      subst hP
      exact ⟨rfl, hM.below⟩
    | [x], _ =>
      go_enter Tryz.func91, Tryz.ntmps91
      obtain ⟨ad, rfl⟩ := HS.out.some_of (Nat.zero_lt_one)
      have hx : x.length = 32 := k x List.mem_cons_self
      have HAT := Aside0.mk (show _ = T.u8s x from T.cells_at HK.out 0 Nat.zero_lt_one)
      have hux : (T.u8s x).length = 32 := by rw [encs_length]; exact hx
      have hz0 : (T.u8s T.z32).length = 32 := by rw [encs_length]; rfl
      have d0 : decide ((([x] : List (List Int)).length : Int) = 0) = false := rfl
      repeat' (first | ((((((with_reducible show wpList _ _ _ _ _ _); (refine T.w_o rfl ?_)))); first | ((with_reducible show T.OW _ ⟨_, .load _ _, _, _, _, _⟩ _ _ _ _); ((refine T.ofx (T.x_slAgg (i := 0) (j := 0) rfl rfl (hM.slin HS.out) rfl T.TU.out T.TN.out HAT.out (by rw [encs_length]; exact hx)) ?_))) | ((with_reducible show T.OW _ ⟨_, .store _ _ _, _, _, _, _⟩ _ _ _ _); ((refine T.op_storeAll _ _ _ rfl _ rfl _ rfl _ _ hM (by (repeat ((exact T.Sub.head _)))) _ T.TN.out (by ((with_reducible assumption))) (by ((exact T.ones_encs _ _))) (by ((with_reducible assumption))) ?_; clear hM; intro wld hM))) | ((with_reducible show T.OW _ ⟨_, .alloc _, _, _, _, _⟩ _ _ _ _); refine T.op_alloc _ rfl _ T.TZ.out hM ?_; clear hM; intro blk wld hM hlt)); (try simp only [Act.put, List.setIfInBounds_toArray, List.set_cons_zero, List.set_cons_succ])) | (go_step))
      (refine T.ret_cell rfl rfl _ rfl _ _ hM T.Fd.out T.TU.out _ T.TN.out (by ((with_reducible assumption))) ?_)
      subst hP
      exact ⟨rfl, hM.below⟩
    | x :: y :: r, hlt =>
      generalize hl : x :: y :: r = l at *
      have h2 : 2 ≤ l.length := by rw [← hl]; exact Nat.le_add_left 2 r.length
      obtain ⟨hk, hke, hk1, hk2⟩ := T.half_lt l.length h2 (by omega)
      have hre : T.rootF (n + 1) l = T.tnode (T.rootF n (l.take hk)) (T.rootF n (l.drop hk)) := by
        rw [← hl] at hke ⊢
        rw [T.rootF, hke, Int.toNat_natCast]
      rw [hre] at hP hrl
      have r1 := T.rootF_len n (l.take hk) (T.okn_take k hk)
      have r2 := T.rootF_len n (l.drop hk) (T.okn_drop k hk)
      have d0 : decide ((l.length : Int) = 0) = false := decide_eq_false (by omega)
      have d1 : decide ((l.length : Int) = 1) = false := decide_eq_false (by omega)
      have dk0 : 0 ≤ (hk : Int) := by omega
      have dk1 : (hk : Int) ≤ (l.length : Int) := by omega
      obtain ⟨b, o, rfl⟩ := HS.out.adr (by omega)
      have HC := Aside0.mk (show l.length ≤ cc by obtain ⟨_, _, e, h, _⟩ := HS.out; cases e; exact h)
      have lt : (l.take hk).length = hk := by rw [List.length_take, Nat.min_eq_left (by omega)]
      have ld : (l.drop hk).length = l.length - hk := List.length_drop
      have S1 := Aside0.mk (HS.out.lo (i := hk) (k := 32) (by omega))
      have S2 := Aside0.mk (HS.out.hi (i := hk) (k := 32))
      rw [T.cells_take k hk (by omega)] at S1
      rw [T.cells_drop k hk (by omega)] at S2
      have H1 := Aside0.mk (fun (W : World) (h : T.Sl W (.slice (some ⟨b, o, none⟩) hk cc) hk (T.u8s (l.take hk).flatten)) => T.rootF_calls n (l.take hk) (by omega) (T.okn_take k hk) (by omega) _ W (by rw [lt]; exact h))
      have H2 := Aside0.mk (fun (W : World) (h : T.Sl W (.slice (some ⟨b, o + hk * 32, none⟩) (l.length - hk) (cc - hk)) (l.length - hk) (T.u8s (l.drop hk).flatten)) => T.rootF_calls n (l.drop hk) (by omega) (T.okn_drop k hk) (by omega) _ W (by rw [ld]; exact h))
      clear lt ld
      have hc : l.length ≤ cc := HC.out
      have dk2 : (hk : Int) ≤ (cc : Int) := by omega
      have dk3 : (l.length : Int) ≤ (cc : Int) := by omega
      have dk4 : (l.length : Int) - (hk : Int) = ((l.length - hk : Nat) : Int) := by omega
      have dk5 : (cc : Int) - (hk : Int) = ((cc - hk : Nat) : Int) := by omega
      clear HS hlt k
      have hcn : ¬ cc = hk := by omega
      go_enter Tryz.func91, Tryz.ntmps91
      have hz0 : (T.u8s T.z32).length = 32 := by rw [encs_length]; rfl
      have ht0 : (T.u8s (T.tnode (T.rootF n (l.take hk)) (T.rootF n (l.drop hk)))).length = 32 := by rw [encs_length, T.tnode_len]
      repeat' (first | ((with_reducible show Code.wp _ (Code.region 7 _ true) _ _ _); refine T.mregion 7 (.p 0 (.p 1 (.p 2 (.p 4 (.p 5 (.p 6 (.a 3 (.a 7 (.a 8 (.z 9 .nil)))))))))) 9 (by kernel_rfl) (fun _ _ _ _ h => h) hM (List.Sublist.refl _) ?_; clear hM; intro wld hM) | (go_at_call 129; refine (T.half_calls _ (by omega) (by have := HN.out; omega) _).mono ?_; rintro _ _ ⟨rfl, hbc⟩; replace hM := hM.call hbc; clear hbc; rw [hke]) | (go_at_call 91; refine (H1.out _ (hM.slin S1.out)).mono ?_; rintro _ _ ⟨rfl, hbc⟩; replace hM := hM.call hbc; clear hbc H1 S1; try rw [if_neg hcn]) | (go_at_call 91; refine (H2.out _ (hM.slin S2.out)).mono ?_; rintro _ _ ⟨rfl, hbc⟩; replace hM := hM.call hbc; clear hbc) | (go_at_call 130; refine (T.tnode_calls _ _ r1 r2 _).mono ?_; rintro _ _ ⟨rfl, hbc⟩; replace hM := hM.call hbc; clear hbc) | (((first | ((with_reducible show wpList _ _ _ _ _ _); (refine T.w_o rfl ?_)) | (with_reducible show T.OW _ _ _ _ _ _)); first | ((with_reducible show T.OW _ ⟨_, .store _ _ _, _, _, _, _⟩ _ _ _ _); ((refine T.op_storeAll _ _ _ rfl _ rfl _ rfl _ _ hM (by (repeat ((exact T.Sub.head _)))) _ T.TN.out (by ((with_reducible assumption))) (by ((exact T.ones_encs _ _))) (by ((with_reducible assumption))) ?_; clear hM; intro wld hM))) | ((with_reducible show T.OW _ ⟨_, .alloc _, _, _, _, _⟩ _ _ _ _); refine T.op_alloc _ rfl _ T.TZ.out hM ?_; clear hM; intro blk wld hM hlt)); (try simp only [Act.put, List.setIfInBounds_toArray, List.set_cons_zero, List.set_cons_succ])) | ((with_reducible show T.Seq _ _ _ _ _ _ _); first | ((with_reducible show T.Seq _ _ _ (.p _ _) _ _ _); ((apply T.sq_p rfl rfl; (focus intro wS; ((go_simp; with_reducible rfl))); (try simp only [Act.put, List.setIfInBounds_toArray, List.set_cons_zero, List.set_cons_succ])))) | ((with_reducible show T.Seq _ _ _ .nil _ _ _); refine T.sq_nil ?_) | ((with_reducible show T.Seq _ _ _ (.a _ _) _ _ _); refine T.sq_a rfl rfl (fun K hK => ?_)) | ((with_reducible show T.Seq _ _ _ (.z _ _) _ _ _); refine T.sq_z rfl rfl (fun K hK => ?_))) | (go_at_K; refine hK.out _ _ _ hM (by (repeat ((exact List.Sublist.refl _)))) ?_; clear hK K) | (go_at_K; refine hK.out _ _ _ hM ?_; clear hK K) | ((with_reducible show T.OW _ ⟨_, .call _, _, _, _, _⟩ _ _ _ _); refine T.OW.mk ?_; go_simp) | (go_step) | ((fail_if_success (with_reducible show T.Seq _ _ _ _ _ _ _)); (fail_if_success (with_reducible show T.OW _ _ _ _ _ _)); simp only [Int.not_lt, Int.not_le] at *; go_simp))
      (refine T.ret_cell rfl rfl _ rfl _ _ hM T.Fd.out T.TU.out _ T.TN.out (by ((with_reducible assumption))) ?_)
      subst hP
      exact ⟨rfl, hM.below⟩
theorem T.lroot_calls (l : List (List Int)) (k : T.okn 32 l) (hn : l.length ≤ 1000000) (v : Value) (w : World) (hS : T.Sl w v l.length (T.u8s l.flatten)) : Calls Tryz.prog 49 #[v] w (T.E (.agg (T.u8s (T.rootF (l.length + 1) (l.map T.tleaf))).toArray) w) := by
  have hM := T.Mem.start w
  obtain ⟨A, cc, hv, _, _, _⟩ := id hS
  rw [hv] at hS ⊢
  have hrl := T.rootF_len (l.length + 1) (l.map T.tleaf) (T.okn_map T.tleaf_len)
  have HS := Aside0.mk hS
  have HK := Aside0.mk k
  have HN := Aside0.mk hn
  clear hS hv k hn
  generalize hP : T.E (.agg (T.u8s (T.rootF (l.length + 1) (l.map T.tleaf))).toArray) w = Post
  go_enter Tryz.func49, Tryz.ntmps49
  repeat' (first | (go_at_call 92; refine (T.mapped_calls l HK.out HN.out _ _ (hM.slin HS.out)).mono ?_; rintro _ wr ⟨v, rfl, ho, h1, hbc⟩; replace hM := hM.callG hbc ho h1; clear hbc ho h1) | (go_at_call 91; refine (T.rootF_calls (l.length + 1) (l.map T.tleaf) (by simp) (T.okn_map T.tleaf_len) (by rw [List.length_map]; exact HN.out) _ _ (by rw [List.length_map]; exact hM.gsl T.Fg.out)).mono ?_; rintro _ _ ⟨rfl, hbc⟩; replace hM := hM.call hbc; clear hbc) | ((((((with_reducible show wpList _ _ _ _ _ _); (refine T.w_o rfl ?_)))); first | ((with_reducible show T.OW _ ⟨_, .store _ _ _, _, _, _, _⟩ _ _ _ _); ((refine T.op_storeAll _ _ _ rfl _ rfl _ rfl _ _ hM (by (repeat (first | exact T.Sub.head _ | apply T.Sub.tail))) _ T.TN.out (by (((rw [encs_length]; with_reducible assumption)))) (by ((exact T.ones_encs _ _))) (by ((rfl))) ?_; clear hM; intro wld hM))) | ((with_reducible show T.OW _ ⟨_, .alloc _, _, _, _, _⟩ _ _ _ _); refine T.op_alloc _ rfl _ T.TZ.out hM ?_; clear hM; intro blk wld hM hlt)); (try simp only [Act.put, List.setIfInBounds_toArray, List.set_cons_zero, List.set_cons_succ])) | (go_step) | ((fail_if_success (with_reducible show T.Seq _ _ _ _ _ _ _)); (fail_if_success (with_reducible show T.OW _ _ _ _ _ _)); simp only [Int.not_lt, Int.not_le] at *; go_simp))
  (refine T.ret_cell rfl rfl _ rfl _ _ hM T.Fd.out T.TU.out _ T.TN.out (by (((rw [encs_length]; with_reducible assumption)))) ?_)
  subst hP
  exact ⟨rfl, hM.below⟩
section
def T.join (a b : T.Tot) : T.Tot := ⟨T.sum (3 :: (T.mtext a ++ T.mtext b)), (T.wadd a.w b.w).1, IntKind.i64.wrap (a.n + b.n)⟩
theorem T.join_ok (a b : T.Tot) (ka : a.ok) : (T.join a b).ok := ⟨T.sum_len _, T.wadd_len _ _ ka.w⟩
theorem T.Tot.ones (t : T.Tot) : ∀ v ∈ t.cells, v.oneCell' = true := T.ones_app (T.ones_encs _ _) (T.ones_app (T.ones_encs _ _) (T.one_ones rfl))
theorem T.mtext68 (t : T.Tot) (k : t.ok) (w : World) : Calls Tryz.prog 135 #[.agg t.cells.toArray] w (T.EG 5 1 68 (T.u8s (T.mtext t)) w) := by
  have := T.mtext_calls t k w
  rwa [T.mtext_len t k] at this
attribute [local irreducible] T.mtext T.put T.puts
theorem T.join_calls (a b : T.Tot) (ka : a.ok) (kb : b.ok) (ra : T.R64 a.w) (rb : T.R64 b.w) (w : World) : Calls Tryz.prog 96 #[.agg a.cells.toArray, .agg b.cells.toArray] w (T.E (.agg (T.join a b).cells.toArray) w) := by
  have hM := T.Mem.start w
  have hla := a.len ka
  have hlb := b.len kb
  have wa := ka.w
  have wb := kb.w
  have hta := T.mtext_len a ka
  have htb := T.mtext_len b kb
  have hz37 : T.Tot.zero.cells.length = 37 := rfl
  have hz1 : (T.u64s [0, 0, 0, 0]).length = 4 := rfl
  have hj : (T.u8s (T.sum (3 :: (T.mtext a ++ T.mtext b))) ++ (T.u64s (T.wadd a.w b.w).1 ++ [Value.int .i64 (IntKind.i64.wrap (a.n + b.n))])).length = 37 := (T.join a b).len (T.join_ok a b ka)
  have hjo : ∀ v ∈ (T.u8s (T.sum (3 :: (T.mtext a ++ T.mtext b))) ++ (T.u64s (T.wadd a.w b.w).1 ++ [Value.int .i64 (IntKind.i64.wrap (a.n + b.n))])), v.oneCell' = true := (T.join a b).ones
  have hsl2 : (T.u8s (T.sum (3 :: (T.mtext a ++ T.mtext b)))).length = 32 := by rw [encs_length]; exact T.sum_len _
  have hsl := T.sum_len (3 :: (T.mtext a ++ T.mtext b))
  have hwl := T.wadd_len a.w b.w wa
  have hwl2 : (T.u64s (T.wadd a.w b.w).1).length = 4 := by rw [encs_length]; exact hwl
  have hz0 : (T.u8s T.z32).length = 32 := by rw [encs_length]; rfl
  have HL := Aside0.mk (show ([3] ++ (T.mtext a ++ T.mtext b)).length ≤ 1000000000 by simp [hta, htb])
  have HS := Aside0.mk ra
  have HR := Aside0.mk rb
  generalize hP : T.E (.agg (T.join a b).cells.toArray) w = Post
  go_enter Tryz.func96, Tryz.ntmps96
  repeat' (first | ((with_reducible show Code.wp _ (Code.region 2 _ true) _ _ _); refine T.mregion 2 (.t 1 (.t 3 (.t 7 (.p 8 (.t 9 (.p 10 (.t 11 (.p 12 (.f 0 2 (.a 2 (.a 4 (.a 5 (.a 6 (.p 13 (.z 14 .nil)))))) (.f 0 4 (.a 4 (.a 5 (.a 6 (.p 13 (.z 14 .nil))))) (.a 0 (.a 5 (.a 6 (.p 13 (.z 14 .nil))))))))))))))) 14 (by kernel_rfl) (fun _ _ _ _ h => h) hM (List.Sublist.refl _) ?_; clear hM; intro wld hM) | (go_at_call 134; refine (T.wadd_calls _ _ wa wb HS.out HR.out _).mono ?_; rintro _ _ ⟨rfl, hbc⟩; replace hM := hM.call hbc; clear hbc) | (go_at_call 135; refine (T.mtext68 _ (by with_reducible assumption) _).mono ?_; rintro _ wr ⟨v, rfl, ho, h1, hbc⟩; (obtain ⟨Ag, cg, rfl⟩ := T.own_slice ho); replace hM := hM.callG hbc ho h1; clear hbc ho h1) | (go_at_call 34; refine (T.of3 [3] (T.mtext a) (T.mtext b) hM T.Fd.out (hM.slB (n := 1) (c := 1) T.Fd.out (T.one_ones rfl) (Nat.le_refl _)) (by rw [hta]; exact hM.gsl T.Fg.out) (by rw [htb]; exact hM.gsl T.Fg.out) HL.out).mono ?_; rintro _ _ ⟨rfl, hbc⟩; replace hM := hM.call hbc; clear hbc) | (((first | ((with_reducible show wpList _ _ _ _ _ _); (refine T.w_o rfl ?_)) | (with_reducible show T.OW _ _ _ _ _ _)); first | ((with_reducible show T.OW _ ⟨_, .load _ _, _, _, _, _⟩ _ _ _ _); ((refine T.ofx (T.x_loadAgg rfl rfl T.Fd.out T.TU.out T.TN.out (by ((omega))) (T.Tot.ws _ (by with_reducible assumption)) hM) ?_))) | ((with_reducible show T.OW _ ⟨_, .store _ _ _, _, _, _, _⟩ _ _ _ _); ((refine T.op_storeAll _ _ _ rfl _ rfl _ rfl _ _ hM (by (repeat (first | exact T.Sub.head _ | apply T.Sub.tail))) _ T.TN.out (by ((with_reducible assumption))) (by (first | with_reducible assumption | exact T.ones_encs _ _)) (by ((with_reducible assumption))) ?_; clear hM; intro wld hM))) | ((with_reducible show T.OW _ ⟨_, .alloc _, _, _, _, _⟩ _ _ _ _); refine T.op_alloc _ rfl _ T.TZ.out hM ?_; clear hM; intro blk wld hM hlt) | ((with_reducible show T.OW _ ⟨_, .box _ _, _, _, _, _⟩ _ _ _ _); refine T.op_box _ _ rfl _ rfl hM ?_; clear hM; intro blk wld hM hlt) | ((with_reducible show T.OW _ ⟨_, .buildSlice _ _ _, _, _, _, _⟩ _ _ _ _); refine T.op_buildSl _ _ _ rfl _ T.TL.out _ T.TN.out _ T.TZ.out rfl (by decide) (by decide) _ rfl (by (((simp [T.okp, Value.cells, Act.eval, *]; done)))) _ rfl hM ?_; (try simp only [List.map_toArray, List.map_cons, List.map_nil, Act.eval, Array.getD_eq_getD_getElem?, List.toList_toArray, List.getElem?_toArray, List.getElem?_cons_zero, List.getElem?_cons_succ, Option.getD_some, T.segs, List.replicate_succ, List.replicate_zero, List.set_cons_zero, List.set_cons_succ, Value.cells, List.flatten_cons, List.flatten_nil, List.append_nil, List.cons_append, List.nil_append]); clear hM; intro blk wld hM hlt)); (try simp only [Act.put, List.setIfInBounds_toArray, List.set_cons_zero, List.set_cons_succ])) | ((with_reducible show T.Seq _ _ _ _ _ _ _); first | ((with_reducible show T.Seq _ _ _ (.p _ _) _ _ _); first | (apply T.sq_p rfl rfl; (focus intro wS; ((go_simp; with_reducible rfl))); (try simp only [Act.put, List.setIfInBounds_toArray, List.set_cons_zero, List.set_cons_succ])) | (apply T.sq_p rfl rfl; (focus intro wS; exact T.x_build rfl inferInstance rfl (by (((simp [T.okp, Value.cells, Act.eval, *]; done)))) rfl); (try simp only [Act.put, List.setIfInBounds_toArray, List.set_cons_zero, List.set_cons_succ]); (try simp only [List.map_toArray, List.map_cons, List.map_nil, Act.eval, Array.getD_eq_getD_getElem?, List.toList_toArray, List.getElem?_toArray, List.getElem?_cons_zero, List.getElem?_cons_succ, Option.getD_some, T.segs, List.replicate_succ, List.replicate_zero, List.set_cons_zero, List.set_cons_succ, Value.cells, List.flatten_cons, List.flatten_nil, List.append_nil, List.cons_append, List.nil_append]))) | ((with_reducible show T.Seq _ _ _ (.t _ _) _ _ _); ((apply T.sq_t rfl rfl; (focus intro wS hS; first | exact T.x_load rfl rfl T.Fd.out T.TS.out (T.Tot.n_at _ (by with_reducible assumption)) hS | exact T.x_loadAll rfl rfl T.Fd.out T.TU.out T.TN.out (by ((with_reducible assumption))) hS); (try simp only [Act.put, List.setIfInBounds_toArray, List.set_cons_zero, List.set_cons_succ])))) | ((with_reducible show T.Seq _ _ _ .nil _ _ _); refine T.sq_nil ?_) | ((with_reducible show T.Seq _ _ _ (.f _ _ _ _) _ _ _); refine T.sq_f ?_ ?_) | ((with_reducible show T.Seq _ _ _ (.a _ _) _ _ _); refine T.sq_a rfl rfl (fun K hK => ?_)) | ((with_reducible show T.Seq _ _ _ (.z _ _) _ _ _); refine T.sq_z rfl rfl (fun K hK => ?_))) | (go_at_K; refine hK.out _ _ _ hM (by (repeat (first | exact List.Sublist.refl _ | apply List.Sublist.cons))) ?_; clear hK K) | (go_at_K; refine hK.out _ _ _ hM ?_; clear hK K) | ((with_reducible show T.OW _ ⟨_, .call _, _, _, _, _⟩ _ _ _ _); refine T.OW.mk ?_; go_simp) | (go_step) | ((fail_if_success (with_reducible show T.Seq _ _ _ _ _ _ _)); (fail_if_success (with_reducible show T.OW _ _ _ _ _ _)); simp only [Int.not_lt, Int.not_le] at *; go_simp))
  all_goals (refine T.ret_cell rfl rfl _ rfl _ _ hM T.Fd.out T.TU.out _ T.TN.out (by ((with_reducible assumption))) ?_)
  all_goals subst hP
  all_goals exact ⟨rfl, hM.below⟩
theorem T.join_R (a b : T.Tot) (ra : T.R64 a.w) : T.R64 (T.join a b).w := T.wadd_R _ _ ra
attribute [irreducible] T.join
end
end Go.Proofs.YtdklknfgcepcbaaGreat.X
