/- Texts of this proof, laid together by wip/tools/pack.py: TI7, TI8, TI9, TJ1. -/
import Derived.Test.YtdklknfgcepcbaaGreatZ18
namespace Go.Proofs.YtdklknfgcepcbaaGreat.X
open Go.RowKit Go.Proofs.YtdklknfgcepcbaaGreatW.PrintWords Go.Proofs.YtdklknfgcepcbaaGreatW.PrintLast Go.Proofs.YtdklknfgcepcbaaGreatW.PrintMore
set_option linter.unusedSimpArgs false
set_option linter.unusedVariables false
set_option maxHeartbeats 2000000
set_option maxRecDepth 20000
section
attribute [local go_sem] Oper.semAt_some
def T.mfold (y : T.Tot) (r : List T.Tot) : T.Tot := r.foldl (fun acc x => T.join x acc) y
def T.mroot (p : List T.Tot) : T.Tot := match p.reverse with
  | [] => ⟨T.sum [4], [0, 0, 0, 0], 0⟩
  | y :: r => T.mfold y r
theorem T.mfold_ok : ∀ (r : List T.Tot) (y : T.Tot), y.ok → T.okP r → (T.mfold y r).ok
  | [], _, h, _ => h
  | x :: r, y, _, k => T.mfold_ok r _ (T.join_ok x y (T.okP_cons k).1.1) (T.okP_cons k).2
theorem T.mfold_R : ∀ (r : List T.Tot) (y : T.Tot), T.R64 y.w → T.okP r → T.R64 (T.mfold y r).w
  | [], _, h, _ => h
  | x :: r, y, _, k => T.mfold_R r _ (T.join_R x y (T.okP_cons k).1.2) (T.okP_cons k).2
theorem T.mroot_ok (p : List T.Tot) (k : T.okP p) : (T.mroot p).ok ∧ T.R64 (T.mroot p).w := by
  unfold T.mroot
  have hk : T.okP p.reverse := fun t ht => k t (List.mem_reverse.1 ht)
  cases h : p.reverse with
  | nil => exact ⟨⟨T.sum_len _, rfl⟩, T.R64_zero⟩
  | cons y r =>
    rw [h] at hk
    exact ⟨T.mfold_ok r y (T.okP_cons hk).1.1 (T.okP_cons hk).2, T.mfold_R r y (T.okP_cons hk).1.2 (T.okP_cons hk).2⟩
theorem T.mroot_nil (c : Nat) (A : Option Addr) (w : World) : Calls Tryz.prog 51 #[.slice A 0 c] w (T.E (.agg (T.mroot []).cells.toArray) w) := by
  have hM := T.Mem.start w
  have hsl := T.sum_len [4]
  have hsl2 : (T.u8s (T.sum [4])).length = 32 := by rw [encs_length]; exact T.sum_len _
  have hz0 : (T.u8s T.z32).length = 32 := by rw [encs_length]; rfl
  have hz37 : T.Tot.zero.cells.length = 37 := rfl
  have hz1 : (T.u64s [0, 0, 0, 0]).length = 4 := rfl
  have hj : (T.u8s (T.sum [4]) ++ (T.u64s [0, 0, 0, 0] ++ [Value.int .i64 0])).length = 37 := (T.mroot []).len ⟨T.sum_len _, rfl⟩
  have hjo : ∀ v ∈ (T.u8s (T.sum [4]) ++ (T.u64s [0, 0, 0, 0] ++ [Value.int .i64 0])), v.oneCell' = true := (T.mroot []).ones
  generalize hP : T.E (.agg (T.mroot []).cells.toArray) w = Post
  go_enter Tryz.func51, Tryz.ntmps51
  repeat' (first | (go_at_call 59; refine (T.sum_calls [4] _ (by decide) _ (hM.slB (n := 1) (c := 1) T.Fd.out (T.one_ones rfl) (Nat.le_refl _))).mono ?_; rintro _ _ ⟨rfl, hbc⟩; replace hM := hM.call hbc; clear hbc) | ((((((with_reducible show wpList _ _ _ _ _ _); (refine T.w_o rfl ?_)))); first | ((with_reducible show T.OW _ ⟨_, .store _ _ _, _, _, _, _⟩ _ _ _ _); ((refine T.op_storeAll _ _ _ rfl _ rfl _ rfl _ _ hM (by (repeat (first | exact T.Sub.head _ | apply T.Sub.tail))) _ T.TN.out (by ((with_reducible assumption))) (by ((with_reducible assumption))) (by ((with_reducible assumption))) ?_; clear hM; intro wld hM))) | ((with_reducible show T.OW _ ⟨_, .alloc _, _, _, _, _⟩ _ _ _ _); refine T.op_alloc _ rfl _ T.TZ.out hM ?_; clear hM; intro blk wld hM hlt) | ((with_reducible show T.OW _ ⟨_, .buildSlice _ _ _, _, _, _, _⟩ _ _ _ _); refine T.op_buildSl _ _ _ rfl _ T.TL.out _ T.TN.out _ T.TZ.out rfl (by decide) (by decide) _ rfl (by (((simp [T.okp, Value.cells, Act.eval, *]; done)))) _ rfl hM ?_; (try simp only [List.map_toArray, List.map_cons, List.map_nil, Act.eval, Array.getD_eq_getD_getElem?, List.toList_toArray, List.getElem?_toArray, List.getElem?_cons_zero, List.getElem?_cons_succ, Option.getD_some, T.segs, List.replicate_succ, List.replicate_zero, List.set_cons_zero, List.set_cons_succ, Value.cells, List.flatten_cons, List.flatten_nil, List.append_nil, List.cons_append, List.nil_append]); clear hM; intro blk wld hM hlt) | ((with_reducible show T.OW _ ⟨_, .build _ _, _, _, _, _⟩ _ _ _ _); ((refine T.ofx (T.x_build rfl inferInstance rfl (by (((simp [T.okp, Value.cells, Act.eval, *]; done)))) rfl) ?_; (try simp only [List.map_toArray, List.map_cons, List.map_nil, Act.eval, Array.getD_eq_getD_getElem?, List.toList_toArray, List.getElem?_toArray, List.getElem?_cons_zero, List.getElem?_cons_succ, Option.getD_some, T.segs, List.replicate_succ, List.replicate_zero, List.set_cons_zero, List.set_cons_succ, Value.cells, List.flatten_cons, List.flatten_nil, List.append_nil, List.cons_append, List.nil_append]))))); (try simp only [Act.put, List.setIfInBounds_toArray, List.set_cons_zero, List.set_cons_succ])) | (go_step) | ((fail_if_success (with_reducible show T.Seq _ _ _ _ _ _ _)); (fail_if_success (with_reducible show T.OW _ _ _ _ _ _)); simp only [Int.not_lt, Int.not_le] at *; go_simp))
  (refine T.ret_cell rfl rfl _ rfl _ _ hM T.Fd.out T.TU.out _ T.TN.out (by ((with_reducible assumption))) ?_)
  subst hP
  exact ⟨rfl, hM.below⟩
def T.rootL (b1 b2 b3 b o m c : Nat) (q : List T.Tot) (y : T.Tot) (k : Nat) : List T.Blk :=
  [.b b1 76 [.slice (some ⟨b, o, none⟩) m c], .b b3 120 (T.mfold y (q.reverse.take k)).cells, .b b2 120 T.Tot.zero.cells]
theorem T.mroot_cons (q : List T.Tot) (y : T.Tot) (kq : T.okP q) (ky : y.ok ∧ T.R64 y.w) (n : Nat) (hqn : n = q.length + 1) (hn : n ≤ 1000000) (b o c : Nat) (w : World) (hS : T.Sl w (.slice (some ⟨b, o, none⟩) n c) n (T.rc T.Tot.cells (q ++ [y]))) :
    Calls Tryz.prog 51 #[.slice (some ⟨b, o, none⟩) n c] w (T.E (.agg (T.mfold y q.reverse).cells.toArray) w) := by
  have hM := T.Mem.start w
  have hc := hS.cap
  have hall : ∀ t ∈ q ++ [y], t.cells.length = 37 := fun t ht => t.len (by
    rcases List.mem_append.1 ht with h | h
    · exact (kq t h).1
    · rw [List.mem_singleton.1 h]; exact ky.1)
  have hyl := y.len ky.1
  have hyo := y.ones
  have HY := Aside0.mk (T.rc_get hall (i := n - 1) (x := y) (by rw [hqn]; simp))
  have HS := Aside0.mk hS
  have HQ := Aside0.mk (show w.rangeAt b o (T.rc T.Tot.cells q) by
    obtain ⟨b', o', e, hr⟩ := hS.of_some
    cases e
    rw [T.rc_app] at hr
    exact fun j v hj => hr j v (by rw [List.getElem?_append_left (List.getElem?_eq_some_iff.1 hj).1]; exact hj))
  have HQN := Aside0.mk hqn
  have HK := Aside0.mk kq
  have HKY := Aside0.mk ky
  have e1 : IntKind.i64.wrap ((n : Int) - 1) = ((n - 1 : Nat) : Int) := by rw [T.w64 (by omega) (by omega)]; omega
  have d0 : decide ((n : Int) = 0) = false := decide_eq_false (by omega)
  have i1 : ((n - 1 : Nat) : Int) < (n : Int) := by omega
  have i2 : (0 : Int) ≤ ((n - 1 : Nat) : Int) := by omega
  have i3 : ((n - 1 : Nat) : Int) ≤ (c : Int) := by omega
  have hz37 : T.Tot.zero.cells.length = 37 := rfl
  clear hS hqn hall kq ky
  generalize hP : T.E (.agg (T.mfold y q.reverse).cells.toArray) w = Post
  refine (callsIn_wide (n := 0)).1 ?_
  refine callsIn_of_wp_marks Tryz.func51 rfl trivial ?_ rfl
  simp only [Tryz.ntmps51, List.size_toArray, List.length_cons, List.length_nil, Nat.reduceAdd, Nat.reduceSub, Array.replicate_succ, Array.replicate_zero, List.push_toArray, List.append_toArray, List.nil_append, List.cons_append]
  refine wpIn_wide.2 ?_
  repeat' (first | (go_at_call 95; refine (T.back_calls hM _ _ _).mono ?_; rintro _ wr ⟨b1, rfl, hM2⟩; clear hM; have hM := hM2; clear hM2) | ((((((with_reducible show wpList _ _ _ _ _ _); (refine T.w_o rfl ?_)))); first | ((with_reducible show T.OW _ ⟨_, .load _ _, _, _, _, _⟩ _ _ _ _); ((refine T.ofx (T.x_slRow rfl rfl (hM.slin HS.out) T.TU.out T.TN.out HY.out hyl) ?_))) | ((with_reducible show T.OW _ ⟨_, .store _ _ _, _, _, _, _⟩ _ _ _ _); ((refine T.op_storeAll _ _ _ rfl _ rfl _ rfl _ _ hM (by (repeat ((exact T.Sub.head _)))) _ T.TN.out (by ((with_reducible assumption))) (by ((with_reducible assumption))) (by ((with_reducible assumption))) ?_; clear hM; intro wld hM))) | ((with_reducible show T.OW _ ⟨_, .alloc _, _, _, _, _⟩ _ _ _ _); refine T.op_alloc _ rfl _ T.TZ.out hM ?_; clear hM; intro blk wld hM hlt)); (try simp only [Act.put, List.setIfInBounds_toArray, List.set_cons_zero, List.set_cons_succ])) | (go_step) | ((fail_if_success (with_reducible show T.Seq _ _ _ _ _ _ _)); (fail_if_success (with_reducible show T.OW _ _ _ _ _ _)); simp only [Int.not_lt, Int.not_le] at *; go_simp))
  have hm : n - 1 = q.length := by have := HQN.out; omega
  rw [hm] at hM ⊢
  obtain ⟨b3, rfl⟩ := T.n2 hM
  obtain ⟨b2, rfl⟩ := T.n3 hM
  have h00 : w.heap.size ≤ wr.heap.size := hM.grown.size
  have hlt := fun {e : T.Blk} {n : Nat} (he : e ∈ _) (hk : e.key = some n) => hM.size he hk
  have hlt1 : b1 < wr.heap.size := hlt (e := .b b1 _ _) List.mem_cons_self rfl
  have hlt3 : b3 < wr.heap.size := hlt (e := .b b3 _ _) (List.mem_cons_of_mem _ List.mem_cons_self) rfl
  have hlt2 : b2 < wr.heap.size := hlt (e := .b b2 _ _) (List.mem_cons_of_mem _ (List.mem_cons_of_mem _ List.mem_cons_self)) rfl
  have hs : ∀ k, ∀ e ∈ T.rootL b1 b2 b3 b o q.length c q y k, ∃ n t cs, e = .b n t cs ∧ n < wr.heap.size := by
    intro k e he
    unfold T.rootL at he
    simp only [List.mem_cons, List.not_mem_nil, or_false] at he
    rcases he with rfl | rfl | rfl
    · exact ⟨_, _, _, rfl, hlt1⟩
    · exact ⟨_, _, _, rfl, hlt3⟩
    · exact ⟨_, _, _, rfl, hlt2⟩
  have hS := Aside0.mk hs
  have HM := Aside0.mk hM
  clear hs hM hlt
  have hql : q.length ≤ 100000000 := by have := HQN.out; omega
  refine wpIn_wide.1 (E.rangeLaw2 (gf := 133) (lb := #[.pointer (some ⟨b1, 0, none⟩)]) rfl (enters_of Tryz.func133 (by kernel_rfl) rfl) (T.back_seq q HK.out b o c b1 hql) (fun _ => rfl)
    (fun k X => T.Mem w none X (T.rootL b1 b2 b3 b o q.length c q y k)) (fun _ _ => False) ?hI ?hIx ?hR ?h0
    (fun k _ a' X => ∃ bx u24 u25, wr.heap.size + 2 ≤ bx ∧ a' = { tmps := #[.slice (some ⟨b, o, none⟩) n c, undef, .pointer (some ⟨b2, 0, none⟩), .pointer (some ⟨b3, 0, none⟩), undef, .pointer (some ⟨bx, 0, none⟩), .slice (some ⟨b, o, none⟩) n c, .int .i64 n, .bool false, undef, undef, undef, .slice (some ⟨b, o, none⟩) n c, .slice (some ⟨b, o, none⟩) n c, .int .i64 n, .int .i64 q.length, .pointer (some ⟨b, o + q.length * 37, none⟩), .agg y.cells.toArray, .slice (some ⟨b, o, none⟩) n c, .slice (some ⟨b, o, none⟩) n c, .int .i64 n, .int .i64 q.length, .slice (some ⟨b, o, none⟩) q.length c, .func (.func 133) #[] #[.pointer (some ⟨b1, 0, none⟩)], u24, u25, undef, undef, undef, undef], defers := [] } ∧ T.Mem w none X (.b bx 120 (q.getD (q.length - 1 - k) T.Tot.zero).cells :: T.rootL b1 b2 b3 b o q.length c q y k)) ?hB ?assign ?body ?done ?stop)
  case hI =>
    intro k X Y h hb
    exact h.keep (hS.out k) h00 hb
  case hIx => intro _ _ _ h; exact h.elim
  case hR =>
    intro k X h
    exact ⟨T.cell_at h (b := b1) (o := 0) List.mem_cons_self rfl, T.range_kept HQ.out h.grown (by simp)⟩
  case h0 => exact HM.out
  case hB =>
    rintro k x a' X ob ⟨bx, u24, u25, hbx, rfl, h⟩
    refine ⟨bx, u24, u25, hbx, rfl, h.past (grownBy_putObj' X _ ob) (by omega) fun e he hk => ?_⟩
    rcases List.mem_cons.1 he with rfl | he
    · cases hk; omega
    · obtain ⟨n, t, cs, rfl, hn⟩ := hS.out k e he
      cases hk
      omega
  case assign =>
    intro l2 k x X K hx hX h hK
    have hk : k < q.length := by
      have := (List.getElem?_eq_some_iff.1 hx).1
      rwa [List.length_range] at this
    rw [List.getElem?_range hk] at hx
    obtain rfl := Option.some.inj hx
    clear hx
    have hM := T.Mem.start X
    have hxl : (q.getD (q.length - 1 - k) T.Tot.zero).cells.length = 37 := by
      have hi : q.length - 1 - k < q.length := by omega
      rw [List.getD_eq_getElem?_getD, List.getElem?_eq_getElem hi]
      exact (q[q.length - 1 - k]).len (HK.out _ (List.getElem_mem hi)).1
    have hxo := (q.getD (q.length - 1 - k) T.Tot.zero).ones
    have HH := Aside0.mk h
    have HKK := Aside0.mk hK
    clear h hK
    simp only [T.encW]
    generalize (q.getD (q.length - 1 - k) T.Tot.zero).cells = xc at *
    simp only [List.zip_toArray, List.foldl_toArray, List.zip_cons_cons, List.zip_nil_right, List.foldl_cons, List.foldl_nil, List.setIfInBounds_toArray, List.set_cons_succ, List.set_cons_zero]
    refine wpIn_region_list ?_
    refine T.in_v rfl rfl (by intro c h; cases h) (fun _ _ => trivial) (T.op_alloc _ rfl _ T.TZ.out hM ?_)
    clear hM
    intro bx wld hM hbx
    (try simp only [Act.put, List.setIfInBounds_toArray, List.set_cons_zero, List.set_cons_succ])
    refine T.in_store _ _ _ rfl rfl (fun _ _ => trivial) ?_
    refine T.op_storeAll _ _ _ rfl _ rfl _ rfl _ _ hM (by (repeat ((exact T.Sub.head _)))) _ T.TN.out hxl hxo hz37 ?_
    clear hM; intro wld hM
    refine HKK.out _ _ (E.KeepsOn.of_below hM.below) ⟨bx, _, _, by omega, rfl, HH.out.push hM.grown ?_ ?_⟩
    · exact hM.row _ List.mem_cons_self
    · intro k hk; cases hk; exact hbx
  case body =>
    rintro l2 k x a' X hx hX ⟨bx, u24, u25, hbx, rfl, h⟩
    have hk : k < q.length := by
      have := (List.getElem?_eq_some_iff.1 hx).1
      rwa [List.length_range] at this
    clear hx
    have hi : q.length - 1 - k < q.length := by omega
    have hq : q.getD (q.length - 1 - k) T.Tot.zero = q[q.length - 1 - k] := by rw [List.getD_eq_getElem?_getD, List.getElem?_eq_getElem hi]; rfl
    have kt := HK.out _ (List.getElem_mem hi)
    have hstep : T.join q[q.length - 1 - k] (T.mfold y (q.reverse.take k)) = T.mfold y (q.reverse.take (k + 1)) := by
      rw [List.take_succ_eq_append_getElem (by rw [List.length_reverse]; exact hk), List.getElem_reverse]
      unfold T.mfold
      rw [List.foldl_append]
      rfl
    have kr : T.okP (q.reverse.take k) := fun t ht => HK.out t (List.mem_reverse.1 (List.mem_of_mem_take ht))
    have ka := T.mfold_ok _ y HKY.out.1 kr
    have ra := T.mfold_R _ y HKY.out.2 kr
    rw [hq] at h
    unfold T.rootL at h
    generalize q[q.length - 1 - k] = tt at *
    generalize hacc : T.mfold y (q.reverse.take k) = acc at *
    have htl := tt.len kt.1
    have hal := acc.len ka
    have hjl : (T.join tt acc).cells.length = 37 := (T.join tt acc).len (T.join_ok _ _ kt.1)
    have hjo := (T.join tt acc).ones
    have hM := T.Mem.startF X (h.row (.b b3 _ _) (List.mem_cons_of_mem _ (List.mem_cons_of_mem _ List.mem_cons_self)))
    have HBX := Aside0.mk (T.range_all h List.mem_cons_self)
    have hne : some b3 ≠ some bx := fun e => by cases e; omega
    refine wpIn_block ?_
    refine wpIn_region_list ?_
    refine T.in_v rfl rfl (by intro c h; cases h) (fun _ _ => trivial) (T.ofx (T.x_range rfl rfl (T.range_kept HBX.out hM.grown hne) T.TU.out T.TN.out htl) ?_)
    (try simp only [Act.put, List.setIfInBounds_toArray, List.set_cons_zero, List.set_cons_succ])
    refine T.in_v rfl rfl (by intro c h; cases h) (fun _ _ => trivial) (T.ofx (T.x_loadAll rfl rfl T.Fd.out T.TU.out T.TN.out hal hM) ?_)
    (try simp only [Act.put, List.setIfInBounds_toArray, List.set_cons_zero, List.set_cons_succ])
    have HH := Aside0.mk h
    have HST := Aside0.mk hstep
    clear h hstep
    gi_wp2_with fail
    refine ⟨trivial, rfl, CallsIn.mono (CallsIn.inRound l2 (callsIn_wide.2 (T.join_calls tt acc kt.1 ka kt.2 ra _))) ?_⟩
    rintro e X' ⟨rfl, hbc⟩
    replace hM := hM.call hbc
    gi_wp2_with ((with_reducible show wpListIn _ _ _ _ _ (⟨_, .store _ _ _, _, _, _, _⟩ :: _) _ _); refine T.in_store _ _ _ rfl rfl (fun _ _ => trivial) (T.op_storeAll _ _ _ rfl _ rfl _ rfl _ _ hM (by (repeat ((exact T.Sub.head _)))) _ T.TN.out (by ((with_reducible assumption))) (by ((with_reducible assumption))) (by ((with_reducible assumption))) ?_); clear hM; intro wld hM)
    refine ⟨⟨hM.grown.size, fun bb hb hl => hM.grown.block bb hl (fun e => by cases e; omega)⟩, ?_⟩
    have h2 := (HH.out.turn (.tail _ (.tail _ (.head _))) hM.grown (y := .b b3 120 (T.join tt acc).cells) (show T.Blk.lies w.heap.size wld (.b b3 120 (T.join tt acc).cells) from hM.row (.b b3 120 (T.join tt acc).cells) List.mem_cons_self) (fun k hk => .inl hk)).drop (List.Sublist.cons _ (List.Sublist.refl _))
    rw [HST.out] at h2
    exact h2
  case done =>
    intro X hX h hmark
    have hM := T.Mem.mark h hmark h00 (hS.out _)
    rw [List.length_range] at hM
    unfold T.rootL at hM
    clear h hmark
    rw [List.take_of_length_le (by rw [List.length_reverse]; exact Nat.le_refl _)] at hM
    have kr : T.okP q.reverse := fun t ht => HK.out t (List.mem_reverse.1 ht)
    have hfl := (T.mfold y q.reverse).len (T.mfold_ok _ y HKY.out.1 kr)
    have hfo := (T.mfold y q.reverse).ones
    clear HM
    dsimp only [Exit.inBlock]
    repeat' (first | ((((((with_reducible show wpList _ _ _ _ _ _); (refine T.w_o rfl ?_)))); first | ((with_reducible show T.OW _ ⟨_, .load _ _, _, _, _, _⟩ _ _ _ _); ((refine T.ofx (T.x_loadAll rfl rfl T.Fd.out T.TU.out T.TN.out (by ((with_reducible assumption))) hM) ?_))) | ((with_reducible show T.OW _ ⟨_, .store _ _ _, _, _, _, _⟩ _ _ _ _); ((refine T.op_storeAll _ _ _ rfl _ rfl _ rfl _ _ hM (by (repeat (first | exact T.Sub.head _ | apply T.Sub.tail))) _ T.TN.out (by ((with_reducible assumption))) (by ((with_reducible assumption))) (by ((with_reducible assumption))) ?_; clear hM; intro wld hM)))); (try simp only [Act.put, List.setIfInBounds_toArray, List.set_cons_zero, List.set_cons_succ])) | (go_step))
    have hmk : wld.heap[wr.heap.size]? = some (.deferred (some [])) := hM.row (.o _ _) List.mem_cons_self
    have hM3 : T.Mem w none (wld.putObj wr.heap.size (.deferred none)) _ := hM.turn (y := .o wr.heap.size (.deferred none)) (.head _) (grownBy_putObj' _ _ _) (World.putObj_heap_same (Array.getElem?_eq_some_iff.1 hmk).1) (fun k hk => .inl hk)
    refine ⟨by simp, .inl ⟨_, _, rfl, run_takeDeferred hmk, ?_⟩⟩
    refine ⟨.agg (T.mfold y q.reverse).cells.toArray, T.res_cell rfl b2 rfl _ _ hM3 T.Fd.out T.TU.out _ T.TN.out (by ((with_reducible assumption))), ?_⟩
    rw [← hP]
    exact ⟨rfl, hM3.below⟩
  case stop => intro _ _ _ _ h; exact h.elim
theorem T.mroot_calls (p : List T.Tot) (kp : T.okP p) (hn : p.length ≤ 1000000) (v : Value) (w : World) (hS : T.Sl w v p.length (T.rc T.Tot.cells p)) : Calls Tryz.prog 51 #[v] w (T.E (.agg (T.mroot p).cells.toArray) w) := by
  obtain ⟨A, c, rfl, _, _, _⟩ := id hS
  rcases List.eq_nil_or_concat p with rfl | ⟨q, y, rfl⟩
  · exact T.mroot_nil c A w
  · rw [List.concat_eq_append] at *
    obtain ⟨b, o, rfl⟩ := hS.adr (by simp)
    have hl : (q ++ [y]).length = q.length + 1 := by simp
    have e : T.mroot (q ++ [y]) = T.mfold y q.reverse := by unfold T.mroot; rw [List.reverse_append]; rfl
    rw [e]
    exact T.mroot_cons q y (fun t ht => kp t (List.mem_append_left _ ht)) (kp y (by simp)) _ hl hn b o c w hS
end
theorem T.growI_calls (n : Nat) (hn : n ≤ 1000000) (w : World) : Calls Tryz.prog 192 #[.slice none 0 0, .int .i64 n] w (T.EG 44 32 0 [] w) := by
  have hM := T.Mem.start w
  have HN := Aside0.mk hn
  have hw : IntKind.i64.wrap (n : Int) = (n : Int) := T.w64 (by omega) (by omega)
  have dn : decide ((n : Int) < 0) = false := decide_eq_false (by omega)
  clear hn
  generalize hP : T.EG 44 32 0 [] w = Post
  by_cases h0 : 0 < n
  · have d0 : decide ((0 : Int) < (n : Int)) = true := decide_eq_true (by omega)
    go_enter Tryz.func192, Tryz.ntmps192
    repeat' (first | (((((with_reducible show wpList _ _ _ (⟨_, .call ⟨.builtin .append, _, _⟩, _, _, _, _⟩ :: _) _ _); refine T.w_o rfl ?_))); refine T.op_zeros _ _ _ _ rfl _ _ _ T.TE.out Tryz.underlying3 rfl _ _ rfl h0 (by decide) (by decide) (by have := HN.out; omega) hM ?_; clear hM; intro gb gc wld hc hM) | (go_step) | go_back)
    subst hP
    exact hM.eg List.mem_cons_self
  · have e0 : n = 0 := by omega
    subst e0
    go_enter Tryz.func192, Tryz.ntmps192
    repeat' (first | (go_step) | go_back)
    subst hP
    exact (hM.nil _ _).eg List.mem_cons_self
def T.catI (l : List (Value × List (List Int))) : List (List Int) := l.flatMap (·.2)
theorem T.catI_take (l : List (Value × List (List Int))) (i : Nat) (h : i < l.length) : T.catI (l.take (i + 1)) = T.catI (l.take i) ++ (l[i]).2 := by
  rw [T.catI, List.take_succ_eq_append_getElem h, List.flatMap_append]
  simp [T.catI]
theorem T.catI_le (l : List (Value × List (List Int))) (i : Nat) : (T.catI (l.take i)).length ≤ (T.catI l).length := by
  conv => rhs; rw [← List.take_append_drop i l]
  rw [T.catI, T.catI, List.flatMap_append, List.length_append]
  omega
theorem T.concatI_calls (l : List (Value × List (List Int))) (b o c : Nat) (w : World) (hr : w.rangeAt b o (l.map (·.1))) (hn : l.length ≤ 100000) (hs : ∀ p ∈ l, T.okn 32 p.2 ∧ T.Sl w p.1 p.2.length (T.rc T.u8s p.2)) (ht : (T.catI l).length ≤ 1000000) :
    Calls Tryz.prog 158 #[.slice (some ⟨b, o, none⟩) l.length c] w (T.EG 44 32 (T.catI l).length (T.rc T.u8s (T.catI l)) w) := by
  have hM := T.Mem.start w
  have HT := Aside0.mk ht
  have HS := Aside0.mk hs
  have HR := Aside0.mk hr
  clear ht hs hr
  generalize hP : T.EG 44 32 (T.catI l).length (T.rc T.u8s (T.catI l)) w = Post
  go_enter Tryz.func158, Tryz.ntmps158
  repeat' (((go_step)))
  go_loopg [3, 11] (l.length + 1) (fun kq v3 v11 Wd => ∃ i : Nat, v3 = .int .i64 ((T.catI (l.take i)).length : Nat) ∧ v11 = .int .i64 i ∧ i ≤ l.length ∧ l.length - i < kq ∧ Aside0 (T.Mem w none Wd []))
  case atStart => exact ⟨0, rfl, rfl, by omega, by omega, ⟨hM⟩⟩
  case round =>
    clear hM
    obtain ⟨i, rfl, rfl, hi, hg, hMo⟩ := hrel
    have hM := hMo.out
    clear hMo
    by_cases hlt : i < l.length
    · have hltz : (i : Int) < (l.length : Int) := by omega
      have cb : decide ((i : Int) < (l.length : Int)) = true := decide_eq_true hltz
      have hi0 : (0 : Int) ≤ (i : Int) := by omega
      obtain ⟨A, cc, hv, _, _, _⟩ := (HS.out _ (List.getElem_mem hlt)).2
      have hcell : w.cell? ⟨b, o + i, none⟩ = some (.slice A (l[i]).2.length cc) := HR.out i _ (by rw [List.getElem?_map, List.getElem?_eq_getElem hlt, Option.map_some, hv])
      have HC := Aside0.mk hcell
      clear hcell hv
      have hle := T.catI_le l (i + 1)
      have hto := HT.out
      have hlen : (T.catI (l.take (i + 1))).length = (T.catI (l.take i)).length + (l[i]).2.length := by rw [T.catI_take l i hlt, List.length_append]
      have e1 : IntKind.i64.wrap (((T.catI (l.take i)).length : Int) + ((l[i]).2.length : Int)) = ((T.catI (l.take (i + 1))).length : Int) := by rw [T.w64 (by omega) (by omega)]; omega
      have d1 : decide (((T.catI (l.take (i + 1))).length : Int) < 0) = false := decide_eq_false (by omega)
      clear hto hle hlen
      repeat' (first | ((((((with_reducible show wpList _ _ _ _ _ _); (refine T.w_o rfl ?_)))); (((with_reducible show T.OW _ ⟨_, .load _ _, _, _, _, _⟩ _ _ _ _); ((refine T.ofx (T.x_cell rfl rfl T.TS.out (hM.grown.cell HC.out (by simp))) ?_))))); (try simp only [Act.put, List.setIfInBounds_toArray, List.set_cons_zero, List.set_cons_succ])) | (go_step))
      go_roundg (l.length - i)
      case measure => omega
      case rel => exact ⟨i + 1, rfl, by go_num, by omega, by omega, ⟨hM⟩⟩
    · have hiN : i = l.length := by omega
      have hltz : ¬ (i : Int) < (l.length : Int) := by omega
      have cb : decide ((i : Int) < (l.length : Int)) = false := decide_eq_false hltz
      subst hiN
      rw [List.take_length]
      repeat' (first | (go_at_call 192; refine (T.growI_calls _ HT.out _).mono ?_; rintro _ wr ⟨v, rfl, ho, h1, hbc⟩; replace hM := hM.callG hbc ho h1; clear hbc ho h1) | (go_step) | ((fail_if_success (with_reducible show T.Seq _ _ _ _ _ _ _)); (fail_if_success (with_reducible show T.OW _ _ _ _ _ _)); simp only [Int.not_lt, Int.not_le] at *; go_simp))
      have hcat : (T.rc T.u8s (T.catI (l.take 0))) = [] := rfl
      go_loopg [6, 27] (l.length + 1) (fun kq v6 v27 Wd => ∃ i : Nat, v27 = .int .i64 i ∧ i ≤ l.length ∧ l.length - i < kq ∧ Aside0 (T.Mem w none Wd [.g v6 44 32 (T.catI (l.take i)).length (T.rc T.u8s (T.catI (l.take i)))]))
      case atStart => exact ⟨0, rfl, by omega, by omega, ⟨hM⟩⟩
      case round =>
        clear hM hcat
        obtain ⟨i, rfl, hi, hg, hMo⟩ := hrel
        rename_i v6
        have hM := hMo.out
        clear hMo
        by_cases hlt : i < l.length
        · have hltz : (i : Int) < (l.length : Int) := by omega
          have cb : decide ((i : Int) < (l.length : Int)) = true := decide_eq_true hltz
          have hi0 : (0 : Int) ≤ (i : Int) := by omega
          have hsi := (HS.out _ (List.getElem_mem hlt)).2
          obtain ⟨A, cc, hv, _, _, _⟩ := hsi
          have hcell : w.cell? ⟨b, o + i, none⟩ = some (.slice A (l[i]).2.length cc) := HR.out i _ (by rw [List.getElem?_map, List.getElem?_eq_getElem hlt, Option.map_some, hv])
          have HC := Aside0.mk hcell
          have hsi2 := (HS.out _ (List.getElem_mem hlt)).2
          rw [hv] at hsi2
          have HSI := Aside0.mk hsi2
          clear hcell hv hsi2
          have hle := T.catI_le l (i + 1)
          have hto := HT.out
          have hlen : (T.catI (l.take (i + 1))).length = (T.catI (l.take i)).length + (l[i]).2.length := by rw [T.catI_take l i hlt, List.length_append]
          have hbd : ((T.catI (l.take i)).length + (l[i]).2.length) * 32 ≤ 70368744177664 := by omega
          have HB := Aside0.mk hbd
          clear hto hle hbd
          have hln : (T.rc T.u8s (l[i]).2).length = (l[i]).2.length * 32 := T.rc_len (fun x hx => by rw [encs_length]; exact (HS.out _ (List.getElem_mem hlt)).1 x hx)
          repeat' (first | ((with_reducible show wpList _ _ _ (⟨_, .call ⟨.builtin .append, _, _⟩, _, _, _, _⟩ :: _) _ _); refine T.w_o rfl ?_; refine T.op_app _ _ _ rfl _ _ _ T.TE.out _ _ _ rfl _ _ _ hM (fun _ => by (repeat ((exact T.Sub.head _)))) (hM.slin HSI.out) hln (by decide) (by decide) HB.out ?_; clear hM; intro gsv wld hM; (try simp only [Act.put, List.setIfInBounds_toArray, List.set_cons_zero, List.set_cons_succ])) | ((((((with_reducible show wpList _ _ _ _ _ _); (refine T.w_o rfl ?_)))); (((with_reducible show T.OW _ ⟨_, .load _ _, _, _, _, _⟩ _ _ _ _); ((refine T.ofx (T.x_cell rfl rfl T.TS.out (hM.grown.cell HC.out (by simp))) ?_))))); (try simp only [Act.put, List.setIfInBounds_toArray, List.set_cons_zero, List.set_cons_succ])) | (go_step))
          go_roundg (l.length - i)
          case measure => omega
          case rel => exact ⟨i + 1, by go_num, by omega, by omega, ⟨by rw [T.catI_take l i hlt, List.length_append, T.rc_app]; exact hM⟩⟩
        · have hiN : i = l.length := by omega
          have hltz : ¬ (i : Int) < (l.length : Int) := by omega
          have cb : decide ((i : Int) < (l.length : Int)) = false := decide_eq_false hltz
          subst hiN
          rw [List.take_length] at hM
          repeat' (first | (go_step) | go_back | ((fail_if_success (with_reducible show T.Seq _ _ _ _ _ _ _)); (fail_if_success (with_reducible show T.OW _ _ _ _ _ _)); simp only [Int.not_lt, Int.not_le] at *; go_simp))
          subst hP
          exact hM.eg List.mem_cons_self
theorem T.concatI2 {w0 w : World} {F : Option Nat} {L : List T.Blk} {b c : Nat} {t : TypeId} {v1 v2 : Value} (b1 b2 : List (List Int)) (k1 : T.okn 32 b1) (k2 : T.okn 32 b2) (hM : T.Mem w0 F w L) (hm : .b b t [v1, v2] ∈ L) (h1 : T.Sl w v1 b1.length (T.rc T.u8s b1)) (h2 : T.Sl w v2 b2.length (T.rc T.u8s b2))
    (ht : (b1 ++ b2).length ≤ 1000000) : Calls Tryz.prog 158 #[.slice (some ⟨b, 0, none⟩) 2 c] w (T.EG 44 32 (b1 ++ b2).length (T.rc T.u8s (b1 ++ b2)) w) := by
  have e : T.catI [(v1, b1), (v2, b2)] = b1 ++ b2 := by simp [T.catI]
  have := T.concatI_calls [(v1, b1), (v2, b2)] b 0 c w (T.range_all hM hm) (Nat.le_of_ble_eq_true rfl) (by simp; exact ⟨⟨k1, h1⟩, k2, h2⟩) (by rw [e]; exact ht)
  rw [e] at this
  exact this
theorem T.mul64_calls (c : Nat) (hc : c ≤ 31) (w : World) : Calls Tryz.prog 212 #[.int .u64 1, .int .u64 (c : Int)] w (T.E (.tuple #[.int .u64 0, .int .u64 (c : Int)]) w) := by
  have hM := T.Mem.start w
  have h : c = 0 ∨ c = 1 ∨ c = 2 ∨ c = 3 ∨ c = 4 ∨ c = 5 ∨ c = 6 ∨ c = 7 ∨ c = 8 ∨ c = 9 ∨ c = 10 ∨ c = 11 ∨ c = 12 ∨ c = 13 ∨ c = 14 ∨ c = 15 ∨ c = 16 ∨ c = 17 ∨ c = 18 ∨ c = 19 ∨ c = 20 ∨ c = 21 ∨ c = 22 ∨ c = 23 ∨ c = 24 ∨ c = 25 ∨ c = 26 ∨ c = 27 ∨ c = 28 ∨ c = 29 ∨ c = 30 ∨ c = 31 := by omega
  clear hc
  rcases h with rfl|rfl|rfl|rfl|rfl|rfl|rfl|rfl|rfl|rfl|rfl|rfl|rfl|rfl|rfl|rfl|rfl|rfl|rfl|rfl|rfl|rfl|rfl|rfl|rfl|rfl|rfl|rfl|rfl|rfl|rfl|rfl
  all_goals generalize hP : T.E _ w = Post
  all_goals go_enter Tryz.func212, Tryz.ntmps212
  all_goals repeat' (first | (go_step) | go_back)
  all_goals subst hP
  all_goals exact ⟨rfl, hM.below⟩
theorem T.mul_calls (c : Nat) (hc : c ≤ 31) (w : World) : Calls Tryz.prog 193 #[.int .u64 1, .int .u64 (c : Int)] w (T.E (.tuple #[.int .u64 0, .int .u64 (c : Int)]) w) := by
  have hM := T.Mem.start w
  generalize hP : T.E (.tuple #[.int .u64 0, .int .u64 (c : Int)]) w = Post
  go_enter Tryz.func193, Tryz.ntmps193
  repeat' (first | (go_at_call 212; refine (T.mul64_calls c hc _).mono ?_; rintro _ _ ⟨rfl, hbc⟩; replace hM := hM.call hbc; clear hbc) | (go_step) | go_back | ((fail_if_success (with_reducible show T.Seq _ _ _ _ _ _ _)); (fail_if_success (with_reducible show T.OW _ _ _ _ _ _)); simp only [Int.not_lt, Int.not_le] at *; go_simp))
  subst hP
  exact ⟨rfl, hM.below⟩
theorem T.run_copy {P : Program} (w : World) (dT sT ty elem : TypeId) (g o dLen dCap : Nat) (a : Addr) (sLen sCap k m : Nat) (cur : Array Value) (t : TypeId) (cs : List Value)
    (hu : P.underlying dT = some (.slice elem)) (hs : (P.info? elem).map (·.size) = some k)
    (hg : w.heap[g]? = some (.cells cur t (0, 0))) (hm : Nat.min sLen dLen = m) (hn : cs.length = m * k)
    (hsrc : ∀ j v, cs[j]? = some v → w.cell? (a.add j) = some v) (hfit : o + cs.length ≤ cur.size) (h1 : ∀ v ∈ cs, v.oneCell' = true) :
    (Builtin.copy_ #[dT, sT] ty #[.slice (some ⟨g, o, none⟩) dLen dCap, .slice (some a) sLen sCap]).run P w =
      .ok (goInt m) (w.setRow g (cur.toList.take o ++ cs ++ cur.toList.drop (o + cs.length)).toArray) := by
  have hl := run_loadCells_list (P := P) w a cs hsrc
  have hst := run_storeCells_at P g o t cs 0 cur w hg (by simpa using hfit) h1
  cases hq : P.info? elem with
  | none => simp [hq] at hs
  | some i =>
    have hi : i.size = k := by simpa [hq] using hs
    simp [Builtin.copy_, run_underlying hu, Builtin.lenOf, Builtin.firstCells, sizeOf, typeInfo, hq, hi, hm, ← hn, hl, hst]
theorem T.op_copy {P : Program} {op : Oper} {a : Act} {w w0 : World} {Q : Exit → Act → World → Prop} {L L' : List T.Blk} {F : Option Nat} {K : Act → World → Prop} (d s : Operand) (dT sT : TypeId) (ho : op.op = .call { callee := .builtin .copy, args := #[d, s], argTypes := #[dT, sT] })
    (el : TypeId) (hu : P.underlying dT = some (.slice el)) (k : Nat) (hi : (P.info? el).map (·.size) = some k) (g o dLen dCap : Nat) (hd : a.eval d = .slice (some ⟨g, o, none⟩) dLen dCap) (b2 o2 sLen sCap : Nat) (hs : a.eval s = .slice (some ⟨b2, o2, none⟩) sLen sCap)
    (t : TypeId) (cs cs' news : List Value) (m : Nat) (hm : Nat.min sLen dLen = m) (hn : news.length = m * k) (hr : w.rangeAt b2 o2 news) (h1 : ∀ v ∈ news, v.oneCell' = true) (hM : T.Mem w0 F w L) (hsub : T.Sub (.b g t cs) (.b g t cs') L L') (hfit : o + news.length ≤ cs.length)
    (hcs : cs.take o ++ news ++ cs.drop (o + news.length) = cs') (h : ∀ w', T.Mem w0 F w' L' → K (a.put op.dst (goInt m)) w') : T.OW P op a w K Q := by
  refine ⟨?_⟩
  subst hcs
  have hrun := T.run_copy (P := P) w dT sT op.type el g o dLen dCap ⟨b2, o2, none⟩ sLen sCap k m cs.toArray t news hu hi (hM.row _ hsub.mem) hm hn (fun j v hj => by rw [Addr.add_mid]; exact hr j v hj) (by simpa using hfit) h1
  have hh := h _ (hM.set hsub)
  unfold Oper.wp execOp
  simp only [ho, resolve, invoke, builtin, Sem.run_bind, Sem.run_pure, Result.andThen_ok, List.map_toArray, List.map_cons, List.map_nil, hd, hs, hrun]
  exact hh
def T.reps (id : List Int) (n c : Nat) : List (List Int) := List.replicate n id ++ List.replicate (c - n) T.z32
theorem T.reps_ok (id : List Int) (hid : id.length = 32) (n c : Nat) : ∀ x ∈ T.reps id n c, (T.u8s x).length = 32 := fun x hx => by
  rw [encs_length]
  rcases List.mem_append.1 hx with h | h
  · rw [(List.mem_replicate.1 h).2]; exact hid
  · rw [(List.mem_replicate.1 h).2]; rfl
theorem T.reps_len (id : List Int) (n c : Nat) (h : n ≤ c) : (T.reps id n c).length = c := by simp [T.reps]; omega
theorem T.reps_step (id : List Int) (hid : id.length = 32) (n m c : Nat) (h : n + m ≤ c) :
    (T.rc T.u8s (T.reps id n c)).take (n * 32) ++ T.rc T.u8s (List.replicate m id) ++ (T.rc T.u8s (T.reps id n c)).drop (n * 32 + (T.rc T.u8s (List.replicate m id)).length) = T.rc T.u8s (T.reps id (n + m) c) := by
  have hok := T.reps_ok id hid n c
  have hl : (T.rc T.u8s (List.replicate m id)).length = m * 32 := by
    rw [T.rc_len (k := 32) (fun x hx => by rw [(List.mem_replicate.1 hx).2, encs_length]; exact hid), List.length_replicate]
  rw [hl, ← Nat.add_mul, T.rc_take hok, T.rc_drop hok, ← T.rc_app, ← T.rc_app]
  congr 1
  unfold T.reps
  rw [List.take_left' (by simp), List.drop_append, List.drop_eq_nil_of_le (by simp), List.nil_append, List.length_replicate, List.drop_replicate, List.append_assoc, ← List.append_assoc, List.replicate_append_replicate]
  congr 2
  omega
theorem T.rep_rc (c : Nat) : (List.replicate c (T.u8s T.z32)).flatten = T.rc T.u8s (List.replicate c T.z32) := by simp [T.rc]
theorem T.repeat_calls (id : List Int) (hid : id.length = 32) (c : Nat) (h1 : 1 ≤ c) (h31 : c ≤ 31) (b o cc : Nat) (w : World) (hS : T.Sl w (.slice (some ⟨b, o, none⟩) 1 cc) 1 (T.u8s id)) : Calls Tryz.prog 159 #[.slice (some ⟨b, o, none⟩) 1 cc, .int .i64 (c : Int)] w (T.EG 44 32 c (T.rc T.u8s (List.replicate c id)) w) := by
  have hM := T.Mem.start w
  have HS := Aside0.mk hS
  have d0 : decide ((c : Int) < 0) = false := decide_eq_false (by omega)
  have e0 : IntKind.u64.wrap (c : Int) = (c : Int) := by rw [IntKind.wrap_u64]; omega
  have e1 : IntKind.i64.wrap (c : Int) = (c : Int) := T.w64 (by omega) (by omega)
  have hcb : c * 32 ≤ 70368744177664 := by omega
  have hz0 : (T.u8s T.z32).length = 32 := by rw [encs_length]; rfl
  have d1 : decide ((9223372036854775807 : Int) < (c : Int)) = false := decide_eq_false (by omega)
  have H1 := Aside0.mk h1
  have H31 := Aside0.mk h31
  have hr0 : List.replicate c T.z32 = T.reps id 0 c := by simp [T.reps]
  have HR := Aside0.mk (show w.rangeAt b o (T.u8s id) by
    obtain ⟨b', o', e, hr⟩ := hS.of_some
    cases e
    exact hr)
  have hm1 : Nat.min 1 c = 1 := Nat.min_eq_left h1
  have hn1 : (T.u8s id).length = 1 * 32 := by rw [encs_length]; omega
  have ho1 := T.ones_encs .u8 id
  have hrl : ∀ n, n ≤ c → (T.rc T.u8s (T.reps id n c)).length = c * 32 := fun n hn => by rw [T.rc_len (T.reps_ok id hid n c), T.reps_len id n c hn]
  have hf1 : 0 + (T.u8s id).length ≤ (T.rc T.u8s (T.reps id 0 c)).length := by rw [hrl 0 (by omega), encs_length, hid]; omega
  have hc1 : (T.rc T.u8s (T.reps id 0 c)).take 0 ++ T.u8s id ++ (T.rc T.u8s (T.reps id 0 c)).drop (0 + (T.u8s id).length) = T.rc T.u8s (T.reps id 1 c) := by
    have := T.reps_step id hid 0 1 c (by omega)
    rw [List.replicate_one, T.rc_one] at this
    simpa using this
  have HRL := Aside0.mk hrl
  clear hS h1 h31 hrl
  generalize hP : T.EG 44 32 c (T.rc T.u8s (List.replicate c id)) w = Post
  go_enter Tryz.func159, Tryz.ntmps159
  repeat' (first | (go_at_call 193; refine (T.mul_calls c H31.out _).mono ?_; rintro _ _ ⟨rfl, hbc⟩; replace hM := hM.call hbc; clear hbc) | ((with_reducible show wpList _ _ _ (⟨_, .call ⟨.builtin .copy, _, _⟩, _, _, _, _⟩ :: _) _ _); refine T.w_o rfl ?_; rw [T.rep_rc, hr0] at hM; refine T.op_copy _ _ _ _ rfl _ T.TL.out _ T.TN.out _ 0 _ _ rfl _ _ _ _ rfl _ _ _ _ 1 hm1 hn1 (T.range_kept HR.out hM.grown (by simp)) ho1 hM (by (repeat ((exact T.Sub.head _)))) hf1 hc1 ?_; clear hM; intro wld hM; (try simp only [Act.put, List.setIfInBounds_toArray, List.set_cons_zero, List.set_cons_succ])) | ((((((with_reducible show wpList _ _ _ _ _ _); first | refine T.w_o rfl ?_ | ((with_reducible show wpList _ _ _ (⟨_, _, _, _, _, some _⟩ :: _) _ _); refine T.w_g rfl ?_)))); (((with_reducible show T.OW _ ⟨_, .makeSlice _ _ _, _, _, _, _⟩ _ _ _ _); refine T.op_make _ _ _ rfl _ _ _ T.TE.out _ T.TZ.out rfl _ _ _ rfl rfl (by ((with_reducible assumption))) (by decide) hM ?_; clear hM; intro blk wld hM hlt; (try simp only [List.map_toArray, List.map_cons, List.map_nil, Act.eval, Array.getD_eq_getD_getElem?, List.toList_toArray, List.getElem?_toArray, List.getElem?_cons_zero, List.getElem?_cons_succ, Option.getD_some, T.segs, List.replicate_succ, List.replicate_zero, List.set_cons_zero, List.set_cons_succ, Value.cells, List.flatten_cons, List.flatten_nil, List.append_nil, List.cons_append, List.nil_append])))); (try simp only [Act.put, List.setIfInBounds_toArray, List.set_cons_zero, List.set_cons_succ])) | go_guarded | (go_step) | ((fail_if_success (with_reducible show T.Seq _ _ _ _ _ _ _)); (fail_if_success (with_reducible show T.OW _ _ _ _ _ _)); simp only [Int.not_lt, Int.not_le] at *; go_simp))
  obtain ⟨bk, rfl⟩ := T.n1 hM
  have hbk : w.heap.size ≤ bk := by assumption
  clear hm1 hn1 ho1 hf1 hc1
  go_loopg [8] (c + 1) (fun kq v8 Wd => ∃ n : Nat, v8 = .int .i64 n ∧ 1 ≤ n ∧ n ≤ c ∧ c - n < kq ∧ Aside0 (T.Mem w none Wd [.b bk 44 (T.rc T.u8s (T.reps id n c))]))
  case atStart => exact ⟨1, rfl, Nat.le_refl _, H1.out, by have := H1.out; omega, ⟨hM⟩⟩
  case round =>
    clear hM
    obtain ⟨n, rfl, hn1, hnc, hg, hMo⟩ := hrel
    have hM := hMo.out
    clear hMo
    by_cases hlt : n < c
    · have hltz : (n : Int) < (c : Int) := by omega
      have cb : decide ((n : Int) < (c : Int)) = true := decide_eq_true hltz
      obtain ⟨m, hm, hm1, hmc⟩ : ∃ m, Nat.min n (c - n) = m ∧ 1 ≤ m ∧ n + m ≤ c := ⟨_, rfl, (by show 1 ≤ min n (c - n); omega), (by show n + min n (c - n) ≤ c; omega)⟩
      have dk0 : 0 ≤ (n : Int) := by omega
      have dk1 : (n : Int) ≤ (c : Int) := by omega
      have ew : IntKind.i64.wrap ((n : Int) + (m : Int)) = ((n + m : Nat) : Int) := by rw [T.w64 (by have := H31.out; omega) (by have := H31.out; omega)]; omega
      have hcn : ¬ c = n := by omega
      have hml : (T.rc T.u8s (List.replicate m id)).length = m * 32 := by
        rw [T.rc_len (k := 32) (fun x hx => by rw [(List.mem_replicate.1 hx).2, encs_length]; exact hid), List.length_replicate]
      have hmo : ∀ v ∈ T.rc T.u8s (List.replicate m id), v.oneCell' = true := T.rc_ones (fun x _ => T.ones_encs _ _)
      have hfit : n * 32 + (T.rc T.u8s (List.replicate m id)).length ≤ (T.rc T.u8s (T.reps id n c)).length := by rw [HRL.out n hnc, hml]; omega
      have hst := T.reps_step id hid n m c hmc
      have hsrc : ((T.rc T.u8s (T.reps id n c)).drop 0).take (m * 32) = T.rc T.u8s (List.replicate m id) := by
        rw [List.drop_zero, T.rc_take (T.reps_ok id hid n c)]
        congr 1
        unfold T.reps
        rw [List.take_append_of_le_length (by rw [List.length_replicate, ← hm]; exact Nat.min_le_left _ _), List.take_replicate, Nat.min_eq_left (by rw [← hm]; exact Nat.min_le_left _ _)]
      have HSR := Aside0.mk hsrc
      have HG := Aside0.mk hg
      clear hsrc hg
      repeat' (first | ((with_reducible show Code.wp _ (Code.region 9 _ true) _ _ _); refine T.mregion 9 (.p 0 (.p 1 (.p 2 (.p 3 (.p 4 (.p 5 (.p 6 (.z 7 (.p 8 (.p 9 .nil)))))))))) 7 (by kernel_rfl) (fun _ _ _ _ h => h) hM (List.Sublist.refl _) ?_; clear hM; intro wld hM) | ((((with_reducible show T.OW _ ⟨_, .call ⟨.builtin .copy, _, _⟩, _, _, _, _⟩ _ _ _ _))); refine T.op_copy _ _ _ _ rfl _ T.TL.out _ T.TN.out _ _ _ _ rfl _ _ _ _ rfl _ _ _ _ m hm hml (by have := T.range_at (b := bk) (o := 0) (n := m * 32) hM T.Fd.out; rwa [HSR.out] at this) hmo hM (by (repeat ((exact T.Sub.head _)))) hfit hst ?_; clear hM; intro wld hM; (try simp only [Act.put, List.setIfInBounds_toArray, List.set_cons_zero, List.set_cons_succ])) | ((with_reducible show T.Seq _ _ _ _ _ _ _); first | ((with_reducible show T.Seq _ _ _ (.p _ _) _ _ _); ((apply T.sq_p rfl rfl; (focus intro wS; ((go_simp; with_reducible rfl))); (try simp only [Act.put, List.setIfInBounds_toArray, List.set_cons_zero, List.set_cons_succ])))) | ((with_reducible show T.Seq _ _ _ .nil _ _ _); refine T.sq_nil ?_) | ((with_reducible show T.Seq _ _ _ (.z _ _) _ _ _); refine T.sq_z rfl rfl (fun K hK => ?_))) | (go_at_K; refine hK.out _ _ _ hM ?_; clear hK K) | (go_step))
      go_roundg (c - n)
      case measure => have := HG.out; omega
      case rel => exact ⟨n + m, rfl, by omega, hmc, by omega, ⟨hM⟩⟩
    · have hiN : n = c := by omega
      have hltz : ¬ (n : Int) < (c : Int) := by omega
      have cb : decide ((n : Int) < (c : Int)) = false := decide_eq_false hltz
      subst hiN
      have hrp : T.reps id n n = List.replicate n id := by simp [T.reps]
      rw [hrp] at hM
      repeat' (first | (go_step) | go_back | ((fail_if_success (with_reducible show T.Seq _ _ _ _ _ _ _)); (fail_if_success (with_reducible show T.OW _ _ _ _ _ _)); simp only [Int.not_lt, Int.not_le] at *; go_simp))
      subst hP
      exact hM.egB T.Fd.out hbk (by rw [← hrp]; exact HRL.out n hnc) (by have := H31.out; simp only [maxLen]; omega) (T.rc_ones (fun x _ => T.ones_encs _ _))
end Go.Proofs.YtdklknfgcepcbaaGreat.X
