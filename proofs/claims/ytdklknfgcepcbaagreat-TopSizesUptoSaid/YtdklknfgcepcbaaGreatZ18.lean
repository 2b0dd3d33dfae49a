/- Texts of this proof, laid together by wip/tools/pack.py: TI5, TI6. -/
import Derived.Test.YtdklknfgcepcbaaGreatZ17
import Derived.ScopeJumps
namespace Go.Proofs.YtdklknfgcepcbaaGreat.X
open Go.RowKit Go.Proofs.YtdklknfgcepcbaaGreatW.PrintWords Go.Proofs.YtdklknfgcepcbaaGreatW.PrintLast Go.Proofs.YtdklknfgcepcbaaGreatW.PrintMore
set_option linter.unusedSimpArgs false
set_option linter.unusedVariables false
set_option maxHeartbeats 2000000
set_option maxRecDepth 20000
theorem T.rc_get {α : Type} {enc : α → List Value} {k i : Nat} {l : List α} {x : α} (h : ∀ x ∈ l, (enc x).length = k) (hi : l[i]? = some x) : ((T.rc enc l).drop (i * k)).take k = enc x := by
  obtain ⟨h1, rfl⟩ := List.getElem?_eq_some_iff.1 hi
  exact T.rc_at h i h1
theorem T.rc_getc {α : Type} {enc : α → List Value} {k i : Nat} {l : List α} {x : α} (h : ∀ x ∈ l, (enc x).length = k) (hi : l[i]? = some x) (j : Nat) (hj : j < k) : (T.rc enc l)[i * k + j]? = (enc x)[j]? := by
  obtain ⟨h1, rfl⟩ := List.getElem?_eq_some_iff.1 hi
  exact T.rc_cell h i j h1 hj
theorem T.Mem.gcap {w0 w : World} {F : Option Nat} {L : List T.Blk} {A : Option Addr} {e sz n c : Nat} {xs : List Value} (h : T.Mem w0 F w L) (hm : .g (.slice A n c) e sz n xs ∈ L) : n ≤ c := (h.gsl hm).cap
theorem T.x_gCell {P : Program} {w0 w : World} {F : Option Nat} {L : List T.Blk} {op : Oper} {a : Act} {ty : TypeId} {x : Operand} {g n c e sz j : Nat} {xs : List Value} {v : Value} (ho : op.op = .load ty x) (hx : a.eval x = .pointer (some ⟨g, j, none⟩)) (hm : .g (.slice (some ⟨g, 0, none⟩) n c) e sz n xs ∈ L)
    (hg : ∀ w, (isAgg ty).run P w = .ok false w) (hv : xs[j]? = some v) (hM : T.Mem w0 F w L) : (execOp a.eval op).run P w = .ok (.value v) w :=
  T.x_slCell (o := 0) ho (by rw [hx, Nat.zero_add]) (hM.gsl hm) hg hv
theorem T.x_gRow {P : Program} {w0 w : World} {F : Option Nat} {L : List T.Blk} {op : Oper} {a : Act} {ty : TypeId} {x : Operand} {g n c e sz j k : Nat} {xs vs : List Value} (ho : op.op = .load ty x) (hx : a.eval x = .pointer (some ⟨g, j, none⟩)) (hm : .g (.slice (some ⟨g, 0, none⟩) n c) e sz n xs ∈ L)
    (hu : ∃ d, P.underlying ty = some d ∧ d.isRow = true) (hi : (P.info? ty).map (·.size) = some k) (hvs : (xs.drop j).take k = vs) (hM : T.Mem w0 F w L) (hl : vs.length = k) : (execOp a.eval op).run P w = .ok (.value (.agg vs.toArray)) w :=
  T.x_slRow (o := 0) ho (by rw [hx, Nat.zero_add]) (hM.gsl hm) hu hi hvs hl
class T.Fh (g : Nat) (L : List T.Blk) (n : outParam Nat) (c : outParam Nat) (e : outParam TypeId) (sz : outParam Nat) (xs : outParam (List Value)) : Prop where out : .g (.slice (some ⟨g, 0, none⟩) n c) e sz n xs ∈ L
instance (priority := high) T.fhHead (g n c : Nat) (e : TypeId) (sz : Nat) (xs : List Value) (L : List T.Blk) : T.Fh g (.g (.slice (some ⟨g, 0, none⟩) n c) e sz n xs :: L) n c e sz xs := ⟨List.mem_cons_self⟩
instance (priority := low) T.fhTail (g n c : Nat) (e : TypeId) (sz : Nat) (xs : List Value) (x : T.Blk) (L : List T.Blk) [h : T.Fh g L n c e sz xs] : T.Fh g (x :: L) n c e sz xs := ⟨List.mem_cons_of_mem _ h.out⟩
def T.okP (p : List T.Tot) : Prop := ∀ t ∈ p, t.ok ∧ T.R64 t.w
theorem T.okP_cons {x : T.Tot} {p : List T.Tot} (h : T.okP (x :: p)) : (x.ok ∧ T.R64 x.w) ∧ T.okP p := ⟨h x List.mem_cons_self, fun y hy => h y (List.mem_cons_of_mem _ hy)⟩
def T.upR (y : T.Tot) : List T.Tot → List T.Tot
  | [] => [y]
  | x :: r => if x.n = y.n then T.upR (T.join x y) r else y :: x :: r
def T.mapp (p : List T.Tot) (leaf : T.Tot) : List T.Tot := (T.upR leaf p.reverse).reverse
theorem T.join_okP {x y : T.Tot} (h : x.ok ∧ T.R64 x.w) : (T.join x y).ok ∧ T.R64 (T.join x y).w := ⟨T.join_ok x y h.1, T.join_R x y h.2⟩
theorem T.upR_ok : ∀ (r : List T.Tot) (y : T.Tot), T.okP (y :: r) → T.okP (T.upR y r)
  | [], _, h => h
  | x :: r, y, h => by
    have h1 := T.okP_cons h
    have h2 := T.okP_cons h1.2
    unfold T.upR
    split
    · refine T.upR_ok r _ fun t ht => ?_
      rcases List.mem_cons.1 ht with rfl | ht
      · exact T.join_okP h2.1
      · exact h2.2 t ht
    · exact h
theorem T.mapp_calls (p : List T.Tot) (leaf : T.Tot) (kp : T.okP p) (kl : leaf.ok ∧ T.R64 leaf.w) (hn : p.length ≤ 1000000) (v : Value) (w : World) (hS : T.Sl w v p.length (T.rc T.Tot.cells p)) : Calls Tryz.prog 52 #[v, .agg leaf.cells.toArray] w (T.EG 120 37 (T.mapp p leaf).length (T.rc T.Tot.cells (T.mapp p leaf)) w) := by
  have hM := T.Mem.start w
  obtain ⟨A, cc, hv, _, _, _⟩ := id hS
  rw [hv] at hS ⊢
  have HS := Aside0.mk hS
  have HP := Aside0.mk kp
  have HL := Aside0.mk kl
  have HN := Aside0.mk hn
  clear hS hv kp kl hn
  generalize hP : T.EG 120 37 (T.mapp p leaf).length (T.rc T.Tot.cells (T.mapp p leaf)) w = Post
  go_enter Tryz.func52, Tryz.ntmps52
  repeat' (first | ((((((with_reducible show wpList _ _ _ _ _ _); (refine T.w_o rfl ?_)))); (((with_reducible show T.OW _ ⟨_, .box _ _, _, _, _, _⟩ _ _ _ _); refine T.op_box _ _ rfl _ rfl hM ?_; clear hM; intro blk wld hM hlt))); (try simp only [Act.put, List.setIfInBounds_toArray, List.set_cons_zero, List.set_cons_succ])) | (go_step))
  refine wp_scope_jumps 0 (fun a' w' => ∃ (g n c : Nat) (r : List T.Tot) (y : T.Tot) (u0 u1 u2 u3 u4 u6 u7 u8 u9 u10 u11 u12 u13 u14 u15 u16 u17 u18 u19 u20 u21 u22 u23 u24 u25 u26 u27 u28 u29 u30 u31 u32 u33 u34 u35 u36 u37 u38 u39 u40 u41 u42 u43 u44 u45 u46 u47 u48 : Value), a' = { tmps := #[u0, u1, u2, u3, u4, .slice (some ⟨g, 0, none⟩) n c, u6, u7, u8, u9, u10, u11, u12, u13, u14, u15, u16, u17, u18, u19, u20, u21, u22, u23, u24, u25, u26, u27, u28, u29, u30, u31, u32, u33, u34, u35, u36, u37, u38, u39, u40, u41, u42, u43, u44, u45, u46, u47, u48], defers := [] } ∧ Aside0 (T.okP (y :: r) ∧ r.length ≤ p.length ∧ n = r.length + 1 ∧ T.upR y r = T.upR leaf p.reverse ∧ T.Mem w none w' [.g (.slice (some ⟨g, 0, none⟩) n c) 120 37 n (T.rc T.Tot.cells (r.reverse ++ [y]))])) (fun a' _ => (match a'.tmps.getD 5 undef with | .slice _ n _ => n | _ => 0)) rfl ?first ?pass
  case pass =>
    clear hM HS HP HL
    rintro a1 w1 ⟨g, n, c, r, y, u0, u1, u2, u3, u4, u6, u7, u8, u9, u10, u11, u12, u13, u14, u15, u16, u17, u18, u19, u20, u21, u22, u23, u24, u25, u26, u27, u28, u29, u30, u31, u32, u33, u34, u35, u36, u37, u38, u39, u40, u41, u42, u43, u44, u45, u46, u47, u48, rfl, HJ⟩
    obtain ⟨kr, hrl, hnr, hup, hM⟩ := HJ.out
    clear HJ
    have hnc : n ≤ c := hM.gcap List.mem_cons_self
    rcases r with _ | ⟨x, r⟩
    · obtain rfl : n = 1 := hnr
      have hfin : T.mapp p leaf = [y] := by unfold T.mapp; rw [← hup]; rfl
      clear hup
      repeat' (first | ((with_reducible show Code.wp _ (Code.region 4 _ true) _ _ _); refine T.mregion 4 (.p 0 (.p 1 (.p 2 (.p 3 (.p 4 (.p 5 (.p 6 (.p 7 (.t 8 (.p 9 (.p 10 (.p 11 (.p 12 (.p 13 (.t 14 (.p 15 (.p 16 .nil))))))))))))))))) 1000 (by kernel_rfl) (fun _ _ _ _ h => h) hM (List.Sublist.refl _) ?_; clear hM; intro wld hM) | ((with_reducible show T.Seq _ _ _ _ _ _ _); first | ((with_reducible show T.Seq _ _ _ (.p _ _) _ _ _); first | (apply T.sq_p rfl rfl; (focus intro wS; ((go_simp; with_reducible rfl))); (try simp only [Act.put, List.setIfInBounds_toArray, List.set_cons_zero, List.set_cons_succ])) | (refine T.sq_pskip rfl rfl ?_; (try simp only [Act.put, List.setIfInBounds_toArray, List.set_cons_zero, List.set_cons_succ]))) | ((with_reducible show T.Seq _ _ _ (.t _ _) _ _ _); ((refine T.sq_skip rfl rfl ?_; (try simp only [Act.put, List.setIfInBounds_toArray, List.set_cons_zero, List.set_cons_succ])))) | ((with_reducible show T.Seq _ _ _ .nil _ _ _); refine T.sq_nil ?_)) | (go_step) | go_back)
      subst hP
      rw [hfin]
      exact hM.eg List.mem_cons_self
    · have hn2 : n = r.length + 2 := hnr
      have hnb : n ≤ 1000002 := by have := HN.out; simp only [List.length_cons] at hrl; omega
      have ho1 : ((x :: r).reverse ++ [y]).take (n - 2) = r.reverse := by
        rw [List.reverse_cons, List.append_assoc]
        exact List.take_left' (by rw [List.length_reverse]; omega)
      have ho2 : ((x :: r).reverse ++ [y])[n - 2]? = some x := by
        rw [List.reverse_cons, List.append_assoc, List.getElem?_append_right (by rw [List.length_reverse]; omega), List.length_reverse, show n - 2 - r.length = 0 by omega]; rfl
      have ho3 : ((x :: r).reverse ++ [y])[n - 1]? = some y := by
        rw [List.getElem?_append_right (by rw [List.length_reverse, List.length_cons]; omega), List.length_reverse, List.length_cons, show n - 1 - (r.length + 1) = 0 by omega]; rfl
      have kx := (T.okP_cons (T.okP_cons kr).2).1
      have ky := (T.okP_cons kr).1
      have krr := (T.okP_cons (T.okP_cons kr).2).2
      have hall : ∀ t ∈ (x :: r).reverse ++ [y], t.cells.length = 37 := fun t ht => t.len (kr t (by
        rcases List.mem_append.1 ht with h | h
        · exact List.mem_cons_of_mem _ (List.mem_reverse.1 h)
        · rw [List.mem_singleton.1 h]; exact List.mem_cons_self)).1
      have hx1 := T.rc_get hall ho2
      have hy1 := T.rc_get hall ho3
      have hx2 := (T.rc_getc hall ho2 36 (by decide)).trans (x.n_at kx.1)
      have hy2 := (T.rc_getc hall ho3 36 (by decide)).trans (y.n_at ky.1)
      have hcut := T.rc_take hall (n - 2)
      rw [ho1] at hcut
      have hfin : x.n ≠ y.n → T.mapp p leaf = (x :: r).reverse ++ [y] := fun h => by
        unfold T.mapp
        rw [← hup, T.upR, if_neg h, List.reverse_cons]
      have hgo : x.n = y.n → T.upR (T.join x y) r = T.upR leaf p.reverse := fun h => by rw [← hup, T.upR, if_pos h]
      have hlen : ((x :: r).reverse ++ [y]).length = n := by simp; omega
      generalize (x :: r).reverse ++ [y] = out at *
      clear hup hall ho1 ho2 ho3 kr
      have hj := (T.join x y).len (T.join_okP kx).1
      have hjo := (T.join x y).ones
      have hj1 : (T.join x y).cells.length = 1 * 37 := hj
      have e1 : IntKind.i64.wrap ((n : Int) - 2) = ((n - 2 : Nat) : Int) := by rw [T.w64 (by omega) (by omega)]; omega
      have e2 : IntKind.i64.wrap ((n : Int) - 1) = ((n - 1 : Nat) : Int) := by rw [T.w64 (by omega) (by omega)]; omega
      have d0 : decide ((n : Int) < 2) = false := decide_eq_false (by omega)
      have i1 : ((n - 2 : Nat) : Int) < (n : Int) := by omega
      have i2 : ((n - 1 : Nat) : Int) < (n : Int) := by omega
      have i3 : ((n - 2 : Nat) : Int) ≤ (c : Int) := by omega
      have i4 : (0 : Int) ≤ ((n - 2 : Nat) : Int) := by omega
      have i5 : (0 : Int) ≤ ((n - 1 : Nat) : Int) := by omega
      have hb : (n - 2 + 1) * 72 ≤ 70368744177664 := by omega
      have HN2 := Aside0.mk hn2
      have HRL := Aside0.mk hrl
      have hle : n - 2 ≤ n := Nat.sub_le _ _
      clear hn2 hnr hrl hnb
      have hz37 : T.Tot.zero.cells.length = 37 := rfl
      by_cases hxy : x.n = y.n
      · have hgo := hgo hxy
        clear hfin
        have dn : decide (x.n = y.n) = true := decide_eq_true hxy
        repeat' (first | ((with_reducible show Code.wp _ (Code.region 4 _ true) _ _ _); refine T.mregion 4 (.p 0 (.p 1 (.p 2 (.p 3 (.p 4 (.p 5 (.p 6 (.p 7 (.t 8 (.p 9 (.p 10 (.p 11 (.p 12 (.p 13 (.t 14 (.p 15 (.p 16 .nil))))))))))))))))) 1000 (by kernel_rfl) (fun _ _ _ _ h => h) hM (List.Sublist.refl _) ?_; clear hM; intro wld hM) | ((with_reducible show Code.wp _ (Code.region 6 _ true) _ _ _); refine T.mregion 6 (.p 0 (.p 1 (.p 2 (.p 3 (.p 4 (.p 5 (.p 6 (.p 7 (.t 8 (.p 9 (.p 10 (.p 11 (.p 12 (.t 13 (.a 14 (.a 15 (.z 16 (.p 17 .nil)))))))))))))))))) 16 (by kernel_rfl) (fun _ _ _ _ h => h) hM (List.Sublist.refl _) ?_; clear hM; intro wld hM) | (go_at_call 96; refine (T.join_calls _ _ kx.1 ky.1 kx.2 ky.2 _).mono ?_; rintro _ _ ⟨rfl, hbc⟩; replace hM := hM.call hbc; clear hbc) | ((with_reducible show T.OW _ ⟨_, .call ⟨.builtin .append, _, _⟩, _, _, _, _⟩ _ _ _ _); refine T.op_app _ _ _ rfl _ _ _ T.TE.out _ _ _ rfl _ _ _ (hM.cut (m := n - 2) (by (repeat (first | exact T.Sub.head _ | apply T.Sub.tail))) hle hcut) (fun _ => by (repeat (first | exact T.Sub.head _ | apply T.Sub.tail))) (by (exact T.Mem.slB hM T.Fd.out (by ((with_reducible assumption))) (by decide))) (by ((with_reducible assumption))) (by decide) (by decide) (by ((with_reducible assumption))) ?_; clear hM; intro gsv wld hM) | (((first | ((with_reducible show wpList _ _ _ _ _ _); (refine T.w_o rfl ?_)) | (with_reducible show T.OW _ _ _ _ _ _)); (((with_reducible show T.OW _ ⟨_, .buildSlice _ _ _, _, _, _, _⟩ _ _ _ _); refine T.op_buildSl _ _ _ rfl _ T.TL.out _ T.TN.out _ T.TZ.out rfl (by decide) (by decide) _ rfl (by (((simp [T.okp, Value.cells, Act.eval, *]; done)))) _ rfl hM ?_; (try simp only [List.map_toArray, List.map_cons, List.map_nil, Act.eval, Array.getD_eq_getD_getElem?, List.toList_toArray, List.getElem?_toArray, List.getElem?_cons_zero, List.getElem?_cons_succ, Option.getD_some, T.segs, List.replicate_succ, List.replicate_zero, List.set_cons_zero, List.set_cons_succ, Value.cells, List.flatten_cons, List.flatten_nil, List.append_nil, List.cons_append, List.nil_append]); clear hM; intro blk wld hM hlt))); (try simp only [Act.put, List.setIfInBounds_toArray, List.set_cons_zero, List.set_cons_succ])) | ((with_reducible show T.Seq _ _ _ _ _ _ _); first | ((with_reducible show T.Seq _ _ _ (.p _ _) _ _ _); ((apply T.sq_p rfl rfl; (focus intro wS; ((go_simp; with_reducible rfl))); (try simp only [Act.put, List.setIfInBounds_toArray, List.set_cons_zero, List.set_cons_succ])))) | ((with_reducible show T.Seq _ _ _ (.t _ _) _ _ _); ((apply T.sq_t rfl rfl; (focus intro wS hS; first | exact T.x_gCell rfl rfl T.Fh.out T.TS.out hx2 hS | exact T.x_gCell rfl rfl T.Fh.out T.TS.out hy2 hS | exact T.x_gRow rfl rfl T.Fh.out T.TU.out T.TN.out hx1 hS (x.len kx.1) | exact T.x_gRow rfl rfl T.Fh.out T.TU.out T.TN.out hy1 hS (y.len ky.1)); (try simp only [Act.put, List.setIfInBounds_toArray, List.set_cons_zero, List.set_cons_succ])))) | ((with_reducible show T.Seq _ _ _ .nil _ _ _); refine T.sq_nil ?_) | ((with_reducible show T.Seq _ _ _ (.a _ _) _ _ _); refine T.sq_a rfl rfl (fun K hK => ?_)) | ((with_reducible show T.Seq _ _ _ (.z _ _) _ _ _); refine T.sq_z rfl rfl (fun K hK => ?_))) | (go_at_K; refine hK.out _ _ _ hM (by (repeat (first | exact List.Sublist.refl _ | apply List.Sublist.cons))) ?_; clear hK K) | (go_at_K; refine hK.out _ _ _ hM ?_; clear hK K; (try simp only [Act.put, List.setIfInBounds_toArray, List.set_cons_zero, List.set_cons_succ])) | ((with_reducible show T.OW _ ⟨_, .call _, _, _, _, _⟩ _ _ _ _); refine T.OW.mk ?_; go_simp) | (go_step) | ((fail_if_success (with_reducible show T.Seq _ _ _ _ _ _ _)); (fail_if_success (with_reducible show T.OW _ _ _ _ _ _)); simp only [Int.not_lt, Int.not_le] at *; go_simp))
        clear hz37 hj hjo hj1 hx1 hx2 hy1 hy2
        have hnp : 0 < n - 2 + 1 := Nat.succ_pos _
        obtain ⟨g2, c2, rfl, _⟩ := hM.gadr (v := gsv) T.Fg.out hnp
        go_step3
        refine ⟨rfl, ⟨g2, n - 2 + 1, c2, r, T.join x y, _, _, _, _, _, _, _, _, _, _, _, _, _, _, _, _, _, _, _, _, _, _, _, _, _, _, _, _, _, _, _, _, _, _, _, _, _, _, _, _, _, _, _, _, _, _, _, _, rfl, ⟨?_, ?_, ?_, hgo, ?_⟩⟩, ?_⟩
        · intro t ht
          rcases List.mem_cons.1 ht with rfl | ht
          · exact T.join_okP kx
          · exact krr t ht
        · have := HRL.out; simp only [List.length_cons] at this; omega
        · have := HN2.out; omega
        · rw [T.rc_app, T.rc_one]; exact hM.drop (by (repeat (first | exact List.Sublist.refl _ | apply List.Sublist.cons)))
        · have := HN2.out; show n - 2 + 1 < n; omega
      · have hfin := hfin hxy
        clear hgo
        have dn : decide (x.n = y.n) = false := decide_eq_false hxy
        repeat' (first | ((with_reducible show Code.wp _ (Code.region 4 _ true) _ _ _); refine T.mregion 4 (.p 0 (.p 1 (.p 2 (.p 3 (.p 4 (.p 5 (.p 6 (.p 7 (.t 8 (.p 9 (.p 10 (.p 11 (.p 12 (.p 13 (.t 14 (.p 15 (.p 16 .nil))))))))))))))))) 1000 (by kernel_rfl) (fun _ _ _ _ h => h) hM (List.Sublist.refl _) ?_; clear hM; intro wld hM) | ((with_reducible show T.Seq _ _ _ _ _ _ _); first | ((with_reducible show T.Seq _ _ _ (.p _ _) _ _ _); ((apply T.sq_p rfl rfl; (focus intro wS; ((go_simp; with_reducible rfl))); (try simp only [Act.put, List.setIfInBounds_toArray, List.set_cons_zero, List.set_cons_succ])))) | ((with_reducible show T.Seq _ _ _ (.t _ _) _ _ _); ((apply T.sq_t rfl rfl; (focus intro wS hS; first | exact T.x_gCell rfl rfl T.Fh.out T.TS.out hx2 hS | exact T.x_gCell rfl rfl T.Fh.out T.TS.out hy2 hS); (try simp only [Act.put, List.setIfInBounds_toArray, List.set_cons_zero, List.set_cons_succ])))) | ((with_reducible show T.Seq _ _ _ .nil _ _ _); refine T.sq_nil ?_)) | (go_step) | go_back)
        subst hP
        rw [hfin, hlen]
        exact hM.eg List.mem_cons_self
  case first =>
    have hll := leaf.len HL.out.1
    have hlo := leaf.ones
    have hl1 : leaf.cells.length = 1 * 37 := hll
    have hpl : (T.rc T.Tot.cells p).length = p.length * 37 := T.rc_len (fun t ht => t.len (HP.out t ht).1)
    have hpb : (p.length + 1) * 72 ≤ 70368744177664 := by have := HN.out; omega
    have hpn : p.length ≤ 100000000 := by have := HN.out; omega
    have hpu : 0 < p.length + 1 := Nat.succ_pos _
    have hz37 : T.Tot.zero.cells.length = 37 := rfl
    repeat' (first | ((with_reducible show Code.wp _ (Code.region 1 _ true) _ _ _); refine T.mregion 1 (.p 0 (.t 2 (.f 1 3 (.a 3 (.z 4 (.p 5 .nil))) (.a 1 (.z 4 (.p 5 .nil)))))) 4 (by kernel_rfl) (fun _ _ _ _ h => h) hM (List.Sublist.refl _) ?_; clear hM; intro wld hM) | (go_at_call 97; refine (T.cloneTot _ _ _ _ (hM.slin HS.out) hpl hpn).mono ?_; rintro _ wr ⟨v, rfl, ho, h1, hbc⟩; (obtain ⟨Ag, cg, rfl⟩ := T.own_slice ho); replace hM := hM.callG hbc ho h1; clear hbc ho h1) | (((first | ((with_reducible show wpList _ _ _ _ _ _); (refine T.w_o rfl ?_)) | (with_reducible show T.OW _ _ _ _ _ _)); first | ((with_reducible show T.OW _ ⟨_, .call ⟨.builtin .append, _, _⟩, _, _, _, _⟩ _ _ _ _); refine T.op_app _ _ _ rfl _ _ _ T.TE.out _ _ _ rfl _ _ _ hM (fun _ => by (repeat (first | exact T.Sub.head _ | apply T.Sub.tail))) (by (exact T.Mem.slB hM T.Fd.out (by ((with_reducible assumption))) (by decide))) (by ((with_reducible assumption))) (by decide) (by decide) (by ((with_reducible assumption))) ?_; clear hM; intro gsv wld hM) | ((with_reducible show T.OW _ ⟨_, .buildSlice _ _ _, _, _, _, _⟩ _ _ _ _); refine T.op_buildSl _ _ _ rfl _ T.TL.out _ T.TN.out _ T.TZ.out rfl (by decide) (by decide) _ rfl (by (((simp [T.okp, Value.cells, Act.eval, *]; done)))) _ rfl hM ?_; (try simp only [List.map_toArray, List.map_cons, List.map_nil, Act.eval, Array.getD_eq_getD_getElem?, List.toList_toArray, List.getElem?_toArray, List.getElem?_cons_zero, List.getElem?_cons_succ, Option.getD_some, T.segs, List.replicate_succ, List.replicate_zero, List.set_cons_zero, List.set_cons_succ, Value.cells, List.flatten_cons, List.flatten_nil, List.append_nil, List.cons_append, List.nil_append]); clear hM; intro blk wld hM hlt)); (try simp only [Act.put, List.setIfInBounds_toArray, List.set_cons_zero, List.set_cons_succ])) | ((with_reducible show T.Seq _ _ _ _ _ _ _); first | ((with_reducible show T.Seq _ _ _ (.p _ _) _ _ _); ((apply T.sq_p rfl rfl; (focus intro wS; ((go_simp; with_reducible rfl))); (try simp only [Act.put, List.setIfInBounds_toArray, List.set_cons_zero, List.set_cons_succ])))) | ((with_reducible show T.Seq _ _ _ (.t _ _) _ _ _); ((apply T.sq_t rfl rfl; (focus intro wS hS; (exact T.x_loadAll rfl rfl T.Fd.out T.TU.out T.TN.out (by ((with_reducible assumption))) hS)); (try simp only [Act.put, List.setIfInBounds_toArray, List.set_cons_zero, List.set_cons_succ])))) | ((with_reducible show T.Seq _ _ _ .nil _ _ _); refine T.sq_nil ?_) | ((with_reducible show T.Seq _ _ _ (.f _ _ _ _) _ _ _); refine T.sq_f ?_ ?_) | ((with_reducible show T.Seq _ _ _ (.a _ _) _ _ _); refine T.sq_a rfl rfl (fun K hK => ?_)) | ((with_reducible show T.Seq _ _ _ (.z _ _) _ _ _); refine T.sq_z rfl rfl (fun K hK => ?_))) | (go_at_K; refine hK.out _ _ _ hM (by (repeat (first | exact List.Sublist.refl _ | apply List.Sublist.cons))) ?_; clear hK K) | (go_at_K; refine hK.out _ _ _ hM ?_; clear hK K) | ((with_reducible show T.OW _ ⟨_, .call _, _, _, _, _⟩ _ _ _ _); refine T.OW.mk ?_; go_simp) | (go_step) | ((fail_if_success (with_reducible show T.Seq _ _ _ _ _ _ _)); (fail_if_success (with_reducible show T.OW _ _ _ _ _ _)); simp only [Int.not_lt, Int.not_le] at *; go_simp))
    all_goals
      go_step3
      obtain ⟨g, c, rfl, _⟩ := hM.gadr (v := gsv) T.Fg.out hpu
      have HE : ∃ (n : Nat) (r : List T.Tot) (y : T.Tot), n = p.length + 1 ∧ Aside0 (T.okP (y :: r) ∧ r.length ≤ p.length ∧ n = r.length + 1 ∧ T.upR y r = T.upR leaf p.reverse ∧ T.Mem w none wld [.g (.slice (some ⟨g, 0, none⟩) n c) 120 37 n (T.rc T.Tot.cells (r.reverse ++ [y]))]) := ⟨_, p.reverse, leaf, rfl, ⟨fun t ht => by
        rcases List.mem_cons.1 ht with rfl | ht
        · exact HL.out
        · exact HP.out t (List.mem_reverse.1 ht), by rw [List.length_reverse]; exact Nat.le_refl _, by rw [List.length_reverse], rfl, by rw [List.reverse_reverse, T.rc_app, T.rc_one]; exact hM.drop (by (repeat (first | exact List.Sublist.refl _ | apply List.Sublist.cons_cons | apply List.Sublist.cons)))⟩⟩
      obtain ⟨n, r, y, hn1, HJ⟩ := HE
      rw [← hn1]
      clear hM hn1 hll hlo hl1 hpl hpb hpn hpu HS HP HL hz37
      obtain ⟨kr, hrl, hnr, hup, hM⟩ := HJ.out
      clear HJ
      have hnc : n ≤ c := hM.gcap List.mem_cons_self
      rcases r with _ | ⟨x, r⟩
      · obtain rfl : n = 1 := hnr
        have hfin : T.mapp p leaf = [y] := by unfold T.mapp; rw [← hup]; rfl
        clear hup
        repeat' (first | ((with_reducible show Code.wp _ (Code.region 4 _ true) _ _ _); refine T.mregion 4 (.p 0 (.p 1 (.p 2 (.p 3 (.p 4 (.p 5 (.p 6 (.p 7 (.t 8 (.p 9 (.p 10 (.p 11 (.p 12 (.p 13 (.t 14 (.p 15 (.p 16 .nil))))))))))))))))) 1000 (by kernel_rfl) (fun _ _ _ _ h => h) hM (List.Sublist.refl _) ?_; clear hM; intro wld hM) | ((with_reducible show T.Seq _ _ _ _ _ _ _); first | ((with_reducible show T.Seq _ _ _ (.p _ _) _ _ _); first | (apply T.sq_p rfl rfl; (focus intro wS; ((go_simp; with_reducible rfl))); (try simp only [Act.put, List.setIfInBounds_toArray, List.set_cons_zero, List.set_cons_succ])) | (refine T.sq_pskip rfl rfl ?_; (try simp only [Act.put, List.setIfInBounds_toArray, List.set_cons_zero, List.set_cons_succ]))) | ((with_reducible show T.Seq _ _ _ (.t _ _) _ _ _); ((refine T.sq_skip rfl rfl ?_; (try simp only [Act.put, List.setIfInBounds_toArray, List.set_cons_zero, List.set_cons_succ])))) | ((with_reducible show T.Seq _ _ _ .nil _ _ _); refine T.sq_nil ?_)) | (go_step) | go_back)
        subst hP
        rw [hfin]
        exact hM.eg List.mem_cons_self
      · have hn2 : n = r.length + 2 := hnr
        have hnb : n ≤ 1000002 := by have := HN.out; simp only [List.length_cons] at hrl; omega
        have ho1 : ((x :: r).reverse ++ [y]).take (n - 2) = r.reverse := by
          rw [List.reverse_cons, List.append_assoc]
          exact List.take_left' (by rw [List.length_reverse]; omega)
        have ho2 : ((x :: r).reverse ++ [y])[n - 2]? = some x := by
          rw [List.reverse_cons, List.append_assoc, List.getElem?_append_right (by rw [List.length_reverse]; omega), List.length_reverse, show n - 2 - r.length = 0 by omega]; rfl
        have ho3 : ((x :: r).reverse ++ [y])[n - 1]? = some y := by
          rw [List.getElem?_append_right (by rw [List.length_reverse, List.length_cons]; omega), List.length_reverse, List.length_cons, show n - 1 - (r.length + 1) = 0 by omega]; rfl
        have kx := (T.okP_cons (T.okP_cons kr).2).1
        have ky := (T.okP_cons kr).1
        have krr := (T.okP_cons (T.okP_cons kr).2).2
        have hall : ∀ t ∈ (x :: r).reverse ++ [y], t.cells.length = 37 := fun t ht => t.len (kr t (by
          rcases List.mem_append.1 ht with h | h
          · exact List.mem_cons_of_mem _ (List.mem_reverse.1 h)
          · rw [List.mem_singleton.1 h]; exact List.mem_cons_self)).1
        have hx1 := T.rc_get hall ho2
        have hy1 := T.rc_get hall ho3
        have hx2 := (T.rc_getc hall ho2 36 (by decide)).trans (x.n_at kx.1)
        have hy2 := (T.rc_getc hall ho3 36 (by decide)).trans (y.n_at ky.1)
        have hcut := T.rc_take hall (n - 2)
        rw [ho1] at hcut
        have hfin : x.n ≠ y.n → T.mapp p leaf = (x :: r).reverse ++ [y] := fun h => by
          unfold T.mapp
          rw [← hup, T.upR, if_neg h, List.reverse_cons]
        have hgo : x.n = y.n → T.upR (T.join x y) r = T.upR leaf p.reverse := fun h => by rw [← hup, T.upR, if_pos h]
        have hlen : ((x :: r).reverse ++ [y]).length = n := by simp; omega
        generalize (x :: r).reverse ++ [y] = out at *
        clear hup hall ho1 ho2 ho3 kr
        have hj := (T.join x y).len (T.join_okP kx).1
        have hjo := (T.join x y).ones
        have hj1 : (T.join x y).cells.length = 1 * 37 := hj
        have e1 : IntKind.i64.wrap ((n : Int) - 2) = ((n - 2 : Nat) : Int) := by rw [T.w64 (by omega) (by omega)]; omega
        have e2 : IntKind.i64.wrap ((n : Int) - 1) = ((n - 1 : Nat) : Int) := by rw [T.w64 (by omega) (by omega)]; omega
        have d0 : decide ((n : Int) < 2) = false := decide_eq_false (by omega)
        have i1 : ((n - 2 : Nat) : Int) < (n : Int) := by omega
        have i2 : ((n - 1 : Nat) : Int) < (n : Int) := by omega
        have i3 : ((n - 2 : Nat) : Int) ≤ (c : Int) := by omega
        have i4 : (0 : Int) ≤ ((n - 2 : Nat) : Int) := by omega
        have i5 : (0 : Int) ≤ ((n - 1 : Nat) : Int) := by omega
        have hb : (n - 2 + 1) * 72 ≤ 70368744177664 := by omega
        have HN2 := Aside0.mk hn2
        have HRL := Aside0.mk hrl
        have hle : n - 2 ≤ n := Nat.sub_le _ _
        clear hn2 hnr hrl hnb
        have hz37 : T.Tot.zero.cells.length = 37 := rfl
        by_cases hxy : x.n = y.n
        · have hgo := hgo hxy
          clear hfin
          have dn : decide (x.n = y.n) = true := decide_eq_true hxy
          repeat' (first | ((with_reducible show Code.wp _ (Code.region 4 _ true) _ _ _); refine T.mregion 4 (.p 0 (.p 1 (.p 2 (.p 3 (.p 4 (.p 5 (.p 6 (.p 7 (.t 8 (.p 9 (.p 10 (.p 11 (.p 12 (.p 13 (.t 14 (.p 15 (.p 16 .nil))))))))))))))))) 1000 (by kernel_rfl) (fun _ _ _ _ h => h) hM (List.Sublist.refl _) ?_; clear hM; intro wld hM) | ((with_reducible show Code.wp _ (Code.region 6 _ true) _ _ _); refine T.mregion 6 (.p 0 (.p 1 (.p 2 (.p 3 (.p 4 (.p 5 (.p 6 (.p 7 (.t 8 (.p 9 (.p 10 (.p 11 (.p 12 (.t 13 (.a 14 (.a 15 (.z 16 (.p 17 .nil)))))))))))))))))) 16 (by kernel_rfl) (fun _ _ _ _ h => h) hM (List.Sublist.refl _) ?_; clear hM; intro wld hM) | (go_at_call 96; refine (T.join_calls _ _ kx.1 ky.1 kx.2 ky.2 _).mono ?_; rintro _ _ ⟨rfl, hbc⟩; replace hM := hM.call hbc; clear hbc) | ((with_reducible show T.OW _ ⟨_, .call ⟨.builtin .append, _, _⟩, _, _, _, _⟩ _ _ _ _); refine T.op_app _ _ _ rfl _ _ _ T.TE.out _ _ _ rfl _ _ _ (hM.cut (m := n - 2) (by (repeat (first | exact T.Sub.head _ | apply T.Sub.tail))) hle hcut) (fun _ => by (repeat (first | exact T.Sub.head _ | apply T.Sub.tail))) (by (exact T.Mem.slB hM T.Fd.out (by ((with_reducible assumption))) (by decide))) (by ((with_reducible assumption))) (by decide) (by decide) (by ((with_reducible assumption))) ?_; clear hM; intro gsv wld hM) | (((first | ((with_reducible show wpList _ _ _ _ _ _); (refine T.w_o rfl ?_)) | (with_reducible show T.OW _ _ _ _ _ _)); (((with_reducible show T.OW _ ⟨_, .buildSlice _ _ _, _, _, _, _⟩ _ _ _ _); refine T.op_buildSl _ _ _ rfl _ T.TL.out _ T.TN.out _ T.TZ.out rfl (by decide) (by decide) _ rfl (by (((simp [T.okp, Value.cells, Act.eval, *]; done)))) _ rfl hM ?_; (try simp only [List.map_toArray, List.map_cons, List.map_nil, Act.eval, Array.getD_eq_getD_getElem?, List.toList_toArray, List.getElem?_toArray, List.getElem?_cons_zero, List.getElem?_cons_succ, Option.getD_some, T.segs, List.replicate_succ, List.replicate_zero, List.set_cons_zero, List.set_cons_succ, Value.cells, List.flatten_cons, List.flatten_nil, List.append_nil, List.cons_append, List.nil_append]); clear hM; intro blk wld hM hlt))); (try simp only [Act.put, List.setIfInBounds_toArray, List.set_cons_zero, List.set_cons_succ])) | ((with_reducible show T.Seq _ _ _ _ _ _ _); first | ((with_reducible show T.Seq _ _ _ (.p _ _) _ _ _); ((apply T.sq_p rfl rfl; (focus intro wS; ((go_simp; with_reducible rfl))); (try simp only [Act.put, List.setIfInBounds_toArray, List.set_cons_zero, List.set_cons_succ])))) | ((with_reducible show T.Seq _ _ _ (.t _ _) _ _ _); ((apply T.sq_t rfl rfl; (focus intro wS hS; first | exact T.x_gCell rfl rfl T.Fh.out T.TS.out hx2 hS | exact T.x_gCell rfl rfl T.Fh.out T.TS.out hy2 hS | exact T.x_gRow rfl rfl T.Fh.out T.TU.out T.TN.out hx1 hS (x.len kx.1) | exact T.x_gRow rfl rfl T.Fh.out T.TU.out T.TN.out hy1 hS (y.len ky.1)); (try simp only [Act.put, List.setIfInBounds_toArray, List.set_cons_zero, List.set_cons_succ])))) | ((with_reducible show T.Seq _ _ _ .nil _ _ _); refine T.sq_nil ?_) | ((with_reducible show T.Seq _ _ _ (.a _ _) _ _ _); refine T.sq_a rfl rfl (fun K hK => ?_)) | ((with_reducible show T.Seq _ _ _ (.z _ _) _ _ _); refine T.sq_z rfl rfl (fun K hK => ?_))) | (go_at_K; refine hK.out _ _ _ hM (by (repeat (first | exact List.Sublist.refl _ | apply List.Sublist.cons))) ?_; clear hK K) | (go_at_K; refine hK.out _ _ _ hM ?_; clear hK K; (try simp only [Act.put, List.setIfInBounds_toArray, List.set_cons_zero, List.set_cons_succ])) | ((with_reducible show T.OW _ ⟨_, .call _, _, _, _, _⟩ _ _ _ _); refine T.OW.mk ?_; go_simp) | (go_step) | ((fail_if_success (with_reducible show T.Seq _ _ _ _ _ _ _)); (fail_if_success (with_reducible show T.OW _ _ _ _ _ _)); simp only [Int.not_lt, Int.not_le] at *; go_simp))
          clear hz37 hj hjo hj1 hx1 hx2 hy1 hy2
          have hnp : 0 < n - 2 + 1 := Nat.succ_pos _
          obtain ⟨g2, c2, rfl, _⟩ := hM.gadr (v := gsv) T.Fg.out hnp
          go_step3
          refine ⟨rfl, g2, n - 2 + 1, c2, r, T.join x y, _, _, _, _, _, _, _, _, _, _, _, _, _, _, _, _, _, _, _, _, _, _, _, _, _, _, _, _, _, _, _, _, _, _, _, _, _, _, _, _, _, _, _, _, _, _, _, _, rfl, ⟨?_, ?_, ?_, hgo, ?_⟩⟩
          · intro t ht
            rcases List.mem_cons.1 ht with rfl | ht
            · exact T.join_okP kx
            · exact krr t ht
          · have := HRL.out; simp only [List.length_cons] at this; omega
          · have := HN2.out; omega
          · rw [T.rc_app, T.rc_one]; exact hM.drop (by (repeat (first | exact List.Sublist.refl _ | apply List.Sublist.cons)))
        · have hfin := hfin hxy
          clear hgo
          have dn : decide (x.n = y.n) = false := decide_eq_false hxy
          repeat' (first | ((with_reducible show Code.wp _ (Code.region 4 _ true) _ _ _); refine T.mregion 4 (.p 0 (.p 1 (.p 2 (.p 3 (.p 4 (.p 5 (.p 6 (.p 7 (.t 8 (.p 9 (.p 10 (.p 11 (.p 12 (.p 13 (.t 14 (.p 15 (.p 16 .nil))))))))))))))))) 1000 (by kernel_rfl) (fun _ _ _ _ h => h) hM (List.Sublist.refl _) ?_; clear hM; intro wld hM) | ((with_reducible show T.Seq _ _ _ _ _ _ _); first | ((with_reducible show T.Seq _ _ _ (.p _ _) _ _ _); ((apply T.sq_p rfl rfl; (focus intro wS; ((go_simp; with_reducible rfl))); (try simp only [Act.put, List.setIfInBounds_toArray, List.set_cons_zero, List.set_cons_succ])))) | ((with_reducible show T.Seq _ _ _ (.t _ _) _ _ _); ((apply T.sq_t rfl rfl; (focus intro wS hS; first | exact T.x_gCell rfl rfl T.Fh.out T.TS.out hx2 hS | exact T.x_gCell rfl rfl T.Fh.out T.TS.out hy2 hS); (try simp only [Act.put, List.setIfInBounds_toArray, List.set_cons_zero, List.set_cons_succ])))) | ((with_reducible show T.Seq _ _ _ .nil _ _ _); refine T.sq_nil ?_)) | (go_step) | go_back)
          subst hP
          rw [hfin, hlen]
          exact hM.eg List.mem_cons_self
section
theorem E.rangeLaw2 {α : Type} {P : Program} {g : Operand} {ps : Array Tmp} {assign body : Code} {Q : Exit → Act → World → Prop} {a : Act} {w : World} {gf : Nat} {lb : Array Value} (hg : a.eval g = .func (.func gf) #[] lb)
    (eg : ∀ args w, (callFunc gf args).run P w = .ok (.enter gf args) w) {encs : α → Array Value} {els : List α} {R : World → Prop} (hseq : E.SeqB P gf lb encs els R) (hps : ∀ x, (encs x).size = ps.size)
    (I Ix : Nat → World → Prop) (hI : ∀ k A B, I k A → Below w.heap.size A B → I k B) (hIx : ∀ k A B, Ix k A → Below w.heap.size A B → Ix k B) (hR : ∀ k A, I k A → R A) (h0 : I 0 w) (B : Nat → α → Act → World → Prop)
    (hB : ∀ k x a' A o, B k x a' A → B k x a' (A.putObj (w.heap.size + 1) o))
    (hassign : ∀ (l k : Nat) (x : α) (W : World) (K : Act → World → Prop), els[k]? = some x → w.heap.size + 2 ≤ W.heap.size → I k W → (∀ a' W', E.KeepsOn w.heap.size W W' → B k x a' W' → K a' W') →
      assign.wpIn (Fence.wide.inRound l) 0 P (Exit.then K (fun _ _ _ => False)) { tmps := (ps.zip (encs x)).foldl (fun t (p, v) => t.setIfInBounds p v) a.tmps, defers := [] } W)
    (hbody : ∀ (l k : Nat) (x : α) (a' : Act) (W : World), els[k]? = some x → w.heap.size + 2 ≤ W.heap.size → B k x a' W → body.wpIn (Fence.wide.inRound l) 0 P (E.roundPost w.heap.size I Ix k W) a' W)
    (hdone : ∀ (W : World), w.heap.size + 2 ≤ W.heap.size → I els.length W → W.heap[w.heap.size]? = some (.deferred (some [])) → Q .normal { a with defers := { target := .collected w.heap.size, args := #[] } :: a.defers } W)
    (hstop : ∀ (k : Nat) (W : World), w.heap.size + 2 ≤ W.heap.size → k < els.length → Ix k W → W.heap[w.heap.size]? = some (.deferred (some [])) → Code.ret.wpIn Fence.wide 0 P Q { a with defers := { target := .collected w.heap.size, args := #[] } :: a.defers } W) :
    (Code.rangeFunc g ps assign body).wpIn Fence.wide 0 P Q a w := by
  refine wpIn_rangeFunc ?_
  intro fn hfn
  rw [show Fence.wide.round = none from rfl]
  obtain ⟨rec, hrec⟩ : ∃ rec : LoopState → Option Code → Loop, rec = fun st pe => { state := st, pending := pe, fn, tmps := a.tmps, params := ps, assign, body, defers := w.heap.size } := ⟨_, rfl⟩
  obtain ⟨W1, hW1⟩ : ∃ W1, (w.alloc (.deferred (some []))).alloc (.loop (rec .ready none)) = W1 := ⟨_, rfl⟩
  have hL1 : W1.heap[w.heap.size + 1]? = some (.loop (rec .ready none)) := by
    rw [← hW1]; have := World.alloc_heap_new (w.alloc (.deferred (some []))) (.loop (rec .ready none)); rwa [World.size_alloc] at this
  have hK1 : W1.heap[w.heap.size]? = some (.deferred (some [])) := by
    rw [← hW1]; exact (Below.heap_alloc _ _ _ (by simp)).trans (World.alloc_heap_new w _)
  have hb1 : Below w.heap.size w W1 := by
    rw [← hW1]; exact ((Below.refl _ w).alloc (Nat.le_refl _) _).alloc (by simp) _
  have hs1 : W1.heap.size = w.heap.size + 2 := by rw [← hW1]; simp
  have hI1 : I 0 W1 := hI _ _ _ h0 hb1
  refine ⟨w.heap.size + 1, [{ target := .collected w.heap.size, args := #[] }], W1, { target := .fn (.func gf) lb, args := #[.func (.yield (w.heap.size + 1)) #[] #[]] }, W1, gf,
    #[.func (.yield (w.heap.size + 1)) #[] #[]] ++ lb, W1, ?_, ?_, ?_, ?_, (fun h => by cases h), ?_⟩
  · rw [← hW1, hrec]; exact run_enterLoop_outer _ _ _ _ _
  · simp only [resolve, hg]
    simp [go_sem]
  · intro f' hf'; exact trivial
  · simp [invoke, go_sem, eg]
  · refine (hseq (w.heap.size + 1)
      (fun k W => I k W ∧ W.heap[w.heap.size + 1]? = some (.loop (rec .ready none)) ∧ W.heap[w.heap.size]? = some (.deferred (some [])))
      (fun k W => Ix k W ∧ W.heap[w.heap.size + 1]? = some (.loop (rec .done (some .ret))) ∧ W.heap[w.heap.size]? = some (.deferred (some [])))
      W1 ?_ ?_ ?_ ?_ ⟨hI1, hL1, hK1⟩).mono ?_
    · rintro k A B ⟨h1, h2, h3⟩ hb
      exact ⟨hI _ _ _ h1 (hb.mono (by omega)), (hb.block _ (by omega)).trans h2, (hb.block _ (by omega)).trans h3⟩
    · rintro k A B ⟨h1, h2, h3⟩ hb
      exact ⟨hIx _ _ _ h1 (hb.mono (by omega)), (hb.block _ (by omega)).trans h2, (hb.block _ (by omega)).trans h3⟩
    · rintro k A ⟨h1, h2, h3⟩
      have := (Array.getElem?_eq_some_iff.1 h2).1
      exact ⟨hR _ _ h1, by omega⟩
    · 
      rintro k x W0 hx ⟨hi, hl0, hk0⟩
      have hlt0 : w.heap.size + 1 < W0.heap.size := (Array.getElem?_eq_some_iff.1 hl0).1
      have hy := run_yield (P := P) (args := encs x) hl0 (by rw [hrec]; exact hps x)
      rw [hrec] at hy
      refine ⟨fn, _, assign, body, hy, roundIn_of_wpIn hfn (hassign _ k x W0 _ hx (by omega) hi fun a' W hkp hBk => ?_)⟩
      have hl : W.heap[w.heap.size + 1]? = some (.loop (rec .ready none)) := (hkp.2 _ (by omega) hlt0).trans hl0
      have hk : W.heap[w.heap.size]? = some (.deferred (some [])) := (hkp.2 _ (Nat.le_refl _) (by omega)).trans hk0
      refine ⟨_, run_beginRound hl (by rw [hrec]), ?_⟩
      have hlt : w.heap.size + 1 < W.heap.size := (Array.getElem?_eq_some_iff.1 hl).1
      have hl2 : (W.putObj (w.heap.size + 1) (.loop { rec .ready none with state := .busy })).heap[w.heap.size + 1]? = some (.loop { rec .ready none with state := .busy }) := World.putObj_heap_same hlt
      have hk2 : (W.putObj (w.heap.size + 1) (.loop { rec .ready none with state := .busy })).heap[w.heap.size]? = some (.deferred (some [])) := (World.putObj_heap_other (by omega)).trans hk
      have hw2 : E.KeepsOn W1.heap.size W0 (W.putObj (w.heap.size + 1) (.loop { rec .ready none with state := .busy })) := (hkp.mono (by omega)).trans ⟨by simp, fun b hb _ => World.putObj_heap_other (by omega)⟩
      refine wpIn_mono (hbody _ k x a' _ hx (by simp; omega) (hB _ _ _ _ _ hBk)) ?_
      have fin : ∀ (jump : Option Code) (W3 : World), E.KeepsOn w.heap.size (W.putObj (w.heap.size + 1) (.loop { rec .ready none with state := .busy })) W3 →
          (Instr.endRound (w.heap.size + 1) jump).run P W3 = .ok (.bool jump.isNone) (W3.putObj (w.heap.size + 1) (.loop (rec (if jump.isNone then .ready else .done) jump))) ∧
          W3.heap[w.heap.size + 1]? = some (.loop { rec .ready none with state := .busy }) ∧
          (W3.putObj (w.heap.size + 1) (.loop (rec (if jump.isNone then .ready else .done) jump))).heap[w.heap.size + 1]? = some (.loop (rec (if jump.isNone then .ready else .done) jump)) ∧
          (W3.putObj (w.heap.size + 1) (.loop (rec (if jump.isNone then .ready else .done) jump))).heap[w.heap.size]? = some (.deferred (some [])) ∧
          E.KeepsOn W1.heap.size W0 (W3.putObj (w.heap.size + 1) (.loop (rec (if jump.isNone then .ready else .done) jump))) := fun jump W3 hk3 => by
        have hl3 := (hk3.2 (w.heap.size + 1) (by omega) (by simp; omega)).trans hl2
        have := run_endRound (P := P) jump hl3
        rw [hrec] at this ⊢
        refine ⟨this, by rw [hrec] at hl3; exact hl3, World.putObj_heap_same (Array.getElem?_eq_some_iff.1 hl3).1, (World.putObj_heap_other (by omega)).trans ((hk3.2 w.heap.size (Nat.le_refl _) (by simp; omega)).trans hk2), ?_⟩
        exact hw2.trans ((hk3.mono (B' := W1.heap.size) (by omega)).trans ⟨by simp, fun b hb _ => World.putObj_heap_other (by omega)⟩)
      rintro e a3 W3 hp
      cases e with
      | normal =>
        obtain ⟨hk3, hi3⟩ := hp
        obtain ⟨hr, hl3, hl4, hk4, hke⟩ := fin none W3 hk3
        exact ⟨_, _, hr, .inl ⟨rfl, ⟨hI _ _ _ hi3 (E.below_put hl3 (by omega)), hl4, hk4⟩, hke⟩⟩
      | ret =>
        obtain ⟨hk3, hi3⟩ := hp
        obtain ⟨hr, hl3, hl4, hk4, hke⟩ := fin (some .ret) W3 hk3
        exact ⟨_, _, hr, .inr ⟨rfl, ⟨hIx _ _ _ hi3 (E.below_put hl3 (by omega)), hl4, hk4⟩, hke⟩⟩
      | exit id => exact hp.elim
      | goto t => exact hp.elim
      | panic ch => exact hp.elim
      | outgrown => exact hp.elim
    · 
      rintro e W2 ⟨⟨v, rfl⟩, (⟨hi, hl, hk⟩ | ⟨k, hk0, hi, hl, hk⟩), hsz⟩
      · exact ⟨none, _, by have := run_endLoop (P := P) hl (by rw [hrec]; simp); rw [hrec] at this; exact this, hdone _ (by simp; omega) (hI _ _ _ hi (E.below_put hl (by omega))) ((World.putObj_heap_other (by omega)).trans hk)⟩
      · exact ⟨some .ret, _, by have := run_endLoop (P := P) hl (by rw [hrec]; simp); rw [hrec] at this; exact this, hstop k _ (by simp; omega) hk0 (hIx _ _ _ hi (E.below_put hl (by omega))) ((World.putObj_heap_other (by omega)).trans hk)⟩
section
variable {F : Fence} {n : Nat} {P : Program} {w : World} {ops : Array Oper} {rest : List Oper} {o : Oper} {a : Act} {Q : Exit → Act → World → Prop}
theorem T.in_v {s : Sem Value} (hg : o.guard = none) (he : execOp a.eval o = (do pure (.value (← s)))) (hnd : ∀ c, o.op ≠ .defer c) (hab : ∀ f, o.about P w a.eval = some f → F.fn f) (h : T.OW P o a w (fun a' w' => wpListIn F n P ops Q rest a' w') (fun _ _ _ => False)) :
    wpListIn F n P ops Q (o :: rest) a w := by
  refine wpListIn_plain hg fun K hK' => ?_
  unfold Oper.wpIn
  refine ⟨hab, ?_⟩
  rw [Oper.semAt_plain F _ _ hnd]
  have h := h.out
  unfold Oper.wp at h
  rw [he] at h ⊢
  simp only [Sem.run_bind, Sem.run_pure] at h ⊢
  cases hr : s.run P w with
  | ok v w' => rw [hr] at h; exact hK' _ _ h
  | halt hh w' => rw [hr] at h; cases hh <;> (exact h.elim)
theorem T.in_u {s : Sem Unit} (hg : o.guard = none) (he : execOp a.eval o = (do s; pure .skip)) (hnd : ∀ c, o.op ≠ .defer c) (hab : ∀ f, o.about P w a.eval = some f → F.fn f) (h : T.OW P o a w (fun a' w' => wpListIn F n P ops Q rest a' w') (fun _ _ _ => False)) :
    wpListIn F n P ops Q (o :: rest) a w := by
  refine wpListIn_plain hg fun K hK' => ?_
  unfold Oper.wpIn
  refine ⟨hab, ?_⟩
  rw [Oper.semAt_plain F _ _ hnd]
  have h := h.out
  unfold Oper.wp at h
  rw [he] at h ⊢
  simp only [Sem.run_bind, Sem.run_pure] at h ⊢
  cases hr : s.run P w with
  | ok v w' => rw [hr] at h; exact hK' _ _ h
  | halt hh w' => rw [hr] at h; cases hh <;> (exact h.elim)
theorem T.in_store (ty : TypeId) (x y : Operand) (ho : o.op = .store ty x y) (hg : o.guard = none) (hab : ∀ f, o.about P w a.eval = some f → F.fn f) (h : T.OW P o a w (fun a' w' => wpListIn F n P ops Q rest a' w') (fun _ _ _ => False)) :
    wpListIn F n P ops Q (o :: rest) a w :=
  T.in_u (s := Instr.storeAt ty (a.eval x) (a.eval y)) hg (by unfold execOp; simp only [ho]) (fun c h => by rw [ho] at h; cases h) hab h
end
theorem T.Mem.past {w0 w w' : World} {F : Option Nat} {L : List T.Blk} {l : Nat} (h : T.Mem w0 F w L) (hg : w.grownBy w' (some l)) (h0 : w0.heap.size ≤ l) (hk : ∀ e ∈ L, e.key ≠ some l) : T.Mem w0 F w' L :=
  ⟨⟨hg.os.trans h.grown.os, hg.tape.trans h.grown.tape, hg.output.trans h.grown.output, Nat.le_trans h.grown.size hg.size, fun i hi hn => (hg.block i (Nat.lt_of_lt_of_le hi h.grown.size) (fun e => by cases e; omega)).trans (h.grown.block i hi hn)⟩, h.own, fun e he => T.lies_kept (h.row e he) hg (fun k hk1 e2 => hk e he (hk1.trans e2)), h.nd⟩
def T.encW (p : List T.Tot) (k : Nat) : Array Value := #[.int .i64 ((p.length - 1 - k : Nat) : Int), .agg ((p.getD (p.length - 1 - k) T.Tot.zero).cells).toArray]
def T.BwR (p : List T.Tot) (b o c Bs : Nat) (A : World) : Prop := A.cell? ⟨Bs, 0, none⟩ = some (.slice (some ⟨b, o, none⟩) p.length c) ∧ A.rangeAt b o (T.rc T.Tot.cells p)
theorem T.back_seq (p : List T.Tot) (kp : T.okP p) (b o c Bs : Nat) (hm : p.length ≤ 100000000) :
    E.SeqB Tryz.prog 133 #[.pointer (some ⟨Bs, 0, none⟩)] (T.encW p) (List.range p.length) (T.BwR p b o c Bs) := by
  intro ll J Jx W hJ hJx hR hY h0
  have HR := Aside0.mk hR
  have HY := Aside0.mk hY
  have H0 := Aside0.mk h0
  have HJ0 := Aside0.mk hJ
  have HKP := Aside0.mk kp
  obtain ⟨hc0, _⟩ := (hR 0 W h0).1
  clear hR hY h0 hJ hJx kp
  have ew0 : IntKind.i64.wrap ((p.length : Int) - 1) = (p.length : Int) - 1 := T.w64 (by omega) (by omega)
  refine callsIn_of_wp Tryz.func133 rfl trivial ?_ rfl
  simp only [Tryz.ntmps133, List.size_toArray, List.length_cons, List.length_nil, Nat.reduceAdd, Nat.reduceSub, Array.replicate_succ, Array.replicate_zero, List.push_toArray, List.append_toArray, List.nil_append, List.cons_append]
  gi_wp2
  gi_loopw [3] (fun i wr => ∃ (k : Nat) (z : Int), i = .int .i64 z ∧ Aside0 (z = (p.length : Int) - 1 - (k : Int)) ∧ k ≤ p.length ∧ Aside0 (J k wr))
    (fun i _ => (intOf i + 1).toNat)
  case atStart => exact ⟨0, _, rfl, ⟨by simp⟩, by omega, H0⟩
  case round =>
    obtain ⟨k, z, rfl, HZ, hk, HJ⟩ := hrel
    clear H0
    obtain ⟨hc1, hr1⟩ := (HR.out k wr HJ.out).1
    by_cases hlt : k < p.length
    · obtain ⟨j, HJJ⟩ : ∃ j : Nat, Aside0 (j = p.length - 1 - k) := ⟨_, ⟨rfl⟩⟩
      obtain rfl : z = (j : Int) := by have := HZ.out; have := HJJ.out; omega
      have hjl : j < p.length := by have := HJJ.out; omega
      have ew : IntKind.i64.wrap ((j : Int) - 1) = (j : Int) - 1 := T.w64 (by omega) (by omega)
      have hjlz : (j : Int) < (p.length : Int) := by omega
      have hj0 : (0 : Int) ≤ (j : Int) := by omega
      have hat := T.rc_at (enc := T.Tot.cells) (k := 37) (fun t ht => t.len (HKP.out t ht).1) j hjl
      obtain ⟨fn, tmps, assign, body, hy, hRd⟩ := HY.out k k wr (by rw [List.getElem?_range hlt]) HJ.out
      unfold T.encW at hy
      have hgd : p.getD j T.Tot.zero = p[j] := by rw [List.getD_eq_getElem?_getD, List.getElem?_eq_getElem hjl]; rfl
      rw [← HJJ.out, hgd] at hy
      have HRG := Aside0.mk (show wr.rangeAt b (o + j * 37) (p[j]).cells by
        have h2 := T.range_part hr1 (j * 37) 37
        rwa [hat] at h2)
      have hpl : (p[j]).cells.length = 37 := (p[j]).len (HKP.out _ (List.getElem_mem hjl)).1
      clear hr1 hat hgd
      gi_wp2_with (refine T.in_v rfl rfl (by intro c h; cases h) (fun _ _ => trivial) (T.ofx (T.x_range rfl rfl HRG.out T.TU.out T.TN.out hpl) ?_))
      refine ⟨rfl, hRd.mono ?_⟩
      rintro e W3 (⟨rfl, hJ3, hk3⟩ | ⟨rfl, hJx3, hk3⟩)
      · gi_wp2
        go_roundw
        case rel => exact ⟨k + 1, _, rfl, ⟨by have := HJJ.out; omega⟩, by omega, ⟨hJ3⟩⟩
        case measure => simp only [intOf]; omega
      · gi_wp2
        refine bodyPost_ret (results_none rfl _ _ _) rfl ?_
        exact ⟨⟨_, rfl⟩, .inr ⟨k, by rw [List.length_range]; exact hlt, hJx3⟩, Nat.le_trans (HR.out k wr HJ.out).2 hk3.1⟩
    · have cb : decide (0 ≤ z) = false := by have := HZ.out; rw [decide_eq_false_iff_not]; omega
      obtain rfl : k = p.length := by omega
      gi_wp2
      go_end0
      exact ⟨⟨_, rfl⟩, .inl (by rw [List.length_range]; exact HJ.out), (HR.out _ _ HJ.out).2⟩
theorem T.back_calls {w0 w : World} {F : Option Nat} {L : List T.Blk} (hM : T.Mem w0 F w L) (A : Option Addr) (n c : Nat) : Calls Tryz.prog 95 #[.slice A n c] w fun e w' => ∃ b1, e = .returned (.func (.func 133) #[] #[.pointer (some ⟨b1, 0, none⟩)]) ∧ T.Mem w0 F w' (.b b1 76 [.slice A n c] :: L) := by
  generalize hP : (fun (e : Ending) w' => ∃ b1, e = .returned (.func (.func 133) #[] #[.pointer (some ⟨b1, 0, none⟩)]) ∧ T.Mem w0 F w' (.b b1 76 [.slice A n c] :: L)) = Post
  go_enter Tryz.func95, Tryz.ntmps95
  repeat' (first | ((((((with_reducible show wpList _ _ _ _ _ _); (refine T.w_o rfl ?_)))); (((with_reducible show T.OW _ ⟨_, .box _ _, _, _, _, _⟩ _ _ _ _); refine T.op_box _ _ rfl _ rfl hM ?_; clear hM; intro blk wld hM hlt; (try simp only [Act.eval, Array.getD_eq_getD_getElem?, List.getElem?_toArray, List.getElem?_cons_zero, List.getElem?_cons_succ, Option.getD_some] at hM)))); (try simp only [Act.put, List.setIfInBounds_toArray, List.set_cons_zero, List.set_cons_succ])) | (go_step) | go_back)
  subst hP
  exact ⟨_, rfl, hM⟩
end
end Go.Proofs.YtdklknfgcepcbaaGreat.X
