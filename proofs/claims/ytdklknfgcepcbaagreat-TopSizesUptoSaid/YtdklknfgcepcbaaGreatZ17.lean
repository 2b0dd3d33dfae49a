/- Texts of this proof, laid together by wip/tools/pack.py: TI4. -/
import Derived.Test.YtdklknfgcepcbaaGreatZ15
import Derived.Test.YtdklknfgcepcbaaGreatZ16
namespace Go.Proofs.YtdklknfgcepcbaaGreat.X
open Go.RowKit Go.Proofs.YtdklknfgcepcbaaGreatW.PrintWords Go.Proofs.YtdklknfgcepcbaaGreatW.PrintLast Go.Proofs.YtdklknfgcepcbaaGreatW.PrintMore
set_option linter.unusedSimpArgs false
set_option linter.unusedVariables false
set_option maxHeartbeats 2000000
set_option maxRecDepth 20000
section
def T.rc {α : Type} (enc : α → List Value) (l : List α) : List Value := (l.map enc).flatten
section
variable {α : Type} {enc : α → List Value} {k : Nat} {l m : List α}
theorem T.rc_cons (x : α) (l : List α) : T.rc enc (x :: l) = enc x ++ T.rc enc l := by simp [T.rc]
theorem T.rc_app (l m : List α) : T.rc enc (l ++ m) = T.rc enc l ++ T.rc enc m := by simp [T.rc]
theorem T.rc_one (x : α) : T.rc enc [x] = enc x := by simp [T.rc]
theorem T.rc_len : ∀ {l : List α}, (∀ x ∈ l, (enc x).length = k) → (T.rc enc l).length = l.length * k
  | [], _ => by simp [T.rc]
  | x :: l, h => by rw [T.rc_cons, List.length_append, h x List.mem_cons_self, T.rc_len (fun y hy => h y (List.mem_cons_of_mem _ hy)), List.length_cons, Nat.succ_mul, Nat.add_comm]
theorem T.rc_at (h : ∀ x ∈ l, (enc x).length = k) (i : Nat) (hi : i < l.length) : ((T.rc enc l).drop (i * k)).take k = enc l[i] := by
  have e : l = l.take i ++ (l[i] :: l.drop (i + 1)) := by simp
  have h1 : (T.rc enc (l.take i)).length = i * k := by
    rw [T.rc_len (k := k) (fun x hx => h x (List.mem_of_mem_take hx)), List.length_take, Nat.min_eq_left (by omega)]
  conv => lhs; rw [e]
  rw [T.rc_app, T.rc_cons, ← h1, List.drop_left, ← h _ (List.getElem_mem hi), List.take_left]
theorem T.rc_cell (h : ∀ x ∈ l, (enc x).length = k) (i j : Nat) (hi : i < l.length) (hj : j < k) : (T.rc enc l)[i * k + j]? = (enc l[i])[j]? := by
  rw [← T.rc_at h i hi, List.getElem?_take, if_pos hj, List.getElem?_drop]
theorem T.rc_take (h : ∀ x ∈ l, (enc x).length = k) (i : Nat) : (T.rc enc l).take (i * k) = T.rc enc (l.take i) := by
  rcases Nat.lt_or_ge i l.length with hi | hi
  · conv => lhs; rw [← List.take_append_drop i l, T.rc_app]
    exact List.take_left' (by rw [T.rc_len (k := k) (fun x hx => h x (List.mem_of_mem_take hx)), List.length_take, Nat.min_eq_left (by omega)])
  · rw [List.take_of_length_le hi, List.take_of_length_le (by rw [T.rc_len h]; exact Nat.mul_le_mul_right _ hi)]
theorem T.rc_drop (h : ∀ x ∈ l, (enc x).length = k) (i : Nat) : (T.rc enc l).drop (i * k) = T.rc enc (l.drop i) := by
  rcases Nat.lt_or_ge i l.length with hi | hi
  · conv => lhs; rw [← List.take_append_drop i l, T.rc_app]
    exact List.drop_left' (by rw [T.rc_len (k := k) (fun x hx => h x (List.mem_of_mem_take hx)), List.length_take, Nat.min_eq_left (by omega)])
  · rw [List.drop_eq_nil_of_le hi, List.drop_eq_nil_of_le (by rw [T.rc_len h]; exact Nat.mul_le_mul_right _ hi)]; rfl
theorem T.rc_ones (h : ∀ x ∈ l, ∀ v ∈ enc x, v.oneCell' = true) : ∀ v ∈ T.rc enc l, v.oneCell' = true := fun v hv => by
  obtain ⟨c, hc, hv⟩ := List.mem_flatten.1 hv
  obtain ⟨x, hx, rfl⟩ := List.mem_map.1 hc
  exact h x hx v hv
end
theorem T.u8s_rc (l : List (List Int)) : T.u8s l.flatten = T.rc T.u8s l := by
  induction l with
  | nil => rfl
  | cons x l ih => rw [List.flatten_cons, T.rc_cons, ← ih]; simp [T.u8s, encs]
theorem T.x_slCell {P : Program} {w : World} {op : Oper} {a : Act} {ty : TypeId} {x : Operand} {b o n c j : Nat} {cs : List Value} {v : Value} (ho : op.op = .load ty x) (hx : a.eval x = .pointer (some ⟨b, o + j, none⟩)) (hS : T.Sl w (.slice (some ⟨b, o, none⟩) n c) n cs)
    (hg : ∀ w, (isAgg ty).run P w = .ok false w) (hv : cs[j]? = some v) : (execOp a.eval op).run P w = .ok (.value v) w := by
  obtain ⟨b', o', e, hr⟩ := hS.of_some
  cases e
  exact T.x_cell ho hx hg (hr j v hv)
theorem T.x_slRow {P : Program} {w : World} {op : Oper} {a : Act} {ty : TypeId} {x : Operand} {b o n c j k : Nat} {cs vs : List Value} (ho : op.op = .load ty x) (hx : a.eval x = .pointer (some ⟨b, o + j, none⟩)) (hS : T.Sl w (.slice (some ⟨b, o, none⟩) n c) n cs)
    (hu : ∃ d, P.underlying ty = some d ∧ d.isRow = true) (hi : (P.info? ty).map (·.size) = some k) (hvs : (cs.drop j).take k = vs) (hl : vs.length = k) : (execOp a.eval op).run P w = .ok (.value (.agg vs.toArray)) w := by
  obtain ⟨b', o', e, hr⟩ := hS.of_some
  cases e
  have h2 := T.range_part hr j k
  rw [hvs] at h2
  exact T.x_range ho hx h2 hu hi hl
theorem T.Sl.cap {w : World} {A : Option Addr} {n c : Nat} {cs : List Value} (h : T.Sl w (.slice A n c) n cs) : n ≤ c := by
  obtain ⟨_, _, e, h, _⟩ := h
  cases e
  exact h
theorem T.clone {ρ : Go.Shelf.Ren} (L : SlLaysE0.n41 Tryz.prog ρ) {t e : TypeId} {size bytes : Nat} (hE : T.El Tryz.prog t e size bytes) (he : ρ.t 23 = e) (hodd : ∀ (ad : Addr) (w : World), Calls Tryz.prog (ρ.f 41) #[.slice (some ad) 0 0] w (T.EG e size 0 [] w)) (v : Value) (n : Nat) (cs : List Value) (w : World) (hS : T.Sl w v n cs) (hl : cs.length = n * size) (hn : n ≤ 100000000) (hb : bytes ≤ 1000) :
    Calls Tryz.prog (ρ.f 41) #[v] w (T.EG e size n cs w) := by
  obtain ⟨A, c, rfl, hc, h1, h2⟩ := id hS
  obtain ⟨i, z, hi, hz, e1, e2, e3⟩ := hE.info
  subst he
  rcases h2 with ⟨_, rfl, rfl, rfl⟩ | ⟨b, o, rfl, hr⟩
  · cases A with
    | none =>
      refine (AnyE.slices_Clone_nil L 0 0 w).mono ?_
      rintro _ _ ⟨rfl, rfl⟩
      exact ⟨_, rfl, World.ownsRow_nil _ _ _ _, fun _ h => (List.not_mem_nil h).elim, Below.refl _ _⟩
    | some ad => exact hodd ad w
  · refine (AnyE.slices_Clone L i z size bytes hi hz e1 e2 e3 hE.pos (T.size_run (by rw [hi, ← e1]; rfl)) b o n c cs w hl (by simp only [maxLen]; omega) ?_ hr h1).mono ?_
    · exact Nat.le_trans (Nat.mul_le_mul hn hb) (by decide)
    · rintro _ w' ⟨v', rfl, ho, _, hb⟩
      exact ⟨v', rfl, ho, h1, hb⟩
theorem T.cloneZ38 (ad : Addr) (w : World) : Calls Tryz.prog 38 #[.slice (some ad) 0 0] w (T.EG 44 32 0 [] w) := by
  have hM := T.Mem.start w
  have hS0 := T.Sl.odd w (some ad)
  have q1 : ∀ w : World, (binOp .eql 51 (.slice (some ad) 0 0) (.slice none 0 0)).run Tryz.prog w = .ok (.bool false) w := fun w => Lib.run_eql_slice_nil w _ _ (some ad) 0 0 0 0 Tryz.underlying51
  generalize hP : T.EG 44 32 0 [] w = Post
  go_enter Tryz.func38, Tryz.ntmps38
  repeat' (first | ((with_reducible show wpList _ _ _ (⟨_, .call ⟨.builtin .append, _, _⟩, _, _, _, _⟩ :: _) _ _); refine T.w_o rfl ?_; refine T.op_app _ _ _ rfl _ _ _ T.TE.out _ _ _ rfl _ 0 [] hM (fun _ => by (repeat ((exact T.Sub.head _)))) (hM.slin hS0) rfl (by decide) (by decide) (by decide) ?_; clear hM; intro gsv wld hM; (try simp only [Act.put, List.setIfInBounds_toArray, List.set_cons_zero, List.set_cons_succ])) | ((((((with_reducible show wpList _ _ _ _ _ _); (refine T.w_o rfl ?_)))); (((with_reducible show T.OW _ ⟨_, .buildSlice _ 0 _, _, _, _, _⟩ _ _ _ _); refine T.op_build0 _ rfl _ _ _ T.TE.out hM ?_; clear hM; intro gsv wld hM))); (try simp only [Act.put, List.setIfInBounds_toArray, List.set_cons_zero, List.set_cons_succ])) | (go_step) | go_back)
  subst hP
  exact hM.eg List.mem_cons_self
theorem T.cloneZ78 (ad : Addr) (w : World) : Calls Tryz.prog 78 #[.slice (some ad) 0 0] w (T.EG 151 33 0 [] w) := by
  have hM := T.Mem.start w
  have hS0 := T.Sl.odd w (some ad)
  have q1 : ∀ w : World, (binOp .eql 92 (.slice (some ad) 0 0) (.slice none 0 0)).run Tryz.prog w = .ok (.bool false) w := fun w => Lib.run_eql_slice_nil w _ _ (some ad) 0 0 0 0 Tryz.underlying92
  generalize hP : T.EG 151 33 0 [] w = Post
  go_enter Tryz.func78, Tryz.ntmps78
  repeat' (first | ((with_reducible show wpList _ _ _ (⟨_, .call ⟨.builtin .append, _, _⟩, _, _, _, _⟩ :: _) _ _); refine T.w_o rfl ?_; refine T.op_app _ _ _ rfl _ _ _ T.TE.out _ _ _ rfl _ 0 [] hM (fun _ => by (repeat ((exact T.Sub.head _)))) (hM.slin hS0) rfl (by decide) (by decide) (by decide) ?_; clear hM; intro gsv wld hM; (try simp only [Act.put, List.setIfInBounds_toArray, List.set_cons_zero, List.set_cons_succ])) | ((((((with_reducible show wpList _ _ _ _ _ _); (refine T.w_o rfl ?_)))); (((with_reducible show T.OW _ ⟨_, .buildSlice _ 0 _, _, _, _, _⟩ _ _ _ _); refine T.op_build0 _ rfl _ _ _ T.TE.out hM ?_; clear hM; intro gsv wld hM))); (try simp only [Act.put, List.setIfInBounds_toArray, List.set_cons_zero, List.set_cons_succ])) | (go_step) | go_back)
  subst hP
  exact hM.eg List.mem_cons_self
theorem T.cloneZ79 (ad : Addr) (w : World) : Calls Tryz.prog 79 #[.slice (some ad) 0 0] w (T.EG 154 2 0 [] w) := by
  have hM := T.Mem.start w
  have hS0 := T.Sl.odd w (some ad)
  have q1 : ∀ w : World, (binOp .eql 93 (.slice (some ad) 0 0) (.slice none 0 0)).run Tryz.prog w = .ok (.bool false) w := fun w => Lib.run_eql_slice_nil w _ _ (some ad) 0 0 0 0 Tryz.underlying93
  generalize hP : T.EG 154 2 0 [] w = Post
  go_enter Tryz.func79, Tryz.ntmps79
  repeat' (first | ((with_reducible show wpList _ _ _ (⟨_, .call ⟨.builtin .append, _, _⟩, _, _, _, _⟩ :: _) _ _); refine T.w_o rfl ?_; refine T.op_app _ _ _ rfl _ _ _ T.TE.out _ _ _ rfl _ 0 [] hM (fun _ => by (repeat ((exact T.Sub.head _)))) (hM.slin hS0) rfl (by decide) (by decide) (by decide) ?_; clear hM; intro gsv wld hM; (try simp only [Act.put, List.setIfInBounds_toArray, List.set_cons_zero, List.set_cons_succ])) | ((((((with_reducible show wpList _ _ _ _ _ _); (refine T.w_o rfl ?_)))); (((with_reducible show T.OW _ ⟨_, .buildSlice _ 0 _, _, _, _, _⟩ _ _ _ _); refine T.op_build0 _ rfl _ _ _ T.TE.out hM ?_; clear hM; intro gsv wld hM))); (try simp only [Act.put, List.setIfInBounds_toArray, List.set_cons_zero, List.set_cons_succ])) | (go_step) | go_back)
  subst hP
  exact hM.eg List.mem_cons_self
theorem T.cloneZ97 (ad : Addr) (w : World) : Calls Tryz.prog 97 #[.slice (some ad) 0 0] w (T.EG 120 37 0 [] w) := by
  have hM := T.Mem.start w
  have hS0 := T.Sl.odd w (some ad)
  have q1 : ∀ w : World, (binOp .eql 76 (.slice (some ad) 0 0) (.slice none 0 0)).run Tryz.prog w = .ok (.bool false) w := fun w => Lib.run_eql_slice_nil w _ _ (some ad) 0 0 0 0 Tryz.underlying76
  generalize hP : T.EG 120 37 0 [] w = Post
  go_enter Tryz.func97, Tryz.ntmps97
  repeat' (first | ((with_reducible show wpList _ _ _ (⟨_, .call ⟨.builtin .append, _, _⟩, _, _, _, _⟩ :: _) _ _); refine T.w_o rfl ?_; refine T.op_app _ _ _ rfl _ _ _ T.TE.out _ _ _ rfl _ 0 [] hM (fun _ => by (repeat ((exact T.Sub.head _)))) (hM.slin hS0) rfl (by decide) (by decide) (by decide) ?_; clear hM; intro gsv wld hM; (try simp only [Act.put, List.setIfInBounds_toArray, List.set_cons_zero, List.set_cons_succ])) | ((((((with_reducible show wpList _ _ _ _ _ _); (refine T.w_o rfl ?_)))); (((with_reducible show T.OW _ ⟨_, .buildSlice _ 0 _, _, _, _, _⟩ _ _ _ _); refine T.op_build0 _ rfl _ _ _ T.TE.out hM ?_; clear hM; intro gsv wld hM))); (try simp only [Act.put, List.setIfInBounds_toArray, List.set_cons_zero, List.set_cons_succ])) | (go_step) | go_back)
  subst hP
  exact hM.eg List.mem_cons_self
theorem T.cloneZ124 (ad : Addr) (w : World) : Calls Tryz.prog 124 #[.slice (some ad) 0 0] w (T.EG 95 2 0 [] w) := by
  have hM := T.Mem.start w
  have hS0 := T.Sl.odd w (some ad)
  have q1 : ∀ w : World, (binOp .eql 54 (.slice (some ad) 0 0) (.slice none 0 0)).run Tryz.prog w = .ok (.bool false) w := fun w => Lib.run_eql_slice_nil w _ _ (some ad) 0 0 0 0 Tryz.underlying54
  generalize hP : T.EG 95 2 0 [] w = Post
  go_enter Tryz.func124, Tryz.ntmps124
  repeat' (first | ((with_reducible show wpList _ _ _ (⟨_, .call ⟨.builtin .append, _, _⟩, _, _, _, _⟩ :: _) _ _); refine T.w_o rfl ?_; refine T.op_app _ _ _ rfl _ _ _ T.TE.out _ _ _ rfl _ 0 [] hM (fun _ => by (repeat ((exact T.Sub.head _)))) (hM.slin hS0) rfl (by decide) (by decide) (by decide) ?_; clear hM; intro gsv wld hM; (try simp only [Act.put, List.setIfInBounds_toArray, List.set_cons_zero, List.set_cons_succ])) | ((((((with_reducible show wpList _ _ _ _ _ _); (refine T.w_o rfl ?_)))); (((with_reducible show T.OW _ ⟨_, .buildSlice _ 0 _, _, _, _, _⟩ _ _ _ _); refine T.op_build0 _ rfl _ _ _ T.TE.out hM ?_; clear hM; intro gsv wld hM))); (try simp only [Act.put, List.setIfInBounds_toArray, List.set_cons_zero, List.set_cons_succ])) | (go_step) | go_back)
  subst hP
  exact hM.eg List.mem_cons_self
theorem T.cloneZ144 (ad : Addr) (w : World) : Calls Tryz.prog 144 #[.slice (some ad) 0 0] w (T.EG 234 35 0 [] w) := by
  have hM := T.Mem.start w
  have hS0 := T.Sl.odd w (some ad)
  have q1 : ∀ w : World, (binOp .eql 77 (.slice (some ad) 0 0) (.slice none 0 0)).run Tryz.prog w = .ok (.bool false) w := fun w => Lib.run_eql_slice_nil w _ _ (some ad) 0 0 0 0 Tryz.underlying77
  generalize hP : T.EG 234 35 0 [] w = Post
  go_enter Tryz.func144, Tryz.ntmps144
  repeat' (first | ((with_reducible show wpList _ _ _ (⟨_, .call ⟨.builtin .append, _, _⟩, _, _, _, _⟩ :: _) _ _); refine T.w_o rfl ?_; refine T.op_app _ _ _ rfl _ _ _ T.TE.out _ _ _ rfl _ 0 [] hM (fun _ => by (repeat ((exact T.Sub.head _)))) (hM.slin hS0) rfl (by decide) (by decide) (by decide) ?_; clear hM; intro gsv wld hM; (try simp only [Act.put, List.setIfInBounds_toArray, List.set_cons_zero, List.set_cons_succ])) | ((((((with_reducible show wpList _ _ _ _ _ _); (refine T.w_o rfl ?_)))); (((with_reducible show T.OW _ ⟨_, .buildSlice _ 0 _, _, _, _, _⟩ _ _ _ _); refine T.op_build0 _ rfl _ _ _ T.TE.out hM ?_; clear hM; intro gsv wld hM))); (try simp only [Act.put, List.setIfInBounds_toArray, List.set_cons_zero, List.set_cons_succ])) | (go_step) | go_back)
  subst hP
  exact hM.eg List.mem_cons_self
theorem T.cloneZ194 (ad : Addr) (w : World) : Calls Tryz.prog 194 #[.slice (some ad) 0 0] w (T.EG 5 1 0 [] w) := by
  have hM := T.Mem.start w
  have hS0 := T.Sl.odd w (some ad)
  have q1 : ∀ w : World, (binOp .eql 37 (.slice (some ad) 0 0) (.slice none 0 0)).run Tryz.prog w = .ok (.bool false) w := fun w => Lib.run_eql_slice_nil w _ _ (some ad) 0 0 0 0 Tryz.underlying37
  generalize hP : T.EG 5 1 0 [] w = Post
  go_enter Tryz.func194, Tryz.ntmps194
  repeat' (first | ((with_reducible show wpList _ _ _ (⟨_, .call ⟨.builtin .append, _, _⟩, _, _, _, _⟩ :: _) _ _); refine T.w_o rfl ?_; refine T.op_app _ _ _ rfl _ _ _ T.TE.out _ _ _ rfl _ 0 [] hM (fun _ => by (repeat ((exact T.Sub.head _)))) (hM.slin hS0) rfl (by decide) (by decide) (by decide) ?_; clear hM; intro gsv wld hM; (try simp only [Act.put, List.setIfInBounds_toArray, List.set_cons_zero, List.set_cons_succ])) | ((((((with_reducible show wpList _ _ _ _ _ _); (refine T.w_o rfl ?_)))); (((with_reducible show T.OW _ ⟨_, .buildSlice _ 0 _, _, _, _, _⟩ _ _ _ _); refine T.op_build0 _ rfl _ _ _ T.TE.out hM ?_; clear hM; intro gsv wld hM))); (try simp only [Act.put, List.setIfInBounds_toArray, List.set_cons_zero, List.set_cons_succ])) | (go_step) | go_back)
  subst hP
  exact hM.eg List.mem_cons_self
theorem T.cloneId (v : Value) (n : Nat) (cs : List Value) (w : World) (hS : T.Sl w v n cs) (hl : cs.length = n * 32) (hn : n ≤ 100000000) : Calls Tryz.prog 38 #[v] w (T.EG 44 32 n cs w) := T.clone Tryz.clone38A (T.TE.out (t := 51)) rfl T.cloneZ38 v n cs w hS hl hn (by decide)
theorem T.cloneIn (v : Value) (n : Nat) (cs : List Value) (w : World) (hS : T.Sl w v n cs) (hl : cs.length = n * 33) (hn : n ≤ 100000000) : Calls Tryz.prog 78 #[v] w (T.EG 151 33 n cs w) := T.clone Tryz.clone78A (T.TE.out (t := 92)) rfl T.cloneZ78 v n cs w hS hl hn (by decide)
theorem T.cloneOut (v : Value) (n : Nat) (cs : List Value) (w : World) (hS : T.Sl w v n cs) (hl : cs.length = n * 2) (hn : n ≤ 100000000) : Calls Tryz.prog 79 #[v] w (T.EG 154 2 n cs w) := T.clone Tryz.clone79A (T.TE.out (t := 93)) rfl T.cloneZ79 v n cs w hS hl hn (by decide)
theorem T.cloneTot (v : Value) (n : Nat) (cs : List Value) (w : World) (hS : T.Sl w v n cs) (hl : cs.length = n * 37) (hn : n ≤ 100000000) : Calls Tryz.prog 97 #[v] w (T.EG 120 37 n cs w) := T.clone Tryz.clone97A (T.TE.out (t := 76)) rfl T.cloneZ97 v n cs w hS hl hn (by decide)
theorem T.cloneTx (v : Value) (n : Nat) (cs : List Value) (w : World) (hS : T.Sl w v n cs) (hl : cs.length = n * 2) (hn : n ≤ 100000000) : Calls Tryz.prog 124 #[v] w (T.EG 95 2 n cs w) := T.clone Tryz.clone124A (T.TE.out (t := 54)) rfl T.cloneZ124 v n cs w hS hl hn (by decide)
theorem T.cloneCoin (v : Value) (n : Nat) (cs : List Value) (w : World) (hS : T.Sl w v n cs) (hl : cs.length = n * 35) (hn : n ≤ 100000000) : Calls Tryz.prog 144 #[v] w (T.EG 234 35 n cs w) := T.clone Tryz.clone144A (T.TE.out (t := 77)) rfl T.cloneZ144 v n cs w hS hl hn (by decide)
theorem T.cloneByte (v : Value) (n : Nat) (cs : List Value) (w : World) (hS : T.Sl w v n cs) (hl : cs.length = n * 1) (hn : n ≤ 100000000) : Calls Tryz.prog 194 #[v] w (T.EG 5 1 n cs w) := T.clone Tryz.clone194A (T.TE.out (t := 37)) rfl T.cloneZ194 v n cs w hS hl hn (by decide)
theorem T.Mem.cut {w0 w : World} {F : Option Nat} {L L' : List T.Blk} {g n c e sz m : Nat} {xs ys : List Value} (h : T.Mem w0 F w L) (hs : T.Sub (.g (.slice (some ⟨g, 0, none⟩) n c) e sz n xs) (.g (.slice (some ⟨g, 0, none⟩) m c) e sz m ys) L L') (hm : m ≤ n) (hy : xs.take (m * sz) = ys) : T.Mem w0 F w L' := by
  subst hy
  obtain ⟨⟨hl, h1⟩, h2⟩ := h.row _ hs.mem
  refine h.turn hs (World.grownBy.refl _ _) ⟨⟨?_, ?_⟩, fun u hu => h2 u (List.mem_of_mem_take hu)⟩ (fun k hk => .inl hk)
  · rw [List.length_take, hl, Nat.min_eq_left (Nat.mul_le_mul_right _ hm)]
  · rcases h1 with ⟨e, _⟩ | ⟨g', cap, cur, e, hb, hc, hnc, hcm, hsz, ht⟩
    · cases e
    · cases e
      refine .inr ⟨_, _, cur, rfl, hb, hc, by omega, hcm, hsz, ?_⟩
      rw [← ht, List.take_take, Nat.min_eq_left (Nat.mul_le_mul_right _ hm)]
theorem T.Mem.gadr {w0 w : World} {F : Option Nat} {L : List T.Blk} {v : Value} {e sz n : Nat} {xs : List Value} (h : T.Mem w0 F w L) (hm : .g v e sz n xs ∈ L) (hn : 0 < n) : ∃ g c, v = .slice (some ⟨g, 0, none⟩) n c ∧ n ≤ c := by
  obtain ⟨⟨_, h1⟩, _⟩ := h.row _ hm
  rcases h1 with ⟨_, h0⟩ | ⟨g, cap, cur, rfl, _, _, hnc, _⟩
  · omega
  · exact ⟨g, cap, rfl, hnc⟩
end
end Go.Proofs.YtdklknfgcepcbaaGreat.X
