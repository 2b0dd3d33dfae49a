/- Texts of this proof, laid together by wip/tools/pack.py: TN1, TN2, TN5. -/
import Derived.Test.YtdklknfgcepcbaaGreatZ35
namespace Go.Proofs.YtdklknfgcepcbaaGreat.X
open Go.RowKit Go.Proofs.YtdklknfgcepcbaaGreatW.PrintWords Go.Proofs.YtdklknfgcepcbaaGreatW.PrintLast Go.Proofs.YtdklknfgcepcbaaGreatW.PrintMore
set_option linter.unusedSimpArgs false
set_option linter.unusedVariables false
set_option maxHeartbeats 2000000
set_option maxRecDepth 20000
def T.bare (h : T.Head) : List Value := h.cells ++ [T.nilS, T.nilS]
theorem T.bare_len (h : T.Head) (k : h.ok) : (T.bare h).length = 137 := by rw [T.bare, List.length_append, h.len k]; rfl
theorem T.bare_ones (h : T.Head) : ∀ v ∈ T.bare h, v.oneCell' = true := T.ones_app h.ones (T.ones_all rfl)
theorem T.keyB {w0 w : World} {L : List T.Blk} {b : Nat} {t : TypeId} {cs : List Value} (h : T.Mem w0 none w (.b b t cs :: L)) : w0.heap.size ≤ b := by
  rcases h.own _ (.head _) b rfl with h | h
  · exact h
  · cases h
theorem T.Mem.shutB {w0 w : World} {L : List T.Blk} {b sz : Nat} {e : TypeId} {xs : List Value} (h : T.Mem w0 none w (.b b e xs :: L)) (n : Nat) (hl : xs.length = n * sz) (hm : n ≤ maxLen) (h1 : ∀ u ∈ xs, u.oneCell' = true) : T.Mem w0 none w (.g (.slice (some ⟨b, 0, none⟩) n n) e sz n xs :: L) := by
  have hk := T.keyB h
  rw [← List.append_nil xs] at h
  exact h.shut hk (Nat.le_refl _) hm hl (by rw [List.append_nil]; exact hl) h1
theorem T.new_calls (bits : Int) (h0 : 0 ≤ bits) (h1 : bits < 4294967296) (hf : T.tOk bits = true) (w : World) : Calls Tryz.prog 21 #[.int .u32 bits] w fun e w' => ∃ g : Nat, e = .returned (.tuple #[.slice (some ⟨g, 0, none⟩) 1 1, .bool true]) ∧ T.Mem w none w' [.g (.slice (some ⟨g, 0, none⟩) 1 1) 56 137 1 (T.bare (T.hfirst bits))] := by
  have hM := T.Mem.start w
  have hz139 := T.zero139
  have hfo := T.hfirst_ok bits
  have hfl := (T.hfirst bits).len hfo
  have hfn := (T.hfirst bits).ones
  have hbo := (T.bleaf (T.hfirst bits)).ones
  have q1 : ∀ v : Value, ((T.hfirst bits).cells ++ [T.nilS, T.nilS, v, T.nilS]).length = 139 := fun v => by rw [List.length_append, hfl]; rfl
  have q2 := fun v : Value => T.tip_blk (T.hfirst bits) hfo v
  have q3 : ((T.hfirst bits).cells ++ [T.nilS, T.nilS]).length = 137 := by rw [List.length_append, hfl]; rfl
  have q5 : ∀ v ∈ ((T.hfirst bits).cells ++ [T.nilS, T.nilS]), v.oneCell' = true := T.bare_ones _
  have hz137 : (T.Head.zero.cells ++ [T.nilS, T.nilS]).length = 137 := rfl
  generalize hP : (fun (e : Ending) w' => ∃ g : Nat, e = .returned (.tuple #[.slice (some ⟨g, 0, none⟩) 1 1, .bool true]) ∧ T.Mem w none w' [.g (.slice (some ⟨g, 0, none⟩) 1 1) 56 137 1 (T.bare (T.hfirst bits))]) = Post
  go_enter Tryz.func21, Tryz.ntmps21
  repeat' (first | (go_at_call 28; refine (T.first_yes _ h0 h1 hf _).mono ?_; rintro _ wr ⟨v, rfl, ho, hbc⟩; (obtain ⟨Ag, cg, rfl⟩ := T.own_slice ho); replace hM := hM.callG hbc ho hbo; clear hbc ho; have q1v := q1 (.slice Ag 1 cg); have q2v := q2 (.slice Ag 1 cg); have q4v : ∀ v ∈ (T.hfirst bits).cells ++ [T.nilS, T.nilS, Value.slice Ag 1 cg, T.nilS], v.oneCell' = true := T.ones_app hfn (T.ones_all rfl)) | ((((((with_reducible show wpList _ _ _ _ _ _); (refine T.w_o rfl ?_)))); first | ((with_reducible show T.OW _ ⟨_, .load _ _, _, _, _, _⟩ _ _ _ _); ((refine T.ofx (T.x_loadAgg rfl rfl T.Fd.out T.TU.out T.TN.out (by ((omega))) q2v hM) ?_))) | ((with_reducible show T.OW _ ⟨_, .store _ _ _, _, _, _, _⟩ _ _ _ _); ((refine T.op_storeAll _ _ _ rfl _ rfl _ rfl _ _ hM (by (repeat ((exact T.Sub.head _)))) _ T.TN.out (by ((with_reducible assumption))) (by ((with_reducible assumption))) (by ((with_reducible assumption))) ?_; clear hM; intro wld hM))) | ((with_reducible show T.OW _ ⟨_, .alloc _, _, _, _, _⟩ _ _ _ _); refine T.op_alloc _ rfl _ T.TZ.out hM ?_; clear hM; intro blk wld hM hlt) | ((with_reducible show T.OW _ ⟨_, .buildSlice _ _ _, _, _, _, _⟩ _ _ _ _); refine T.op_buildSl _ _ _ rfl _ T.TL.out _ T.TN.out _ T.TZ.out rfl (by decide) (by decide) _ rfl (by (((simp [T.okp, Value.cells, Act.eval, *]; done)))) _ rfl hM ?_; (try simp only [List.map_toArray, List.map_cons, List.map_nil, Act.eval, Array.getD_eq_getD_getElem?, List.toList_toArray, List.getElem?_toArray, List.getElem?_cons_zero, List.getElem?_cons_succ, Option.getD_some, T.segs, List.replicate_succ, List.replicate_zero, List.set_cons_zero, List.set_cons_succ, Value.cells, List.flatten_cons, List.flatten_nil, List.append_nil, List.cons_append, List.nil_append]); clear hM; intro blk wld hM hlt)); (try simp only [Act.put, List.setIfInBounds_toArray, List.set_cons_zero, List.set_cons_succ])) | (go_step) | go_back | ((fail_if_success (with_reducible show T.Seq _ _ _ _ _ _ _)); (fail_if_success (with_reducible show T.OW _ _ _ _ _ _)); simp only [Int.not_lt, Int.not_le] at *; go_simp))
  obtain ⟨g, rfl⟩ := T.n1 hM
  subst hP
  exact ⟨g, rfl, (hM.shutB (sz := 137) 1 (T.bare_len _ hfo) (by decide) (T.bare_ones _)).drop (by (repeat (first | exact List.Sublist.refl _ | apply List.Sublist.cons_cons | apply List.Sublist.cons)))⟩
theorem T.Mem.pair {w0 w : World} {L : List T.Blk} {x b g m : T.Blk} (h : T.Mem w0 none w (b :: x :: m :: g :: L)) : T.Mem w0 none w [g, x] :=
  (h.drop (L' := [x, g]) (.cons _ (.cons_cons _ (.cons _ (.cons_cons _ (List.nil_sublist _)))))).perm (List.Perm.swap _ _ _)
theorem T.told0_calls (fv : Value) (w : World) : Calls Tryz.prog 76 #[.slice none 0 0, fv] w (T.E (.slice none 0 0) w) := by
  have hM := T.Mem.start w
  generalize hP : T.E (.slice none 0 0) w = Post
  go_enter Tryz.func76, Tryz.ntmps76
  repeat' (((go_step)))
  refine T.wp_rounds 1 ?_
  unfold T.rounds
  repeat' (first | (go_step) | go_back | ((fail_if_success (with_reducible show T.Seq _ _ _ _ _ _ _)); (fail_if_success (with_reducible show T.OW _ _ _ _ _ _)); simp only [Int.not_lt, Int.not_le] at *; go_simp))
  subst hP
  exact ⟨rfl, hM.below⟩
theorem T.own1_calls (h : T.Head) (k : h.ok) (w : World) : Calls Tryz.prog 75 #[.agg (T.bare h).toArray] w fun e w' => ∃ (A : Option Addr) (c : Nat), e = .returned (.agg (h.cells ++ [.slice A 0 c, T.nilS]).toArray) ∧ T.Mem w none w' [.g (.slice A 0 c) 44 32 0 []] := by
  have hM := T.Mem.start w
  have hl := T.bare_len h k
  have ho := T.bare_ones h
  have hhl := h.len k
  have n1 : (T.bare h)[135]? = some T.nilS := by rw [T.bare, List.getElem?_append_right (by rw [hhl]; decide), hhl]; rfl
  have n2 : ∀ v : Value, (h.cells ++ [v, T.nilS])[136]? = some T.nilS := fun v => by rw [List.getElem?_append_right (by rw [hhl]; decide), hhl]; rfl
  have c1 : ∀ x : Value, (T.bare h).take 135 ++ [x] ++ (T.bare h).drop (135 + 1) = h.cells ++ [x, T.nilS] := fun x => by
    rw [T.bare, ← hhl, List.take_left, ← List.drop_drop, List.drop_left, List.append_assoc]
    rfl
  have c2 : ∀ u x : Value, (h.cells ++ [u, T.nilS]).take 136 ++ [x] ++ (h.cells ++ [u, T.nilS]).drop (136 + 1) = h.cells ++ [u, x] := fun u x => by
    rw [show (136 : Nat) = h.cells.length + 1 by omega, List.take_length_add_append, List.drop_eq_nil_of_le (by simp)]
    simp
  have hln : ∀ u v : Value, (h.cells ++ [u, v]).length = 137 := fun u v => by rw [List.length_append, hhl]; rfl
  have hno : ∀ (A : Option Addr) (c : Nat), ∀ v ∈ h.cells ++ [Value.slice A 0 c, T.nilS], v.oneCell' = true := fun A c => T.ones_app h.ones (T.ones_all rfl)
  have hz137 : (T.Head.zero.cells ++ [T.nilS, T.nilS]).length = 137 := rfl
  generalize hP : (fun (e : Ending) w' => ∃ (A : Option Addr) (c : Nat), e = .returned (.agg (h.cells ++ [.slice A 0 c, T.nilS]).toArray) ∧ T.Mem w none w' [.g (.slice A 0 c) 44 32 0 []]) = Post
  go_enter Tryz.func75, Tryz.ntmps75
  repeat' (first | (go_at_call 38; refine (T.cloneId _ 0 [] _ (T.Sl.nil _) rfl (by decide)).mono ?_; rintro _ wr ⟨v, rfl, ho, h1, hbc⟩; (obtain ⟨Ag, cg, rfl⟩ := T.own_slice ho); replace hM := hM.callG hbc ho h1; clear hbc ho h1) | (go_at_call 76; refine (T.told0_calls _ _).mono ?_; rintro _ _ ⟨rfl, hbc⟩; replace hM := hM.call hbc; clear hbc) | ((with_reducible show wpList _ _ _ (⟨_, .store 51 _ _, _, _, _, _⟩ :: _) _ _); refine T.w_o rfl ?_; refine T.op_store _ _ _ rfl _ 135 rfl [.slice Ag 0 cg] rfl _ (T.bare h) _ hM (by (repeat (first | exact T.Sub.head _ | apply T.Sub.tail))) 1 T.TN.out rfl (by ((exact T.one_ones rfl))) (by rw [hl]; exact Nat.le_of_ble_eq_true rfl) (c1 _) ?_; clear hM; intro wld hM; (try simp only [Act.put, List.setIfInBounds_toArray, List.set_cons_zero, List.set_cons_succ])) | ((with_reducible show wpList _ _ _ (⟨_, .store 54 _ _, _, _, _, _⟩ :: _) _ _); refine T.w_o rfl ?_; refine T.op_store _ _ _ rfl _ 136 rfl [T.nilS] rfl _ (h.cells ++ [.slice Ag 0 cg, T.nilS]) _ hM (by (repeat (first | exact T.Sub.head _ | apply T.Sub.tail))) 1 T.TN.out rfl (by ((exact T.one_ones rfl))) (by rw [hln]; exact Nat.le_of_ble_eq_true rfl) (c2 _ _) ?_; clear hM; intro wld hM; have hno2 := hno Ag cg; (try simp only [Act.put, List.setIfInBounds_toArray, List.set_cons_zero, List.set_cons_succ])) | ((((((with_reducible show wpList _ _ _ _ _ _); (refine T.w_o rfl ?_)))); first | ((with_reducible show T.OW _ ⟨_, .load _ _, _, _, _, _⟩ _ _ _ _); first | (refine T.ofx (T.x_load rfl rfl T.Fd.out T.TS.out n1 hM) ?_) | (refine T.ofx (T.x_load rfl rfl T.Fd.out T.TS.out (n2 _) hM) ?_) | (refine T.ofx (T.x_loadAll rfl rfl T.Fd.out T.TU.out T.TN.out (hln _ _) hM) ?_)) | ((with_reducible show T.OW _ ⟨_, .store _ _ _, _, _, _, _⟩ _ _ _ _); ((refine T.op_storeAll _ _ _ rfl _ rfl _ rfl _ _ hM (by (repeat (first | exact T.Sub.head _ | apply T.Sub.tail))) _ T.TN.out (by (((simp only [List.length_append, List.length_map, List.length_replicate, List.length_cons, List.length_nil, encs_length, *]; done)))) (by ((with_reducible assumption))) (by ((with_reducible assumption))) ?_; clear hM; intro wld hM))) | ((with_reducible show T.OW _ ⟨_, .alloc _, _, _, _, _⟩ _ _ _ _); refine T.op_alloc _ rfl _ T.TZ.out hM ?_; clear hM; intro blk wld hM hlt) | ((with_reducible show T.OW _ ⟨_, .box _ _, _, _, _, _⟩ _ _ _ _); refine T.op_box _ _ rfl _ rfl hM ?_; clear hM; intro blk wld hM hlt)); (try simp only [Act.put, List.setIfInBounds_toArray, List.set_cons_zero, List.set_cons_succ])) | (go_step) | ((fail_if_success (with_reducible show T.Seq _ _ _ _ _ _ _)); (fail_if_success (with_reducible show T.OW _ _ _ _ _ _)); simp only [Int.not_lt, Int.not_le] at *; go_simp))
  refine T.ret_cell rfl rfl _ rfl _ _ hM T.Fd.out T.TU.out _ T.TN.out (hln _ _) ?_
  subst hP
  exact ⟨Ag, cg, rfl, hM.drop (by (repeat (first | exact List.Sublist.refl _ | apply List.Sublist.cons_cons | apply List.Sublist.cons)))⟩
theorem T.toldB_calls (h : T.Head) (k : h.ok) (b o c : Nat) (w : World) (hS : T.Sl w (.slice (some ⟨b, o, none⟩) 1 c) 1 (T.bare h)) : Calls Tryz.prog 74 #[.slice (some ⟨b, o, none⟩) 1 c, .func (.func 75) #[] #[]] w fun e w' => ∃ (A : Option Addr) (c : Nat) (v : Value), e = .returned v ∧ T.Mem w none w' [.g v 56 137 1 (h.cells ++ [.slice A 0 c, T.nilS]), .g (.slice A 0 c) 44 32 0 []] := by
  have hM := T.Mem.start w
  have HS := Aside0.mk hS
  have hl := T.bare_len h k
  have hbo := T.bare_ones h
  have hhl := h.len k
  have H1 := Aside0.mk (show ((T.bare h).drop 0).take 137 = T.bare h by rw [List.drop_zero, List.take_of_length_le (by omega)])
  have hln : ∀ u v : Value, (h.cells ++ [u, v]).length = 137 := fun u v => by rw [List.length_append, hhl]; rfl
  have hz137 : (T.Head.zero.cells ++ [T.nilS, T.nilS]).length = 137 := rfl
  have e1 : IntKind.i64.wrap ((0 : Int) + 1) = 1 := T.w64 (by omega) (by omega)
  clear hS
  generalize hP : (fun (e : Ending) w' => ∃ (A : Option Addr) (c : Nat) (v : Value), e = .returned v ∧ T.Mem w none w' [.g v 56 137 1 (h.cells ++ [.slice A 0 c, T.nilS]), .g (.slice A 0 c) 44 32 0 []]) = Post
  go_enter Tryz.func74, Tryz.ntmps74
  repeat' (((go_step)))
  replace hM := hM.nil 56 137
  refine T.wp_rounds 3 ?_
  unfold T.rounds
  repeat' (first | (go_at_call 75; refine (T.own1_calls h k _).mono ?_; rintro _ w2 ⟨A2, c2, rfl, hM2⟩; replace hM := hM.join hM2; clear hM2; simp only [List.cons_append, List.nil_append] at hM; have hbl := hln (Value.slice A2 0 c2) T.nilS; have hbn : ∀ v ∈ h.cells ++ [Value.slice A2 0 c2, T.nilS], v.oneCell' = true := T.ones_app h.ones (T.ones_all rfl)) | ((((((with_reducible show wpList _ _ _ _ _ _); (refine T.w_o rfl ?_)))); first | ((with_reducible show T.OW _ ⟨_, .load _ _, _, _, _, _⟩ _ _ _ _); first | (refine T.ofx (T.x_slRow rfl rfl (hM.slin HS.out) T.TU.out T.TN.out H1.out hl) ?_) | (refine T.ofx (T.x_loadAll rfl rfl T.Fd.out T.TU.out T.TN.out (by ((with_reducible assumption))) hM) ?_)) | ((with_reducible show T.OW _ ⟨_, .store _ _ _, _, _, _, _⟩ _ _ _ _); ((refine T.op_storeAll _ _ _ rfl _ rfl _ rfl _ _ hM (by (repeat ((exact T.Sub.head _)))) _ T.TN.out (by ((with_reducible assumption))) (by ((with_reducible assumption))) (by ((with_reducible assumption))) ?_; clear hM; intro wld hM))) | ((with_reducible show T.OW _ ⟨_, .alloc _, _, _, _, _⟩ _ _ _ _); refine T.op_alloc _ rfl _ T.TZ.out hM ?_; clear hM; intro blk wld hM hlt) | ((with_reducible show T.OW _ ⟨_, .call ⟨.builtin .append, _, _⟩, _, _, _, _⟩ _ _ _ _); refine T.op_app _ _ _ rfl _ _ _ T.TE.out _ _ _ rfl _ _ _ hM (fun _ => by (repeat (first | exact T.Sub.head _ | apply T.Sub.tail))) (by (exact T.Mem.slB hM T.Fd.out (by ((with_reducible assumption))) (by decide))) (by ((with_reducible assumption))) (by decide) (by decide) (by ((decide))) ?_; clear hM; intro gsv wld hM) | ((with_reducible show T.OW _ ⟨_, .buildSlice _ _ _, _, _, _, _⟩ _ _ _ _); refine T.op_buildSl _ _ _ rfl _ T.TL.out _ T.TN.out _ T.TZ.out rfl (by decide) (by decide) _ rfl (by (((simp [T.okp, Value.cells, Act.eval, *]; done)))) _ rfl hM ?_; (try simp only [List.map_toArray, List.map_cons, List.map_nil, Act.eval, Array.getD_eq_getD_getElem?, List.toList_toArray, List.getElem?_toArray, List.getElem?_cons_zero, List.getElem?_cons_succ, Option.getD_some, T.segs, List.replicate_succ, List.replicate_zero, List.set_cons_zero, List.set_cons_succ, Value.cells, List.flatten_cons, List.flatten_nil, List.append_nil, List.cons_append, List.nil_append]); clear hM; intro blk wld hM hlt)); (try simp only [Act.put, List.setIfInBounds_toArray, List.set_cons_zero, List.set_cons_succ])) | (go_step) | ((fail_if_success (with_reducible show T.Seq _ _ _ _ _ _ _)); (fail_if_success (with_reducible show T.OW _ _ _ _ _ _)); simp only [Int.not_lt, Int.not_le] at *; go_simp))
  unfold T.rounds
  repeat' (first | (go_step) | go_back | ((fail_if_success (with_reducible show T.Seq _ _ _ _ _ _ _)); (fail_if_success (with_reducible show T.OW _ _ _ _ _ _)); simp only [Int.not_lt, Int.not_le] at *; go_simp))
  subst hP
  exact ⟨A2, c2, _, rfl, hM.pair⟩
def E.SeqB3 {α : Type} (P : Program) (g : Nat) (lb : Array Value) (encs : α → Array Value) (els : List α) (R Rm : Nat → World → Prop) (up : Nat → World → World) : Prop :=
  ∀ (l : Nat) (J Jm Jx : Nat → World → Prop) (W : World),
    (∀ k A B, J k A → Below W.heap.size A B → J k B) → (∀ k A B, Jx k A → Below W.heap.size A B → Jx k B) → (∀ k A, J k A → R k A ∧ W.heap.size ≤ A.heap.size) → (∀ k A, Jm k A → Rm k A ∧ W.heap.size ≤ A.heap.size) → (∀ k A, Jm k A → J (k + 1) (up k A)) →
    (∀ k x A, els[k]? = some x → J k A → YieldAt Fence.wide 0 P l (encs x) A fun e A' =>
      (e = .returned (.bool true) ∧ Jm k A' ∧ E.KeepsOn W.heap.size A A') ∨ (e = .returned (.bool false) ∧ Jx k A' ∧ E.KeepsOn W.heap.size A A')) →
    J 0 W →
    CallsIn Fence.wide 0 P g (#[.func (.yield l) #[] #[]] ++ lb) W fun e W' => (∃ v, e = .returned v) ∧ (J els.length W' ∨ ∃ k, k < els.length ∧ Jx k W') ∧ W.heap.size ≤ W'.heap.size
def E.roundPost3 (B : Nat) (I Ix Rm : Nat → World → Prop) (up : Nat → World → World) (k : Nat) (W : World) : Exit → Act → World → Prop
  | .normal, _, W' => E.KeepsOn B W W' ∧ I (k + 1) (up k W') ∧ Rm k W'
  | .ret, _, W' => E.KeepsOn B W W' ∧ Ix k W'
  | .exit _, _, _ => False
  | .goto _, _, _ => False
  | .panic _, _, _ => False
  | .outgrown, _, _ => False
theorem E.rangeLaw3 {α : Type} {P : Program} {g : Operand} {ps : Array Tmp} {assign body : Code} {Q : Exit → Act → World → Prop} {a : Act} {w : World} {gf : Nat} {lb : Array Value} (hg : a.eval g = .func (.func gf) #[] lb)
    (eg : ∀ args w, (callFunc gf args).run P w = .ok (.enter gf args) w) {encs : α → Array Value} {els : List α} {R Rm : Nat → World → Prop} {up : Nat → World → World} (hseq : E.SeqB3 P gf lb encs els R Rm up) (hps : ∀ x, (encs x).size = ps.size)
    (I Ix : Nat → World → Prop) (hI : ∀ k A B, I k A → Below w.heap.size A B → I k B) (hIx : ∀ k A B, Ix k A → Below w.heap.size A B → Ix k B) (hR : ∀ k A, I k A → R k A) (hRm : ∀ k A B, Rm k A → Below w.heap.size A B → Rm k B) (hupB : ∀ k A B, Below w.heap.size A B → Below w.heap.size (up k A) (up k B)) (hupN : ∀ k A b, w.heap.size ≤ b → (up k A).heap[b]? = A.heap[b]?) (h0 : I 0 w) (B : Nat → α → Act → World → Prop)
    (hB : ∀ k x a' A o, B k x a' A → B k x a' (A.putObj (w.heap.size + 1) o))
    (hassign : ∀ (l k : Nat) (x : α) (W : World) (K : Act → World → Prop), els[k]? = some x → w.heap.size + 2 ≤ W.heap.size → I k W → (∀ a' W', E.KeepsOn w.heap.size W W' → B k x a' W' → K a' W') →
      assign.wpIn (Fence.wide.inRound l) 0 P (Exit.then K (fun _ _ _ => False)) { tmps := (ps.zip (encs x)).foldl (fun t (p, v) => t.setIfInBounds p v) a.tmps, defers := [] } W)
    (hbody : ∀ (l k : Nat) (x : α) (a' : Act) (W : World), els[k]? = some x → w.heap.size + 2 ≤ W.heap.size → B k x a' W → body.wpIn (Fence.wide.inRound l) 0 P (E.roundPost3 w.heap.size I Ix Rm up k W) a' W)
    (hdone : ∀ (W : World), w.heap.size + 2 ≤ W.heap.size → I els.length W → W.heap[w.heap.size]? = some (.deferred (some [])) → Q .normal { a with defers := { target := .collected w.heap.size, args := #[] } :: a.defers } W)
    (hstop : ∀ (k : Nat) (W : World), w.heap.size + 2 ≤ W.heap.size → k < els.length → Ix k W → W.heap[w.heap.size]? = some (.deferred (some [])) → Code.ret.wpIn Fence.wide 0 P Q { a with defers := { target := .collected w.heap.size, args := #[] } :: a.defers } W) :
    (Code.rangeFunc g ps assign body).wpIn Fence.wide 0 P Q a w := by
  refine wpIn_rangeFunc ?_
  intro fn hfn
  rw [show Fence.wide.round = none from rfl]
  obtain ⟨rec, hrec⟩ : ∃ rec : LoopState → Option Code → Loop, rec = fun st pe => { state := st, pending := pe, fn, tmps := a.tmps, params := ps, assign, body, defers := w.heap.size } := ⟨_, rfl⟩
  obtain ⟨W1, hW1⟩ : ∃ W1, (w.alloc (.deferred (some []))).alloc (.loop (rec .ready none)) = W1 := ⟨_, rfl⟩
  have hL1 : W1.heap[w.heap.size + 1]? = some (.loop (rec .ready none)) := by
    rw [← hW1]; have := World.alloc_heap_new (w.alloc (.deferred (some []))) (.loop (rec .ready none)); rwa [World.size_alloc] at this
  have hK1 : W1.heap[w.heap.size]? = some (.deferred (some [])) := by
    rw [← hW1]; exact (Below.heap_alloc _ _ _ (by simp)).trans (World.alloc_heap_new w _)
  have hb1 : Below w.heap.size w W1 := by
    rw [← hW1]; exact ((Below.refl _ w).alloc (Nat.le_refl _) _).alloc (by simp) _
  have hs1 : W1.heap.size = w.heap.size + 2 := by rw [← hW1]; simp
  have hI1 : I 0 W1 := hI _ _ _ h0 hb1
  refine ⟨w.heap.size + 1, [{ target := .collected w.heap.size, args := #[] }], W1, { target := .fn (.func gf) lb, args := #[.func (.yield (w.heap.size + 1)) #[] #[]] }, W1, gf,
    #[.func (.yield (w.heap.size + 1)) #[] #[]] ++ lb, W1, ?_, ?_, ?_, ?_, (fun h => by cases h), ?_⟩
  · rw [← hW1, hrec]; exact run_enterLoop_outer _ _ _ _ _
  · simp only [resolve, hg]
    simp [go_sem]
  · intro f' hf'; exact trivial
  · simp [invoke, go_sem, eg]
  · refine (hseq (w.heap.size + 1)
      (fun k W => I k W ∧ W.heap[w.heap.size + 1]? = some (.loop (rec .ready none)) ∧ W.heap[w.heap.size]? = some (.deferred (some [])))
      (fun k W => I (k + 1) (up k W) ∧ Rm k W ∧ W.heap[w.heap.size + 1]? = some (.loop (rec .ready none)) ∧ W.heap[w.heap.size]? = some (.deferred (some [])))
      (fun k W => Ix k W ∧ W.heap[w.heap.size + 1]? = some (.loop (rec .done (some .ret))) ∧ W.heap[w.heap.size]? = some (.deferred (some [])))
      W1 ?_ ?_ ?_ ?_ ?_ ?_ ⟨hI1, hL1, hK1⟩).mono ?_
    · rintro k A B ⟨h1, h2, h3⟩ hb
      exact ⟨hI _ _ _ h1 (hb.mono (by omega)), (hb.block _ (by omega)).trans h2, (hb.block _ (by omega)).trans h3⟩
    · rintro k A B ⟨h1, h2, h3⟩ hb
      exact ⟨hIx _ _ _ h1 (hb.mono (by omega)), (hb.block _ (by omega)).trans h2, (hb.block _ (by omega)).trans h3⟩
    · rintro k A ⟨h1, h2, h3⟩
      have := (Array.getElem?_eq_some_iff.1 h2).1
      exact ⟨hR _ _ h1, by omega⟩
    · rintro k A ⟨_, h1, h2, h3⟩
      have := (Array.getElem?_eq_some_iff.1 h2).1
      exact ⟨h1, by omega⟩
    · rintro k A ⟨h1, _, h2, h3⟩
      exact ⟨h1, (hupN _ _ _ (by omega)).trans h2, (hupN _ _ _ (Nat.le_refl _)).trans h3⟩
    · 
      rintro k x W0 hx ⟨hi, hl0, hk0⟩
      have hlt0 : w.heap.size + 1 < W0.heap.size := (Array.getElem?_eq_some_iff.1 hl0).1
      have hy := run_yield (P := P) (args := encs x) hl0 (by rw [hrec]; exact hps x)
      rw [hrec] at hy
      refine ⟨fn, _, assign, body, hy, roundIn_of_wpIn hfn (hassign _ k x W0 _ hx (by omega) hi fun a' W hkp hBk => ?_)⟩
      have hl : W.heap[w.heap.size + 1]? = some (.loop (rec .ready none)) := (hkp.2 _ (by omega) hlt0).trans hl0
      have hk : W.heap[w.heap.size]? = some (.deferred (some [])) := (hkp.2 _ (Nat.le_refl _) (by omega)).trans hk0
      refine ⟨_, run_beginRound hl (by rw [hrec]), ?_⟩
      have hlt : w.heap.size + 1 < W.heap.size := (Array.getElem?_eq_some_iff.1 hl).1
      have hl2 : (W.putObj (w.heap.size + 1) (.loop { rec .ready none with state := .busy })).heap[w.heap.size + 1]? = some (.loop { rec .ready none with state := .busy }) := World.putObj_heap_same hlt
      have hk2 : (W.putObj (w.heap.size + 1) (.loop { rec .ready none with state := .busy })).heap[w.heap.size]? = some (.deferred (some [])) := (World.putObj_heap_other (by omega)).trans hk
      have hw2 : E.KeepsOn W1.heap.size W0 (W.putObj (w.heap.size + 1) (.loop { rec .ready none with state := .busy })) := (hkp.mono (by omega)).trans ⟨by simp, fun b hb _ => World.putObj_heap_other (by omega)⟩
      refine wpIn_mono (hbody _ k x a' _ hx (by simp; omega) (hB _ _ _ _ _ hBk)) ?_
      have fin : ∀ (jump : Option Code) (W3 : World), E.KeepsOn w.heap.size (W.putObj (w.heap.size + 1) (.loop { rec .ready none with state := .busy })) W3 →
          (Instr.endRound (w.heap.size + 1) jump).run P W3 = .ok (.bool jump.isNone) (W3.putObj (w.heap.size + 1) (.loop (rec (if jump.isNone then .ready else .done) jump))) ∧
          W3.heap[w.heap.size + 1]? = some (.loop { rec .ready none with state := .busy }) ∧
          (W3.putObj (w.heap.size + 1) (.loop (rec (if jump.isNone then .ready else .done) jump))).heap[w.heap.size + 1]? = some (.loop (rec (if jump.isNone then .ready else .done) jump)) ∧
          (W3.putObj (w.heap.size + 1) (.loop (rec (if jump.isNone then .ready else .done) jump))).heap[w.heap.size]? = some (.deferred (some [])) ∧
          E.KeepsOn W1.heap.size W0 (W3.putObj (w.heap.size + 1) (.loop (rec (if jump.isNone then .ready else .done) jump))) := fun jump W3 hk3 => by
        have hl3 := (hk3.2 (w.heap.size + 1) (by omega) (by simp; omega)).trans hl2
        have := run_endRound (P := P) jump hl3
        rw [hrec] at this ⊢
        refine ⟨this, by rw [hrec] at hl3; exact hl3, World.putObj_heap_same (Array.getElem?_eq_some_iff.1 hl3).1, (World.putObj_heap_other (by omega)).trans ((hk3.2 w.heap.size (Nat.le_refl _) (by simp; omega)).trans hk2), ?_⟩
        exact hw2.trans ((hk3.mono (B' := W1.heap.size) (by omega)).trans ⟨by simp, fun b hb _ => World.putObj_heap_other (by omega)⟩)
      rintro e a3 W3 hp
      cases e with
      | normal =>
        obtain ⟨hk3, hi3, hm3⟩ := hp
        obtain ⟨hr, hl3, hl4, hk4, hke⟩ := fin none W3 hk3
        exact ⟨_, _, hr, .inl ⟨rfl, ⟨hI _ _ _ hi3 (hupB _ _ _ (E.below_put hl3 (by omega))), hRm _ _ _ hm3 (E.below_put hl3 (by omega)), hl4, hk4⟩, hke⟩⟩
      | ret =>
        obtain ⟨hk3, hi3⟩ := hp
        obtain ⟨hr, hl3, hl4, hk4, hke⟩ := fin (some .ret) W3 hk3
        exact ⟨_, _, hr, .inr ⟨rfl, ⟨hIx _ _ _ hi3 (E.below_put hl3 (by omega)), hl4, hk4⟩, hke⟩⟩
      | exit id => exact hp.elim
      | goto t => exact hp.elim
      | panic ch => exact hp.elim
      | outgrown => exact hp.elim
    · 
      rintro e W2 ⟨⟨v, rfl⟩, (⟨hi, hl, hk⟩ | ⟨k, hk0, hi, hl, hk⟩), hsz⟩
      · exact ⟨none, _, by have := run_endLoop (P := P) hl (by rw [hrec]; simp); rw [hrec] at this; exact this, hdone _ (by simp; omega) (hI _ _ _ hi (E.below_put hl (by omega))) ((World.putObj_heap_other (by omega)).trans hk)⟩
      · exact ⟨some .ret, _, by have := run_endLoop (P := P) hl (by rw [hrec]; simp); rw [hrec] at this; exact this, hstop k _ (by simp; omega) hk0 (hIx _ _ _ hi (E.below_put hl (by omega))) ((World.putObj_heap_other (by omega)).trans hk)⟩
def T.hat (h : T.Head) (k : Nat) : T.Head := ⟨h.height, h.prev, h.links, h.txs, h.past, h.work, h.bits, (k : Int)⟩
def T.pre (h : T.Head) : List Value := .int .i64 h.height :: (T.u8s h.prev ++ (T.u8s h.links ++ (T.u8s h.txs ++ (T.u8s h.past ++ (T.u64s h.work ++ [.int .u32 h.bits])))))
theorem T.hat_ok (h : T.Head) (k : h.ok) (n : Nat) : (T.hat h n).ok := ⟨k.prev, k.links, k.txs, k.past, k.work⟩
theorem T.hat_cells (h : T.Head) (n : Nat) : (T.hat h n).cells = T.pre h ++ [.int .u64 (n : Int)] := by simp [T.hat, T.pre, T.Head.cells]
theorem T.pre_len (h : T.Head) (k : h.ok) : (T.pre h).length = 134 := by
  have h1 := (T.hat h 0).len (T.hat_ok h k 0)
  rw [T.hat_cells, List.length_append] at h1
  simp at h1
  omega
theorem T.hat_set (h : T.Head) (k : h.ok) (n : Nat) (v : Int) (hv : v = ((n + 1 : Nat) : Int)) : (T.hat h n).cells.set 134 (.int .u64 v) = (T.hat h (n + 1)).cells := by
  rw [T.hat_cells, T.hat_cells, ← T.pre_len h k, List.set_append_right _ _ (Nat.le_refl _), Nat.sub_self, hv]
  rfl
theorem T.hat_at (h : T.Head) (k : h.ok) (n : Nat) : (T.hat h n).cells[134]? = some (.int .u64 (n : Int)) := by
  rw [T.hat_cells, List.getElem?_append_right (by rw [T.pre_len h k]; exact Nat.le_refl _), T.pre_len h k]
  rfl
theorem T.setCell_row (w : World) (g o : Nat) (t : TypeId) (cs : List Value) (v : Value) (h : w.heap[g]? = some (.cells cs.toArray t)) : w.setCell ⟨g, o, none⟩ v = w.setRow g (cs.set o v).toArray := by
  unfold World.setCell World.setRow
  congr 1
  apply Array.ext_getElem?
  intro k
  simp only [Array.getElem?_modify]
  by_cases e : g = k
  · subst e
    simp only [if_true, h]
    simp
  · simp [e]
def T.Row (A : World) (b : Nat) (t : TypeId) (cs : List Value) : Prop := A.heap[b]? = some (.cells cs.toArray t)
def T.NcR (h : T.Head) (bh bt : Nat) (k : Nat) (A : World) : Prop := T.Row A bh 50 (T.hat h k).cells ∧ A.cell? ⟨bt, 0, none⟩ = some (.int .i64 200)
def T.NcU (h : T.Head) (bh : Nat) (k : Nat) (A : World) : World := A.setRow bh (T.hat h (k + 1)).cells.toArray
def T.NcE (h : T.Head) (k : Nat) : Array Value := #[.agg (T.hat h k).cells.toArray]
theorem T.nonce_seq (h : T.Head) (kh : h.ok) (bh bt : Nat) : E.SeqB3 Tryz.prog 157 #[.pointer (some ⟨bt, 0, none⟩), .pointer (some ⟨bh, 0, none⟩)] (T.NcE h) (List.range 200) (T.NcR h bh bt) (T.NcR h bh bt) (T.NcU h bh) := by
  intro ll J Jm Jx W hJ hJx hR hRm hU hY h0
  have HR := Aside0.mk hR
  have HRM := Aside0.mk hRm
  have HU := Aside0.mk hU
  have HY := Aside0.mk hY
  have H0 := Aside0.mk h0
  have hc0 := (hR 0 W h0).1.2
  clear hR hY h0 hJ hJx hRm hU
  refine callsIn_of_wp Tryz.func157 rfl trivial ?_ rfl
  simp only [Tryz.ntmps157, List.size_toArray, List.length_cons, List.length_nil, Nat.reduceAdd, Nat.reduceSub, Array.replicate_succ, Array.replicate_zero, List.push_toArray, List.append_toArray, List.nil_append, List.cons_append]
  gi_wp2
  gi_loopw [6] (fun i wr => ∃ (k : Nat), i = .int .i64 (k : Int) ∧ k ≤ 200 ∧ Aside0 (J k wr))
    (fun i _ => (200 - intOf i).toNat)
  case atStart => exact ⟨0, rfl, by omega, H0⟩
  case round =>
    obtain ⟨k, rfl, hk, HJ⟩ := hrel
    clear H0
    obtain ⟨hr1, _⟩ := (HR.out k wr HJ.out).1
    by_cases hlt : k < 200
    · have cb : decide ((k : Int) < 200) = true := decide_eq_true (by omega)
      obtain ⟨fn, tmps, assign, body, hy, hRd⟩ := HY.out k k wr (by rw [List.getElem?_range hlt]) HJ.out
      unfold T.NcE at hy
      have hlk := (T.hat h k).len (T.hat_ok h kh k)
      have hM := T.Mem.startF wr hr1
      have HRG := Aside0.mk (T.range_all hM (.head _))
      clear hM hr1
      gi_wp2_with (refine T.in_v rfl rfl (by intro c h; cases h) (fun _ _ => trivial) (T.ofx (T.x_range rfl rfl HRG.out T.TU.out T.TN.out hlk) ?_))
      refine ⟨rfl, hRd.mono ?_⟩
      rintro e W3 (⟨rfl, hJ3, hk3⟩ | ⟨rfl, hJx3, hk3⟩)
      · obtain ⟨hr3, _⟩ := (HRM.out _ _ hJ3).1
        have hM := T.Mem.startF W3 hr3
        have hc3 : W3.cell? ⟨bh, 134, none⟩ = some (.int .u64 (k : Int)) := T.cell_at hM (.head _) (T.hat_at h kh k)
        have hf3 : W3.frozen? ⟨bh, 134, none⟩ = false := by have h3 : W3.heap[bh]? = _ := hr3; simp [World.frozen?, h3]
        have e1 : IntKind.u64.wrap ((k : Int) + 1) = (k : Int) + 1 := by rw [IntKind.wrap_u64]; omega
        have HW := Aside0.mk (show W3.setCell ⟨bh, 134, none⟩ (.int .u64 ((k : Int) + 1)) = T.NcU h bh k W3 by rw [T.setCell_row _ _ _ _ _ _ hr3, T.hat_set h kh k _ (by omega)]; rfl)
        have HJ4 := Aside0.mk (HU.out _ _ hJ3)
        clear hM hr3
        gi_wp2
        go_roundw
        case rel => exact ⟨k + 1, by congr 1, by omega, ⟨by rw [HW.out]; exact HJ4.out⟩⟩
        case measure => simp only [intOf]; omega
      · gi_wp2
        refine bodyPost_ret (results_none rfl _ _ _) rfl ?_
        exact ⟨⟨_, rfl⟩, .inr ⟨k, by rw [List.length_range]; exact hlt, hJx3⟩, Nat.le_trans (HR.out k wr HJ.out).2 hk3.1⟩
    · have cb : decide ((k : Int) < 200) = false := decide_eq_false (by omega)
      obtain rfl : k = 200 := by omega
      gi_wp2
      go_end0
      exact ⟨⟨_, rfl⟩, .inl (by rw [List.length_range]; exact HJ.out), (HR.out _ _ HJ.out).2⟩
section
attribute [local go_sem] Oper.semAt_some
theorem T.nonces_calls {w0 w : World} {F : Option Nat} {L : List T.Blk} (h : T.Head) (n : Int) (hM : T.Mem w0 F w L) : Calls Tryz.prog 122 #[.agg h.cells.toArray, .int .i64 n] w fun e w' => ∃ bh bt, e = .returned (.func (.func 157) #[] #[.pointer (some ⟨bt, 0, none⟩), .pointer (some ⟨bh, 0, none⟩)]) ∧ T.Mem w0 F w' (.b bt 3 [.int .i64 n] :: .b bh 50 h.cells :: L) := by
  generalize hP : (fun (e : Ending) w' => ∃ bh bt, e = .returned (.func (.func 157) #[] #[.pointer (some ⟨bt, 0, none⟩), .pointer (some ⟨bh, 0, none⟩)]) ∧ T.Mem w0 F w' (.b bt 3 [.int .i64 n] :: .b bh 50 h.cells :: L)) = Post
  go_enter Tryz.func122, Tryz.ntmps122
  repeat' (first | ((((((with_reducible show wpList _ _ _ _ _ _); (refine T.w_o rfl ?_)))); (((with_reducible show T.OW _ ⟨_, .box _ _, _, _, _, _⟩ _ _ _ _); refine T.op_box _ _ rfl _ rfl hM ?_; clear hM; intro blk wld hM hlt; (try simp only [Act.eval, Array.getD_eq_getD_getElem?, List.getElem?_toArray, List.getElem?_cons_zero, List.getElem?_cons_succ, Option.getD_some] at hM)))); (try simp only [Act.put, List.setIfInBounds_toArray, List.set_cons_zero, List.set_cons_succ])) | (go_step) | go_back)
  subst hP
  exact ⟨_, _, rfl, hM⟩
theorem T.setRow_below {B g : Nat} {A A' : World} (cs : Array Value) (h : Below B A A') : Below B (A.setRow g cs) (A'.setRow g cs) := by
  refine ⟨h.os, h.tape, h.output, by simpa [World.setRow] using h.size, fun k hk => ?_⟩
  simp only [World.setRow, Array.getElem?_modify, h.block k hk]
theorem T.run_cell1 {P : Program} {w : World} {ty : TypeId} {A : Addr} {v : Value} (hg : ∀ w, (isAgg ty).run P w = .ok false w) (hc : w.cell? A = some v) : (loadVar ty A).run P w = .ok v w := by
  unfold loadVar
  simp only [Sem.run_bind, hg, Result.andThen_ok]
  simp [hc]
theorem T.res_cc {P : Program} {w : World} {fn : Func} {tmps : Array Value} {k m : Tmp} {ty tz : TypeId} (hf : fn.results = #[.cell k ty, .cell m tz]) (A : Addr) (hx : tmps.getD k undef = .pointer (some A)) (B : Addr) (hy : tmps.getD m undef = .pointer (some B)) {u v : Value} (h1 : (loadVar ty A).run P w = .ok u w) (h2 : (loadVar tz B).run P w = .ok v w) :
    (results fn tmps).run P w = .ok (.tuple #[u, v]) w := by
  rw [Array.getD_eq_getD_getElem?] at hx hy
  unfold results
  rw [hf]
  simp [hx, hy, asAddr, h1, h2]
def T.mineL (h : T.Head) (bh bt b5 b4 b2 : Nat) (k : Nat) : List T.Blk :=
  [.b bt 3 [.int .i64 200], .b bh 50 (T.hat h k).cells, .b b5 4 [.bool false], .b b4 50 T.Head.zero.cells, .b b2 50 (T.hat h 0).cells]
theorem T.mine_calls (h : T.Head) (kh : h.ok) (kn : ∀ n : Nat, n ≤ 1 → (T.hat h n).nums) (hf : T.hmay (T.hat h 0) = false) (hy : T.hmay (T.hat h 1) = true) (w : World) :
    Calls Tryz.prog 84 #[.agg (T.hat h 0).cells.toArray, .int .i64 200] w (T.E (.tuple #[.agg (T.hat h 1).cells.toArray, .bool true]) w) := by
  have hM := T.Mem.start w
  have hl0 := (T.hat h 0).len (T.hat_ok h kh 0)
  have hz135 : T.Head.zero.cells.length = 135 := rfl
  generalize hP : T.E (.tuple #[.agg (T.hat h 1).cells.toArray, .bool true]) w = Post
  refine (callsIn_wide (n := 0)).1 ?_
  refine callsIn_of_wp_marks Tryz.func84 rfl trivial ?_ rfl
  simp only [Tryz.ntmps84, List.size_toArray, List.length_cons, List.length_nil, Nat.reduceAdd, Nat.reduceSub, Array.replicate_succ, Array.replicate_zero, List.push_toArray, List.append_toArray, List.nil_append, List.cons_append]
  refine wpIn_wide.2 ?_
  repeat' (first | (go_at_call 122; refine (T.nonces_calls _ _ hM).mono ?_; rintro _ wr ⟨bh, bt, rfl, hM2⟩; clear hM; have hM := hM2; clear hM2) | ((((((with_reducible show wpList _ _ _ _ _ _); (refine T.w_o rfl ?_)))); first | ((with_reducible show T.OW _ ⟨_, .load _ _, _, _, _, _⟩ _ _ _ _); ((refine T.ofx (T.x_loadAll rfl rfl T.Fd.out T.TU.out T.TN.out (by ((with_reducible assumption))) hM) ?_))) | ((with_reducible show T.OW _ ⟨_, .alloc _, _, _, _, _⟩ _ _ _ _); refine T.op_alloc _ rfl _ T.TZ.out hM ?_; clear hM; intro blk wld hM hlt) | ((with_reducible show T.OW _ ⟨_, .box _ _, _, _, _, _⟩ _ _ _ _); refine T.op_box _ _ rfl _ rfl hM ?_; clear hM; intro blk wld hM hlt)); (try simp only [Act.put, List.setIfInBounds_toArray, List.set_cons_zero, List.set_cons_succ])) | (go_step) | ((fail_if_success (with_reducible show T.Seq _ _ _ _ _ _ _)); (fail_if_success (with_reducible show T.OW _ _ _ _ _ _)); simp only [Int.not_lt, Int.not_le] at *; go_simp))
  obtain ⟨b5, rfl⟩ := T.n3 hM
  obtain ⟨b4, rfl⟩ := T.n4 hM
  obtain ⟨b2, rfl⟩ := T.n5 hM
  have h00 : w.heap.size ≤ wr.heap.size := hM.grown.size
  have hlt := fun {e : T.Blk} {n : Nat} (he : e ∈ _) (hk : e.key = some n) => hM.size he hk
  have hltt : bt < wr.heap.size := hlt (e := .b bt _ _) (by (repeat ((exact List.Mem.head _)))) rfl
  have hlth : bh < wr.heap.size := hlt (e := .b bh _ _) (.tail _ (.head _)) rfl
  have hlt5 : b5 < wr.heap.size := hlt (e := .b b5 _ _) (.tail _ (.tail _ (.head _))) rfl
  have hlt4 : b4 < wr.heap.size := hlt (e := .b b4 _ _) (.tail _ (.tail _ (.tail _ (.head _)))) rfl
  have hlt2 : b2 < wr.heap.size := hlt (e := .b b2 _ _) (.tail _ (.tail _ (.tail _ (.tail _ (.head _))))) rfl
  have hs : ∀ k, ∀ e ∈ T.mineL h bh bt b5 b4 b2 k, ∃ n t cs, e = .b n t cs ∧ n < wr.heap.size := by
    intro k e he
    unfold T.mineL at he
    simp only [List.mem_cons, List.not_mem_nil, or_false] at he
    rcases he with rfl | rfl | rfl | rfl | rfl
    · exact ⟨_, _, _, rfl, hltt⟩
    · exact ⟨_, _, _, rfl, hlth⟩
    · exact ⟨_, _, _, rfl, hlt5⟩
    · exact ⟨_, _, _, rfl, hlt4⟩
    · exact ⟨_, _, _, rfl, hlt2⟩
  have hs2 : ∀ e ∈ [T.Blk.b b5 4 [.bool true], .b b4 50 (T.hat h 1).cells], ∃ n t cs, e = .b n t cs ∧ n < wr.heap.size := by
    intro e he
    simp only [List.mem_cons, List.not_mem_nil, or_false] at he
    rcases he with rfl | rfl
    · exact ⟨_, _, _, rfl, hlt5⟩
    · exact ⟨_, _, _, rfl, hlt4⟩
  have hS := Aside0.mk hs
  have HS2 := Aside0.mk hs2
  have HM := Aside0.mk hM
  clear hs hs2 hM hlt
  refine wpIn_wide.1 (E.rangeLaw3 (gf := 157) (lb := #[.pointer (some ⟨bt, 0, none⟩), .pointer (some ⟨bh, 0, none⟩)]) rfl (enters_of Tryz.func157 (by kernel_rfl) rfl) (T.nonce_seq h kh bh bt) (fun _ => rfl)
    (fun k X => k ≤ 1 ∧ T.Mem w none X (T.mineL h bh bt b5 b4 b2 k)) (fun _ X => T.Mem w none X [T.Blk.b b5 4 [.bool true], .b b4 50 (T.hat h 1).cells]) ?hI ?hIx ?hR ?hRm ?hupB ?hupN ?h0
    (fun k _ a' X => ∃ bx u10, wr.heap.size + 2 ≤ bx ∧ a' = { tmps := #[.agg (T.hat h 0).cells.toArray, .int .i64 200, .pointer (some ⟨b2, 0, none⟩), undef, .pointer (some ⟨b4, 0, none⟩), .pointer (some ⟨b5, 0, none⟩), .pointer (some ⟨bx, 0, none⟩), .agg (T.hat h 0).cells.toArray, .int .i64 200, .func (.func 157) #[] #[.pointer (some ⟨bt, 0, none⟩), .pointer (some ⟨bh, 0, none⟩)], u10, undef, undef, undef, undef], defers := [] } ∧ k ≤ 1 ∧ T.Mem w none X (.b bx 50 (T.hat h k).cells :: T.mineL h bh bt b5 b4 b2 k)) ?hB ?assign ?body ?done ?stop)
  case hI =>
    rintro k X Y ⟨hk, h⟩ hb
    exact ⟨hk, h.keep (hS.out k) h00 hb⟩
  case hIx =>
    intro k X Y h hb
    exact h.keep HS2.out h00 hb
  case hR =>
    rintro k X ⟨_, h⟩
    exact ⟨h.row (.b bh _ _) (.tail _ (.head _)), T.cell_at h (b := bt) (o := 0) (.head _) rfl⟩
  case hRm =>
    rintro k X Y ⟨h1, h2⟩ hb
    refine ⟨(hb.block bh hlth).trans h1, ?_⟩
    rw [← h2]
    simp only [World.cell?, hb.block bt hltt]
  case hupB =>
    intro k X Y hb
    exact T.setRow_below _ hb
  case hupN =>
    intro k X b hb
    exact setRow_other X bh b _ (by omega)
  case h0 => exact ⟨by decide, HM.out⟩
  case hB =>
    rintro k x a' X ob ⟨bx, u10, hbx, rfl, hk, h⟩
    refine ⟨bx, u10, hbx, rfl, hk, h.past (grownBy_putObj' X _ ob) (by omega) fun e he hk => ?_⟩
    rcases List.mem_cons.1 he with rfl | he
    · cases hk; omega
    · obtain ⟨n, t, cs, rfl, hn⟩ := hS.out k e he
      cases hk
      omega
  case assign =>
    rintro l2 k x X K hx hX ⟨hk, hm⟩ hK
    have hk2 : k < 200 := by omega
    rw [List.getElem?_range hk2] at hx
    obtain rfl := Option.some.inj hx
    clear hx
    have hM := T.Mem.start X
    have hxl := (T.hat h k).len (T.hat_ok h kh k)
    have hxo := (T.hat h k).ones
    have HH := Aside0.mk hm
    have HKK := Aside0.mk hK
    clear hm hK
    simp only [T.NcE]
    generalize hxc : (T.hat h k).cells = xc at *
    simp only [List.zip_toArray, List.foldl_toArray, List.zip_cons_cons, List.zip_nil_right, List.foldl_cons, List.foldl_nil, List.setIfInBounds_toArray, List.set_cons_succ, List.set_cons_zero]
    refine wpIn_region_list ?_
    refine T.in_v rfl rfl (by intro c h; cases h) (fun _ _ => trivial) (T.op_alloc _ rfl _ T.TZ.out hM ?_)
    clear hM
    intro bx wld hM hbx
    (try simp only [Act.put, List.setIfInBounds_toArray, List.set_cons_zero, List.set_cons_succ])
    refine T.in_store _ _ _ rfl rfl (fun _ _ => trivial) ?_
    refine T.op_storeAll _ _ _ rfl _ rfl _ rfl _ _ hM (by (repeat ((exact T.Sub.head _)))) _ T.TN.out hxl hxo hz135 ?_
    clear hM; intro wld hM
    refine HKK.out _ _ (E.KeepsOn.of_below hM.below) ⟨bx, _, by omega, rfl, hk, HH.out.push hM.grown ?_ ?_⟩
    · exact hM.row _ List.mem_cons_self
    · intro k hk; cases hk; exact hbx
  case body =>
    rintro l2 k x a' X hx hX ⟨bx, u10, hbx, rfl, hk, hM⟩
    clear hx
    unfold T.mineL at hM
    have hxl := (T.hat h k).len (T.hat_ok h kh k)
    have hxo := (T.hat h k).ones
    have kk := T.hat_ok h kh k
    have kkn := kn k hk
    refine wpIn_block ?_
    refine wpIn_seq ?_
    refine wpIn_region_list ?_
    refine T.in_v rfl rfl (by intro c h; cases h) (fun _ _ => trivial) (T.ofx (T.x_loadAll rfl rfl T.Fd.out T.TU.out T.TN.out hxl hM) ?_)
    (try simp only [Act.put, List.setIfInBounds_toArray, List.set_cons_zero, List.set_cons_succ])
    have hM0 := hM
    have HM0 := Aside0.mk hM0
    clear hM0
    gi_wp2_with fail
    refine ⟨trivial, rfl, CallsIn.mono (CallsIn.inRound l2 (callsIn_wide.2 (T.hmay_calls (T.hat h k) kk kkn _))) ?_⟩
    rintro e X' ⟨rfl, hbc⟩
    replace hM := hM.call hbc
    have HK0 := Aside0.mk (E.KeepsOn.of_below (B := wr.heap.size) hbc)
    clear hbc
    by_cases h0 : k = 0
    · subst h0
      rw [hf]
      gi_wp2
      refine ⟨HK0.out, ⟨by decide, ?_⟩, hM.row (.b bh _ _) (.tail _ (.tail _ (.head _))), T.cell_at hM (b := bt) (o := 0) (.tail _ (.head _)) rfl⟩
      exact ((hM.drop (.cons _ (List.Sublist.refl _))).set (.tail _ (.head _)))
    · obtain rfl : k = 1 := by omega
      rw [hy]
      gi_wp2_with (first | ((with_reducible show wpListIn _ _ _ _ _ (⟨_, .load _ _, _, _, _, _⟩ :: _) _ _); refine T.in_v rfl rfl (by intro c h; cases h) (fun _ _ => trivial) (T.ofx (T.x_loadAll rfl rfl T.Fd.out T.TU.out T.TN.out hxl hM) ?_)) | ((with_reducible show wpListIn _ _ _ _ _ (⟨_, .store 50 _ _, _, _, _, _⟩ :: _) _ _); refine T.in_store _ _ _ rfl rfl (fun _ _ => trivial) (T.op_storeK _ _ _ rfl _ rfl _ rfl _ _ hM (by (repeat (first | exact T.Sub.head _ | apply T.Sub.tail))) _ T.TN.out hxl hxo hz135 ?_); clear hM; intro wld hM hks1) | ((with_reducible show wpListIn _ _ _ _ _ (⟨_, .store 4 _ _, _, _, _, _⟩ :: _) _ _); refine T.in_store _ _ _ rfl rfl (fun _ _ => trivial) (T.op_storeK _ _ _ rfl _ rfl [.bool true] rfl _ _ hM (by (repeat (first | exact T.Sub.head _ | apply T.Sub.tail))) _ T.TN.out rfl (T.one_ones rfl) rfl ?_); clear hM; intro wld hM hks2))
      refine ⟨(HK0.out.trans (hks1 _ hlt4)).trans (hks2 _ hlt5), hM.drop (.cons _ (.cons _ (.cons _ (.cons_cons _ (.cons_cons _ (.cons _ (List.Sublist.refl _)))))))⟩
  case done =>
    rintro X hX ⟨hk, _⟩ _
    rw [List.length_range] at hk
    omega
  case stop =>
    intro k X hX hk hm hmark
    have hM := T.Mem.mark hm hmark h00 HS2.out
    clear hm hmark HM
    have hfl := (T.hat h 1).len (T.hat_ok h kh 1)
    refine wpIn_ret ?_
    dsimp only [Exit.inBlock, Exit.then]
    have hmk : X.heap[wr.heap.size]? = some (.deferred (some [])) := hM.row (.o _ _) List.mem_cons_self
    have hM3 : T.Mem w none (X.putObj wr.heap.size (.deferred none)) _ := hM.turn (y := .o wr.heap.size (.deferred none)) (.head _) (grownBy_putObj' _ _ _) (World.putObj_heap_same (Array.getElem?_eq_some_iff.1 hmk).1) (fun k hk => .inl hk)
    refine ⟨by simp, .inl ⟨_, _, rfl, run_takeDeferred hmk, ?_⟩⟩
    have h1 := T.run_cell (P := Tryz.prog) (ty := 50) hM3 (.tail _ (.tail _ (.head _))) T.TU.out T.TN.out hfl
    have h2 := T.cell_at (o := 0) hM3 (b := b5) (.tail _ (.head _)) rfl
    refine ⟨.tuple #[.agg (T.hat h 1).cells.toArray, .bool true], ?_, ?_⟩
    · exact T.res_cc rfl _ rfl _ rfl h1 (T.run_cell1 T.TS.out h2)
    · rw [← hP]
      exact ⟨rfl, hM3.below⟩
end
end Go.Proofs.YtdklknfgcepcbaaGreat.X
