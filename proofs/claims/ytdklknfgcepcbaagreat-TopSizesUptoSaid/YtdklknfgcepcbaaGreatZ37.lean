/- Texts of this proof, laid together by wip/tools/pack.py: TN6, TN7, TN8. -/
import Derived.Test.YtdklknfgcepcbaaGreatZ36
namespace Go.Proofs.YtdklknfgcepcbaaGreat.X
open Go.RowKit Go.Proofs.YtdklknfgcepcbaaGreatW.PrintWords Go.Proofs.YtdklknfgcepcbaaGreatW.PrintLast Go.Proofs.YtdklknfgcepcbaaGreatW.PrintMore
set_option linter.unusedSimpArgs false
set_option linter.unusedVariables false
set_option maxHeartbeats 2000000
set_option maxRecDepth 20000
theorem T.cloneTx_nil (w : World) : Calls Tryz.prog 124 #[.slice none 0 0] w (T.E (.slice none 0 0) w) := by
  have hM := T.Mem.start w
  have hq : ∀ w : World, (binOp .eql 54 (.slice none 0 0) (.slice none 0 0)).run Tryz.prog w = .ok (.bool true) w := fun w => Lib.run_eql_slice_nil w _ _ none 0 0 0 0 Tryz.underlying54
  generalize hP : T.E (.slice none 0 0) w = Post
  go_enter Tryz.func124, Tryz.ntmps124
  repeat' (first | (go_step) | go_back)
  subst hP
  exact ⟨rfl, hM.below⟩
theorem T.txs_nil (w : World) : Calls Tryz.prog 86 #[.slice none 0 0] w (T.E (.slice none 0 0) w) := by
  have hM := T.Mem.start w
  generalize hP : T.E (.slice none 0 0) w = Post
  go_enter Tryz.func86, Tryz.ntmps86
  repeat' (first | (go_at_call 124; refine (T.cloneTx_nil _).mono ?_; rintro _ _ ⟨rfl, hbc⟩; replace hM := hM.call hbc; clear hbc) | (go_step) | ((fail_if_success (with_reducible show T.Seq _ _ _ _ _ _ _)); (fail_if_success (with_reducible show T.OW _ _ _ _ _ _)); simp only [Int.not_lt, Int.not_le] at *; go_simp))
  refine T.wp_rounds 1 ?_
  unfold T.rounds
  repeat' (first | (go_step) | go_back | ((fail_if_success (with_reducible show T.Seq _ _ _ _ _ _ _)); (fail_if_success (with_reducible show T.OW _ _ _ _ _ _)); simp only [Int.not_lt, Int.not_le] at *; go_simp))
  subst hP
  exact ⟨rfl, hM.below⟩
def T.asks2 : List Nat := [82, 83]
def T.ask2V : List Value := T.asks2.map fun f => Value.func (.func f) #[] #[]
theorem T.ask2_enter : ∀ f ∈ T.asks2, ∀ args w, (callFunc f args).run Tryz.prog w = .ok (.enter f args) w := by
  intro f hf args w
  have : f = 82 ∨ f = 83 := by simpa [T.asks2] using hf
  rcases this with rfl | rfl
  all_goals go_simp
def T.Jb (w0 : World) (x : T.TrialV) (bt bf : Nat) (tf : TypeId) (L0 : List T.Blk) (i : Nat) (W : World) : Prop :=
  (i < 2 ∧ T.Mem w0 none W (.b bf tf T.ask2V :: .b bt 160 x.cells :: L0)) ∨
  (i = 2 ∧ ∃ (v : Value) (l : List T.CoinV), T.Mem w0 none W (.g v 234 35 l.length (T.rc T.CoinV.cells l) :: .b bf tf T.ask2V :: .b bt 160 (T.TrialV.mk x.t x.b x.want v).cells :: L0))
theorem T.asks2_calls {w0 w : World} (x : T.TrialV) (bt bf c : Nat) (tf : TypeId) (L0 : List T.Blk) (ht : x.t.At w0) (hb : x.b.At w0) (hw : x.want.ok) (hc : 2 ≤ c) (hh : x.b.h.height < 48) (hcv : x.t.cv = T.nilS) (htv : x.b.tv = T.nilS) (hM : T.Mem w0 none w (.b bf tf T.ask2V :: .b bt 160 x.cells :: L0)) :
    Calls Tryz.prog 81 #[.pointer (some ⟨bt, 0, none⟩), .slice (some ⟨bf, 0, none⟩) 2 c] w fun e w' => e = .returned (.int .i64 0) ∧ T.Mem w0 none w' L0 := by
  have h := T.first_calls T.asks2 (T.Jb w0 x bt bf tf L0) (fun _ _ => False) T.ask2_enter bt bf c (by decide) hc ?_ ?_ w (.inl ⟨by decide, hM⟩)
  · refine h.mono ?_
    rintro e w' (⟨rfl, hj⟩ | ⟨err, hne, rfl, hr⟩)
    · refine ⟨rfl, ?_⟩
      rcases hj with ⟨h, _⟩ | ⟨_, v, l, h⟩
      · exact absurd h (by decide)
      · exact h.drop (.cons _ (.cons _ (.cons _ (List.Sublist.refl _))))
    · exact hr.elim
  · rintro i W (⟨_, h⟩ | ⟨_, v, l, h⟩)
    · exact T.range_all h (.head _)
    · exact T.range_all h (.tail _ (.head _))
  · intro i hi W hJ
    have hi2 : i < 2 := hi
    have hW : T.Mem w0 none W (.b bf tf T.ask2V :: .b bt 160 x.cells :: L0) := by
      rcases hJ with ⟨_, h⟩ | ⟨h, _⟩
      · exact h
      · omega
    have hr : W.rangeAt bt 0 x.cells := T.range_all hW (.tail _ (.head _))
    have hA : x.At W := ⟨ht.kept hW.below, hb.kept hW.below, hw⟩
    match i, hi2 with
    | 0, _ =>
      refine (T.tsize_calls x bt W hA hr).mono ?_
      rintro _ w' ⟨rfl, hbl⟩
      refine ⟨_, rfl, .inl ⟨?_, .inl ⟨by decide, hW.call hbl⟩⟩⟩
      rw [if_neg (by omega)]
    | 1, _ =>
      refine (T.tcoins_calls x bt ht hb hw hW (fun v => .tail _ (.head _))).mono ?_
      rintro _ w' ⟨v, l, err, rfl, he0, _, _, hM2⟩
      exact ⟨err, rfl, .inl ⟨he0 hcv htv, .inr ⟨rfl, v, l, hM2⟩⟩⟩
theorem T.hat0 (h : T.Head) (h0 : h.nonce = 0) : T.hat h 0 = h := by
  cases h
  simp only at h0
  subst h0
  rfl
theorem T.bmine_calls (t : T.TipV) (w : World) (ht : t.At w) (hcv : t.cv = T.nilS) (hh : (T.hnext t (T.sum [2]) 0).height < 48) (kn : ∀ n : Nat, n ≤ 1 → (T.hat (T.hnext t (T.sum [2]) 0) n).nums)
    (hf : T.hmay (T.hat (T.hnext t (T.sum [2]) 0) 0) = false) (hy : T.hmay (T.hat (T.hnext t (T.sum [2]) 0) 1) = true) :
    Calls Tryz.prog 42 #[.agg t.cells.toArray, .slice none 0 0, .int .u64 0, .int .i64 200] w fun e w' => ∃ (A : Option Addr) (c : Nat), e = .returned (.tuple #[.agg ((T.hat (T.hnext t (T.sum [2]) 0) 1).cells ++ [.slice A (T.blinks t).length c, T.nilS]).toArray, .int .i64 0]) ∧
      T.Mem w none w' [.g (.slice A (T.blinks t).length c) 44 32 (T.blinks t).length (T.rc T.u8s (T.blinks t))] := by
  have hM := T.Mem.start w
  have HT := Aside0.mk ht
  have k1 := ht.b.ok
  have hl1 := t.len k1
  have ho1 := ht.ones
  have kw := T.hnext_ok t (T.sum [2]) 0 (T.sum_len _) ht.okp
  have kh1 := T.hat_ok _ kw 1
  have hh1l := (T.hat (T.hnext t (T.sum [2]) 0) 1).len kh1
  have hh1o := (T.hat (T.hnext t (T.sum [2]) 0) 1).ones
  have hmine := fun W => T.mine_calls (T.hnext t (T.sum [2]) 0) kw kn hf hy W
  have knn := kn 0 (by decide)
  rw [T.hat0 _ rfl] at knn
  simp only [T.hat0 _ (show (T.hnext t (T.sum [2]) 0).nonce = 0 from rfl)] at hmine
  have HKN := Aside0.mk knn
  have HHH := Aside0.mk hh
  have HCV := Aside0.mk hcv
  have hz139 := T.zero139
  have hz137 : (T.Head.zero.cells ++ [T.nilS, T.nilS]).length = 137 := rfl
  have hz135 : T.Head.zero.cells.length = 135 := rfl
  clear ht hh hcv knn kn hf hy
  generalize hP : (fun (e : Ending) w' => ∃ (A : Option Addr) (c : Nat), e = .returned (.tuple #[.agg ((T.hat (T.hnext t (T.sum [2]) 0) 1).cells ++ [.slice A (T.blinks t).length c, T.nilS]).toArray, .int .i64 0]) ∧
      T.Mem w none w' [.g (.slice A (T.blinks t).length c) 44 32 (T.blinks t).length (T.rc T.u8s (T.blinks t))]) = Post
  generalize hH1 : T.hat (T.hnext t (T.sum [2]) 0) 1 = H1 at *
  generalize hNX : T.hnext t (T.sum [2]) 0 = NX at *
  have hnl := NX.len kw
  have hno := NX.ones
  have hbl : (NX.cells ++ [T.nilS, T.nilS]).length = 137 := by rw [List.length_append, hnl]; rfl
  have hbo : ∀ v ∈ (NX.cells ++ [T.nilS, T.nilS]), v.oneCell' = true := T.ones_app hno (T.ones_all rfl)
  go_enter Tryz.func42, Tryz.ntmps42
  repeat' (first | ((with_reducible show Code.wp _ (Code.region 9 _ true) _ _ _); refine T.mregion 9 (.t 0 (.t 1 (.p 3 (.a 2 (.a 4 (.p 5 (.z 6 (.p 7 .nil)))))))) 6 (by kernel_rfl) (fun _ _ _ _ h => h) hM (List.Sublist.refl _) ?_; clear hM; intro wld hM) | (go_at_call 80; refine (T.next_calls t [] (.slice none 0 0) 0 _ (HT.out.kept hM.below) ⟨Nat.zero_le _, T.Sl.nil _, fun _ h => (List.not_mem_nil h).elim⟩).mono ?_; rintro _ _ ⟨rt, hrt, hrn, rfl, hbc⟩; replace hM := hM.call hbc; clear hbc hrt; obtain rfl := hrn rfl; clear hrn; rw [hNX]) | (go_at_call 81; refine (T.asks2_calls (T.TrialV.mk t ⟨NX, T.nilS, T.nilS, [], []⟩ NX T.nilS) _ _ _ _ _ HT.out ⟨kw, HKN.out, fun _ h => (List.not_mem_nil h).elim, Nat.zero_le _, T.Sl.nil _, ⟨Nat.zero_le _, T.Sl.nil _, fun _ h => (List.not_mem_nil h).elim⟩⟩ kw (Nat.le_refl _) HHH.out HCV.out rfl hM).mono ?_; rintro _ w2 ⟨rfl, hM2⟩; clear hM; have hM := hM2; clear hM2) | (go_at_call 84; refine (hmine _).mono ?_; rintro _ _ ⟨rfl, hbc⟩; replace hM := hM.call hbc; clear hbc) | (go_at_call 85; refine (T.blinks_calls t _ (HT.out.kept hM.below)).mono ?_; rintro _ wr ⟨v, rfl, ho, h1, hbc⟩; (obtain ⟨Ag, cg, rfl⟩ := T.own_slice ho); replace hM := hM.callG hbc ho h1; clear hbc ho h1; have hfl : (H1.cells ++ [Value.slice Ag (T.blinks t).length cg, T.nilS]).length = 137 := (by rw [List.length_append, hh1l]; rfl); have hfo : ∀ v ∈ H1.cells ++ [Value.slice Ag (T.blinks t).length cg, T.nilS], v.oneCell' = true := T.ones_app hh1o (T.ones_all rfl)) | (go_at_call 86; refine (T.txs_nil _).mono ?_; rintro _ _ ⟨rfl, hbc⟩; replace hM := hM.call hbc; clear hbc) | (((first | ((with_reducible show wpList _ _ _ _ _ _); (refine T.w_o rfl ?_)) | (with_reducible show T.OW _ _ _ _ _ _)); first | ((with_reducible show T.OW _ ⟨_, .load _ _, _, _, _, _⟩ _ _ _ _); ((refine T.ofx (T.x_loadAll rfl rfl T.Fd.out T.TU.out T.TN.out (by ((with_reducible assumption))) hM) ?_))) | ((with_reducible show T.OW _ ⟨_, .store _ _ _, _, _, _, _⟩ _ _ _ _); ((refine T.op_storeAll _ _ _ rfl _ rfl _ rfl _ _ hM (by (repeat (first | exact T.Sub.head _ | apply T.Sub.tail))) _ T.TN.out (by ((with_reducible assumption))) (by ((with_reducible assumption))) (by ((with_reducible assumption))) ?_; clear hM; intro wld hM))) | ((with_reducible show T.OW _ ⟨_, .alloc _, _, _, _, _⟩ _ _ _ _); refine T.op_alloc _ rfl _ T.TZ.out hM ?_; clear hM; intro blk wld hM hlt) | ((with_reducible show T.OW _ ⟨_, .box _ _, _, _, _, _⟩ _ _ _ _); refine T.op_box _ _ rfl _ rfl hM ?_; clear hM; intro blk wld hM hlt) | ((with_reducible show T.OW _ ⟨_, .buildSlice _ _ _, _, _, _, _⟩ _ _ _ _); refine T.op_buildSl _ _ _ rfl _ T.TL.out _ T.TN.out _ T.TZ.out rfl (by decide) (by decide) _ rfl (by (((simp [T.okp, Value.cells, Act.eval, *]; done)))) _ rfl hM ?_; (try simp only [List.map_toArray, List.map_cons, List.map_nil, Act.eval, Array.getD_eq_getD_getElem?, List.toList_toArray, List.getElem?_toArray, List.getElem?_cons_zero, List.getElem?_cons_succ, Option.getD_some, T.segs, List.replicate_succ, List.replicate_zero, List.set_cons_zero, List.set_cons_succ, Value.cells, List.flatten_cons, List.flatten_nil, List.append_nil, List.cons_append, List.nil_append]); clear hM; intro blk wld hM hlt) | ((with_reducible show T.OW _ ⟨_, .build _ _, _, _, _, _⟩ _ _ _ _); ((refine T.ofx (T.x_build rfl inferInstance rfl (by (((simp [T.okp, Value.cells, Act.eval, *]; done)))) rfl) ?_; (try simp only [List.map_toArray, List.map_cons, List.map_nil, Act.eval, Array.getD_eq_getD_getElem?, List.toList_toArray, List.getElem?_toArray, List.getElem?_cons_zero, List.getElem?_cons_succ, Option.getD_some, T.segs, List.replicate_succ, List.replicate_zero, List.set_cons_zero, List.set_cons_succ, Value.cells, List.flatten_cons, List.flatten_nil, List.append_nil, List.cons_append, List.nil_append]))))); (try simp only [Act.put, List.setIfInBounds_toArray, List.set_cons_zero, List.set_cons_succ])) | ((with_reducible show T.Seq _ _ _ _ _ _ _); first | ((with_reducible show T.Seq _ _ _ (.p _ _) _ _ _); first | (apply T.sq_p rfl rfl; (focus intro wS; ((go_simp; with_reducible rfl))); (try simp only [Act.put, List.setIfInBounds_toArray, List.set_cons_zero, List.set_cons_succ])) | (apply T.sq_p rfl rfl; (focus intro wS; exact T.x_build rfl inferInstance rfl (by (((simp [T.okp, Value.cells, Act.eval, *]; done)))) rfl); (try simp only [Act.put, List.setIfInBounds_toArray, List.set_cons_zero, List.set_cons_succ]); (try simp only [List.map_toArray, List.map_cons, List.map_nil, Act.eval, Array.getD_eq_getD_getElem?, List.toList_toArray, List.getElem?_toArray, List.getElem?_cons_zero, List.getElem?_cons_succ, Option.getD_some, T.segs, List.replicate_succ, List.replicate_zero, List.set_cons_zero, List.set_cons_succ, Value.cells, List.flatten_cons, List.flatten_nil, List.append_nil, List.cons_append, List.nil_append]))) | ((with_reducible show T.Seq _ _ _ (.t _ _) _ _ _); ((apply T.sq_t rfl rfl; (focus intro wS hS; (exact T.x_loadAll rfl rfl T.Fd.out T.TU.out T.TN.out (by ((with_reducible assumption))) hS)); (try simp only [Act.put, List.setIfInBounds_toArray, List.set_cons_zero, List.set_cons_succ])))) | ((with_reducible show T.Seq _ _ _ .nil _ _ _); refine T.sq_nil ?_) | ((with_reducible show T.Seq _ _ _ (.a _ _) _ _ _); refine T.sq_a rfl rfl (fun K hK => ?_)) | ((with_reducible show T.Seq _ _ _ (.z _ _) _ _ _); refine T.sq_z rfl rfl (fun K hK => ?_))) | (go_at_K; refine hK.out _ _ _ hM (by (repeat (first | exact List.Sublist.refl _ | apply List.Sublist.cons))) ?_; clear hK K) | (go_at_K; refine hK.out _ _ _ hM ?_; clear hK K) | ((with_reducible show T.OW _ ⟨_, .call _, _, _, _, _⟩ _ _ _ _); refine T.OW.mk ?_; go_simp) | (go_step) | ((fail_if_success (with_reducible show T.Seq _ _ _ _ _ _ _)); (fail_if_success (with_reducible show T.OW _ _ _ _ _ _)); simp only [Int.not_lt, Int.not_le] at *; go_simp))
  (refine T.ret_ct rfl rfl _ rfl _ rfl _ _ hM T.Fd.out T.TU.out _ T.TN.out (by ((with_reducible assumption))) ?_)
  subst hP
  exact ⟨Ag, cg, rfl, hM.drop (by (repeat (first | exact List.Sublist.refl _ | apply List.Sublist.cons_cons | apply List.Sublist.cons)))⟩
def T.b00 (bits : Int) : T.BlkV := ⟨T.hfirst bits, T.nilS, T.nilS, [], []⟩
def T.NX (bits : Int) : T.Head := T.hnext (T.tip0 bits T.nilS) (T.sum [2]) 0
def T.L1 (bits : Int) : List (List Int) := T.blinks (T.tip0 bits T.nilS)
theorem T.nx_of (bits : Int) (v : Value) : T.hnext (T.tip0 bits v) (T.sum [2]) 0 = T.NX bits := rfl
theorem T.l1_of (bits : Int) (v : Value) : T.blinks (T.tip0 bits v) = T.L1 bits := rfl
structure T.Second (bits : Int) : Prop where
  h0 : 0 ≤ bits
  h1 : bits < 4294967296
  hf : T.tOk bits = true
  hh : (T.NX bits).height < 48
  kn : ∀ n : Nat, n ≤ 1 → (T.hat (T.NX bits) n).nums
  no : T.hmay (T.hat (T.NX bits) 0) = false
  yes : T.hmay (T.hat (T.NX bits) 1) = true
theorem T.b00_same (bits : Int) : T.sameB (T.hfirst bits) (T.b00 bits) = true := by simp [T.sameB, T.b00, T.Head.eq_self]
theorem T.b00_at (bits : Int) (h0 : 0 ≤ bits) (h1 : bits < 4294967296) (w : World) : (T.b00 bits).At w :=
  ⟨T.hfirst_ok bits, T.hfirst_nums bits h0 h1, fun _ h => (List.not_mem_nil h).elim, Nat.zero_le _, T.Sl.nil _, ⟨Nat.zero_le _, T.Sl.nil _, fun _ h => (List.not_mem_nil h).elim⟩⟩
theorem T.tip0_okp (bits : Int) : T.okP (T.tip0 bits T.nilS).ps := fun y hy => by rw [List.mem_singleton.1 hy]; exact T.bleaf_okP _
theorem T.bmine0_calls (bits : Int) (k : T.Second bits) (v : Value) (w : World) (hv : T.Sl w v 1 (T.bleaf (T.hfirst bits)).cells) :
    Calls Tryz.prog 42 #[.agg (T.tip0 bits v).cells.toArray, .slice none 0 0, .int .u64 0, .int .i64 200] w fun e w' => ∃ (A : Option Addr) (c : Nat), e = .returned (.tuple #[.agg ((T.hat (T.NX bits) 1).cells ++ [.slice A (T.L1 bits).length c, T.nilS]).toArray, .int .i64 0]) ∧
      T.Mem w none w' [.g (.slice A (T.L1 bits).length c) 44 32 (T.L1 bits).length (T.rc T.u8s (T.L1 bits))] := by
  have h := T.bmine_calls (T.tip0 bits v) w (T.tip0_at bits k.h0 k.h1 v w hv) rfl
  rw [T.nx_of, T.l1_of] at h
  exact h k.hh k.kn k.no k.yes
theorem T.own41_calls (h : T.Head) (k : h.ok) (b o c : Nat) (w : World) (hS : T.Sl w (.slice (some ⟨b, o, none⟩) 1 c) 1 (T.bare h)) : Calls Tryz.prog 41 #[.slice (some ⟨b, o, none⟩) 1 c] w fun e w' => ∃ (A : Option Addr) (c : Nat) (v : Value), e = .returned v ∧ T.Mem w none w' [.g v 56 137 1 (h.cells ++ [.slice A 0 c, T.nilS]), .g (.slice A 0 c) 44 32 0 []] := by
  have hM := T.Mem.start w
  have HS := Aside0.mk hS
  clear hS
  generalize hP : (fun (e : Ending) w' => ∃ (A : Option Addr) (c : Nat) (v : Value), e = .returned v ∧ T.Mem w none w' [.g v 56 137 1 (h.cells ++ [.slice A 0 c, T.nilS]), .g (.slice A 0 c) 44 32 0 []]) = Post
  go_enter Tryz.func41, Tryz.ntmps41
  repeat' (first | (go_at_call 74; refine (T.toldB_calls h k _ _ _ _ (hM.slin HS.out)).mono ?_; rintro _ w2 ⟨A2, c2, v, rfl, hM2⟩; replace hM := hM.join hM2; clear hM2; simp only [List.append_nil] at hM) | (go_step) | go_back | ((fail_if_success (with_reducible show T.Seq _ _ _ _ _ _ _)); (fail_if_success (with_reducible show T.OW _ _ _ _ _ _)); simp only [Int.not_lt, Int.not_le] at *; go_simp))
  subst hP
  exact ⟨A2, c2, v, rfl, hM⟩
theorem T.Mem.rot {w0 w : World} {F : Option Nat} {a b c : T.Blk} (h : T.Mem w0 F w [a, b, c]) : T.Mem w0 F w [b, c, a] := h.perm (List.perm_append_singleton a [b, c]).symm
def T.TwoMem (bits : Int) (w : World) (v : Value) (w' : World) : Prop := ∃ (A0 A1 : Option Addr) (c0 c1 : Nat), T.Mem w none w' [.g v 56 137 2 (((T.hfirst bits).cells ++ [.slice A0 0 c0, T.nilS]) ++ ((T.hat (T.NX bits) 1).cells ++ [.slice A1 (T.L1 bits).length c1, T.nilS])), .g (.slice A0 0 c0) 44 32 0 [], .g (.slice A1 (T.L1 bits).length c1) 44 32 (T.L1 bits).length (T.rc T.u8s (T.L1 bits))]
theorem T.grow_calls (bits : Int) (k : T.Second bits) (g : Nat) (w : World) (hS : T.Sl w (.slice (some ⟨g, 0, none⟩) 1 1) 1 (T.bare (T.hfirst bits))) : Calls Tryz.prog 22 #[.slice (some ⟨g, 0, none⟩) 1 1, .slice none 0 0, .int .u64 0] w fun e w' => ∃ v, e = .returned (.tuple #[v, .int .i64 0]) ∧ T.TwoMem bits w v w' := by
  have hM := T.Mem.start w
  have HS := Aside0.mk hS
  have hz139 := T.zero139
  have hz137 : (T.Head.zero.cells ++ [T.nilS, T.nilS]).length = 137 := rfl
  have hfo := T.hfirst_ok bits
  have HBA := Aside0.mk (show T.BlksAt w (.slice (some ⟨g, 0, none⟩) 1 1) [T.b00 bits] from ⟨by simp, by rw [T.rc_one]; exact hS, fun y hy => by rw [List.mem_singleton.1 hy]; exact T.b00_at bits k.h0 k.h1 w⟩)
  have hbo := (T.bleaf (T.hfirst bits)).ones
  have K := Aside0.mk k
  have kn1 := T.hat_ok (T.NX bits) (T.hnext_ok _ _ _ (T.sum_len _) (T.tip0_okp bits)) 1
  have hnl := (T.hat (T.NX bits) 1).len kn1
  have hno := (T.hat (T.NX bits) 1).ones
  clear hS k
  generalize hP : (fun (e : Ending) w' => ∃ v, e = .returned (.tuple #[v, .int .i64 0]) ∧ T.TwoMem bits w v w') = Post
  go_enter Tryz.func22, Tryz.ntmps22
  repeat' (first | (go_at_call 41; refine (T.own41_calls (T.hfirst bits) hfo _ _ _ _ (hM.slin HS.out)).mono ?_; rintro _ w2 ⟨A2, c2, v, rfl, hM2⟩; replace hM := hM.join hM2; clear hM2; simp only [List.append_nil] at hM) | (go_at_call 36; refine (T.check_calls [T.b00 bits] _ _ (HBA.out.kept hM.below)).mono ?_; rintro _ w3 ⟨cs, err, hcl, hco, rfl, hbc, _, h1c, _⟩; (obtain ⟨rfl, vt, rfl, how⟩ := h1c _ rfl K.out.hf (T.b00_same bits)); clear h1c; (obtain ⟨At, ct, rfl⟩ := T.own_slice how); replace hM := hM.callG hbc how hbo; clear hbc how) | (go_at_call 42; refine (T.bmine0_calls bits K.out _ _ (hM.gsl T.Fg.out)).mono ?_; rintro _ w4 ⟨Am, cm, rfl, hM2⟩; replace hM := hM.join hM2; clear hM2; simp only [List.cons_append, List.nil_append] at hM; have hml : ((T.hat (T.NX bits) 1).cells ++ [Value.slice Am (T.L1 bits).length cm, T.nilS]).length = 137 := (by rw [List.length_append, hnl]; rfl); have hmo : ∀ v ∈ (T.hat (T.NX bits) 1).cells ++ [Value.slice Am (T.L1 bits).length cm, T.nilS], v.oneCell' = true := T.ones_app hno (T.ones_all rfl)) | ((((((with_reducible show wpList _ _ _ _ _ _); (refine T.w_o rfl ?_)))); first | ((with_reducible show T.OW _ ⟨_, .load _ _, _, _, _, _⟩ _ _ _ _); ((refine T.ofx (T.x_loadAll rfl rfl T.Fd.out T.TU.out T.TN.out (by ((with_reducible assumption))) hM) ?_))) | ((with_reducible show T.OW _ ⟨_, .store _ _ _, _, _, _, _⟩ _ _ _ _); ((refine T.op_storeAll _ _ _ rfl _ rfl _ rfl _ _ hM (by (repeat ((exact T.Sub.head _)))) _ T.TN.out (by ((with_reducible assumption))) (by ((with_reducible assumption))) (by ((with_reducible assumption))) ?_; clear hM; intro wld hM))) | ((with_reducible show T.OW _ ⟨_, .alloc _, _, _, _, _⟩ _ _ _ _); refine T.op_alloc _ rfl _ T.TZ.out hM ?_; clear hM; intro blk wld hM hlt) | ((with_reducible show T.OW _ ⟨_, .call ⟨.builtin .append, _, _⟩, _, _, _, _⟩ _ _ _ _); refine T.op_app _ _ _ rfl _ _ _ T.TE.out _ _ _ rfl _ _ _ hM (fun _ => by (repeat (first | exact T.Sub.head _ | apply T.Sub.tail))) (by (exact T.Mem.slB hM T.Fd.out (by ((with_reducible assumption))) (by decide))) (by ((with_reducible assumption))) (by decide) (by decide) (by ((decide))) ?_; clear hM; intro gsv wld hM) | ((with_reducible show T.OW _ ⟨_, .buildSlice _ _ _, _, _, _, _⟩ _ _ _ _); refine T.op_buildSl _ _ _ rfl _ T.TL.out _ T.TN.out _ T.TZ.out rfl (by decide) (by decide) _ rfl (by (((simp [T.okp, Value.cells, Act.eval, *]; done)))) _ rfl hM ?_; (try simp only [List.map_toArray, List.map_cons, List.map_nil, Act.eval, Array.getD_eq_getD_getElem?, List.toList_toArray, List.getElem?_toArray, List.getElem?_cons_zero, List.getElem?_cons_succ, Option.getD_some, T.segs, List.replicate_succ, List.replicate_zero, List.set_cons_zero, List.set_cons_succ, Value.cells, List.flatten_cons, List.flatten_nil, List.append_nil, List.cons_append, List.nil_append]); clear hM; intro blk wld hM hlt)); (try simp only [Act.put, List.setIfInBounds_toArray, List.set_cons_zero, List.set_cons_succ])) | (go_step) | go_back | ((fail_if_success (with_reducible show T.Seq _ _ _ _ _ _ _)); (fail_if_success (with_reducible show T.OW _ _ _ _ _ _)); simp only [Int.not_lt, Int.not_le] at *; go_simp))
  subst hP
  exact ⟨_, rfl, A2, Am, c2, cm, T.Mem.rot (hM.drop (by (repeat (first | exact List.Sublist.refl _ | apply List.Sublist.cons_cons | apply List.Sublist.cons))))⟩
theorem T.two_calls (k : T.Second 545259519) (w : World) : Calls Tryz.prog 10 #[] w fun e w' => ∃ v, e = .returned v ∧ T.TwoMem 545259519 w v w' := by
  have hM := T.Mem.start w
  have K := Aside0.mk k
  clear k
  generalize hP : (fun (e : Ending) w' => ∃ v, e = .returned v ∧ T.TwoMem 545259519 w v w') = Post
  go_enter Tryz.func10, Tryz.ntmps10
  repeat' (first | (go_at_call 21; refine (T.new_calls 545259519 (by decide) (by decide) K.out.hf _).mono ?_; rintro _ w2 ⟨g, rfl, hM2⟩; replace hM := hM.join hM2; clear hM2; simp only [List.append_nil] at hM) | (go_at_call 22; refine (T.grow_calls 545259519 K.out g _ (hM.gsl (.head _))).mono ?_; rintro _ w3 ⟨v, rfl, A0, A1, c0, c1, hM2⟩; replace hM := hM.join hM2; clear hM2) | (go_step) | go_back | ((fail_if_success (with_reducible show T.Seq _ _ _ _ _ _ _)); (fail_if_success (with_reducible show T.OW _ _ _ _ _ _)); simp only [Int.not_lt, Int.not_le] at *; go_simp))
  subst hP
  exact ⟨v, rfl, A0, A1, c0, c1, hM.drop (.cons_cons _ (.cons_cons _ (.cons_cons _ (List.nil_sublist _))))⟩
def T.blob (b : List Int) : List Int := T.put (b.length : Int) 2 ++ b
theorem T.blob_len (b : List Int) : (T.blob b).length = b.length + 2 := by rw [T.blob, List.length_append, T.put_len]; omega
theorem T.blob_calls (b : List Int) (hb : b.length ≤ 65535) (v : Value) (w : World) (hS : T.Sl w v b.length (T.u8s b)) : Calls Tryz.prog 125 #[v] w (T.EGT (T.blob b) w) := by
  have hM := T.Mem.start w
  obtain ⟨A, cc, hv, _, _, _⟩ := id hS
  subst hv
  have HS := Aside0.mk hS
  have hp := T.put_len (b.length : Int) 2
  have HPL := Aside0.mk hp
  have d1 : decide (65535 < (b.length : Int)) = false := decide_eq_false (by omega)
  have d2 : decide (65535 < b.length) = false := decide_eq_false (by omega)
  have e1 : IntKind.u64.wrap (b.length : Int) = (b.length : Int) := by rw [IntKind.wrap_u64]; omega
  have HB := Aside0.mk hb
  clear hS hp hb
  have HCL := Aside0.mk (show (T.put (b.length : Int) 2 ++ b).length = b.length + 2 by rw [List.length_append, HPL.out]; omega)
  unfold T.blob
  generalize hP : T.EGT (T.put (b.length : Int) 2 ++ b) w = Post
  go_enter Tryz.func125, Tryz.ntmps125
  repeat' (first | (go_at_call 58; refine (T.put_calls (b.length : Int) 2 (by decide) (by decide) _).mono ?_; rintro _ wr ⟨v, rfl, ho, h1, hbc⟩; (obtain ⟨Ag, cg, rfl⟩ := T.own_slice ho); replace hM := hM.callG hbc ho h1; clear hbc ho h1) | (go_at_call 57; refine (T.concat2 (T.put (b.length : Int) 2) b hM T.Fd.out (by rw [HPL.out]; exact hM.gsl T.Fg.out) (hM.slin HS.out) (by rw [List.length_append, HPL.out]; have := HB.out; omega)).mono ?_; rintro _ wr ⟨v, rfl, ho, h1, hbc⟩; rw [HCL.out] at ho; (obtain ⟨Ah, ch, rfl⟩ := T.own_slice ho); replace hM := hM.callG hbc ho h1; clear hbc ho h1) | ((((((with_reducible show wpList _ _ _ _ _ _); (refine T.w_o rfl ?_)))); (((with_reducible show T.OW _ ⟨_, .buildSlice _ _ _, _, _, _, _⟩ _ _ _ _); refine T.op_buildSl _ _ _ rfl _ T.TL.out _ T.TN.out _ T.TZ.out rfl (by decide) (by decide) _ rfl (by (((simp [T.okp, Value.cells, Act.eval, *]; done)))) _ rfl hM ?_; (try simp only [List.map_toArray, List.map_cons, List.map_nil, Act.eval, Array.getD_eq_getD_getElem?, List.toList_toArray, List.getElem?_toArray, List.getElem?_cons_zero, List.getElem?_cons_succ, Option.getD_some, T.segs, List.replicate_succ, List.replicate_zero, List.set_cons_zero, List.set_cons_succ, Value.cells, List.flatten_cons, List.flatten_nil, List.append_nil, List.cons_append, List.nil_append]); clear hM; intro blk wld hM hlt))); (try simp only [Act.put, List.setIfInBounds_toArray, List.set_cons_zero, List.set_cons_succ])) | (go_step) | go_back | ((fail_if_success (with_reducible show T.Seq _ _ _ _ _ _ _)); (fail_if_success (with_reducible show T.OW _ _ _ _ _ _)); simp only [Int.not_lt, Int.not_le] at *; go_simp))
  subst hP
  refine ⟨_, rfl, ?_, (hM.row _ (.head _)).2, hM.below⟩
  rw [HCL.out]
  exact (hM.row _ (.head _)).1
structure T.RwsAt (w : World) (v : Value) (l : List (Value × List Int)) : Prop where
  s : T.Sl w v l.length (l.map (·.1))
  all : ∀ p ∈ l, T.Sl w p.1 p.2.length (T.u8s p.2)
theorem T.RwsAt.kept {w w' : World} {v : Value} {l : List (Value × List Int)} (h : T.RwsAt w v l) (hb : Below w.heap.size w w') : T.RwsAt w' v l := ⟨h.s.kept hb, fun p hp => (h.all p hp).kept hb⟩
def T.rowsB (l : List (List Int)) : List Int := (l.length : Int) :: l.flatMap T.blob
theorem T.rows_take (l : List (List Int)) (i : Nat) (h : i < l.length) (n : Int) : (n :: (l.take i).flatMap T.blob) ++ T.blob (l[i]) = n :: (l.take (i + 1)).flatMap T.blob := by
  rw [List.take_succ_eq_append_getElem h, List.flatMap_append]
  simp
theorem T.rows_len : ∀ (l : List (List Int)), (∀ b ∈ l, b.length ≤ 65535) → (l.flatMap T.blob).length ≤ l.length * 65537
  | [], _ => by simp
  | b :: l, h => by
    have h1 := T.rows_len l (fun x hx => h x (List.mem_cons_of_mem _ hx))
    have h2 := h b List.mem_cons_self
    rw [List.flatMap_cons, List.length_append, T.blob_len, List.length_cons, Nat.add_mul]
    omega
theorem T.rows_calls (l : List (Value × List Int)) (hn : l.length ≤ 255) (hb : ∀ p ∈ l, p.2.length ≤ 65535) (v : Value) (w : World) (hS : T.RwsAt w v l) : Calls Tryz.prog 87 #[v] w (T.EGT (T.rowsB (l.map (·.2))) w) := by
  have hM := T.Mem.start w
  obtain ⟨A, cc, hv, _, _, _⟩ := id hS.s
  subst hv
  have HS := Aside0.mk hS
  have HB := Aside0.mk hb
  have HN := Aside0.mk hn
  have d1 : decide (255 < (l.length : Int)) = false := decide_eq_false (by omega)
  have d2 : decide (255 < l.length) = false := decide_eq_false (by omega)
  have e1 : IntKind.u8.wrap (l.length : Int) = (l.length : Int) := by rw [IntKind.wrap_u8]; omega
  clear hS hb hn
  generalize hP : T.EGT (T.rowsB (l.map (·.2))) w = Post
  go_enter Tryz.func87, Tryz.ntmps87
  repeat' (first | ((((((with_reducible show wpList _ _ _ _ _ _); (refine T.w_o rfl ?_)))); (((with_reducible show T.OW _ ⟨_, .buildSlice _ _ _, _, _, _, _⟩ _ _ _ _); refine T.op_buildSl _ _ _ rfl _ T.TL.out _ T.TN.out _ T.TZ.out rfl (by decide) (by decide) _ rfl (by (((simp [T.okp, Value.cells, Act.eval, *]; done)))) _ rfl hM ?_; (try simp only [List.map_toArray, List.map_cons, List.map_nil, Act.eval, Array.getD_eq_getD_getElem?, List.toList_toArray, List.getElem?_toArray, List.getElem?_cons_zero, List.getElem?_cons_succ, Option.getD_some, T.segs, List.replicate_succ, List.replicate_zero, List.set_cons_zero, List.set_cons_succ, Value.cells, List.flatten_cons, List.flatten_nil, List.append_nil, List.cons_append, List.nil_append]); clear hM; intro blk wld hM hlt))); (try simp only [Act.put, List.setIfInBounds_toArray, List.set_cons_zero, List.set_cons_succ])) | (go_step))
  obtain ⟨b0, rfl⟩ := T.n1 hM
  replace hM := (hM.shutB (sz := 1) 1 rfl (by decide) (T.one_ones rfl))
  go_loopg [4, 18] (l.length + 1) (fun kq v4 v18 Wd => ∃ (i n : Nat), v18 = .int .i64 i ∧ i ≤ l.length ∧ l.length - i < kq ∧ ((l.length : Int) :: ((l.map (·.2)).take i).flatMap T.blob).length = n ∧ n ≤ 100000000 ∧ Aside0 (T.Mem w none Wd [.g v4 5 1 n (T.u8s ((l.length : Int) :: ((l.map (·.2)).take i).flatMap T.blob))]))
  case atStart => exact ⟨0, 1, rfl, by omega, by omega, rfl, by decide, ⟨hM⟩⟩
  case round =>
    clear hM
    obtain ⟨i, n, rfl, hi, hg, hnl, hnb, hMo⟩ := hrel
    have hM := hMo.out
    have HNL := Aside0.mk hnl
    clear hMo hnl
    by_cases hlt : i < l.length
    · have hltz : (i : Int) < (l.length : Int) := by omega
      have cb : decide ((i : Int) < (l.length : Int)) = true := decide_eq_true hltz
      have hi0 : (0 : Int) ≤ (i : Int) := by omega
      obtain ⟨b, o, rfl⟩ := HS.out.s.adr (by omega)
      have H1 := Aside0.mk (show (l.map (·.1))[i]? = some (l[i]).1 by simp [hlt])
      have hx := HS.out.all _ (List.getElem_mem hlt)
      have hxb := HB.out _ (List.getElem_mem hlt)
      have HTK := Aside0.mk (show ((l.length : Int) :: ((l.map (·.2)).take i).flatMap T.blob) ++ T.blob (l[i]).2 = (l.length : Int) :: ((l.map (·.2)).take (i + 1)).flatMap T.blob by
        have := T.rows_take (l.map (·.2)) i (by simpa using hlt) (l.length : Int)
        simpa using this)
      have hlb := HN.out
      have HRL := Aside0.mk (show ((l.length : Int) :: ((l.map (·.2)).take (i + 1)).flatMap T.blob).length ≤ 100000000 by
        have h1 := T.rows_len ((l.map (·.2)).take (i + 1)) (fun y hy => by
          obtain ⟨p, hp, rfl⟩ := List.mem_map.1 (List.mem_of_mem_take hy)
          exact HB.out p hp)
        have h2 : ((l.map (·.2)).take (i + 1)).length ≤ 255 := by rw [List.length_take, List.length_map]; omega
        rw [List.length_cons]
        omega)
      generalize l[i] = x at *
      obtain ⟨xv, xb⟩ := x
      simp only at hx hxb H1 HTK
      obtain ⟨Ax, cx, rfl, _⟩ := id hx
      have HX := Aside0.mk hx
      have hbl := T.blob_len xb
      clear hx
      repeat' (first | (go_at_call 125; refine (T.blob_calls xb hxb _ _ (HX.out.kept hM.below)).mono ?_; rintro _ wr ⟨v, rfl, ho, h1, hbc⟩; rw [hbl] at ho; (obtain ⟨Ag, cg, rfl⟩ := T.own_slice ho); replace hM := hM.callG hbc ho h1; clear hbc ho h1; have hul : (T.u8s (T.blob xb)).length = (xb.length + 2) * 1 := (by rw [encs_length, hbl, Nat.mul_one])) | ((((((with_reducible show wpList _ _ _ _ _ _); (refine T.w_o rfl ?_)))); first | ((with_reducible show T.OW _ ⟨_, .load _ _, _, _, _, _⟩ _ _ _ _); ((refine T.ofx (T.x_slCell rfl rfl (hM.slin HS.out.s) T.TS.out H1.out) ?_))) | ((with_reducible show T.OW _ ⟨_, .call ⟨.builtin .append, _, _⟩, _, _, _, _⟩ _ _ _ _); refine T.op_app _ _ _ rfl _ _ _ T.TE.out _ _ _ rfl _ _ _ hM (fun _ => by (repeat (first | exact T.Sub.head _ | apply T.Sub.tail))) (by (exact T.Mem.gsl hM (List.Mem.head _))) (by ((with_reducible assumption))) (by decide) (by decide) (by ((omega))) ?_; clear hM; intro gsv wld hM)); (try simp only [Act.put, List.setIfInBounds_toArray, List.set_cons_zero, List.set_cons_succ])) | (go_step) | ((fail_if_success (with_reducible show T.Seq _ _ _ _ _ _ _)); (fail_if_success (with_reducible show T.OW _ _ _ _ _ _)); simp only [Int.not_lt, Int.not_le] at *; go_simp))
      go_roundg (l.length - i)
      case measure => omega
      case rel =>
        have hM2 := hM.drop (L' := [_]) (.cons _ (List.Sublist.refl _))
        rw [← T.u8s_app, HTK.out] at hM2
        have hle : n + (xb.length + 2) = ((l.length : Int) :: ((l.map (·.2)).take (i + 1)).flatMap T.blob).length := by rw [← HTK.out, List.length_append, HNL.out, hbl]
        exact ⟨i + 1, _, (by (go_num)), by omega, by omega, hle.symm, by rw [hle]; exact HRL.out, ⟨hM2⟩⟩
    · have hiN : i = l.length := by omega
      have hltz : ¬ (i : Int) < (l.length : Int) := by omega
      have cb : decide ((i : Int) < (l.length : Int)) = false := decide_eq_false hltz
      obtain ⟨Ae, ce, rfl⟩ := T.own_slice (hM.row _ (.head _)).1
      repeat' (first | (go_step) | go_back | ((fail_if_success (with_reducible show T.Seq _ _ _ _ _ _ _)); (fail_if_success (with_reducible show T.OW _ _ _ _ _ _)); simp only [Int.not_lt, Int.not_le] at *; go_simp))
      subst hP
      have hr : T.rowsB (l.map (·.2)) = (l.length : Int) :: ((l.map (·.2)).take i).flatMap T.blob := by
        rw [T.rowsB, hiN, List.take_of_length_le (by simp), List.length_map]
      have hrl : (T.rowsB (l.map (·.2))).length = n := by rw [hr]; exact HNL.out
      refine ⟨_, rfl, ?_, ?_, hM.below⟩
      · rw [hrl, hr]
        exact (hM.row _ (.head _)).1
      · rw [hr]
        exact (hM.row _ (.head _)).2
theorem T.prows_calls (l : List (Value × List Int)) (hn : l.length ≤ 255) (hb : ∀ p ∈ l, p.2.length ≤ 65535) (v : Value) (w : World) (hS : T.RwsAt w v l) : Calls Tryz.prog 46 #[v] w (T.EG 5 1 (T.rowsB (l.map (·.2))).length (T.u8s (T.rowsB (l.map (·.2)))) w) := by
  have hM := T.Mem.start w
  have HS := Aside0.mk hS
  clear hS
  generalize hP : T.EG 5 1 (T.rowsB (l.map (·.2))).length (T.u8s (T.rowsB (l.map (·.2)))) w = Post
  go_enter Tryz.func46, Tryz.ntmps46
  repeat' (first | (go_at_call 87; refine (T.rows_calls l hn hb _ _ (HS.out.kept hM.below)).mono ?_; rintro _ wr ⟨v, rfl, ho, h1, hbc⟩; (obtain ⟨Ag, cg, rfl⟩ := T.own_slice ho); replace hM := hM.callG hbc ho h1; clear hbc ho h1) | (go_at_call 45; refine (T.must_calls _).mono ?_; rintro _ _ ⟨rfl, hbc⟩; replace hM := hM.call hbc; clear hbc) | (go_step) | go_back | ((fail_if_success (with_reducible show T.Seq _ _ _ _ _ _ _)); (fail_if_success (with_reducible show T.OW _ _ _ _ _ _)); simp only [Int.not_lt, Int.not_le] at *; go_simp))
  subst hP
  exact hM.eg List.mem_cons_self
end Go.Proofs.YtdklknfgcepcbaaGreat.X
