/- Texts of this proof, laid together by wip/tools/pack.py: TL4, TL5, TL6. -/
import Derived.Test.YtdklknfgcepcbaaGreatZ28
namespace Go.Proofs.YtdklknfgcepcbaaGreat.X
open Go.RowKit Go.Proofs.YtdklknfgcepcbaaGreatW.PrintWords Go.Proofs.YtdklknfgcepcbaaGreatW.PrintLast Go.Proofs.YtdklknfgcepcbaaGreatW.PrintMore
set_option linter.unusedSimpArgs false
set_option linter.unusedVariables false
set_option maxHeartbeats 2000000
set_option maxRecDepth 20000
theorem T.sort0i_calls (A : Option Addr) (c : Nat) (fv : Value) (w : World) : Calls Tryz.prog 216 #[.slice A 0 c, .int .i64 0, .int .i64 0, fv] w (T.E (.tuple #[]) w) := by
  have hM := T.Mem.start w
  generalize hP : T.E (.tuple #[]) w = Post
  go_enter Tryz.func216, Tryz.ntmps216
  repeat' (((go_step)))
  refine T.wp_rounds 1 ?_
  unfold T.rounds
  repeat' (first | (go_step) | ((fail_if_success (with_reducible show T.Seq _ _ _ _ _ _ _)); (fail_if_success (with_reducible show T.OW _ _ _ _ _ _)); simp only [Int.not_lt, Int.not_le] at *; go_simp))
  (refine bodyPost_ret (results_none rfl _ _ _) rfl ?_)
  subst hP
  exact ⟨rfl, hM.below⟩
theorem T.sort0p_calls (A : Option Addr) (c : Nat) (lim : Int) (fv : Value) (w : World) : Calls Tryz.prog 210 #[.slice A 0 c, .int .i64 0, .int .i64 0, .int .i64 lim, fv] w (T.E (.tuple #[]) w) := by
  have hM := T.Mem.start w
  generalize hP : T.E (.tuple #[]) w = Post
  go_enter Tryz.func210, Tryz.ntmps210
  repeat' (((go_step)))
  refine T.wp_rounds 1 ?_
  unfold T.rounds
  repeat' (first | (go_at_call 216; refine (T.sort0i_calls _ _ _ _).mono ?_; rintro _ _ ⟨rfl, hbc⟩; replace hM := hM.call hbc; clear hbc) | (go_step) | ((fail_if_success (with_reducible show T.Seq _ _ _ _ _ _ _)); (fail_if_success (with_reducible show T.OW _ _ _ _ _ _)); simp only [Int.not_lt, Int.not_le] at *; go_simp))
  (refine bodyPost_ret (results_none rfl _ _ _) rfl ?_)
  subst hP
  exact ⟨rfl, hM.below⟩
theorem T.sort0_calls (A : Option Addr) (c : Nat) (fv : Value) (w : World) : Calls Tryz.prog 188 #[.slice A 0 c, fv] w (T.E (.tuple #[]) w) := by
  have hM := T.Mem.start w
  generalize hP : T.E (.tuple #[]) w = Post
  go_enter Tryz.func188, Tryz.ntmps188
  repeat' (first | (go_at_call 149; refine (T.len_calls 0 (by decide) (by decide) _).mono ?_; rintro _ _ ⟨rfl, hbc⟩; replace hM := hM.call hbc; clear hbc) | (go_at_call 210; refine (T.sort0p_calls _ _ _ _ _).mono ?_; rintro _ _ ⟨rfl, hbc⟩; replace hM := hM.call hbc; clear hbc) | (go_step) | ((fail_if_success (with_reducible show T.Seq _ _ _ _ _ _ _)); (fail_if_success (with_reducible show T.OW _ _ _ _ _ _)); simp only [Int.not_lt, Int.not_le] at *; go_simp))
  (refine bodyPost_ret (results_none rfl _ _ _) rfl ?_)
  subst hP
  exact ⟨rfl, hM.below⟩
structure T.CoinK where
  c : T.CoinV
  k : c.ok
instance : Inhabited T.CoinK := ⟨⟨⟨⟨T.z32, 0⟩, ⟨0, 0⟩⟩, rfl⟩⟩
def T.CoinK.cells (c : T.CoinK) : List Value := c.1.cells
theorem T.flat_list {S : Type} [Inhabited S] (enc : S → List Value) (k : Nat) (hk : ∀ x, (enc x).length = k) (h0 : 0 < k) (d : Array S) : (Sort.flatK enc k d).toList = T.rc enc d.toList := by
  have hl : (T.rc enc d.toList).length = d.size * k := by rw [T.rc_len (fun x _ => hk x)]; simp
  apply List.ext_getElem
  · simp [hl]
  · intro t h1 h2
    have ht : t < d.size * k := by simpa using h1
    have hi : t / k < d.size := Nat.div_lt_of_lt_mul (by rwa [Nat.mul_comm] at ht)
    have hi2 : t / k < d.toList.length := by simpa using hi
    have hr := T.rc_at (enc := enc) (k := k) (l := d.toList) (fun x _ => hk x) (t / k) hi2
    have hm : t % k < k := Nat.mod_lt _ h0
    have hd : t / k * k + t % k = t := by rw [Nat.mul_comm]; exact Nat.div_add_mod t k
    have e1 : (T.rc enc d.toList)[t]? = (enc d.toList[t / k])[t % k]? := by
      rw [← hr, List.getElem?_take_of_lt hm, List.getElem?_drop, hd]
    have e2 : (Sort.flatK enc k d)[t]! = (enc d[t / k]!)[t % k]! := Sort.get_flatK enc k d t ht
    rw [getElem!_pos _ t (by simpa using h1), getElem!_pos d _ hi, getElem!_pos _ _ (by rw [hk]; exact hm)] at e2
    rw [List.getElem?_eq_getElem h2, List.getElem?_eq_getElem (by rw [hk]; exact hm)] at e1
    rw [Array.getElem_toList, e2]
    simpa using (Option.some.inj e1).symm
theorem T.sort_mem {w0 w : World} {L : List T.Blk} {F : Option Nat} {e : TypeId} (g : Nat) (A A' R : List Value) {S : Type} [Inhabited S] (enc : S → List Value) (k : Nat) (d : Array S) (hA : (Sort.flatK enc k d).toList = A') (hl : A'.length = A.length) (n : Nat) (os : Array Obj)
    (hM : T.Mem w0 F w (.b g e (A ++ R) :: L)) : T.Mem w0 F (sortWorldK enc k w g 0 n d os) (.b g e (A' ++ R) :: L) := by
  have hrow : w.heap[g]? = some (.cells (A ++ R).toArray e) := hM.row _ List.mem_cons_self
  have hlt := (Array.getElem?_eq_some_iff.1 hrow).1
  have hh : ∀ b, b < w.heap.size → (sortWorldK enc k w g 0 n d os).heap[b]? = if g = b then some (.cells (A' ++ R).toArray e) else w.heap[b]? := by
    intro b hb
    have e1 : (sortWorldK enc k w g 0 n d os).heap[b]? = (Sort.mapBlock (Sort.ahead w n) g (Sort.putCells id 0 (Sort.flatK enc k d))).heap[b]? := by
      show ((Sort.mapBlock (Sort.ahead w n) g (Sort.putCells id 0 (Sort.flatK enc k d))).heap ++ os)[b]? = _
      rw [Array.getElem?_append_left]
      show b < (w.heap.modify g _).size
      rw [Array.size_modify]
      exact hb
    rw [e1]
    show (w.heap.modify g _)[b]? = _
    rw [Array.getElem?_modify]
    by_cases hgb : g = b
    · subst hgb
      rw [if_pos rfl, if_pos rfl, hrow]
      show some (Obj.cells (Sort.putCells id 0 (Sort.flatK enc k d) (A ++ R).toArray) e (0, 0)) = _
      congr 2
      apply Array.ext'
      unfold Sort.putCells
      have hs : (Sort.flatK enc k d).size = A.length := by rw [← hl, ← hA]; simp
      apply List.ext_getElem?
      intro t
      simp only [Array.getElem?_toList, Array.getElem?_mapIdx, List.getElem?_toArray, Nat.zero_le, true_and, Nat.zero_add, hs, Nat.sub_zero, id]
      by_cases ht : t < A.length
      · have h2 : t < (A ++ R).length := by simp; omega
        have h3 : t < A'.length := by omega
        rw [List.getElem?_eq_getElem h2, Option.map_some, if_pos ht, List.getElem?_append_left h3, List.getElem?_eq_getElem h3]
        have : (Sort.flatK enc k d)[t]! = A'[t] := by
          have h4 : t < (Sort.flatK enc k d).size := by rw [hs]; exact ht
          rw [getElem!_pos _ t h4]
          simp [← hA]
        rw [this]
      · rw [List.getElem?_append_right (by omega), List.getElem?_append_right (by omega), hl]
        cases R[t - A.length]? with
        | none => rfl
        | some x => simp [if_neg ht]
    · rw [if_neg hgb, if_neg hgb]
  refine hM.turn (.head _) (y := .b g e (A' ++ R)) ⟨rfl, rfl, rfl, ?_, fun b hb hn => ?_⟩ ?_ (fun k hk => .inl hk)
  · show w.heap.size ≤ ((Sort.mapBlock (Sort.ahead w n) g (Sort.putCells id 0 (Sort.flatK enc k d))).heap ++ os).size
    rw [Array.size_append]
    show w.heap.size ≤ (w.heap.modify g _).size + _
    rw [Array.size_modify]
    omega
  · rw [hh b hb, if_neg (fun e => hn (by rw [e]; rfl))]
  · show (sortWorldK enc k w g 0 n d os).heap[g]? = _
    rw [hh g hlt, if_pos rfl]
theorem T.pord_if (a b : T.InV) : T.pord a b = if T.bcmp a.tx b.tx = 0 then T.icmp a.i b.i else T.bcmp a.tx b.tx := by
  unfold T.pord
  rw [T.or, T.or, T.or]
  by_cases h : T.icmp a.i b.i = 0
  · rw [if_pos h, h]
  · rw [if_neg h]
theorem T.pord_lt (a b : T.InV) : T.pord a b < 0 ↔ Lib.compareBytes (T.toBA .empty a.tx).data.toList (T.toBA .empty b.tx).data.toList < 0 ∨ (Lib.compareBytes (T.toBA .empty a.tx).data.toList (T.toBA .empty b.tx).data.toList = 0 ∧ a.i < b.i) := by
  unfold T.pord T.bcmp T.icmp
  rw [Lib.cmp_eq, T.or, T.or, T.or]
  generalize Lib.compareBytes _ _ = c
  by_cases h : c = 0
  · subst h
    rcases Int.lt_trichotomy a.i b.i with k | k | k
    · simp [k]
    · simp [k]
    · have k1 : ¬ a.i < b.i := by omega
      simp [k, k1]
  · simp [h]
theorem T.pord_swo : Sort.SWO (ltOf fun (x y : T.CoinK) => T.pord x.1.inp y.1.inp) :=
  T.swo_of (fun x => (T.toBA .empty x.1.inp.tx).data.toList) (fun x => x.1.inp.i) _ (fun x y => T.pord_lt x.1.inp y.1.inp)
theorem T.sort_calls {w0 w : World} {L : List T.Blk} (v : Value) (n : Nat) (l : List T.CoinV) (kl : ∀ x ∈ l, x.ok) (hn : l.length = n) (hb : n ≤ 200000000) (hM : T.Mem w0 none w (.g v 234 35 n (T.rc T.CoinV.cells l) :: L)) :
    Calls Tryz.prog 188 #[v, .func (.func 189) #[] #[]] w fun e w' => e = .returned (.tuple #[]) ∧ ∃ l' : List T.CoinV, l'.length = n ∧ (∀ x ∈ l', x.ok) ∧ T.Mem w0 none w' (.g v 234 35 n (T.rc T.CoinV.cells l') :: L) := by
  by_cases h0 : n = 0
  · subst h0
    have hl : l = [] := List.eq_nil_of_length_eq_zero hn
    subst hl
    obtain ⟨A, c, rfl, _⟩ := hM.gsl List.mem_cons_self
    refine (T.sort0_calls A c _ w).mono ?_
    rintro _ w' ⟨rfl, hbl⟩
    exact ⟨rfl, [], rfl, fun _ h => (List.not_mem_nil h).elim, hM.call hbl⟩
  · obtain ⟨g, c, rest, rfl, hnc, hcm, hlen, hlc, h1, hg0, hM⟩ := hM.open (by omega)
    have hgl : g < w.heap.size := hM.size (e := .b g _ _) List.mem_cons_self rfl
    obtain ⟨d, hd⟩ : ∃ d : Array T.CoinK, d = (l.attach.map fun x => (⟨x.1, kl x.1 x.2⟩ : T.CoinK)).toArray := ⟨_, rfl⟩
    have hds : d.size = n := by rw [hd, List.size_toArray, List.length_map, List.length_attach]; exact hn
    have hdl : T.rc T.CoinK.cells d.toList = T.rc T.CoinV.cells l := by
      rw [hd]
      simp only [T.rc, List.map_map]
      have : (l.attach.map (T.CoinK.cells ∘ fun x => (⟨x.1, kl x.1 x.2⟩ : T.CoinK))) = l.attach.map (fun x => x.1.cells) := rfl
      rw [this, List.attach_map_val (f := T.CoinV.cells)]
    have hk35 : ∀ x : T.CoinK, x.cells.length = 35 := fun x => x.1.len x.2
    have hF := T.flat_list T.CoinK.cells 35 hk35 (by decide) d
    have hrow : w.heap[g]? = some (.cells (T.rc T.CoinV.cells l ++ rest).toArray 234) := hM.row _ List.mem_cons_self
    have hH : Sort.HoldsK T.CoinK.cells 35 w g 0 d := by
      intro j hj
      have hjl : j < (T.rc T.CoinV.cells l).length := by rw [← hdl, ← hF]; simpa using hj
      refine ⟨?_, ?_⟩
      · rw [Nat.zero_add, cell_of_row w g j _ _ (0, 0) hrow, List.getElem?_toArray, List.getElem?_append_left hjl, getElem!_pos _ j hj]
        rw [← hdl, ← hF]
        simp
      · simp [World.frozen?, hrow]
    have hcmp : CmpLays Tryz.prog 189 #[] T.CoinK.cells 35 (fun x y => T.pord x.1.inp y.1.inp) g 0 d.size w := fun _ _ _ _ x y =>
      (T.made2_calls x.1 y.1 x.2 y.2 _).mono fun _ _ h => ⟨h.1.trans (by show _ = Ending.returned (.int .i64 (T.pord x.1.inp y.1.inp)); rw [T.pord_if]), h.2⟩
    have hc := AnyQ.slices_SortFunc Tryz.sort188A 35 (fun w => Tryz.isAgg234 w) (fun w => T.size_run (T.TN.out (ty := 234)) w) T.CoinK.cells hk35 (fun x => x.1.ones) (fun x y => T.pord x.1.inp y.1.inp) T.pord_swo 189 #[] g 0 c d w (fun args w => by go_simp) hcmp hH hgl (by omega)
    rw [hds] at hc
    refine hc.mono ?_
    rintro _ w' ⟨rfl, d', m, os, hp, _, rfl⟩
    have hd's : d'.size = n := hp.1.trans hds
    have hF' := T.flat_list T.CoinK.cells 35 hk35 (by decide) d'
    have hrc : T.rc T.CoinK.cells d'.toList = T.rc T.CoinV.cells (d'.toList.map (·.1)) := by
      unfold T.rc
      rw [List.map_map]
      rfl
    have hll : (T.rc T.CoinV.cells (d'.toList.map (·.1))).length = n * 35 := by
      rw [← hrc, T.rc_len (k := 35) (fun x _ => hk35 x)]
      simp [hd's]
    have hM' := T.sort_mem g _ (T.rc T.CoinV.cells (d'.toList.map (·.1))) rest T.CoinK.cells 35 d' (by rw [hF', hrc]) (by rw [hll, hlen]) m os hM
    refine ⟨rfl, d'.toList.map (·.1), by simpa using hd's, fun x hx => ?_, hM'.shut (by rcases hg0 with h | h; exact h; cases h) hnc hcm hll ?_ (T.rc_ones (fun y _ => y.ones))⟩
    · obtain ⟨y, _, rfl⟩ := List.mem_map.1 hx
      exact y.2
    · rw [List.length_append, hll, ← hlen, ← List.length_append]
      exact hlc
def T.WMade (w0 : World) (L : List T.Blk) (k : Nat) (e : Ending) (w' : World) : Prop := ∃ v' l' err, e = .returned (.tuple #[v', .int .i64 err]) ∧ (∀ x ∈ l', x.ok) ∧ l'.length ≤ k ∧ T.Mem w0 none w' (.g v' 234 35 l'.length (T.rc T.CoinV.cells l') :: L)
theorem T.made_calls {w0 w : World} {L : List T.Blk} (v : Value) (n : Nat) (l : List T.CoinV) (kl : ∀ x ∈ l, x.ok) (hn : l.length = n) (hb : n ≤ 100000000) (t : T.TxV) (ht : t.At w0) (hM : T.Mem w0 none w (.g v 234 35 n (T.rc T.CoinV.cells l) :: L)) :
    Calls Tryz.prog 155 #[v, .agg t.cells.toArray] w (T.WMade w0 L (n + 1000000)) := by
  have HT := Aside0.mk ht
  obtain ⟨iv, ov, ins, outs⟩ := t
  obtain ⟨Ao, co, hv, _, _, _⟩ := id ht.so
  simp only at hv
  subst hv
  obtain ⟨A, c, rfl, _⟩ := hM.gsl List.mem_cons_self
  have HO := Aside0.mk (show outs.length ≤ 1000000 from ht.no)
  have HSO := Aside0.mk (show T.Sl w0 (.slice Ao outs.length co) outs.length (T.rc T.OutV.cells outs) from ht.so)
  have HN := Aside0.mk hn
  have HB := Aside0.mk hb
  have HK := Aside0.mk kl
  clear ht hn hb kl
  generalize hP : T.WMade w0 L (n + 1000000) = Post
  have hz32 : (T.u8s T.z32).length = 32 := by rw [encs_length]; rfl
  go_enter Tryz.func155, Tryz.ntmps155
  repeat' (first | (go_at_call 94; refine (T.cid_calls _ _ (HT.out.kept hM.below)).mono ?_; rintro _ _ ⟨id, hid, rfl, hbc⟩; replace hM := hM.call hbc; clear hbc; have hidl : (T.u8s id).length = 32 := (by rw [encs_length]; exact hid)) | (go_at_call 186; refine (T.hasCoin_calls l HK.out (by rw [HN.out]; exact Nat.le_trans HB.out (by decide)) id hid _ _ _ (by rw [HN.out]; exact hM.gsl T.Fg.out) (T.range_all hM T.Fd.out)).mono ?_; rintro _ _ ⟨rb, rfl, hbc⟩; replace hM := hM.call hbc; clear hbc; cases rb) | ((((((with_reducible show wpList _ _ _ _ _ _); (refine T.w_o rfl ?_)))); first | ((with_reducible show T.OW _ ⟨_, .load _ _, _, _, _, _⟩ _ _ _ _); first | (refine T.ofx (T.x_load rfl rfl T.Fd.out T.TS.out rfl hM) ?_) | (refine T.ofx (T.x_loadAll rfl rfl T.Fd.out T.TU.out T.TN.out (by ((rfl))) hM) ?_)) | ((with_reducible show T.OW _ ⟨_, .store _ _ _, _, _, _, _⟩ _ _ _ _); ((refine T.op_storeAll _ _ _ rfl _ rfl _ rfl _ _ hM (by (repeat ((exact T.Sub.head _)))) _ T.TN.out (by ((with_reducible assumption))) (by ((exact T.ones_encs _ _))) (by ((with_reducible assumption))) ?_; clear hM; intro wld hM))) | ((with_reducible show T.OW _ ⟨_, .alloc _, _, _, _, _⟩ _ _ _ _); refine T.op_alloc _ rfl _ T.TZ.out hM ?_; clear hM; intro blk wld hM hlt) | ((with_reducible show T.OW _ ⟨_, .box _ _, _, _, _, _⟩ _ _ _ _); refine T.op_box _ _ rfl _ rfl hM ?_; clear hM; intro blk wld hM hlt)); (try simp only [Act.put, List.setIfInBounds_toArray, List.set_cons_zero, List.set_cons_succ])) | (go_step) | go_back | ((fail_if_success (with_reducible show T.Seq _ _ _ _ _ _ _)); (fail_if_success (with_reducible show T.OW _ _ _ _ _ _)); simp only [Int.not_lt, Int.not_le] at *; go_simp))
  · obtain ⟨b3, rfl⟩ := T.n2 hM
    obtain ⟨b6, rfl⟩ := T.n1 hM
    go_loopg [0, 17] (outs.length + 1) (fun kq v0 v17 Wd => ∃ (i : Nat) (m : List T.CoinV), v17 = .int .i64 i ∧ i ≤ outs.length ∧ outs.length - i < kq ∧ m.length = n + i ∧ (∀ x ∈ m, x.ok) ∧ Aside0 (T.Mem w0 none Wd (.b b6 44 (T.u8s id) :: .b b3 95 [iv, .slice Ao outs.length co] :: .g v0 234 35 (n + i) (T.rc T.CoinV.cells m) :: L)))
    case atStart => exact ⟨0, l, rfl, by omega, by omega, HN.out, HK.out, ⟨hM⟩⟩
    case round =>
      clear hM
      obtain ⟨i, m, rfl, hi, hg, hml, hmk, hMo⟩ := hrel
      have hM := hMo.out
      clear hMo
      have HML := Aside0.mk hml
      have HMK := Aside0.mk hmk
      clear hml hmk
      by_cases hlt : i < outs.length
      · have hltz : (i : Int) < (outs.length : Int) := by omega
        have cb : decide ((i : Int) < (outs.length : Int)) = true := decide_eq_true hltz
        have hi0 : (0 : Int) ≤ (i : Int) := by omega
        obtain ⟨b, o, rfl⟩ := HSO.out.adr (by omega)
        have H1 := Aside0.mk (T.rc_at (enc := T.OutV.cells) (k := 2) (fun _ _ => rfl) i hlt)
        generalize outs[i] = x at *
        have hx2 : x.cells.length = 2 := rfl
        have hxo := x.ones
        have hns : ∀ v ∈ (T.u8s id ++ [Value.int .i64 (i : Int)] ++ x.cells), v.oneCell' = true := T.ones_app (T.ones_app (T.ones_encs _ _) (T.one_ones rfl)) hxo
        have hnl : (T.u8s id ++ [Value.int .i64 (i : Int)] ++ x.cells).length = 35 := by rw [List.length_append, List.length_append, hidl, hx2]; rfl
        have hOb := HO.out
        have hNb := HB.out
        repeat' (first | ((((((with_reducible show wpList _ _ _ _ _ _); (refine T.w_o rfl ?_)))); first | ((with_reducible show T.OW _ ⟨_, .load _ _, _, _, _, _⟩ _ _ _ _); first | (refine T.ofx (T.x_slRow rfl rfl (hM.slin HSO.out) T.TU.out T.TN.out H1.out hx2) ?_) | (refine T.ofx (T.x_loadAll rfl rfl T.Fd.out T.TU.out T.TN.out (by ((with_reducible assumption))) hM) ?_)) | ((with_reducible show T.OW _ ⟨_, .store _ _ _, _, _, _, _⟩ _ _ _ _); ((refine T.op_storeAll _ _ _ rfl _ rfl _ rfl _ _ hM (by (repeat ((exact T.Sub.head _)))) _ T.TN.out (by ((with_reducible assumption))) (by ((with_reducible assumption))) (by ((rfl))) ?_; clear hM; intro wld hM))) | ((with_reducible show T.OW _ ⟨_, .alloc _, _, _, _, _⟩ _ _ _ _); refine T.op_alloc _ rfl _ T.TZ.out hM ?_; clear hM; intro blk wld hM hlt) | ((with_reducible show T.OW _ ⟨_, .call ⟨.builtin .append, _, _⟩, _, _, _, _⟩ _ _ _ _); refine T.op_app _ _ _ rfl _ _ _ T.TE.out _ _ _ rfl _ _ _ hM (fun _ => by (repeat (first | exact T.Sub.head _ | apply T.Sub.tail))) (by (exact T.Mem.slB hM T.Fd.out (by ((with_reducible assumption))) (by decide))) (by ((with_reducible assumption))) (by decide) (by decide) (by ((omega))) ?_; clear hM; intro gsv wld hM) | ((with_reducible show T.OW _ ⟨_, .buildSlice _ _ _, _, _, _, _⟩ _ _ _ _); refine T.op_buildSl _ _ _ rfl _ T.TL.out _ T.TN.out _ T.TZ.out rfl (by decide) (by decide) _ rfl (by (((simp [T.okp, Value.cells, Act.eval, *]; done)))) _ rfl hM ?_; (try simp only [List.map_toArray, List.map_cons, List.map_nil, Act.eval, Array.getD_eq_getD_getElem?, List.toList_toArray, List.getElem?_toArray, List.getElem?_cons_zero, List.getElem?_cons_succ, Option.getD_some, T.segs, List.replicate_succ, List.replicate_zero, List.set_cons_zero, List.set_cons_succ, Value.cells, List.flatten_cons, List.flatten_nil, List.append_nil, List.cons_append, List.nil_append]); clear hM; intro blk wld hM hlt) | ((with_reducible show T.OW _ ⟨_, .build _ _, _, _, _, _⟩ _ _ _ _); ((refine T.ofx (T.x_build rfl inferInstance rfl (by (((simp [T.okp, Value.cells, Act.eval, *]; done)))) rfl) ?_; (try simp only [List.map_toArray, List.map_cons, List.map_nil, Act.eval, Array.getD_eq_getD_getElem?, List.toList_toArray, List.getElem?_toArray, List.getElem?_cons_zero, List.getElem?_cons_succ, Option.getD_some, T.segs, List.replicate_succ, List.replicate_zero, List.set_cons_zero, List.set_cons_succ, Value.cells, List.flatten_cons, List.flatten_nil, List.append_nil, List.cons_append, List.nil_append]))))); (try simp only [Act.put, List.setIfInBounds_toArray, List.set_cons_zero, List.set_cons_succ])) | (go_step))
        go_roundg (outs.length - i)
        case measure => omega
        case rel =>
          refine ⟨i + 1, m ++ [⟨⟨id, i⟩, x⟩], (by (go_num)), by omega, by omega, ?_, ?_, ⟨?_⟩⟩
          · rw [List.length_append, HML.out]; rfl
          · intro y hy
            rcases List.mem_append.1 hy with hy | hy
            · exact HMK.out y hy
            · rw [List.mem_singleton.1 hy]
              exact hid
          · rw [T.rc_app, T.rc_one]
            exact hM.drop (by (repeat (first | exact List.Sublist.refl _ | apply List.Sublist.cons)))
      · have hiN : i = outs.length := by omega
        have hltz : ¬ (i : Int) < (outs.length : Int) := by omega
        have cb : decide ((i : Int) < (outs.length : Int)) = false := decide_eq_false hltz
        repeat' (first | (go_at_call 188; refine (T.sort_calls (L := L) _ _ m HMK.out HML.out (by have := HO.out; have := HB.out; omega) (hM.drop (by (repeat (first | exact List.Sublist.refl _ | apply List.Sublist.cons))))).mono ?_; rintro _ w2 ⟨rfl, m2, hm2, km2, hM2⟩; clear hM; have hM := hM2; clear hM2) | (go_step) | go_back | ((fail_if_success (with_reducible show T.Seq _ _ _ _ _ _ _)); (fail_if_success (with_reducible show T.OW _ _ _ _ _ _)); simp only [Int.not_lt, Int.not_le] at *; go_simp))
        subst hP
        have hm3 : m2.length ≤ n + 1000000 := by rw [hm2]; have := HO.out; omega
        refine ⟨_, m2, 0, rfl, km2, hm3, ?_⟩
        rw [hm2]
        exact hM
  · subst hP
    exact ⟨_, [], 10, rfl, fun _ h => (List.not_mem_nil h).elim, Nat.zero_le _, (hM.nil 234 35).drop (by (repeat (first | exact List.Sublist.refl _ | apply List.Sublist.cons_cons | apply List.Sublist.cons)))⟩
def T.WSpend (w : World) (e : Ending) (w' : World) : Prop := ∃ v l left err, e = .returned (.tuple #[v, .int .i64 left, .int .i64 err]) ∧ T.OwnC w v l w' ∧ l.length ≤ 1000000 ∧ Below w.heap.size w w'
theorem T.WFailS.spend {p : List T.CoinV} (hn : p.length ≤ 1000000) {err : Int} {w0 w : World} {L : List T.Blk} (hM : T.Mem w0 none w L) {e : Ending} {w' : World} (h : T.WFailS p err w e w') : ∃ v, e = .returned (.tuple #[v, .int .i64 0, .int .i64 err]) ∧ T.Mem w0 none w' (.g v 234 35 p.length (T.rc T.CoinV.cells p) :: L) := by
  obtain ⟨v, rfl, ⟨ho, _⟩, hb⟩ := h
  exact ⟨v, rfl, hM.callG hb ho (T.rc_ones (fun y _ => y.ones))⟩
theorem T.spend_of {w w' : World} {L : List T.Blk} {v : Value} {l : List T.CoinV} {n : Nat} (hl : l.length = n) (kl : ∀ x ∈ l, x.ok) (hn : l.length ≤ 1000000) (left err : Int) (hM : T.Mem w none w' L) (hm : .g v 234 35 n (T.rc T.CoinV.cells l) ∈ L) : T.WSpend w (.returned (.tuple #[v, .int .i64 left, .int .i64 err])) w' := by
  subst hl
  exact ⟨v, l, left, err, rfl, ⟨(hM.row _ hm).1, kl⟩, hn, hM.below⟩
theorem T.split_at {α : Type} {l : List α} {i : Nat} (h : i < l.length) : ∃ a y b, l = a ++ y :: b ∧ a.length = i :=
  ⟨l.take i, l[i], l.drop (i + 1), by simp, by rw [List.length_take]; omega⟩
theorem T.mid_at {A Y B : List Value} {i j : Nat} (hA : A.length = i) (hj : j < Y.length) : (A ++ (Y ++ B))[i + j]? = Y[j]? := by
  rw [List.getElem?_append_right (by omega), hA, Nat.add_sub_cancel_left, List.getElem?_append_left hj]
theorem T.three (e : Int) (n : Nat) : (e = 0 ∧ n ≤ 48 ∧ decide (48 < (n : Int)) = false ∧ decide (48 < n) = false) ∨ (e = 0 ∧ decide (48 < (n : Int)) = true ∧ decide (48 < n) = true) ∨ ((e == 0) = false ∧ decide (e = 0) = false) := by
  by_cases h : e = 0
  · by_cases k : n ≤ 48
    · exact .inl ⟨h, k, decide_eq_false (by omega), decide_eq_false (by omega)⟩
    · exact .inr (.inl ⟨h, decide_eq_true (by omega), decide_eq_true (by omega)⟩)
  · exact .inr (.inr ⟨beq_eq_false_iff_ne.2 h, decide_eq_false h⟩)
theorem T.own0 {w0 w : World} {L : List T.Blk} {g n c e sz : Nat} {xs : List Value} (hM : T.Mem w0 none w L) (hm : .g (.slice (some ⟨g, 0, none⟩) n c) e sz n xs ∈ L) : w0.heap.size ≤ g := by
  rcases hM.own _ hm g rfl with h | h
  · exact h
  · cases h
theorem T.spend_calls (p : List T.CoinV) (kp : ∀ x ∈ p, x.ok) (hn : p.length ≤ 1000000) (v : Value) (t : T.TxV) (w : World) (hS : T.Sl w v p.length (T.rc T.CoinV.cells p)) (ht : t.At w) : Calls Tryz.prog 153 #[v, .agg t.cells.toArray] w (T.WSpend w) := by
  have hM := T.Mem.start w
  obtain ⟨A, cc, hv, _, _, _⟩ := id hS
  subst hv
  have HT := Aside0.mk ht
  obtain ⟨iv, ov, ins, outs⟩ := t
  obtain ⟨Ai, ci, hv, _, _, _⟩ := id ht.si
  simp only at hv
  subst hv
  have HI := Aside0.mk (show ins.length ≤ 1000000 from ht.ni)
  have HSI := Aside0.mk (show T.Sl w (.slice Ai ins.length ci) ins.length (T.rc T.InV.cells ins) from ht.si)
  have HKI := Aside0.mk (show ∀ x ∈ ins, x.ok from ht.ok)
  have HS := Aside0.mk hS
  have HK := Aside0.mk kp
  have HN := Aside0.mk hn
  have HLP := Aside0.mk (show (T.rc T.CoinV.cells p).length = p.length * 35 from T.rc_len (fun x hx => x.len (kp x hx)))
  clear ht hS kp hn
  generalize hP : T.WSpend w = Post
  go_enter Tryz.func153, Tryz.ntmps153
  repeat' (first | (go_at_call 152; refine (T.pmay_calls p HK.out HN.out _ _ (hM.slin HS.out)).mono ?_; rintro _ _ ⟨rb, rfl, hbc⟩; replace hM := hM.call hbc; clear hbc; cases rb) | (go_at_call 154; refine (T.cmay_calls _ _ (HT.out.kept hM.below)).mono ?_; rintro _ _ ⟨rb, rfl, hbc⟩; replace hM := hM.call hbc; clear hbc; cases rb) | (go_at_call 180; refine (T.failS_calls p HK.out (Nat.le_trans HN.out (by decide)) _ _ _ _ (T.cell_at hM T.Fd.out rfl) (hM.slin HS.out)).mono ?_; rintro _ _ hf; (obtain ⟨fv, rfl, hM2⟩ := T.WFailS.spend HN.out hM hf); clear hf hM; have hM := hM2; clear hM2) | (go_at_call 144; refine (T.cloneCoin _ _ _ _ (hM.slin HS.out) HLP.out (Nat.le_trans HN.out (by decide))).mono ?_; rintro _ wr ⟨v, rfl, ho, h1, hbc⟩; (obtain ⟨Ag, cg, rfl⟩ := T.own_slice ho); replace hM := hM.callG hbc ho h1; clear hbc ho h1) | ((((((with_reducible show wpList _ _ _ _ _ _); first | refine T.w_o rfl ?_ | ((with_reducible show wpList _ _ _ (⟨_, _, _, _, _, some _⟩ :: _) _ _); refine T.w_g rfl ?_)))); first | ((with_reducible show T.OW _ ⟨_, .load _ _, _, _, _, _⟩ _ _ _ _); first | (refine T.ofx (T.x_load rfl rfl T.Fd.out T.TS.out rfl hM) ?_) | (refine T.ofx (T.x_loadAll rfl rfl T.Fd.out T.TU.out T.TN.out (by ((rfl))) hM) ?_)) | ((with_reducible show T.OW _ ⟨_, .box _ _, _, _, _, _⟩ _ _ _ _); refine T.op_box _ _ rfl _ rfl hM ?_; clear hM; intro blk wld hM hlt; (try simp only [Act.eval, Array.getD_eq_getD_getElem?, List.getElem?_toArray, List.getElem?_cons_zero, List.getElem?_cons_succ, Option.getD_some] at hM))); (try simp only [Act.put, List.setIfInBounds_toArray, List.set_cons_zero, List.set_cons_succ])) | go_skip | go_guarded | (go_step) | ((fail_if_success (with_reducible show T.Seq _ _ _ _ _ _ _)); (fail_if_success (with_reducible show T.OW _ _ _ _ _ _)); simp only [Int.not_lt, Int.not_le] at *; go_simp))
  rotate_left 3
  · obtain ⟨b2, rfl⟩ := T.n3 hM
    obtain ⟨b3, rfl⟩ := T.n2 hM
    go_loopg [8, 9, 42] (ins.length + 1) (fun kq v8 v9 v42 Wd => ∃ (i n8 : Nat) (m : List T.CoinV) (s : Int), v42 = .int .i64 i ∧ v9 = .int .i64 s ∧ i ≤ ins.length ∧ ins.length - i < kq ∧ m.length = n8 ∧ n8 ≤ p.length ∧ (∀ x ∈ m, x.ok) ∧ Aside0 (T.Mem w none Wd [.g v8 234 35 n8 (T.rc T.CoinV.cells m), .b b3 95 [.slice Ai ins.length ci, ov], .b b2 77 [.slice A p.length cc]]))
    case atStart => exact ⟨0, p.length, p, 0, rfl, rfl, by omega, by omega, rfl, Nat.le_refl _, HK.out, ⟨hM⟩⟩
    case round =>
      clear hM
      obtain ⟨i, n8, m, s, rfl, rfl, hi, hg, hml, hmp, hmk, hMo⟩ := hrel
      have hM := hMo.out
      clear hMo
      have HML := Aside0.mk hml
      have HMP := Aside0.mk hmp
      have HMK := Aside0.mk hmk
      clear hml hmk hmp
      by_cases hlt : i < ins.length
      · have hltz : (i : Int) < (ins.length : Int) := by omega
        have cb : decide ((i : Int) < (ins.length : Int)) = true := decide_eq_true hltz
        have hi0 : (0 : Int) ≤ (i : Int) := by omega
        obtain ⟨b, o, rfl⟩ := HSI.out.adr (by omega)
        have H1 := Aside0.mk (T.rc_at (enc := T.InV.cells) (k := 33) (fun x hx => x.len (HKI.out x hx)) i hlt)
        have kx : (ins[i]).ok := HKI.out _ (List.getElem_mem hlt)
        generalize ins[i] = x at *
        have hx2 : x.cells.length = 33 := x.len kx
        have hxo := x.ones
        have hz33 : (T.u8s T.z32 ++ [Value.int .i64 0]).length = 33 := by simp [encs_length, T.z32]
        repeat' (first | (go_at_call 181; refine (T.place_calls m HMK.out x kx (by rw [HML.out]; exact Nat.le_trans HMP.out HN.out) _ _ (by rw [HML.out]; exact hM.gsl T.Fg.out)).mono ?_; rintro _ _ ⟨ri, rb, rfl, hri, hrb, hbc⟩; replace hM := hM.call hbc; clear hbc; cases rb; (case' true => ((obtain ⟨m1, y, m2, hmm, hm1⟩ := T.split_at (hrb rfl)); subst hmm; have HM1 := Aside0.mk hm1; have HRI := Aside0.mk (hrb rfl); have hn8 : 0 < n8 := (by have := HML.out; have := HRI.out; omega); (obtain ⟨g8, c8, rfl, hc8⟩ := hM.gadr (.tail _ (.head _)) hn8); have hrn : (ri : Int) < (n8 : Int) := (by have := HML.out; have := HRI.out; omega); have hr0 : (0 : Int) ≤ (ri : Int) := (by omega); have hr1 : IntKind.i64.wrap ((ri : Int) + 1) = ((ri + 1 : Nat) : Int) := (T.w64 (by omega) (by have := HML.out; have := HMP.out; have := HN.out; omega)); have hky : y.ok := HMK.out y (List.mem_append.2 (.inr List.mem_cons_self)); have hcl : (T.rc T.CoinV.cells (m1 ++ y :: m2))[ri * 35 + 33]? = some (.int .i64 y.out.v) := (by rw [T.rc_app, T.rc_cons]; exact (T.mid_at (by rw [T.rc_len (k := 35) (fun z hz => z.len (HMK.out z (List.mem_append.2 (.inl hz)))), HM1.out]) (by rw [y.len hky]; decide)).trans (y.v_at hky)); clear hri hrb hm1))) | (go_at_call 180; refine (T.failS_calls p HK.out (Nat.le_trans HN.out (by decide)) _ _ _ _ (T.cell_at hM T.Fd.out rfl) (hM.slin HS.out)).mono ?_; rintro _ _ hf; (obtain ⟨fv, rfl, hM2⟩ := T.WFailS.spend HN.out hM hf); clear hf hM; have hM := hM2; clear hM2) | (go_at_call 182; refine (T.delete_calls m1 m2 y HMK.out g8 c8 ri _ n8 HM1.out rfl HML.out.symm (Nat.le_trans (Nat.le_trans HMP.out HN.out) (by decide)) (T.own0 hM (.tail _ (.head _))) (hM.drop (L' := [.g (.slice (some ⟨g8, 0, none⟩) n8 c8) 234 35 n8 (T.rc T.CoinV.cells (m1 ++ y :: m2)), .b b3 95 [.slice (some ⟨b, o, none⟩) ins.length ci, ov], .b b2 77 [.slice A p.length cc]]) (by (repeat (first | exact List.Sublist.refl _ | apply List.Sublist.cons))))).mono ?_; rintro _ _ ⟨rfl, hM2⟩; clear hM; have hM := hM2; clear hM2) | ((((((with_reducible show wpList _ _ _ _ _ _); (refine T.w_o rfl ?_)))); first | ((with_reducible show T.OW _ ⟨_, .load _ _, _, _, _, _⟩ _ _ _ _); first | (refine T.ofx (T.x_slRow rfl rfl (hM.slin HSI.out) T.TU.out T.TN.out H1.out hx2) ?_) | (refine T.ofx (T.x_gCell rfl rfl T.Fh.out T.TS.out hcl hM) ?_) | (refine T.ofx (T.x_loadAll rfl rfl T.Fd.out T.TU.out T.TN.out (by ((with_reducible assumption))) hM) ?_)) | ((with_reducible show T.OW _ ⟨_, .store _ _ _, _, _, _, _⟩ _ _ _ _); ((refine T.op_storeAll _ _ _ rfl _ rfl _ rfl _ _ hM (by (repeat ((exact T.Sub.head _)))) _ T.TN.out (by ((with_reducible assumption))) (by ((with_reducible assumption))) (by ((with_reducible assumption))) ?_; clear hM; intro wld hM))) | ((with_reducible show T.OW _ ⟨_, .alloc _, _, _, _, _⟩ _ _ _ _); refine T.op_alloc _ rfl _ T.TZ.out hM ?_; clear hM; intro blk wld hM hlt)); (try simp only [Act.put, List.setIfInBounds_toArray, List.set_cons_zero, List.set_cons_succ])) | (go_step) | ((fail_if_success (with_reducible show T.Seq _ _ _ _ _ _ _)); (fail_if_success (with_reducible show T.OW _ _ _ _ _ _)); simp only [Int.not_lt, Int.not_le] at *; go_simp))
        · have hIb := HI.out
          go_roundg (ins.length - i)
          case measure => omega
          case rel =>
            refine ⟨i + 1, n8 - 1, m1 ++ m2, _, (by ((refine congrArg (Value.int .i64) ?_; unfold wrap64; omega))), rfl, by omega, by omega, ?_, ?_, ?_, ⟨hM⟩⟩
            · have h := HML.out
              rw [List.length_append, List.length_cons] at h
              rw [List.length_append]
              omega
            · have := HMP.out
              omega
            · intro z hz
              rcases List.mem_append.1 hz with hz | hz
              · exact HMK.out z (List.mem_append.2 (.inl hz))
              · exact HMK.out z (List.mem_append.2 (.inr (List.mem_cons_of_mem _ hz)))
        · (refine T.ret_ttt rfl rfl _ _ _ rfl rfl rfl ?_)
          subst hP
          exact T.spend_of rfl HK.out HN.out 0 _ hM List.mem_cons_self
      · have hiN : i = ins.length := by omega
        have hltz : ¬ (i : Int) < (ins.length : Int) := by omega
        have cb : decide ((i : Int) < (ins.length : Int)) = false := decide_eq_false hltz
        repeat' (first | (go_at_call 156; refine (T.outs_calls _ _ (HT.out.kept hM.below)).mono ?_; rintro _ _ ⟨jj, rfl, hbc⟩; replace hM := hM.call hbc; clear hbc) | (go_at_call 155; refine (T.made_calls _ _ m HMK.out HML.out (Nat.le_trans (Nat.le_trans HMP.out HN.out) (by decide)) _ HT.out hM).mono ?_; rintro _ w2 ⟨v15, l15, err, rfl, kl15, _, hM2⟩; clear hM; have hM := hM2; clear hM2; (obtain ⟨A5, c5, rfl, _⟩ := hM.gsl List.mem_cons_self); (rcases T.three err l15.length with ⟨rfl, hg48, q1, q2⟩ | ⟨rfl, q1, q2⟩ | ⟨q1, q2⟩)) | (go_at_call 180; refine (T.failS_calls p HK.out (Nat.le_trans HN.out (by decide)) _ _ _ _ (T.cell_at hM T.Fd.out rfl) (hM.slin HS.out)).mono ?_; rintro _ _ hf; (obtain ⟨fv, rfl, hM2⟩ := T.WFailS.spend HN.out hM hf); clear hf hM; have hM := hM2; clear hM2) | ((((((with_reducible show wpList _ _ _ _ _ _); first | refine T.w_o rfl ?_ | ((with_reducible show wpList _ _ _ (⟨_, _, _, _, _, some _⟩ :: _) _ _); refine T.w_g rfl ?_)))); (((with_reducible show T.OW _ ⟨_, .load _ _, _, _, _, _⟩ _ _ _ _); ((refine T.ofx (T.x_loadAll rfl rfl T.Fd.out T.TU.out T.TN.out (by ((rfl))) hM) ?_))))); (try simp only [Act.put, List.setIfInBounds_toArray, List.set_cons_zero, List.set_cons_succ])) | go_skip | go_guarded | (go_step) | ((fail_if_success (with_reducible show T.Seq _ _ _ _ _ _ _)); (fail_if_success (with_reducible show T.OW _ _ _ _ _ _)); simp only [Int.not_lt, Int.not_le] at *; go_simp))
        all_goals (refine T.ret_ttt rfl rfl _ _ _ rfl rfl rfl ?_)
        all_goals subst hP
        all_goals first | exact T.spend_of rfl HK.out HN.out 0 _ hM List.mem_cons_self | exact T.spend_of rfl kl15 (Nat.le_trans hg48 (by decide)) _ _ hM List.mem_cons_self
  all_goals (refine T.ret_ttt rfl rfl _ _ _ rfl rfl rfl ?_)
  all_goals subst hP
  all_goals exact T.spend_of rfl HK.out HN.out 0 _ hM List.mem_cons_self
end Go.Proofs.YtdklknfgcepcbaaGreat.X
