/- Texts of this proof, laid together by wip/tools/pack.py: TP2, TP3, TP5. -/
import Derived.Test.YtdklknfgcepcbaaGreatZ42
import Derived.Test.YtdklknfgcepcbaaGreatZ35
namespace Go.Proofs.YtdklknfgcepcbaaGreat.X
open Go.RowKit Go.Proofs.YtdklknfgcepcbaaGreatW.PrintWords Go.Proofs.YtdklknfgcepcbaaGreatW.PrintLast Go.Proofs.YtdklknfgcepcbaaGreatW.PrintMore
set_option linter.unusedSimpArgs false
set_option linter.unusedVariables false
set_option maxHeartbeats 2000000
set_option maxRecDepth 20000
def T.H2 : T.Head := T.hat (T.NX 545259519) 1
def T.two (v0 v1 : Value) : List T.BlkV := [⟨T.hfirst 545259519, v0, T.nilS, [], []⟩, ⟨T.H2, v1, T.nilS, T.L1 545259519, []⟩]
structure T.Wake : Prop where
  k : T.Second 545259519
  h : T.H2.height = 1
  e : T.L1 545259519 = [T.hid (T.hfirst 545259519)]
  f0 : (T.hfirst 545259519).fit = true
  f1 : T.H2.fit = true
  r0 : T.hread (T.hput (T.hfirst 545259519)) = T.hfirst 545259519
  r1 : T.hread (T.hput T.H2) = T.H2
  l0 : T.hlevel (T.hfirst 545259519) = 31
  z : (T.hid T.H2 == T.z32) = false
theorem T.h2_ok : T.H2.ok := T.hat_ok (T.NX 545259519) (T.hnext_ok _ _ _ (T.sum_len _) (T.tip0_okp 545259519)) 1
theorem T.l1_ok : T.okn 32 (T.L1 545259519) := T.lnext_ok _ _ (T.hlevel (T.tip0 545259519 T.nilS).b.h) (fun _ h => (List.not_mem_nil h).elim) (T.hid_len _)
theorem T.two_at (W : T.Wake) {w0 w : World} {L : List T.Blk} {v : Value} {A0 A1 : Option Addr} {c0 c1 : Nat}
    (hM : T.Mem w0 none w (.g v 56 137 2 (((T.hfirst 545259519).cells ++ [.slice A0 0 c0, T.nilS]) ++ (T.H2.cells ++ [.slice A1 (T.L1 545259519).length c1, T.nilS])) :: .g (.slice A0 0 c0) 44 32 0 [] :: .g (.slice A1 (T.L1 545259519).length c1) 44 32 (T.L1 545259519).length (T.rc T.u8s (T.L1 545259519)) :: L)) :
    T.BlksAt w v (T.two (.slice A0 0 c0) (.slice A1 (T.L1 545259519).length c1)) := by
  refine ⟨by simp [T.two], ?_, fun b hb => ?_⟩
  · have h := hM.gsl (.head _)
    have e : T.rc T.BlkV.cells (T.two (.slice A0 0 c0) (.slice A1 (T.L1 545259519).length c1)) = ((T.hfirst 545259519).cells ++ [.slice A0 0 c0, T.nilS]) ++ (T.H2.cells ++ [.slice A1 (T.L1 545259519).length c1, T.nilS]) := by
      simp [T.rc, T.two, T.BlkV.cells]
    rw [e]
    exact h
  · rcases List.mem_cons.1 hb with rfl | hb
    · exact ⟨T.hfirst_ok _, T.hfirst_nums _ W.k.h0 W.k.h1, fun _ h => (List.not_mem_nil h).elim, Nat.zero_le _, hM.gsl (.tail _ (.head _)), ⟨Nat.zero_le _, T.Sl.nil _, fun _ h => (List.not_mem_nil h).elim⟩⟩
    · obtain rfl := List.mem_singleton.1 hb
      refine ⟨T.h2_ok, W.k.kn 1 (Nat.le_refl _), T.l1_ok, ?_, hM.gsl (.tail _ (.tail _ (.head _))), ⟨Nat.zero_le _, T.Sl.nil _, fun _ h => (List.not_mem_nil h).elim⟩⟩
      show (T.L1 545259519).length ≤ 1000000
      rw [W.e]
      decide
theorem T.two_good (W : T.Wake) (v0 v1 : Value) : T.good2 (T.two v0 v1) ∧ T.rangeMK (T.two v0 v1).length 1 1 := by
  refine ⟨⟨_, _, rfl, W.k.hf, ?_, fun v => ⟨?_, rfl, rfl, rfl, rfl, W.k.yes⟩⟩, ?_⟩
  · have hb : (T.hfirst 545259519).bits = 545259519 := rfl
    simp [T.sameB, T.Head.eq_self, hb]
  · exact W.k.hh
  · exact ⟨by decide, by decide, by decide, by decide, by show (1 : Int) < ((2 : Nat) : Int); decide⟩
theorem T.pref_two : ∀ n : Fin 32, (S.prefZ [31, (n.val : Int)] 1 1).1 = [0] := by decide +kernel
theorem T.two_places (W : T.Wake) (v0 v1 : Value) : T.places (T.two v0 v1) 1 (1 : Int).toNat = [0, 1] := by
  have hb := T.hlevel_bound T.H2
  have hm : T.hlevel T.H2 ≠ -1 := by
    have : T.hmay T.H2 = true := W.k.yes
    unfold T.hmay at this
    simpa using this
  have hl : T.levels (T.two v0 v1) = [31, T.hlevel T.H2] := by
    show [T.hlevel (T.hfirst 545259519), T.hlevel T.H2] = _
    rw [W.l0]
  have hp := T.pref_two ⟨(T.hlevel T.H2).toNat, by omega⟩
  simp only at hp
  rw [Int.toNat_of_nonneg (by omega)] at hp
  unfold T.places
  rw [hl]
  show (S.prefZ [31, T.hlevel T.H2] 1 1).1 ++ T.lastK 2 1 = _
  rw [hp]
  rfl
theorem T.two_parts (W : T.Wake) {v0 v1 : Value} {ps : List T.PartV} (h : T.partsOf (T.two v0 v1) (T.places (T.two v0 v1) 1 (1 : Int).toNat) ps) : ∃ p0 p1 : T.PartV, ps = [p0, p1] ∧ p0.h = T.hfirst 545259519 ∧ p0.ids = [] ∧ p1.h = T.H2 ∧ p1.ids = T.L1 545259519 := by
  rw [T.two_places W] at h
  unfold T.partsOf at h
  match ps, h with
  | [p0, p1], h =>
    have h2 : [(p0.h, p0.ids), (p1.h, p1.ids)] = [(T.hfirst 545259519, []), (T.H2, T.L1 545259519)] := h
    simp only [List.cons.injEq, Prod.mk.injEq, and_true] at h2
    exact ⟨p0, p1, rfl, h2.1.1, h2.1.2, h2.2.1, h2.2.2⟩
  | [], h => cases h
  | [_], h => simp at h
  | _ :: _ :: _ :: _, h => simp at h
theorem T.same_two {qs : List T.PartV} {p0 p1 : T.PartV} (h : T.samePs qs [p0, p1]) : ∃ q0 q1 : T.PartV, qs = [q0, q1] ∧ q0.h = p0.h ∧ q0.ids = p0.ids ∧ q1.h = p1.h ∧ q1.ids = p1.ids := by
  unfold T.samePs at h
  match qs, h with
  | [q0, q1], h =>
    simp only [List.map_cons, List.map_nil, List.cons.injEq, Prod.mk.injEq, and_true] at h
    exact ⟨q0, q1, rfl, h.1.1, h.1.2, h.2.1, h.2.2⟩
  | [], h => simp at h
  | [_], h => simp at h
  | _ :: _ :: _ :: _, h => simp at h
structure T.Parts2 (p0 p1 : T.PartV) : Prop where
  k0 : p0.ok
  k1 : p1.ok
  h0 : p0.h = T.hfirst 545259519
  i0 : p0.ids = []
  h1 : p1.h = T.H2
  i1 : p1.ids = T.L1 545259519
theorem T.Parts2.ask {p0 p1 : T.PartV} (W : T.Wake) (q : T.Parts2 p0 p1) : T.Ask2 p0 p1 := by
  have e1 : p1.ids = [T.hid p0.h] := by rw [q.i1, W.e, q.h0]
  refine ⟨q.k0, q.k1, ?_, e1, ?_, ?_, ?_, ?_, ?_, ?_⟩
  · rw [e1]; exact Nat.le_of_ble_eq_true rfl
  · rw [q.h1, q.h0, W.h]; rfl
  · rw [q.h0]; rfl
  · rw [q.h1, q.h0]; rfl
  · rw [q.h1, q.h0]; rfl
  · rw [q.h1, q.h0]
    show T.rootF 2 _ = T.rootF ((T.L1 545259519).length + 1) ((T.L1 545259519).map T.tleaf)
    rw [W.e]
    rfl
  · rw [q.h1]; exact W.k.yes
theorem T.cut_at (x : List Int) (n : Nat) (hx : x.length = n) (h1 : 1 ≤ n) (hg : T.gets (T.put n 2) 2 = n) : 1 ≤ x.length ∧ T.gets (T.put x.length 2) 2 = x.length := by
  rw [hx]
  exact ⟨h1, hg⟩
theorem T.g176 : T.gets (T.put (176 : Nat) 2) 2 = (176 : Nat) := by decide +kernel
theorem T.g32 : T.gets (T.put (32 : Nat) 2) 2 = (32 : Nat) := by decide +kernel
theorem T.g179 : T.gets (T.put (179 : Nat) 2) 2 = (179 : Nat) := by decide +kernel
theorem T.g213 : T.gets (T.put (213 : Nat) 2) 2 = (213 : Nat) := by decide +kernel
theorem T.hfirst_cut (p : T.PartV) (k : p.h.ok) (ki : T.okn 32 p.ids) : T.cutR (T.hput p.h :: p.ids) := fun x hx => by
  rcases List.mem_cons.1 hx with rfl | hx
  · exact T.cut_at _ 176 (T.hput_len _ k) (by decide) T.g176
  · exact T.cut_at _ 32 (ki x hx) (by decide) T.g32
theorem T.Parts2.read {p0 p1 : T.PartV} (W : T.Wake) (q : T.Parts2 p0 p1) : ∀ p ∈ [p0, p1], T.readP p := fun p hp => by
  rcases List.mem_cons.1 hp with rfl | hp
  · exact ⟨q.k0.h, q.k0.n, q.k0.k, by rw [q.i0]; decide, by rw [q.h0]; exact W.r0, by rw [q.h0]; show (0 : Int) ≤ 1048576; decide, T.hfirst_cut _ q.k0.h q.k0.k⟩
  · obtain rfl := List.mem_singleton.1 hp
    exact ⟨q.k1.h, q.k1.n, q.k1.k, by rw [q.i1, W.e]; decide, by rw [q.h1]; exact W.r1, by rw [q.h1, W.h]; decide, T.hfirst_cut _ q.k1.h q.k1.k⟩
theorem T.pb1_is (p : T.PartV) (k : p.h.ok) (i : List Int) (ki : i.length = 32) : (p.ids = [] → (T.pbytes1 p).length = 179) ∧ (p.ids = [i] → (T.pbytes1 p).length = 213) := by
  have h := T.hput_len p.h k
  constructor
  · intro e
    simp [T.pbytes1, T.rowsB, e, T.blob_len, h]
  · intro e
    simp [T.pbytes1, T.rowsB, e, T.blob_len, h, ki]
theorem T.Parts2.len0 {p0 p1 : T.PartV} (q : T.Parts2 p0 p1) : (T.pbytes1 p0).length = 179 := (T.pb1_is p0 q.k0.h T.z32 rfl).1 q.i0
theorem T.Parts2.len1 {p0 p1 : T.PartV} (W : T.Wake) (q : T.Parts2 p0 p1) : (T.pbytes1 p1).length = 213 := (T.pb1_is p1 q.k1.h _ (T.hid_len _)).2 (by rw [q.i1, W.e])
theorem T.Parts2.cut {p0 p1 : T.PartV} (W : T.Wake) (q : T.Parts2 p0 p1) : T.cutR ([p0, p1].map T.pbytes1) := fun x hx => by
  rcases List.mem_cons.1 hx with rfl | hx
  · exact T.cut_at _ 179 q.len0 (by decide) T.g179
  · obtain rfl := List.mem_singleton.1 hx
    exact T.cut_at _ 213 (q.len1 W) (by decide) T.g213
theorem T.Parts2.fit {p0 p1 : T.PartV} (W : T.Wake) (q : T.Parts2 p0 p1) : T.pfit 1 1 [p0, p1] := ⟨by decide, by decide, by decide, by decide, by simp, fun p hp => by
  rcases List.mem_cons.1 hp with rfl | hp
  · rw [q.i0]; decide
  · obtain rfl := List.mem_singleton.1 hp
    rw [q.i1, W.e]; decide⟩
theorem T.Parts2.fits {p0 p1 : T.PartV} (W : T.Wake) (q : T.Parts2 p0 p1) : ∀ p ∈ [p0, p1], p.h.fit = true := fun p hp => by
  rcases List.mem_cons.1 hp with rfl | hp
  · rw [q.h0]; exact W.f0
  · obtain rfl := List.mem_singleton.1 hp
    rw [q.h1]; exact W.f1
theorem T.Parts2.bytes {p0 p1 : T.PartV} (W : T.Wake) (q : T.Parts2 p0 p1) : (T.pbytes 1 1 [p0, p1]).length = 399 := by
  simp [T.pbytes, T.rowsB, T.blob_len, q.len0, q.len1 W]
theorem T.ps2_at {w0 w : World} {L : List T.Blk} {v : Value} {p0 p1 : T.PartV} (h0 : p0.ok) (h1 : p1.ok) (hm : T.Mem w0 none w L) (a : .g v 53 136 2 (T.rc T.PartV.cells [p0, p1]) ∈ L) (b0 : p0.item ∈ L) (b1 : p1.item ∈ L) : T.PsAt w v [p0, p1] :=
  ⟨hm.gsl a, fun p hp => by
    rcases List.mem_cons.1 hp with rfl | hp
    · exact h0
    · obtain rfl := List.mem_singleton.1 hp; exact h1, fun p hp => by
    rcases List.mem_cons.1 hp with rfl | hp
    · exact hm.gsl b0
    · obtain rfl := List.mem_singleton.1 hp; exact hm.gsl b1⟩
theorem T.awake_calls (W : T.Wake) (w : World) : Calls Tryz.prog 4 #[] w (T.E (.bool true) w) := by
  have hM := T.Mem.start w
  have HW := Aside0.mk W
  have hz3 : [Value.int .i64 0, Value.int .i64 0, T.nilS].length = 3 := rfl
  have hh2 := T.H2.len T.h2_ok
  have k2 := T.h2_ok
  have n2 : T.H2.nums := W.k.kn 1 (Nat.le_refl _)
  have hid2 := T.hid_len T.H2
  have hzi : (T.hid T.H2 == T.z32) = false := W.z
  have hz : T.H2.eq T.H2 = true := T.Head.eq_self _
  have hz0 : (T.u8s T.z32).length = 32 := rfl
  have HB1 := Aside0.mk (fun (v0 v1 : Value) => show ((((T.hfirst 545259519).cells ++ [v0, T.nilS]) ++ (T.H2.cells ++ [v1, T.nilS])).drop 137).take 135 = T.H2.cells by
    have e : ((T.hfirst 545259519).cells ++ [v0, T.nilS]).length = 137 := by rw [List.length_append, (T.hfirst 545259519).len (T.hfirst_ok _)]; rfl
    rw [← e, List.drop_left, ← hh2, List.take_left])
  clear W
  generalize hP : T.E (.bool true) w = Post
  go_enter Tryz.func4, Tryz.ntmps4
  repeat' (first | ((with_reducible show Code.wp _ (Code.region 5 _ true) _ _ _); refine T.mregion 5 (.p 0 (.p 1 (.p 2 (.p 3 (.p 4 (.p 5 (.p 6 (.p 7 (.p 8 (.t 9 (.a 10 (.p 11 (.p 12 (.p 13 (.p 14 (.t 15 (.p 16 (.p 17 (.p 18 (.p 19 (.p 20 (.p 21 (.p 22 (.p 23 (.p 24 (.p 25 (.t 26 (.p 27 (.p 28 (.t 29 (.p 30 (.p 31 (.p 32 (.t 33 (.p 34 (.p 35 (.p 36 (.p 37 (.p 38 (.p 39 (.t 40 (.p 42 (.a 41 (.p 43 (.p 44 (.p 45 .nil)))))))))))))))))))))))))))))))))))))))))))))) 1000 (by kernel_rfl) (fun _ _ _ _ h => h) hM (List.Sublist.refl _) ?_; clear hM; intro wld hM; (try simp only [List.size_toArray, List.length_cons, List.length_nil, Nat.reduceAdd])) | (go_at_call 10; refine (T.two_calls HW.out.k _).mono ?_; rintro _ w2 ⟨v, rfl, A0, A1, c0, c1, hM2⟩; (obtain ⟨Av, cv, rfl, _⟩ := hM2.gsl (.head _)); (obtain ⟨bv, ov, rfl⟩ := (hM2.gsl (.head _)).adr (by decide)); replace hM := hM.join hM2; clear hM2; simp only [List.append_nil] at hM) | (go_at_call 6; refine (T.build_calls (T.two _ _) _ 1 1 _ (T.two_at HW.out hM)).mono ?_; rintro _ w3 (⟨err, hne, rfl, hbc, hnc⟩ | ⟨hg, hr, A, c, ps, rfl, hpo, hpk, hM2⟩); (case inl => exact (hnc (T.two_good HW.out _ _)).elim); (obtain ⟨p0, p1, rfl, g1, g2, g3, g4⟩ := T.two_parts HW.out hpo); have HP2 := Aside0.mk (T.Parts2.mk (hpk p0 (.head _)) (hpk p1 (.tail _ (.head _))) g1 g2 g3 g4); replace hM := hM.join hM2; clear hM2 hg hr hpo hpk g1 g2 g3 g4; simp only [List.map_cons, List.map_nil, List.cons_append, List.nil_append] at hM) | (go_at_call 11; refine (T.pput_calls 1 1 [p0, p1] A 2 c rfl (HP2.out.fit HW.out) _ (T.ps2_at HP2.out.k0 HP2.out.k1 hM (by (repeat (first | exact List.Mem.head _ | apply List.Mem.tail))) (by (repeat (first | exact List.Mem.head _ | apply List.Mem.tail))) (by (repeat (first | exact List.Mem.head _ | apply List.Mem.tail)))) (HP2.out.fits HW.out)).mono ?_; rintro _ wr ⟨v, rfl, ho, h1, hbc⟩; rw [HP2.out.bytes HW.out] at ho; (obtain ⟨Ag, cg, rfl⟩ := T.own_slice ho); replace hM := hM.callG hbc ho h1; clear hbc ho h1; (obtain ⟨bg, og, rfl⟩ := (hM.gsl (.head _)).adr (by decide))) | (go_at_call 12; refine (T.pReadc_calls 1 1 [p0, p1] 2 rfl (HP2.out.fit HW.out) (HP2.out.read HW.out) (HP2.out.cut HW.out) bg og 399 cg (HP2.out.bytes HW.out) (by decide) _ (hM.gsl (.head _))).mono ?_; rintro _ w4 ⟨A4, c4, qs, rfl, hq, hk, hM2⟩; (obtain ⟨q0, q1, rfl, g1, g2, g3, g4⟩ := T.same_two hq); have HQ2 := Aside0.mk (T.Parts2.mk (hk q0 (.head _)) (hk q1 (.tail _ (.head _))) (g1.trans HP2.out.h0) (g2.trans HP2.out.i0) (g3.trans HP2.out.h1) (g4.trans HP2.out.i1)); (obtain ⟨bq, oq, rfl⟩ := (hM2.gsl (.head _)).adr (Nat.succ_pos _)); replace hM := hM.join hM2; clear hM2 hq hk g1 g2 g3 g4; simp only [List.map_cons, List.map_nil, List.cons_append, List.nil_append] at hM; have HQH := Aside0.mk (show ((T.rc T.PartV.cells [q0, q1]).drop 136).take 135 = T.H2.cells from (T.ask_h1 (HQ2.out.ask HW.out)).trans (congrArg T.Head.cells HQ2.out.h1))) | (go_at_call 13; refine (T.ckcheck_calls 545259519 HW.out.k.h0 HW.out.k.h1 HW.out.k.hf q0 q1 (HQ2.out.ask HW.out) HQ2.out.h0 HQ2.out.i0 _ c4 _ (T.ps2_at HQ2.out.k0 HQ2.out.k1 hM (by (repeat (first | exact List.Mem.head _ | apply List.Mem.tail))) (by (repeat (first | exact List.Mem.head _ | apply List.Mem.tail))) (by (repeat (first | exact List.Mem.head _ | apply List.Mem.tail))))).mono ?_; rintro _ _ ⟨rfl, hbc⟩; replace hM := hM.call hbc; clear hbc) | (go_at_call 14; refine (T.hid_calls _ k2 n2 _).mono ?_; rintro _ _ ⟨rfl, hbc⟩; replace hM := hM.call hbc; clear hbc hz; have hz := hzi) | ((with_reducible show T.Seq _ _ _ (.a _ _) _ _ _); ((refine T.sq_ag rfl rfl (fun K hK => ?_)))) | ((with_reducible show T.Seq _ _ _ (.p 43 _) _ _ _); apply T.sq_p rfl rfl; (focus intro wS; exact T.x_neq (m := T.z32) rfl inferInstance rfl rfl hid2 rfl); (try simp only [Act.put, List.setIfInBounds_toArray, List.set_cons_zero, List.set_cons_succ]); (try simp only [hz])) | (((first | ((with_reducible show wpList _ _ _ _ _ _); (refine T.w_o rfl ?_)) | (with_reducible show T.OW _ _ _ _ _ _)); first | ((with_reducible show T.OW _ ⟨_, .load _ _, _, _, _, _⟩ _ _ _ _); ((refine T.ofx (T.x_loadAll rfl rfl T.Fd.out T.TU.out T.TN.out (by ((rfl))) hM) ?_))) | ((with_reducible show T.OW _ ⟨_, .store _ _ _, _, _, _, _⟩ _ _ _ _); ((refine T.op_storeAll _ _ _ rfl _ rfl _ rfl _ _ hM (by (repeat ((exact T.Sub.head _)))) _ T.TN.out (by ((rfl))) (by ((exact T.ones_all rfl))) (by ((with_reducible assumption))) ?_; clear hM; intro wld hM))) | ((with_reducible show T.OW _ ⟨_, .alloc _, _, _, _, _⟩ _ _ _ _); refine T.op_alloc _ rfl _ T.TZ.out hM ?_; clear hM; intro blk wld hM hlt)); (try simp only [Act.put, List.setIfInBounds_toArray, List.set_cons_zero, List.set_cons_succ])) | ((with_reducible show T.Seq _ _ _ _ _ _ _); first | ((with_reducible show T.Seq _ _ _ (.p _ _) _ _ _); ((apply T.sq_p rfl rfl; (focus intro wS; first | ((with_reducible show Sem.run _ (execOp _ ⟨_, .binOp .eql _ _ _ _, _, _, _, _⟩) _ = _); (exact T.x_eqlHead rfl rfl rfl (by with_reducible assumption) (by with_reducible assumption))) | (go_simp; with_reducible rfl)); (try simp only [Act.put, List.setIfInBounds_toArray, List.set_cons_zero, List.set_cons_succ]); (try simp only [hz])))) | ((with_reducible show T.Seq _ _ _ (.t _ _) _ _ _); ((apply T.sq_t rfl rfl; (focus intro wS hS; first | exact T.x_slRow (o := oq) (j := 136) rfl rfl (hS.gsl (by (repeat (first | exact List.Mem.head _ | apply List.Mem.tail)))) T.TU.out T.TN.out HQH.out hh2 | exact T.x_slRow (o := ov) (j := 137) rfl rfl (hS.gsl (by (repeat (first | exact List.Mem.head _ | apply List.Mem.tail)))) T.TU.out T.TN.out (HB1.out _ _) hh2 | exact T.x_load rfl rfl T.Fd.out T.TS.out rfl hS | exact T.x_loadAll rfl rfl T.Fd.out T.TU.out T.TN.out (by ((rfl))) hS); (try simp only [Act.put, List.setIfInBounds_toArray, List.set_cons_zero, List.set_cons_succ])))) | ((with_reducible show T.Seq _ _ _ .nil _ _ _); refine T.sq_nil ?_)) | (go_at_K; refine hK.out _ _ _ hM (by (repeat ((exact List.Sublist.refl _)))) ?_; clear hK K) | ((with_reducible show T.OW _ ⟨_, .call _, _, _, _, _⟩ _ _ _ _); refine T.OW.mk ?_; go_simp) | (go_step) | go_back | ((fail_if_success (with_reducible show T.Seq _ _ _ _ _ _ _)); (fail_if_success (with_reducible show T.OW _ _ _ _ _ _)); simp only [Int.not_lt, Int.not_le] at *; go_simp))
  all_goals subst hP
  all_goals exact ⟨rfl, hM.below⟩
theorem S.upZ_len (l : List Int) (fr hi n : Int) : (S.upZ l fr hi n).length ≤ l.length := S.upFrom_len _ _ _ _ _
def Z.just (l : List Int) (i hi n : Int) : List Int := (S.upZ l i hi n).filter fun x => decide (rd l x = n)
theorem Z.just_mem {l : List Int} {i hi n x : Int} : x ∈ Z.just l i hi n ↔ 0 ≤ x ∧ x < l.length ∧ i ≤ x ∧ x < hi ∧ rd l x = n := by
  unfold Z.just
  rw [List.mem_filter, S.upZ_mem, decide_eq_true_eq]
  constructor
  · rintro ⟨⟨a, b, c, d, _⟩, f⟩; exact ⟨a, b, c, d, f⟩
  · rintro ⟨a, b, c, d, f⟩; exact ⟨⟨a, b, c, d, by omega⟩, f⟩
theorem Z.just_up (l : List Int) (i hi n : Int) : S.Up (Z.just l i hi n) := S.up_filter (S.upZ_up _ _ _ _) _
theorem Z.just_end {l : List Int} {i hi n : Int} (h : hi ≤ i) : Z.just l i hi n = [] := List.eq_nil_iff_forall_not_mem.2 fun x hx => by
  have := Z.just_mem.1 hx
  omega
theorem Z.just_has {l : List Int} {i hi n : Int} (h0 : 0 ≤ i) (h1 : i < l.length) (h2 : i < hi) (h3 : rd l i = n) : Z.just l i hi n = i :: Z.just l (i + 1) hi n := by
  refine S.up_ext (Z.just_up _ _ _ _) (List.Pairwise.cons (fun x hx => ?_) (Z.just_up _ _ _ _)) fun x => ?_
  · have := Z.just_mem.1 hx; omega
  · rw [List.mem_cons, Z.just_mem, Z.just_mem]
    constructor
    · rintro ⟨a, b, c, d, f⟩
      by_cases e : x = i
      · exact .inl e
      · exact .inr ⟨a, b, by omega, d, f⟩
    · rintro (rfl | ⟨a, b, c, d, f⟩)
      · exact ⟨h0, h1, by omega, h2, h3⟩
      · exact ⟨a, b, by omega, d, f⟩
theorem Z.just_skip {l : List Int} {i hi n : Int} (h3 : rd l i ≠ n) : Z.just l i hi n = Z.just l (i + 1) hi n := by
  refine S.up_ext (Z.just_up _ _ _ _) (Z.just_up _ _ _ _) fun x => ?_
  rw [Z.just_mem, Z.just_mem]
  constructor
  · rintro ⟨a, b, c, d, f⟩
    refine ⟨a, b, ?_, d, f⟩
    by_cases e : x = i
    · subst e; exact absurd f h3
    · omega
  · rintro ⟨a, b, c, d, f⟩; exact ⟨a, b, by omega, d, f⟩
theorem Z.taken {l : List Int} {m p n : Int} (_h : S.okB l m p = true) (hn : 0 ≤ n) : ((S.takenL l m p).filter fun x => decide (rd l x = n)) = Z.just l (S.fromZ l m p n) ((l.length : Int) - p) n := by
  refine S.up_ext (S.up_filter (S.takenL_up _ _ _) _) (Z.just_up _ _ _ _) fun x => ?_
  rw [List.mem_filter, S.takenL_mem, Z.just_mem, decide_eq_true_eq]
  constructor
  · rintro ⟨⟨a, b, c, d, e⟩, f⟩
    rw [f] at e
    exact ⟨a, b, e, c, f⟩
  · rintro ⟨a, b, e, c, f⟩
    exact ⟨⟨a, b, c, by omega, by rw [f]; exact e⟩, f⟩
def Z.cnt (v : List Int) (n : Int) : Nat := (v.filter fun y => decide (y = n)).length
theorem Z.cnt_snoc (v : List Int) (n x : Int) : Z.cnt (v ++ [x]) n = Z.cnt v n + (if x = n then 1 else 0) := by
  unfold Z.cnt
  rw [List.filter_append, List.length_append]
  by_cases h : x = n <;> simp [h]
theorem Z.cnt_take (v : List Int) (n : Int) (i : Nat) (h : i < v.length) : Z.cnt (v.take (i + 1)) n = Z.cnt (v.take i) n + (if v[i] = n then 1 else 0) := by
  rw [List.take_succ_eq_append_getElem h, Z.cnt_snoc]
theorem Z.cnt_drop (v : List Int) (n : Int) (f i : Nat) (h : i < v.length) (hf : f ≤ i) : Z.cnt ((v.take (i + 1)).drop f) n = Z.cnt ((v.take i).drop f) n + (if v[i] = n then 1 else 0) := by
  rw [List.take_succ_eq_append_getElem h, List.drop_append_of_le_length (by rw [List.length_take]; omega), Z.cnt_snoc]
theorem Z.just_cnt (v : List Int) (n : Int) (hi : Nat) (hh : hi ≤ v.length) : ∀ (d i : Nat), hi - i = d → (Z.just v i hi n).length = Z.cnt ((v.take hi).drop i) n
  | 0, i, hd => by
    rw [Z.just_end (by omega), List.drop_of_length_le (by rw [List.length_take]; omega)]
    rfl
  | d + 1, i, hd => by
    have hl : i < (v.take hi).length := by rw [List.length_take]; omega
    have ih := Z.just_cnt v n hi hh d (i + 1) (by omega)
    rw [List.drop_eq_getElem_cons hl, List.getElem_take]
    have hr : rd v (i : Int) = v[i] := rd_get (by omega)
    have hc : ((i : Int) + 1) = ((i + 1 : Nat) : Int) := by omega
    by_cases e : rd v (i : Int) = n
    · rw [Z.just_has (by omega) (by omega) (by omega) e, List.length_cons, hc, ih]
      unfold Z.cnt
      rw [List.filter_cons_of_pos (by rw [← hr]; simpa using e), List.length_cons]
    · rw [Z.just_skip e, hc, ih]
      unfold Z.cnt
      rw [List.filter_cons_of_neg (by rw [← hr]; simpa using e)]
theorem Z.may (l : List T.BlkV) (h : T.goodL l) (hn : l.length ≤ 50) : S.mayB (T.levels l) = true := by
  obtain ⟨b0, r, rfl, ht, hs, hm⟩ := h
  have h0 : b0.h = T.hfirst b0.h.bits := by
    unfold T.sameB at hs
    rw [Bool.and_eq_true] at hs
    have e := hs.1
    generalize T.hfirst b0.h.bits = g at e
    revert e
    cases b0.h
    cases g
    intro e
    simp only [T.Head.eq, Bool.and_eq_true, beq_iff_eq] at e
    obtain ⟨h1, h2, h3, h4, h5, h6, h7, h8⟩ := e
    subst h1 h2 h3 h4 h5 h6 h7 h8
    rfl
  have hl : T.hlevel b0.h = 31 := by
    rw [h0]
    unfold T.hlevel
    rw [show (T.hfirst b0.h.bits).bits = b0.h.bits from rfl, ht, show (T.hfirst b0.h.bits).fit = true from rfl, Bool.and_self, if_pos rfl, if_pos (show (T.hfirst b0.h.bits).height = 0 from rfl)]
  have hodd : ∀ x ∈ T.levels (b0 :: r), S.oddB x = false := fun x hx => by
    obtain ⟨b, hb, rfl⟩ := List.mem_map.1 hx
    have hbd := T.hlevel_bound b.h
    have h1 : T.hlevel b.h ≠ -1 := by
      rcases List.mem_cons.1 hb with rfl | hb
      · rw [hl]; decide
      · have := hm b hb
        unfold T.hmay at this
        simpa using this
    unfold S.oddB
    rw [decide_eq_false_iff_not]
    omega
  unfold S.mayB
  rw [T.levels_len]
  have e1 : rd (T.levels (b0 :: r)) 0 = 31 := by
    show rd (T.hlevel b0.h :: _) 0 = 31
    rw [rd_cons_zero, hl]
  rw [e1]
  have e2 : (T.levels (b0 :: r)).any S.oddB = false := by
    rw [List.any_eq_false]
    intro x hx
    rw [hodd x hx]
    decide
  rw [e2]
  simp only [List.length_cons] at hn ⊢
  simp
  omega
theorem Z.law (l : List T.BlkV) (m k : Int) (n : Int) (h : T.goodL l) (hn : l.length ≤ 50) (hr : T.rangeMK l.length m k) (n0 : 0 ≤ n) (n1 : n ≤ 31) (ps : List T.PartV) (hp : T.partsOf l (T.places l m k.toNat) ps) (f : Nat)
    (hf : S.mthLast (S.upZ (T.levels l) 0 (((l.length - k.toNat : Nat)) : Int) (n + 1)) m = f) :
    ps.length = (S.prefZ (T.levels l) m k).1.length + k.toNat ∧ Z.cnt ((T.plevels ps).take (ps.length - k.toNat)) n = Z.cnt (((T.levels l).take (l.length - k.toNat)).drop f) n := by
  obtain ⟨r1, r2, r3, r4, r5⟩ := hr
  obtain ⟨q, rfl⟩ : ∃ q : Nat, k = q := ⟨k.toNat, by omega⟩
  rw [Int.toNat_natCast] at *
  have hlen := T.levels_len l
  have hok : S.okB (T.levels l) m q = true := by
    unfold S.okB
    rw [Z.may l h hn, hlen]
    simp
    omega
  have e1 : (((T.levels l).length : Int) - (q : Int)) = ((l.length - q : Nat) : Int) := by rw [hlen]; omega
  have hfz : S.fromZ (T.levels l) m q n = f := by rw [S.fromZ_is hok n1, e1, hf]
  have hpr : (S.prefZ (T.levels l) m q).1 = S.takenL (T.levels l) m q := by unfold S.prefZ; rw [if_pos hok]
  have hpl : T.places l m q = S.takenL (T.levels l) m q ++ T.lastK l.length q := by unfold T.places; rw [hpr]
  have hps : ps.length = (S.takenL (T.levels l) m q).length + q := by
    have := congrArg List.length hp
    rw [List.length_map, List.length_map, hpl, List.length_append, T.lastK_len] at this
    exact this
  have hlv : T.plevels ps = (T.places l m q).map fun x => rd (T.levels l) x := by
    have h1 : T.plevels ps = (ps.map fun p => (p.h, p.ids)).map fun y => T.hlevel y.1 := by rw [List.map_map]; rfl
    rw [h1, hp, List.map_map]
    refine List.map_congr_left fun x hx => ?_
    have hx2 := T.places_in l m q (by omega) x hx
    obtain ⟨y, rfl⟩ : ∃ y : Nat, x = y := ⟨x.toNat, by omega⟩
    have hy : y < l.length := by omega
    show T.hlevel (l.getD (y : Int).toNat T.blk0).h = _
    rw [Int.toNat_natCast, rd_get (by rw [hlen]; exact hy), List.getD_eq_getElem?_getD, List.getElem?_eq_getElem hy]
    simp [T.levels]
  refine ⟨by rw [hpr]; exact hps, ?_⟩
  rw [hlv, hpl, List.map_append, hps, Nat.add_sub_cancel, List.take_append_of_le_length (by rw [List.length_map]; exact Nat.le_refl _), List.take_of_length_le (by rw [List.length_map]; exact Nat.le_refl _)]
  have ht := congrArg List.length (Z.taken hok n0)
  rw [hfz, e1, Z.just_cnt _ _ _ (by rw [hlen]; omega) _ _ rfl] at ht
  rw [← ht]
  unfold Z.cnt
  rw [List.filter_map, List.length_map]
  rfl
end Go.Proofs.YtdklknfgcepcbaaGreat.X
