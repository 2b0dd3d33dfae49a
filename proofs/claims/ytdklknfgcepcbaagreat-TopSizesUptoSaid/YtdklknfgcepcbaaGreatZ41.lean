/- Texts of this proof, laid together by wip/tools/pack.py: TO6. -/
import Derived.Test.YtdklknfgcepcbaaGreatZ40
namespace Go.Proofs.YtdklknfgcepcbaaGreat.X
open Go.RowKit Go.Proofs.YtdklknfgcepcbaaGreatW.PrintWords Go.Proofs.YtdklknfgcepcbaaGreatW.PrintLast Go.Proofs.YtdklknfgcepcbaaGreatW.PrintMore
set_option linter.unusedSimpArgs false
set_option linter.unusedVariables false
set_option maxHeartbeats 2000000
set_option maxRecDepth 20000
def T.WSplit1 (l : List (List Int)) (w : World) (e : Ending) (w' : World) : Prop :=
  ∃ (v : Value) (rws : List (Value × List Int)), e = .returned v ∧ rws.map (·.2) = l ∧ T.Mem w none w' (.g v 37 1 l.length (rws.map (·.1)) :: rws.map T.rwItem)
theorem T.psplit_calls (l : List (List Int)) (hl : T.cutR l) (n : Nat) (hn : (T.rowsB l).length = n) (hb : n ≤ 100000000) (hl5 : l.length ≤ 255) (b o c : Nat) (w : World) (hS : T.Sl w (.slice (some ⟨b, o, none⟩) n c) n (T.u8s (T.rowsB l))) :
    Calls Tryz.prog 47 #[.slice (some ⟨b, o, none⟩) n c] w (T.WSplit1 l w) := by
  have hM := T.Mem.start w
  have HS := Aside0.mk hS
  have HL := Aside0.mk hl
  have HN := Aside0.mk hn
  clear hS hl hn
  generalize hP : T.WSplit1 l w = Post
  go_enter Tryz.func47, Tryz.ntmps47
  repeat' (first | (go_at_call 88; refine (T.split_calls l HL.out n HN.out hb hl5 b o c _ (hM.slin HS.out)).mono ?_; rintro _ w2 ⟨v, rws, rfl, h1, hM2⟩; (obtain ⟨Av, cv, rfl, _⟩ := hM2.gsl (.head _)); replace hM := hM.join hM2; clear hM2; have H1 := Aside0.mk h1; clear h1; rw [List.append_nil] at hM) | (go_at_call 45; refine (T.must_calls _).mono ?_; rintro _ _ ⟨rfl, hbc⟩; replace hM := hM.call hbc; clear hbc) | (go_step) | go_back | ((fail_if_success (with_reducible show T.Seq _ _ _ _ _ _ _)); (fail_if_success (with_reducible show T.OW _ _ _ _ _ _)); simp only [Int.not_lt, Int.not_le] at *; go_simp))
  subst hP
  exact ⟨_, rws, rfl, H1.out, hM⟩
def T.samePs (qs ps : List T.PartV) : Prop := qs.map (fun p => (p.h, p.ids)) = ps.map (fun p => (p.h, p.ids))
structure T.readP (p : T.PartV) : Prop where
  h : p.h.ok
  n : p.h.nums
  k : T.okn 32 p.ids
  b : p.ids.length ≤ 32
  r : T.hread (T.hput p.h) = p.h
  t : p.h.height ≤ 1048576
  c : T.cutR (T.hput p.h :: p.ids)
theorem T.part_set (h : T.Head) (k : h.ok) (u v : Value) : (h.cells ++ [u]).take 135 ++ [v] ++ (h.cells ++ [u]).drop (135 + 1) = h.cells ++ [v] :=
  T.seg3 h.cells [u] [] _ _ _ _ _ (by rw [List.append_nil]) (h.len k) rfl (by rw [List.append_nil])
theorem T.rws_cons {r : List (Value × List Int)} {x : List Int} {l : List (List Int)} (h : r.map (·.2) = x :: l) : ∃ v0 r3, r = (v0, x) :: r3 ∧ r3.map (·.2) = l := by
  cases r with
  | nil => cases h
  | cons y r3 =>
    simp only [List.map_cons, List.cons.injEq] at h
    exact ⟨y.1, r3, by rw [← h.1], h.2⟩
theorem T.perm_up {α : Type} (x y b : α) (M L : List α) : (x :: y :: (M ++ b :: L)).Perm (b :: x :: y :: (M ++ L)) := List.perm_middle (l₁ := x :: y :: M)
theorem T.perm_swap3 {α : Type} (a b c d : α) (L : List α) : (a :: b :: c :: d :: L).Perm (d :: b :: c :: a :: L) :=
  (List.perm_middle (l₁ := [a, b, c]) (l₂ := L) (a := d)).trans (List.Perm.cons d (List.perm_middle (l₁ := [b, c]) (l₂ := L) (a := a)).symm)
theorem T.perm_last {α : Type} (a b c d : α) (R Q L : List α) : (a :: b :: c :: d :: (R ++ (Q ++ L))).Perm (b :: a :: d :: (R ++ ((Q ++ [c]) ++ L))) := by
  refine (List.Perm.swap b a _).trans (List.Perm.cons b (List.Perm.cons a ?_))
  have h := (List.perm_middle (l₁ := d :: (R ++ Q)) (l₂ := L) (a := c)).symm
  simpa [List.append_assoc] using h
theorem T.pfit_same {m k : Int} {qs ps : List T.PartV} (h : T.samePs qs ps) (hf : T.pfit m k ps) : T.pfit m k qs := by
  refine ⟨hf.m0, hf.m1, hf.k0, hf.k1, ?_, fun p hp => ?_⟩
  · have := congrArg List.length h
    simp only [List.length_map] at this
    rw [this]
    exact hf.n
  · have h1 : (p.h, p.ids) ∈ qs.map (fun p => (p.h, p.ids)) := List.mem_map_of_mem (f := fun p : T.PartV => (p.h, p.ids)) hp
    rw [h] at h1
    obtain ⟨q, hq, he⟩ := List.mem_map.1 h1
    have h2 : q.ids = p.ids := congrArg Prod.snd he
    rw [← h2]
    exact hf.l q hq
def T.rdL (bp : Nat) (m k : Int) (Aq : Option Addr) (i cq : Nat) (qs : List T.PartV) (Ar : Option Addr) (nr cr : Nat) (rws : List (Value × List Int)) (L : List T.Blk) : List T.Blk :=
  .b bp 72 [.int .i64 m, .int .i64 k, .slice Aq i cq] :: .g (.slice Aq i cq) 53 136 i (T.rc T.PartV.cells qs) :: .g (.slice Ar nr cr) 37 1 nr (rws.map (·.1)) :: (rws.map T.rwItem ++ (qs.map T.PartV.item ++ L))
theorem T.rd_ps {w0 w : World} {L : List T.Blk} {bp : Nat} {m k : Int} {Aq : Option Addr} {i cq : Nat} {qs : List T.PartV} {Ar : Option Addr} {nr cr : Nat} {rws : List (Value × List Int)} (hl : qs.length = i) (hk : ∀ p ∈ qs, p.ok) (hM : T.Mem w0 none w (T.rdL bp m k Aq i cq qs Ar nr cr rws L)) : T.PsAt w (.slice Aq i cq) qs :=
  ⟨by rw [hl]; exact hM.gsl (.tail _ (.head _)), hk, fun p hp => hM.gsl (.tail _ (.tail _ (.tail _ (List.mem_append_right _ (List.mem_append_left _ (List.mem_map_of_mem (f := T.PartV.item) hp))))))⟩
theorem T.pread_calls {w0 w : World} {L : List T.Blk} (m k : Int) (ps : List T.PartV) (np : Nat) (hnp : ps.length = np) (hf : T.pfit m k ps) (hr : ∀ p ∈ ps, T.readP p) (hc : T.cutR (ps.map T.pbytes1)) (b o n c bp : Nat) (hn : (T.pbytes m k ps).length = n) (hb : n ≤ 100000000) (hS : T.Sl w0 (.slice (some ⟨b, o, none⟩) n c) n (T.u8s (T.pbytes m k ps)))
    (hM : T.Mem w0 none w (.b bp 72 [.int .i64 0, .int .i64 0, T.nilS] :: L)) :
    Calls Tryz.prog 27 #[.pointer (some ⟨bp, 0, none⟩), .slice (some ⟨b, o, none⟩) n c] w fun e w' => e = .returned (.tuple #[]) ∧ ∃ (A : Option Addr) (c' : Nat) (qs : List T.PartV), T.samePs qs ps ∧ (∀ p ∈ qs, p.ok) ∧ T.Mem w0 none w' (.b bp 72 [.int .i64 m, .int .i64 k, .slice A np c'] :: .g (.slice A np c') 53 136 np (T.rc T.PartV.cells qs) :: (qs.map T.PartV.item ++ L)) := by
  have hcap := hS.cap
  have HS := Aside0.mk hS
  have HN := Aside0.mk hn
  have HNP := Aside0.mk hnp
  have HR := Aside0.mk hr
  have HC := Aside0.mk hc
  have HF := Aside0.mk hf
  have HRL := Aside0.mk (show (T.rowsB (ps.map T.pbytes1)).length = n - 2 by rw [← hn, T.pbytes, List.length_cons, List.length_cons]; omega)
  have hn3 : 3 ≤ n := by rw [← hn, T.pbytes, T.rowsB]; simp
  have HS2 := Aside0.mk (show T.Sl w0 (.slice (some ⟨b, o + 2, none⟩) (n - 2) (c - 2)) (n - 2) (T.u8s (T.rowsB (ps.map T.pbytes1))) by
    have h2 := hS.hi (i := 2) (k := 1)
    rw [Nat.mul_one] at h2
    rwa [T.u8s, encs, ← List.map_drop] at h2)
  have H0 := Aside0.mk (show (T.u8s (T.pbytes m k ps))[0]? = some (.int .u8 m) from rfl)
  have H1 := Aside0.mk (show (T.u8s (T.pbytes m k ps))[1]? = some (.int .u8 k) from rfl)
  have e1 : IntKind.i64.wrap m = m := T.w64 (by have := hf.m0; omega) (by have := hf.m1; omega)
  have e2 : IntKind.i64.wrap k = k := T.w64 (by have := hf.k0; omega) (by have := hf.k1; omega)
  have d1 : decide (2 < (n : Int)) = true := decide_eq_true (by omega)
  have d2 : decide (2 < n) = true := decide_eq_true (by omega)
  have i1 : (0 : Int) < (n : Int) := by omega
  have i2 : (1 : Int) < (n : Int) := by omega
  have i3 : 0 < n := by omega
  have i4 : 1 < n := by omega
  have i5 : (2 : Int) ≤ (n : Int) := by omega
  have i6 : (2 : Int) ≤ (c : Int) := by omega
  have i7 : ¬ c = 2 := by omega
  have i8 : 2 ≤ n := by omega
  have i9 : 2 ≤ c := by omega
  have HNB := Aside0.mk (show np ≤ 100 by rw [← hnp]; exact hf.n)
  clear hS hn hnp hr hc hf
  generalize hP : (fun (e : Ending) w' => e = .returned (.tuple #[]) ∧ ∃ (A : Option Addr) (c' : Nat) (qs : List T.PartV), T.samePs qs ps ∧ (∀ p ∈ qs, p.ok) ∧ T.Mem w0 none w' (.b bp 72 [.int .i64 m, .int .i64 k, .slice A np c'] :: .g (.slice A np c') 53 136 np (T.rc T.PartV.cells qs) :: (qs.map T.PartV.item ++ L))) = Post
  go_enter Tryz.func27, Tryz.ntmps27
  repeat' (first | ((with_reducible show Code.wp _ (Code.region 1 _ true) _ _ _); refine T.mregion 1 (.p 0 (.p 1 (.p 2 (.p 3 (.t 4 (.p 5 (.p 6 (.p 7 (.t 8 (.p 9 (.p 10 (.p 11 (.p 12 (.z 13 (.p 14 (.p 15 (.p 16 (.z 17 .nil)))))))))))))))))) 13 (by kernel_rfl) (fun _ _ _ _ h => h) hM (List.Sublist.refl _) ?_; clear hM; intro wld hM) | (go_at_call 45; refine (T.must_calls _).mono ?_; rintro _ _ ⟨rfl, hbc⟩; replace hM := hM.call hbc; clear hbc) | (go_at_call 47; refine (T.psplit_calls (ps.map T.pbytes1) HC.out (n - 2) HRL.out (by omega) (by rw [List.length_map, HNP.out]; have := HNB.out; omega) b (o + 2) (c - 2) _ (hM.slin HS2.out)).mono ?_; rintro _ w2 ⟨v, rws, rfl, h1, hM2⟩; (obtain ⟨Ar, cr, rfl, _⟩ := hM2.gsl (.head _)); replace hM := hM.join hM2; clear hM2; have HRW := Aside0.mk h1; clear h1) | ((with_reducible show T.OW _ ⟨_, .store 3 _ _, _, _, _, _⟩ _ _ _ _); refine T.op_store _ _ _ rfl _ 0 rfl [.int .i64 m] rfl _ [_, _, _] [_, _, _] hM (by (repeat ((exact T.Sub.head _)))) 1 T.TN.out rfl (by ((exact T.one_ones rfl))) (Nat.le_of_ble_eq_true rfl) rfl ?_; clear hM; intro wld hM; (try simp only [Act.put, List.setIfInBounds_toArray, List.set_cons_zero, List.set_cons_succ])) | ((with_reducible show T.OW _ ⟨_, .store 3 _ _, _, _, _, _⟩ _ _ _ _); refine T.op_store _ _ _ rfl _ 1 rfl [.int .i64 k] rfl _ [_, _, _] [_, _, _] hM (by (repeat ((exact T.Sub.head _)))) 1 T.TN.out rfl (by ((exact T.one_ones rfl))) (Nat.le_of_ble_eq_true rfl) rfl ?_; clear hM; intro wld hM; (try simp only [Act.put, List.setIfInBounds_toArray, List.set_cons_zero, List.set_cons_succ])) | ((with_reducible show T.Seq _ _ _ _ _ _ _); first | ((with_reducible show T.Seq _ _ _ (.p _ _) _ _ _); ((apply T.sq_p rfl rfl; (focus intro wS; ((go_simp; with_reducible rfl))); (try simp only [Act.put, List.setIfInBounds_toArray, List.set_cons_zero, List.set_cons_succ])))) | ((with_reducible show T.Seq _ _ _ (.t _ _) _ _ _); ((apply T.sq_t rfl rfl; (focus intro wS hS; first | exact T.x_slCell (o := o) (j := 0) rfl rfl (hS.slin HS.out) T.TS.out H0.out | exact T.x_slCell (o := o) (j := 1) rfl rfl (hS.slin HS.out) T.TS.out H1.out); (try simp only [Act.put, List.setIfInBounds_toArray, List.set_cons_zero, List.set_cons_succ])))) | ((with_reducible show T.Seq _ _ _ .nil _ _ _); refine T.sq_nil ?_) | ((with_reducible show T.Seq _ _ _ (.z _ _) _ _ _); refine T.sq_z rfl rfl (fun K hK => ?_))) | (go_at_K; refine hK.out _ _ _ hM ?_; clear hK K) | (go_step) | ((fail_if_success (with_reducible show T.Seq _ _ _ _ _ _ _)); (fail_if_success (with_reducible show T.OW _ _ _ _ _ _)); simp only [Int.not_lt, Int.not_le] at *; go_simp))
  have hl2 : (ps.map T.pbytes1).length = np := by rw [List.length_map, HNP.out]
  rw [hl2] at hM
  rw [HNP.out]
  clear hl2
  have hM3 : T.Mem w0 none w2 (T.rdL bp m k none 0 0 [] Ar np cr rws L) := by
    unfold T.rdL
    simp only [List.cons_append] at hM
    have hp := (hM.nil 53 136).perm (T.perm_up _ _ _ _ _)
    exact hp
  clear hM
  go_loopg [36] (np + 1) (fun kq v36 Wd => ∃ (i : Nat) (Aq : Option Addr) (cq : Nat) (qs : List T.PartV), v36 = .int .i64 i ∧ i ≤ np ∧ np - i < kq ∧ qs.length = i ∧ T.samePs qs (ps.take i) ∧ (∀ p ∈ qs, p.ok) ∧ Aside0 (T.Mem w0 none Wd (T.rdL bp m k Aq i cq qs Ar np cr rws L)))
  case atStart => exact ⟨0, none, 0, [], rfl, by omega, by omega, rfl, rfl, fun _ h => (List.not_mem_nil h).elim, ⟨hM3⟩⟩
  case round =>
    clear hM3
    obtain ⟨i, Aq, cq, qs, rfl, hi, hg, hql, hqs, hqk, hMo⟩ := hrel
    have HQL := Aside0.mk hql
    have HQS := Aside0.mk hqs
    have HQK := Aside0.mk hqk
    have hM := hMo.out
    clear hMo hql hqs hqk
    unfold T.rdL at hM
    by_cases hlt : i < np
    · have hltz : (i : Int) < (np : Int) := by omega
      have cb : decide ((i : Int) < (np : Int)) = true := decide_eq_true hltz
      have hi0 : (0 : Int) ≤ (i : Int) := by omega
      have hip : i < ps.length := by rw [HNP.out]; exact hlt
      have hrl : rws.length = ps.length := by have := congrArg List.length HRW.out; simpa using this
      have hir : i < rws.length := by rw [hrl]; exact hip
      have HTK := Aside0.mk (show ps.take (i + 1) = ps.take i ++ [ps[i]] from List.take_succ_eq_append_getElem hip)
      have HI := Aside0.mk (show (rws.map (·.1))[i]? = some (rws[i]).1 by simp [hir])
      have hr2 : (rws[i]).2 = T.pbytes1 (ps[i]) := by
        have := congrArg (·[i]?) HRW.out
        simpa [hir, hip] using this
      have hmem := List.getElem_mem hir
      have kx := HR.out _ (List.getElem_mem hip)
      have hpc := HC.out (T.pbytes1 ps[i]) (List.mem_map_of_mem (List.getElem_mem hip))
      generalize ps[i] = x at *
      generalize rws[i] = xr at *
      obtain ⟨vr, br⟩ := xr
      simp only at hr2 HI
      subst hr2
      have hvs := hM.gsl (v := vr) (n := (T.pbytes1 x).length) (xs := T.u8s (T.pbytes1 x)) (e := 5) (sz := 1) (.tail _ (.tail _ (.tail _ (List.mem_append_left _ (List.mem_map_of_mem (f := T.rwItem) hmem)))))
      obtain ⟨Ax, cx, rfl, _⟩ := id hvs
      obtain ⟨bx, ox, rfl⟩ := hvs.adr hpc.1
      clear hvs
      obtain ⟨bR, oR, rfl⟩ := (hM.gsl (v := .slice Ar np cr) (.tail _ (.tail _ (.head _)))).adr (by omega)
      have HMEM := Aside0.mk hmem
      have hxl := x.h.len kx.h
      have hxo := x.h.ones
      have hxl1 : (x.h.cells ++ [T.nilS]).length = 136 := by rw [List.length_append, hxl]; rfl
      have hxo1 : ∀ v ∈ x.h.cells ++ [T.nilS], v.oneCell' = true := T.ones_app hxo (T.ones_all rfl)
      have hz135 : T.Head.zero.cells.length = 135 := rfl
      have hz136 : (T.Head.zero.cells ++ [T.nilS]).length = 136 := rfl
      have HL176 := Aside0.mk (T.hput_len x.h kx.h)
      have HRD := Aside0.mk kx.r
      have HKX := Aside0.mk kx
      have HHH := Aside0.mk (show (T.hread (T.hput x.h)).height ≤ 1048576 by rw [kx.r]; exact kx.t)
      have HPL := Aside0.mk (show (T.pbytes1 x).length ≤ 100000000 by
        have := T.blobs_len (T.hput x.h :: x.ids) 176 (fun b hb => by
          rcases List.mem_cons.1 hb with rfl | hb
          · rw [T.hput_len _ kx.h]; omega
          · rw [kx.k b hb]; omega)
        have h2 := kx.b
        simp only [T.pbytes1, T.rowsB, List.length_cons] at this ⊢
        omega)
      have HIB := Aside0.mk (show (T.hput x.h :: x.ids).length ≤ 255 by have := kx.b; rw [List.length_cons]; omega)
      have dq : decide ((0 : Int) < ((x.ids.length + 1 : Nat) : Int)) = true := decide_eq_true (by omega)
      have dq2 : (0 : Int) < ((x.ids.length : Nat) : Int) + 1 := by omega
      have dq3 : (1 : Int) ≤ ((x.ids.length : Nat) : Int) + 1 := by omega
      clear hrl hir hip hpc kx hmem
      by_cases hids : x.ids.length = 0
      · have hxi : x.ids = [] := List.eq_nil_of_length_eq_zero hids
        have hljz : ¬ (0 : Int) < (x.ids.length : Int) := by omega
        have hlj2 : ¬ 0 < x.ids.length := by omega
        have cj : decide ((0 : Int) < (x.ids.length : Int)) = false := decide_eq_false hljz
        have HXI := Aside0.mk hxi
        clear hids hxi
        repeat' (first | (go_at_call 45; refine (T.must_calls _).mono ?_; rintro _ _ ⟨rfl, hbc⟩; replace hM := hM.call hbc; clear hbc) | (go_at_call 47; refine (T.psplit_calls (T.hput x.h :: x.ids) HKX.out.c _ rfl HPL.out HIB.out bx ox cx _ (hM.gsl (.tail _ (.tail _ (.tail _ (List.mem_append_left _ (List.mem_map_of_mem (f := T.rwItem) HMEM.out))))))).mono ?_; rintro _ w2 ⟨v, r2, rfl, h1, hM2⟩; (obtain ⟨v0, r3, rfl, h3⟩ := T.rws_cons h1); have h0s := hM2.gsl (v := v0) (n := (T.hput x.h).length) (xs := T.u8s (T.hput x.h)) (e := 5) (sz := 1) (.tail _ (.head _)); (obtain ⟨A0, c0, rfl, _⟩ := id h0s); clear h0s; simp only [List.map_cons, T.rwItem, List.length_cons] at hM2; rw [HL176.out] at hM2; (obtain ⟨A2, c2, rfl, hcc, _⟩ := hM2.gsl (.head _)); (obtain ⟨b2, o2, rfl⟩ := (hM2.gsl (.head _)).adr (Nat.succ_pos _)); replace hM := hM.join hM2; clear hM2; have HR3 := Aside0.mk h3; clear h1 h3; have dc2 : (1 : Int) ≤ (c2 : Int) := (by omega); simp only [List.cons_append] at hM; rcases Decidable.em (c2 = 1) with dc1 | dc1) | (go_at_call 48; refine (T.hread_calls (T.hput x.h) HL176.out HHH.out A0 c0 _ (hM.gsl (.tail _ (.head _)))).mono ?_; rintro _ wr ⟨rfl, hbc⟩; replace hM := hM.call hbc; clear hbc; rw [HRD.out]) | ((((((with_reducible show wpList _ _ _ _ _ _); (refine T.w_o rfl ?_)))); first | ((with_reducible show T.OW _ ⟨_, .load _ _, _, _, _, _⟩ _ _ _ _); first | (refine T.ofx (T.x_slCell (o := oR) (j := i) rfl rfl (hM.gsl (.tail _ (.tail _ (.head _)))) T.TS.out HI.out) ?_) | (refine T.ofx (T.x_slCell (o := o2) (j := 0) rfl rfl (hM.gsl (.head _)) T.TS.out rfl) ?_) | (refine T.ofx (T.x_loadAll rfl rfl T.Fd.out T.TU.out T.TN.out (by ((with_reducible assumption))) hM) ?_)) | ((with_reducible show T.OW _ ⟨_, .store _ _ _, _, _, _, _⟩ _ _ _ _); ((refine T.op_storeAll _ _ _ rfl _ rfl _ rfl _ _ hM (by (repeat ((exact T.Sub.head _)))) _ T.TN.out (by ((with_reducible assumption))) (by ((with_reducible assumption))) (by ((with_reducible assumption))) ?_; clear hM; intro wld hM))) | ((with_reducible show T.OW _ ⟨_, .alloc _, _, _, _, _⟩ _ _ _ _); refine T.op_alloc _ rfl _ T.TZ.out hM ?_; clear hM; intro blk wld hM hlt) | ((with_reducible show T.OW _ ⟨_, .build _ _, _, _, _, _⟩ _ _ _ _); ((refine T.ofx (T.x_build rfl inferInstance rfl (by (((simp [T.okp, Value.cells, Act.eval, *]; done)))) rfl) ?_; (try simp only [List.map_toArray, List.map_cons, List.map_nil, Act.eval, Array.getD_eq_getD_getElem?, List.toList_toArray, List.getElem?_toArray, List.getElem?_cons_zero, List.getElem?_cons_succ, Option.getD_some, T.segs, List.replicate_succ, List.replicate_zero, List.set_cons_zero, List.set_cons_succ, Value.cells, List.flatten_cons, List.flatten_nil, List.append_nil, List.cons_append, List.nil_append]))))); (try simp only [Act.put, List.setIfInBounds_toArray, List.set_cons_zero, List.set_cons_succ])) | (go_step) | ((fail_if_success (with_reducible show T.Seq _ _ _ _ _ _ _)); (fail_if_success (with_reducible show T.OW _ _ _ _ _ _)); simp only [Int.not_lt, Int.not_le] at *; go_simp))
        all_goals
          obtain ⟨b9, rfl⟩ := T.n1 hM
          have hM3 : T.Mem w0 none _ (.g (.slice none 0 0) 44 32 0 [] :: .b b9 53 (x.h.cells ++ [T.nilS]) :: .g (.slice (some ⟨b2, o2, none⟩) (x.ids.length + 1) c2) 37 1 (x.ids.length + 1) (.slice A0 176 c0 :: r3.map (·.1)) :: (r3.map T.rwItem ++ T.rdL bp m k Aq i cq qs (some ⟨bR, oR, none⟩) np cr rws L)) := (hM.nil 44 32).drop (.cons_cons _ (.cons_cons _ (.cons _ (.cons_cons _ (.cons _ (List.Sublist.refl _))))))
          clear hM
          have hM := hM3
          clear hM3
          refine T.wp_rounds 1 ?_
          unfold T.rounds
          unfold T.rdL at hM
          have hM4 := (hM.drop (List.Sublist.cons_cons _ (List.Sublist.cons_cons _ (List.Sublist.cons _ (List.sublist_append_right _ _))))).perm (T.perm_swap3 _ _ _ _ _)
          clear hM
          have hM := hM4
          clear hM4
          have hxl2 : ∀ v : Value, (x.h.cells ++ [v]).length = 136 := fun v => by rw [List.length_append, hxl]; rfl
          have hxo2 : ∀ v ∈ x.h.cells ++ [T.nilS], v.oneCell' = true := T.ones_app hxo (T.ones_all rfl)
          have hnb := HNB.out
          repeat' (first | ((with_reducible show Code.wp _ (Code.region 16 _ true) _ _ _); refine T.mregion 16 (.p 0 (.p 1 (.p 2 (.p 3 (.p 4 (.t 5 (.t 6 (.a 7 (.a 8 (.p 9 (.p 10 (.p 11 (.z 12 .nil))))))))))))) 12 (by kernel_rfl) (fun _ _ _ _ h => h) hM (List.Sublist.cons _ (List.Sublist.refl _)) ?_; clear hM; intro wld hM) | ((with_reducible show T.OW _ ⟨_, .call ⟨.builtin .append, _, _⟩, _, _, _, _⟩ _ _ _ _); refine T.op_app _ _ _ rfl _ _ _ T.TE.out _ _ _ rfl _ _ _ hM (fun _ => by (repeat (first | exact T.Sub.head _ | apply T.Sub.tail))) (by (exact T.Mem.slB hM T.Fd.out (by ((with_reducible assumption))) (by decide))) (by ((with_reducible assumption))) (by decide) (by decide) (by ((omega))) ?_; clear hM; intro gsv wld hM; (obtain ⟨Aw, cw, rfl, _⟩ := hM.gsl (v := gsv) (.tail _ (.head _)))) | ((with_reducible show T.OW _ ⟨_, .store 25 _ _, _, _, _, _⟩ _ _ _ _); refine T.op_store _ _ _ rfl _ 2 rfl [.slice Aw (i + 1) cw] rfl _ [_, _, _] [_, _, _] hM (by (repeat (first | exact T.Sub.head _ | apply T.Sub.tail))) 1 T.TN.out rfl (by ((exact T.one_ones rfl))) (Nat.le_of_ble_eq_true rfl) rfl ?_; clear hM; intro wld hM; (try simp only [Act.put, List.setIfInBounds_toArray, List.set_cons_zero, List.set_cons_succ])) | (((first | ((with_reducible show wpList _ _ _ _ _ _); (refine T.w_o rfl ?_)) | (with_reducible show T.OW _ _ _ _ _ _)); (((with_reducible show T.OW _ ⟨_, .buildSlice _ _ _, _, _, _, _⟩ _ _ _ _); refine T.op_buildSl _ _ _ rfl _ T.TL.out _ T.TN.out _ T.TZ.out rfl (by decide) (by decide) _ rfl (by (((simp [T.okp, Value.cells, Act.eval, *]; done)))) _ rfl hM ?_; (try simp only [List.map_toArray, List.map_cons, List.map_nil, Act.eval, Array.getD_eq_getD_getElem?, List.toList_toArray, List.getElem?_toArray, List.getElem?_cons_zero, List.getElem?_cons_succ, Option.getD_some, T.segs, List.replicate_succ, List.replicate_zero, List.set_cons_zero, List.set_cons_succ, Value.cells, List.flatten_cons, List.flatten_nil, List.append_nil, List.cons_append, List.nil_append]); clear hM; intro blk wld hM hlt))); (try simp only [Act.put, List.setIfInBounds_toArray, List.set_cons_zero, List.set_cons_succ])) | ((with_reducible show T.Seq _ _ _ _ _ _ _); first | ((with_reducible show T.Seq _ _ _ (.p _ _) _ _ _); ((apply T.sq_p rfl rfl; (focus intro wS; ((go_simp; with_reducible rfl))); (try simp only [Act.put, List.setIfInBounds_toArray, List.set_cons_zero, List.set_cons_succ])))) | ((with_reducible show T.Seq _ _ _ (.t _ _) _ _ _); ((apply T.sq_t rfl rfl; (focus intro wS hS; first | exact T.x_load rfl rfl T.Fd.out T.TS.out rfl hS | exact T.x_loadAll rfl rfl T.Fd.out T.TU.out T.TN.out (by ((with_reducible assumption))) hS); (try simp only [Act.put, List.setIfInBounds_toArray, List.set_cons_zero, List.set_cons_succ])))) | ((with_reducible show T.Seq _ _ _ .nil _ _ _); refine T.sq_nil ?_) | ((with_reducible show T.Seq _ _ _ (.a _ _) _ _ _); refine T.sq_a rfl rfl (fun K hK => ?_)) | ((with_reducible show T.Seq _ _ _ (.z _ _) _ _ _); refine T.sq_z rfl rfl (fun K hK => ?_))) | (go_at_K; refine hK.out _ _ _ (hM.drop (by (repeat (first | exact List.Sublist.refl _ | apply List.Sublist.cons)))) (List.Sublist.refl _) ?_; clear hK K; (try simp only [Act.put, List.setIfInBounds_toArray, List.set_cons_zero, List.set_cons_succ])) | (go_at_K; refine hK.out _ _ _ hM ?_; clear hK K) | (go_step) | ((fail_if_success (with_reducible show T.Seq _ _ _ _ _ _ _)); (fail_if_success (with_reducible show T.OW _ _ _ _ _ _)); simp only [Int.not_lt, Int.not_le] at *; go_simp))
          go_roundg (np - i)
          case measure => omega
          case rel =>
            refine ⟨i + 1, Aw, cw, qs ++ [⟨x.h, T.nilS, x.ids⟩], (by (go_num)), by omega, by omega, by rw [List.length_append, HQL.out]; rfl, ?_, ?_, ⟨?_⟩⟩
            · have h := HQS.out
              unfold T.samePs at h ⊢
              rw [HTK.out, List.map_append, List.map_append, h]
              rfl
            · intro z hz
              rcases List.mem_append.1 hz with hz | hz
              · exact HQK.out z hz
              · rw [List.mem_singleton.1 hz]
                exact ⟨HKX.out.h, HKX.out.n, HKX.out.k, by have := HKX.out.b; show x.ids.length ≤ 1000000; omega, rfl⟩
            · unfold T.rdL
              rw [T.rc_app, T.rc_one, List.map_append, show ([(⟨x.h, T.nilS, x.ids⟩ : T.PartV)].map T.PartV.item) = [T.Blk.g T.nilS 44 32 0 []] by rw [HXI.out]; rfl]
              exact (hM.drop (List.Sublist.cons _ (List.Sublist.cons_cons _ (List.Sublist.cons _ (List.Sublist.refl _))))).perm (T.perm_last _ _ _ _ _ _ _)
      · repeat' (first | (go_at_call 45; refine (T.must_calls _).mono ?_; rintro _ _ ⟨rfl, hbc⟩; replace hM := hM.call hbc; clear hbc) | (go_at_call 47; refine (T.psplit_calls (T.hput x.h :: x.ids) HKX.out.c _ rfl HPL.out HIB.out bx ox cx _ (hM.gsl (.tail _ (.tail _ (.tail _ (List.mem_append_left _ (List.mem_map_of_mem (f := T.rwItem) HMEM.out))))))).mono ?_; rintro _ w2 ⟨v, r2, rfl, h1, hM2⟩; (obtain ⟨v0, r3, rfl, h3⟩ := T.rws_cons h1); have h0s := hM2.gsl (v := v0) (n := (T.hput x.h).length) (xs := T.u8s (T.hput x.h)) (e := 5) (sz := 1) (.tail _ (.head _)); (obtain ⟨A0, c0, rfl, _⟩ := id h0s); clear h0s; simp only [List.map_cons, T.rwItem, List.length_cons] at hM2; rw [HL176.out] at hM2; (obtain ⟨A2, c2, rfl, hcc, _⟩ := hM2.gsl (.head _)); (obtain ⟨b2, o2, rfl⟩ := (hM2.gsl (.head _)).adr (Nat.succ_pos _)); replace hM := hM.join hM2; clear hM2; have HR3 := Aside0.mk h3; clear h1 h3; have dc1 : ¬ c2 = 1 := (by omega); have dc2 : (1 : Int) ≤ (c2 : Int) := (by omega); simp only [List.cons_append] at hM) | (go_at_call 48; refine (T.hread_calls (T.hput x.h) HL176.out HHH.out A0 c0 _ (hM.gsl (.tail _ (.head _)))).mono ?_; rintro _ wr ⟨rfl, hbc⟩; replace hM := hM.call hbc; clear hbc; rw [HRD.out]) | ((((((with_reducible show wpList _ _ _ _ _ _); (refine T.w_o rfl ?_)))); first | ((with_reducible show T.OW _ ⟨_, .load _ _, _, _, _, _⟩ _ _ _ _); first | (refine T.ofx (T.x_slCell (o := oR) (j := i) rfl rfl (hM.gsl (.tail _ (.tail _ (.head _)))) T.TS.out HI.out) ?_) | (refine T.ofx (T.x_slCell (o := o2) (j := 0) rfl rfl (hM.gsl (.head _)) T.TS.out rfl) ?_) | (refine T.ofx (T.x_loadAll rfl rfl T.Fd.out T.TU.out T.TN.out (by ((with_reducible assumption))) hM) ?_)) | ((with_reducible show T.OW _ ⟨_, .store _ _ _, _, _, _, _⟩ _ _ _ _); ((refine T.op_storeAll _ _ _ rfl _ rfl _ rfl _ _ hM (by (repeat ((exact T.Sub.head _)))) _ T.TN.out (by ((with_reducible assumption))) (by ((with_reducible assumption))) (by ((with_reducible assumption))) ?_; clear hM; intro wld hM))) | ((with_reducible show T.OW _ ⟨_, .alloc _, _, _, _, _⟩ _ _ _ _); refine T.op_alloc _ rfl _ T.TZ.out hM ?_; clear hM; intro blk wld hM hlt) | ((with_reducible show T.OW _ ⟨_, .build _ _, _, _, _, _⟩ _ _ _ _); ((refine T.ofx (T.x_build rfl inferInstance rfl (by (((simp [T.okp, Value.cells, Act.eval, *]; done)))) rfl) ?_; (try simp only [List.map_toArray, List.map_cons, List.map_nil, Act.eval, Array.getD_eq_getD_getElem?, List.toList_toArray, List.getElem?_toArray, List.getElem?_cons_zero, List.getElem?_cons_succ, Option.getD_some, T.segs, List.replicate_succ, List.replicate_zero, List.set_cons_zero, List.set_cons_succ, Value.cells, List.flatten_cons, List.flatten_nil, List.append_nil, List.cons_append, List.nil_append]))))); (try simp only [Act.put, List.setIfInBounds_toArray, List.set_cons_zero, List.set_cons_succ])) | (go_step) | ((fail_if_success (with_reducible show T.Seq _ _ _ _ _ _ _)); (fail_if_success (with_reducible show T.OW _ _ _ _ _ _)); simp only [Int.not_lt, Int.not_le] at *; go_simp))
        obtain ⟨b9, rfl⟩ := T.n1 hM
        have hM3 : T.Mem w0 none _ (.g (.slice none 0 0) 44 32 0 [] :: .b b9 53 (x.h.cells ++ [T.nilS]) :: .g (.slice (some ⟨b2, o2, none⟩) (x.ids.length + 1) c2) 37 1 (x.ids.length + 1) (.slice A0 176 c0 :: r3.map (·.1)) :: (r3.map T.rwItem ++ T.rdL bp m k Aq i cq qs (some ⟨bR, oR, none⟩) np cr rws L)) := (hM.nil 44 32).drop (.cons_cons _ (.cons_cons _ (.cons _ (.cons_cons _ (.cons _ (List.Sublist.refl _))))))
        clear hM
        go_loopg [60] (x.ids.length + 1) (fun kq v60 Wd => ∃ (j : Nat) (Al : Option Addr) (cl : Nat), v60 = .int .i64 j ∧ j ≤ x.ids.length ∧ x.ids.length - j < kq ∧ Aside0 (T.Mem w0 none Wd (.g (.slice Al j cl) 44 32 j (T.rc T.u8s (x.ids.take j)) :: .b b9 53 (x.h.cells ++ [.slice Al j cl]) :: .g (.slice (some ⟨b2, o2, none⟩) (x.ids.length + 1) c2) 37 1 (x.ids.length + 1) (.slice A0 176 c0 :: r3.map (·.1)) :: (r3.map T.rwItem ++ T.rdL bp m k Aq i cq qs (some ⟨bR, oR, none⟩) np cr rws L))))
        case atStart => exact ⟨0, none, 0, rfl, by omega, by omega, ⟨hM3⟩⟩
        case round =>
          clear hM3
          obtain ⟨j, Al, cl, rfl, hj, hgj, hMo⟩ := hrel
          have hM := hMo.out
          clear hMo
          by_cases hlj : j < x.ids.length
          · have hljz : (j : Int) < (x.ids.length : Int) := by omega
            have cj : decide ((j : Int) < (x.ids.length : Int)) = true := decide_eq_true hljz
            have hj0 : (0 : Int) ≤ (j : Int) := by omega
            have hrl3 : r3.length = x.ids.length := by have := congrArg List.length HR3.out; simpa using this
            have hjr : j < r3.length := by rw [hrl3]; exact hlj
            have HTJ := Aside0.mk (show x.ids.take (j + 1) = x.ids.take j ++ [x.ids[j]] from List.take_succ_eq_append_getElem hlj)
            have HJ := Aside0.mk (show (Value.slice A0 176 c0 :: r3.map (·.1))[1 + j]? = some (r3[j]).1 by rw [Nat.add_comm]; simp [hjr])
            have hy2 : (r3[j]).2 = x.ids[j] := by
              have := congrArg (·[j]?) HR3.out
              simpa [hjr, hlj] using this
            have hmem3 := List.getElem_mem hjr
            have hy32 := HKX.out.k _ (List.getElem_mem hlj)
            generalize x.ids[j] = y at *
            generalize r3[j] = yr at *
            obtain ⟨vy, y0⟩ := yr
            simp only at hy2 HJ
            subst hy2
            have hvs := hM.gsl (v := vy) (n := y0.length) (xs := T.u8s y0) (e := 5) (sz := 1) (.tail _ (.tail _ (.tail _ (List.mem_append_left _ (List.mem_map_of_mem (f := T.rwItem) hmem3)))))
            rw [hy32] at hvs
            obtain ⟨Ay, cy, rfl, _⟩ := id hvs
            obtain ⟨by1, oy, rfl⟩ := hvs.adr (by decide)
            have HVM := Aside0.mk (show T.Blk.g (.slice (some ⟨by1, oy, none⟩) 32 cy) 5 1 32 (T.u8s y0) ∈ r3.map T.rwItem by
              have := List.mem_map_of_mem (f := T.rwItem) hmem3
              simp only [T.rwItem] at this
              rwa [hy32] at this)
            clear hvs hmem3 hrl3 hjr
            have hat := T.run_arrAt Tryz.underlying44 (some ⟨by1, oy, none⟩) 32 cy (Nat.le_refl _)
            have hyu : (T.u8s y0).length = 32 := by rw [encs_length]; exact hy32
            have hyd : ((T.u8s y0).drop 0).take 32 = T.u8s y0 := by rw [List.drop_zero, List.take_of_length_le (by omega)]
            have hidb := HKX.out.b
            have hx135 : (x.h.cells ++ [Value.slice Al j cl])[135]? = some (.slice Al j cl) := by rw [List.getElem?_append_right (by rw [hxl]; exact Nat.le_refl _), hxl]; rfl
            have hxl2 : ∀ v : Value, (x.h.cells ++ [v]).length = 136 := fun v => by rw [List.length_append, hxl]; rfl
            have HKH := Aside0.mk HKX.out.h
            have hz0 : (T.u8s T.z32).length = 32 := rfl
            repeat' (first | ((with_reducible show Code.wp _ (Code.region 14 _ true) _ _ _); refine T.mregion 14 (.p 0 (.t 1 (.p 2 (.p 3 (.t 4 (.a 5 (.a 6 (.p 7 (.z 8 .nil))))))))) 8 (by kernel_rfl) (fun _ _ _ _ h => h) hM (List.Sublist.cons _ (List.Sublist.refl _)) ?_; clear hM; intro wld hM) | (go_at_call 45; refine (T.must_calls _).mono ?_; rintro _ _ ⟨rfl, hbc⟩; replace hM := hM.call hbc; clear hbc) | ((with_reducible show T.OW _ ⟨_, .call ⟨.builtin .append, _, _⟩, _, _, _, _⟩ _ _ _ _); refine T.op_app _ _ _ rfl _ _ _ T.TE.out _ _ _ rfl _ _ _ hM (fun _ => by (repeat (first | exact T.Sub.head _ | apply T.Sub.tail))) (by (exact T.Mem.slB hM T.Fd.out (by ((exact T.ones_encs _ _))) (by decide))) (by ((with_reducible assumption))) (by decide) (by decide) (by ((omega))) ?_; clear hM; intro gsv wld hM; (obtain ⟨Aw, cw, rfl, _⟩ := hM.gsl (v := gsv) T.Fg.out)) | ((with_reducible show T.OW _ ⟨_, .store 51 _ _, _, _, _, _⟩ _ _ _ _); refine T.op_store _ _ _ rfl _ 135 rfl [.slice Aw (j + 1) cw] rfl _ (x.h.cells ++ [_]) _ hM (by (repeat (first | exact T.Sub.head _ | apply T.Sub.tail))) 1 T.TN.out rfl (by ((exact T.one_ones rfl))) (by rw [hxl2]; decide) (T.part_set _ HKH.out _ _) ?_; clear hM; intro wld hM; (try simp only [Act.put, List.setIfInBounds_toArray, List.set_cons_zero, List.set_cons_succ])) | (((first | ((with_reducible show wpList _ _ _ _ _ _); (refine T.w_o rfl ?_)) | (with_reducible show T.OW _ _ _ _ _ _)); first | ((with_reducible show T.OW _ ⟨_, .load _ _, _, _, _, _⟩ _ _ _ _); ((refine T.ofx (T.x_slCell2 (o := o2) (j := 1) (k := j) rfl rfl (hM.gsl (.tail _ (.tail _ (.head _)))) T.TS.out HJ.out) ?_))) | ((with_reducible show T.OW _ ⟨_, .buildSlice _ _ _, _, _, _, _⟩ _ _ _ _); refine T.op_buildSl _ _ _ rfl _ T.TL.out _ T.TN.out _ T.TZ.out rfl (by decide) (by decide) _ rfl (by (((simp [T.okp, Value.cells, Act.eval, *]; done)))) _ rfl hM ?_; (try simp only [List.map_toArray, List.map_cons, List.map_nil, Act.eval, Array.getD_eq_getD_getElem?, List.toList_toArray, List.getElem?_toArray, List.getElem?_cons_zero, List.getElem?_cons_succ, Option.getD_some, T.segs, List.replicate_succ, List.replicate_zero, List.set_cons_zero, List.set_cons_succ, Value.cells, List.flatten_cons, List.flatten_nil, List.append_nil, List.cons_append, List.nil_append]); clear hM; intro blk wld hM hlt)); (try simp only [Act.put, List.setIfInBounds_toArray, List.set_cons_zero, List.set_cons_succ])) | ((with_reducible show T.Seq _ _ _ _ _ _ _); first | ((with_reducible show T.Seq _ _ _ (.p _ _) _ _ _); ((apply T.sq_p rfl rfl; (focus intro wS; ((go_simp; with_reducible rfl))); (try simp only [Act.put, List.setIfInBounds_toArray, List.set_cons_zero, List.set_cons_succ])))) | ((with_reducible show T.Seq _ _ _ (.t _ _) _ _ _); ((apply T.sq_t rfl rfl; (focus intro wS hS; first | exact T.x_load rfl rfl T.Fd.out T.TS.out hx135 hS | exact T.x_slRow (o := oy) (j := 0) rfl rfl (hS.gsl (by repeat (first | exact List.mem_append_left _ HVM.out | apply List.Mem.tail))) T.TU.out T.TN.out hyd hyu); (try simp only [Act.put, List.setIfInBounds_toArray, List.set_cons_zero, List.set_cons_succ])))) | ((with_reducible show T.Seq _ _ _ .nil _ _ _); refine T.sq_nil ?_) | ((with_reducible show T.Seq _ _ _ (.a _ _) _ _ _); refine T.sq_a rfl rfl (fun K hK => ?_)) | ((with_reducible show T.Seq _ _ _ (.z _ _) _ _ _); refine T.sq_z rfl rfl (fun K hK => ?_))) | (go_at_K; refine hK.out _ _ _ (hM.drop (by (repeat (first | exact List.Sublist.refl _ | apply List.Sublist.cons)))) (List.Sublist.refl _) ?_; clear hK K; (try simp only [Act.put, List.setIfInBounds_toArray, List.set_cons_zero, List.set_cons_succ])) | (go_at_K; refine hK.out _ _ _ hM ?_; clear hK K) | (go_step) | ((fail_if_success (with_reducible show T.Seq _ _ _ _ _ _ _)); (fail_if_success (with_reducible show T.OW _ _ _ _ _ _)); simp only [Int.not_lt, Int.not_le] at *; go_simp))
            go_roundg (x.ids.length - j)
            case measure => omega
            case rel =>
              refine ⟨j + 1, Aw, cw, (by (go_num)), by omega, by omega, ⟨?_⟩⟩
              rw [HTJ.out, T.rc_app, T.rc_one]
              exact hM.drop (List.Sublist.cons _ (List.Sublist.refl _))
          · obtain rfl : j = x.ids.length := by omega
            have hljz : ¬ ((x.ids.length : Nat) : Int) < (x.ids.length : Int) := by omega
            have cj : decide (((x.ids.length : Nat) : Int) < (x.ids.length : Int)) = false := decide_eq_false hljz
            rw [List.take_length] at hM
            unfold T.rdL at hM
            have hM4 := (hM.drop (List.Sublist.cons_cons _ (List.Sublist.cons_cons _ (List.Sublist.cons _ (List.sublist_append_right _ _))))).perm (T.perm_swap3 _ _ _ _ _)
            clear hM
            have hM := hM4
            clear hM4
            have hxl2 : ∀ v : Value, (x.h.cells ++ [v]).length = 136 := fun v => by rw [List.length_append, hxl]; rfl
            have hxo2 : ∀ v ∈ x.h.cells ++ [Value.slice Al x.ids.length cl], v.oneCell' = true := T.ones_app hxo (T.ones_all rfl)
            have hnb := HNB.out
            repeat' (first | ((with_reducible show Code.wp _ (Code.region 16 _ true) _ _ _); refine T.mregion 16 (.p 0 (.p 1 (.p 2 (.p 3 (.p 4 (.t 5 (.t 6 (.a 7 (.a 8 (.p 9 (.p 10 (.p 11 (.z 12 .nil))))))))))))) 12 (by kernel_rfl) (fun _ _ _ _ h => h) hM (List.Sublist.cons _ (List.Sublist.refl _)) ?_; clear hM; intro wld hM) | ((with_reducible show T.OW _ ⟨_, .call ⟨.builtin .append, _, _⟩, _, _, _, _⟩ _ _ _ _); refine T.op_app _ _ _ rfl _ _ _ T.TE.out _ _ _ rfl _ _ _ hM (fun _ => by (repeat (first | exact T.Sub.head _ | apply T.Sub.tail))) (by (exact T.Mem.slB hM T.Fd.out (by ((with_reducible assumption))) (by decide))) (by (((simp only [List.length_append, List.length_map, List.length_replicate, List.length_cons, List.length_nil, encs_length, *]; done)))) (by decide) (by decide) (by ((omega))) ?_; clear hM; intro gsv wld hM; (obtain ⟨Aw, cw, rfl, _⟩ := hM.gsl (v := gsv) (.tail _ (.head _)))) | ((with_reducible show T.OW _ ⟨_, .store 25 _ _, _, _, _, _⟩ _ _ _ _); refine T.op_store _ _ _ rfl _ 2 rfl [.slice Aw (i + 1) cw] rfl _ [_, _, _] [_, _, _] hM (by (repeat (first | exact T.Sub.head _ | apply T.Sub.tail))) 1 T.TN.out rfl (by ((exact T.one_ones rfl))) (Nat.le_of_ble_eq_true rfl) rfl ?_; clear hM; intro wld hM; (try simp only [Act.put, List.setIfInBounds_toArray, List.set_cons_zero, List.set_cons_succ])) | (((first | ((with_reducible show wpList _ _ _ _ _ _); (refine T.w_o rfl ?_)) | (with_reducible show T.OW _ _ _ _ _ _)); (((with_reducible show T.OW _ ⟨_, .buildSlice _ _ _, _, _, _, _⟩ _ _ _ _); refine T.op_buildSl _ _ _ rfl _ T.TL.out _ T.TN.out _ T.TZ.out rfl (by decide) (by decide) _ rfl (by (((simp [T.okp, Value.cells, Act.eval, *]; done)))) _ rfl hM ?_; (try simp only [List.map_toArray, List.map_cons, List.map_nil, Act.eval, Array.getD_eq_getD_getElem?, List.toList_toArray, List.getElem?_toArray, List.getElem?_cons_zero, List.getElem?_cons_succ, Option.getD_some, T.segs, List.replicate_succ, List.replicate_zero, List.set_cons_zero, List.set_cons_succ, Value.cells, List.flatten_cons, List.flatten_nil, List.append_nil, List.cons_append, List.nil_append]); clear hM; intro blk wld hM hlt))); (try simp only [Act.put, List.setIfInBounds_toArray, List.set_cons_zero, List.set_cons_succ])) | ((with_reducible show T.Seq _ _ _ _ _ _ _); first | ((with_reducible show T.Seq _ _ _ (.p _ _) _ _ _); ((apply T.sq_p rfl rfl; (focus intro wS; ((go_simp; with_reducible rfl))); (try simp only [Act.put, List.setIfInBounds_toArray, List.set_cons_zero, List.set_cons_succ])))) | ((with_reducible show T.Seq _ _ _ (.t _ _) _ _ _); ((apply T.sq_t rfl rfl; (focus intro wS hS; first | exact T.x_load rfl rfl T.Fd.out T.TS.out rfl hS | exact T.x_loadAll rfl rfl T.Fd.out T.TU.out T.TN.out (by (((simp only [List.length_append, List.length_map, List.length_replicate, List.length_cons, List.length_nil, encs_length, *]; done)))) hS); (try simp only [Act.put, List.setIfInBounds_toArray, List.set_cons_zero, List.set_cons_succ])))) | ((with_reducible show T.Seq _ _ _ .nil _ _ _); refine T.sq_nil ?_) | ((with_reducible show T.Seq _ _ _ (.a _ _) _ _ _); refine T.sq_a rfl rfl (fun K hK => ?_)) | ((with_reducible show T.Seq _ _ _ (.z _ _) _ _ _); refine T.sq_z rfl rfl (fun K hK => ?_))) | (go_at_K; refine hK.out _ _ _ (hM.drop (by (repeat (first | exact List.Sublist.refl _ | apply List.Sublist.cons)))) (List.Sublist.refl _) ?_; clear hK K; (try simp only [Act.put, List.setIfInBounds_toArray, List.set_cons_zero, List.set_cons_succ])) | (go_at_K; refine hK.out _ _ _ hM ?_; clear hK K) | (go_step) | ((fail_if_success (with_reducible show T.Seq _ _ _ _ _ _ _)); (fail_if_success (with_reducible show T.OW _ _ _ _ _ _)); simp only [Int.not_lt, Int.not_le] at *; go_simp))
            go_roundg (np - i)
            case measure => omega
            case rel =>
              refine ⟨i + 1, Aw, cw, qs ++ [⟨x.h, .slice Al x.ids.length cl, x.ids⟩], (by (go_num)), by omega, by omega, by rw [List.length_append, HQL.out]; rfl, ?_, ?_, ⟨?_⟩⟩
              · have h := HQS.out
                unfold T.samePs at h ⊢
                rw [HTK.out, List.map_append, List.map_append, h]
                rfl
              · intro z hz
                rcases List.mem_append.1 hz with hz | hz
                · exact HQK.out z hz
                · rw [List.mem_singleton.1 hz]
                  exact ⟨HKX.out.h, HKX.out.n, HKX.out.k, by have := HKX.out.b; show x.ids.length ≤ 1000000; omega, rfl⟩
              · unfold T.rdL
                rw [T.rc_app, T.rc_one, List.map_append]
                exact (hM.drop (List.Sublist.cons _ (List.Sublist.cons_cons _ (List.Sublist.cons _ (List.Sublist.refl _))))).perm (T.perm_last _ _ _ _ _ _ _)
    · obtain rfl : i = np := by omega
      have hltz : ¬ ((i : Nat) : Int) < (i : Int) := by omega
      have cb : decide (((i : Nat) : Int) < (i : Int)) = false := decide_eq_false hltz
      have HQS2 := Aside0.mk (show T.samePs qs ps by
        have h := HQS.out
        rwa [← HNP.out, List.take_length] at h)
      have HQF := Aside0.mk (T.pfit_same HQS2.out HF.out)
      repeat' (first | (go_at_call 44; refine (T.pcheck_calls m k qs Aq i cq HQL.out HQF.out bp _ (hM.slB (.head _) (T.ones_all rfl) (Nat.le_refl _)) (T.rd_ps HQL.out HQK.out hM)).mono ?_; rintro _ _ ⟨rfl, hbc⟩; replace hM := hM.call hbc; clear hbc) | (go_step) | ((fail_if_success (with_reducible show T.Seq _ _ _ _ _ _ _)); (fail_if_success (with_reducible show T.OW _ _ _ _ _ _)); simp only [Int.not_lt, Int.not_le] at *; go_simp))
      (refine bodyPost_ret (results_none rfl _ _ _) rfl ?_)
      subst hP
      exact ⟨rfl, Aq, cq, qs, HQS2.out, HQK.out, hM.drop (.cons_cons _ (.cons_cons _ (.cons _ (List.sublist_append_right _ _))))⟩
end Go.Proofs.YtdklknfgcepcbaaGreat.X
