/- Texts of this proof, laid together by wip/tools/pack.py: TO7, TO8, TO9, TP1. -/
import Derived.Test.YtdklknfgcepcbaaGreatZ41
namespace Go.Proofs.YtdklknfgcepcbaaGreat.X
open Go.RowKit Go.Proofs.YtdklknfgcepcbaaGreatW.PrintWords Go.Proofs.YtdklknfgcepcbaaGreatW.PrintLast Go.Proofs.YtdklknfgcepcbaaGreatW.PrintMore
set_option linter.unusedSimpArgs false
set_option linter.unusedVariables false
set_option maxHeartbeats 2000000
set_option maxRecDepth 20000
theorem T.perm_x {α : Type} (X a b : α) (R : List α) : (X :: a :: b :: R).Perm (b :: X :: a :: R) := List.perm_middle (l₁ := [X, a]) (l₂ := R) (a := b)
theorem T.perm_y {α : Type} (a g X b4 : α) (Q R : List α) : (a :: g :: (Q ++ (X :: b4 :: R))).Perm (X :: a :: g :: (Q ++ (b4 :: R))) := List.perm_middle (l₁ := a :: g :: Q) (l₂ := b4 :: R) (a := X)
theorem T.perm_z {α : Type} (a g b4 Y b1 : α) (Q R : List α) : (a :: g :: (Q ++ (b4 :: Y :: b1 :: R))).Perm (b4 :: Y :: b1 :: a :: g :: (Q ++ R)) := by
  have h := (List.perm_append_comm (l₁ := a :: g :: Q) (l₂ := [b4, Y, b1])).append_right R
  simpa [List.append_assoc] using h
def T.rd1L (m k : Int) (A : Option Addr) (np c' : Nat) (qs : List T.PartV) (b4 b9 b1 : Nat) (Y : T.Blk) (sl : Value) (L : List T.Blk) : List T.Blk :=
  .b b9 72 [.int .i64 m, .int .i64 k, .slice A np c'] :: .g (.slice A np c') 53 136 np (T.rc T.PartV.cells qs) :: (qs.map T.PartV.item ++ (.b b4 70 [.pointer (some ⟨b9, 0, none⟩)] :: Y :: .b b1 37 [sl] :: L))
theorem T.pread1_calls {w0 w : World} {L : List T.Blk} (X Y : T.Blk) (m k : Int) (ps : List T.PartV) (np : Nat) (hnp : ps.length = np) (hf : T.pfit m k ps) (hr : ∀ p ∈ ps, T.readP p) (hc : T.cutR (ps.map T.pbytes1)) (b o n c : Nat) (hn : (T.pbytes m k ps).length = n) (hb : n ≤ 100000000) (hS : T.Sl w0 (.slice (some ⟨b, o, none⟩) n c) n (T.u8s (T.pbytes m k ps))) (b4 b9 b1 : Nat)
    (hM : T.Mem w0 none w (X :: .b b4 70 [.pointer (some ⟨b9, 0, none⟩)] :: .b b9 72 [.int .i64 0, .int .i64 0, T.nilS] :: Y :: .b b1 37 [.slice (some ⟨b, o, none⟩) n c] :: L)) :
    Calls Tryz.prog 26 #[.pointer (some ⟨b4, 0, none⟩), .pointer (some ⟨b1, 0, none⟩)] w fun e w' => e = .returned (.tuple #[]) ∧ ∃ v : Option Addr × Nat × List T.PartV, (T.samePs v.2.2 ps ∧ ∀ p ∈ v.2.2, p.ok) ∧ T.Mem w0 none w' (X :: T.rd1L m k v.1 np v.2.1 v.2.2 b4 b9 b1 Y (.slice (some ⟨b, o, none⟩) n c) L) := by
  have HS := Aside0.mk hS
  have HN := Aside0.mk hn
  have HNP := Aside0.mk hnp
  have HR := Aside0.mk hr
  have HC := Aside0.mk hc
  have HF := Aside0.mk hf
  clear hS hn hnp hr hc hf
  generalize hP : (fun (e : Ending) w' => e = .returned (.tuple #[]) ∧ ∃ v : Option Addr × Nat × List T.PartV, (T.samePs v.2.2 ps ∧ ∀ p ∈ v.2.2, p.ok) ∧ T.Mem w0 none w' (X :: T.rd1L m k v.1 np v.2.1 v.2.2 b4 b9 b1 Y (.slice (some ⟨b, o, none⟩) n c) L)) = Post
  go_enter Tryz.func26, Tryz.ntmps26
  repeat' (first | (go_at_call 27; refine (T.pread_calls m k ps np HNP.out HF.out HR.out HC.out b o n c b9 HN.out hb HS.out (hM.perm (T.perm_x _ _ _ _))).mono ?_; rintro _ w2 ⟨rfl, A', c', qs, hq, hk, hM2⟩; clear hM; have hM := hM2; clear hM2; have HQ := Aside0.mk hq; have HK := Aside0.mk hk; clear hq hk) | ((((((with_reducible show wpList _ _ _ _ _ _); (refine T.w_o rfl ?_)))); (((with_reducible show T.OW _ ⟨_, .load _ _, _, _, _, _⟩ _ _ _ _); ((refine T.ofx (T.x_load rfl rfl T.Fd.out T.TS.out rfl hM) ?_))))); (try simp only [Act.put, List.setIfInBounds_toArray, List.set_cons_zero, List.set_cons_succ])) | (go_step) | ((fail_if_success (with_reducible show T.Seq _ _ _ _ _ _ _)); (fail_if_success (with_reducible show T.OW _ _ _ _ _ _)); simp only [Int.not_lt, Int.not_le] at *; go_simp))
  (refine bodyPost_ret (results_none rfl _ _ _) rfl ?_)
  subst hP
  refine ⟨rfl, (A', c', qs), ⟨HQ.out, HK.out⟩, ?_⟩
  unfold T.rd1L
  exact hM.perm (T.perm_y _ _ _ _ _ _)
def T.WRead (m k : Int) (ps : List T.PartV) (w : World) (e : Ending) (w' : World) : Prop :=
  ∃ (A : Option Addr) (c : Nat) (qs : List T.PartV), e = .returned (.tuple #[.agg #[.int .i64 m, .int .i64 k, .slice A qs.length c], .bool true]) ∧ T.samePs qs ps ∧ (∀ p ∈ qs, p.ok) ∧ T.Mem w none w' (.g (.slice A qs.length c) 53 136 qs.length (T.rc T.PartV.cells qs) :: qs.map T.PartV.item)
theorem T.pReadc_calls (m k : Int) (ps : List T.PartV) (np : Nat) (hnp : ps.length = np) (hf : T.pfit m k ps) (hr : ∀ p ∈ ps, T.readP p) (hc : T.cutR (ps.map T.pbytes1)) (b o n c : Nat) (hn : (T.pbytes m k ps).length = n) (hb : n ≤ 100000000) (w : World) (hS : T.Sl w (.slice (some ⟨b, o, none⟩) n c) n (T.u8s (T.pbytes m k ps))) :
    Calls Tryz.prog 12 #[.slice (some ⟨b, o, none⟩) n c] w (T.WRead m k ps w) := by
  have hM := T.Mem.start w
  have HS := Aside0.mk hS
  have HN := Aside0.mk hn
  have HNP := Aside0.mk hnp
  have HR := Aside0.mk hr
  have HC := Aside0.mk hc
  have HF := Aside0.mk hf
  clear hS hn hnp hr hc hf
  generalize hP : T.WRead m k ps w = Post
  have hz3 : [Value.int .i64 0, Value.int .i64 0, T.nilS].length = 3 := rfl
  have heg : ∀ args w, (callFunc 26 args).run Tryz.prog w = .ok (.enter 26 args) w := fun args w => by go_simp
  have HEG := Aside0.mk heg
  clear heg
  go_enter Tryz.func12, Tryz.ntmps12
  repeat' (first | (go_at_call 23; refine (T.fine_calls 26 #[_, _] HEG.out (fun v : Option Addr × Nat × List T.PartV => T.rd1L m k v.1 np v.2.1 v.2.2 _ _ _ _ (.slice (some ⟨b, o, none⟩) n c) _) (fun v => T.samePs v.2.2 ps ∧ ∀ p ∈ v.2.2, p.ok) hM (fun W b2 hW => T.pread1_calls _ _ m k ps np HNP.out HF.out HR.out HC.out b o n c HN.out hb HS.out _ _ _ hW)).mono ?_; rintro _ w2 ⟨rfl, ⟨A', c', qs⟩, ⟨hq, hk⟩, hM2⟩; clear hM; have hM := hM2; clear hM2; have HQ := Aside0.mk hq; have HK := Aside0.mk hk; clear hq hk; unfold T.rd1L at hM; simp only at hM; replace hM := hM.perm (T.perm_z _ _ _ _ _ _ _)) | ((((((with_reducible show wpList _ _ _ _ _ _); (refine T.w_o rfl ?_)))); first | ((with_reducible show T.OW _ ⟨_, .load _ _, _, _, _, _⟩ _ _ _ _); first | (refine T.ofx (T.x_load rfl rfl T.Fd.out T.TS.out rfl hM) ?_) | (refine T.ofx (T.x_loadAll rfl rfl T.Fd.out T.TU.out T.TN.out (by ((rfl))) hM) ?_)) | ((with_reducible show T.OW _ ⟨_, .store _ _ _, _, _, _, _⟩ _ _ _ _); ((refine T.op_storeAll _ _ _ rfl _ rfl _ rfl _ _ hM (by (repeat (first | exact T.Sub.head _ | apply T.Sub.tail))) _ T.TN.out (by ((rfl))) (by (first | exact T.one_ones rfl | exact T.ones_all rfl)) (by (first | with_reducible assumption | rfl)) ?_; clear hM; intro wld hM))) | ((with_reducible show T.OW _ ⟨_, .alloc _, _, _, _, _⟩ _ _ _ _); refine T.op_alloc _ rfl _ T.TZ.out hM ?_; clear hM; intro blk wld hM hlt) | ((with_reducible show T.OW _ ⟨_, .box _ _, _, _, _, _⟩ _ _ _ _); refine T.op_box _ _ rfl _ rfl hM ?_; clear hM; intro blk wld hM hlt; (try simp only [Act.eval, Array.getD_eq_getD_getElem?, List.getElem?_toArray, List.getElem?_cons_zero, List.getElem?_cons_succ, Option.getD_some] at hM)) | ((with_reducible show T.OW _ ⟨_, .build _ _, _, _, _, _⟩ _ _ _ _); ((refine T.ofx (T.x_buildS0 rfl inferInstance inferInstance rfl) ?_)))); (try simp only [Act.put, List.setIfInBounds_toArray, List.set_cons_zero, List.set_cons_succ])) | (go_step) | ((fail_if_success (with_reducible show T.Seq _ _ _ _ _ _ _)); (fail_if_success (with_reducible show T.OW _ _ _ _ _ _)); simp only [Int.not_lt, Int.not_le] at *; go_simp))
  (refine T.ret_ct rfl rfl _ rfl _ rfl _ _ hM T.Fd.out T.TU.out _ T.TN.out (by ((rfl))) ?_)
  subst hP
  have hql : qs.length = np := by
    have := congrArg List.length HQ.out
    simp only [List.length_map] at this
    rw [this, HNP.out]
  refine ⟨A', c', qs, by rw [hql]; rfl, HQ.out, HK.out, ?_⟩
  rw [hql]
  have hM2 := hM.drop (.cons _ (.cons _ (.cons _ (.cons _ (List.Sublist.refl _)))))
  rwa [List.append_nil] at hM2
def T.pids (ps : List T.PartV) : List (List Int) := ps.map fun p => T.hid p.h
theorem T.pids_snoc (l : List T.PartV) (i : Nat) (h : i < l.length) : T.rc T.u8s (T.pids (l.take i)) ++ T.u8s (T.hid (l[i]).h) = T.rc T.u8s (T.pids (l.take (i + 1))) := by
  rw [List.take_succ_eq_append_getElem h, T.pids, T.pids, List.map_append, T.rc_app]
  congr 1
  simp [T.rc]
theorem T.ckids_calls (ps : List T.PartV) (kp : ∀ p ∈ ps, p.ok) (hb : ps.length ≤ 1000000) (m k : Int) (v : Value) (w : World) (hS : T.Sl w v ps.length (T.rc T.PartV.cells ps)) : Calls Tryz.prog 29 #[.agg #[.int .i64 m, .int .i64 k, v]] w (T.EG 44 32 ps.length (T.rc T.u8s (T.pids ps)) w) := by
  have hM := T.Mem.start w
  obtain ⟨A, cc, hv, _, _, _⟩ := id hS
  subst hv
  have HS := Aside0.mk hS
  have HK := Aside0.mk kp
  have HB := Aside0.mk hb
  clear hS kp hb
  generalize hP : T.EG 44 32 ps.length (T.rc T.u8s (T.pids ps)) w = Post
  go_enter Tryz.func29, Tryz.ntmps29
  repeat' (first | ((((((with_reducible show wpList _ _ _ _ _ _); (refine T.w_o rfl ?_)))); first | ((with_reducible show T.OW _ ⟨_, .load _ _, _, _, _, _⟩ _ _ _ _); ((refine T.ofx (T.x_load rfl rfl T.Fd.out T.TS.out rfl hM) ?_))) | ((with_reducible show T.OW _ ⟨_, .box _ _, _, _, _, _⟩ _ _ _ _); refine T.op_box _ _ rfl _ rfl hM ?_; clear hM; intro blk wld hM hlt)); (try simp only [Act.put, List.setIfInBounds_toArray, List.set_cons_zero, List.set_cons_succ])) | (go_step))
  go_loopg [3, 9] (ps.length + 1) (fun kq v3 v9 Wd => ∃ i : Nat, v9 = .int .i64 i ∧ i ≤ ps.length ∧ ps.length - i < kq ∧ Aside0 (T.Mem w none Wd [.g v3 44 32 i (T.rc T.u8s (T.pids (ps.take i)))]))
  case atStart => exact ⟨0, rfl, by omega, by omega, ⟨(hM.nil 44 32).drop (by (repeat (first | exact List.Sublist.refl _ | apply List.Sublist.cons_cons | apply List.Sublist.cons)))⟩⟩
  case round =>
    clear hM
    obtain ⟨i, rfl, hi, hg, hMo⟩ := hrel
    have hM := hMo.out
    clear hMo
    by_cases hlt : i < ps.length
    · have hltz : (i : Int) < (ps.length : Int) := by omega
      have cb : decide ((i : Int) < (ps.length : Int)) = true := decide_eq_true hltz
      have hi0 : (0 : Int) ≤ (i : Int) := by omega
      obtain ⟨b, o, rfl⟩ := HS.out.adr (by omega)
      have H1 := Aside0.mk (T.rc_at (enc := T.PartV.cells) (k := 136) (fun y hy => y.len (HK.out y hy).h) i hlt)
      have hsn := Aside0.mk (T.pids_snoc ps i hlt)
      have kx := HK.out _ (List.getElem_mem hlt)
      generalize ps[i] = x at *
      have hx2 : x.cells.length = 136 := x.len kx.h
      have hxo := x.ones kx.s
      have hz136 : (T.Head.zero.cells ++ [T.nilS]).length = 136 := rfl
      have hhl := x.h.len kx.h
      have hh : (x.cells.drop 0).take 135 = x.h.cells := by rw [List.drop_zero, T.PartV.cells, ← hhl, List.take_left]
      have hib := HB.out
      have hyu : (T.u8s (T.hid x.h)).length = 32 := by rw [encs_length]; exact T.hid_len _
      have hz0 : (T.u8s T.z32).length = 32 := rfl
      obtain ⟨A3, c3, rfl⟩ := T.own_slice (hM.row _ (.head _)).1
      repeat' (first | (go_at_call 14; refine (T.hid_calls _ kx.h kx.n _).mono ?_; rintro _ _ ⟨rfl, hbc⟩; replace hM := hM.call hbc; clear hbc) | ((((((with_reducible show wpList _ _ _ _ _ _); (refine T.w_o rfl ?_)))); first | ((with_reducible show T.OW _ ⟨_, .load _ _, _, _, _, _⟩ _ _ _ _); first | (refine T.ofx (T.x_slRow rfl rfl (hM.slin HS.out) T.TU.out T.TN.out H1.out hx2) ?_) | (refine T.ofx (T.x_loadAgg rfl rfl T.Fd.out T.TU.out T.TN.out (by ((omega))) hh hM) ?_)) | ((with_reducible show T.OW _ ⟨_, .store _ _ _, _, _, _, _⟩ _ _ _ _); ((refine T.op_storeAll _ _ _ rfl _ rfl _ rfl _ _ hM (by (repeat ((exact T.Sub.head _)))) _ T.TN.out (by ((with_reducible assumption))) (by ((with_reducible assumption))) (by ((with_reducible assumption))) ?_; clear hM; intro wld hM))) | ((with_reducible show T.OW _ ⟨_, .alloc _, _, _, _, _⟩ _ _ _ _); refine T.op_alloc _ rfl _ T.TZ.out hM ?_; clear hM; intro blk wld hM hlt) | ((with_reducible show T.OW _ ⟨_, .call ⟨.builtin .append, _, _⟩, _, _, _, _⟩ _ _ _ _); refine T.op_app _ _ _ rfl _ _ _ T.TE.out _ _ _ rfl _ _ _ hM (fun _ => by (repeat (first | exact T.Sub.head _ | apply T.Sub.tail))) (by (exact T.Mem.slB hM T.Fd.out (by ((exact T.ones_encs _ _))) (by decide))) (by ((with_reducible assumption))) (by decide) (by decide) (by ((omega))) ?_; clear hM; intro gsv wld hM) | ((with_reducible show T.OW _ ⟨_, .buildSlice _ _ _, _, _, _, _⟩ _ _ _ _); refine T.op_buildSl _ _ _ rfl _ T.TL.out _ T.TN.out _ T.TZ.out rfl (by decide) (by decide) _ rfl (by (((simp [T.okp, Value.cells, Act.eval, *]; done)))) _ rfl hM ?_; (try simp only [List.map_toArray, List.map_cons, List.map_nil, Act.eval, Array.getD_eq_getD_getElem?, List.toList_toArray, List.getElem?_toArray, List.getElem?_cons_zero, List.getElem?_cons_succ, Option.getD_some, T.segs, List.replicate_succ, List.replicate_zero, List.set_cons_zero, List.set_cons_succ, Value.cells, List.flatten_cons, List.flatten_nil, List.append_nil, List.cons_append, List.nil_append]); clear hM; intro blk wld hM hlt)); (try simp only [Act.put, List.setIfInBounds_toArray, List.set_cons_zero, List.set_cons_succ])) | (go_step) | ((fail_if_success (with_reducible show T.Seq _ _ _ _ _ _ _)); (fail_if_success (with_reducible show T.OW _ _ _ _ _ _)); simp only [Int.not_lt, Int.not_le] at *; go_simp))
      go_roundg (ps.length - i)
      case measure => omega
      case rel => exact ⟨i + 1, (by (go_num)), by omega, by omega, ⟨by rw [← hsn.out]; exact hM.drop (by (repeat (first | exact List.Sublist.refl _ | apply List.Sublist.cons)))⟩⟩
    · have hiN : i = ps.length := by omega
      have hltz : ¬ (i : Int) < (ps.length : Int) := by omega
      have cb : decide ((i : Int) < (ps.length : Int)) = false := decide_eq_false hltz
      repeat' (first | (go_step) | go_back | ((fail_if_success (with_reducible show T.Seq _ _ _ _ _ _ _)); (fail_if_success (with_reducible show T.OW _ _ _ _ _ _)); simp only [Int.not_lt, Int.not_le] at *; go_simp))
      subst hP
      have hE := hM.eg List.mem_cons_self
      rw [hiN, List.take_length] at hE
      exact hE
theorem T.leads_calls (x : List Int) (hx : x.length = 32) (A : Option Addr) (n c : Nat) (w : World) : Calls Tryz.prog 54 #[.slice A n c, .agg (T.u8s x).toArray, .agg (T.u8s x).toArray] w (T.E (.bool true) w) := by
  have hM := T.Mem.start w
  have hyu : (T.u8s x).length = 32 := by rw [encs_length]; exact hx
  have hz0 : (T.u8s T.z32).length = 32 := rfl
  have hz : (x == x) = true := beq_self_eq_true x
  generalize hP : T.E (.bool true) w = Post
  go_enter Tryz.func54, Tryz.ntmps54
  repeat' (first | go_skip | ((((((with_reducible show wpList _ _ _ _ _ _); (refine T.w_o rfl ?_)))); first | ((with_reducible show T.OW _ ⟨_, .load _ _, _, _, _, _⟩ _ _ _ _); ((refine T.ofx (T.x_loadAll rfl rfl T.Fd.out T.TU.out T.TN.out (by ((with_reducible assumption))) hM) ?_))) | ((with_reducible show T.OW _ ⟨_, .box _ _, _, _, _, _⟩ _ _ _ _); refine T.op_box _ _ rfl _ rfl hM ?_; clear hM; intro blk wld hM hlt) | ((with_reducible show T.OW _ ⟨_, .binOp .eql _ _ _ _, _, _, _, _⟩ _ _ _ _); ((refine T.ofx (T.x_eql rfl inferInstance rfl rfl (by ((with_reducible assumption))) (by ((with_reducible assumption)))) ?_; try simp only [hz])))); (try simp only [Act.put, List.setIfInBounds_toArray, List.set_cons_zero, List.set_cons_succ])) | (go_step) | go_back)
  subst hP
  exact ⟨rfl, hM.below⟩
structure T.Ask2 (p0 p1 : T.PartV) : Prop where
  k0 : p0.ok
  k1 : p1.ok
  l : p1.ids.length ≤ 32
  e : p1.ids = [T.hid p0.h]
  h : p1.h.height = p0.h.height + 1
  h0 : p0.h.height = 0
  b : p1.h.bits = p0.h.bits
  p : p1.h.prev = T.hid p0.h
  r : T.rootF 2 [T.tleaf (T.hid p0.h)] = p1.h.links
  m : T.hmay p1.h = true
structure T.AskAt (w : World) (bt : Nat) (A : Option Addr) (c : Nat) (Ai : Option Addr) (ci : Nat) (p0 p1 : T.PartV) : Prop where
  t : T.Sl w (.slice (some ⟨bt, 0, none⟩) 5 5) 5 [.int .i64 1, .int .i64 1, .slice A 2 c, .slice Ai 2 ci, .int .i64 1]
  s : T.PsAt w (.slice A 2 c) [p0, p1]
  i : T.Sl w (.slice Ai 2 ci) 2 (T.rc T.u8s (T.pids [p0, p1]))
theorem T.ask_h0 {p0 p1 : T.PartV} (q : T.Ask2 p0 p1) : ((T.rc T.PartV.cells [p0, p1]).drop 0).take 135 = p0.h.cells := by
  rw [List.drop_zero]
  show (p0.cells ++ _).take 135 = _
  rw [T.PartV.cells, List.append_assoc, ← p0.h.len q.k0.h, List.take_left]
theorem T.ask_p1 {p0 p1 : T.PartV} (q : T.Ask2 p0 p1) : ((T.rc T.PartV.cells [p0, p1]).drop 136).take 136 = p1.cells := by
  show ((p0.cells ++ (p1.cells ++ [])).drop 136).take 136 = _
  rw [← p0.len q.k0.h, List.drop_left, List.append_nil, p0.len q.k0.h, List.take_of_length_le (by rw [p1.len q.k1.h]; exact Nat.le_refl _)]
theorem T.ask_h1 {p0 p1 : T.PartV} (q : T.Ask2 p0 p1) : ((T.rc T.PartV.cells [p0, p1]).drop 136).take 135 = p1.h.cells := by
  show ((p0.cells ++ (p1.cells ++ [])).drop 136).take 135 = _
  rw [← p0.len q.k0.h, List.drop_left, List.append_nil, T.PartV.cells, ← p1.h.len q.k1.h, List.take_left]
theorem T.ckwork_calls (bt : Nat) (A : Option Addr) (c : Nat) (Ai : Option Addr) (ci : Nat) (p0 p1 : T.PartV) (q : T.Ask2 p0 p1) (w : World) (hA : T.AskAt w bt A c Ai ci p0 p1) : Calls Tryz.prog 32 #[.pointer (some ⟨bt, 0, none⟩)] w (T.E (.int .i64 0) w) := by
  have hM := T.Mem.start w
  have HT := Aside0.mk hA.t
  have HS := Aside0.mk hA.s.s
  obtain ⟨b, o, rfl⟩ := hA.s.s.adr (by decide)
  have H1 := Aside0.mk (T.ask_h1 q)
  have hl1 := p1.h.len q.k1.h
  have HM := Aside0.mk q.m
  have k1 := q.k1.h
  have n1 := q.k1.n
  clear hA q
  generalize hP : T.E (.int .i64 0) w = Post
  go_enter Tryz.func32, Tryz.ntmps32
  repeat' (first | ((with_reducible show Code.wp _ (Code.region 1 _ true) _ _ _); refine T.mregion 1 (.p 0 (.p 1 (.p 2 (.p 3 (.t 4 (.p 5 (.p 6 (.p 7 (.t 8 (.p 9 (.p 10 (.t 11 (.a 12 (.p 13 .nil)))))))))))))) 1000 (by kernel_rfl) (fun _ _ _ _ h => h) hM (List.Sublist.refl _) ?_; clear hM; intro wld hM) | (go_at_call 55; refine (T.hmay_calls _ k1 n1 _).mono ?_; rintro _ _ ⟨rfl, hbc⟩; replace hM := hM.call hbc; clear hbc; rw [HM.out]) | ((with_reducible show T.Seq _ _ _ _ _ _ _); first | ((with_reducible show T.Seq _ _ _ (.p _ _) _ _ _); ((apply T.sq_p rfl rfl; (focus intro wS; ((go_simp; with_reducible rfl))); (try simp only [Act.put, List.setIfInBounds_toArray, List.set_cons_zero, List.set_cons_succ])))) | ((with_reducible show T.Seq _ _ _ (.t _ _) _ _ _); ((apply T.sq_t rfl rfl; (focus intro wS hS; first | exact T.x_slCell (o := 0) (j := 2) rfl rfl (hS.slin HT.out) T.TS.out rfl | exact T.x_slCell (o := 0) (j := 4) rfl rfl (hS.slin HT.out) T.TS.out rfl | exact T.x_slRow (o := o) (j := 136) rfl rfl (hS.slin HS.out) T.TU.out T.TN.out H1.out hl1); (try simp only [Act.put, List.setIfInBounds_toArray, List.set_cons_zero, List.set_cons_succ])))) | ((with_reducible show T.Seq _ _ _ .nil _ _ _); refine T.sq_nil ?_) | ((with_reducible show T.Seq _ _ _ (.a _ _) _ _ _); refine T.sq_a rfl rfl (fun K hK => ?_))) | (go_at_K; refine hK.out _ _ _ hM (by (repeat ((exact List.Sublist.refl _)))) ?_; clear hK K) | ((with_reducible show T.OW _ ⟨_, .call _, _, _, _, _⟩ _ _ _ _); refine T.OW.mk ?_; go_simp) | (go_step) | go_back | ((fail_if_success (with_reducible show T.Seq _ _ _ _ _ _ _)); (fail_if_success (with_reducible show T.OW _ _ _ _ _ _)); simp only [Int.not_lt, Int.not_le] at *; go_simp))
  subst hP
  exact ⟨rfl, hM.below⟩
theorem T.hid_at {p0 p1 : T.PartV} : ((T.rc T.u8s (T.pids [p0, p1])).drop 0).take 32 = T.u8s (T.hid p0.h) := by
  have h32 : (T.u8s (T.hid p0.h)).length = 32 := by rw [encs_length]; exact T.hid_len _
  rw [List.drop_zero]
  show (T.u8s (T.hid p0.h) ++ _).take 32 = _
  rw [← h32, List.take_left]
theorem T.ckprev_calls (bt : Nat) (A : Option Addr) (c : Nat) (Ai : Option Addr) (ci : Nat) (p0 p1 : T.PartV) (q : T.Ask2 p0 p1) (w : World) (hA : T.AskAt w bt A c Ai ci p0 p1) : Calls Tryz.prog 30 #[.pointer (some ⟨bt, 0, none⟩)] w (T.E (.int .i64 0) w) := by
  have hM := T.Mem.start w
  have HT := Aside0.mk hA.t
  have HS := Aside0.mk hA.s.s
  have HI := Aside0.mk hA.i
  obtain ⟨b, o, rfl⟩ := hA.s.s.adr (by decide)
  obtain ⟨bi, oi, rfl⟩ := hA.i.adr (by decide)
  have H1 := Aside0.mk (T.ask_h1 q)
  have H0 := Aside0.mk (T.ask_h0 q)
  have HID := Aside0.mk (T.hid_at (p0 := p0) (p1 := p1))
  have hl1 := p1.h.len q.k1.h
  have hl0 := p0.h.len q.k0.h
  have ho1 := p1.h.ones
  have ho0 := p0.h.ones
  have hz135 : T.Head.zero.cells.length = 135 := rfl
  have hb1 := p1.h.bits_at q.k1.h
  have hb0 := p0.h.bits_at q.k0.h
  rw [q.b] at hb1
  have hh1 : p1.h.cells[0]? = some (.int .i64 1) := by have := q.h; rw [q.h0] at this; show some (Value.int .i64 p1.h.height) = _; rw [this]; rfl
  have hh0 : p0.h.cells[0]? = some (.int .i64 0) := by show some (Value.int .i64 p0.h.height) = _; rw [q.h0]
  have hp1 := p1.h.prevs q.k1.h
  rw [q.p] at hp1
  have hil : (T.u8s (T.hid p0.h)).length = 32 := by rw [encs_length]; exact T.hid_len _
  have hil2 := T.hid_len p0.h
  have hz0 : (T.u8s T.z32).length = 32 := rfl
  have hz : (T.hid p0.h == T.hid p0.h) = true := beq_self_eq_true _
  have e1 : IntKind.i64.wrap ((1 : Int) - 1) = 0 := T.w64 (by omega) (by omega)
  have e2 : IntKind.i64.wrap ((2 : Int) - 1) = 1 := T.w64 (by omega) (by omega)
  have e3 : IntKind.i64.wrap ((0 : Int) + 1) = 1 := T.w64 (by omega) (by omega)
  have e4 : IntKind.i64.wrap 0 = 0 := T.w64 (by omega) (by omega)
  have e5 : IntKind.i64.wrap 1 = 1 := T.w64 (by omega) (by omega)
  clear hA q
  generalize hP : T.E (.int .i64 0) w = Post
  go_enter Tryz.func30, Tryz.ntmps30
  repeat' (first | ((with_reducible show Code.wp _ (Code.region 1 _ true) _ _ _); refine T.mregion 1 (.p 0 (.p 1 (.p 2 (.p 3 (.t 4 (.p 5 (.p 6 (.p 7 (.t 8 (.p 9 (.p 10 (.t 11 (.p 12 (.p 13 (.p 14 (.p 15 (.t 16 (.p 17 (.p 18 (.p 19 (.t 20 (.p 21 (.p 22 (.p 23 (.t 24 (.f 25 26 (.a 26 (.a 27 (.a 28 .nil))) (.a 25 (.a 27 (.a 28 .nil))))))))))))))))))))))))))))) 1000 (by kernel_rfl) (fun _ _ _ _ h => h) hM (List.Sublist.refl _) ?_; clear hM; intro wld hM) | ((with_reducible show Code.wp _ (Code.region 2 _ true) _ _ _); refine T.mregion 2 (.p 0 (.p 1 (.p 2 (.t 3 (.p 4 (.p 5 (.p 6 (.p 7 (.t 8 (.p 9 (.p 10 (.p 11 (.p 12 (.p 13 (.t 14 (.p 15 (.p 16 (.p 17 .nil)))))))))))))))))) 1000 (by kernel_rfl) (fun _ _ _ _ h => h) hM (List.Sublist.refl _) ?_; clear hM; intro wld hM) | ((with_reducible show Code.wp _ (Code.region 3 _ true) _ _ _); refine T.mregion 3 (.p 0 (.t 1 (.p 2 (.t 3 (.p 4 (.p 5 (.p 6 (.t 7 (.p 8 (.t 9 (.p 10 (.p 11 (.p 12 (.p 13 (.p 14 (.p 15 (.t 16 (.p 17 (.t 18 (.p 19 (.p 20 (.p 21 (.p 22 (.t 23 (.p 24 (.p 25 (.p 26 (.t 27 (.p 28 (.p 29 (.p 30 (.t 31 (.p 32 (.p 33 (.t 34 (.p 35 (.p 36 (.p 37 (.p 38 .nil))))))))))))))))))))))))))))))))))))))) 1000 (by kernel_rfl) (fun _ _ _ _ h => h) hM (List.Sublist.refl _) ?_; clear hM; intro wld hM) | ((with_reducible show T.Seq _ _ _ (.a _ _) _ _ _); ((refine T.sq_ag rfl rfl (fun K hK => ?_)))) | (((first | ((with_reducible show wpList _ _ _ _ _ _); (refine T.w_o rfl ?_)) | (with_reducible show T.OW _ _ _ _ _ _)); first | ((with_reducible show T.OW _ ⟨_, .store _ _ _, _, _, _, _⟩ _ _ _ _); ((refine T.op_storeAll _ _ _ rfl _ rfl _ rfl _ _ hM (by (repeat (first | exact T.Sub.head _ | apply T.Sub.tail))) _ T.TN.out (by ((with_reducible assumption))) (by ((with_reducible assumption))) (by ((with_reducible assumption))) ?_; clear hM; intro wld hM))) | ((with_reducible show T.OW _ ⟨_, .alloc _, _, _, _, _⟩ _ _ _ _); refine T.op_alloc _ rfl _ T.TZ.out hM ?_; clear hM; intro blk wld hM hlt)); (try simp only [Act.put, List.setIfInBounds_toArray, List.set_cons_zero, List.set_cons_succ])) | ((with_reducible show T.Seq _ _ _ _ _ _ _); first | ((with_reducible show T.Seq _ _ _ (.p _ _) _ _ _); ((apply T.sq_p rfl rfl; (focus intro wS; first | ((with_reducible show Sem.run _ (execOp _ ⟨_, .binOp .neq _ _ _ _, _, _, _, _⟩) _ = _); (exact T.x_neq rfl inferInstance rfl rfl (by ((with_reducible assumption))) (by ((with_reducible assumption))))) | (go_simp; with_reducible rfl)); (try simp only [Act.put, List.setIfInBounds_toArray, List.set_cons_zero, List.set_cons_succ]); (try simp only [hz])))) | ((with_reducible show T.Seq _ _ _ (.t _ _) _ _ _); ((apply T.sq_t rfl rfl; (focus intro wS hS; first | exact T.x_slCell (o := 0) (j := 2) rfl rfl (hS.slin HT.out) T.TS.out rfl | exact T.x_slCell (o := 0) (j := 4) rfl rfl (hS.slin HT.out) T.TS.out rfl | exact T.x_slCell (o := 0) (j := 1) rfl rfl (hS.slin HT.out) T.TS.out rfl | exact T.x_slCell (o := 0) (j := 3) rfl rfl (hS.slin HT.out) T.TS.out rfl | exact T.x_slRow (o := o) (j := 136) rfl rfl (hS.slin HS.out) T.TU.out T.TN.out H1.out hl1 | exact T.x_slRow (o := o) (j := 0) rfl rfl (hS.slin HS.out) T.TU.out T.TN.out H0.out hl0 | exact T.x_slRow (o := oi) (j := 0) rfl rfl (hS.slin HI.out) T.TU.out T.TN.out HID.out hil | exact T.x_load rfl rfl T.Fd.out T.TS.out hb1 hS | exact T.x_load rfl rfl T.Fd.out T.TS.out hb0 hS | exact T.x_load rfl rfl T.Fd.out T.TS.out hh1 hS | exact T.x_load rfl rfl T.Fd.out T.TS.out hh0 hS | exact T.x_loadAgg rfl rfl T.Fd.out T.TU.out T.TN.out (by ((omega))) hp1 hS); (try simp only [Act.put, List.setIfInBounds_toArray, List.set_cons_zero, List.set_cons_succ])))) | ((with_reducible show T.Seq _ _ _ .nil _ _ _); refine T.sq_nil ?_) | ((with_reducible show T.Seq _ _ _ (.f _ _ _ _) _ _ _); refine T.sq_f ?_ ?_)) | (go_at_K; refine hK.out _ _ _ (hM.drop (by (repeat (first | exact List.Sublist.refl _ | apply List.Sublist.cons)))) (List.Sublist.refl _) ?_; clear hK K) | (go_step) | go_back)
  all_goals subst hP
  all_goals exact ⟨rfl, hM.below⟩
theorem T.cklink_calls (bt : Nat) (A : Option Addr) (c : Nat) (Ai : Option Addr) (ci : Nat) (p0 p1 : T.PartV) (q : T.Ask2 p0 p1) (w : World) (hA : T.AskAt w bt A c Ai ci p0 p1) : Calls Tryz.prog 31 #[.pointer (some ⟨bt, 0, none⟩)] w (T.E (.int .i64 0) w) := by
  have hM := T.Mem.start w
  have HT := Aside0.mk hA.t
  have HS := Aside0.mk hA.s.s
  have HI := Aside0.mk hA.i
  have hpl := hA.s.l p1 (.tail _ (.head _))
  rw [q.e] at hpl
  rw [show [T.hid p0.h].length = 1 from rfl] at hpl
  obtain ⟨Al, cl, hlv, hcl, _⟩ := id hpl
  rw [hlv] at hpl
  obtain ⟨bl, ol, rfl⟩ := hpl.adr Nat.one_pos
  have HPL := Aside0.mk (show T.Sl w (.slice (some ⟨bl, ol, none⟩) 1 cl) 1 (T.u8s (T.hid p0.h)) by
    have h := hpl
    rw [T.rc_one] at h
    exact h)
  have HPF := Aside0.mk (show T.Sl w (.slice (some ⟨bl, ol, none⟩) 1 cl) [T.hid p0.h].length (T.u8s [T.hid p0.h].flatten) by
    rw [show [T.hid p0.h].flatten = T.hid p0.h by simp]
    exact HPL.out)
  obtain ⟨b, o, rfl⟩ := hA.s.s.adr (by decide)
  obtain ⟨bi, oi, rfl⟩ := hA.i.adr (by decide)
  have H1 := Aside0.mk (T.ask_p1 q)
  have HID := Aside0.mk (T.hid_at (p0 := p0) (p1 := p1))
  have hl1 := p1.len q.k1.h
  have ho1 := p1.ones q.k1.s
  have hz136 : (T.Head.zero.cells ++ [T.nilS]).length = 136 := rfl
  have hil : (T.u8s (T.hid p0.h)).length = 32 := by rw [encs_length]; exact T.hid_len _
  have hil2 := T.hid_len p0.h
  have hid0 : ((T.u8s (T.hid p0.h)).drop 0).take 32 = T.u8s (T.hid p0.h) := by rw [List.drop_zero, List.take_of_length_le (by omega)]
  have hz : (T.hid p0.h == T.hid p0.h) = true := beq_self_eq_true _
  have hx135 := p1.at135 q.k1.h
  rw [hlv] at hx135
  have hsub : (p1.cells.drop 0).take 135 = p1.h.cells := by rw [List.drop_zero, T.PartV.cells, ← p1.h.len q.k1.h, List.take_left]
  have hp1 : (p1.cells.drop 1).take 32 = T.u8s (T.hid p0.h) := by
    have := T.sub_seg (i := 1) hsub (p1.h.prevs q.k1.h) (by decide)
    rw [q.p] at this
    rwa [Nat.zero_add] at this
  have hk1 : (p1.cells.drop 33).take 32 = T.u8s p1.h.links := by
    have := T.sub_seg (i := 33) hsub (p1.h.linkss q.k1.h) (by decide)
    rwa [Nat.zero_add] at this
  have hkl : (T.u8s p1.h.links).length = 32 := by rw [encs_length]; exact q.k1.h.links
  have hkl2 := q.k1.h.links
  have HR := Aside0.mk q.r
  have HOK := Aside0.mk (show T.okn 32 [T.hid p0.h] from fun y hy => by rw [List.mem_singleton.1 hy]; exact hil2)
  have e4 : IntKind.i64.wrap 0 = 0 := T.w64 (by omega) (by omega)
  clear hA q hlv hpl hsub
  generalize hP : T.E (.int .i64 0) w = Post
  have hz2 : (p1.h.links == p1.h.links) = true := beq_self_eq_true _
  go_enter Tryz.func31, Tryz.ntmps31
  repeat' (first | ((with_reducible show Code.wp _ (Code.region 1 _ true) _ _ _); refine T.mregion 1 (.p 0 (.p 1 (.p 2 (.p 3 (.t 4 (.p 5 (.p 6 (.p 7 (.t 8 (.p 9 (.t 10 (.a 11 (.z 12 .nil))))))))))))) 12 (by kernel_rfl) (fun _ _ _ _ h => h) hM (List.Sublist.refl _) ?_; clear hM; intro wld hM) | ((with_reducible show Code.wp _ (Code.region 2 _ true) _ _ _); refine T.mregion 2 (.p 0 (.t 1 (.p 2 (.p 3 (.p 4 (.p 5 (.t 6 (.p 7 (.p 8 (.p 9 (.p 10 (.p 11 (.t 12 (.p 13 (.t 14 (.p 15 (.p 16 (.p 17 (.t 18 (.p 19 (.t 20 (.p 21 (.p 22 (.p 23 (.p 24 (.t 25 (.p 26 (.p 27 (.t 28 (.p 29 (.p 30 (.p 31 (.t 32 (.p 33 (.p 34 (.p 35 (.t 36 (.p 37 (.p 38 (.t 39 (.a 40 (.p 41 (.p 42 (.p 43 (.p 44 (.t 45 (.p 47 (.p 48 (.t 49 (.a 46 (.p 50 (.p 51 .nil)))))))))))))))))))))))))))))))))))))))))))))))))))) 1000 (by kernel_rfl) (fun _ _ _ _ h => h) hM (List.Sublist.refl _) ?_; clear hM; intro wld hM) | (go_at_call 54; refine (T.leads_calls _ hil2 _ _ _ _).mono ?_; rintro _ _ ⟨rfl, hbc⟩; replace hM := hM.call hbc; clear hbc) | (go_at_call 49; refine (T.lroot_calls [T.hid p0.h] HOK.out (Nat.le_of_ble_eq_true rfl) _ _ (hM.slin HPF.out)).mono ?_; rintro _ _ ⟨rfl, hbc⟩; replace hM := hM.call hbc; clear hbc; (try rw [show T.rootF ([T.hid p0.h].length + 1) ([T.hid p0.h].map T.tleaf) = p1.h.links from HR.out]); clear hz; have hz := hz2) | ((with_reducible show T.Seq _ _ _ (.a _ _) _ _ _); ((refine T.sq_ag rfl rfl (fun K hK => ?_)))) | (((first | ((with_reducible show wpList _ _ _ _ _ _); (refine T.w_o rfl ?_)) | (with_reducible show T.OW _ _ _ _ _ _)); first | ((with_reducible show T.OW _ ⟨_, .store _ _ _, _, _, _, _⟩ _ _ _ _); ((refine T.op_storeAll _ _ _ rfl _ rfl _ rfl _ _ hM (by (repeat ((exact T.Sub.head _)))) _ T.TN.out (by ((with_reducible assumption))) (by ((with_reducible assumption))) (by ((with_reducible assumption))) ?_; clear hM; intro wld hM))) | ((with_reducible show T.OW _ ⟨_, .alloc _, _, _, _, _⟩ _ _ _ _); refine T.op_alloc _ rfl _ T.TZ.out hM ?_; clear hM; intro blk wld hM hlt)); (try simp only [Act.put, List.setIfInBounds_toArray, List.set_cons_zero, List.set_cons_succ])) | ((with_reducible show T.Seq _ _ _ _ _ _ _); first | ((with_reducible show T.Seq _ _ _ (.p _ _) _ _ _); ((apply T.sq_p rfl rfl; (focus intro wS; first | ((with_reducible show Sem.run _ (execOp _ ⟨_, .binOp .neq _ _ _ _, _, _, _, _⟩) _ = _); (exact T.x_neq rfl inferInstance rfl rfl (by ((with_reducible assumption))) (by ((with_reducible assumption))))) | (go_simp; with_reducible rfl)); (try simp only [Act.put, List.setIfInBounds_toArray, List.set_cons_zero, List.set_cons_succ]); (try simp only [hz])))) | ((with_reducible show T.Seq _ _ _ (.t _ _) _ _ _); ((apply T.sq_t rfl rfl; (focus intro wS hS; first | exact T.x_slCell (o := 0) (j := 2) rfl rfl (hS.slin HT.out) T.TS.out rfl | exact T.x_slCell (o := 0) (j := 4) rfl rfl (hS.slin HT.out) T.TS.out rfl | exact T.x_slCell (o := 0) (j := 3) rfl rfl (hS.slin HT.out) T.TS.out rfl | exact T.x_slRow (o := o) (j := 136) rfl rfl (hS.slin HS.out) T.TU.out T.TN.out H1.out hl1 | exact T.x_slRow (o := oi) (j := 0) rfl rfl (hS.slin HI.out) T.TU.out T.TN.out HID.out hil | exact T.x_slRow (o := ol) (j := 0) rfl rfl (hS.slin HPL.out) T.TU.out T.TN.out hid0 hil | exact T.x_load rfl rfl T.Fd.out T.TS.out hx135 hS | exact T.x_loadAgg rfl rfl T.Fd.out T.TU.out T.TN.out (by ((omega))) hp1 hS | exact T.x_loadAgg rfl rfl T.Fd.out T.TU.out T.TN.out (by ((omega))) hk1 hS); (try simp only [Act.put, List.setIfInBounds_toArray, List.set_cons_zero, List.set_cons_succ])))) | ((with_reducible show T.Seq _ _ _ .nil _ _ _); refine T.sq_nil ?_) | ((with_reducible show T.Seq _ _ _ (.z _ _) _ _ _); refine T.sq_z rfl rfl (fun K hK => ?_))) | (go_at_K; refine hK.out _ _ _ hM (by (repeat (first | exact List.Sublist.refl _ | apply List.Sublist.cons))) ?_; clear hK K) | (go_at_K; refine hK.out _ _ _ hM ?_; clear hK K) | ((with_reducible show T.OW _ ⟨_, .call _, _, _, _, _⟩ _ _ _ _); refine T.OW.mk ?_; go_simp) | (go_step) | go_back | ((fail_if_success (with_reducible show T.Seq _ _ _ _ _ _ _)); (fail_if_success (with_reducible show T.OW _ _ _ _ _ _)); simp only [Int.not_lt, Int.not_le] at *; go_simp))
  all_goals subst hP
  all_goals exact ⟨rfl, hM.below⟩
theorem T.run_idx {ty : TypeId} {kk : IntKind} {cs : List Value} {j : Int} {n : Nat} {el : TypeId} {v : Value} (hu : Tryz.prog.underlying ty = some (.array n el)) (hg : ∀ w, (isAgg el).run Tryz.prog w = .ok false w) (hi : (Tryz.prog.info? el).map (·.size) = some 1) (h0 : 0 ≤ j) (hn : j < n) (hget : cs[j.toNat]? = some v) (w : World) :
    (Instr.index ty (.agg cs.toArray) (.int kk j)).run Tryz.prog w = .ok v w := by
  have hs := T.size_run (P := Tryz.prog) hi w
  simp only [Instr.index, asIntOf, Sem.run_bind, Sem.run_pure, Result.andThen_ok, run_underlying hu w]
  rw [if_pos ⟨h0, hn⟩]
  simp only [Sem.run_bind, hs, Result.andThen_ok, Nat.mul_one, part, hg]
  simp [hget]
theorem T.ckcheck_calls (bits : Int) (h0 : 0 ≤ bits) (h1 : bits < 4294967296) (hf : T.tOk bits = true) (p0 p1 : T.PartV) (q : T.Ask2 p0 p1) (hp : p0.h = T.hfirst bits) (hi : p0.ids = []) (A : Option Addr) (c : Nat) (w : World) (hS : T.PsAt w (.slice A 2 c) [p0, p1]) : Calls Tryz.prog 13 #[.agg #[.int .i64 1, .int .i64 1, .slice A 2 c]] w (T.E (.int .i64 0) w) := by
  have hM := T.Mem.start w
  have HS := Aside0.mk hS
  have HS1 := Aside0.mk hS.s
  have HQ := Aside0.mk q
  have hpl := hS.l p0 (.head _)
  rw [hi] at hpl
  obtain ⟨Al, cl, hlv, _, _⟩ := id hpl
  rw [show ([] : List (List Int)).length = 0 from rfl] at hlv
  obtain ⟨b, o, rfl⟩ := hS.s.adr (by decide)
  have HB0 := Aside0.mk (show (T.rc T.PartV.cells [p0, p1])[133]? = some (.int .u32 bits) by
    show ((p0.h.cells ++ [p0.lv]) ++ _)[133]? = _
    rw [List.append_assoc, List.getElem?_append_left (by rw [p0.h.len q.k0.h]; decide), p0.h.bits_at q.k0.h, hp]
    rfl)
  have HL0 := Aside0.mk (show (T.rc T.PartV.cells [p0, p1])[135]? = some (.slice Al 0 cl) by
    show (p0.cells ++ _)[135]? = _
    rw [List.getElem?_append_left (by rw [p0.len q.k0.h]; decide), p0.at135 q.k0.h, hlv])
  have HH0 := Aside0.mk (show ((T.rc T.PartV.cells [p0, p1]).drop 0).take 135 = (T.hfirst bits).cells by rw [T.ask_h0 q, hp])
  have HKP := Aside0.mk (show ∀ p ∈ [p0, p1], p.ok from hS.k)
  have hfo := T.hfirst_ok bits
  have hfl := (T.hfirst bits).len hfo
  have hfn := (T.hfirst bits).ones
  have hbo := (T.bleaf (T.hfirst bits)).ones
  have hz139 := T.zero139
  have q1 : ∀ v : Value, ((T.hfirst bits).cells ++ [T.nilS, T.nilS, v, T.nilS]).length = 139 := fun v => by rw [List.length_append, hfl]; rfl
  have q2 : ∀ v : Value, (((T.hfirst bits).cells ++ [T.nilS, T.nilS, v, T.nilS]).drop 0).take 135 = (T.hfirst bits).cells := fun v => by rw [List.drop_zero, ← hfl, List.take_left]
  have hz : (T.hfirst bits).eq (T.hfirst bits) = true := T.Head.eq_self _
  have hz3 : [Value.int .i64 0, Value.int .i64 0, T.nilS].length = 3 := rfl
  have hl3 : [Value.int .i64 1, Value.int .i64 1, Value.slice (some ⟨b, o, none⟩) 2 c].length = 3 := rfl
  have e1 : IntKind.i64.wrap ((1 : Int) + 1) = 2 := T.w64 (by omega) (by omega)
  have e2 : IntKind.i64.wrap 1 = 1 := T.w64 (by omega) (by omega)
  have e3 : IntKind.i64.wrap 2 = 2 := T.w64 (by omega) (by omega)
  have e4 : IntKind.i64.wrap 3 = 3 := T.w64 (by omega) (by omega)
  clear q hS hpl hlv hp hi
  generalize hP : T.E (.int .i64 0) w = Post
  go_enter Tryz.func13, Tryz.ntmps13
  repeat' (first | ((with_reducible show Code.wp _ (Code.region 6 _ true) _ _ _); refine T.mregion 6 (.p 0 (.p 1 (.p 2 (.p 3 (.t 4 (.p 5 (.p 6 (.t 7 (.p 8 (.p 9 (.p 10 (.p 11 (.p 12 (.t 13 (.p 14 (.p 15 (.t 16 (.p 17 (.p 18 (.t 19 (.p 20 (.p 21 .nil)))))))))))))))))))))) 1000 (by kernel_rfl) (fun _ _ _ _ h => h) hM (List.Sublist.refl _) ?_; clear hM; intro wld hM) | ((with_reducible show Code.wp _ (Code.region 8 _ true) _ _ _); refine T.mregion 8 (.t 0 (.t 1 (.a 2 (.p 3 (.a 4 (.p 5 .nil)))))) 1000 (by kernel_rfl) (fun _ _ _ _ h => h) hM (List.Sublist.refl _) ?_; clear hM; intro wld hM) | (go_at_call 28; refine (T.first_yes _ h0 h1 hf _).mono ?_; rintro _ wr ⟨v, rfl, ho, hbc⟩; (obtain ⟨Ag, cg, rfl⟩ := T.own_slice ho); replace hM := hM.callG hbc ho hbo; clear hbc ho; have q1v := q1 (.slice Ag 1 cg); have q2v := q2 (.slice Ag 1 cg); have q4v : ∀ v ∈ (T.hfirst bits).cells ++ [T.nilS, T.nilS, Value.slice Ag 1 cg, T.nilS], v.oneCell' = true := T.ones_app hfn (T.ones_all rfl)) | (go_at_call 29; refine (T.ckids_calls [p0, p1] HKP.out (Nat.le_of_ble_eq_true rfl) 1 1 _ _ (hM.slin HS1.out)).mono ?_; rintro _ wr ⟨v, rfl, ho, h1, hbc⟩; (obtain ⟨Ag, cg, rfl⟩ := T.own_slice ho); replace hM := hM.callG hbc ho h1; clear hbc ho h1) | (((first | ((with_reducible show wpList _ _ _ _ _ _); first | refine T.w_o rfl ?_ | ((with_reducible show wpList _ _ _ (⟨_, _, _, _, _, some _⟩ :: _) _ _); refine T.w_g rfl ?_)) | (with_reducible show T.OW _ _ _ _ _ _)); first | ((with_reducible show T.OW _ ⟨_, .load _ _, _, _, _, _⟩ _ _ _ _); first | (refine T.ofx (T.x_slCell (o := o) (j := 133) rfl rfl (hM.slin HS1.out) T.TS.out HB0.out) ?_) | (refine T.ofx (T.x_load rfl rfl T.Fd.out T.TS.out rfl hM) ?_)) | ((with_reducible show T.OW _ ⟨_, .store _ _ _, _, _, _, _⟩ _ _ _ _); first | (refine T.op_storeAll _ _ _ rfl _ rfl _ rfl _ _ hM (by (repeat ((exact T.Sub.head _)))) _ T.TN.out (by (first | with_reducible assumption | rfl)) (by (first | with_reducible assumption | exact T.one_ones rfl)) (by ((with_reducible assumption))) ?_; clear hM; intro wld hM) | (refine T.op_store _ _ _ rfl _ _ rfl _ rfl _ _ _ hM (by (repeat ((exact T.Sub.head _)))) _ T.TN.out (by ((rfl))) (by ((exact T.one_ones rfl))) (by (((simp only [List.length_append, List.length_map, List.length_replicate, List.length_cons, List.length_nil, encs_length, *]; omega)))) rfl ?_; clear hM; intro wld hM)) | ((with_reducible show T.OW _ ⟨_, .alloc _, _, _, _, _⟩ _ _ _ _); refine T.op_alloc _ rfl _ T.TZ.out hM ?_; clear hM; intro blk wld hM hlt) | ((with_reducible show T.OW _ ⟨_, .box _ _, _, _, _, _⟩ _ _ _ _); refine T.op_box _ _ rfl _ rfl hM ?_; clear hM; intro blk wld hM hlt)); (try simp only [Act.put, List.setIfInBounds_toArray, List.set_cons_zero, List.set_cons_succ])) | ((with_reducible show T.Seq _ _ _ _ _ _ _); first | ((with_reducible show T.Seq _ _ _ (.p _ _) _ _ _); ((apply T.sq_p rfl rfl; (focus intro wS; first | ((with_reducible show Sem.run _ (execOp _ ⟨_, .binOp .neq _ _ _ _, _, _, _, _⟩) _ = _); (exact T.x_neqHead rfl rfl rfl (by with_reducible assumption) (by with_reducible assumption))) | (go_simp; with_reducible rfl)); (try simp only [Act.put, List.setIfInBounds_toArray, List.set_cons_zero, List.set_cons_succ]); (try simp only [hz])))) | ((with_reducible show T.Seq _ _ _ (.t _ _) _ _ _); ((apply T.sq_t rfl rfl; (focus intro wS hS; first | exact T.x_slCell (o := o) (j := 135) rfl rfl (hS.slin HS1.out) T.TS.out HL0.out | exact T.x_slRow (o := o) (j := 0) rfl rfl (hS.slin HS1.out) T.TU.out T.TN.out HH0.out hfl | exact T.x_loadAgg rfl rfl T.Fd.out T.TU.out T.TN.out (by ((omega))) q2v hS | exact T.x_load rfl rfl T.Fd.out T.TS.out rfl hS | exact T.x_loadAll rfl rfl T.Fd.out T.TU.out T.TN.out (by ((with_reducible assumption))) hS); (try simp only [Act.put, List.setIfInBounds_toArray, List.set_cons_zero, List.set_cons_succ])))) | ((with_reducible show T.Seq _ _ _ .nil _ _ _); refine T.sq_nil ?_) | ((with_reducible show T.Seq _ _ _ (.a _ _) _ _ _); refine T.sq_a rfl rfl (fun K hK => ?_))) | (go_at_K; refine hK.out _ _ _ hM (by (repeat (first | exact List.Sublist.refl _ | apply List.Sublist.cons))) ?_; clear hK K) | ((with_reducible show T.OW _ ⟨_, .call _, _, _, _, _⟩ _ _ _ _); refine T.OW.mk ?_; go_simp) | go_guarded | (go_step) | ((fail_if_success (with_reducible show T.Seq _ _ _ _ _ _ _)); (fail_if_success (with_reducible show T.OW _ _ _ _ _ _)); simp only [Int.not_lt, Int.not_le] at *; go_simp))
  obtain ⟨bt, rfl⟩ := T.n1 hM
  have hM2 : T.Mem w none _ (.b bt 85 [.int .i64 1, .int .i64 1, .slice (some ⟨b, o, none⟩) 2 c, .slice Ag 2 cg, .int .i64 1] :: .g (.slice Ag 2 cg) 44 32 2 (T.rc T.u8s (T.pids [p0, p1])) :: _) := hM
  clear hM
  have hM := hM2
  clear hM2
  have ix0 : ∀ w, (Instr.index 88 (.agg #[.func (.func 30) #[] #[], .func (.func 31) #[] #[], .func (.func 32) #[] #[]]) (.int .i64 0)).run Tryz.prog w = .ok (.func (.func 30) #[] #[]) w := fun w => T.run_idx (cs := [.func (.func 30) #[] #[], .func (.func 31) #[] #[], .func (.func 32) #[] #[]]) Tryz.underlying88 (fun w => Tryz.isAgg86 w) (by kernel_rfl) (by decide) (by decide) rfl w
  have ix1 : ∀ w, (Instr.index 88 (.agg #[.func (.func 30) #[] #[], .func (.func 31) #[] #[], .func (.func 32) #[] #[]]) (.int .i64 1)).run Tryz.prog w = .ok (.func (.func 31) #[] #[]) w := fun w => T.run_idx (cs := [.func (.func 30) #[] #[], .func (.func 31) #[] #[], .func (.func 32) #[] #[]]) Tryz.underlying88 (fun w => Tryz.isAgg86 w) (by kernel_rfl) (by decide) (by decide) rfl w
  have ix2 : ∀ w, (Instr.index 88 (.agg #[.func (.func 30) #[] #[], .func (.func 31) #[] #[], .func (.func 32) #[] #[]]) (.int .i64 2)).run Tryz.prog w = .ok (.func (.func 32) #[] #[]) w := fun w => T.run_idx (cs := [.func (.func 30) #[] #[], .func (.func 31) #[] #[], .func (.func 32) #[] #[]]) Tryz.underlying88 (fun w => Tryz.isAgg86 w) (by kernel_rfl) (by decide) (by decide) rfl w
  refine T.wp_rounds 2 ?_
  unfold T.rounds
  repeat' (first | ((with_reducible show Code.wp _ (Code.region 10 _ true) _ _ _); refine T.mregion 10 (.p 0 (.p 1 (.p 2 (.t 3 (.p 4 (.t 5 (.p 6 (.p 7 .nil)))))))) 1000 (by kernel_rfl) (fun _ _ _ _ h => h) hM (List.Sublist.refl _) ?_; clear hM; intro wld hM; (try simp only [List.size_toArray, List.length_cons, List.length_nil, Nat.reduceAdd])) | ((with_reducible show T.Seq _ _ _ _ _ _ _); first | ((with_reducible show T.Seq _ _ _ (.p _ _) _ _ _); ((apply T.sq_p rfl rfl; (focus intro wS; ((go_simp; with_reducible rfl))); (try simp only [Act.put, List.setIfInBounds_toArray, List.set_cons_zero, List.set_cons_succ])))) | ((with_reducible show T.Seq _ _ _ (.t _ _) _ _ _); ((apply T.sq_t rfl rfl; (focus intro wS hS; (exact T.x_load rfl rfl T.Fd.out T.TS.out rfl hS)); (try simp only [Act.put, List.setIfInBounds_toArray, List.set_cons_zero, List.set_cons_succ])))) | ((with_reducible show T.Seq _ _ _ .nil _ _ _); refine T.sq_nil ?_)) | (go_step) | ((fail_if_success (with_reducible show T.Seq _ _ _ _ _ _ _)); (fail_if_success (with_reducible show T.OW _ _ _ _ _ _)); simp only [Int.not_lt, Int.not_le] at *; go_simp))
  refine T.wp_rounds 4 ?_
  unfold T.rounds
  repeat' (first | (go_at_call 30; refine (T.ckprev_calls bt _ c Ag cg p0 p1 HQ.out _ ⟨hM.slB (.head _) (T.ones_all rfl) (Nat.le_refl _), HS.out.kept hM.below, hM.gsl (.tail _ (.head _))⟩).mono ?_; rintro _ _ ⟨rfl, hbc⟩; replace hM := hM.call hbc; clear hbc) | (go_step) | ((fail_if_success (with_reducible show T.Seq _ _ _ _ _ _ _)); (fail_if_success (with_reducible show T.OW _ _ _ _ _ _)); simp only [Int.not_lt, Int.not_le] at *; go_simp))
  unfold T.rounds
  repeat' (first | (go_at_call 31; refine (T.cklink_calls bt _ c Ag cg p0 p1 HQ.out _ ⟨hM.slB (.head _) (T.ones_all rfl) (Nat.le_refl _), HS.out.kept hM.below, hM.gsl (.tail _ (.head _))⟩).mono ?_; rintro _ _ ⟨rfl, hbc⟩; replace hM := hM.call hbc; clear hbc) | (go_step) | ((fail_if_success (with_reducible show T.Seq _ _ _ _ _ _ _)); (fail_if_success (with_reducible show T.OW _ _ _ _ _ _)); simp only [Int.not_lt, Int.not_le] at *; go_simp))
  unfold T.rounds
  repeat' (first | (go_at_call 32; refine (T.ckwork_calls bt _ c Ag cg p0 p1 HQ.out _ ⟨hM.slB (.head _) (T.ones_all rfl) (Nat.le_refl _), HS.out.kept hM.below, hM.gsl (.tail _ (.head _))⟩).mono ?_; rintro _ _ ⟨rfl, hbc⟩; replace hM := hM.call hbc; clear hbc) | (go_step) | ((fail_if_success (with_reducible show T.Seq _ _ _ _ _ _ _)); (fail_if_success (with_reducible show T.OW _ _ _ _ _ _)); simp only [Int.not_lt, Int.not_le] at *; go_simp))
  unfold T.rounds
  repeat' (first | ((((((with_reducible show wpList _ _ _ _ _ _); (refine T.w_o rfl ?_)))); first | ((with_reducible show T.OW _ ⟨_, .load _ _, _, _, _, _⟩ _ _ _ _); ((refine T.ofx (T.x_load rfl rfl T.Fd.out T.TS.out rfl hM) ?_))) | ((with_reducible show T.OW _ ⟨_, .store _ _ _, _, _, _, _⟩ _ _ _ _); ((refine T.op_store _ _ _ rfl _ _ rfl _ rfl _ _ _ hM (by (repeat ((exact T.Sub.head _)))) _ T.TN.out (by ((rfl))) (by ((exact T.one_ones rfl))) (by (((simp only [List.length_append, List.length_map, List.length_replicate, List.length_cons, List.length_nil, encs_length, *]; omega)))) rfl ?_; clear hM; intro wld hM)))); (try simp only [Act.put, List.setIfInBounds_toArray, List.set_cons_zero, List.set_cons_succ])) | (go_step) | ((fail_if_success (with_reducible show T.Seq _ _ _ _ _ _ _)); (fail_if_success (with_reducible show T.OW _ _ _ _ _ _)); simp only [Int.not_lt, Int.not_le] at *; go_simp))
  unfold T.rounds
  repeat' (first | ((with_reducible show Code.wp _ (Code.region 10 _ true) _ _ _); refine T.mregion 10 (.p 0 (.p 1 (.p 2 (.t 3 (.p 4 (.t 5 (.p 6 (.p 7 .nil)))))))) 1000 (by kernel_rfl) (fun _ _ _ _ h => h) hM (List.Sublist.refl _) ?_; clear hM; intro wld hM; (try simp only [List.size_toArray, List.length_cons, List.length_nil, Nat.reduceAdd])) | ((with_reducible show T.Seq _ _ _ _ _ _ _); first | ((with_reducible show T.Seq _ _ _ (.p _ _) _ _ _); ((apply T.sq_p rfl rfl; (focus intro wS; ((go_simp; with_reducible rfl))); (try simp only [Act.put, List.setIfInBounds_toArray, List.set_cons_zero, List.set_cons_succ])))) | ((with_reducible show T.Seq _ _ _ (.t _ _) _ _ _); ((apply T.sq_t rfl rfl; (focus intro wS hS; (exact T.x_load rfl rfl T.Fd.out T.TS.out rfl hS)); (try simp only [Act.put, List.setIfInBounds_toArray, List.set_cons_zero, List.set_cons_succ])))) | ((with_reducible show T.Seq _ _ _ .nil _ _ _); refine T.sq_nil ?_)) | (go_step) | go_back | ((fail_if_success (with_reducible show T.Seq _ _ _ _ _ _ _)); (fail_if_success (with_reducible show T.OW _ _ _ _ _ _)); simp only [Int.not_lt, Int.not_le] at *; go_simp))
  subst hP
  exact ⟨rfl, hM.below⟩
end Go.Proofs.YtdklknfgcepcbaaGreat.X
