/- Texts of this proof, laid together by wip/tools/pack.py: TN9, TO1, TO2. -/
import Derived.Test.YtdklknfgcepcbaaGreatZ37
namespace Go.Proofs.YtdklknfgcepcbaaGreat.X
open Go.RowKit Go.Proofs.YtdklknfgcepcbaaGreatW.PrintWords Go.Proofs.YtdklknfgcepcbaaGreatW.PrintLast Go.Proofs.YtdklknfgcepcbaaGreatW.PrintMore
set_option linter.unusedSimpArgs false
set_option linter.unusedVariables false
set_option maxHeartbeats 2000000
set_option maxRecDepth 20000
structure T.PsAt (w : World) (v : Value) (ps : List T.PartV) : Prop where
  s : T.Sl w v ps.length (T.rc T.PartV.cells ps)
  k : ∀ p ∈ ps, p.ok
  l : ∀ p ∈ ps, T.Sl w p.lv p.ids.length (T.rc T.u8s p.ids)
theorem T.PsAt.kept {w w' : World} {v : Value} {ps : List T.PartV} (h : T.PsAt w v ps) (hb : Below w.heap.size w w') : T.PsAt w' v ps := ⟨h.s.kept hb, h.k, fun p hp => (h.l p hp).kept hb⟩
structure T.pfit (m k : Int) (ps : List T.PartV) : Prop where
  m0 : 1 ≤ m
  m1 : m ≤ 20
  k0 : 1 ≤ k
  k1 : k ≤ 20
  n : ps.length ≤ 100
  l : ∀ p ∈ ps, p.ids.length ≤ 32
theorem T.PartV.at135 (p : T.PartV) (h : p.h.ok) : p.cells[135]? = some p.lv := by
  rw [T.PartV.cells, List.getElem?_append_right (by rw [p.h.len h]; exact Nat.le_refl _), p.h.len h]
  rfl
theorem T.pcheck_calls (m k : Int) (ps : List T.PartV) (A : Option Addr) (n c : Nat) (hn : ps.length = n) (hf : T.pfit m k ps) (bp : Nat) (w : World) (hB : T.Sl w (.slice (some ⟨bp, 0, none⟩) 3 3) 3 [.int .i64 m, .int .i64 k, .slice A n c]) (hS : T.PsAt w (.slice A n c) ps) :
    Calls Tryz.prog 44 #[.pointer (some ⟨bp, 0, none⟩)] w (T.E (.tuple #[]) w) := by
  have hM := T.Mem.start w
  have HB := Aside0.mk hB
  have HS := Aside0.mk hS
  have HN := Aside0.mk hn
  have HF := Aside0.mk hf
  have d1 : decide (1 ≤ m) = true := decide_eq_true hf.m0
  have d2 : decide (m ≤ 20) = true := decide_eq_true hf.m1
  have d3 : decide (1 ≤ k) = true := decide_eq_true hf.k0
  have d4 : decide (k ≤ 20) = true := decide_eq_true hf.k1
  have d5 : decide ((n : Int) ≤ 100) = true := decide_eq_true (by have := hf.n; omega)
  have d6 : decide (n ≤ 100) = true := decide_eq_true (by have := hf.n; omega)
  have hn100 : n ≤ 100 := by have := hf.n; omega
  clear hB hS hn hf
  generalize hP : T.E (.tuple #[]) w = Post
  go_enter Tryz.func44, Tryz.ntmps44
  repeat' (first | (go_at_call 45; refine (T.must_calls _).mono ?_; rintro _ _ ⟨rfl, hbc⟩; replace hM := hM.call hbc; clear hbc) | ((((((with_reducible show wpList _ _ _ _ _ _); first | refine T.w_o rfl ?_ | ((with_reducible show wpList _ _ _ (⟨_, _, _, _, _, some _⟩ :: _) _ _); refine T.w_g rfl ?_)))); (((with_reducible show T.OW _ ⟨_, .load _ _, _, _, _, _⟩ _ _ _ _); first | (refine T.ofx (T.x_slCell (o := 0) (j := 0) rfl rfl (hM.slin HB.out) T.TS.out rfl) ?_) | (refine T.ofx (T.x_slCell (o := 0) (j := 1) rfl rfl (hM.slin HB.out) T.TS.out rfl) ?_) | (refine T.ofx (T.x_slCell (o := 0) (j := 2) rfl rfl (hM.slin HB.out) T.TS.out rfl) ?_)))); (try simp only [Act.put, List.setIfInBounds_toArray, List.set_cons_zero, List.set_cons_succ])) | go_guarded | (go_step) | ((fail_if_success (with_reducible show T.Seq _ _ _ _ _ _ _)); (fail_if_success (with_reducible show T.OW _ _ _ _ _ _)); simp only [Int.not_lt, Int.not_le] at *; go_simp))
  go_loopg [50] (n + 1) (fun kq v50 Wd => ∃ i : Nat, v50 = .int .i64 i ∧ i ≤ n ∧ n - i < kq ∧ Aside0 (T.Mem w none Wd []))
  case atStart => exact ⟨0, rfl, by omega, by omega, ⟨hM⟩⟩
  case round =>
    clear hM
    obtain ⟨i, rfl, hi, hg, hMo⟩ := hrel
    have hM := hMo.out
    clear hMo
    by_cases hlt : i < n
    · have hltz : (i : Int) < (n : Int) := by omega
      have cb : decide ((i : Int) < (n : Int)) = true := decide_eq_true hltz
      have hi0 : (0 : Int) ≤ (i : Int) := by omega
      have hip : i < ps.length := by rw [HN.out]; exact hlt
      have HS0 := Aside0.mk (show T.Sl w (.slice A n c) n (T.rc T.PartV.cells ps) by have := HS.out.s; rwa [HN.out] at this)
      obtain ⟨b, o, rfl⟩ := HS0.out.adr (by omega)
      have H1 := Aside0.mk (T.rc_at (enc := T.PartV.cells) (k := 136) (fun y hy => y.len (HS.out.k y hy).h) i hip)
      have kx := HS.out.k _ (List.getElem_mem hip)
      have hxl := HS.out.l _ (List.getElem_mem hip)
      have hxf := HF.out.l _ (List.getElem_mem hip)
      generalize ps[i] = x at *
      clear hip
      have hx2 : x.cells.length = 136 := x.len kx.h
      have hxo := x.ones kx.s
      have hz136 : (T.Head.zero.cells ++ [T.nilS]).length = 136 := rfl
      have hx135 := x.at135 kx.h
      obtain ⟨Al, cl, hl, _⟩ := hxl
      rw [hl] at hx135
      have d7 : decide ((x.ids.length : Int) ≤ 32) = true := decide_eq_true (by omega)
      have d8 : decide (x.ids.length ≤ 32) = true := decide_eq_true hxf
      clear hl
      repeat' (first | (go_at_call 45; refine (T.must_calls _).mono ?_; rintro _ _ ⟨rfl, hbc⟩; replace hM := hM.call hbc; clear hbc) | ((((((with_reducible show wpList _ _ _ _ _ _); (refine T.w_o rfl ?_)))); first | ((with_reducible show T.OW _ ⟨_, .load _ _, _, _, _, _⟩ _ _ _ _); first | (refine T.ofx (T.x_slRow rfl rfl (hM.slin HS0.out) T.TU.out T.TN.out H1.out hx2) ?_) | (refine T.ofx (T.x_load rfl rfl T.Fd.out T.TS.out hx135 hM) ?_)) | ((with_reducible show T.OW _ ⟨_, .store _ _ _, _, _, _, _⟩ _ _ _ _); ((refine T.op_storeAll _ _ _ rfl _ rfl _ rfl _ _ hM (by (repeat ((exact T.Sub.head _)))) _ T.TN.out (by ((with_reducible assumption))) (by ((with_reducible assumption))) (by ((with_reducible assumption))) ?_; clear hM; intro wld hM))) | ((with_reducible show T.OW _ ⟨_, .alloc _, _, _, _, _⟩ _ _ _ _); refine T.op_alloc _ rfl _ T.TZ.out hM ?_; clear hM; intro blk wld hM hlt)); (try simp only [Act.put, List.setIfInBounds_toArray, List.set_cons_zero, List.set_cons_succ])) | (go_step) | ((fail_if_success (with_reducible show T.Seq _ _ _ _ _ _ _)); (fail_if_success (with_reducible show T.OW _ _ _ _ _ _)); simp only [Int.not_lt, Int.not_le] at *; go_simp))
      go_roundg (n - i)
      case measure => omega
      case rel => exact ⟨i + 1, (by (go_num)), by omega, by omega, ⟨hM.drop (by (repeat (first | exact List.Sublist.refl _ | apply List.Sublist.cons)))⟩⟩
    · have hiN : i = n := by omega
      have hltz : ¬ (i : Int) < (n : Int) := by omega
      have cb : decide ((i : Int) < (n : Int)) = false := decide_eq_false hltz
      repeat' (first | (go_step) | ((fail_if_success (with_reducible show T.Seq _ _ _ _ _ _ _)); (fail_if_success (with_reducible show T.OW _ _ _ _ _ _)); simp only [Int.not_lt, Int.not_le] at *; go_simp))
      (refine bodyPost_ret (results_none rfl _ _ _) rfl ?_)
      subst hP
      exact ⟨rfl, hM.below⟩
def T.rwItem (p : Value × List Int) : T.Blk := .g p.1 5 1 p.2.length (T.u8s p.2)
def T.idItem (p : Nat × List Int) : T.Blk := .b p.1 44 (T.u8s p.2)
def T.idVal (p : Nat × List Int) : Value := .slice (some ⟨p.1, 0, none⟩) 32 32
def T.pbytes1 (p : T.PartV) : List Int := T.rowsB (T.hput p.h :: p.ids)
def T.pbytes (m k : Int) (ps : List T.PartV) : List Int := m :: k :: T.rowsB (ps.map T.pbytes1)
theorem T.blobs_len : ∀ (l : List (List Int)) (q : Nat), (∀ b ∈ l, b.length ≤ q) → (l.flatMap T.blob).length ≤ l.length * (q + 2)
  | [], _, _ => by simp
  | b :: l, q, h => by
    have h1 := T.blobs_len l q (fun x hx => h x (List.mem_cons_of_mem _ hx))
    have h2 := h b List.mem_cons_self
    rw [List.flatMap_cons, List.length_append, T.blob_len, List.length_cons, Nat.add_mul]
    omega
theorem T.pb1_len (p : T.PartV) (k : p.ok) (h : p.ids.length ≤ 32) : (T.pbytes1 p).length ≤ 5875 := by
  have := T.blobs_len (T.hput p.h :: p.ids) 176 (fun b hb => by
    rcases List.mem_cons.1 hb with rfl | hb
    · rw [T.hput_len _ k.h]; omega
    · rw [k.k b hb]; omega)
  simp only [T.pbytes1, T.rowsB, List.length_cons] at this ⊢
  omega
theorem T.rws_outer {w0 w : World} {L : List T.Blk} {v : Value} (rws : List (Value × List Int)) (n : Nat) (hn : n = rws.length) (hM : T.Mem w0 none w L) (hm : .g v 37 1 n (rws.map (·.1)) ∈ L) (hall : ∀ p ∈ rws, T.rwItem p ∈ L) : T.RwsAt w v rws :=
  ⟨by rw [← hn]; exact hM.gsl hm, fun p hp => hM.gsl (hall p hp)⟩
theorem T.rws_inner {w0 w : World} {L : List T.Blk} {v : Value} {A : Option Addr} {c : Nat} {x : T.Blk} (h : List Int) (r : List (Nat × List Int)) (n : Nat) (hn : r.length + 1 = n) (hh : h.length = 176) (hr : ∀ q ∈ r, q.2.length = 32)
    (hM : T.Mem w0 none w (.g v 37 1 n (.slice A 176 c :: r.map T.idVal) :: .g (.slice A 176 c) 5 1 176 (T.u8s h) :: x :: (r.map T.idItem ++ L))) : T.RwsAt w v ((.slice A 176 c, h) :: r.map fun q => (T.idVal q, q.2)) := by
  refine ⟨?_, fun p hp => ?_⟩
  · have h1 := hM.gsl (.head _)
    rw [List.length_cons, List.length_map, hn, List.map_cons, List.map_map]
    exact h1
  · rcases List.mem_cons.1 hp with rfl | hp
    · show T.Sl w (.slice A 176 c) h.length (T.u8s h)
      rw [hh]
      exact hM.gsl (.tail _ (.head _))
    · obtain ⟨q, hq, rfl⟩ := List.mem_map.1 hp
      show T.Sl w (T.idVal q) q.2.length (T.u8s q.2)
      rw [hr q hq]
      exact hM.slB (t := 44) (.tail _ (.tail _ (.tail _ (List.mem_append.2 (.inl (List.mem_map_of_mem hq)))))) (T.ones_encs _ _) (Nat.le_refl _)
theorem T.write_calls (m k : Int) (ps : List T.PartV) (A : Option Addr) (n c : Nat) (hn : ps.length = n) (hf : T.pfit m k ps) (bp : Nat) (w : World) (hB : T.Sl w (.slice (some ⟨bp, 0, none⟩) 3 3) 3 [.int .i64 m, .int .i64 k, .slice A n c]) (hS : T.PsAt w (.slice A n c) ps) (hfit : ∀ p ∈ ps, p.h.fit = true) :
    Calls Tryz.prog 25 #[.pointer (some ⟨bp, 0, none⟩)] w (T.EG 5 1 (T.pbytes m k ps).length (T.u8s (T.pbytes m k ps)) w) := by
  have hM := T.Mem.start w
  have HB := Aside0.mk hB
  have HS := Aside0.mk hS
  have HN := Aside0.mk hn
  have HF := Aside0.mk hf
  have HFIT := Aside0.mk hfit
  have e1 : IntKind.u8.wrap m = m := by rw [IntKind.wrap_u8]; have := hf.m0; have := hf.m1; omega
  have e2 : IntKind.u8.wrap k = k := by rw [IntKind.wrap_u8]; have := hf.k0; have := hf.k1; omega
  clear hB hS hn hf hfit
  generalize hP : T.EG 5 1 (T.pbytes m k ps).length (T.u8s (T.pbytes m k ps)) w = Post
  go_enter Tryz.func25, Tryz.ntmps25
  repeat' (first | (go_at_call 44; refine (T.pcheck_calls m k ps A n c HN.out HF.out bp _ (hM.slin HB.out) (HS.out.kept hM.below)).mono ?_; rintro _ _ ⟨rfl, hbc⟩; replace hM := hM.call hbc; clear hbc) | ((((((with_reducible show wpList _ _ _ _ _ _); (refine T.w_o rfl ?_)))); (((with_reducible show T.OW _ ⟨_, .load _ _, _, _, _, _⟩ _ _ _ _); ((refine T.ofx (T.x_slCell (o := 0) (j := 2) rfl rfl (hM.slin HB.out) T.TS.out rfl) ?_))))); (try simp only [Act.put, List.setIfInBounds_toArray, List.set_cons_zero, List.set_cons_succ])) | (go_step) | ((fail_if_success (with_reducible show T.Seq _ _ _ _ _ _ _)); (fail_if_success (with_reducible show T.OW _ _ _ _ _ _)); simp only [Int.not_lt, Int.not_le] at *; go_simp))
  go_loopg [3, 19] (n + 1) (fun kq v3 v19 Wd => ∃ (i : Nat) (rws : List (Value × List Int)), v19 = .int .i64 i ∧ i ≤ n ∧ n - i < kq ∧ rws.length = i ∧ rws.map (·.2) = (ps.take i).map T.pbytes1 ∧ Aside0 (T.Mem w none Wd (.g v3 37 1 i (rws.map (·.1)) :: rws.map T.rwItem)))
  case atStart => exact ⟨0, [], rfl, by omega, by omega, rfl, rfl, ⟨hM.nil 37 1⟩⟩
  case round =>
    clear hM
    obtain ⟨i, rws, rfl, hi, hg, hrl, hrm, hMo⟩ := hrel
    have HRL := Aside0.mk hrl
    have HRM := Aside0.mk hrm
    have hM := hMo.out
    clear hMo hrl hrm
    obtain ⟨A3, c3, rfl⟩ := T.own_slice (hM.row _ (.head _)).1
    by_cases hlt : i < n
    · skip
      have hltz : (i : Int) < (n : Int) := by omega
      have cb : decide ((i : Int) < (n : Int)) = true := decide_eq_true hltz
      have hi0 : (0 : Int) ≤ (i : Int) := by omega
      have hip : i < ps.length := by rw [HN.out]; exact hlt
      have HS0 := Aside0.mk (show T.Sl w (.slice A n c) n (T.rc T.PartV.cells ps) by have := HS.out.s; rwa [HN.out] at this)
      obtain ⟨b, o, rfl⟩ := HS0.out.adr (by omega)
      have H1 := Aside0.mk (T.rc_at (enc := T.PartV.cells) (k := 136) (fun y hy => y.len (HS.out.k y hy).h) i hip)
      have kx := HS.out.k _ (List.getElem_mem hip)
      have hxl := HS.out.l _ (List.getElem_mem hip)
      have hxf := HF.out.l _ (List.getElem_mem hip)
      have hxt := HFIT.out _ (List.getElem_mem hip)
      have HTK := Aside0.mk (show (ps.take (i + 1)).map T.pbytes1 = (ps.take i).map T.pbytes1 ++ [T.pbytes1 (ps[i])] by rw [List.take_succ_eq_append_getElem hip, List.map_append]; rfl)
      have hn100 : n ≤ 100 := by have := HF.out.n; have := HN.out; omega
      generalize ps[i] = x at *
      clear hip
      have hx2 : x.cells.length = 136 := x.len kx.h
      have hxo := x.ones kx.s
      have hz136 : (T.Head.zero.cells ++ [T.nilS]).length = 136 := rfl
      have hhl := x.h.len kx.h
      have hh : (x.cells.drop 0).take 135 = x.h.cells := by rw [List.drop_zero, T.PartV.cells, ← hhl, List.take_left]
      have hx135 := x.at135 kx.h
      obtain ⟨Al, cl, hl, _, _, _⟩ := id hxl
      rw [hl] at hx135
      have HXL := Aside0.mk (show T.Sl w (.slice Al x.ids.length cl) x.ids.length (T.rc T.u8s x.ids) by rw [← hl]; exact hxl)
      have HL176 := Aside0.mk (T.hput_len x.h kx.h)
      clear hl hxl
      repeat' (first | (go_at_call 33; refine (T.hput_yes x.h kx.h kx.n hxt _).mono ?_; rintro _ wr ⟨v, rfl, ho, h1, hbc⟩; rw [HL176.out] at ho; (obtain ⟨Ag, cg, rfl⟩ := T.own_slice ho); replace hM := hM.callG hbc ho h1; clear hbc ho h1) | (go_at_call 45; refine (T.must_calls _).mono ?_; rintro _ _ ⟨rfl, hbc⟩; replace hM := hM.call hbc; clear hbc) | ((((((with_reducible show wpList _ _ _ _ _ _); (refine T.w_o rfl ?_)))); first | ((with_reducible show T.OW _ ⟨_, .load _ _, _, _, _, _⟩ _ _ _ _); first | (refine T.ofx (T.x_slRow rfl rfl (hM.slin HS0.out) T.TU.out T.TN.out H1.out hx2) ?_) | (refine T.ofx (T.x_loadAgg rfl rfl T.Fd.out T.TU.out T.TN.out (by ((omega))) hh hM) ?_) | (refine T.ofx (T.x_load rfl rfl T.Fd.out T.TS.out hx135 hM) ?_)) | ((with_reducible show T.OW _ ⟨_, .store _ _ _, _, _, _, _⟩ _ _ _ _); ((refine T.op_storeAll _ _ _ rfl _ rfl _ rfl _ _ hM (by (repeat ((exact T.Sub.head _)))) _ T.TN.out (by ((with_reducible assumption))) (by ((with_reducible assumption))) (by ((with_reducible assumption))) ?_; clear hM; intro wld hM))) | ((with_reducible show T.OW _ ⟨_, .alloc _, _, _, _, _⟩ _ _ _ _); refine T.op_alloc _ rfl _ T.TZ.out hM ?_; clear hM; intro blk wld hM hlt) | ((with_reducible show T.OW _ ⟨_, .buildSlice _ _ _, _, _, _, _⟩ _ _ _ _); refine T.op_buildSl _ _ _ rfl _ T.TL.out _ T.TN.out _ T.TZ.out rfl (by decide) (by decide) _ rfl (by (((simp [T.okp, Value.cells, Act.eval, *]; done)))) _ rfl hM ?_; (try simp only [List.map_toArray, List.map_cons, List.map_nil, Act.eval, Array.getD_eq_getD_getElem?, List.toList_toArray, List.getElem?_toArray, List.getElem?_cons_zero, List.getElem?_cons_succ, Option.getD_some, T.segs, List.replicate_succ, List.replicate_zero, List.set_cons_zero, List.set_cons_succ, Value.cells, List.flatten_cons, List.flatten_nil, List.append_nil, List.cons_append, List.nil_append]); clear hM; intro blk wld hM hlt)); (try simp only [Act.put, List.setIfInBounds_toArray, List.set_cons_zero, List.set_cons_succ])) | (go_step) | ((fail_if_success (with_reducible show T.Seq _ _ _ _ _ _ _)); (fail_if_success (with_reducible show T.OW _ _ _ _ _ _)); simp only [Int.not_lt, Int.not_le] at *; go_simp))
      replace hM := hM.shutB (sz := 1) 1 rfl (by decide) (T.one_ones rfl)
      have hxf2 := hxf
      go_loopg [8, 36] (x.ids.length + 1) (fun kq v8 v36 Wd => ∃ (j : Nat) (r : List (Nat × List Int)), v36 = .int .i64 j ∧ j ≤ x.ids.length ∧ x.ids.length - j < kq ∧ r.length = j ∧ r.map (·.2) = x.ids.take j ∧ Aside0 (T.Mem w none Wd (.g v8 37 1 (j + 1) (.slice Ag 176 cg :: r.map T.idVal) :: .g (.slice Ag 176 cg) 5 1 176 (T.u8s (T.hput x.h)) :: .g (.slice A3 i c3) 37 1 i (rws.map (·.1)) :: (r.map T.idItem ++ rws.map T.rwItem))))
      case atStart => exact ⟨0, [], rfl, by omega, by omega, rfl, rfl, ⟨hM.drop (by (repeat (first | exact List.Sublist.refl _ | apply List.Sublist.cons_cons | apply List.Sublist.cons)))⟩⟩
      case round =>
        clear hM
        obtain ⟨j, r, rfl, hj, hgj, hrj, hrt, hMo⟩ := hrel
        have HRJ := Aside0.mk hrj
        have HRT := Aside0.mk hrt
        have hM := hMo.out
        clear hMo hrj hrt
        by_cases hlj : j < x.ids.length
        · have hljz : (j : Int) < (x.ids.length : Int) := by omega
          have cj : decide ((j : Int) < (x.ids.length : Int)) = true := decide_eq_true hljz
          have hj0 : (0 : Int) ≤ (j : Int) := by omega
          obtain ⟨bi, oi, rfl⟩ := HXL.out.adr (by omega)
          have HI := Aside0.mk (T.rc_at (enc := T.u8s) (k := 32) (fun y hy => by rw [encs_length]; exact kx.k y hy) j hlj)
          have hyl := kx.k _ (List.getElem_mem hlj)
          have HTJ := Aside0.mk (show x.ids.take (j + 1) = x.ids.take j ++ [x.ids[j]] from List.take_succ_eq_append_getElem hlj)
          generalize x.ids[j] = y at *
          clear hlj
          have hyu : (T.u8s y).length = 32 := by rw [encs_length]; exact hyl
          repeat' (first | ((((((with_reducible show wpList _ _ _ _ _ _); (refine T.w_o rfl ?_)))); first | ((with_reducible show T.OW _ ⟨_, .load _ _, _, _, _, _⟩ _ _ _ _); ((refine T.ofx (T.x_slRow rfl rfl (hM.slin HXL.out) T.TU.out T.TN.out HI.out hyu) ?_))) | ((with_reducible show T.OW _ ⟨_, .store _ _ _, _, _, _, _⟩ _ _ _ _); ((refine T.op_storeAll _ _ _ rfl _ rfl _ rfl _ _ hM (by (repeat ((exact T.Sub.head _)))) _ T.TN.out (by ((with_reducible assumption))) (by ((exact T.ones_encs _ _))) (by ((rfl))) ?_; clear hM; intro wld hM))) | ((with_reducible show T.OW _ ⟨_, .alloc _, _, _, _, _⟩ _ _ _ _); refine T.op_alloc _ rfl _ T.TZ.out hM ?_; clear hM; intro blk wld hM hlt) | ((with_reducible show T.OW _ ⟨_, .call ⟨.builtin .append, _, _⟩, _, _, _, _⟩ _ _ _ _); refine T.op_app _ _ _ rfl _ _ _ T.TE.out _ _ _ rfl _ _ _ hM (fun _ => by (repeat (first | exact T.Sub.head _ | apply T.Sub.tail))) (by (exact T.Mem.slB hM T.Fd.out (by ((exact T.one_ones rfl))) (by decide))) (by ((rfl))) (by decide) (by decide) (by ((omega))) ?_; clear hM; intro gsv wld hM) | ((with_reducible show T.OW _ ⟨_, .buildSlice _ _ _, _, _, _, _⟩ _ _ _ _); refine T.op_buildSl _ _ _ rfl _ T.TL.out _ T.TN.out _ T.TZ.out rfl (by decide) (by decide) _ rfl (by (((simp [T.okp, Value.cells, Act.eval, *]; done)))) _ rfl hM ?_; (try simp only [List.map_toArray, List.map_cons, List.map_nil, Act.eval, Array.getD_eq_getD_getElem?, List.toList_toArray, List.getElem?_toArray, List.getElem?_cons_zero, List.getElem?_cons_succ, Option.getD_some, T.segs, List.replicate_succ, List.replicate_zero, List.set_cons_zero, List.set_cons_succ, Value.cells, List.flatten_cons, List.flatten_nil, List.append_nil, List.cons_append, List.nil_append]); clear hM; intro blk wld hM hlt)); (try simp only [Act.put, List.setIfInBounds_toArray, List.set_cons_zero, List.set_cons_succ])) | (go_step))
          obtain ⟨bj, rfl⟩ := T.n2 hM
          go_roundg (x.ids.length - j)
          case measure => omega
          case rel =>
            refine ⟨j + 1, r ++ [(bj, y)], (by (go_num)), by omega, by omega, by rw [List.length_append, HRJ.out]; rfl, by rw [List.map_append, HRT.out, HTJ.out]; rfl, ⟨?_⟩⟩
            have hM2 := (hM.drop (.cons _ (List.Sublist.refl _))).perm (List.perm_middle (l₁ := .g _ 37 1 (j + 1 + 1) _ :: .g (.slice Ag 176 cg) 5 1 176 (T.u8s (T.hput x.h)) :: .g (.slice A3 i c3) 37 1 i (rws.map (·.1)) :: r.map T.idItem) (l₂ := rws.map T.rwItem) (a := .b bj 44 (T.u8s y))).symm
            rw [List.map_append, List.map_append, List.append_assoc]
            exact hM2
        · have hjN : j = x.ids.length := by omega
          have hljz : ¬ (j : Int) < (x.ids.length : Int) := by omega
          have cj : decide ((j : Int) < (x.ids.length : Int)) = false := decide_eq_false hljz
          obtain ⟨A8, c8, rfl⟩ := T.own_slice (hM.row _ (.head _)).1
          have hids : r.map (·.2) = x.ids := by rw [HRT.out, hjN, List.take_length]
          have HIDS := Aside0.mk hids
          have HRW := Aside0.mk (T.rws_inner (T.hput x.h) r (j + 1) (by rw [HRJ.out]) HL176.out (fun q hq => kx.k _ (by rw [← hids]; exact List.mem_map_of_mem hq)) hM)
          have HR1 := Aside0.mk (show ((Value.slice Ag 176 cg, T.hput x.h) :: r.map fun q => (T.idVal q, q.2)).length ≤ 255 by rw [List.length_cons, List.length_map, HRJ.out]; omega)
          have HR2 := Aside0.mk (show ∀ p ∈ ((Value.slice Ag 176 cg, T.hput x.h) :: r.map fun q => (T.idVal q, q.2)), p.2.length ≤ 65535 from fun p hp => by
            rcases List.mem_cons.1 hp with rfl | hp
            · show (T.hput x.h).length ≤ 65535
              rw [HL176.out]
              omega
            · obtain ⟨q, hq, rfl⟩ := List.mem_map.1 hp
              show q.2.length ≤ 65535
              rw [kx.k q.2 (by rw [← hids]; exact List.mem_map_of_mem hq)]
              omega)
          have HPB := Aside0.mk (show T.rowsB (((Value.slice Ag 176 cg, T.hput x.h) :: r.map fun q => (T.idVal q, q.2)).map (·.2)) = T.pbytes1 x by
            rw [List.map_cons, List.map_map, T.pbytes1, ← hids]
            rfl)
          clear hids hjN
          repeat' (first | (go_at_call 46; refine (T.prows_calls _ HR1.out HR2.out _ _ HRW.out).mono ?_; rintro _ wr ⟨v, rfl, ho, h1, hbc⟩; rw [HPB.out] at ho h1; (obtain ⟨Ah, ch, rfl⟩ := T.own_slice ho); replace hM := hM.callG hbc ho h1; clear hbc ho h1) | ((((((with_reducible show wpList _ _ _ _ _ _); (refine T.w_o rfl ?_)))); first | ((with_reducible show T.OW _ ⟨_, .call ⟨.builtin .append, _, _⟩, _, _, _, _⟩ _ _ _ _); refine T.op_app _ _ _ rfl _ _ _ T.TE.out _ _ _ rfl _ _ _ hM (fun _ => by (repeat (first | exact T.Sub.head _ | apply T.Sub.tail))) (by (exact T.Mem.slB hM T.Fd.out (by ((exact T.one_ones rfl))) (by decide))) (by ((rfl))) (by decide) (by decide) (by ((omega))) ?_; clear hM; intro gsv wld hM) | ((with_reducible show T.OW _ ⟨_, .buildSlice _ _ _, _, _, _, _⟩ _ _ _ _); refine T.op_buildSl _ _ _ rfl _ T.TL.out _ T.TN.out _ T.TZ.out rfl (by decide) (by decide) _ rfl (by (((simp [T.okp, Value.cells, Act.eval, *]; done)))) _ rfl hM ?_; (try simp only [List.map_toArray, List.map_cons, List.map_nil, Act.eval, Array.getD_eq_getD_getElem?, List.toList_toArray, List.getElem?_toArray, List.getElem?_cons_zero, List.getElem?_cons_succ, Option.getD_some, T.segs, List.replicate_succ, List.replicate_zero, List.set_cons_zero, List.set_cons_succ, Value.cells, List.flatten_cons, List.flatten_nil, List.append_nil, List.cons_append, List.nil_append]); clear hM; intro blk wld hM hlt)); (try simp only [Act.put, List.setIfInBounds_toArray, List.set_cons_zero, List.set_cons_succ])) | (go_step) | ((fail_if_success (with_reducible show T.Seq _ _ _ _ _ _ _)); (fail_if_success (with_reducible show T.OW _ _ _ _ _ _)); simp only [Int.not_lt, Int.not_le] at *; go_simp))
          go_roundg (n - i)
          case measure => omega
          case rel =>
            refine ⟨i + 1, rws ++ [(.slice Ah (T.pbytes1 x).length ch, T.pbytes1 x)], (by (go_num)), by omega, by omega, by rw [List.length_append, HRL.out]; rfl, by rw [List.map_append, HRM.out, HTK.out]; rfl, ⟨?_⟩⟩
            have hM2 := (hM.drop (.cons _ (.cons_cons _ (.cons _ (.cons _ (.cons_cons _ (List.sublist_append_right _ _))))))).perm (List.perm_append_singleton _ _).symm
            rw [List.map_append, List.map_append]
            exact hM2
    · have hiN : i = n := by omega
      have hltz : ¬ (i : Int) < (n : Int) := by omega
      have cb : decide ((i : Int) < (n : Int)) = false := decide_eq_false hltz
      have hrws : rws.map (·.2) = ps.map T.pbytes1 := by rw [HRM.out, hiN, ← HN.out, List.take_length]
      have HRWS := Aside0.mk hrws
      have HR1 := Aside0.mk (show rws.length ≤ 255 by have := HRL.out; have := HF.out.n; have := HN.out; omega)
      have HPL := Aside0.mk (show ∀ p ∈ rws, p.2.length ≤ 5875 from fun p hp => by
        have h1 : p.2 ∈ rws.map (·.2) := List.mem_map_of_mem hp
        rw [hrws] at h1
        obtain ⟨q, hq, hqe⟩ := List.mem_map.1 h1
        rw [← hqe]
        exact T.pb1_len q (HS.out.k q hq) (HF.out.l q hq))
      have HR2 := Aside0.mk (show ∀ p ∈ rws, p.2.length ≤ 65535 from fun p hp => Nat.le_trans (HPL.out p hp) (by decide))
      have hnb : (T.rowsB (rws.map (·.2))).length ≤ 1000000 := by
        have h1 := T.blobs_len (rws.map (·.2)) 5875 (fun b hb => by
          obtain ⟨p, hp, rfl⟩ := List.mem_map.1 hb
          exact HPL.out p hp)
        rw [List.length_map] at h1
        have h2 := HRL.out
        have h3 := HF.out.n
        have h4 := HN.out
        rw [T.rowsB, List.length_cons]
        omega
      have hul : (T.u8s (T.rowsB (rws.map (·.2)))).length = (T.rowsB (rws.map (·.2))).length * 1 := by rw [encs_length, Nat.mul_one]
      have HIR := Aside0.mk (show i = rws.length from HRL.out.symm)
      clear hrws hiN
      repeat' (first | ((with_reducible show Code.wp _ (Code.region 16 _ true) _ _ _); refine T.mregion 16 (.p 0 (.p 1 (.p 2 (.p 3 (.t 4 (.p 5 (.p 6 (.p 7 (.p 8 (.p 9 (.t 10 (.p 11 (.p 13 (.f 12 14 (.a 14 (.a 15 (.p 16 .nil))) (.a 12 (.a 15 (.p 16 .nil))))))))))))))))) 1000 (by kernel_rfl) (fun _ _ _ _ h => h) hM (List.Sublist.refl _) ?_; clear hM; intro wld hM) | (go_at_call 46; refine (T.prows_calls rws HR1.out HR2.out (.slice A3 i c3) _ (T.rws_outer (v := .slice A3 i c3) rws i HIR.out hM (by (repeat (first | exact List.Mem.head _ | apply List.Mem.tail))) (fun p hp => by repeat (first | exact List.mem_map_of_mem (f := T.rwItem) hp | apply List.Mem.tail)))).mono ?_; rintro _ wr ⟨v, rfl, ho, h1, hbc⟩; (obtain ⟨Ag, cg, rfl⟩ := T.own_slice ho); replace hM := hM.callG hbc ho h1; clear hbc ho h1) | ((with_reducible show T.OW _ ⟨_, .call ⟨.builtin .append, _, _⟩, _, _, _, _⟩ _ _ _ _); (first | replace hM := hM.shutB (sz := 1) 2 rfl (by decide) (T.ones_all rfl) | replace hM := (hM.perm (List.Perm.swap _ _ _)).shutB (sz := 1) 2 rfl (by decide) (T.ones_all rfl)); refine T.op_app _ _ _ rfl _ _ _ T.TE.out _ _ _ rfl _ _ _ hM (fun _ => by (repeat ((exact T.Sub.head _)))) (T.Mem.gsl hM (.tail _ (.head _))) (by ((with_reducible assumption))) (by decide) (by decide) (by ((omega))) ?_; clear hM; intro gsv wld hM) | (((first | ((with_reducible show wpList _ _ _ _ _ _); (refine T.w_o rfl ?_)) | (with_reducible show T.OW _ _ _ _ _ _)); (((with_reducible show T.OW _ ⟨_, .buildSlice _ _ _, _, _, _, _⟩ _ _ _ _); refine T.op_buildSl _ _ _ rfl _ T.TL.out _ T.TN.out _ T.TZ.out rfl (by decide) (by decide) _ rfl (by (((simp [T.okp, Value.cells, Act.eval, *]; done)))) _ rfl hM ?_; (try simp only [List.map_toArray, List.map_cons, List.map_nil, Act.eval, Array.getD_eq_getD_getElem?, List.toList_toArray, List.getElem?_toArray, List.getElem?_cons_zero, List.getElem?_cons_succ, Option.getD_some, T.segs, List.replicate_succ, List.replicate_zero, List.set_cons_zero, List.set_cons_succ, Value.cells, List.flatten_cons, List.flatten_nil, List.append_nil, List.cons_append, List.nil_append]); clear hM; intro blk wld hM hlt))); (try simp only [Act.put, List.setIfInBounds_toArray, List.set_cons_zero, List.set_cons_succ])) | ((with_reducible show T.Seq _ _ _ _ _ _ _); first | ((with_reducible show T.Seq _ _ _ (.p _ _) _ _ _); ((apply T.sq_p rfl rfl; (focus intro wS; ((go_simp; with_reducible rfl))); (try simp only [Act.put, List.setIfInBounds_toArray, List.set_cons_zero, List.set_cons_succ])))) | ((with_reducible show T.Seq _ _ _ (.t _ _) _ _ _); ((apply T.sq_t rfl rfl; (focus intro wS hS; first | exact T.x_slCell (o := 0) (j := 0) rfl rfl (hS.slin HB.out) T.TS.out rfl | exact T.x_slCell (o := 0) (j := 1) rfl rfl (hS.slin HB.out) T.TS.out rfl); (try simp only [Act.put, List.setIfInBounds_toArray, List.set_cons_zero, List.set_cons_succ])))) | ((with_reducible show T.Seq _ _ _ .nil _ _ _); refine T.sq_nil ?_) | ((with_reducible show T.Seq _ _ _ (.f _ _ _ _) _ _ _); refine T.sq_f ?_ ?_) | ((with_reducible show T.Seq _ _ _ (.a _ _) _ _ _); refine T.sq_a rfl rfl (fun K hK => ?_))) | (go_at_K; refine hK.out _ _ _ (hM.drop (by (repeat (first | exact List.Sublist.refl _ | apply List.Sublist.cons)))) (List.Sublist.refl _) ?_; clear hK K; (try simp only [Act.put, List.setIfInBounds_toArray, List.set_cons_zero, List.set_cons_succ])) | ((with_reducible show T.OW _ ⟨_, .call _, _, _, _, _⟩ _ _ _ _); refine T.OW.mk ?_; go_simp) | (go_step) | go_back | ((fail_if_success (with_reducible show T.Seq _ _ _ _ _ _ _)); (fail_if_success (with_reducible show T.OW _ _ _ _ _ _)); simp only [Int.not_lt, Int.not_le] at *; go_simp))
      all_goals subst hP
      all_goals have hN : (T.pbytes m k ps).length = 2 + (T.rowsB (rws.map (·.2))).length := by rw [HRWS.out, T.pbytes, List.length_cons, List.length_cons]; omega
      all_goals have hE := hM.eg (.head _)
      all_goals rw [hN, T.pbytes, ← HRWS.out]
      all_goals exact hE
theorem T.put1_calls {w0 w : World} {L : List T.Blk} (X : T.Blk) (m k : Int) (ps : List T.PartV) (A : Option Addr) (n c : Nat) (hn : ps.length = n) (hf : T.pfit m k ps) (hS : T.PsAt w0 (.slice A n c) ps) (hfit : ∀ p ∈ ps, p.h.fit = true) (b5 b4 b9 : Nat)
    (hM : T.Mem w0 none w (X :: .b b5 37 [T.nilS] :: .b b4 70 [.pointer (some ⟨b9, 0, none⟩)] :: .b b9 72 [.int .i64 m, .int .i64 k, .slice A n c] :: L)) :
    Calls Tryz.prog 24 #[.pointer (some ⟨b4, 0, none⟩), .pointer (some ⟨b5, 0, none⟩)] w fun e w' => e = .returned (.tuple #[]) ∧ ∃ v, True ∧ T.Mem w0 none w' (X :: (.g v 5 1 (T.pbytes m k ps).length (T.u8s (T.pbytes m k ps)) :: .b b5 37 [v] :: .b b4 70 [.pointer (some ⟨b9, 0, none⟩)] :: .b b9 72 [.int .i64 m, .int .i64 k, .slice A n c] :: L)) := by
  have HS := Aside0.mk hS
  have HN := Aside0.mk hn
  have HF := Aside0.mk hf
  have HFIT := Aside0.mk hfit
  clear hS hn hf hfit
  generalize hP : (fun (e : Ending) w' => e = .returned (.tuple #[]) ∧ ∃ v, True ∧ T.Mem w0 none w' (X :: (.g v 5 1 (T.pbytes m k ps).length (T.u8s (T.pbytes m k ps)) :: .b b5 37 [v] :: .b b4 70 [.pointer (some ⟨b9, 0, none⟩)] :: .b b9 72 [.int .i64 m, .int .i64 k, .slice A n c] :: L))) = Post
  go_enter Tryz.func24, Tryz.ntmps24
  repeat' (first | (go_at_call 25; refine (T.write_calls m k ps A n c HN.out HF.out b9 _ (hM.slB (.tail _ (.tail _ (.tail _ (.head _)))) (T.ones_all rfl) (Nat.le_refl _)) (HS.out.kept hM.below) HFIT.out).mono ?_; rintro _ wr ⟨v, rfl, ho, h1, hbc⟩; (obtain ⟨Ag, cg, rfl⟩ := T.own_slice ho); replace hM := hM.callG hbc ho h1; clear hbc ho h1) | ((((((with_reducible show wpList _ _ _ _ _ _); (refine T.w_o rfl ?_)))); first | ((with_reducible show T.OW _ ⟨_, .load _ _, _, _, _, _⟩ _ _ _ _); ((refine T.ofx (T.x_load rfl rfl T.Fd.out T.TS.out rfl hM) ?_))) | ((with_reducible show T.OW _ ⟨_, .store _ _ _, _, _, _, _⟩ _ _ _ _); ((refine T.op_storeAll _ _ _ rfl _ rfl _ rfl _ _ hM (by (repeat (first | exact T.Sub.head _ | apply T.Sub.tail))) _ T.TN.out (by ((rfl))) (by ((exact T.one_ones rfl))) (by ((rfl))) ?_; clear hM; intro wld hM)))); (try simp only [Act.put, List.setIfInBounds_toArray, List.set_cons_zero, List.set_cons_succ])) | (go_step) | ((fail_if_success (with_reducible show T.Seq _ _ _ _ _ _ _)); (fail_if_success (with_reducible show T.OW _ _ _ _ _ _)); simp only [Int.not_lt, Int.not_le] at *; go_simp))
  (refine bodyPost_ret (results_none rfl _ _ _) rfl ?_)
  subst hP
  exact ⟨rfl, _, trivial, hM.perm (List.Perm.swap _ _ _)⟩
theorem T.pput_calls (m k : Int) (ps : List T.PartV) (A : Option Addr) (n c : Nat) (hn : ps.length = n) (hf : T.pfit m k ps) (w : World) (hS : T.PsAt w (.slice A n c) ps) (hfit : ∀ p ∈ ps, p.h.fit = true) :
    Calls Tryz.prog 11 #[.agg #[.int .i64 m, .int .i64 k, .slice A n c]] w (T.EGT (T.pbytes m k ps) w) := by
  have hM := T.Mem.start w
  have HS := Aside0.mk hS
  have HN := Aside0.mk hn
  have HF := Aside0.mk hf
  have HFIT := Aside0.mk hfit
  clear hS hn hf hfit
  generalize hP : T.EGT (T.pbytes m k ps) w = Post
  have hz3 : [Value.int .i64 m, Value.int .i64 k, .slice A n c].length = 3 := rfl
  have heg : ∀ args w, (callFunc 24 args).run Tryz.prog w = .ok (.enter 24 args) w := fun args w => by go_simp
  have HEG := Aside0.mk heg
  clear heg
  go_enter Tryz.func11, Tryz.ntmps11
  repeat' (first | (go_at_call 23; refine (T.fine_calls 24 #[_, _] HEG.out (fun v => .g v 5 1 (T.pbytes m k ps).length (T.u8s (T.pbytes m k ps)) :: .b _ 37 [v] :: .b _ 70 [.pointer (some ⟨_, 0, none⟩)] :: .b _ 72 [.int .i64 m, .int .i64 k, .slice A n c] :: _) (fun _ => True) hM (fun W b2 hW => T.put1_calls _ m k ps A n c HN.out HF.out HS.out HFIT.out _ _ _ hW)).mono ?_; rintro _ w2 ⟨rfl, v, _, hM2⟩; (obtain ⟨Ag, cg, rfl, _⟩ := hM2.gsl (.head _)); clear hM; have hM := hM2; clear hM2) | ((((((with_reducible show wpList _ _ _ _ _ _); (refine T.w_o rfl ?_)))); first | ((with_reducible show T.OW _ ⟨_, .load _ _, _, _, _, _⟩ _ _ _ _); first | (refine T.ofx (T.x_load rfl rfl T.Fd.out T.TS.out rfl hM) ?_) | (refine T.ofx (T.x_loadAll rfl rfl T.Fd.out T.TU.out T.TN.out (by ((with_reducible assumption))) hM) ?_)) | ((with_reducible show T.OW _ ⟨_, .store _ _ _, _, _, _, _⟩ _ _ _ _); ((refine T.op_storeAll _ _ _ rfl _ rfl _ rfl _ _ hM (by (repeat ((exact T.Sub.head _)))) _ T.TN.out (by ((rfl))) (by ((exact T.one_ones rfl))) (by ((rfl))) ?_; clear hM; intro wld hM))) | ((with_reducible show T.OW _ ⟨_, .alloc _, _, _, _, _⟩ _ _ _ _); refine T.op_alloc _ rfl _ T.TZ.out hM ?_; clear hM; intro blk wld hM hlt) | ((with_reducible show T.OW _ ⟨_, .box _ _, _, _, _, _⟩ _ _ _ _); refine T.op_box _ _ rfl _ rfl hM ?_; clear hM; intro blk wld hM hlt) | ((with_reducible show T.OW _ ⟨_, .build _ _, _, _, _, _⟩ _ _ _ _); ((refine T.ofx (T.x_build rfl inferInstance rfl (by (((simp [T.okp, Value.cells, Act.eval, *]; done)))) rfl) ?_; (try simp only [List.map_toArray, List.map_cons, List.map_nil, Act.eval, Array.getD_eq_getD_getElem?, List.toList_toArray, List.getElem?_toArray, List.getElem?_cons_zero, List.getElem?_cons_succ, Option.getD_some, T.segs, List.replicate_succ, List.replicate_zero, List.set_cons_zero, List.set_cons_succ, Value.cells, List.flatten_cons, List.flatten_nil, List.append_nil, List.cons_append, List.nil_append]))))); (try simp only [Act.put, List.setIfInBounds_toArray, List.set_cons_zero, List.set_cons_succ])) | (go_step) | go_back | ((fail_if_success (with_reducible show T.Seq _ _ _ _ _ _ _)); (fail_if_success (with_reducible show T.OW _ _ _ _ _ _)); simp only [Int.not_lt, Int.not_le] at *; go_simp))
  subst hP
  exact ⟨_, rfl, (hM.row _ (.head _)).1, (hM.row _ (.head _)).2, hM.below⟩
def T.gets (b : List Int) : Nat → Int
  | 0 => 0
  | i + 1 => Go.bits .or .u64 (IntKind.u64.wrap (T.gets b i * 256)) (IntKind.u64.wrap (T.gi b i))
theorem T.get_no (A : Option Addr) (n c : Nat) (p size : Nat) (h8 : size ≤ 8) (hp : p ≤ n) (hps : n < p + size) (hn : n ≤ 1000000000) (w : World) :
    Calls Tryz.prog 127 #[.slice A n c, .int .i64 p, .int .i64 size] w (T.E (.tuple #[.int .u64 0, .bool false]) w) := by
  have hM := T.Mem.start w
  generalize hP : T.E (.tuple #[.int .u64 0, .bool false]) w = Post
  have d1 : decide ((size : Int) < 0) = false := decide_eq_false (by omega)
  have d2 : decide (8 < (size : Int)) = false := decide_eq_false (by omega)
  have d2' : decide (8 < size) = false := decide_eq_false (by omega)
  have d3 : decide ((p : Int) < 0) = false := decide_eq_false (by omega)
  have d4 : decide ((n : Int) < (p : Int)) = false := decide_eq_false (by omega)
  have d4' : decide (n < p) = false := decide_eq_false (by omega)
  have e1 : IntKind.i64.wrap ((n : Int) - (p : Int)) = ((n - p : Nat) : Int) := by rw [T.w64 (by omega) (by omega)]; omega
  have d5 : decide (((n - p : Nat) : Int) < (size : Int)) = true := decide_eq_true (by omega)
  have d5' : decide (n - p < size) = true := decide_eq_true (by omega)
  clear hp hps h8
  go_enter Tryz.func127, Tryz.ntmps127
  repeat' (first | go_guarded | (go_step) | go_back)
  subst hP
  exact ⟨rfl, hM.below⟩
theorem T.u8s_at (l : List Int) (i : Nat) (h : i < l.length) : (T.u8s l)[i]? = some (.int .u8 (T.gi l i)) := by
  simp [T.u8s, encs, T.gi, h]
theorem T.get_yes (b o n c : Nat) (bs : List Int) (p size : Nat) (h1 : 1 ≤ size) (h8 : size ≤ 8) (hps : p + size ≤ n) (hn : n ≤ 1000000000) (hl : bs.length = n) (w : World) (hS : T.Sl w (.slice (some ⟨b, o, none⟩) n c) n (T.u8s bs)) :
    Calls Tryz.prog 127 #[.slice (some ⟨b, o, none⟩) n c, .int .i64 p, .int .i64 size] w (T.E (.tuple #[.int .u64 (T.gets (bs.drop p) size), .bool true]) w) := by
  have hM := T.Mem.start w
  have HS := Aside0.mk hS
  have HL := Aside0.mk hl
  have hcap := hS.cap
  clear hS hl
  generalize hP : T.E (.tuple #[.int .u64 (T.gets (bs.drop p) size), .bool true]) w = Post
  have d1 : decide ((size : Int) < 0) = false := decide_eq_false (by omega)
  have d2 : decide (8 < (size : Int)) = false := decide_eq_false (by omega)
  have d2' : decide (8 < size) = false := decide_eq_false (by omega)
  have d3 : decide ((p : Int) < 0) = false := decide_eq_false (by omega)
  have d4 : decide ((n : Int) < (p : Int)) = false := decide_eq_false (by omega)
  have d4' : decide (n < p) = false := decide_eq_false (by omega)
  have e1 : IntKind.i64.wrap ((n : Int) - (p : Int)) = ((n - p : Nat) : Int) := by rw [T.w64 (by omega) (by omega)]; omega
  have d5 : decide (((n - p : Nat) : Int) < (size : Int)) = false := decide_eq_false (by omega)
  have d5' : decide (n - p < size) = false := decide_eq_false (by omega)
  have e2 : IntKind.i64.wrap ((p : Int) + (size : Int)) = ((p + size : Nat) : Int) := by rw [T.w64 (by omega) (by omega)]; omega
  have k1 : (p : Int) ≤ ((p + size : Nat) : Int) := by omega
  have k2 : ((p + size : Nat) : Int) ≤ (c : Int) := by omega
  have k3 : (0 : Int) ≤ (p : Int) := by omega
  have ncp : ¬ c = p := by omega
  have ess : p + size - p = size := by omega
  have HPS := Aside0.mk hps
  clear hps
  go_enter Tryz.func127, Tryz.ntmps127
  repeat' (first | go_guarded | (go_step))
  have HS2 : T.Sl w (.slice (some ⟨b, o + p, none⟩) (n - p) (c - p)) (n - p) (T.u8s (bs.drop p)) := by
    have h := HS.out.hi (i := p) (k := 1)
    rw [Nat.mul_one] at h
    rwa [T.u8s, encs, ← List.map_drop] at h
  have H2 := Aside0.mk HS2
  clear HS2
  go_loopg [8, 42] (size + 1) (fun kq v8 v42 Wd => ∃ i : Nat, v42 = .int .i64 i ∧ v8 = .int .u64 (T.gets (bs.drop p) i) ∧ i ≤ size ∧ size - i < kq ∧ Aside0 (T.Mem w none Wd []))
  case atStart => exact ⟨0, rfl, rfl, by omega, by omega, ⟨hM⟩⟩
  case round =>
    clear hM
    obtain ⟨i, rfl, rfl, hi, hg, hMo⟩ := hrel
    have hM := hMo.out
    clear hMo
    by_cases hlt : i < size
    · have hltz : (i : Int) < (size : Int) := by omega
      have cb : decide ((i : Int) < (size : Int)) = true := decide_eq_true hltz
      have hi0 : (0 : Int) ≤ (i : Int) := by omega
      have hX := Aside0.mk (show (T.u8s (bs.drop p))[i]? = some (.int .u8 (T.gi (bs.drop p) i)) from T.u8s_at _ _ (by rw [List.length_drop, HL.out]; have := HPS.out; omega))
      repeat' (first | ((((((with_reducible show wpList _ _ _ _ _ _); (refine T.w_o rfl ?_)))); (((with_reducible show T.OW _ ⟨_, .load _ _, _, _, _, _⟩ _ _ _ _); ((refine T.ofx (T.x_slCell (o := o + p) (j := i) rfl rfl (hM.slin H2.out) T.TS.out hX.out) ?_))))); (try simp only [Act.put, List.setIfInBounds_toArray, List.set_cons_zero, List.set_cons_succ])) | (go_step))
      go_roundg (size - i)
      case measure => omega
      case rel => exact ⟨i + 1, (by (go_num)), rfl, by omega, by omega, ⟨hM⟩⟩
    · have hiN : i = size := by omega
      have hltz : ¬ (i : Int) < (size : Int) := by omega
      have cb : decide ((i : Int) < (size : Int)) = false := decide_eq_false hltz
      repeat' (first | (go_step) | go_back | ((fail_if_success (with_reducible show T.Seq _ _ _ _ _ _ _)); (fail_if_success (with_reducible show T.OW _ _ _ _ _ _)); simp only [Int.not_lt, Int.not_le] at *; go_simp))
      subst hP
      exact ⟨rfl, hM.below⟩
theorem T.toNat2 : Int.toNat 2 = 2 := rfl
theorem T.gets_app (a b : List Int) : ∀ n, n ≤ a.length → T.gets (a ++ b) n = T.gets a n
  | 0, _ => rfl
  | n + 1, h => by
    rw [T.gets, T.gets, T.gets_app a b n (by omega)]
    have h2 : T.gi (a ++ b) n = T.gi a n := by
      rw [T.gi, T.gi, List.getD_eq_getElem?_getD, List.getD_eq_getElem?_getD, List.getElem?_append_left (by omega)]
    rw [h2]
theorem T.Sl.mid {w : World} {b o n c : Nat} {cs : List Value} (h : T.Sl w (.slice (some ⟨b, o, none⟩) n c) n cs) (i k k' : Nat) (hk : k ≤ k') : T.Sl w (.slice (some ⟨b, o + i, none⟩) k k') k ((cs.drop i).take k) := by
  obtain ⟨A, c', e, hc, h1, h2⟩ := h
  cases e
  refine ⟨_, k', rfl, hk, fun u hu => h1 u (List.mem_of_mem_drop (List.mem_of_mem_take hu)), .inr ⟨b, o + i, rfl, ?_⟩⟩
  rcases h2 with ⟨_, _, _, rfl⟩ | ⟨b', o', e, hr⟩
  · exact fun j v hj => by simp at hj
  · cases e
    exact T.range_part hr i k
def T.WCut (x : List Int) (q : Nat) (w : World) (e : Ending) (w' : World) : Prop := ∃ v, e = .returned (.tuple #[v, .int .i64 q, .bool true]) ∧ w'.ownsRow w.heap.size 5 1 v x.length (T.u8s x) ∧ (∀ u ∈ T.u8s x, u.oneCell' = true) ∧ Below w.heap.size w w'
theorem T.get_noI (A : Option Addr) (n c : Nat) (p : Nat) (sz : Int) (h0 : 0 ≤ sz) (h8 : sz ≤ 8) (hp : p ≤ n) (hps : n < p + sz.toNat) (hn : n ≤ 1000000000) (w : World) :
    Calls Tryz.prog 127 #[.slice A n c, .int .i64 p, .int .i64 sz] w (T.E (.tuple #[.int .u64 0, .bool false]) w) := by
  have h := T.get_no A n c p sz.toNat (by omega) hp hps hn w
  rwa [Int.toNat_of_nonneg h0] at h
theorem T.get_yesI (b o n c : Nat) (bs : List Int) (p : Nat) (sz : Int) (h1 : 1 ≤ sz) (h8 : sz ≤ 8) (hps : p + sz.toNat ≤ n) (hn : n ≤ 1000000000) (hl : bs.length = n) (w : World) (hS : T.Sl w (.slice (some ⟨b, o, none⟩) n c) n (T.u8s bs)) :
    Calls Tryz.prog 127 #[.slice (some ⟨b, o, none⟩) n c, .int .i64 p, .int .i64 sz] w (T.E (.tuple #[.int .u64 (T.gets (bs.drop p) sz.toNat), .bool true]) w) := by
  have h := T.get_yes b o n c bs p sz.toNat (by omega) (by omega) hps hn hl w hS
  rwa [Int.toNat_of_nonneg (by omega)] at h
theorem T.cut_no (A : Option Addr) (n c : Nat) (hn : n ≤ 1000000000) (w : World) : Calls Tryz.prog 161 #[.slice A n c, .int .i64 n] w (T.E (.tuple #[T.nilS, .int .i64 0, .bool false]) w) := by
  have hM := T.Mem.start w
  generalize hP : T.E (.tuple #[T.nilS, .int .i64 0, .bool false]) w = Post
  have HP2 := Aside0.mk (show n < n + Int.toNat 2 by rw [T.toNat2]; omega)
  go_enter Tryz.func161, Tryz.ntmps161
  repeat' (first | (go_at_call 127; refine (T.get_noI A n c n 2 (by decide) (by decide) (Nat.le_refl _) HP2.out hn _).mono ?_; rintro _ _ ⟨rfl, hbc⟩; replace hM := hM.call hbc; clear hbc) | go_skip | (go_step) | ((fail_if_success (with_reducible show T.Seq _ _ _ _ _ _ _)); (fail_if_success (with_reducible show T.OW _ _ _ _ _ _)); simp only [Int.not_lt, Int.not_le] at *; go_simp))
  (refine T.ret_ttt rfl rfl _ _ _ rfl rfl rfl ?_)
  subst hP
  exact ⟨rfl, hM.below⟩
theorem T.cut_yes (b o n c : Nat) (bs x r : List Int) (p : Nat) (hp : p + 2 + x.length ≤ n) (h1 : 1 ≤ x.length) (hn : n ≤ 100000000) (hl : bs.length = n) (hd : bs.drop p = T.blob x ++ r) (hg : T.gets (T.put x.length 2) 2 = x.length) (w : World) (hS : T.Sl w (.slice (some ⟨b, o, none⟩) n c) n (T.u8s bs)) :
    Calls Tryz.prog 161 #[.slice (some ⟨b, o, none⟩) n c, .int .i64 p] w (T.WCut x (p + 2 + x.length) w) := by
  have hM := T.Mem.start w
  have hgx : T.gets (bs.drop p) 2 = x.length := by
    rw [hd, T.blob, List.append_assoc, T.gets_app _ _ 2 (by rw [T.put_len]; exact Nat.le_refl _), hg]
  have HGX := Aside0.mk hgx
  have hcap := hS.cap
  have H2 := Aside0.mk (show T.Sl w (.slice (some ⟨b, o + (p + 2), none⟩) x.length x.length) x.length (T.u8s x) by
    have h := hS.mid (p + 2) x.length x.length (Nat.le_refl _)
    have e : (((T.u8s bs).drop (p + 2)).take x.length) = T.u8s x := by
      rw [T.u8s, encs, ← List.map_drop, ← List.map_take, Nat.add_comm p 2]
      rw [Nat.add_comm 2 p, ← List.drop_drop, hd, T.blob, List.append_assoc, List.drop_left' (T.put_len _ _), List.take_left]
      rfl
    rwa [e] at h)
  have HS := Aside0.mk hS
  have HL := Aside0.mk hl
  clear hS hl hd hg hgx
  generalize hP : T.WCut x (p + 2 + x.length) w = Post
  generalize hq : x.length = q at *
  have HQ := Aside0.mk hq
  clear hq
  have HP2 := Aside0.mk (show p + Int.toNat 2 ≤ n by rw [T.toNat2]; omega)
  have e0 : IntKind.i64.wrap ((n : Int) - (p : Int)) = ((n - p : Nat) : Int) := by rw [T.w64 (by omega) (by omega)]; omega
  have e1 : IntKind.i64.wrap (((n - p : Nat) : Int) - 2) = ((n - p - 2 : Nat) : Int) := by rw [T.w64 (by omega) (by omega)]; omega
  have e2 : IntKind.i64.wrap (q : Int) = (q : Int) := T.w64 (by omega) (by omega)
  have e3 : IntKind.i64.wrap ((p : Int) + 2) = ((p + 2 : Nat) : Int) := by rw [T.w64 (by omega) (by omega)]; omega
  have e4 : IntKind.i64.wrap (((p + 2 : Nat) : Int) + (q : Int)) = ((p + 2 + q : Nat) : Int) := by rw [T.w64 (by omega) (by omega)]; omega
  have d1 : decide (((n - p - 2 : Nat) : Int) < (q : Int)) = false := decide_eq_false (by omega)
  have d2 : decide (n - p - 2 < q) = false := decide_eq_false (by omega)
  have k1 : ((p + 2 : Nat) : Int) ≤ ((p + 2 + q : Nat) : Int) := by omega
  have k2 : ((p + 2 + q : Nat) : Int) ≤ (c : Int) := by omega
  have k3 : (0 : Int) ≤ ((p + 2 : Nat) : Int) := by omega
  have k4 : p + 2 + q ≤ c := by omega
  have ncp : ¬ p + 2 + q = p + 2 := by omega
  have ess : p + 2 + q - (p + 2) = q := by omega
  go_enter Tryz.func161, Tryz.ntmps161
  repeat' (first | (go_at_call 127; refine (T.get_yesI b o n c bs p 2 (by decide) (by decide) HP2.out (by omega) HL.out _ (hM.slin HS.out)).mono ?_; rintro _ wr ⟨rfl, hbc⟩; replace hM := hM.call hbc; clear hbc; (try rw [T.toNat2]); rw [HGX.out]) | (go_at_call 194; refine (T.cloneByte _ q (T.u8s x) _ (hM.slin H2.out) (by rw [encs_length, HQ.out, Nat.mul_one]) (by omega)).mono ?_; rintro _ wr ⟨v, rfl, ho, h1, hbc⟩; (obtain ⟨Ag, cg, rfl⟩ := T.own_slice ho); replace hM := hM.callG hbc ho h1; clear hbc ho h1) | go_guarded | (go_step) | ((fail_if_success (with_reducible show T.Seq _ _ _ _ _ _ _)); (fail_if_success (with_reducible show T.OW _ _ _ _ _ _)); simp only [Int.not_lt, Int.not_le] at *; go_simp))
  (refine T.ret_ttt rfl rfl _ _ _ rfl rfl rfl ?_)
  subst hP
  unfold T.WCut
  rw [HQ.out]
  have e9 : ((p + 2 + q : Nat) : Int) = (p : Int) + 2 + (q : Int) := by omega
  exact ⟨_, (by rw [e9]; rfl), (hM.row _ (.head _)).1, (hM.row _ (.head _)).2, hM.below⟩
end Go.Proofs.YtdklknfgcepcbaaGreat.X
