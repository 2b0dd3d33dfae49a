/- Texts of this proof, laid together by wip/tools/pack.py: TL2. -/
import Derived.Test.YtdklknfgcepcbaaGreatZ26
namespace Go.Proofs.YtdklknfgcepcbaaGreat.X
open Go.RowKit Go.Proofs.YtdklknfgcepcbaaGreatW.PrintWords Go.Proofs.YtdklknfgcepcbaaGreatW.PrintLast Go.Proofs.YtdklknfgcepcbaaGreatW.PrintMore
set_option linter.unusedSimpArgs false
set_option linter.unusedVariables false
set_option maxHeartbeats 2000000
set_option maxRecDepth 20000
theorem T.op_appR {P : Program} {op : Oper} {a : Act} {w w0 : World} {Q : Exit → Act → World → Prop} {L L' : List T.Blk} {F : Option Nat} {K : Act → World → Prop} (s x : Operand) (t : TypeId) (ho : op.op = .call { callee := .builtin .append, args := #[s, x], argTypes := #[t, t] })
    (e : TypeId) (size bytes : Nat) (hE : T.El P t e size bytes) (g n cap : Nat) (hs : a.eval s = .slice (some ⟨g, 0, none⟩) n cap) (b2 o2 m c : Nat) (hx : a.eval x = .slice (some ⟨b2, o2, none⟩) m c)
    (cs cs' news : List Value) (hn : news.length = m * size) (hr : w.rangeAt b2 o2 news) (h1 : ∀ v ∈ news, v.oneCell' = true) (hM : T.Mem w0 F w L) (hsub : T.Sub (.b g e cs) (.b g e cs') L L') (hroom : n + m ≤ cap) (hfit : n * size + news.length ≤ cs.length)
    (hcs : cs.take (n * size) ++ news ++ cs.drop (n * size + news.length) = cs') (h : ∀ w', T.Mem w0 F w' L' → K (a.put op.dst (.slice (some ⟨g, 0, none⟩) (n + m) cap)) w') : T.OW P op a w K Q := by
  refine ⟨?_⟩
  subst hcs
  obtain ⟨i, z, hi, hz, g1, g2, g3⟩ := hE.info
  subst g1
  have hrun := run_append_room (P := P) w t op.type e i hE.under hi g n cap cs.toArray (hM.row _ hsub.mem) ⟨b2, o2, none⟩ m c news hn (fun j v hj => by rw [Addr.add_mid]; exact hr j v hj) h1 hroom (by simpa using hfit)
  have hh := h _ (hM.set hsub)
  unfold Oper.wp execOp
  simp only [ho, resolve, invoke, builtin, Sem.run_bind, Sem.run_pure, Result.andThen_ok, List.map_toArray, List.map_cons, List.map_nil, hs, hx, hrun]
  exact hh
theorem T.op_clear {P : Program} {op : Oper} {a : Act} {w w0 : World} {Q : Exit → Act → World → Prop} {L L' : List T.Blk} {F : Option Nat} {K : Act → World → Prop} (x : Operand) (t : TypeId) (ho : op.op = .call { callee := .builtin .clear, args := #[x], argTypes := #[t] })
    (e : TypeId) (size bytes : Nat) (hE : T.El P t e size bytes) (z : List Value) (hz : T.zeroOf P e = some z) (hzl : z.length = size) (h1 : ∀ v ∈ z, v.oneCell' = true) (g o c : Nat) (hx : a.eval x = .slice (some ⟨g, o, none⟩) 1 c)
    (cs cs' : List Value) (hM : T.Mem w0 F w L) (hsub : T.Sub (.b g e cs) (.b g e cs') L L') (hfit : o + size ≤ cs.length)
    (hcs : cs.take o ++ z ++ cs.drop (o + size) = cs') (h : ∀ w', T.Mem w0 F w' L' → K (a.put op.dst (.tuple #[])) w') : T.OW P op a w K Q := by
  refine ⟨?_⟩
  subst hcs
  obtain ⟨i, zv, hi, hzv, g1, g2, g3⟩ := hE.info
  have hzz : zv.cells.toList = z := by
    have := hz
    unfold T.zeroOf at this
    rw [hi, Option.bind_some, hzv] at this
    exact Option.some.inj this
  subst hzl
  have hst := run_storeCells_at P g o e z 0 cs.toArray w (hM.row _ hsub.mem) (by simpa using hfit) h1
  have hzc : (Builtin.zeroCells zv.cells 1).toList = z := by
    rw [← hzz, Builtin.zeroCells]
    apply List.ext_getElem
    · simp
    · intro j h1 h2
      simp at h1
      simp [Nat.mod_eq_of_lt h1, h1]
  have hrun : (Builtin.clear_ #[t] op.type #[.slice (some ⟨g, o, none⟩) 1 c]).run P w = .ok (.tuple #[]) (w.setRow g (cs.take o ++ z ++ cs.drop (o + z.length)).toArray) := by
    have hzr : (zeroValue e).run P w = .ok zv w := by simp [zeroValue, typeInfo, hi, hzv]
    simp [Builtin.clear_, run_underlying hE.under, hzr, hzc]
    simp at hst
    rw [hst]
    rfl
  have hh := h _ (hM.set hsub)
  unfold Oper.wp execOp
  simp only [ho, resolve, invoke, builtin, Sem.run_bind, Sem.run_pure, Result.andThen_ok, List.map_toArray, List.map_cons, List.map_nil, hx, hrun]
  exact hh
theorem T.del_app (A X B R : List Value) (n m : Nat) (hA : A.length = n) (hB : B.length = m) : (A ++ (X ++ B) ++ R).take n ++ B ++ (A ++ (X ++ B) ++ R).drop (n + m) = A ++ B ++ (A ++ (X ++ B) ++ R).drop (n + m) := by
  subst hA
  have : (A ++ (X ++ B) ++ R).take A.length = A := by rw [List.append_assoc, List.take_left]
  rw [this]
theorem T.del_clr (Y D Z : List Value) (n : Nat) (hY : Y.length = n) (k : Nat) : (Y ++ D).take n ++ Z ++ (Y ++ D).drop (n + k) = Y ++ (Z ++ D.drop k) := by
  rw [← hY, List.take_left, ← List.drop_drop, List.drop_left, List.append_assoc]
theorem T.delete_calls {w0 w : World} {F : Option Nat} {L : List T.Blk} (l1 l2 : List T.CoinV) (x : T.CoinV) (kl : ∀ y ∈ l1 ++ x :: l2, y.ok) (g c i j n : Nat) (hi : l1.length = i) (hj : j = i + 1) (hn : n = (l1 ++ x :: l2).length) (hnb : n ≤ 100000000)
    (h0 : w0.heap.size ≤ g) (hM : T.Mem w0 F w (.g (.slice (some ⟨g, 0, none⟩) n c) 234 35 n (T.rc T.CoinV.cells (l1 ++ x :: l2)) :: L)) :
    Calls Tryz.prog 182 #[.slice (some ⟨g, 0, none⟩) n c, .int .i64 i, .int .i64 j] w fun e w' => e = .returned (.slice (some ⟨g, 0, none⟩) (n - 1) c) ∧ T.Mem w0 F w' (.g (.slice (some ⟨g, 0, none⟩) (n - 1) c) 234 35 (n - 1) (T.rc T.CoinV.cells (l1 ++ l2)) :: L) := by
  have hlen : n = i + 1 + l2.length := by rw [hn, List.length_append, List.length_cons, hi]; omega
  obtain ⟨g', c', rest, hv, hnc, hcm, hl, hlc, h1, _, hM⟩ := hM.open (by omega)
  cases hv
  have hk1 : ∀ y ∈ l1, y.ok := fun y hy => kl y (List.mem_append.2 (.inl hy))
  have hk2 : ∀ y ∈ l2, y.ok := fun y hy => kl y (List.mem_append.2 (.inr (List.mem_cons_of_mem _ hy)))
  have hkx : x.ok := kl x (List.mem_append.2 (.inr List.mem_cons_self))
  have ha : (T.rc T.CoinV.cells l1).length = i * 35 := by rw [T.rc_len (fun y hy => y.len (hk1 y hy)), hi]
  have hb : (T.rc T.CoinV.cells l2).length = l2.length * 35 := T.rc_len (fun y hy => y.len (hk2 y hy))
  have hx : x.cells.length = 35 := x.len hkx
  have o2 : ∀ v ∈ T.rc T.CoinV.cells l2, v.oneCell' = true := T.rc_ones (fun y _ => y.ones)
  have o12 : ∀ v ∈ T.rc T.CoinV.cells (l1 ++ l2), v.oneCell' = true := T.rc_ones (fun y _ => y.ones)
  have hrw : T.rc T.CoinV.cells (l1 ++ x :: l2) = T.rc T.CoinV.cells l1 ++ (x.cells ++ T.rc T.CoinV.cells l2) := by rw [T.rc_app, T.rc_cons]
  have hrw2 : T.rc T.CoinV.cells (l1 ++ l2) = T.rc T.CoinV.cells l1 ++ T.rc T.CoinV.cells l2 := T.rc_app _ _
  rw [hrw] at hM hlc
  rw [hrw2] at o12 ⊢
  have hm : l2.length = n - 1 - i := by omega
  rw [hm] at hb
  generalize T.rc T.CoinV.cells l1 = A at *
  generalize T.rc T.CoinV.cells l2 = B at *
  generalize x.cells = X at *
  have hD : ((A ++ (X ++ B) ++ rest).drop (i * 35 + B.length)).length = c * 35 - (n - 1) * 35 := by rw [List.length_drop, hlc]; omega
  have hcs1 := T.del_app A X B rest (i * 35) B.length ha rfl
  have hsrc : (A ++ (X ++ B) ++ rest).drop ((i + 1) * 35) = B ++ rest := by
    rw [show (i + 1) * 35 = A.length + X.length by omega, ← List.append_assoc, List.append_assoc (A ++ X), ← List.length_append, List.drop_left]
  generalize hDD : (A ++ (X ++ B) ++ rest).drop (i * 35 + B.length) = D at *
  have HH := Aside0.mk (show i + 1 ≤ n ∧ n ≤ c ∧ c ≤ maxLen ∧ B.length = (n - 1 - i) * 35 ∧ (A ++ (X ++ B) ++ rest).length = c * 35 ∧ A.length = i * 35 from ⟨by omega, hnc, hcm, hb, hlc, ha⟩)
  have HD := Aside0.mk hD
  have HS := Aside0.mk hsrc
  have HC := Aside0.mk hcs1
  have HDD := Aside0.mk hDD
  clear hD hsrc hcs1 hDD hl hlc h1 hb ha hx hrw hrw2 kl hk1 hk2 hkx hm hi hn
  have HX := Aside0.mk (show ((A ++ (X ++ B) ++ rest).drop (j * 35)).take B.length = B by rw [hj, HS.out, List.take_left])
  obtain ⟨p, hp⟩ : ∃ p, p = n - 1 := ⟨_, rfl⟩
  rw [← hp]
  have e1 : ((i : Int) == (j : Int)) = false := by rw [beq_eq_false_iff_ne]; omega
  have hij : i ≤ j := by omega
  have hjn : j ≤ n := by omega
  have hin : i ≤ c := by omega
  have hjc : j ≤ c := by omega
  have hni : ¬ n = i := by omega
  have hcp : ¬ c = p := by omega
  have hpn : p ≤ n := by omega
  have hnp : n - p = 1 := by omega
  have hnj : n - j = p - i := by omega
  have hip : i + (p - i) = p := by omega
  have hnc2 : n ≤ c := by omega
  have hpc : p ≤ c := by omega
  have HB := Aside0.mk (show B.length = (p - i) * 35 by rw [HH.out.2.2.2.1]; congr 1; omega)
  have HD2 := Aside0.mk (show D.length = c * 35 - p * 35 by rw [HD.out, hp])
  have HF := Aside0.mk (show i * 35 + B.length = p * 35 by rw [HB.out, ← Nat.add_mul, hip])
  have HJ := Aside0.mk (show c = j → p - i = 0 from fun h => by omega)
  have HAB := Aside0.mk (show (A ++ B).length = p * 35 by rw [List.length_append, HH.out.2.2.2.2.2, HF.out])
  have HPC := Aside0.mk (show p + 1 ≤ c by omega)
  have HR := Aside0.mk (show i + (p - i) ≤ c by omega)
  clear hj hlen hp
  have hz : (T.u8s T.z32 ++ [Value.int .i64 0] ++ [Value.int .i64 0, Value.int .i64 0]).length = 35 := by simp [encs_length, T.z32]
  have hzo : ∀ v ∈ (T.u8s T.z32 ++ [Value.int .i64 0] ++ [Value.int .i64 0, Value.int .i64 0]), v.oneCell' = true := T.ones_app (T.ones_app (T.ones_encs _ _) (T.one_ones rfl)) (T.ones_all rfl)
  generalize hP : (fun (e : Ending) w' => e = .returned (.slice (some ⟨g, 0, none⟩) p c) ∧ T.Mem w0 F w' (.g (.slice (some ⟨g, 0, none⟩) p c) 234 35 p (A ++ B) :: L)) = Post
  by_cases hcj : c = j
  all_goals go_enter Tryz.func182, Tryz.ntmps182
  · have hpi0 := HJ.out hcj
    have HBn := Aside0.mk (show B = [] by have := HB.out; rw [hpi0] at this; exact List.eq_nil_of_length_eq_zero (by omega))
    have HNP := Aside0.mk hpi0
    clear hpi0
    repeat' (first | ((with_reducible show Code.wp _ (Code.region 5 _ true) _ _ _); refine T.mregion 5 (.p 0 (.p 1 (.p 2 (.p 3 (.p 4 (.p 5 (.z 6 (.p 7 .nil)))))))) 6 (by kernel_rfl) (fun _ _ _ _ h => h) hM (List.Sublist.refl _) ?_; clear hM; intro wld hM) | ((with_reducible show T.OW _ ⟨_, .call ⟨.builtin .append, _, _⟩, _, _, _, _⟩ _ _ _ _); refine T.op_appR _ _ _ rfl _ _ _ T.TE.out g i _ rfl g _ (p - i) _ rfl _ (A ++ B ++ D) B HB.out (by rw [HBn.out]; intro j v h; cases h) o2 hM (.head _) (by have := HR.out; omega) (by have := HF.out; have := HPC.out; have := HH.out.2.2.2.2.1; omega) (by rw [HDD.out]; exact HC.out) ?_; clear hM; intro wld hM; (try simp only [hip])) | ((with_reducible show wpList _ _ _ (⟨_, .call ⟨.builtin .clear, _, _⟩, _, _, _, _⟩ :: _) _ _); refine T.w_o rfl ?_; refine T.op_clear _ _ rfl _ _ _ T.TE.out _ T.TZ.out hz hzo g (p * 35) _ rfl _ (A ++ B ++ (T.u8s T.z32 ++ [Value.int .i64 0] ++ [Value.int .i64 0, Value.int .i64 0] ++ D.drop 35)) hM (.head _) (by rw [List.length_append, HAB.out, HD2.out]; have := HPC.out; omega) (T.del_clr _ _ _ _ HAB.out _) ?_; clear hM; intro wld hM) | ((with_reducible show T.Seq _ _ _ _ _ _ _); first | ((with_reducible show T.Seq _ _ _ (.p _ _) _ _ _); ((apply T.sq_p rfl rfl; (focus intro wS; ((go_simp; with_reducible rfl))); (try simp only [Act.put, List.setIfInBounds_toArray, List.set_cons_zero, List.set_cons_succ])))) | ((with_reducible show T.Seq _ _ _ .nil _ _ _); refine T.sq_nil ?_) | ((with_reducible show T.Seq _ _ _ (.z _ _) _ _ _); refine T.sq_z rfl rfl (fun K hK => ?_))) | (go_at_K; refine hK.out _ _ _ hM ?_; clear hK K; (try simp only [Act.put, List.setIfInBounds_toArray, List.set_cons_zero, List.set_cons_succ])) | (go_step) | go_back)
    subst hP
    exact ⟨by rw [hcj]; rfl, hM.shut h0 hpc HH.out.2.2.1 HAB.out (by rw [List.length_append, HAB.out, List.length_append, hz, List.length_drop, HD2.out]; have := HPC.out; omega) o12⟩
  · repeat' (first | ((with_reducible show Code.wp _ (Code.region 5 _ true) _ _ _); refine T.mregion 5 (.p 0 (.p 1 (.p 2 (.p 3 (.p 4 (.p 5 (.z 6 (.p 7 .nil)))))))) 6 (by kernel_rfl) (fun _ _ _ _ h => h) hM (List.Sublist.refl _) ?_; clear hM; intro wld hM) | ((with_reducible show T.OW _ ⟨_, .call ⟨.builtin .append, _, _⟩, _, _, _, _⟩ _ _ _ _); refine T.op_appR _ _ _ rfl _ _ _ T.TE.out g i c rfl g _ (p - i) _ rfl _ (A ++ B ++ D) B HB.out (T.rangeM hM (.head _) HX.out) o2 hM (.head _) HR.out (by have := HF.out; have := HPC.out; have := HH.out.2.2.2.2.1; omega) (by rw [HDD.out]; exact HC.out) ?_; clear hM; intro wld hM; (try simp only [hip])) | ((with_reducible show wpList _ _ _ (⟨_, .call ⟨.builtin .clear, _, _⟩, _, _, _, _⟩ :: _) _ _); refine T.w_o rfl ?_; refine T.op_clear _ _ rfl _ _ _ T.TE.out _ T.TZ.out hz hzo g (p * 35) _ rfl _ (A ++ B ++ (T.u8s T.z32 ++ [Value.int .i64 0] ++ [Value.int .i64 0, Value.int .i64 0] ++ D.drop 35)) hM (.head _) (by rw [List.length_append, HAB.out, HD2.out]; have := HPC.out; omega) (T.del_clr _ _ _ _ HAB.out _) ?_; clear hM; intro wld hM) | ((with_reducible show T.Seq _ _ _ _ _ _ _); first | ((with_reducible show T.Seq _ _ _ (.p _ _) _ _ _); ((apply T.sq_p rfl rfl; (focus intro wS; ((go_simp; with_reducible rfl))); (try simp only [Act.put, List.setIfInBounds_toArray, List.set_cons_zero, List.set_cons_succ])))) | ((with_reducible show T.Seq _ _ _ .nil _ _ _); refine T.sq_nil ?_) | ((with_reducible show T.Seq _ _ _ (.z _ _) _ _ _); refine T.sq_z rfl rfl (fun K hK => ?_))) | (go_at_K; refine hK.out _ _ _ hM ?_; clear hK K; (try simp only [Act.put, List.setIfInBounds_toArray, List.set_cons_zero, List.set_cons_succ])) | (go_step) | go_back)
    subst hP
    exact ⟨rfl, hM.shut h0 hpc HH.out.2.2.1 HAB.out (by rw [List.length_append, HAB.out, List.length_append, hz, List.length_drop, HD2.out]; have := HPC.out; omega) o12⟩
end Go.Proofs.YtdklknfgcepcbaaGreat.X
