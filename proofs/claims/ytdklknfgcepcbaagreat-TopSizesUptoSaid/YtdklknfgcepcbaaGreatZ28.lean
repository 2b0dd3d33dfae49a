/- Texts of this proof, laid together by wip/tools/pack.py: Shelf3, TL3. -/
import Derived.Shelf.SlGeneric
import Derived.Shelf.SlSortCmp.WholeK
import Derived.Ground.SlsfProg
import Derived.Test.YtdklknfgcepcbaaGreatProg
import Derived.Test.YtdklknfgcepcbaaGreatZ27
import Derived.Lib.Bytealg
section
namespace Go.Proofs
open Go.Shelf
def Tryz.sort188A_ren : Go.Shelf.Ren := ⟨fun | 6 => 188 | 15 => 149 | 14 => 210 | 28 => 177 | 29 => 178 | 20 => 216 | 21 => 217 | 22 => 218 | 23 => 219 | 24 => 220 | 25 => 221 | 26 => 222 | 27 => 223 | 46 => 224 | 47 => 198 | 48 => 199 | 49 => 225 | 50 => 226 | 57 => 227 | n => n, fun | 22 => 77 | 24 => 234 | 25 => 278 | 3 => 3 | 39 => 140 | 0 => 0 | 53 => 48 | 55 => 45 | 4 => 4 | 46 => 260 | 45 => 259 | 50 => 264 | 5 => 5 | 9 => 9 | 66 => 286 | 70 => 290 | 76 => 303 | 77 => 304 | n => n, fun | n => n⟩
theorem Tryz.sort188A : Go.Proofs.SlLaysF0.n6 Tryz.prog Tryz.sort188A_ren := {
  mixed := by kernel_rfl
  f6 := ⟨Tryz.f188.name, by decide, Tryz.func188.trans (congrArg some (by kernel_rfl))⟩
  f14 := ⟨Tryz.f210.name, by decide, Tryz.func210.trans (congrArg some (by kernel_rfl))⟩
  f15 := Tryz.func149.trans (congrArg some (by kernel_rfl))
  f20 := ⟨Tryz.f216.name, by decide, Tryz.func216.trans (congrArg some (by kernel_rfl))⟩
  f21 := ⟨Tryz.f217.name, by decide, Tryz.func217.trans (congrArg some (by kernel_rfl))⟩
  f22 := ⟨Tryz.f218.name, by decide, Tryz.func218.trans (congrArg some (by kernel_rfl))⟩
  f23 := ⟨Tryz.f219.name, by decide, Tryz.func219.trans (congrArg some (by kernel_rfl))⟩
  f24 := ⟨Tryz.f220.name, by decide, Tryz.func220.trans (congrArg some (by kernel_rfl))⟩
  f25 := ⟨Tryz.f221.name, by decide, Tryz.func221.trans (congrArg some (by kernel_rfl))⟩
  f26 := ⟨Tryz.f222.name, by decide, Tryz.func222.trans (congrArg some (by kernel_rfl))⟩
  f27 := ⟨Tryz.f223.name, by decide, Tryz.func223.trans (congrArg some (by kernel_rfl))⟩
  f28 := Tryz.func177.trans (congrArg some (by kernel_rfl))
  f29 := Tryz.func178.trans (congrArg some (by kernel_rfl))
  f46 := ⟨Tryz.f224.name, by decide, Tryz.func224.trans (congrArg some (by kernel_rfl))⟩
  f47 := Tryz.func198.trans (congrArg some (by kernel_rfl))
  f48 := Tryz.func199.trans (congrArg some (by kernel_rfl))
  f49 := ⟨Tryz.f225.name, by decide, Tryz.func225.trans (congrArg some (by kernel_rfl))⟩
  f50 := ⟨Tryz.f226.name, by decide, Tryz.func226.trans (congrArg some (by kernel_rfl))⟩
  f57 := ⟨Tryz.f227.name, by decide, Tryz.func227.trans (congrArg some (by kernel_rfl))⟩
  t0 := Tryz.underlying0
  a0 := Tryz.isAgg0
  z0 := Tryz.sizeOf0
  v0 := Tryz.zeroValue0
  t3 := Tryz.underlying3
  a3 := Tryz.isAgg3
  z3 := Tryz.sizeOf3
  v3 := Tryz.zeroValue3
  t4 := Tryz.underlying4
  a4 := Tryz.isAgg4
  z4 := Tryz.sizeOf4
  v4 := Tryz.zeroValue4
  t5 := Tryz.underlying5
  a5 := Tryz.isAgg5
  z5 := Tryz.sizeOf5
  v5 := Tryz.zeroValue5
  t9 := Tryz.underlying9
  a9 := Tryz.isAgg9
  z9 := Tryz.sizeOf9
  v9 := Tryz.zeroValue9
  t22 := Tryz.underlying77
  a22 := Tryz.isAgg77
  z22 := Tryz.sizeOf77
  v22 := Tryz.zeroValue77
  t25 := Tryz.underlying278
  a25 := Tryz.isAgg278
  z25 := Tryz.sizeOf278
  v25 := Tryz.zeroValue278
  t39 := Tryz.underlying140
  a39 := Tryz.isAgg140
  z39 := Tryz.sizeOf140
  v39 := Tryz.zeroValue140
  t45 := Tryz.underlying259
  a45 := Tryz.isAgg259
  z45 := Tryz.sizeOf259
  v45 := Tryz.zeroValue259
  t46 := Tryz.underlying260
  a46 := Tryz.isAgg260
  z46 := Tryz.sizeOf260
  v46 := Tryz.zeroValue260
  t50 := Tryz.underlying264
  a50 := Tryz.isAgg264
  z50 := Tryz.sizeOf264
  v50 := Tryz.zeroValue264
  t53 := Tryz.underlying48
  a53 := Tryz.isAgg48
  z53 := Tryz.sizeOf48
  v53 := Tryz.zeroValue48
  t55 := Tryz.underlying45
  a55 := Tryz.isAgg45
  z55 := Tryz.sizeOf45
  v55 := Tryz.zeroValue45
  t66 := Tryz.underlying286
  a66 := Tryz.isAgg286
  z66 := Tryz.sizeOf286
  v66 := Tryz.zeroValue286
  t70 := Tryz.underlying290
  a70 := Tryz.isAgg290
  z70 := Tryz.sizeOf290
  v70 := Tryz.zeroValue290
  t76 := Tryz.underlying303
  a76 := Tryz.isAgg303
  z76 := Tryz.sizeOf303
  v76 := Tryz.zeroValue303
  t77 := Tryz.underlying304
  a77 := Tryz.isAgg304
  z77 := Tryz.sizeOf304
  v77 := Tryz.zeroValue304 }
end Go.Proofs
end
section
namespace Go.Proofs.YtdklknfgcepcbaaGreat.X
open Go.RowKit Go.Lib Go.Proofs.YtdklknfgcepcbaaGreatW.PrintWords Go.Proofs.YtdklknfgcepcbaaGreatW.PrintLast Go.Proofs.YtdklknfgcepcbaaGreatW.PrintMore
set_option maxHeartbeats 2000000
set_option maxRecDepth 20000
set_option linter.unusedSimpArgs false
set_option linter.unusedVariables false
theorem T.or2_calls (x y : Int) (b c : Nat) (w : World) (h0 : w.cell? ⟨b, 0, none⟩ = some (.int .i64 x)) (h1 : w.cell? ⟨b, 1, none⟩ = some (.int .i64 y)) :
    Calls Tryz.prog 119 #[.slice (some ⟨b, 0, none⟩) 2 c] w fun e w' => e = .returned (.int .i64 (if x = 0 then y else x)) ∧ w' = w := by
  have hs : ∀ w, (isAgg 3).run Tryz.prog w = .ok false w := T.TS.out
  by_cases hx : x = 0
  · by_cases hy : y = 0
    · rw [if_pos hx, hy]
      subst hx
      subst hy
      go_enter Tryz.func119, Tryz.ntmps119
      go_wp2
      refine T.wp_rounds 3 ?_
      unfold T.rounds
      go_wp2
      unfold T.rounds
      go_wp2
      unfold T.rounds
      go_wp2
      go_ret
      exact ⟨rfl, rfl⟩
    · have d2 : decide (y = 0) = false := decide_eq_false hy
      rw [if_pos hx]
      subst hx
      go_enter Tryz.func119, Tryz.ntmps119
      go_wp2
      refine T.wp_rounds 3 ?_
      unfold T.rounds
      go_wp2
      unfold T.rounds
      go_wp2
      go_ret
      exact ⟨rfl, rfl⟩
  · have d1 : decide (x = 0) = false := decide_eq_false hx
    rw [if_neg hx]
    go_enter Tryz.func119, Tryz.ntmps119
    go_wp2
    refine T.wp_rounds 3 ?_
    unfold T.rounds
    go_wp2
    go_ret
    exact ⟨rfl, rfl⟩
def T.DW (a b : World) : Prop := ∃ q os, b = Sort.grow (a.drewN q) os
theorem T.DW.refl (a : World) : T.DW a a := ⟨0, #[], by simp [Sort.grow, World.drewN]⟩
theorem T.DW.drew {a b : World} (h : T.DW a b) : T.DW a b.drew := by obtain ⟨q, os, rfl⟩ := h; exact ⟨q + 1, os, rfl⟩
theorem T.DW.trans {a b c : World} (h : T.DW a b) (k : T.DW b c) : T.DW a c := by
  obtain ⟨q, os, rfl⟩ := h
  obtain ⟨r, ps, rfl⟩ := k
  exact ⟨q + r, os ++ ps, by simp [Sort.grow, World.drewN, Array.append_assoc, Nat.add_assoc]⟩
theorem T.DW.alloc {a b : World} (h : T.DW a b) (o : Obj) : T.DW a (b.alloc o) := h.trans ⟨0, #[o], by rw [Sort.alloc_eq_grow]; rfl⟩
theorem T.DW.cell {a b : World} (h : T.DW a b) {x : Addr} (hx : x.block < a.heap.size) : b.cell? x = a.cell? x := by
  obtain ⟨q, os, rfl⟩ := h
  rw [Sort.cell?_grow (a.drewN q) os x hx]
  rfl
theorem T.DW.rng {a b : World} (h : T.DW a b) {n o : Nat} {cs : List Value} (hn : n < a.heap.size) (hr : a.rangeAt n o cs) : b.rangeAt n o cs := fun j v hj => by
  rw [h.cell (x := ⟨n, o + j, none⟩) hn]
  exact hr j v hj
theorem T.DW.size {a b : World} (h : T.DW a b) : a.heap.size ≤ b.heap.size := by
  obtain ⟨q, os, rfl⟩ := h
  simp [Sort.grow]
structure T.DM (w0 w : World) (L : List (Nat × List Value)) : Prop where
  dw : T.DW w0 w
  row : ∀ p ∈ L, p.1 < w.heap.size ∧ w.rangeAt p.1 0 p.2
theorem T.DM.start (w : World) : T.DM w w [] := ⟨T.DW.refl w, fun _ h => (List.not_mem_nil h).elim⟩
theorem T.DM.call {w0 w w' : World} {L : List (Nat × List Value)} (h : T.DM w0 w L) (k : T.DW w w') : T.DM w0 w' L := ⟨h.dw.trans k, fun p hp => ⟨Nat.lt_of_lt_of_le (h.row p hp).1 k.size, k.rng (h.row p hp).1 (h.row p hp).2⟩⟩
theorem T.DM.alloc {w0 w : World} {L : List (Nat × List Value)} (h : T.DM w0 w L) (t : TypeId) (cs : List Value) : T.DM w0 (w.alloc (.cells cs.toArray t)) ((w.heap.size, cs) :: L) := by
  have k := h.call ((T.DW.refl w).alloc (.cells cs.toArray t))
  refine ⟨k.dw, fun p hp => ?_⟩
  rcases List.mem_cons.1 hp with rfl | hp
  · have hm := (T.Mem.start w).alloc t cs
    exact ⟨hm.size List.mem_cons_self rfl, T.range_all hm List.mem_cons_self⟩
  · exact k.row p hp
theorem T.DM.rng {w0 w : World} {L : List (Nat × List Value)} (h : T.DM w0 w L) {b : Nat} {cs : List Value} (hm : (b, cs) ∈ L) : w.rangeAt b 0 cs := (h.row _ hm).2
theorem T.DM.drop {w0 w : World} {L L' : List (Nat × List Value)} (h : T.DM w0 w L) (hs : L'.Sublist L) : T.DM w0 w L' := ⟨h.dw, fun p hp => h.row p (hs.subset hp)⟩
section
variable {P : Program} {l : List Oper} {Q : Exit → Act → World → Prop} {a : Act} {w w0 : World} {i : Nat} {r : T.Ord} {o : Oper} {L : List (Nat × List Value)}
theorem T.sq_aD (ho : T.nth l i = some o) (hg : o.guard = none)
    (h : ∀ K : Act → World → Prop, Shut (∀ a' w' (L' : List (Nat × List Value)), T.DM w0 w' L' → L.Sublist L' → T.Seq P l Q r (fun w => T.DM w0 w L') a' w' → K a' w') → T.OW P o a w K Q) : T.Seq P l Q (.a i r) (fun w => T.DM w0 w L) a w :=
  ⟨o, ho, T.sq_wp ho hg (T.OW.out (h _ (fun _ _ L' h1 h2 h3 => ⟨fun w => T.DM w0 w L', h1, fun _ hw => hw.drop h2, h3⟩)))⟩
theorem T.regionD (id : Nat) (r : T.Ord) (s0 : Nat) (hk : (P.follows .mixedOrders && (Region.noSelect l.toArray && (decide (r.len ≤ l.length) && T.ok l.toArray s0 r (Array.replicate l.length false)))) = true)
    (hQ : ∀ c (a : Act) tm w, Q (.panic c) ⟨tm, a.defers⟩ w → Q (.panic c) a w) (hD : T.DM w0 w L) (h : ∀ w, T.DM w0 w L → T.Seq P l Q r (fun w => T.DM w0 w L) a w) : (Code.region id l.toArray true).wp P Q a w :=
  T.region id r s0 hk hQ _ (hD.call (T.DW.refl w).drew) (h _ (hD.call (T.DW.refl w).drew))
theorem T.opD_box {op : Oper} {K : Act → World → Prop} (ty : TypeId) (x : Operand) (ho : op.op = .box ty x) (cs : List Value) (hx : (a.eval x).cells = cs.toArray) (hD : T.DM w0 w L)
    (h : ∀ b w', T.DM w0 w' ((b, cs) :: L) → K (a.put op.dst (.pointer (some ⟨b, 0, none⟩))) w') : T.OW P op a w K Q := by
  refine ⟨?_⟩
  have hh := (h _ _ (hD.alloc ty cs))
  unfold Oper.wp execOp
  simp only [ho, T.run_box, hx, Sem.run_bind, Sem.run_pure, Result.andThen_ok]
  exact hh
theorem T.opD_sl2 {op : Oper} {K : Act → World → Prop} (x y : Operand) (ho : op.op = .buildSlice 31 2 #[(0, x), (1, y)]) (u v : Int) (hx : a.eval x = .int .i64 u) (hy : a.eval y = .int .i64 v) (hD : T.DM w0 w L)
    (h : ∀ b w', T.DM w0 w' ((b, [.int .i64 u, .int .i64 v]) :: L) → K (a.put op.dst (.slice (some ⟨b, 0, none⟩) 2 2)) w') : T.OW Tryz.prog op a w K Q := by
  refine ⟨?_⟩
  have hh := (h _ _ (hD.alloc 3 [.int .i64 u, .int .i64 v]))
  have hrun : (Instr.buildSlice 31 2 #[(0, .int .i64 u), (1, .int .i64 v)]).run Tryz.prog w = .ok (.slice (some ⟨w.heap.size, 0, none⟩) 2 2) (w.alloc (.cells #[.int .i64 u, .int .i64 v] 3)) := by
    go_simp
  unfold Oper.wp execOp
  simp only [ho, List.map_toArray, List.map_cons, List.map_nil, hx, hy, hrun, Sem.run_bind, Sem.run_pure, Result.andThen_ok]
  exact hh
end
class T.FD (b : Nat) (L : List (Nat × List Value)) (cs : outParam (List Value)) : Prop where out : (b, cs) ∈ L
instance (b : Nat) (cs : List Value) (L : List (Nat × List Value)) : T.FD b ((b, cs) :: L) cs := ⟨List.mem_cons_self⟩
instance (priority := 500) (b : Nat) (x : Nat × List Value) (cs : List Value) (L : List (Nat × List Value)) [h : T.FD b L cs] : T.FD b (x :: L) cs := ⟨List.mem_cons_of_mem _ h.out⟩
theorem T.rngP {w : World} {b n : Nat} {cs vs : List Value} (h : w.rangeAt b 0 cs) (hv : (cs.drop 0).take n = vs) : w.rangeAt b 0 vs := by
  have := T.range_part h 0 n
  rwa [hv] at this
theorem T.cell0 {w : World} {b : Nat} {x y : Value} (h : w.rangeAt b 0 [x, y]) : w.cell? ⟨b, 0, none⟩ = some x := h 0 x rfl
theorem T.cell1 {w : World} {b : Nat} {x y : Value} (h : w.rangeAt b 0 [x, y]) : w.cell? ⟨b, 1, none⟩ = some y := h 1 y rfl
theorem T.pordD_calls (a b : T.InV) (ka : a.ok) (kb : b.ok) (w : World) : Calls Tryz.prog 179 #[.agg a.cells.toArray, .agg b.cells.toArray] w fun e w' => e = .returned (.int .i64 (if T.bcmp a.tx b.tx = 0 then T.icmp a.i b.i else T.bcmp a.tx b.tx)) ∧ T.DW w w' := by
  have hD := T.DM.start w
  have hai := a.i_at ka
  have hbi := b.i_at kb
  have HA := Aside0.mk (a.txs ka)
  have HB := Aside0.mk (b.txs kb)
  have hta : a.tx.length = 32 := ka
  have htb : b.tx.length = 32 := kb
  generalize hP : (fun (e : Ending) w' => e = .returned (.int .i64 (if T.bcmp a.tx b.tx = 0 then T.icmp a.i b.i else T.bcmp a.tx b.tx)) ∧ T.DW w w') = Post
  go_enter Tryz.func179, Tryz.ntmps179
  repeat' (first | (go_at_call 203; refine (T.bcmp_calls a.tx b.tx _ _ _ _ _ _ _ _ hta htb _ (T.rngP (hD.rng T.FD.out) HA.out) (T.rngP (hD.rng T.FD.out) HB.out)).mono ?_; rintro _ _ ⟨rfl, rfl⟩) | (go_at_call 204; refine (T.icmp_calls _ _ _).mono ?_; rintro _ _ ⟨rfl, rfl⟩) | (go_at_call 119; refine (T.or2_calls _ _ _ _ _ (T.cell0 (hD.rng List.mem_cons_self)) (T.cell1 (hD.rng List.mem_cons_self))).mono ?_; rintro _ _ ⟨rfl, rfl⟩) | ((with_reducible show Code.wp _ (Code.region 1 _ true) _ _ _); refine T.regionD 1 (.p 0 (.p 1 (.p 2 (.p 3 (.p 5 (.t 6 (.p 7 (.t 8 (.a 4 (.a 9 (.a 10 (.a 11 (.p 12 .nil))))))))))))) 1000 (by kernel_rfl) (fun _ _ _ _ h => h) hD ?_; clear hD; intro wld hD) | ((with_reducible show T.OW _ ⟨_, .box _ _, _, _, _, _⟩ _ _ _ _); refine T.opD_box _ _ rfl _ rfl hD ?_; clear hD; intro blk wld hD) | ((with_reducible show T.OW _ ⟨_, .buildSlice _ _ _, _, _, _, _⟩ _ _ _ _); refine T.opD_sl2 _ _ rfl _ _ rfl rfl hD ?_; clear hD; intro blk wld hD) | ((with_reducible show wpList _ _ _ (⟨_, .box _ _, _, _, _, _⟩ :: _) _ _); refine T.w_o rfl ?_) | ((with_reducible show T.Seq _ _ _ (.a _ _) _ _ _); refine T.sq_aD rfl rfl (fun K hK => ?_)) | (go_at_K; refine hK.out _ _ _ hD (by (repeat (first | exact List.Sublist.refl _ | apply List.Sublist.cons))) ?_; clear hK K; (try simp only [Act.put, List.setIfInBounds_toArray, List.set_cons_zero, List.set_cons_succ])) | ((with_reducible show T.Seq _ _ _ _ _ _ _); first | ((with_reducible show T.Seq _ _ _ (.p _ _) _ _ _); ((apply T.sq_p rfl rfl; (focus intro wS; ((go_simp; with_reducible rfl))); (try simp only [Act.put, List.setIfInBounds_toArray, List.set_cons_zero, List.set_cons_succ])))) | ((with_reducible show T.Seq _ _ _ (.t _ _) _ _ _); ((apply T.sq_t rfl rfl; (focus intro wS hS; first | exact T.x_rgCell rfl rfl (hS.rng T.FD.out) T.TS.out hai | exact T.x_rgCell rfl rfl (hS.rng T.FD.out) T.TS.out hbi); (try simp only [Act.put, List.setIfInBounds_toArray, List.set_cons_zero, List.set_cons_succ])))) | ((with_reducible show T.Seq _ _ _ .nil _ _ _); refine T.sq_nil ?_)) | ((with_reducible show T.OW _ ⟨_, .call _, _, _, _, _⟩ _ _ _ _); refine T.OW.mk ?_; go_simp) | (go_step) | go_back | ((fail_if_success (with_reducible show T.Seq _ _ _ _ _ _ _)); (fail_if_success (with_reducible show T.OW _ _ _ _ _ _)); simp only [Int.not_lt, Int.not_le] at *; go_simp))
  subst hP
  exact ⟨rfl, hD.dw⟩
theorem T.made2_calls (a b : T.CoinV) (ka : a.ok) (kb : b.ok) (w : World) : Calls Tryz.prog 189 #[.agg a.cells.toArray, .agg b.cells.toArray] w fun e w' => e = .returned (.int .i64 (if T.bcmp a.inp.tx b.inp.tx = 0 then T.icmp a.inp.i b.inp.i else T.bcmp a.inp.tx b.inp.tx)) ∧ T.DW w w' := by
  have hD := T.DM.start w
  have HAL := Aside0.mk (a.inp.len ka)
  have HBL := Aside0.mk (b.inp.len kb)
  have HAI := Aside0.mk (a.ins ka)
  have HBI := Aside0.mk (b.ins kb)
  generalize hP : (fun (e : Ending) w' => e = .returned (.int .i64 (if T.bcmp a.inp.tx b.inp.tx = 0 then T.icmp a.inp.i b.inp.i else T.bcmp a.inp.tx b.inp.tx)) ∧ T.DW w w') = Post
  go_enter Tryz.func189, Tryz.ntmps189
  repeat' (first | (go_at_call 179; refine (T.pordD_calls _ _ ka kb _).mono ?_; rintro _ _ ⟨rfl, hd⟩; replace hD := hD.call hd; clear hd) | ((with_reducible show T.OW _ ⟨_, .box _ _, _, _, _, _⟩ _ _ _ _); refine T.opD_box _ _ rfl _ rfl hD ?_; clear hD; intro blk wld hD) | ((with_reducible show wpList _ _ _ (⟨_, .box _ _, _, _, _, _⟩ :: _) _ _); refine T.w_o rfl ?_) | ((((((with_reducible show wpList _ _ _ _ _ _); (refine T.w_o rfl ?_)))); (((with_reducible show T.OW _ ⟨_, .load _ _, _, _, _, _⟩ _ _ _ _); first | (refine T.ofx (T.x_rgRow rfl rfl (hD.rng T.FD.out) T.TU.out T.TN.out HAI.out HAL.out) ?_) | (refine T.ofx (T.x_rgRow rfl rfl (hD.rng T.FD.out) T.TU.out T.TN.out HBI.out HBL.out) ?_)))); (try simp only [Act.put, List.setIfInBounds_toArray, List.set_cons_zero, List.set_cons_succ])) | (go_step) | go_back | ((fail_if_success (with_reducible show T.Seq _ _ _ _ _ _ _)); (fail_if_success (with_reducible show T.OW _ _ _ _ _ _)); simp only [Int.not_lt, Int.not_le] at *; go_simp))
  subst hP
  exact ⟨rfl, hD.dw⟩
theorem T.cb_anti : ∀ a b : List UInt8, compareBytes b a = - compareBytes a b
  | [], [] => rfl
  | [], _ :: _ => rfl
  | _ :: _, [] => rfl
  | x :: a, y :: b => by
    have ih := T.cb_anti a b
    unfold compareBytes
    by_cases h1 : x < y
    · have h2 : ¬ y < x := fun h => by rw [UInt8.lt_iff_toNat_lt] at *; omega
      simp [h1, h2]
    · by_cases h2 : y < x
      · simp [h1, h2]
      · simp [h1, h2, ih]
theorem T.cb_self (a : List UInt8) : compareBytes a a = 0 := by have := T.cb_anti a a; omega
theorem T.cb_eq : ∀ a b : List UInt8, compareBytes a b = 0 → a = b
  | [], [], _ => rfl
  | [], _ :: _, h => by cases h
  | _ :: _, [], h => by cases h
  | x :: a, y :: b, h => by
    unfold compareBytes at h
    by_cases h1 : x < y
    · simp [h1] at h
    · by_cases h2 : y < x
      · simp [h1, h2] at h
      · simp only [h1, h2, if_false] at h
        have e : x = y := by
          apply UInt8.toNat_inj.1
          rw [UInt8.lt_iff_toNat_lt] at *; omega
        rw [e, T.cb_eq a b h]
theorem T.cb_trans : ∀ a b c : List UInt8, compareBytes a b < 0 → compareBytes b c < 0 → compareBytes a c < 0
  | [], [], _, h, _ => by cases h
  | [], _ :: _, [], _, k => by cases k
  | [], _ :: _, _ :: _, _, _ => by simp [compareBytes]
  | _ :: _, [], _, h, _ => by cases h
  | _ :: _, _ :: _, [], _, k => by cases k
  | x :: a, y :: b, z :: c, h, k => by
    have ih := T.cb_trans a b c
    unfold compareBytes at h k ⊢
    by_cases h1 : x < y
    · by_cases k1 : y < z
      · have : x < z := by rw [UInt8.lt_iff_toNat_lt] at *; omega
        simp [this]
      · by_cases k2 : z < y
        · simp [k1, k2] at k
        · have : x < z := by rw [UInt8.lt_iff_toNat_lt] at *; omega
          simp [this]
    · by_cases h2 : y < x
      · simp [h1, h2] at h
      · simp only [h1, h2, if_false] at h
        by_cases k1 : y < z
        · have : x < z := by rw [UInt8.lt_iff_toNat_lt] at *; omega
          simp [this]
        · by_cases k2 : z < y
          · simp [k1, k2] at k
          · simp only [k1, k2, if_false] at k
            have e1 : ¬ x < z := fun h => by rw [UInt8.lt_iff_toNat_lt] at *; omega
            have e2 : ¬ z < x := fun h => by rw [UInt8.lt_iff_toNat_lt] at *; omega
            simp only [e1, e2, if_false]
            exact ih h k
theorem T.swo_of {α : Type} (kb : α → List UInt8) (ki : α → Int) (cf : α → α → Int) (hcf : ∀ x y, cf x y < 0 ↔ compareBytes (kb x) (kb y) < 0 ∨ (compareBytes (kb x) (kb y) = 0 ∧ ki x < ki y)) : Sort.SWO (ltOf cf) := by
  have hl : ∀ x y, ltOf cf x y = true ↔ cf x y < 0 := fun x y => by unfold ltOf; exact decide_eq_true_iff
  have hf : ∀ x y, ltOf cf x y = false ↔ ¬ cf x y < 0 := fun x y => by unfold ltOf; exact decide_eq_false_iff_not
  refine ⟨fun x => ?_, fun x y z => ?_, fun x y z => ?_⟩
  · rw [hf, hcf, T.cb_self]; omega
  · rw [hl, hl, hl, hcf, hcf, hcf]
    rintro (h | ⟨h, h'⟩) (k | ⟨k, k'⟩)
    · exact .inl (T.cb_trans _ _ _ h k)
    · rw [← T.cb_eq _ _ k]; exact .inl h
    · rw [T.cb_eq _ _ h]; exact .inl k
    · rw [T.cb_eq _ _ h]; exact .inr ⟨k, by omega⟩
  · rw [hf, hf, hf, hcf, hcf, hcf]
    have a1 := T.cb_anti (kb x) (kb y)
    have a2 := T.cb_anti (kb y) (kb z)
    have a3 := T.cb_anti (kb x) (kb z)
    rintro h k (g | ⟨g, g'⟩)
    · rcases Int.lt_trichotomy (compareBytes (kb x) (kb y)) 0 with c | c | c
      · omega
      · rw [T.cb_eq _ _ c] at g; omega
      · have := T.cb_trans (kb y) (kb x) (kb z) (by omega) g; omega
    · have e := T.cb_eq _ _ g
      rw [e] at h a1
      rcases Int.lt_trichotomy (compareBytes (kb y) (kb z)) 0 with c | c | c
      · omega
      · have : compareBytes (kb z) (kb y) = 0 := by omega
        omega
      · omega
end Go.Proofs.YtdklknfgcepcbaaGreat.X
end
