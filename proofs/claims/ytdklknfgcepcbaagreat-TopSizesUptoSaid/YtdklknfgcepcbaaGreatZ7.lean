/- Texts of this proof, laid together by wip/tools/pack.py: TQ, TL, TB, TF1, TF2. -/
import Derived.Test.YtdklknfgcepcbaaGreatZ5
import Derived.Test.YtdklknfgcepcbaaGreatZ6
import Derived.Laws.MakeOwn
import Derived.Lib.AppendZeros
namespace Go.Proofs.YtdklknfgcepcbaaGreat.X
open Go.RowKit Go.Proofs.YtdklknfgcepcbaaGreatW.PrintWords Go.Proofs.YtdklknfgcepcbaaGreatW.PrintLast Go.Proofs.YtdklknfgcepcbaaGreatW.PrintMore
set_option linter.unusedSimpArgs false
set_option linter.unusedVariables false
set_option maxHeartbeats 2000000
set_option maxRecDepth 20000
section
section
variable {P : Program}
def T.eqFrom (P : Program) (d : Nat) (el : TypeId) (n : Nat) (xs ys : Array Value) : List Nat → Sem Bool
  | [] => pure true
  | i :: r => do
    let a ← part el xs (i * n)
    let b ← part el ys (i * n)
    let t ← Op.equalIn d el a b
    if (!t) = true then pure false else T.eqFrom P d el n xs ys r
theorem T.run_eqArr (d : Nat) (t el : TypeId) (len n : Nat) (xs ys : Array Value) (w : World) (ht : P.underlying t = some (.array len el)) (hn : (P.info? el).map (·.size) = some n) :
    (Op.equalIn (d + 1) t (.agg xs) (.agg ys)).run P w = (T.eqFrom P d el n xs ys (List.range' 0 len)).run P w := by
  simp only [Op.equalIn, Sem.run_bind, run_underlying ht, Result.andThen_ok, T.size_run hn w]
  rw [Std.Legacy.Range.forIn_eq_forIn_range']
  simp only [Std.Legacy.Range.size, Nat.sub_zero, Nat.add_sub_cancel, Nat.div_one]
  generalize List.range' 0 len = fs
  clear ht
  induction fs generalizing w with
  | nil => simp [T.eqFrom]
  | cons f fs ih =>
    simp only [List.forIn_cons, T.eqFrom, Sem.run_bind, Sem.run_ite]
    generalize (part el xs (f * n)).run P w = r1
    cases r1 with
    | ok a w1 =>
      simp only [Result.andThen_ok]
      generalize (part el ys (f * n)).run P w1 = r2
      cases r2 with
      | ok b w2 =>
        simp only [Result.andThen_ok]
        generalize (Op.equalIn d el a b).run P w2 = r3
        cases r3 with
        | ok r w3 =>
          cases r
          · simp only [Result.andThen_ok, Bool.not_false, if_true, Sem.run_pure]
          · simp only [Result.andThen_ok, Bool.not_true, Bool.false_eq_true, if_false, Sem.run_pure]
            exact ih w3
        | halt x w3 => simp [Result.andThen]
      | halt x w2 => simp [Result.andThen]
    | halt x w1 => simp [Result.andThen]
theorem T.run_eqInts (d : Nat) (t el : TypeId) (len : Nat) (k k' : IntKind) (l m : List Int) (w : World) (ht : P.underlying t = some (.array len el)) (hn : (P.info? el).map (·.size) = some 1) (hg : ∀ w, (isAgg el).run P w = .ok false w)
    (he : P.underlying el = some (.int k')) (hl : l.length = len) (hm : m.length = len) :
    (Op.equalIn (d + 2) t (.agg (encs (Value.int k) l).toArray) (.agg (encs (Value.int k) m).toArray)).run P w = .ok (l == m) w := by
  rw [T.run_eqArr (d + 1) t el len 1 _ _ w ht hn]
  have key : ∀ (j i : Nat), i + j = len → (T.eqFrom P (d + 1) el 1 (encs (Value.int k) l).toArray (encs (Value.int k) m).toArray (List.range' i j)).run P w = .ok (l.drop i == m.drop i) w := by
    intro j
    induction j with
    | zero =>
      intro i hi
      rw [List.drop_eq_nil_of_le (by omega), List.drop_eq_nil_of_le (by omega)]
      simp [T.eqFrom]
    | succ j ih =>
      intro i hi
      have hp : ∀ q : List Int, q.length = len → (part el (encs (Value.int k) q).toArray (i * 1)).run P w = .ok (.int k (q[i]?.getD 0)) w := fun q hq => by
        have h1 : (encs (Value.int k) q)[i]? = some (.int k (q[i]?.getD 0)) := by
          have := encs_get (enc := Value.int k) (d := (0 : Int)) q i (by omega)
          rw [this, List.getD_eq_getElem?_getD]
        simp only [part, Sem.run_bind, hg, Result.andThen_ok, Nat.mul_one]
        simp [h1]
      rw [List.range'_succ, T.eqFrom]
      simp only [Sem.run_bind, hp l hl, hp m hm, Result.andThen_ok, run_equalIn_int (P := P) w d el k k' _ _ he]
      rw [List.drop_eq_getElem_cons (show i < l.length by omega), List.drop_eq_getElem_cons (show i < m.length by omega)]
      have h1 : l[i]?.getD 0 = l[i]'(by omega) := by simp [show i < l.length by omega]
      have h2 : m[i]?.getD 0 = m[i]'(by omega) := by simp [show i < m.length by omega]
      rw [h1, h2, List.cons_beq_cons]
      cases hb : (l[i]'(by omega) == m[i]'(by omega)) with
      | false => simp
      | true =>
        have := ih (i + 1) (by omega)
        simpa using this
  have := key len 0 (by omega)
  simpa using this
theorem T.x_bin {op : Oper} {a : Act} {w : World} {b : BinOp} {t t2 : TypeId} {x y : Operand} {v : Value} (ho : op.op = .binOp b t x y t2) (hm : P.eqGuardType P.depth t = false) {xs ys : Array Value} (hx : a.eval x = .agg xs) (hy : a.eval y = .agg ys)
    (h : (binOp b t (.agg xs) (.agg ys)).run P w = .ok v w) : (execOp a.eval op).run P w = .ok (.value v) w := by
  unfold execOp
  simp only [ho, hx, hy, Sem.run_bind, run_eqGuard_agg (P := P) w b t x y xs ys hm, Result.andThen_ok, h, Sem.run_pure]
end
class T.EQ (t : TypeId) (k : outParam IntKind) (n : outParam Nat) : Prop where
  out : ∀ (d : Nat) (l m : List Int) (w : World), l.length = n → m.length = n → (Op.equalIn (d + 2) t (.agg (encs (Value.int k) l).toArray) (.agg (encs (Value.int k) m).toArray)).run Tryz.prog w = .ok (l == m) w
  guard : Tryz.prog.eqGuardType Tryz.prog.depth t = false
instance : T.EQ 44 .u8 32 := ⟨fun d l m w hl hm => T.run_eqInts d _ _ 32 .u8 _ l m w Tryz.underlying44 T.TN.out T.TS.out Tryz.underlying5 hl hm, by kernel_rfl⟩
instance : T.EQ 47 .u64 4 := ⟨fun d l m w hl hm => T.run_eqInts d _ _ 4 .u64 _ l m w Tryz.underlying47 T.TN.out T.TS.out Tryz.underlying45 hl hm, by kernel_rfl⟩
section
variable {op : Oper} {a : Act} {w : World} {t t2 : TypeId} {x y : Operand} {k : IntKind} {n : Nat} {l m : List Int}
theorem T.x_eql (ho : op.op = .binOp .eql t x y t2) (hE : T.EQ t k n) (hx : a.eval x = .agg (encs (Value.int k) l).toArray) (hy : a.eval y = .agg (encs (Value.int k) m).toArray) (hl : l.length = n) (hm : m.length = n) :
    (execOp a.eval op).run Tryz.prog w = .ok (.value (.bool (l == m))) w :=
  T.x_bin ho hE.guard hx hy (by rw [run_eql_struct, hE.out 9998 l m w hl hm]; rfl)
theorem T.x_neq (ho : op.op = .binOp .neq t x y t2) (hE : T.EQ t k n) (hx : a.eval x = .agg (encs (Value.int k) l).toArray) (hy : a.eval y = .agg (encs (Value.int k) m).toArray) (hl : l.length = n) (hm : m.length = n) :
    (execOp a.eval op).run Tryz.prog w = .ok (.value (.bool (!(l == m)))) w :=
  T.x_bin ho hE.guard hx hy (by rw [run_neq_struct, hE.out 9998 l m w hl hm]; rfl)
end
def T.Head.eq (h g : T.Head) : Bool := h.height == g.height && (h.prev == g.prev && (h.links == g.links && (h.txs == g.txs && (h.past == g.past && (h.work == g.work && (h.bits == g.bits && (h.nonce == g.nonce)))))))
theorem T.seg (A B C X : List Value) (n m : Nat) (h : X = A ++ (B ++ C)) (hA : A.length = n) (hB : B.length = m) : (X.drop n).take m = B := by
  subst hA
  subst hB
  rw [h, List.drop_left, List.take_left]
theorem T.Head.prevs (h : T.Head) (k : h.ok) : (h.cells.drop 1).take 32 = T.u8s h.prev :=
  T.seg [.int .i64 h.height] _ _ _ 1 32 rfl rfl (by rw [encs_length]; exact k.prev)
theorem T.Head.linkss (h : T.Head) (k : h.ok) : (h.cells.drop 33).take 32 = T.u8s h.links :=
  T.seg (.int .i64 h.height :: T.u8s h.prev) _ (T.u8s h.txs ++ (T.u8s h.past ++ (T.u64s h.work ++ [.int .u32 h.bits, .int .u64 h.nonce]))) _ 33 32 (by simp [T.Head.cells]) (by simp [encs_length, k.prev]) (by rw [encs_length]; exact k.links)
theorem T.Head.txss (h : T.Head) (k : h.ok) : (h.cells.drop 65).take 32 = T.u8s h.txs :=
  T.seg (.int .i64 h.height :: (T.u8s h.prev ++ T.u8s h.links)) _ (T.u8s h.past ++ (T.u64s h.work ++ [.int .u32 h.bits, .int .u64 h.nonce])) _ 65 32 (by simp [T.Head.cells]) (by simp [encs_length, k.prev, k.links]) (by rw [encs_length]; exact k.txs)
theorem T.Head.pasts (h : T.Head) (k : h.ok) : (h.cells.drop 97).take 32 = T.u8s h.past :=
  T.seg (.int .i64 h.height :: (T.u8s h.prev ++ (T.u8s h.links ++ T.u8s h.txs))) _ (T.u64s h.work ++ [.int .u32 h.bits, .int .u64 h.nonce]) _ 97 32 (by simp [T.Head.cells]) (by simp [encs_length, k.prev, k.links, k.txs]) (by rw [encs_length]; exact k.past)
theorem T.Head.works (h : T.Head) (k : h.ok) : (h.cells.drop 129).take 4 = T.u64s h.work :=
  T.seg (.int .i64 h.height :: (T.u8s h.prev ++ (T.u8s h.links ++ (T.u8s h.txs ++ T.u8s h.past)))) _ [.int .u32 h.bits, .int .u64 h.nonce] _ 129 4 (by simp [T.Head.cells]) (by simp [encs_length, k.prev, k.links, k.txs, k.past]) (by rw [encs_length]; exact k.work)
theorem T.Head.len (h : T.Head) (k : h.ok) : h.cells.length = 135 := by
  simp [T.Head.cells, encs_length, k.prev, k.links, k.txs, k.past, k.work]
theorem T.Head.bits_at (h : T.Head) (k : h.ok) : h.cells[133]? = some (.int .u32 h.bits) := by
  have e : h.cells = (.int .i64 h.height :: (T.u8s h.prev ++ (T.u8s h.links ++ (T.u8s h.txs ++ (T.u8s h.past ++ T.u64s h.work))))) ++ [.int .u32 h.bits, .int .u64 h.nonce] := by simp [T.Head.cells]
  rw [e, List.getElem?_append_right (by simp [encs_length, k.prev, k.links, k.txs, k.past, k.work])]
  simp [encs_length, k.prev, k.links, k.txs, k.past, k.work]
theorem T.Head.nonce_at (h : T.Head) (k : h.ok) : h.cells[134]? = some (.int .u64 h.nonce) := by
  have e : h.cells = (.int .i64 h.height :: (T.u8s h.prev ++ (T.u8s h.links ++ (T.u8s h.txs ++ (T.u8s h.past ++ T.u64s h.work))))) ++ [.int .u32 h.bits, .int .u64 h.nonce] := by simp [T.Head.cells]
  rw [e, List.getElem?_append_right (by simp [encs_length, k.prev, k.links, k.txs, k.past, k.work])]
  simp [encs_length, k.prev, k.links, k.txs, k.past, k.work]
theorem T.Head.ones (h : T.Head) : ∀ v ∈ h.cells, v.oneCell' = true :=
  T.ones_cons rfl (T.ones_app (T.ones_encs _ _) (T.ones_app (T.ones_encs _ _) (T.ones_app (T.ones_encs _ _) (T.ones_app (T.ones_encs _ _) (T.ones_app (T.ones_encs _ _) (T.ones_cons rfl (T.one_ones rfl)))))))
theorem T.part_agg {P : Program} {ty : TypeId} {n : Nat} (hg : ∀ w, (isAgg ty).run P w = .ok true w) (hi : (P.info? ty).map (·.size) = some n) (cs vs : List Value) (o : Nat) (hv : (cs.drop o).take n = vs) (w : World) : (part ty cs.toArray o).run P w = .ok (.agg vs.toArray) w := by
  simp only [part, Sem.run_bind, hg, Result.andThen_ok, if_true, T.size_run hi w, Sem.run_pure, List.extract_toArray, List.extract_eq_take_drop, Nat.add_sub_cancel_left, hv]
theorem T.part_one {P : Program} {ty : TypeId} (hg : ∀ w, (isAgg ty).run P w = .ok false w) (cs : List Value) (o : Nat) (v : Value) (hv : cs[o]? = some v) (w : World) : (part ty cs.toArray o).run P w = .ok v w := by
  simp only [part, Sem.run_bind, hg, Result.andThen_ok, Bool.false_eq_true, if_false]
  simp [hv]
class T.TB (ty : TypeId) : Prop where out : ∀ w, (isAgg ty).run Tryz.prog w = .ok true w
instance : T.TB 44 := ⟨fun w => Tryz.isAgg44 w⟩
instance : T.TB 47 := ⟨fun w => Tryz.isAgg47 w⟩
theorem T.run_eqHead (d : Nat) (h g : T.Head) (kh : h.ok) (kg : g.ok) (w : World) : (Op.equalIn (d + 3) 50 (.agg h.cells.toArray) (.agg g.cells.toArray)).run Tryz.prog w = .ok (h.eq g) w := by
  have ei := fun (dd : Nat) (t : TypeId) (k k' : IntKind) (a b : Int) (hh : Tryz.prog.underlying t = some (.int k')) => run_equalIn_int (P := Tryz.prog) w dd t k k' a b hh
  refine eqA_of Tryz.underlying50 (by kernel_rfl) ?_
  refine eqf_cons (by rfl) (T.part_one T.TS.out _ _ _ rfl w) (T.part_one T.TS.out _ _ _ rfl w) (ei _ _ _ _ _ _ Tryz.underlying3) ?_
  refine eqf_cons (by rfl) (T.part_agg T.TB.out T.TN.out _ _ _ (h.prevs kh) w) (T.part_agg T.TB.out T.TN.out _ _ _ (g.prevs kg) w) (T.EQ.out d _ _ w kh.prev kg.prev) ?_
  refine eqf_cons (by rfl) (T.part_agg T.TB.out T.TN.out _ _ _ (h.linkss kh) w) (T.part_agg T.TB.out T.TN.out _ _ _ (g.linkss kg) w) (T.EQ.out d _ _ w kh.links kg.links) ?_
  refine eqf_cons (by rfl) (T.part_agg T.TB.out T.TN.out _ _ _ (h.txss kh) w) (T.part_agg T.TB.out T.TN.out _ _ _ (g.txss kg) w) (T.EQ.out d _ _ w kh.txs kg.txs) ?_
  refine eqf_cons (by rfl) (T.part_agg T.TB.out T.TN.out _ _ _ (h.pasts kh) w) (T.part_agg T.TB.out T.TN.out _ _ _ (g.pasts kg) w) (T.EQ.out d _ _ w kh.past kg.past) ?_
  refine eqf_cons (by rfl) (T.part_agg T.TB.out T.TN.out _ _ _ (h.works kh) w) (T.part_agg T.TB.out T.TN.out _ _ _ (g.works kg) w) (T.EQ.out d _ _ w kh.work kg.work) ?_
  refine eqf_cons (by rfl) (T.part_one T.TS.out _ _ _ (h.bits_at kh) w) (T.part_one T.TS.out _ _ _ (g.bits_at kg) w) (ei _ _ _ _ _ _ Tryz.underlying48) ?_
  exact eqf_last (by rfl) (T.part_one T.TS.out _ _ _ (h.nonce_at kh) w) (T.part_one T.TS.out _ _ _ (g.nonce_at kg) w) (ei _ _ _ _ _ _ Tryz.underlying45)
section
variable {op : Oper} {a : Act} {w : World} {x y : Operand} {h g : T.Head}
theorem T.x_eqlHead {t2 : TypeId} (ho : op.op = .binOp .eql 50 x y t2) (hx : a.eval x = .agg h.cells.toArray) (hy : a.eval y = .agg g.cells.toArray) (kh : h.ok) (kg : g.ok) :
    (execOp a.eval op).run Tryz.prog w = .ok (.value (.bool (h.eq g))) w :=
  T.x_bin ho (by kernel_rfl) hx hy (by rw [run_eql_struct, T.run_eqHead 9997 h g kh kg w]; rfl)
theorem T.x_neqHead {t2 : TypeId} (ho : op.op = .binOp .neq 50 x y t2) (hx : a.eval x = .agg h.cells.toArray) (hy : a.eval y = .agg g.cells.toArray) (kh : h.ok) (kg : g.ok) :
    (execOp a.eval op).run Tryz.prog w = .ok (.value (.bool (!(h.eq g)))) w :=
  T.x_bin ho (by kernel_rfl) hx hy (by rw [run_neq_struct, T.run_eqHead 9997 h g kh kg w]; rfl)
end
end
section
def T.E (v : Value) (w : World) (e : Ending) (w' : World) : Prop := e = .returned v ∧ Below w.heap.size w w'
def T.EG (el : TypeId) (sz n : Nat) (xs : List Value) (w : World) (e : Ending) (w' : World) : Prop :=
  ∃ v, e = .returned v ∧ w'.ownsRow w.heap.size el sz v n xs ∧ (∀ u ∈ xs, u.oneCell' = true) ∧ Below w.heap.size w w'
theorem T.Mem.callG {w0 w w' : World} {F : Option Nat} {L : List T.Blk} (h : T.Mem w0 F w L) (hb : Below w.heap.size w w') {v : Value} {e : TypeId} {sz n : Nat} {xs : List Value} (ho : w'.ownsRow w.heap.size e sz v n xs) (h1 : ∀ u ∈ xs, u.oneCell' = true) : T.Mem w0 F w' (.g v e sz n xs :: L) := by
  refine h.push (T.gofb hb none) (x := .g v e sz n xs) ⟨⟨ho.1, ho.2.imp id ?_⟩, h1⟩ (fun k hk => (ho.lt k hk).1)
  rintro ⟨g, cap, cur, rfl, hg, h2⟩
  exact ⟨g, cap, cur, rfl, Nat.le_trans h.grown.size hg, h2⟩
theorem T.Mem.eg {w0 w : World} {L : List T.Blk} {v : Value} {e : TypeId} {sz n : Nat} {xs : List Value} (h : T.Mem w0 none w L) (hm : .g v e sz n xs ∈ L) : T.EG e sz n xs w0 (.returned v) w :=
  ⟨v, rfl, (h.row _ hm).1, (h.row _ hm).2, h.below⟩
theorem T.Mem.egB {w0 w : World} {L : List T.Blk} {g : Nat} {e : TypeId} {sz n : Nat} {xs : List Value} (h : T.Mem w0 none w L) (hm : .b g e xs ∈ L) (hb : w0.heap.size ≤ g) (hl : xs.length = n * sz) (hn : n ≤ maxLen) (h1 : ∀ u ∈ xs, u.oneCell' = true) : T.EG e sz n xs w0 (.returned (.slice (some ⟨g, 0, none⟩) n n)) w :=
  ⟨_, rfl, ⟨hl, .inr ⟨g, n, xs.toArray, rfl, hb, h.row _ hm, Nat.le_refl _, hn, by simpa using hl, by rw [← hl]; simp⟩⟩, h1, h.below⟩
theorem T.Mem.slB {w0 w : World} {F : Option Nat} {L : List T.Blk} {b n c : Nat} {t : TypeId} {cs : List Value} (hM : T.Mem w0 F w L) (hm : .b b t cs ∈ L) (h1 : ∀ u ∈ cs, u.oneCell' = true) (hc : n ≤ c) : T.Sl w (.slice (some ⟨b, 0, none⟩) n c) n cs :=
  ⟨_, c, rfl, hc, h1, .inr ⟨b, 0, rfl, T.range_all hM hm⟩⟩
section
variable {P : Program} {op : Oper} {a : Act} {w w0 : World} {Q : Exit → Act → World → Prop} {L : List T.Blk} {F : Option Nat}
theorem T.bound {k bytes : Nat} (h : k * bytes ≤ 70368744177664) (h0 : 0 < bytes) (h1 : bytes ≤ 1000) : k ≤ maxLen ∧ (k + k / 4 + 192) * bytes ≤ 281474976710656 := by
  have hk : k ≤ 70368744177664 := Nat.le_trans (Nat.le_mul_of_pos_right k h0) h
  have h2 : k / 4 * bytes ≤ 17592186044416 := by
    have : k / 4 * bytes * 4 ≤ 70368744177664 := by
      rw [Nat.mul_right_comm]
      exact Nat.le_trans (Nat.mul_le_mul_right _ (Nat.div_mul_le_self k 4)) h
    omega
  have h3 : 192 * bytes ≤ 192000 := Nat.mul_le_mul_left 192 h1
  refine ⟨by simp only [maxLen]; omega, ?_⟩
  rw [Nat.add_mul, Nat.add_mul]
  omega
theorem T.op_app {K : Act → World → Prop} (s x : Operand) (t : TypeId) (ho : op.op = .call { callee := .builtin .append, args := #[s, x], argTypes := #[t, t] })
    (e : TypeId) (size bytes : Nat) (hE : T.El P t e size bytes) (v : Value) (n : Nat) (xs : List Value) (hs : a.eval s = v) (L' : Value → List T.Blk) (m : Nat) (news : List Value) (hM : T.Mem w0 F w L)
    (hS : ∀ v', T.Sub (.g v e size n xs) (.g v' e size (n + m) (xs ++ news)) L (L' v')) (hx : T.Sl w (a.eval x) m news) (hl : news.length = m * size)
    (h0 : 0 < bytes) (h1 : bytes ≤ 1000) (hb : (n + m) * bytes ≤ 70368744177664)
    (h : ∀ v' w', T.Mem w0 F w' (L' v') → K (a.put op.dst v') w') : T.OW P op a w K Q :=
  T.op_append s x t ho e size bytes hE v n xs hs L' m news hM hS hx hl (T.bound hb h0 h1).1 (T.bound hb h0 h1).2 h
theorem T.op_make {K : Act → World → Prop} (t : TypeId) (x y : Operand) (ho : op.op = .makeSlice t x y) (e : TypeId) (size bytes : Nat) (hE : T.El P t e size bytes) (z : List Value) (hz : T.zeroOf P e = some z) (hzl : z.length = size)
    (kl kc : IntKind) (n : Nat) (hx : a.eval x = .int kl n) (hy : a.eval y = .int kc n) (hb : n * bytes ≤ 70368744177664) (h0 : 0 < bytes) (hM : T.Mem w0 F w L)
    (h : ∀ b w', T.Mem w0 F w' (.b b e (List.replicate n z).flatten :: L) → w0.heap.size ≤ b → K (a.put op.dst (.slice (some ⟨b, 0, none⟩) n n)) w') : T.OW P op a w K Q := by
  obtain ⟨i, zv, hi, hzv, h1, h2, h3⟩ := hE.info
  have hn : n ≤ 70368744177664 := Nat.le_trans (Nat.le_mul_of_pos_right n h0) hb
  have hbi : (i.bytes : Int) * (n : Int) ≤ 281474976710656 := by
    have h5 : ((n * bytes : Nat) : Int) ≤ 70368744177664 := by omega
    rw [Int.natCast_mul, Int.mul_comm] at h5
    rw [h2]
    omega
  have hr := run_make (P := P) w t e i zv hE.under hi hzv kl kc n n (by omega) (Int.le_refl _) hbi (by omega)
  have hzz : zv.cells.toList = z := by
    have := hz
    unfold T.zeroOf at this
    rw [hi, Option.bind_some, hzv] at this
    exact Option.some.inj this
  have hcells : madeCells zv.cells (n * i.size) = (List.replicate n z).flatten.toArray := by
    apply Array.ext'
    rw [madeCells, Array.toList_map, Array.toList_range, h1, ← T.range_rep z size n hzl hE.pos, ← hzz]
  simp only [Int.toNat_natCast] at hr
  rw [hcells] at hr
  refine ⟨?_⟩
  have hh := h _ _ (hM.alloc e (List.replicate n z).flatten) hM.grown.size
  unfold Oper.wp execOp
  simp only [ho, hx, hy, hr, Sem.run_bind, Sem.run_pure, Result.andThen_ok]
  exact hh
theorem T.op_build0 {K : Act → World → Prop} (t : TypeId) (ho : op.op = .buildSlice t 0 #[]) (e : TypeId) (size bytes : Nat) (hE : T.El P t e size bytes) (hM : T.Mem w0 F w L)
    (h : ∀ v w', T.Mem w0 F w' (.g v e size 0 [] :: L) → K (a.put op.dst v) w') : T.OW P op a w K Q := by
  obtain ⟨i, zv, hi, hzv, h1, h2, h3⟩ := hE.info
  have hsz := T.size_run (P := P) (el := e) (size := size) (by rw [hi, ← h1]; rfl) w
  have hrun : (Instr.buildSlice t 0 #[]).run P w = .ok (.slice (some ⟨w.heap.size, 0, none⟩) 0 0) (w.alloc (.cells #[] e)) := by
    unfold Instr.buildSlice
    simp only [Sem.run_bind, run_underlying hE.under w, Result.andThen_ok, hsz, Nat.zero_mul]
    simp [Instr.fill, newRow, Array.range_zero']
  have hh := h _ _ (hM.push (World.grownBy_alloc w _ _) (x := .g (.slice (some ⟨w.heap.size, 0, none⟩) 0 0) e size 0 []) ⟨World.ownsRow_made w #[] 0 hM.grown.size (Nat.zero_le _) (by simp), fun _ h => (List.not_mem_nil h).elim⟩ (fun k hk => by cases hk; exact Nat.le_refl _))
  refine ⟨?_⟩
  unfold Oper.wp execOp
  simp only [ho, hrun, Sem.run_bind, Sem.run_pure, Result.andThen_ok, List.map_toArray, List.map_nil]
  exact hh
theorem T.op_zeros {K : Act → World → Prop} (s x : Operand) (t tn : TypeId) (ho : op.op = .call { callee := .builtin .append, args := #[s, x], argTypes := #[t, tn] })
    (e : TypeId) (size bytes : Nat) (hE : T.El P t e size bytes) {kn : IntKind} (htn : P.underlying tn = some (.int kn)) (hs : a.eval s = .slice none 0 0) (k : IntKind) (n : Nat) (hx : a.eval x = .int k n) (hn : 0 < n) (h0 : 0 < bytes) (h1 : bytes ≤ 1000) (hb : n * bytes ≤ 70368744177664) (hM : T.Mem w0 F w L)
    (h : ∀ b c w', n ≤ c → T.Mem w0 F w' (.g (.slice (some ⟨b, 0, none⟩) 0 c) e size 0 [] :: L) → K (a.put op.dst (.slice (some ⟨b, 0, none⟩) n c)) w') : T.OW P op a w K Q := by
  obtain ⟨i, zv, hi, hzv, g1, g2, g3⟩ := hE.info
  have hbb := T.bound hb h0 h1
  have hmax : n ≤ maxLen := hbb.1
  have hr := Lib.run_append_nil_zeros (P := P) w t tn op.type e i zv k kn hE.under htn hi hzv n hn (by rw [g1]; exact hE.pos) (by simp only [maxLen] at hmax; omega) (by rw [g2]; omega)
  have hc := grownCap_ge w n 0 e
  have hcm := grownCap_le_maxLen w n 0 e hmax
  have hh := h _ _ _ hc ((hM.drew).push (World.grownBy_alloc w.drew (.cells (Builtin.zeroCells zv.cells n ++ Builtin.zeroCells zv.cells (grownCap w n 0 e - n)) e) none) (x := .g (.slice (some ⟨w.drew.heap.size, 0, none⟩) 0 (grownCap w n 0 e)) e size 0 [])
    ⟨World.ownsRow_made w.drew _ _ hM.drew.grown.size hcm (by rw [Array.size_append, size_zeroCells, size_zeroCells, ← Nat.add_mul, g3]; congr 1; omega), fun _ h => (List.not_mem_nil h).elim⟩ (fun k hk => by cases hk; exact Nat.le_refl _))
  refine ⟨?_⟩
  unfold Oper.wp execOp
  simp only [ho, resolve, invoke, builtin, Sem.run_bind, Sem.run_pure, Result.andThen_ok, List.map_toArray, List.map_cons, List.map_nil, hs, hx, hr]
  exact hh
end
end
def T.right (x n : Int) : Int := Go.bits .or .u32 (x * 2 ^ (32 - n).toNat % 4294967296) (x / 2 ^ n.toNat)
set_option maxHeartbeats 1000000 in
theorem T.right_calls (x n : Int) (hn : n ∈ [2, 3, 6, 7, 10, 11, 13, 17, 18, 19, 22, 25]) (w : World) : Calls Tryz.prog 139 #[.int .u32 x, .int .i64 n] w (T.E (.int .u32 (T.right x n)) w) := by
  generalize hP : T.E (.int .u32 (T.right x n)) w = Post
  have hb : Go.bits .and .u64 (IntKind.u64.wrap (-n)) 31 = 32 - n := by
    simp only [List.mem_cons, List.not_mem_nil, or_false] at hn
    rcases hn with rfl | rfl | rfl | rfl | rfl | rfl | rfl | rfl | rfl | rfl | rfl | rfl <;> decide
  simp only [List.mem_cons, List.not_mem_nil, or_false] at hn
  rcases hn with rfl | rfl | rfl | rfl | rfl | rfl | rfl | rfl | rfl | rfl | rfl | rfl
  all_goals
    go_enter Tryz.func139, Tryz.ntmps139
    go_wp2
    subst hP
    exact ⟨by simp [T.right], Below.refl _ _⟩
def T.num : List Int := [1116352408, 1899447441, 3049323471, 3921009573, 961987163, 1508970993, 2453635748, 2870763221, 3624381080, 310598401, 607225278, 1426881987, 1925078388, 2162078206, 2614888103, 3248222580, 3835390401, 4022224774, 264347078, 604807628, 770255983, 1249150122, 1555081692, 1996064986, 2554220882, 2821834349, 2952996808, 3210313671, 3336571891, 3584528711, 113926993, 338241895, 666307205, 773529912, 1294757372, 1396182291, 1695183700, 1986661051, 2177026350, 2456956037, 2730485921, 2820302411, 3259730800, 3345764771, 3516065817, 3600352804, 4094571909, 275423344, 430227734, 506948616, 659060556, 883997877, 958139571, 1322822218, 1537002063, 1747873779, 1955562222, 2024104815, 2227730452, 2361852424, 2428436474, 2756734187, 3204031479, 3329325298]
set_option maxHeartbeats 4000000 in
set_option maxRecDepth 100000 in
theorem T.numbers_calls (w : World) : Calls Tryz.prog 140 #[] w (T.E (.agg (encs (Value.int .u32) T.num).toArray) w) := by
  have hM := T.Mem.start w
  generalize hP : T.E (.agg (encs (Value.int .u32) T.num).toArray) w = Post
  go_enter Tryz.func140, Tryz.ntmps140
  repeat' (first | ((((((with_reducible show wpList _ _ _ _ _ _); (refine T.w_o rfl ?_)))); first | ((with_reducible show T.OW _ ⟨_, .store _ _ _, _, _, _, _⟩ _ _ _ _); ((refine T.op_storeAll _ _ _ rfl _ rfl _ rfl _ _ hM (by (repeat ((exact T.Sub.head _)))) _ T.TN.out (by ((rfl))) (by ((exact T.ones_all rfl))) (by ((rfl))) ?_; clear hM; intro wld hM))) | ((with_reducible show T.OW _ ⟨_, .alloc _, _, _, _, _⟩ _ _ _ _); refine T.op_alloc _ rfl _ T.TZ.out hM ?_; clear hM; intro blk wld hM hlt)); (try simp only [Act.put, List.setIfInBounds_toArray, List.set_cons_zero, List.set_cons_succ])) | (go_step))
  (refine T.ret_cell rfl rfl _ rfl _ _ hM T.Fd.out T.TU.out _ T.TN.out (by ((rfl))) ?_)
  subst hP
  exact ⟨rfl, hM.below⟩
theorem T.num_len : T.num.length = 64 := rfl
attribute [irreducible] T.num
theorem T.rep_u8 (n : Nat) : (List.replicate n [Value.int .u8 0]).flatten = T.u8s (List.replicate n 0) := by
  induction n with
  | zero => rfl
  | succ n ih => rw [List.replicate_succ, List.flatten_cons, ih]; rfl
def T.puts (x : Int) (n : Nat) : Nat → List Int
  | 0 => List.replicate n 0
  | i + 1 => (T.puts x n i).set (n - 1 - i) (x / 2 ^ (8 * i) % 256)
theorem T.puts_len (x : Int) (n : Nat) : ∀ i, (T.puts x n i).length = n
  | 0 => by rw [T.puts, List.length_replicate]
  | i + 1 => by rw [T.puts, List.length_set, T.puts_len x n i]
def T.put (x : Int) (n : Nat) : List Int := T.puts x n n
theorem T.put_len (x : Int) (n : Nat) : (T.put x n).length = n := T.puts_len x n n
theorem T.put_calls (x : Int) (n : Nat) (h1 : 1 ≤ n) (h8 : n ≤ 8) (w : World) : Calls Tryz.prog 58 #[.int .u64 x, .int .i64 n] w (T.EG 5 1 n (T.u8s (T.put x n)) w) := by
  have hM := T.Mem.start w
  generalize hP : T.EG 5 1 n (T.u8s (T.put x n)) w = Post
  have d1 : decide ((n : Int) < 0) = false := decide_eq_false (by omega)
  have d2 : decide (8 < (n : Int)) = false := decide_eq_false (by omega)
  go_enter Tryz.func58, Tryz.ntmps58
  repeat' (first | ((((((with_reducible show wpList _ _ _ _ _ _); (refine T.w_o rfl ?_)))); (((with_reducible show T.OW _ ⟨_, .makeSlice _ _ _, _, _, _, _⟩ _ _ _ _); refine T.op_make _ _ _ rfl _ _ _ T.TE.out _ T.TZ.out rfl _ _ _ rfl rfl (by ((omega))) (by decide) hM ?_; clear hM; intro blk wld hM hlt; (try simp only [List.map_toArray, List.map_cons, List.map_nil, Act.eval, Array.getD_eq_getD_getElem?, List.toList_toArray, List.getElem?_toArray, List.getElem?_cons_zero, List.getElem?_cons_succ, Option.getD_some, T.segs, List.replicate_succ, List.replicate_zero, List.set_cons_zero, List.set_cons_succ, Value.cells, List.flatten_cons, List.flatten_nil, List.append_nil, List.cons_append, List.nil_append])))); (try simp only [Act.put, List.setIfInBounds_toArray, List.set_cons_zero, List.set_cons_succ])) | go_guarded | (go_step))
  rw [T.rep_u8] at hM
  obtain ⟨bx, rfl⟩ := T.n1 hM
  go_loopg [16] (n + 1) (fun kq vv Wd => ∃ i : Nat, vv = .int .i64 i ∧ i ≤ n ∧ n - i < kq ∧ Aside0 (T.Mem w none Wd [.b bx 5 (T.u8s (T.puts x n i))]))
  case atStart => exact ⟨0, rfl, by omega, by omega, ⟨hM⟩⟩
  case round =>
    clear hM
    obtain ⟨i, rfl, hi, hg, hMo⟩ := hrel
    have hM := hMo.out
    clear hMo
    by_cases hlt : i < n
    · have hltz : (i : Int) < (n : Int) := by omega
      have cb : decide ((i : Int) < (n : Int)) = true := decide_eq_true hltz
      have hi0 : (0 : Int) ≤ (i : Int) := by omega
      have hl := T.puts_len x n i
      have e1 : IntKind.i64.wrap ((n : Int) - 1) = (n : Int) - 1 := T.w64 (by omega) (by omega)
      have e2 : IntKind.i64.wrap ((n : Int) - 1 - (i : Int)) = ((n - 1 - i : Nat) : Int) := by rw [T.w64 (by omega) (by omega)]; omega
      have e3 : ((n - 1 - i : Nat) : Int) < (n : Int) := by omega
      repeat' (first | ((((((with_reducible show wpList _ _ _ _ _ _); (refine T.w_o rfl ?_)))); (((with_reducible show T.OW _ ⟨_, .store _ _ _, _, _, _, _⟩ _ _ _ _); ((refine T.op_storeInt _ _ _ rfl _ _ rfl _ _ rfl _ _ hM (by (repeat ((exact T.Sub.head _)))) T.TN.out (by ((omega))) ?_; clear hM; intro wld hM))))); (try simp only [Act.put, List.setIfInBounds_toArray, List.set_cons_zero, List.set_cons_succ])) | (go_step))
      go_roundg (n - i)
      case measure => omega
      case rel => exact ⟨i + 1, by go_num, by omega, by omega, ⟨hM⟩⟩
    · have hiN : i = n := by omega
      have hltz : ¬ (i : Int) < (n : Int) := by omega
      have cb : decide ((i : Int) < (n : Int)) = false := decide_eq_false hltz
      subst hiN
      repeat' (first | (go_step) | go_back | ((fail_if_success (with_reducible show T.Seq _ _ _ _ _ _ _)); (fail_if_success (with_reducible show T.OW _ _ _ _ _ _)); simp only [Int.not_lt, Int.not_le] at *; go_simp))
      subst hP
      exact hM.egB T.Fd.out (by assumption) (by rw [encs_length, T.put_len]; omega) (by simp only [maxLen]; omega) (T.ones_encs _ _)
theorem T.growB_calls (n : Nat) (hn : n ≤ 1099511627776) (w : World) : Calls Tryz.prog 101 #[.slice none 0 0, .int .i64 n] w (T.EG 5 1 0 [] w) := by
  have hM := T.Mem.start w
  have HN := Aside0.mk hn
  have hw : IntKind.i64.wrap (n : Int) = (n : Int) := T.w64 (by omega) (by omega)
  have dn : decide ((n : Int) < 0) = false := decide_eq_false (by omega)
  clear hn
  generalize hP : T.EG 5 1 0 [] w = Post
  by_cases h0 : 0 < n
  · have d0 : decide ((0 : Int) < (n : Int)) = true := decide_eq_true (by omega)
    go_enter Tryz.func101, Tryz.ntmps101
    repeat' (first | (((((with_reducible show wpList _ _ _ (⟨_, .call ⟨.builtin .append, _, _⟩, _, _, _, _⟩ :: _) _ _); refine T.w_o rfl ?_))); refine T.op_zeros _ _ _ _ rfl _ _ _ T.TE.out Tryz.underlying3 rfl _ _ rfl h0 (by decide) (by decide) (by have := HN.out; omega) hM ?_; clear hM; intro gb gc wld hc hM) | (go_step) | go_back)
    subst hP
    exact hM.eg List.mem_cons_self
  · have e0 : n = 0 := by omega
    subst e0
    go_enter Tryz.func101, Tryz.ntmps101
    repeat' (first | (go_step) | go_back)
    subst hP
    exact (hM.nil _ _).eg List.mem_cons_self
def T.cat (l : List (Value × List Int)) : List Int := l.flatMap (·.2)
theorem T.cat_take (l : List (Value × List Int)) (i : Nat) (h : i < l.length) : T.cat (l.take (i + 1)) = T.cat (l.take i) ++ (l[i]).2 := by
  rw [T.cat, List.take_succ_eq_append_getElem h, List.flatMap_append]
  simp [T.cat]
theorem T.cat_le (l : List (Value × List Int)) (i : Nat) : (T.cat (l.take i)).length ≤ (T.cat l).length := by
  conv => rhs; rw [← List.take_append_drop i l]
  rw [T.cat, T.cat, List.flatMap_append, List.length_append]
  omega
theorem T.concat_calls (l : List (Value × List Int)) (b o c : Nat) (w : World) (hr : w.rangeAt b o (l.map (·.1))) (hn : l.length ≤ 100000) (hs : ∀ p ∈ l, T.Sl w p.1 p.2.length (T.u8s p.2)) (ht : (T.cat l).length ≤ 1099511627776) :
    Calls Tryz.prog 57 #[.slice (some ⟨b, o, none⟩) l.length c] w (T.EG 5 1 (T.cat l).length (T.u8s (T.cat l)) w) := by
  have hM := T.Mem.start w
  have HT := Aside0.mk ht
  have HS := Aside0.mk hs
  have HR := Aside0.mk hr
  clear ht hs hr
  generalize hP : T.EG 5 1 (T.cat l).length (T.u8s (T.cat l)) w = Post
  go_enter Tryz.func57, Tryz.ntmps57
  repeat' (((go_step)))
  go_loopg [3, 11] (l.length + 1) (fun kq v3 v11 Wd => ∃ i : Nat, v3 = .int .i64 ((T.cat (l.take i)).length : Nat) ∧ v11 = .int .i64 i ∧ i ≤ l.length ∧ l.length - i < kq ∧ Aside0 (T.Mem w none Wd []))
  case atStart => exact ⟨0, rfl, rfl, by omega, by omega, ⟨hM⟩⟩
  case round =>
    clear hM
    obtain ⟨i, rfl, rfl, hi, hg, hMo⟩ := hrel
    have hM := hMo.out
    clear hMo
    by_cases hlt : i < l.length
    · have hltz : (i : Int) < (l.length : Int) := by omega
      have cb : decide ((i : Int) < (l.length : Int)) = true := decide_eq_true hltz
      have hi0 : (0 : Int) ≤ (i : Int) := by omega
      obtain ⟨A, cc, hv, _, _, _⟩ := HS.out _ (List.getElem_mem hlt)
      have hcell : w.cell? ⟨b, o + i, none⟩ = some (.slice A (l[i]).2.length cc) := HR.out i _ (by rw [List.getElem?_map, List.getElem?_eq_getElem hlt, Option.map_some, hv])
      have HC := Aside0.mk hcell
      clear hcell hv
      have hle := T.cat_le l (i + 1)
      have hto := HT.out
      have hlen : (T.cat (l.take (i + 1))).length = (T.cat (l.take i)).length + (l[i]).2.length := by rw [T.cat_take l i hlt, List.length_append]
      have e1 : IntKind.i64.wrap (((T.cat (l.take i)).length : Int) + ((l[i]).2.length : Int)) = ((T.cat (l.take (i + 1))).length : Int) := by rw [T.w64 (by omega) (by omega)]; omega
      have d1 : decide (((T.cat (l.take (i + 1))).length : Int) < 0) = false := decide_eq_false (by omega)
      clear hto hle hlen
      repeat' (first | ((((((with_reducible show wpList _ _ _ _ _ _); (refine T.w_o rfl ?_)))); (((with_reducible show T.OW _ ⟨_, .load _ _, _, _, _, _⟩ _ _ _ _); ((refine T.ofx (T.x_cell rfl rfl T.TS.out (hM.grown.cell HC.out (by simp))) ?_))))); (try simp only [Act.put, List.setIfInBounds_toArray, List.set_cons_zero, List.set_cons_succ])) | (go_step))
      go_roundg (l.length - i)
      case measure => omega
      case rel => exact ⟨i + 1, rfl, by go_num, by omega, by omega, ⟨hM⟩⟩
    · have hiN : i = l.length := by omega
      have hltz : ¬ (i : Int) < (l.length : Int) := by omega
      have cb : decide ((i : Int) < (l.length : Int)) = false := decide_eq_false hltz
      subst hiN
      rw [List.take_length]
      repeat' (first | (go_at_call 101; refine (T.growB_calls _ HT.out _).mono ?_; rintro _ wr ⟨v, rfl, ho, h1, hbc⟩; replace hM := hM.callG hbc ho h1; clear hbc ho h1) | (go_step) | ((fail_if_success (with_reducible show T.Seq _ _ _ _ _ _ _)); (fail_if_success (with_reducible show T.OW _ _ _ _ _ _)); simp only [Int.not_lt, Int.not_le] at *; go_simp))
      have hcat : (T.u8s (T.cat (l.take 0))) = [] := rfl
      go_loopg [6, 27] (l.length + 1) (fun kq v6 v27 Wd => ∃ i : Nat, v27 = .int .i64 i ∧ i ≤ l.length ∧ l.length - i < kq ∧ Aside0 (T.Mem w none Wd [.g v6 5 1 (T.cat (l.take i)).length (T.u8s (T.cat (l.take i)))]))
      case atStart => exact ⟨0, rfl, by omega, by omega, ⟨hM⟩⟩
      case round =>
        clear hM hcat
        obtain ⟨i, rfl, hi, hg, hMo⟩ := hrel
        rename_i v6
        have hM := hMo.out
        clear hMo
        by_cases hlt : i < l.length
        · have hltz : (i : Int) < (l.length : Int) := by omega
          have cb : decide ((i : Int) < (l.length : Int)) = true := decide_eq_true hltz
          have hi0 : (0 : Int) ≤ (i : Int) := by omega
          have hsi := HS.out _ (List.getElem_mem hlt)
          obtain ⟨A, cc, hv, _, _, _⟩ := hsi
          have hcell : w.cell? ⟨b, o + i, none⟩ = some (.slice A (l[i]).2.length cc) := HR.out i _ (by rw [List.getElem?_map, List.getElem?_eq_getElem hlt, Option.map_some, hv])
          have HC := Aside0.mk hcell
          have hsi2 := HS.out _ (List.getElem_mem hlt)
          rw [hv] at hsi2
          have HSI := Aside0.mk hsi2
          clear hcell hv hsi2
          have hle := T.cat_le l (i + 1)
          have hto := HT.out
          have hlen : (T.cat (l.take (i + 1))).length = (T.cat (l.take i)).length + (l[i]).2.length := by rw [T.cat_take l i hlt, List.length_append]
          have hbd : ((T.cat (l.take i)).length + (l[i]).2.length) * 1 ≤ 70368744177664 := by omega
          have HB := Aside0.mk hbd
          clear hto hle hbd
          have hln : (T.u8s (l[i]).2).length = (l[i]).2.length * 1 := by rw [encs_length]; omega
          repeat' (first | ((with_reducible show wpList _ _ _ (⟨_, .call ⟨.builtin .append, _, _⟩, _, _, _, _⟩ :: _) _ _); refine T.w_o rfl ?_; refine T.op_app _ _ _ rfl _ _ _ T.TE.out _ _ _ rfl _ _ _ hM (fun _ => by (repeat ((exact T.Sub.head _)))) (hM.slin HSI.out) hln (by decide) (by decide) HB.out ?_; clear hM; intro gsv wld hM; (try simp only [Act.put, List.setIfInBounds_toArray, List.set_cons_zero, List.set_cons_succ])) | ((((((with_reducible show wpList _ _ _ _ _ _); (refine T.w_o rfl ?_)))); (((with_reducible show T.OW _ ⟨_, .load _ _, _, _, _, _⟩ _ _ _ _); ((refine T.ofx (T.x_cell rfl rfl T.TS.out (hM.grown.cell HC.out (by simp))) ?_))))); (try simp only [Act.put, List.setIfInBounds_toArray, List.set_cons_zero, List.set_cons_succ])) | (go_step))
          trace_state
          go_roundg (l.length - i)
          case measure => omega
          case rel => exact ⟨i + 1, by go_num, by omega, by omega, ⟨by rw [T.cat_take l i hlt, List.length_append]; simpa [T.u8s, encs] using hM⟩⟩
        · have hiN : i = l.length := by omega
          have hltz : ¬ (i : Int) < (l.length : Int) := by omega
          have cb : decide ((i : Int) < (l.length : Int)) = false := decide_eq_false hltz
          subst hiN
          rw [List.take_length] at hM
          repeat' (first | (go_step) | go_back | ((fail_if_success (with_reducible show T.Seq _ _ _ _ _ _ _)); (fail_if_success (with_reducible show T.OW _ _ _ _ _ _)); simp only [Int.not_lt, Int.not_le] at *; go_simp))
          subst hP
          exact hM.eg List.mem_cons_self
theorem T.concatM {w0 w : World} {F : Option Nat} {L : List T.Blk} {b c : Nat} {t : TypeId} (l : List (Value × List Int)) (hM : T.Mem w0 F w L) (hm : .b b t (l.map (·.1)) ∈ L) (hn : l.length ≤ 100000) (hs : ∀ p ∈ l, T.Sl w p.1 p.2.length (T.u8s p.2)) (ht : (T.cat l).length ≤ 1099511627776) :
    Calls Tryz.prog 57 #[.slice (some ⟨b, 0, none⟩) l.length c] w (T.EG 5 1 (T.cat l).length (T.u8s (T.cat l)) w) :=
  T.concat_calls l b 0 c w (T.range_all hM hm) hn hs ht
theorem T.concat2 {w0 w : World} {F : Option Nat} {L : List T.Blk} {b c : Nat} {t : TypeId} {v1 v2 : Value} (b1 b2 : List Int) (hM : T.Mem w0 F w L) (hm : .b b t [v1, v2] ∈ L) (h1 : T.Sl w v1 b1.length (T.u8s b1)) (h2 : T.Sl w v2 b2.length (T.u8s b2))
    (ht : (b1 ++ b2).length ≤ 1099511627776) : Calls Tryz.prog 57 #[.slice (some ⟨b, 0, none⟩) 2 c] w (T.EG 5 1 (b1 ++ b2).length (T.u8s (b1 ++ b2)) w) := by
  have e : T.cat [(v1, b1), (v2, b2)] = b1 ++ b2 := by simp [T.cat]
  have := T.concatM (c := c) [(v1, b1), (v2, b2)] hM hm (Nat.le_of_ble_eq_true rfl) (by simp; exact ⟨h1, h2⟩) (by rw [e]; exact ht)
  rw [e] at this
  exact this
theorem T.concat3 {w0 w : World} {F : Option Nat} {L : List T.Blk} {b c : Nat} {t : TypeId} {v1 v2 v3 : Value} (b1 b2 b3 : List Int) (hM : T.Mem w0 F w L) (hm : .b b t [v1, v2, v3] ∈ L) (h1 : T.Sl w v1 b1.length (T.u8s b1)) (h2 : T.Sl w v2 b2.length (T.u8s b2)) (h3 : T.Sl w v3 b3.length (T.u8s b3))
    (ht : (b1 ++ (b2 ++ b3)).length ≤ 1099511627776) : Calls Tryz.prog 57 #[.slice (some ⟨b, 0, none⟩) 3 c] w (T.EG 5 1 (b1 ++ (b2 ++ b3)).length (T.u8s (b1 ++ (b2 ++ b3))) w) := by
  have e : T.cat [(v1, b1), (v2, b2), (v3, b3)] = b1 ++ (b2 ++ b3) := by simp [T.cat]
  have := T.concatM (c := c) [(v1, b1), (v2, b2), (v3, b3)] hM hm (Nat.le_of_ble_eq_true rfl) (by simp; exact ⟨h1, h2, h3⟩) (by rw [e]; exact ht)
  rw [e] at this
  exact this
def T.padN (n : Nat) : Nat := (64 - (n + 9) % 64) % 64
def T.pad0 (bs : List Int) : List Int := bs ++ ([128] ++ List.replicate (T.padN bs.length + 8) 0)
theorem T.pad0_len (bs : List Int) : (T.pad0 bs).length = bs.length + 1 + T.padN bs.length + 8 := by
  rw [T.pad0]; simp; omega
def T.pads (bs : List Int) : Nat → List Int
  | 0 => T.pad0 bs
  | i + 1 => (T.pads bs i).set ((T.pad0 bs).length - 1 - i) (8 * (bs.length : Int) / 2 ^ (8 * i) % 256)
theorem T.pads_len (bs : List Int) : ∀ i, (T.pads bs i).length = (T.pad0 bs).length
  | 0 => rfl
  | i + 1 => by rw [T.pads, List.length_set, T.pads_len bs i]
def T.pad (bs : List Int) : List Int := T.pads bs 8
theorem T.pad_len (bs : List Int) : (T.pad bs).length % 64 = 0 ∧ bs.length < (T.pad bs).length ∧ (T.pad bs).length ≤ bs.length + 73 := by
  rw [T.pad, T.pads_len, T.pad0_len, T.padN]
  omega
theorem T.pad_calls (bs : List Int) (v : Value) (hn : bs.length ≤ 1000000000) (w : World) (hS : T.Sl w v bs.length (T.u8s bs)) : Calls Tryz.prog 103 #[v] w (T.EG 5 1 (T.pad bs).length (T.u8s (T.pad bs)) w) := by
  have hM := T.Mem.start w
  obtain ⟨A, cc, hv, _, _, _⟩ := id hS
  rw [hv] at hS ⊢
  have HS := Aside0.mk hS
  have HN := Aside0.mk hn
  clear hS hv
  generalize hP : T.EG 5 1 (T.pad bs).length (T.u8s (T.pad bs)) w = Post
  have e1 : IntKind.i64.wrap ((bs.length : Int) + 1) = (bs.length : Int) + 1 := T.w64 (by omega) (by omega)
  have e2 : IntKind.i64.wrap ((bs.length : Int) + 1 + 8) = (bs.length : Int) + 1 + 8 := T.w64 (by omega) (by omega)
  have e3 : IntKind.i64.wrap (64 - ((bs.length : Int) + 1 + 8) % 64) = 64 - ((bs.length : Int) + 1 + 8) % 64 := T.w64 (by omega) (by omega)
  have e4 : (64 - ((bs.length : Int) + 1 + 8) % 64) % 64 = ((T.padN bs.length : Nat) : Int) := by unfold T.padN; omega
  have e5 : IntKind.i64.wrap (((T.padN bs.length : Nat) : Int) + 8) = ((T.padN bs.length + 8 : Nat) : Int) := by rw [T.w64 (by unfold T.padN; omega) (by unfold T.padN; omega)]; omega
  obtain ⟨m, hm⟩ : ∃ m, T.padN bs.length + 8 = m := ⟨_, rfl⟩
  rw [hm] at e5
  have hpn : T.padN bs.length < 64 := Nat.mod_lt _ (by decide)
  clear hn
  go_enter Tryz.func103, Tryz.ntmps103
  repeat' (first | ((((((with_reducible show wpList _ _ _ _ _ _); (refine T.w_o rfl ?_)))); first | ((with_reducible show T.OW _ ⟨_, .makeSlice _ _ _, _, _, _, _⟩ _ _ _ _); refine T.op_make _ _ _ rfl _ _ _ T.TE.out _ T.TZ.out rfl _ _ _ rfl rfl (by ((omega))) (by decide) hM ?_; clear hM; intro blk wld hM hlt; (try simp only [List.map_toArray, List.map_cons, List.map_nil, Act.eval, Array.getD_eq_getD_getElem?, List.toList_toArray, List.getElem?_toArray, List.getElem?_cons_zero, List.getElem?_cons_succ, Option.getD_some, T.segs, List.replicate_succ, List.replicate_zero, List.set_cons_zero, List.set_cons_succ, Value.cells, List.flatten_cons, List.flatten_nil, List.append_nil, List.cons_append, List.nil_append])) | ((with_reducible show T.OW _ ⟨_, .buildSlice _ _ _, _, _, _, _⟩ _ _ _ _); refine T.op_buildSl _ _ _ rfl _ T.TL.out _ T.TN.out _ T.TZ.out rfl (by decide) (by decide) _ rfl (by (((simp [T.okp, Value.cells, Act.eval, *]; done)))) _ rfl hM ?_; (try simp only [List.map_toArray, List.map_cons, List.map_nil, Act.eval, Array.getD_eq_getD_getElem?, List.toList_toArray, List.getElem?_toArray, List.getElem?_cons_zero, List.getElem?_cons_succ, Option.getD_some, T.segs, List.replicate_succ, List.replicate_zero, List.set_cons_zero, List.set_cons_succ, Value.cells, List.flatten_cons, List.flatten_nil, List.append_nil, List.cons_append, List.nil_append]); clear hM; intro blk wld hM hlt)); (try simp only [Act.put, List.setIfInBounds_toArray, List.set_cons_zero, List.set_cons_succ])) | (go_step))
  rw [T.rep_u8] at hM
  obtain ⟨b0, rfl⟩ := T.n1 hM
  obtain ⟨bz, rfl⟩ := T.n2 hM
  obtain ⟨b1, rfl⟩ := T.n3 hM
  have ht : (bs ++ ([128] ++ List.replicate m 0)).length ≤ 1099511627776 := by have := HN.out; simp; omega
  refine (T.concat3 bs [128] (List.replicate m 0) hM T.Fd.out (hM.slin HS.out) (hM.slB T.Fd.out (T.one_ones rfl) (Nat.le_refl _)) (by have := hM.slB (b := bz) (n := m) (c := m) (t := 5) (cs := T.u8s (List.replicate m 0)) T.Fd.out (T.ones_encs _ _) (Nat.le_refl _); simpa using this) ht).mono ?_
  clear ht
  rintro _ wr ⟨v, rfl, ho, h1, hbc⟩
  replace hM := hM.callG hbc ho h1
  clear hbc ho h1
  have hp0 : bs ++ ([128] ++ List.replicate m 0) = T.pad0 bs := by rw [T.pad0, hm]
  rw [hp0] at hM
  have hpl := T.pad0_len bs
  obtain ⟨bg, cap, rest, rfl, hnc, hcm, _, hcl, _, hg0, hM⟩ := hM.open (by omega)
  have hg0 : w.heap.size ≤ bg := hg0.resolve_right (by simp)
  rename_i hMg
  clear hMg
  have hb9 := HN.out
  obtain ⟨N, hN⟩ : ∃ N, (T.pad0 bs).length = N := ⟨_, rfl⟩
  rw [hN] at hnc ⊢
  rw [hN] at hpl
  have hN0 : 9 ≤ N := by omega
  have hN1 : N ≤ 1000000100 := by omega
  have ew1 : IntKind.i64.wrap ((N : Int) - 1) = (N : Int) - 1 := T.w64 (by omega) (by omega)
  clear hpl hp0 hm
  repeat' (first | (go_step) | ((fail_if_success (with_reducible show T.Seq _ _ _ _ _ _ _)); (fail_if_success (with_reducible show T.OW _ _ _ _ _ _)); simp only [Int.not_lt, Int.not_le] at *; go_simp))
  go_loopg [20] (8 + 1) (fun kq vv Wd => ∃ i : Nat, vv = .int .i64 i ∧ i ≤ 8 ∧ 8 - i < kq ∧ Aside0 (T.Mem w none Wd [.b bg 5 (T.u8s (T.pads bs i) ++ rest), .b b0 37 [.slice A bs.length cc, .slice (some ⟨b1, 0, none⟩) 1 1, .slice (some ⟨bz, 0, none⟩) m m], .b bz 5 (T.u8s (List.replicate m 0)), .b b1 5 [.int .u8 128]]))
  case atStart => exact ⟨0, rfl, by omega, by omega, ⟨hM⟩⟩
  case round =>
    clear hM
    obtain ⟨i, rfl, hi, hg, hMo⟩ := hrel
    have hM := hMo.out
    clear hMo
    by_cases hlt : i < 8
    · have hltz : (i : Int) < 8 := by omega
      have cb : decide ((i : Int) < 8) = true := decide_eq_true hltz
      have hi0 : (0 : Int) ≤ (i : Int) := by omega
      have hl := T.pads_len bs i
      rw [hN] at hl
      have ew2 : IntKind.i64.wrap ((N : Int) - 1 - (i : Int)) = ((N - 1 - i : Nat) : Int) := by rw [T.w64 (by omega) (by omega)]; omega
      have ew3 : ((N - 1 - i : Nat) : Int) < (N : Int) := by omega
      have ew4 : N - 1 - i < N := by omega
      repeat' (first | ((((((with_reducible show wpList _ _ _ _ _ _); (refine T.w_o rfl ?_)))); (((with_reducible show T.OW _ ⟨_, .store _ _ _, _, _, _, _⟩ _ _ _ _); ((refine T.op_storeIntR _ _ _ rfl _ _ rfl _ _ rfl _ _ _ hM (by (repeat ((exact T.Sub.head _)))) T.TN.out (by ((omega))) ?_; clear hM; intro wld hM))))); (try simp only [Act.put, List.setIfInBounds_toArray, List.set_cons_zero, List.set_cons_succ])) | (go_step))
      rw [← hN] at hM
      go_roundg (8 - i)
      case measure => omega
      case rel => exact ⟨i + 1, by go_num, by omega, by omega, ⟨hM⟩⟩
    · have hiN : i = 8 := by omega
      have hltz : ¬ (i : Int) < 8 := by omega
      have cb : decide ((i : Int) < 8) = false := decide_eq_false hltz
      rw [hiN] at hM
      repeat' (first | (go_step) | go_back | ((fail_if_success (with_reducible show T.Seq _ _ _ _ _ _ _)); (fail_if_success (with_reducible show T.OW _ _ _ _ _ _)); simp only [Int.not_lt, Int.not_le] at *; go_simp))
      subst hP
      have hl := T.pads_len bs 8
      rw [hN] at hl
      have hM2 := hM.shut (n := N) (sz := 1) hg0 hnc hcm (by rw [encs_length, hl]; omega) (by
        rw [List.length_append, encs_length] at hcl ⊢
        rw [hl, ← hN]
        exact hcl) (T.ones_encs _ _)
      rw [show (T.pad bs).length = N from hl]
      exact hM2.eg List.mem_cons_self
attribute [irreducible] T.pad
end Go.Proofs.YtdklknfgcepcbaaGreat.X
