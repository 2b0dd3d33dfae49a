/- Texts of this proof, laid together by wip/tools/pack.py: TP7. -/
import Derived.Test.YtdklknfgcepcbaaGreatZ44
import Derived.Test.YtdklknfgcepcbaaGreatRows
import Derived.OpenShut
import Derived.Deep.Slices
import Derived.ChangeArms
section
namespace Go.Proofs.YtdklknfgcepcbaaGreat.X
open Go.RowKit Go.ChangeShapes Go.WideShapes Go.Deep Go.Proofs.YtdklknfgcepcbaaGreatW.PrintWords Go.Proofs.YtdklknfgcepcbaaGreatW.PrintLast Go.Proofs.YtdklknfgcepcbaaGreatW.PrintMore
set_option linter.unusedSimpArgs false
set_option linter.unusedVariables false
theorem B.one_le {H : Type} (d : DataW H) : 1 ≤ Rows.uptoBulk d := by
  cases d with
  | lit l => cases l <;> simp [Rows.uptoBulk]
  | nil => simp [Rows.uptoBulk]
  | ptr d => simp [Rows.uptoBulk]
  | slice elems spare => simp [Rows.uptoBulk]
  | agg parts => simp [Rows.uptoBulk]
  | iface t d => simp [Rows.uptoBulk]
  | map entries => simp [Rows.uptoBulk]
  | held h => simp [Rows.uptoBulk]
theorem B.part_le {H : Type} {d : DataW H} {l : List (DataW H)} (h : d ∈ l) : Rows.uptoBulk d ≤ Rows.uptoBulkAll l := by
  induction l with
  | nil => cases h
  | cons x r ih =>
    simp only [Rows.uptoBulkAll]
    cases List.mem_cons.1 h with
    | inl e => subst e; omega
    | inr e => have := ih e; omega
theorem B.length_le {H : Type} (l : List (DataW H)) : l.length ≤ Rows.uptoBulkAll l := by
  induction l with
  | nil => simp [Rows.uptoBulkAll]
  | cons x r ih => have := B.one_le x; simp only [Rows.uptoBulkAll, List.length_cons]; omega
theorem B.two_le {H : Type} (l : List (DataW H)) (h : ∀ d ∈ l, 2 ≤ Rows.uptoBulk d) : l.length * 2 ≤ Rows.uptoBulkAll l := by
  induction l with
  | nil => simp [Rows.uptoBulkAll]
  | cons x r ih =>
    have h1 := h x List.mem_cons_self
    have h2 := ih (fun d hd => h d (List.mem_cons_of_mem _ hd))
    simp only [Rows.uptoBulkAll, List.length_cons]
    omega
section
variable {H : Type} {enc : TypeId × Value → H} {w : World} {fuel : Nat} {cs : List Value} {x : DataW H × List MemPlace}
theorem B.agg2 {xs : List (DataW H × List MemPlace)} {ps : List MemPlace} (hx : x = (.agg (xs.map (·.1)), ps)) (h : 0 < xs.length) : 2 ≤ Rows.uptoBulk x.1 := by
  rw [hx]
  have := B.length_le (xs.map (·.1))
  rw [List.length_map] at this
  simp only [Rows.uptoBulk]
  omega
theorem B.arr2 {t el : TypeId} {n : Nat} (hu : Tryz.prog.underlying t = some (.array n el)) (hn : 0 < n) (h : DataW.trod enc Tryz.prog w 0 (fun _ => true) true fuel t cs = some x) : 2 ≤ Rows.uptoBulk x.1 := by
  obtain ⟨xs, m, _, hx, _, hl, _⟩ := DataW.trod_array hu h
  exact B.agg2 hx (by omega)
theorem B.str2 {t : TypeId} {fs : Array Field} (hu : Tryz.prog.underlying t = some (.struct fs)) (hn : 0 < fs.size) (h : DataW.trod enc Tryz.prog w 0 (fun _ => true) true fuel t cs = some x) : 2 ≤ Rows.uptoBulk x.1 := by
  obtain ⟨xs, m, _, hx, _, hl, _⟩ := DataW.trod_struct hu h
  exact B.agg2 hx (by omega)
theorem B.ints {t el : TypeId} {k : IntKind} {n : Nat} (hu : Tryz.prog.underlying t = some (.array n el)) (he : Tryz.prog.underlying el = some (.int k)) (hc : Tryz.prog.cellsOf el = 1) (hct : Tryz.prog.cellsOf t = n) (h : DataW.trod enc Tryz.prog w 0 (fun _ => true) true fuel t cs = some x) :
    ∃ l : List Int, cs = encs (Value.int k) l ∧ l.length = n := by
  obtain ⟨xs, m, _, _, hl, hx, hf⟩ := DataW.trod_array hu h
  rw [hct] at hl
  have each : ∀ i, i < n → ∃ z : Int, cs[i]? = some (.int k z) := by
    intro i hi
    have hh := hf i hi
    rw [hc, Nat.mul_one, List.getElem?_eq_getElem (by rw [hx]; exact hi)] at hh
    obtain ⟨z, hz, _, _⟩ := DataW.trod_int he hh
    refine ⟨z, ?_⟩
    have h2 := congrArg (·[0]?) hz
    simp only [List.getElem?_take_of_lt Nat.one_pos, List.getElem?_drop, Nat.add_zero, List.getElem?_cons_zero] at h2
    exact h2
  obtain ⟨q, hq⟩ := choose_lt each
  refine ⟨(List.range n).map q, ?_, by simp⟩
  apply List.ext_getElem?
  intro i
  by_cases hi : i < n
  · rw [hq i hi]
    simp [encs, hi]
  · rw [List.getElem?_eq_none (by omega), List.getElem?_eq_none (by simp [encs]; omega)]
theorem B.id (h : DataW.trod enc Tryz.prog w 0 (fun _ => true) true fuel 44 cs = some x) : ∃ l : List Int, cs = T.u8s l ∧ l.length = 32 :=
  B.ints Tryz.underlying44 Tryz.underlying5 (by kernel_rfl) (by kernel_rfl) h
theorem B.spot {a : Addr} {v : Value} (h : w.cell? a = some v) : a.spot = none := by
  unfold World.cell? at h
  split at h
  · split at h
    · cases h
    · rename_i hs
      simpa using hs
  · cases h
theorem B.slice {α : Type} [Inhabited α] (en : α → List Value) (k : Nat) (hk : 0 < k) (Z0 : Nat) (Pr : α → Prop) {t e : TypeId} (hu : Tryz.prog.underlying t = some (.slice e)) (hc : Tryz.prog.cellsOf e = k)
    (one : ∀ (f : Nat) (c : List Value) (y : DataW H × List MemPlace), DataW.trod enc Tryz.prog w 0 (fun _ => true) true f e c = some y → Rows.uptoBulk y.1 ≤ Z0 → ∃ a : α, c = en a ∧ Pr a)
    (two : ∀ (f : Nat) (c : List Value) (y : DataW H × List MemPlace), DataW.trod enc Tryz.prog w 0 (fun _ => true) true f e c = some y → 2 ≤ Rows.uptoBulk y.1)
    (ones : ∀ a, Pr a → (en a).length = k ∧ ∀ u ∈ en a, u.oneCell' = true) (h : DataW.trod enc Tryz.prog w 0 (fun _ => true) true fuel t cs = some x) (hB : Rows.uptoBulk x.1 ≤ Z0) :
    ∃ (v : Value) (l : List α), cs = [v] ∧ T.Sl w v l.length (T.rc en l) ∧ (∀ a ∈ l, Pr a) ∧ l.length * 2 ≤ Z0 := by
  rcases open_slice hu h with ⟨hcs, _⟩ | ⟨a, len, cap, m, n, D, Pl, hcs, _, hl, hm, hmm, hx, hel⟩
  · exact ⟨_, [], hcs, T.Sl.nil w, fun _ h => (List.not_mem_nil h).elim, by simp⟩
  · simp only [if_true] at hmm
    subst hmm
    rw [hc] at hel
    have hb1 : Rows.uptoBulkAll ((List.range len).map D) + 1 ≤ Z0 := by
      rw [hx] at hB
      simp only [Rows.uptoBulk] at hB
      omega
    have hlen2 := B.two_le ((List.range len).map D) (fun d hd => by
      obtain ⟨i, hi, rfl⟩ := List.mem_map.1 hd
      obtain ⟨cs', _, h2⟩ := hel i (by have := List.mem_range.1 hi; omega)
      exact two _ _ _ h2)
    rw [List.length_map, List.length_range] at hlen2
    have each : ∀ i, i < len → ∃ q : α, w.cells? 0 (a.add (i * k)) k = some (en q) ∧ Pr q := by
      intro i hi
      obtain ⟨cs', h1, h2⟩ := hel i (by omega)
      obtain ⟨q, rfl, hq⟩ := one _ _ _ h2 (by
        have := B.part_le (l := (List.range len).map D) (d := D i) (List.mem_map_of_mem (List.mem_range.2 hi))
        show Rows.uptoBulk (D i) ≤ Z0
        omega)
      exact ⟨q, h1, hq⟩
    obtain ⟨q, hq⟩ := choose_lt each
    refine ⟨_, (List.range len).map q, hcs, ?_, ?_, by rw [List.length_map, List.length_range]; omega⟩
    · rw [List.length_map, List.length_range]
      refine ⟨_, _, rfl, hl, ?_, ?_⟩
      · intro u hu
        obtain ⟨y, hy, huy⟩ := List.mem_flatMap.1 (show u ∈ ((List.range len).map q).flatMap en from hu)
        obtain ⟨i, hi, rfl⟩ := List.mem_map.1 hy
        exact (ones _ (hq i (List.mem_range.1 hi)).2).2 u huy
      · by_cases h0 : m = 0
        · subst h0
          obtain rfl : len = 0 := by omega
          exact .inl ⟨rfl, rfl, rfl, rfl⟩
        · have hsp : a.spot = none := by
            obtain ⟨cs', h1, _⟩ := hel 0 (by omega)
            obtain ⟨_, _, h4⟩ := World.cells?_some h1
            have h5 := h4 0 hk
            rw [Nat.zero_mul] at h5
            have h6 : (a.add 0).add 0 = a := rfl
            rw [h6] at h5
            obtain ⟨v, hv⟩ : ∃ v, cs'[0]? = some v := ⟨_, List.getElem?_eq_getElem (by
              obtain ⟨_, h3, _⟩ := World.cells?_some h1
              omega)⟩
            exact B.spot (h5.trans hv)
          obtain ⟨ab, ao, sp⟩ := a
          simp only at hsp
          subst hsp
          refine .inr ⟨ab, ao, rfl, fun j v hj => ?_⟩
          have hjl : j < (T.rc en ((List.range len).map q)).length := (List.getElem?_eq_some_iff.1 hj).1
          have hrl : (T.rc en ((List.range len).map q)).length = len * k := by
            rw [T.rc_len (k := k) (fun y hy => by
              obtain ⟨i, hi, rfl⟩ := List.mem_map.1 hy
              exact (ones _ (hq i (List.mem_range.1 hi)).2).1)]
            simp
          rw [hrl] at hjl
          have hdiv : j / k < len := Nat.div_lt_of_lt_mul (by rw [Nat.mul_comm]; exact hjl)
          have hmod := Nat.mod_lt j hk
          have hat := T.rc_at (enc := en) (k := k) (l := (List.range len).map q) (fun y hy => by
            obtain ⟨i, hi, rfl⟩ := List.mem_map.1 hy
            exact (ones _ (hq i (List.mem_range.1 hi)).2).1) (j / k) (by simpa using hdiv)
          obtain ⟨h1, _⟩ := hq (j / k) hdiv
          obtain ⟨_, h3, h4⟩ := World.cells?_some h1
          have h5 := h4 (j % k) hmod
          have hjj : j / k * k + j % k = j := by rw [Nat.mul_comm]; exact Nat.div_add_mod j k
          rw [Addr.add_mid, Addr.add_mid, Nat.add_assoc, hjj] at h5
          rw [h5]
          have h6 := congrArg (·[j % k]?) hat
          simp only [List.getElem?_take_of_lt hmod, List.getElem?_drop, hjj] at h6
          rw [← hj, h6]
          simp
    · intro y hy
      obtain ⟨i, hi, rfl⟩ := List.mem_map.1 hy
      exact (hq i (List.mem_range.1 hi)).2
end
theorem B.wf {k : IntKind} {z : Int} (h : (Lit.int k z).wf = true) : k.min ≤ z ∧ z ≤ k.max := by
  simpa [Lit.wf] using h
section
variable {H : Type} {enc : TypeId × Value → H} {w : World} {fuel : Nat} {cs : List Value} {x : DataW H × List MemPlace}
theorem B.cut (cs : List Value) (a b : Nat) : cs.drop a = (cs.drop a).take b ++ cs.drop (a + b) := by
  rw [← List.drop_drop, List.take_append_drop]
theorem B.head (h : DataW.trod enc Tryz.prog w 0 (fun _ => true) true fuel 50 cs = some x) : ∃ g : T.Head, cs = g.cells ∧ g.ok ∧ g.nums := by
  obtain ⟨xs, n, _, _, hl, hx, hf⟩ := DataW.trod_struct Tryz.underlying50 h
  have ce : Tryz.prog.cellsOf 50 = 135 := by kernel_rfl
  have c1 : Tryz.prog.cellsOf 3 = 1 := by kernel_rfl
  have c2 : Tryz.prog.cellsOf 44 = 32 := by kernel_rfl
  have c3 : Tryz.prog.cellsOf 47 = 4 := by kernel_rfl
  have c4 : Tryz.prog.cellsOf 48 = 1 := by kernel_rfl
  have c5 : Tryz.prog.cellsOf 45 = 1 := by kernel_rfl
  rw [ce] at hl
  match xs, hx with
  | [y0, y1, y2, y3, y4, y5, y6, y7], _ =>
    have g0 : DataW.trod enc Tryz.prog w 0 (fun _ => true) true n 3 ((cs.drop 0).take 1) = some y0 := by rw [← c1]; exact hf 0 _ rfl
    have g1 : DataW.trod enc Tryz.prog w 0 (fun _ => true) true n 44 ((cs.drop 1).take 32) = some y1 := by rw [← c2]; exact hf 1 _ rfl
    have g2 : DataW.trod enc Tryz.prog w 0 (fun _ => true) true n 44 ((cs.drop 33).take 32) = some y2 := by rw [← c2]; exact hf 2 _ rfl
    have g3 : DataW.trod enc Tryz.prog w 0 (fun _ => true) true n 44 ((cs.drop 65).take 32) = some y3 := by rw [← c2]; exact hf 3 _ rfl
    have g4 : DataW.trod enc Tryz.prog w 0 (fun _ => true) true n 44 ((cs.drop 97).take 32) = some y4 := by rw [← c2]; exact hf 4 _ rfl
    have g5 : DataW.trod enc Tryz.prog w 0 (fun _ => true) true n 47 ((cs.drop 129).take 4) = some y5 := by rw [← c3]; exact hf 5 _ rfl
    have g6 : DataW.trod enc Tryz.prog w 0 (fun _ => true) true n 48 ((cs.drop 133).take 1) = some y6 := by rw [← c4]; exact hf 6 _ rfl
    have g7 : DataW.trod enc Tryz.prog w 0 (fun _ => true) true n 45 ((cs.drop 134).take 1) = some y7 := by rw [← c5]; exact hf 7 _ rfl
    obtain ⟨a0, e0, _, w0⟩ := DataW.trod_int Tryz.underlying3 g0
    obtain ⟨a1, e1, l1⟩ := B.id g1
    obtain ⟨a2, e2, l2⟩ := B.id g2
    obtain ⟨a3, e3, l3⟩ := B.id g3
    obtain ⟨a4, e4, l4⟩ := B.id g4
    obtain ⟨a5, e5, l5⟩ := B.ints (n := 4) Tryz.underlying47 Tryz.underlying45 c5 c3 g5
    obtain ⟨a6, e6, _, w6⟩ := DataW.trod_int Tryz.underlying48 g6
    obtain ⟨a7, e7, _, w7⟩ := DataW.trod_int Tryz.underlying45 g7
    have hb0 := B.wf w0
    have hb6 := B.wf w6
    have hb7 := B.wf w7
    refine ⟨⟨a0, a1, a2, a3, a4, a5, a6, a7⟩, ?_, ⟨l1, l2, l3, l4, l5⟩, ⟨?_, ?_, ?_⟩⟩
    · have hcs : cs = cs.drop 0 := rfl
      rw [hcs, B.cut cs 0 1, B.cut cs (0 + 1) 32, B.cut cs (0 + 1 + 32) 32, B.cut cs (0 + 1 + 32 + 32) 32, B.cut cs (0 + 1 + 32 + 32 + 32) 32, B.cut cs (0 + 1 + 32 + 32 + 32 + 32) 4, B.cut cs (0 + 1 + 32 + 32 + 32 + 32 + 4) 1, B.cut cs (0 + 1 + 32 + 32 + 32 + 32 + 4 + 1) 1]
      simp only [Nat.zero_add, Nat.reduceAdd]
      rw [e0, e1, e2, e3, e4, e5, e6, e7, List.drop_of_length_le (by omega)]
      simp [T.Head.cells, T.u8s, T.u64s]
    · simp [IntKind.min, IntKind.max, IntKind.signed, IntKind.bits] at hb0
      constructor
      · exact hb0.1
      · have := hb0.2
        show a0 < 9223372036854775808
        omega
    · simp [IntKind.min, IntKind.max, IntKind.signed, IntKind.bits] at hb6
      exact ⟨hb6.1, by have := hb6.2; show a6 < 4294967296; omega⟩
    · simp [IntKind.min, IntKind.max, IntKind.signed, IntKind.bits] at hb7
      exact ⟨hb7.1, by have := hb7.2; show a7 < 18446744073709551616; omega⟩
theorem B.inv (h : DataW.trod enc Tryz.prog w 0 (fun _ => true) true fuel 151 cs = some x) : ∃ g : T.InV, cs = g.cells ∧ g.ok := by
  obtain ⟨xs, n, _, _, hl, hx, hf⟩ := DataW.trod_struct Tryz.underlying151 h
  have ce : Tryz.prog.cellsOf 151 = 33 := by kernel_rfl
  have c1 : Tryz.prog.cellsOf 3 = 1 := by kernel_rfl
  have c2 : Tryz.prog.cellsOf 44 = 32 := by kernel_rfl
  rw [ce] at hl
  match xs, hx with
  | [y0, y1], _ =>
    have g0 : DataW.trod enc Tryz.prog w 0 (fun _ => true) true n 44 ((cs.drop 0).take 32) = some y0 := by rw [← c2]; exact hf 0 _ rfl
    have g1 : DataW.trod enc Tryz.prog w 0 (fun _ => true) true n 3 ((cs.drop 32).take 1) = some y1 := by rw [← c1]; exact hf 1 _ rfl
    obtain ⟨a0, e0, l0⟩ := B.id g0
    obtain ⟨a1, e1, _, _⟩ := DataW.trod_int Tryz.underlying3 g1
    refine ⟨⟨a0, a1⟩, ?_, l0⟩
    have hcs : cs = cs.drop 0 := rfl
    rw [hcs, B.cut cs 0 32, B.cut cs (0 + 32) 1]
    simp only [Nat.zero_add, Nat.reduceAdd]
    rw [e0, e1, List.drop_of_length_le (by omega)]
    simp [T.InV.cells]
theorem B.outv (h : DataW.trod enc Tryz.prog w 0 (fun _ => true) true fuel 154 cs = some x) : ∃ g : T.OutV, cs = g.cells := by
  obtain ⟨xs, n, _, _, hl, hx, hf⟩ := DataW.trod_struct Tryz.underlying154 h
  have ce : Tryz.prog.cellsOf 154 = 2 := by kernel_rfl
  have c1 : Tryz.prog.cellsOf 3 = 1 := by kernel_rfl
  rw [ce] at hl
  match xs, hx with
  | [y0, y1], _ =>
    have g0 : DataW.trod enc Tryz.prog w 0 (fun _ => true) true n 3 ((cs.drop 0).take 1) = some y0 := by rw [← c1]; exact hf 0 _ rfl
    have g1 : DataW.trod enc Tryz.prog w 0 (fun _ => true) true n 3 ((cs.drop 1).take 1) = some y1 := by rw [show (cs.drop 1).take 1 = (cs.drop 1).take (Tryz.prog.cellsOf 3) by rw [c1]]; exact hf 1 _ rfl
    obtain ⟨a0, e0, _, _⟩ := DataW.trod_int Tryz.underlying3 g0
    obtain ⟨a1, e1, _, _⟩ := DataW.trod_int Tryz.underlying3 g1
    refine ⟨⟨a0, a1⟩, ?_⟩
    have hcs : cs = cs.drop 0 := rfl
    rw [hcs, B.cut cs 0 1, B.cut cs (0 + 1) 1]
    simp only [Nat.zero_add, Nat.reduceAdd]
    rw [e0, e1, List.drop_of_length_le (by omega)]
    rfl
instance B.i1 : Inhabited T.InV := ⟨⟨[], 0⟩⟩
instance B.i2 : Inhabited T.OutV := ⟨⟨0, 0⟩⟩
instance B.i3 : Inhabited T.TxV := ⟨⟨T.nilS, T.nilS, [], []⟩⟩
instance B.i4 : Inhabited T.BlkV := ⟨T.blk0⟩
theorem B.parts {d : DataW H} {xs : List (DataW H × List MemPlace)} {ps : List MemPlace} (hx : x = (.agg (xs.map (·.1)), ps)) {y : DataW H × List MemPlace} (hy : y ∈ xs) : Rows.uptoBulk y.1 ≤ Rows.uptoBulk x.1 := by
  rw [hx]
  have := B.part_le (l := xs.map (·.1)) (d := y.1) (List.mem_map_of_mem hy)
  simp only [Rows.uptoBulk]
  omega
set_option maxHeartbeats 2000000 in
set_option maxRecDepth 20000 in
theorem B.tx (h : DataW.trod enc Tryz.prog w 0 (fun _ => true) true fuel 95 cs = some x) (hB : Rows.uptoBulk x.1 ≤ 1048576) : ∃ g : T.TxV, cs = g.cells ∧ g.At w := by
  obtain ⟨xs, n, _, hxx, hl, hx, hf⟩ := DataW.trod_struct Tryz.underlying95 h
  have ce : Tryz.prog.cellsOf 95 = 2 := by kernel_rfl
  have c1 : Tryz.prog.cellsOf 92 = 1 := by kernel_rfl
  have c2 : Tryz.prog.cellsOf 93 = 1 := by kernel_rfl
  rw [ce] at hl
  match xs, hx with
  | [y0, y1], _ =>
    have g0 : DataW.trod enc Tryz.prog w 0 (fun _ => true) true n 92 ((cs.drop 0).take 1) = some y0 := by rw [← c1]; exact hf 0 _ rfl
    have g1 : DataW.trod enc Tryz.prog w 0 (fun _ => true) true n 93 ((cs.drop 1).take 1) = some y1 := by rw [show (cs.drop 1).take 1 = (cs.drop 1).take (Tryz.prog.cellsOf 93) by rw [c2]]; exact hf 1 _ rfl
    have b0 := B.parts (d := x.1) hxx (y := y0) (by simp)
    have b1 := B.parts (d := x.1) hxx (y := y1) (by simp)
    obtain ⟨v0, l0, e0, s0, p0, n0⟩ := B.slice T.InV.cells 33 (by decide) 1048576 T.InV.ok Tryz.underlying92 (by kernel_rfl) (fun f c y hy _ => B.inv hy) (fun f c y hy => B.str2 Tryz.underlying151 (by decide) hy) (fun a ha => ⟨a.len ha, a.ones⟩) g0 (by omega)
    obtain ⟨v1, l1, e1, s1, _, n1⟩ := B.slice T.OutV.cells 2 (by decide) 1048576 (fun _ => True) Tryz.underlying93 (by kernel_rfl) (fun f c y hy _ => by obtain ⟨g, hg⟩ := B.outv hy; exact ⟨g, hg, trivial⟩) (fun f c y hy => B.str2 Tryz.underlying154 (by decide) hy) (fun a _ => ⟨rfl, a.ones⟩) g1 (by omega)
    refine ⟨⟨v0, v1, l0, l1⟩, ?_, ⟨p0, by show l0.length ≤ 1000000; omega, by show l1.length ≤ 1000000; omega, s0, s1⟩⟩
    have hcs : cs = cs.drop 0 := rfl
    rw [hcs, B.cut cs 0 1, B.cut cs (0 + 1) 1]
    simp only [Nat.zero_add, Nat.reduceAdd]
    rw [e0, e1, List.drop_of_length_le (by omega)]
    rfl
set_option maxHeartbeats 2000000 in
set_option maxRecDepth 20000 in
theorem B.block (h : DataW.trod enc Tryz.prog w 0 (fun _ => true) true fuel 56 cs = some x) (hB : Rows.uptoBulk x.1 ≤ 1048576) : ∃ g : T.BlkV, cs = g.cells ∧ g.At w := by
  obtain ⟨xs, n, _, hxx, hl, hx, hf⟩ := DataW.trod_struct Tryz.underlying56 h
  have ce : Tryz.prog.cellsOf 56 = 137 := by kernel_rfl
  have c0 : Tryz.prog.cellsOf 50 = 135 := by kernel_rfl
  have c1 : Tryz.prog.cellsOf 51 = 1 := by kernel_rfl
  have c2 : Tryz.prog.cellsOf 54 = 1 := by kernel_rfl
  rw [ce] at hl
  match xs, hx with
  | [y0, y1, y2], _ =>
    have g0 : DataW.trod enc Tryz.prog w 0 (fun _ => true) true n 50 ((cs.drop 0).take 135) = some y0 := by rw [← c0]; exact hf 0 _ rfl
    have g1 : DataW.trod enc Tryz.prog w 0 (fun _ => true) true n 51 ((cs.drop 135).take 1) = some y1 := by rw [← c1]; exact hf 1 _ rfl
    have g2 : DataW.trod enc Tryz.prog w 0 (fun _ => true) true n 54 ((cs.drop 136).take 1) = some y2 := by rw [← c2]; exact hf 2 _ rfl
    have b1 := B.parts (d := x.1) hxx (y := y1) (by simp)
    have b2 := B.parts (d := x.1) hxx (y := y2) (by simp)
    obtain ⟨hd, e0, k0, n0⟩ := B.head g0
    obtain ⟨v1, l1, e1, s1, p1, n1⟩ := B.slice T.u8s 32 (by decide) 1048576 (fun l => l.length = 32) Tryz.underlying51 (by kernel_rfl) (fun f c y hy _ => B.id hy) (fun f c y hy => B.arr2 Tryz.underlying44 (by decide) hy) (fun a ha => ⟨by rw [encs_length]; exact ha, T.ones_encs _ _⟩) g1 (by omega)
    obtain ⟨v2, l2, e2, s2, p2, n2⟩ := B.slice T.TxV.cells 2 (by decide) 1048576 (fun t => t.At w) Tryz.underlying54 (by kernel_rfl) (fun f c y hy hb => B.tx hy hb) (fun f c y hy => B.str2 Tryz.underlying95 (by decide) hy) (fun a ha => ⟨rfl, ha.ones⟩) g2 (by omega)
    refine ⟨⟨hd, v1, v2, l1, l2⟩, ?_, ⟨k0, n0, p1, by show l1.length ≤ 1000000; omega, s1, ⟨by show l2.length ≤ 1000000; omega, s2, p2⟩⟩⟩
    have hcs : cs = cs.drop 0 := rfl
    rw [hcs, B.cut cs 0 135, B.cut cs (0 + 135) 1, B.cut cs (0 + 135 + 1) 1]
    simp only [Nat.zero_add, Nat.reduceAdd]
    rw [e0, e1, e2, List.drop_of_length_le (by omega)]
    simp [T.BlkV.cells]
end
end Go.Proofs.YtdklknfgcepcbaaGreat.X
end
