/- slices.Backward, good.ends, good.all. -/
import Derived.Test.YtgjkjndfnjabeaaX0
import Derived.Test.YtgjkjndfnjabeaaS1
import Derived.Test.YtgjkjndfnjabeaaR
import Derived.RangeFuncNested
import Derived.RangeFuncLeaves
import Derived.Shelf.Abstract
import Derived.WalkKit
import Derived.OwnWalkIn
import Derived.TacticsInMore
import Derived.LoopNIn
import Derived.LoopIn
namespace Go.Proofs.Ytgjkjndfnjabeaa.X
open Go.RowKit Go.Shelf Go.Proofs.YtgjkjndfnjabeaaW.PrintWords Go.Proofs.YtgjkjndfnjabeaaW.PrintLast Go.Proofs.YtgjkjndfnjabeaaW.PrintMore
attribute [local go_sem] Oper.semAt_some

/-- What slices.Backward hands on: places and their levels, from the last one on. -/
def S.backEls (l : List Int) : List (Int × Int) := (List.range l.length).reverse.map fun j : Nat => ((j : Int), rd l j)
theorem S.backEls_len (l : List Int) : (S.backEls l).length = l.length := by simp [S.backEls]
theorem S.backEls_get {l : List Int} {k : Nat} (h : k < l.length) : (S.backEls l)[k]? = some ((l.length : Int) - 1 - k, rd l ((l.length : Int) - 1 - k)) := by
  have e : ((l.length - 1 - k : Nat) : Int) = (l.length : Int) - 1 - k := by omega
  unfold S.backEls
  rw [List.getElem?_map, List.getElem?_reverse (by simpa using h)]
  simp only [List.length_range]
  rw [List.getElem?_range (by omega)]
  simp only [Option.map_some, e]

def E.encP (x : Int × Int) : Array Value := #[.int .i64 x.1, .int .i64 x.2]

/-- What Backward's closure reads. -/
def E.BackR (l : List Int) (A0 : Option Addr) (c0 Bs : Nat) (A : World) : Prop := A.cell? ⟨Bs, 0, none⟩ = some (.slice A0 l.length c0) ∧ Kd.C (Kd.int .i64) A A0 l.length l

set_option maxRecDepth 100000 in
set_option maxHeartbeats 2000000 in
theorem E.back_seq (l : List Int) (A0 : Option Addr) (c0 Bs : Nat) :
    E.SeqB Try.prog 70 #[.pointer (some ⟨Bs, 0, none⟩)] E.encP (S.backEls l) (E.BackR l A0 c0 Bs) := by
  intro ll J Jx W hJ hJx hR hY h0
  have HR := Aside0.mk hR
  have HY := Aside0.mk hY
  have H0 := Aside0.mk h0
  clear hR hY h0 hJ hJx
  obtain ⟨hc0, hC0⟩ := (HR.out 0 W H0.out).1
  have hmx := Kd.C_max hC0
  refine callsIn_of_wp Try.func70 rfl trivial ?_ rfl
  simp only [Try.ntmps70, List.size_toArray, List.length_cons, List.length_nil, Nat.reduceAdd, Nat.reduceSub, Array.replicate_succ, Array.replicate_zero, List.push_toArray, List.append_toArray, List.nil_append, List.cons_append]
  clear hC0
  gi_wp2
  clear hc0
  gi_loopw [3] (fun i wr => ∃ (p : Int) (k : Nat), i = .int .i64 p ∧ -1 ≤ p ∧ p < l.length ∧ k ≤ l.length ∧ Aside0 (p = (l.length : Int) - 1 - k) ∧ Aside0 (J k wr))
    (fun i _ => (intOf i + 1).toNat)
  case atStart => exact ⟨(l.length : Int) - 1, 0, rfl, by omega, by omega, by omega, ⟨by omega⟩, H0⟩
  case round =>
    obtain ⟨p, k, rfl, hp1, hp2, hk, HP, HJ⟩ := hrel
    clear H0
    by_cases hlt : 0 ≤ p
    · have cb : decide (0 ≤ p) = true := by rw [decide_eq_true_eq]; exact hlt
      obtain ⟨hcs, hC⟩ := (HR.out k wr HJ.out).1
      obtain ⟨ad, e1, hx⟩ := Kd.at_int hC p hlt hp2
      cases e1
      clear hC
      obtain ⟨fn, tmps, assign, body, hy, hRd⟩ := HY.out k (p, rd l p) wr (by rw [S.backEls_get (by have := HP.out; omega), ← HP.out]) HJ.out
      unfold E.encP at hy
      dsimp only at hy
      gi_wp2
      refine ⟨rfl, hRd.mono ?_⟩
      rintro e W3 (⟨rfl, hJ3, hk3⟩ | ⟨rfl, hJx3, hk3⟩)
      · gi_wp2
        go_roundw
        case rel => exact ⟨p - 1, k + 1, rfl, by omega, by omega, by have := HP.out; omega, ⟨by have := HP.out; omega⟩, ⟨hJ3⟩⟩
        case measure => simp [intOf]; omega
      · gi_wp2
        refine bodyPost_ret (results_none rfl _ _ _) rfl ?_
        exact ⟨⟨_, rfl⟩, .inr ⟨k, by rw [S.backEls_len]; have := HP.out; omega, hJx3⟩, Nat.le_trans (HR.out k wr HJ.out).2 hk3.1⟩
    · have cb : decide (0 ≤ p) = false := by rw [decide_eq_false_iff_not]; exact hlt
      obtain rfl : k = l.length := by have := HP.out; omega
      gi_wp2
      go_end0
      exact ⟨⟨_, rfl⟩, .inl (by rw [S.backEls_len]; exact HJ.out), (HR.out _ _ HJ.out).2⟩

/-- How many of the last j places have the level. -/
def S.cntAt (l : List Int) (n : Int) (j : Nat) : Nat := (S.upZ l ((l.length : Int) - j) (l.length : Int) n).length
/-- What good.ends hands on: a place, and how many there are from it on. -/
def S.endEls (l : List Int) (n : Int) : List (Int × Int) := (List.range (S.upZ l 0 (l.length : Int) n).length).map fun k : Nat => (rd (S.upZ l 0 (l.length : Int) n) (((S.upZ l 0 (l.length : Int) n).length : Int) - 1 - k), (k : Int) + 1)
theorem S.endEls_len (l : List Int) (n : Int) : (S.endEls l n).length = (S.upZ l 0 (l.length : Int) n).length := by simp [S.endEls]
theorem S.endEls_get {l : List Int} {n : Int} {k : Nat} (h : k < (S.upZ l 0 (l.length : Int) n).length) : (S.endEls l n)[k]? = some (rd (S.upZ l 0 (l.length : Int) n) (((S.upZ l 0 (l.length : Int) n).length : Int) - 1 - k), (k : Int) + 1) := by
  unfold S.endEls
  rw [List.getElem?_map, List.getElem?_range h]
  rfl
theorem S.cntAt_zero (l : List Int) (n : Int) : S.cntAt l n 0 = 0 := by
  unfold S.cntAt
  rw [List.length_eq_zero_iff]
  refine List.eq_nil_iff_forall_not_mem.2 fun x hx => ?_
  have := S.upZ_mem.1 hx
  omega
theorem S.cntAt_all (l : List Int) (n : Int) : S.cntAt l n l.length = (S.upZ l 0 (l.length : Int) n).length := by
  unfold S.cntAt
  rw [show (l.length : Int) - (l.length : Nat) = 0 from by omega]
theorem S.upZ_cons {l : List Int} {p hi n : Int} (h0 : 0 ≤ p) (h1 : p < l.length) (h2 : p < hi) (h : n ≤ rd l p) : S.upZ l p hi n = p :: S.upZ l (p + 1) hi n := by
  refine S.up_ext (S.upZ_up _ _ _ _) (List.Pairwise.cons (fun x hx => by have := S.upZ_mem.1 hx; omega) (S.upZ_up _ _ _ _)) fun x => ?_
  rw [List.mem_cons, S.upZ_mem, S.upZ_mem]
  constructor
  · rintro ⟨a, b, c, d, e⟩
    by_cases hx : x = p
    · exact .inl hx
    · exact .inr ⟨a, b, by omega, d, e⟩
  · rintro (rfl | ⟨a, b, c, d, e⟩)
    · exact ⟨h0, h1, Int.le_refl _, h2, h⟩
    · exact ⟨a, b, by omega, d, e⟩
theorem S.upZ_pass {l : List Int} {p hi n : Int} (h : ¬ n ≤ rd l p) : S.upZ l p hi n = S.upZ l (p + 1) hi n := by
  refine S.up_ext (S.upZ_up _ _ _ _) (S.upZ_up _ _ _ _) fun x => ?_
  rw [S.upZ_mem, S.upZ_mem]
  constructor
  · rintro ⟨a, b, c, d, e⟩
    refine ⟨a, b, ?_, d, e⟩
    by_cases hx : x = p
    · subst hx; exact absurd e h
    · omega
  · rintro ⟨a, b, c, d, e⟩
    exact ⟨a, b, by omega, d, e⟩
theorem S.cntAt_hit {l : List Int} {n : Int} {j : Nat} (hj : j < l.length) (h : n ≤ rd l ((l.length : Int) - 1 - j)) : S.cntAt l n (j + 1) = S.cntAt l n j + 1 := by
  unfold S.cntAt
  rw [show (l.length : Int) - ((j + 1 : Nat) : Int) = (l.length : Int) - 1 - j from by omega, S.upZ_cons (by omega) (by omega) (by omega) h, List.length_cons, show (l.length : Int) - 1 - j + 1 = (l.length : Int) - j from by omega]
theorem S.cntAt_miss {l : List Int} {n : Int} {j : Nat} (h : ¬ n ≤ rd l ((l.length : Int) - 1 - j)) : S.cntAt l n (j + 1) = S.cntAt l n j := by
  unfold S.cntAt
  rw [show (l.length : Int) - ((j + 1 : Nat) : Int) = (l.length : Int) - 1 - j from by omega, S.upZ_pass h, show (l.length : Int) - 1 - j + 1 = (l.length : Int) - j from by omega]
theorem S.cntAt_el {l : List Int} {n : Int} {j : Nat} (hj : j < l.length) (h : n ≤ rd l ((l.length : Int) - 1 - j)) : (S.endEls l n)[S.cntAt l n j]? = some ((l.length : Int) - 1 - j, (S.cntAt l n j : Int) + 1) ∧ S.cntAt l n j < (S.upZ l 0 (l.length : Int) n).length := by
  have hs : S.upZ l ((l.length : Int) - 1 - j) (l.length : Int) n <:+ S.upZ l 0 (l.length : Int) n := by
    rw [S.upZ_filter l (fr := 0) (by omega)]
    exact S.up_suffix (S.upZ_up _ _ _ _) _
  have hlen : (S.upZ l ((l.length : Int) - 1 - j) (l.length : Int) n).length = S.cntAt l n j + 1 := by
    rw [← S.cntAt_hit hj h]
    unfold S.cntAt
    rw [show (l.length : Int) - ((j + 1 : Nat) : Int) = (l.length : Int) - 1 - j from by omega]
  have hle := hs.length_le
  have hr := S.suffix_rd hs (m := (S.cntAt l n j : Int) + 1) (by omega) (by omega)
  rw [hlen, show ((S.cntAt l n j + 1 : Nat) : Int) - ((S.cntAt l n j : Int) + 1) = 0 from by omega, S.upZ_cons (by omega) (by omega) (by omega) h, rd_cons_zero] at hr
  refine ⟨?_, by omega⟩
  rw [S.endEls_get (by omega), hr]
  congr 3
  omega
theorem S.cntAt_le (l : List Int) (n : Int) (j : Nat) : S.cntAt l n j ≤ l.length := by
  unfold S.cntAt S.upZ
  have : ∀ (l : List Int) (i fr hi n : Int), (S.upFrom l i fr hi n).length ≤ l.length := by
    intro l
    induction l with
    | nil => intro i fr hi n; simp [S.upFrom]
    | cons x l ih =>
      intro i fr hi n
      unfold S.upFrom
      have := ih (i + 1) fr hi n
      split
      · rw [List.length_cons, List.length_cons]; omega
      · rw [List.length_cons]; omega
  exact this _ _ _ _ _

/-- slices.Backward -/
theorem E.backward_in (A0 : Option Addr) (n0 c0 : Nat) (W : World) : CallsIn Fence.wide 0 Try.prog 57 #[.slice A0 n0 c0] W fun e w' =>
    e = .returned (.func (.func 70) #[] #[.pointer (some ⟨W.heap.size, 0, none⟩)]) ∧ W.alloc (.cells #[.slice A0 n0 c0] 22) = w' := by
  refine callsIn_of_wp Try.func57 rfl trivial ?_ rfl
  simp only [Try.ntmps57, List.size_toArray, List.length_cons, List.length_nil, Nat.reduceAdd, Nat.reduceSub, Array.replicate_succ, Array.replicate_zero, List.push_toArray, List.append_toArray, List.nil_append, List.cons_append]
  gi_wp2
  go_ret
  exact ⟨rfl, rfl⟩

/-- What good.ends' closure reads. -/
def E.EndR (l : List Int) (n : Int) (A0 : Option Addr) (c0 Bv Bn : Nat) (A : World) : Prop :=
  Boxed A Bv 22 (.slice A0 l.length c0) ∧ Boxed A Bn 3 (.int .i64 n) ∧ Kd.C (Kd.int .i64) A A0 l.length l

/-- The three variables of a run of the closure. -/
def E.EndB (l : List Int) (A0 : Option Addr) (c0 ll h m : Nat) (A : World) : Prop :=
  Boxed A h 44 (.func (.yield ll) #[] #[]) ∧ Boxed A (h + 1) 3 (.int .i64 (m : Int)) ∧ Boxed A (h + 2) 22 (.slice A0 l.length c0)

theorem E.boxBelow {W W' : World} {B b : Nat} {t : TypeId} {v : Value} (h : Boxed W b t v) (hb : Below B W W') (hlt : b < B) : Boxed W' b t v := (hb.block b hlt).trans h
theorem E.boxKeeps {W W' : World} {B b : Nat} {t : TypeId} {v : Value} (h : Boxed W b t v) (hb : E.KeepsOn B W W') (hlt : B ≤ b) : Boxed W' b t v := (hb.2 b hlt h.lt).trans h
theorem E.EndB.below {l : List Int} {A0 : Option Addr} {c0 ll h m : Nat} {A B : World} (hb : E.EndB l A0 c0 ll h m A) (k : Below (h + 3) A B) : E.EndB l A0 c0 ll h m B :=
  ⟨E.boxBelow hb.1 k (by omega), E.boxBelow hb.2.1 k (by omega), E.boxBelow hb.2.2 k (by omega)⟩

set_option maxRecDepth 100000 in
set_option maxHeartbeats 4000000 in
theorem E.ends_seq (l : List Int) (n : Int) (A0 : Option Addr) (c0 Bv Bn : Nat) :
    E.SeqB Try.prog 56 #[.pointer (some ⟨Bv, 0, none⟩), .pointer (some ⟨Bn, 0, none⟩)] E.encP (S.endEls l n) (E.EndR l n A0 c0 Bv Bn) := by
  intro ll J Jx W hJ hJx hR hY h0
  have HR := Aside0.mk hR
  have HY := Aside0.mk hY
  have HJ := Aside0.mk hJ
  have HJx := Aside0.mk hJx
  have H0 := Aside0.mk h0
  clear hR hY h0 hJ hJx
  obtain ⟨hv0, hn0, hC0⟩ := (HR.out 0 W H0.out).1
  have hmx := Kd.C_max hC0
  have cv : ∀ o1 o2, ((W.alloc o1).alloc o2).cell? ⟨Bv, 0, none⟩ = some (.slice A0 l.length c0) := fun o1 o2 => ((hv0.alloc o1).alloc o2).cell
  clear hv0 hn0 hC0
  refine callsIn_of_wp_marks Try.func56 rfl trivial ?_ rfl
  simp only [Try.ntmps56, List.size_toArray, List.length_cons, List.length_nil, Nat.reduceAdd, Nat.reduceSub, Array.replicate_succ, Array.replicate_zero, List.push_toArray, List.append_toArray, List.nil_append, List.cons_append]
  gi_wp2_with fail
  refine ⟨trivial, rfl, (E.backward_in _ _ _ _).mono ?_⟩
  rintro e w' ⟨rfl, rfl⟩
  gi_wp2_with fail
  have b1 := ((Boxed.new W 44 (.func (.yield ll) #[] #[])).alloc (.cells #[.int .i64 0] 3)).alloc (.cells #[.slice A0 l.length c0] 22)
  have b2 := (Boxed.new (W.alloc (.cells #[.func (.yield ll) #[] #[]] 44)) 3 (.int .i64 0)).alloc (.cells #[.slice A0 l.length c0] 22)
  have b3 := Boxed.new ((W.alloc (.cells #[.func (.yield ll) #[] #[]] 44)).alloc (.cells #[.int .i64 0] 3)) 22 (.slice A0 l.length c0)
  have hsz : (((W.alloc (.cells #[.func (.yield ll) #[] #[]] 44)).alloc (.cells #[.int .i64 0] 3)).alloc (.cells #[.slice A0 l.length c0] 22)).heap.size = W.heap.size + 3 := by simp
  have hb0 : Below W.heap.size W (((W.alloc (.cells #[.func (.yield ll) #[] #[]] 44)).alloc (.cells #[.int .i64 0] 3)).alloc (.cells #[.slice A0 l.length c0] 22)) := below_alloc (below_alloc (below_alloc (Below.refl _ _) _) _) _
  simp only [World.size_alloc] at b2 b3
  clear cv
  generalize hw2 : (((W.alloc (.cells #[.func (.yield ll) #[] #[]] 44)).alloc (.cells #[.int .i64 0] 3)).alloc (.cells #[.slice A0 l.length c0] 22)) = w2 at *
  clear hw2
  refine E.rangeLaw (gf := 70) (lb := #[.pointer (some ⟨W.heap.size + 1 + 1, 0, none⟩)]) rfl (enters_of Try.func70 (by kernel_rfl) rfl) (E.back_seq l A0 c0 (W.heap.size + 1 + 1)) (fun _ => rfl)
    (fun j A => J (S.cntAt l n j) A ∧ E.EndB l A0 c0 ll W.heap.size (S.cntAt l n j) A ∧ W.heap.size + 3 ≤ A.heap.size)
    (fun _ A => (∃ k, k < (S.endEls l n).length ∧ Jx k A) ∧ W.heap.size + 3 ≤ A.heap.size) ?hI ?hIx ?hR ?h0
    (fun x => { tmps := #[.func (.yield ll) #[] #[], .pointer (some ⟨Bv, 0, none⟩), .pointer (some ⟨Bn, 0, none⟩), .pointer (some ⟨W.heap.size, 0, none⟩), .pointer (some ⟨W.heap.size + 1, 0, none⟩), .int .i64 x.1, .int .i64 x.2, .slice A0 l.length c0, .func (.func 70) #[] #[.pointer (some ⟨W.heap.size + 1 + 1, 0, none⟩)], .int .i64 x.1, .int .i64 x.2, undef, undef, undef, undef, undef, undef, undef, undef, undef, undef], defers := [] }) ?assign ?body ?done ?stop
  case hI =>
    rintro k A B ⟨h1, h2, h3⟩ hb
    exact ⟨HJ.out _ _ _ h1 (hb.mono (by omega)), h2.below (hb.mono (by omega)), Nat.le_trans h3 hb.size⟩
  case hIx =>
    rintro _ A B ⟨⟨k, hk, h1⟩, h3⟩ hb
    exact ⟨⟨k, hk, HJx.out _ _ _ h1 (hb.mono (by omega))⟩, Nat.le_trans h3 hb.size⟩
  case hR =>
    rintro k A ⟨h1, h2, h3⟩
    exact ⟨h2.2.2.cell, (HR.out _ _ h1).1.2.2⟩
  case h0 =>
    rw [S.cntAt_zero]
    exact ⟨HJ.out _ _ _ H0.out hb0, ⟨b1, b2, b3⟩, by omega⟩
  case assign =>
    intro l2 x A K hK
    simp only [E.encP]
    gi_wp2
    exact hK
  case body =>
    rintro l2 j x A hx hA ⟨h1, ⟨e1, e2, e3⟩, h3⟩
    have hj : j < l.length := by
      have := (List.getElem?_eq_some_iff.1 hx).1
      rw [S.backEls_len] at this
      exact this
    rw [S.backEls_get hj] at hx
    obtain rfl := Option.some.inj hx
    clear hx
    have cN := ((HR.out _ _ h1).1.2.1).cell
    by_cases hn : n ≤ rd l ((l.length : Int) - 1 - j)
    · have cb : decide (rd l ((l.length : Int) - 1 - j) < n) = false := by rw [decide_eq_false_iff_not]; omega
      have hel := S.cntAt_el hj hn
      have hnx := S.cntAt_hit hj hn
      have hle := S.cntAt_le l n (j + 1)
      have cY := e1.cell
      have cM := e2.cell
      have fM := e2.frozen
      generalize rd l ((l.length : Int) - 1 - j) = y at *
      generalize S.cntAt l n j = m at *
      have HNX := Aside0.mk hnx
      clear hnx
      have hmb : (m : Int) ≤ 9223372036854775806 := by have := HNX.out; omega
      have hB1 : Below W.heap.size A (A.setCell ⟨W.heap.size + 1, 0, none⟩ (.int .i64 ((m : Int) + 1))) := (Below.refl _ _).setCell (p := ⟨W.heap.size + 1, 0, none⟩) (by simp) _
      have hJ1 := HJ.out _ _ _ h1 hB1
      have g1 := e1.other (B' := W.heap.size + 1) (by omega) (.int .i64 ((m : Int) + 1))
      have g2 := e2.set (.int .i64 ((m : Int) + 1))
      have g3 := e3.other (B' := W.heap.size + 1) (by omega) (.int .i64 ((m : Int) + 1))
      have cY1 := g1.cell
      have cM1 := g2.cell
      obtain ⟨fn, tmps, assign, body, hy, hRd⟩ := HY.out m _ _ hel.1 hJ1
      unfold E.encP at hy
      dsimp only at hy
      have HK0 := Aside0.mk (E.KeepsOn.setCell (W.heap.size + 3) A ⟨W.heap.size + 1, 0, none⟩ (.int .i64 ((m : Int) + 1)) (by simp))
      have hlen := hel.2
      have G1 := Aside0.mk g1
      have G2 := Aside0.mk g2
      have G3 := Aside0.mk g3
      clear hel hB1 hJ1 g1 g2 g3
      gi_wp2
      refine ⟨rfl, RoundIn.mono hRd ?_⟩
      rintro e A' (⟨rfl, hJ3, hk3⟩ | ⟨rfl, hJx3, hk3⟩)
      · have HK3 := Aside0.mk hk3
        have HJ3 := Aside0.mk hJ3
        clear hk3 hJ3
        gi_wp2
        have r1 := HK0.out.trans (HK3.out.mono (by omega))
        have hM := E.boxKeeps G2.out HK3.out (by omega)
        rw [show (m : Int) + 1 = ((m + 1 : Nat) : Int) from by omega] at hM
        refine ⟨by rw [hsz]; exact r1, by rw [HNX.out]; exact HJ3.out, by rw [HNX.out]; exact ⟨E.boxKeeps G1.out HK3.out (Nat.le_refl _), hM, E.boxKeeps G3.out HK3.out (by omega)⟩, Nat.le_trans h3 r1.1⟩
      · have HK3 := Aside0.mk hk3
        have HJ3 := Aside0.mk hJx3
        clear hk3 hJx3
        gi_wp2
        have r1 := HK0.out.trans (HK3.out.mono (by omega))
        exact ⟨by rw [hsz]; exact r1, ⟨m, by rw [S.endEls_len]; exact hlen, HJ3.out⟩, Nat.le_trans h3 r1.1⟩
    · have cb : decide (rd l ((l.length : Int) - 1 - j) < n) = true := by rw [decide_eq_true_eq]; omega
      have hnx := S.cntAt_miss hn
      have HNX := Aside0.mk hnx
      clear hnx
      generalize rd l ((l.length : Int) - 1 - j) = y at *
      gi_wp2
      exact ⟨E.KeepsOn.refl _ _, by rw [HNX.out]; exact h1, by rw [HNX.out]; exact ⟨e1, e2, e3⟩, h3⟩
  case done =>
    rintro A hA ⟨h1, _, h3⟩ hK
    gi_wp2
    refine ⟨by simp, .inl ⟨_, _, rfl, run_takeDeferred hK, ?_⟩⟩
    refine ⟨_, results_none rfl _ _ _, ⟨_, rfl⟩, .inl (HJ.out _ _ _ ?_ (E.below_put hK (by omega))), by simp; omega⟩
    rw [S.endEls_len, ← S.cntAt_all, ← S.backEls_len]
    exact h1
  case stop =>
    rintro _ A hA _ ⟨⟨k, hk, h1⟩, h3⟩ hK
    gi_wp2
    refine ⟨by simp, .inl ⟨_, _, rfl, run_takeDeferred hK, ?_⟩⟩
    exact ⟨_, results_none rfl _ _ _, ⟨_, rfl⟩, .inr ⟨k, hk, HJx.out _ _ _ h1 (E.below_put hK (by omega))⟩, by simp; omega⟩

end Go.Proofs.Ytgjkjndfnjabeaa.X
