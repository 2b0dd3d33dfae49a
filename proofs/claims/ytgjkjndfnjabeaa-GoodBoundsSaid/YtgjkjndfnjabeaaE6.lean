/- good.all, whatever it asks. -/
import Derived.Test.YtgjkjndfnjabeaaE5
namespace Go.Proofs.Ytgjkjndfnjabeaa.X
open Go.RowKit Go.Shelf Go.Proofs.YtgjkjndfnjabeaaW.PrintWords Go.Proofs.YtgjkjndfnjabeaaW.PrintLast Go.Proofs.YtgjkjndfnjabeaaW.PrintMore
attribute [local go_sem] Oper.semAt_some

/-- good.ends -/
theorem E.ends_in (A0 : Option Addr) (n0 c0 : Nat) (n : Int) (W : World) : CallsIn Fence.wide 0 Try.prog 49 #[.slice A0 n0 c0, .int .i64 n] W fun e w' =>
    e = .returned (.func (.func 56) #[] #[.pointer (some ⟨W.heap.size, 0, none⟩), .pointer (some ⟨W.heap.size + 1, 0, none⟩)]) ∧ (W.alloc (.cells #[.slice A0 n0 c0] 22)).alloc (.cells #[.int .i64 n] 3) = w' := by
  refine callsIn_of_wp Try.func49 rfl trivial ?_ rfl
  simp only [Try.ntmps49, List.size_toArray, List.length_cons, List.length_nil, Nat.reduceAdd, Nat.reduceSub, Array.replicate_succ, Array.replicate_zero, List.push_toArray, List.append_toArray, List.nil_append, List.cons_append]
  gi_wp2
  go_ret
  exact ⟨rfl, rfl⟩

/-- Is it so of what good.ends hands on, wherever there are m? -/
def S.elOk (m : Int) (is : Int → Int → Bool) (x : Int × Int) : Bool := !(decide (m ≤ x.2)) || is x.1 x.2
def S.allEls (l : List Int) (n m : Int) (is : Int → Int → Bool) : Bool := (S.endEls l n).all (S.elOk m is)

/-- The five variables of good.all. -/
def E.AllB (l : List Int) (n m : Int) (A0 : Option Addr) (c0 g h : Nat) (lb : Array Value) (A : World) : Prop :=
  Boxed A h 3 (.int .i64 m) ∧ Boxed A (h + 1) 44 (.func (.func g) #[] lb) ∧ Boxed A (h + 2) 4 (.bool false) ∧ Boxed A (h + 3) 22 (.slice A0 l.length c0) ∧ Boxed A (h + 4) 3 (.int .i64 n)
theorem E.AllB.below {l : List Int} {n m : Int} {A0 : Option Addr} {c0 g h B : Nat} {lb : Array Value} {X Y : World} (hb : E.AllB l n m A0 c0 g h lb X) (k : Below B X Y) (hB : h + 5 ≤ B) : E.AllB l n m A0 c0 g h lb Y :=
  ⟨E.boxBelow hb.1 k (by omega), E.boxBelow hb.2.1 k (by omega), E.boxBelow hb.2.2.1 k (by omega), E.boxBelow hb.2.2.2.1 k (by omega), E.boxBelow hb.2.2.2.2 k (by omega)⟩

theorem E.AllB.start (l : List Int) (n m : Int) (A0 : Option Addr) (c0 g : Nat) (lb : Array Value) (w : World) : E.AllB l n m A0 c0 g w.heap.size lb
    (((((w.alloc (.cells #[.int .i64 m] 3)).alloc (.cells #[.func (.func g) #[] lb] 44)).alloc (.cells #[.bool false] 4)).alloc (.cells #[.slice A0 l.length c0] 22)).alloc (.cells #[.int .i64 n] 3)) := by
  have b1 := ((((Boxed.new w 3 (.int .i64 m)).alloc (.cells #[.func (.func g) #[] lb] 44)).alloc (.cells #[.bool false] 4)).alloc (.cells #[.slice A0 l.length c0] 22)).alloc (.cells #[.int .i64 n] 3)
  have b2 := (((Boxed.new (w.alloc (.cells #[.int .i64 m] 3)) 44 (.func (.func g) #[] lb)).alloc (.cells #[.bool false] 4)).alloc (.cells #[.slice A0 l.length c0] 22)).alloc (.cells #[.int .i64 n] 3)
  have b3 := ((Boxed.new ((w.alloc (.cells #[.int .i64 m] 3)).alloc (.cells #[.func (.func g) #[] lb] 44)) 4 (.bool false)).alloc (.cells #[.slice A0 l.length c0] 22)).alloc (.cells #[.int .i64 n] 3)
  have b4 := (Boxed.new (((w.alloc (.cells #[.int .i64 m] 3)).alloc (.cells #[.func (.func g) #[] lb] 44)).alloc (.cells #[.bool false] 4)) 22 (.slice A0 l.length c0)).alloc (.cells #[.int .i64 n] 3)
  have b5 := Boxed.new ((((w.alloc (.cells #[.int .i64 m] 3)).alloc (.cells #[.func (.func g) #[] lb] 44)).alloc (.cells #[.bool false] 4)).alloc (.cells #[.slice A0 l.length c0] 22)) 3 (.int .i64 n)
  simp only [World.size_alloc] at b2 b3 b4 b5
  exact ⟨b1, b2, b3, b4, b5⟩

theorem S.allEls_true {l : List Int} {n m : Int} {is : Int → Int → Bool} (h : ∀ j x, j < (S.endEls l n).length → (S.endEls l n)[j]? = some x → S.elOk m is x = true) : S.allEls l n m is = true := by
  unfold S.allEls
  rw [List.all_eq_true]
  intro x hx
  obtain ⟨j, hj, rfl⟩ := List.getElem_of_mem hx
  exact h j _ hj (List.getElem?_eq_getElem hj)
theorem S.allEls_false {l : List Int} {n m : Int} {is : Int → Int → Bool} {j : Nat} {x : Int × Int} (hx : (S.endEls l n)[j]? = some x) (h : S.elOk m is x = false) : S.allEls l n m is = false := by
  unfold S.allEls
  rw [List.all_eq_false]
  exact ⟨x, List.mem_of_getElem? hx, by rw [h]; simp⟩

set_option maxRecDepth 100000 in
set_option maxHeartbeats 4000000 in
theorem E.all_calls (g : Nat) (lb : Array Value) (eg : ∀ args w, (callFunc g args).run Try.prog w = .ok (.enter g args) w) (is : Int → Int → Bool)
    (A0 : Option Addr) (c0 : Nat) (l : List Int) (n m : Int) (w : World) (hr0 : Kd.C (Kd.int .i64) w A0 l.length l)
    (hcb : ∀ (x : Int × Int) (W : World), x ∈ S.endEls l n → Below w.heap.size w W → Calls Try.prog g (#[.int .i64 x.1, .int .i64 x.2] ++ lb) W fun e W' => e = .returned (.bool (is x.1 x.2)) ∧ Below W.heap.size W W') :
    Calls Try.prog 32 #[.slice A0 l.length c0, .int .i64 n, .int .i64 m, .func (.func g) #[] lb] w fun e w' => e = .returned (.bool (S.allEls l n m is)) ∧ Below w.heap.size w w' := by
  refine (callsIn_wide (n := 0)).1 ?_
  have HR0 := Aside0.mk hr0
  have HCB := Aside0.mk hcb
  clear hr0 hcb
  refine callsIn_of_wp_marks Try.func32 rfl trivial ?_ rfl
  simp only [Try.ntmps32, List.size_toArray, List.length_cons, List.length_nil, Nat.reduceAdd, Nat.reduceSub, Array.replicate_succ, Array.replicate_zero, List.push_toArray, List.append_toArray, List.nil_append, List.cons_append]
  gi_wp2_with fail
  refine ⟨trivial, rfl, (E.ends_in _ _ _ _ _).mono ?_⟩
  rintro e w' ⟨rfl, rfl⟩
  gi_wp2_with fail
  have bA := E.AllB.start l n m A0 c0 g lb w
  have hsz : (((((w.alloc (.cells #[.int .i64 m] 3)).alloc (.cells #[.func (.func g) #[] lb] 44)).alloc (.cells #[.bool false] 4)).alloc (.cells #[.slice A0 l.length c0] 22)).alloc (.cells #[.int .i64 n] 3)).heap.size = w.heap.size + 5 := by simp
  have hb0 : Below w.heap.size w (((((w.alloc (.cells #[.int .i64 m] 3)).alloc (.cells #[.func (.func g) #[] lb] 44)).alloc (.cells #[.bool false] 4)).alloc (.cells #[.slice A0 l.length c0] 22)).alloc (.cells #[.int .i64 n] 3)) := below_alloc (below_alloc (below_alloc (below_alloc (below_alloc (Below.refl _ _) _) _) _) _) _
  generalize hw2 : (((((w.alloc (.cells #[.int .i64 m] 3)).alloc (.cells #[.func (.func g) #[] lb] 44)).alloc (.cells #[.bool false] 4)).alloc (.cells #[.slice A0 l.length c0] 22)).alloc (.cells #[.int .i64 n] 3)) = w2 at *
  clear hw2
  refine E.rangeLaw (gf := 56) (lb := #[.pointer (some ⟨w.heap.size + 1 + 1 + 1, 0, none⟩), .pointer (some ⟨w.heap.size + 1 + 1 + 1 + 1, 0, none⟩)]) rfl (enters_of Try.func56 (by kernel_rfl) rfl) (E.ends_seq l n A0 c0 (w.heap.size + 1 + 1 + 1) (w.heap.size + 1 + 1 + 1 + 1)) (fun _ => rfl)
    (fun k A => Below w.heap.size w A ∧ E.AllB l n m A0 c0 g w.heap.size lb A ∧ w.heap.size + 5 ≤ A.heap.size ∧ Aside0 (∀ j x, j < k → (S.endEls l n)[j]? = some x → S.elOk m is x = true))
    (fun k A => Below w.heap.size w A ∧ Boxed A (w.heap.size + 2) 4 (.bool false) ∧ w.heap.size + 5 ≤ A.heap.size ∧ Aside0 (S.allEls l n m is = false)) ?hI ?hIx ?hR ?h0
    (fun x => { tmps := #[.slice A0 l.length c0, .int .i64 n, .int .i64 m, .func (.func g) #[] lb, undef, undef, .pointer (some ⟨w.heap.size, 0, none⟩), .pointer (some ⟨w.heap.size + 1, 0, none⟩), .pointer (some ⟨w.heap.size + 1 + 1, 0, none⟩), .int .i64 x.1, .int .i64 x.2, .slice A0 l.length c0, .int .i64 n, .func (.func 56) #[] #[.pointer (some ⟨w.heap.size + 1 + 1 + 1, 0, none⟩), .pointer (some ⟨w.heap.size + 1 + 1 + 1 + 1, 0, none⟩)], .int .i64 x.1, .int .i64 x.2, undef, undef, undef, undef, undef, undef, undef, undef, undef, undef], defers := [] }) ?assign ?body ?done ?stop
  case hI =>
    rintro k A B ⟨h1, h2, h3, h4⟩ hb
    exact ⟨h1.trans (hb.mono (by omega)), h2.below hb (by omega), Nat.le_trans h3 hb.size, h4⟩
  case hIx =>
    rintro k A B ⟨h1, h2, h3, h4⟩ hb
    exact ⟨h1.trans (hb.mono (by omega)), E.boxBelow h2 hb (by omega), Nat.le_trans h3 hb.size, h4⟩
  case hR =>
    rintro k A ⟨h1, h2, h3, h4⟩
    exact ⟨h2.2.2.2.1, h2.2.2.2.2, Kd.C_below HR0.out h1⟩
  case h0 => exact ⟨hb0, bA, by omega, ⟨fun j x hj => absurd hj (Nat.not_lt_zero _)⟩⟩
  case assign =>
    intro l2 x A K hK
    simp only [E.encP]
    gi_wp2
    exact hK
  case body =>
    rintro l2 k x A hx hA ⟨h1, ⟨e1, e2, e3, e4, e5⟩, h3, h4⟩
    have cm := e1.cell
    have cf := e2.cell
    have cr := e3.cell
    have fr := e3.frozen
    have hcall := HCB.out x A (List.mem_of_getElem? hx) h1
    by_cases hm : m ≤ x.2
    · have cb : decide (m ≤ x.2) = true := by rw [decide_eq_true_eq]; exact hm
      cases hp : is x.1 x.2 with
      | true =>
        rw [hp] at hcall
        have HCL := Aside0.mk hcall
        have hok : S.elOk m is x = true := by unfold S.elOk; rw [hp]; simp
        have HOK := Aside0.mk hok
        have HX := Aside0.mk hx
        have H1 := Aside0.mk h1
        clear hok hx hcall h1 hp
        gi_wp2_with fail
        refine ⟨trivial, rfl, CallsIn.mono (CallsIn.inRound l2 (callsIn_wide.2 HCL.out)) ?_⟩
        rintro e A' ⟨rfl, hB⟩
        have HB := Aside0.mk hB
        clear hB
        gi_wp2
        refine ⟨E.KeepsOn.of_below HB.out, below_then H1.out (by omega) HB.out, E.AllB.below ⟨e1, e2, e3, e4, e5⟩ HB.out h3, Nat.le_trans h3 HB.out.size, ⟨fun j y hj hy => ?_⟩⟩
        by_cases e : j = k
        · subst e; rw [HX.out] at hy; rw [← Option.some.inj hy]; exact HOK.out
        · exact h4.out j y (by omega) hy
      | false =>
        rw [hp] at hcall
        have HCL := Aside0.mk hcall
        have hno : S.allEls l n m is = false := S.allEls_false hx (by unfold S.elOk; rw [hp, cb]; rfl)
        have HNO := Aside0.mk hno
        have H1 := Aside0.mk h1
        clear hno hx hcall h1 hp
        gi_wp2_with fail
        refine ⟨trivial, rfl, CallsIn.mono (CallsIn.inRound l2 (callsIn_wide.2 HCL.out)) ?_⟩
        rintro e A' ⟨rfl, hB⟩
        have e3' := E.boxBelow e3 hB (by omega)
        have fr1 := e3'.frozen
        have cr1 := e3'.cell
        have HB := Aside0.mk hB
        clear hB
        gi_wp2
        have k1 := E.KeepsOn.setCell w2.heap.size A' ⟨w.heap.size + 2, 0, none⟩ (.bool false) (by simp; omega)
        exact ⟨(E.KeepsOn.of_below HB.out).trans k1, (below_then H1.out (by omega) HB.out).setCell (p := ⟨w.heap.size + 2, 0, none⟩) (by simp) _, e3'.set _, Nat.le_trans h3 (Nat.le_trans HB.out.size k1.1), HNO⟩
    · have cb : decide (m ≤ x.2) = false := by rw [decide_eq_false_iff_not]; exact hm
      have hok : S.elOk m is x = true := by unfold S.elOk; rw [cb]; rfl
      have HOK := Aside0.mk hok
      have HX := Aside0.mk hx
      have H1 := Aside0.mk h1
      clear hok hx hcall h1
      gi_wp2
      refine ⟨fun _ h => (by cases h), ?_⟩
      gi_wp2
      refine ⟨E.KeepsOn.refl _ _, H1.out, ⟨e1, e2, e3, e4, e5⟩, h3, ⟨fun j y hj hy => ?_⟩⟩
      by_cases e : j = k
      · subst e; rw [HX.out] at hy; rw [← Option.some.inj hy]; exact HOK.out
      · exact h4.out j y (by omega) hy
  case done =>
    rintro A hA ⟨h1, ⟨e1, e2, e3, e4, e5⟩, h3, h4⟩ hK
    have cr := e3.cell
    have fr := e3.frozen
    gi_wp2
    have e3' := e3.set (.bool true)
    have hK' : (A.setCell ⟨w.heap.size + 2, 0, none⟩ (.bool true)).heap[w2.heap.size]? = some (.deferred (some [])) := (Below.heap_setCell _ _ _ _ (by simp; omega)).trans hK
    have c3 := (E.boxBelow e3' (E.below_put (o' := .deferred none) hK' (Nat.le_refl _)) (by omega)).cell
    refine ⟨by simp, .inl ⟨_, _, rfl, run_takeDeferred hK', ?_⟩⟩
    refine ⟨.bool true, ?_, ?_, ?_⟩
    · simp [results, Try.results32, go_sem, c3]
    · rw [S.allEls_true h4.out]
    · exact (h1.setCell (p := ⟨w.heap.size + 2, 0, none⟩) (by simp) _).trans (E.below_put hK' (by omega))
  case stop =>
    rintro k A hA _ ⟨h1, e3, h3, h4⟩ hK
    have c3 := (E.boxBelow e3 (E.below_put (o' := .deferred none) hK (Nat.le_refl _)) (by omega)).cell
    gi_wp2
    refine ⟨by simp, .inl ⟨_, _, rfl, run_takeDeferred hK, ?_⟩⟩
    refine ⟨.bool false, ?_, ?_, ?_⟩
    · simp [results, Try.results32, go_sem, c3]
    · rw [h4.out]
    · exact h1.trans (E.below_put hK (by omega))

end Go.Proofs.Ytgjkjndfnjabeaa.X
