/- super.may and super.From. -/
import Derived.Test.YtfbhgbnpppbiiaaE2
import Derived.Test.YtfbhgbnpppbiiaaS1
import Derived.Test.YtfbhgbnpppbiiaaXsupermay
import Derived.RangeFuncNested
namespace Go.Proofs.Ytfbhgbnpppbiiaa.X
open Go.RowKit Go.Shelf Go.Proofs.YtfbhgbnpppbiiaaW.PrintWords Go.Proofs.YtfbhgbnpppbiiaaW.PrintLast Go.Proofs.YtfbhgbnpppbiiaaW.PrintMore

theorem E.may_f (l : List Int) (m k : Int) : super_may.f l m k = some (S.okB l m k) := by
  unfold super_may.f super_May.f S.okB
  simp only [Option.bind_some]
  cases S.mayB l
  · simp
  · by_cases h1 : 1 ≤ m
    · by_cases h2 : 1 ≤ k
      · simp [h1, h2]
      · simp [h1, h2]
    · simp [h1]

theorem S.okB_parts {l : List Int} {m k : Int} (h : S.okB l m k = true) : S.mayB l = true ∧ 1 ≤ m ∧ 1 ≤ k ∧ k < (l.length : Int) := by
  unfold S.okB at h
  simpa using h
theorem S.mayB_parts {l : List Int} (h : S.mayB l = true) : 0 < l.length ∧ l.length ≤ 200 ∧ rd l 0 = 31 ∧ ∀ x : Int, 0 ≤ x → x < l.length → 0 ≤ rd l x ∧ rd l x ≤ 31 := by
  unfold S.mayB at h
  simp only [Bool.and_eq_true, decide_eq_true_eq, Bool.not_eq_true', List.any_eq_false] at h
  obtain ⟨h1, h2, h3, h4⟩ := h
  refine ⟨h1, h2, h3, fun x hx0 hx1 => ?_⟩
  have := h4 _ (S.rd_mem hx0 hx1)
  unfold S.oddB at this
  simp at this
  omega
theorem S.climb_from {l : List Int} {m k : Int} (h : S.okB l m k = true) (n : Nat) (hn : n ≤ 31) : S.climbAt l m k (31 - n) = S.mthLast (S.upZ l 0 ((l.length : Int) - k) ((n : Int) + 1)) m := by
  obtain ⟨h0, h1, h2, h3⟩ := S.okB_parts h
  obtain ⟨_, _, h6, h7⟩ := S.mayB_parts h0
  rw [S.climbAt_is l m k h1 h3 h6 (fun x a b => (h7 x a b).2) h2 (31 - n) (by omega)]
  congr 2
  omega

/-- What From's variable holds ahead of round i. -/
def S.outAt (l : List Int) (m k n : Int) (i : Nat) : Int := if 0 ≤ n ∧ n ≤ 31 ∧ 31 - n < i then S.climbAt l m k (31 - n.toNat) else 0
theorem S.outAt_hit (l : List Int) (m k n : Int) (i : Nat) (h : 31 - (i : Int) = n) (hi : i < 32) : S.outAt l m k n (i + 1) = S.climbAt l m k i := by
  unfold S.outAt
  rw [if_pos ⟨by omega, by omega, by omega⟩]
  congr 1
  omega
theorem S.outAt_miss (l : List Int) (m k n : Int) (i : Nat) (h : ¬ 31 - (i : Int) = n) : S.outAt l m k n (i + 1) = S.outAt l m k n i := by
  unfold S.outAt
  by_cases hc : 0 ≤ n ∧ n ≤ 31 ∧ 31 - n < (i : Int)
  · rw [if_pos ⟨hc.1, hc.2.1, by omega⟩, if_pos hc]
  · rw [if_neg (fun h' => hc ⟨h'.1, h'.2.1, by have := h'.2.2; omega⟩), if_neg hc]

theorem E.from1_hit (lv fr : Int) (v : Value) (bn bo : Nat) (x : Int) (W : World) (hn : Boxed W bn 3 (.int .i64 lv)) (ho : Boxed W bo 3 (.int .i64 x)) :
    Calls Try.prog 40 #[.int .i64 lv, .int .i64 fr, v, .pointer (some ⟨bn, 0, none⟩), .pointer (some ⟨bo, 0, none⟩)] W fun e W' => e = .returned (.tuple #[]) ∧ W.setCell ⟨bo, 0, none⟩ (.int .i64 fr) = W' := by
  have c1 := hn.cell
  have c2 := ho.cell
  have f2 := ho.frozen
  go_enter Try.func40, Try.ntmps40
  go_wp2
  go_end0
  exact ⟨rfl, rfl⟩
theorem E.from1_miss (lv fr n : Int) (v po : Value) (bn : Nat) (W : World) (hn : Boxed W bn 3 (.int .i64 n)) (hne : (lv == n) = false) :
    Calls Try.prog 40 #[.int .i64 lv, .int .i64 fr, v, .pointer (some ⟨bn, 0, none⟩), po] W fun e W' => e = .returned (.tuple #[]) ∧ W = W' := by
  have c1 := hn.cell
  go_enter Try.func40, Try.ntmps40
  go_wp2
  go_end0
  exact ⟨rfl, rfl⟩

/-- What stands while From climbs. -/
def E.FromJ (l : List Int) (m k n : Int) (w0 : World) (i : Nat) (W : World) : Prop :=
  Below w0.heap.size w0 W ∧ w0.heap.size + 2 ≤ W.heap.size ∧ Boxed W w0.heap.size 3 (.int .i64 n) ∧ Boxed W (w0.heap.size + 1) 3 (.int .i64 (S.outAt l m k n i))

theorem E.boxKept {W W' : World} {B : Nat} {t : TypeId} {v : Value} (h : Boxed W B t v) (hb : Below W.heap.size W W') : Boxed W' B t v := (hb.block B h.lt).trans h

set_option maxHeartbeats 1000000 in
theorem E.fromClimb_calls (A0 : Option Addr) (c0 : Nat) (l0 : List Int) (a1 a2 a3 : Int) (w0 w : World) (hr0 : Kd.C (Kd.int .i64) w0 A0 l0.length l0) (hc0 : l0.length ≤ c0) (hok : S.okB l0 a1 a2 = true) (hm : a1 ≤ 9223372036854775807)
    (hJ : E.FromJ l0 a1 a2 a3 w0 0 w) :
    Calls Try.prog 36 #[.slice A0 l0.length c0, .int .i64 a1, .int .i64 a2, .func (.func 40) #[] #[.pointer (some ⟨w0.heap.size, 0, none⟩), .pointer (some ⟨w0.heap.size + 1, 0, none⟩)]] w fun e w' =>
      e = .returned (.tuple #[]) ∧ E.FromJ l0 a1 a2 a3 w0 32 w' := by
  obtain ⟨h0, h1, h2, h3⟩ := S.okB_parts hok
  obtain ⟨_, h5, _, _⟩ := S.mayB_parts h0
  refine E.climb_calls 40 _ (enters_of Try.func40 (by kernel_rfl) rfl) A0 c0 l0 a1 a2 w0 w (w0.heap.size + 2) hr0 hc0 h5 h1 h2 h3 hm (E.FromJ l0 a1 a2 a3 w0) ?_ ?_ ?_ hJ
  · rintro i W W' ⟨j1, j2, j3, j4⟩ hb
    exact ⟨below_then j1 (by omega) hb, Nat.le_trans j2 hb.size, E.boxKept j3 hb, E.boxKept j4 hb⟩
  · rintro i W ⟨j1, j2, _⟩
    exact ⟨j1, j2⟩
  · rintro i A c W hi ⟨j1, j2, j3, j4⟩ _ _
    by_cases hl : 31 - (i : Int) = a3
    · subst hl
      refine (E.from1_hit _ _ _ _ _ _ W j3 j4).mono ?_
      rintro e W' ⟨rfl, rfl⟩
      refine ⟨rfl, ⟨j1.setCell (p := ⟨w0.heap.size + 1, 0, none⟩) (by simp) _, ?_, j3.other (by omega) _, ?_⟩, ?_, ?_⟩
      · simpa using j2
      · rw [S.outAt_hit _ _ _ _ _ rfl hi]; exact j4.set _
      · simp
      · intro b hb hlt
        exact Below.heap_setCell _ _ _ b (by simp; omega)
    · refine (E.from1_miss _ _ _ _ _ _ W j3 (by rw [beq_eq_false_iff_ne]; exact hl)).mono ?_
      rintro e W' ⟨rfl, rfl⟩
      exact ⟨rfl, ⟨j1, j2, j3, by rw [S.outAt_miss _ _ _ _ _ hl]; exact j4⟩, Nat.le_refl _, fun b _ _ => rfl⟩

/-- super.From -/
theorem E.from_calls_bad (A0 : Option Addr) (c0 : Nat) (l0 : List Int) (a1 a2 a3 : Int) (w : World) (hr0 : Kd.C (Kd.int .i64) w A0 l0.length l0) (hc0 : l0.length ≤ c0) (hok : S.okB l0 a1 a2 = false) :
    Calls Try.prog 26 #[.slice A0 l0.length c0, .int .i64 a1, .int .i64 a2, .int .i64 a3] w fun e w' => e = .returned (.int .i64 (-1)) ∧ Below w.heap.size w w' := by
  have hf := E.may_f l0 a1 a2
  rw [hok] at hf
  have HR0 := Aside0.mk hr0
  have HC0 := Aside0.mk hc0
  have HF := Aside0.mk hf
  clear hr0 hc0 hf hok
  go_enter Try.func26, Try.ntmps26
  go_wp2_with (go_at_call 35; refine (super_may.calls _ _ _ _ _ _ _ (Kd.C_alloc HR0.out _) HC0.out HF.out).mono ?_; rintro e w' ⟨rfl, ⟨m, rfl⟩⟩)
  go_ret
  exact ⟨rfl, pw_below_drewN ((Below.refl _ _).alloc (Nat.le_refl _) _) _⟩

set_option maxHeartbeats 1000000 in
theorem E.from_calls_climb (A0 : Option Addr) (c0 : Nat) (l0 : List Int) (a1 a2 a3 : Int) (w : World) (hr0 : Kd.C (Kd.int .i64) w A0 l0.length l0) (hc0 : l0.length ≤ c0) (hok : S.okB l0 a1 a2 = true) (hm : a1 ≤ 9223372036854775807) (h0 : 0 ≤ a3) :
    Calls Try.prog 26 #[.slice A0 l0.length c0, .int .i64 a1, .int .i64 a2, .int .i64 a3] w fun e w' => e = .returned (.int .i64 (S.outAt l0 a1 a2 a3 32)) ∧ Below w.heap.size w w' := by
  have hf := E.may_f l0 a1 a2
  rw [hok] at hf
  have HR0 := Aside0.mk hr0
  have HC0 := Aside0.mk hc0
  have HF := Aside0.mk hf
  have HOK := Aside0.mk hok
  clear hr0 hc0 hf hok
  have cb : decide (a3 < 0) = false := by rw [decide_eq_false_iff_not]; omega
  go_enter Try.func26, Try.ntmps26
  go_wp2_with (first | (go_at_call 35; refine (super_may.calls _ _ _ _ _ _ _ (Kd.C_alloc HR0.out _) HC0.out HF.out).mono ?_; rintro e w' ⟨rfl, ⟨m, rfl⟩⟩) | fail)
  have hJ : E.FromJ l0 a1 a2 a3 w 0 (((w.alloc (.cells #[.int .i64 a3] 3)).drewN m).alloc (.cells #[.int .i64 0] 3)) := by
    refine ⟨below_alloc (pw_below_drewN ((Below.refl _ _).alloc (Nat.le_refl _) _) _) _, by simp, ?_, ?_⟩
    · have b1 := Boxed.new w 3 (.int .i64 a3)
      have b2 : Boxed ((w.alloc (.cells #[.int .i64 a3] 3)).drewN m) w.heap.size 3 (.int .i64 a3) := E.boxKept b1 (pw_below_drewN (Below.refl _ _) _)
      exact b2.alloc _
    · have e0 : S.outAt l0 a1 a2 a3 0 = 0 := by
        unfold S.outAt
        by_cases hc : 0 ≤ a3 ∧ a3 ≤ 31 ∧ 31 - a3 < ((0 : Nat) : Int)
        · omega
        · rw [if_neg hc]
      rw [e0]
      have b1 := Boxed.new ((w.alloc (.cells #[.int .i64 a3] 3)).drewN m) 3 (.int .i64 0)
      simpa using b1
  refine (E.fromClimb_calls A0 c0 l0 a1 a2 a3 w _ HR0.out HC0.out HOK.out hm hJ).mono ?_
  clear hJ
  rintro e w1 ⟨rfl, j1, j2, j3, j4⟩
  have J1 := Aside0.mk j1
  have c4 := j4.cell
  clear j1 j3 j4
  go_wp2
  go_ret
  exact ⟨rfl, J1.out⟩

set_option maxHeartbeats 1000000 in
theorem E.from_calls_low (A0 : Option Addr) (c0 : Nat) (l0 : List Int) (a1 a2 a3 : Int) (w : World) (hr0 : Kd.C (Kd.int .i64) w A0 l0.length l0) (hc0 : l0.length ≤ c0) (hok : S.okB l0 a1 a2 = true) (h0 : a3 < 0) (h1 : -9223372036854775808 ≤ a3) (hm : a1 ≤ 9223372036854775807) :
    Calls Try.prog 26 #[.slice A0 l0.length c0, .int .i64 a1, .int .i64 a2, .int .i64 a3] w fun e w' => e = .returned (.int .i64 (S.mthLast (S.upZ l0 0 ((l0.length : Int) - a2) (a3 + 1)) a1)) ∧ Below w.heap.size w w' := by
  have hf := E.may_f l0 a1 a2
  rw [hok] at hf
  obtain ⟨p0, p1, p2, p3⟩ := S.okB_parts hok
  obtain ⟨_, p5, _, _⟩ := S.mayB_parts p0
  have HR0 := Aside0.mk hr0
  have HC0 := Aside0.mk hc0
  have HF := Aside0.mk hf
  clear hr0 hc0 hf hok
  have cb : decide (a3 < 0) = true := by rw [decide_eq_true_eq]; omega
  have hU := E.up_f l0 0 ((l0.length : Int) - a2) (a3 + 1) (by omega) 300 (by omega)
  have HU := Aside0.mk hU
  clear hU
  unfold S.mthLast
  generalize hL : S.upZ l0 0 ((l0.length : Int) - a2) (a3 + 1) = L at *
  clear hL
  by_cases hc : a1 ≤ (L.length : Int)
  · have cm : decide (a1 ≤ (L.length : Int)) = true := by rw [decide_eq_true_eq]; exact hc
    rw [if_pos hc]
    go_enter Try.func26, Try.ntmps26
    go_wp2_with (first | (go_at_call 35; refine (super_may.calls _ _ _ _ _ _ _ (Kd.C_alloc HR0.out _) HC0.out HF.out).mono ?_; rintro e w' ⟨rfl, ⟨m, rfl⟩⟩) | fail)
    refine (super_Up.calls 300 A0 c0 l0 0 ((l0.length : Int) - a2) (a3 + 1) L _ (Kd.C_drewN (Kd.C_alloc HR0.out _) _) HC0.out HU.out).mono ?_
    rintro e w1 ⟨v, rfl, hR, hB⟩
    have HB : Aside0 (Below w.heap.size w w1) := ⟨below_then (pw_below_drewN ((Below.refl _ _).alloc (Nat.le_refl _) _) _) (by simp) hB⟩
    obtain ⟨A1, c1, rfl, hle, hC⟩ := Kd.R_reads hR
    have hmx := Kd.C_max hC
    have HC := Aside0.mk hC
    clear hR hB hC
    obtain ⟨ad, e1, hx⟩ := Kd.at_int HC.out ((L.length : Int) - a1) (by omega) (by omega)
    cases e1
    have i0 : 0 ≤ (L.length : Int) - a1 := by omega
    have i1 : (L.length : Int) - a1 < (L.length : Int) := by omega
    go_wp2
    go_ret
    exact ⟨rfl, HB.out⟩
  · have cm : decide (a1 ≤ (L.length : Int)) = false := by rw [decide_eq_false_iff_not]; exact hc
    rw [if_neg hc]
    go_enter Try.func26, Try.ntmps26
    go_wp2_with (first | (go_at_call 35; refine (super_may.calls _ _ _ _ _ _ _ (Kd.C_alloc HR0.out _) HC0.out HF.out).mono ?_; rintro e w' ⟨rfl, ⟨m, rfl⟩⟩) | fail)
    refine (super_Up.calls 300 A0 c0 l0 0 ((l0.length : Int) - a2) (a3 + 1) L _ (Kd.C_drewN (Kd.C_alloc HR0.out _) _) HC0.out HU.out).mono ?_
    rintro e w1 ⟨v, rfl, hR, hB⟩
    have HB : Aside0 (Below w.heap.size w w1) := ⟨below_then (pw_below_drewN ((Below.refl _ _).alloc (Nat.le_refl _) _) _) (by simp) hB⟩
    obtain ⟨A1, c1, rfl, hle, hC⟩ := Kd.R_reads hR
    have hmx := Kd.C_max hC
    have HC := Aside0.mk hC
    clear hR hB hC
    go_wp2
    go_ret
    exact ⟨rfl, HB.out⟩

theorem E.from_calls (A0 : Option Addr) (c0 : Nat) (l0 : List Int) (a1 a2 a3 : Int) (w : World) (hr0 : Kd.C (Kd.int .i64) w A0 l0.length l0) (hc0 : l0.length ≤ c0) (hm : a1 ≤ 9223372036854775807) (h3 : -9223372036854775808 ≤ a3) :
    Calls Try.prog 26 #[.slice A0 l0.length c0, .int .i64 a1, .int .i64 a2, .int .i64 a3] w fun e w' => e = .returned (.int .i64 (S.fromZ l0 a1 a2 a3)) ∧ Below w.heap.size w w' := by
  cases hok : S.okB l0 a1 a2 with
  | false =>
    have e : S.fromZ l0 a1 a2 a3 = -1 := by unfold S.fromZ; rw [hok]; simp
    rw [e]
    exact E.from_calls_bad A0 c0 l0 a1 a2 a3 w hr0 hc0 hok
  | true =>
    by_cases h0 : a3 < 0
    · have e : S.fromZ l0 a1 a2 a3 = S.mthLast (S.upZ l0 0 ((l0.length : Int) - a2) (a3 + 1)) a1 := by unfold S.fromZ; rw [if_pos hok, if_neg (by omega)]
      rw [e]
      exact E.from_calls_low A0 c0 l0 a1 a2 a3 w hr0 hc0 hok h0 h3 hm
    · have e : S.fromZ l0 a1 a2 a3 = S.outAt l0 a1 a2 a3 32 := by
        unfold S.fromZ S.outAt
        rw [if_pos hok]
        by_cases h31 : 31 < a3
        · rw [if_pos h31, if_neg (by omega)]
        · rw [if_neg h31, if_pos (by omega), S.climb_from hok a3.toNat (by omega), show ((a3.toNat : Nat) : Int) = a3 from by omega]
      rw [e]
      exact E.from_calls_climb A0 c0 l0 a1 a2 a3 w hr0 hc0 hok hm (by omega)

end Go.Proofs.Ytfbhgbnpppbiiaa.X
