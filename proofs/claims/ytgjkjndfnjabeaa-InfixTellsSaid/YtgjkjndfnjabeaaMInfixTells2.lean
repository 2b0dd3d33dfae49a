/- Texts of this proof, laid together by wip/tools/merge.py: Xinfixback, E8, XinfixFollow, Xstepladderref12Ints, E9, XinfixBoth, E10, XslicesMaxintint. -/
import Derived.Test.YtgjkjndfnjabeaaMInfixTells1
import Derived.Lib.OwnBridge
import Derived.RangeFuncNested
import Derived.WalkMore
import Derived.Lib.RowBridge
import Derived.Sort.OwnSortedInts
section
-- By this session's own program (wip/tools/xprint.py), over the kit's print. Not trusted: Lean checks it.
namespace Go.Proofs.Ytgjkjndfnjabeaa.X
open Go.RowKit Go.Proofs.YtgjkjndfnjabeaaW.PrintWords Go.Proofs.YtgjkjndfnjabeaaW.PrintLast Go.Proofs.YtgjkjndfnjabeaaW.PrintMore
attribute [local go_sem] max2_int min2_int max_two min_two max_three min_three max_four min_four   -- for this text's walks alone
set_option linter.unusedVariables false
set_option linter.unusedSimpArgs false

/-! ### infix_back: function 41 -/
def infix_back.l0 : Nat → List Int → Int → Int → Option (Int)
  | 0, _, _, _ => none
  | k + 1, x0, x2, x7 => if x2 > 0 then (if 0 ≤ x7 then (if x7 < (x0.length : Int) then (if (rd x0 x7) < x2 then (infix_back.l0 k x0 x2 (wrap64 (x7 - 1))) else (some x7)) else (none)) else (none)) else (some x7)
def infix_back.f (k : Nat) (l0 : List Int) (a1 : Int) (a2 : Int) : Option (Int) := infix_back.l0 k l0 a2 (wrap64 (a1 - 1))
theorem infix_back.mono_l : ∀ k, (∀ y0 y1 y2, LeO (infix_back.l0 k y0 y1 y2) (infix_back.l0 (k + 1) y0 y1 y2))
  | 0 => fun _ _ _ r h => by simp [infix_back.l0] at h
  | k + 1 => by
    have ih0 := infix_back.mono_l k
    · intro y0 y1 y2
      unfold infix_back.l0
      repeat' first
      | (with_reducible exact ih0 _ _ _)
      | (with_reducible exact LeO.refl _)
      | (with_reducible exact LeO.none _)
      | (with_reducible refine LeO.ite ?_ ?_)
      | (with_reducible refine LeO.bind ?_ (fun _ => ?_))
      | exact ih0 _ _ _
      | exact LeO.none _
      | refine LeO.ite ?_ ?_
      | refine LeO.bind ?_ (fun _ => ?_)
theorem infix_back.mono : ∀ a0 a1 a2 k, LeO (infix_back.f k a0 a1 a2) (infix_back.f (k + 1) a0 a1 a2) := by
  intro a0 a1 a2 k
  have ih0 := infix_back.mono_l k
  unfold infix_back.f
  repeat' first
      | (with_reducible exact ih0 _ _ _)
      | (with_reducible exact LeO.refl _)
      | (with_reducible exact LeO.none _)
      | (with_reducible refine LeO.ite ?_ ?_)
      | (with_reducible refine LeO.bind ?_ (fun _ => ?_))
      | exact ih0 _ _ _
      | exact LeO.none _
      | refine LeO.ite ?_ ?_
      | refine LeO.bind ?_ (fun _ => ?_)
set_option maxHeartbeats 8000000 in
set_option maxRecDepth 100000 in
theorem infix_back.calls (k : Nat) (A0 : Option Addr) (c0 : Nat) (l0 : List Int) (a1 : Int) (a2 : Int) (r : Int) (w : World) (hr0 : Kd.C (Kd.int .i64) w A0 l0.length l0) (hc0 : l0.length ≤ c0) (h : infix_back.f k l0 a1 a2 = some r) :
    Calls Try.prog 41 #[.slice A0 l0.length c0, .int .i64 a1, .int .i64 a2] w fun e w' => e = .returned (.int .i64 r) ∧ Drawn0 w w' := by
  have HR0 := Aside0.mk hr0
  have HC0 := Aside0.mk hc0
  clear hr0 hc0
  have H : (infix_back.l0 k l0 a2 (wrap64 (a1 - 1))) = some r := h
  clear h
  have H' := Aside0.mk H
  clear H
  go_enter Try.func41, Try.ntmps41
  go_wp2
  go_loopg [7] k (fun kq v7 w' => ∃ (x7_1 : Int), v7 = .int .i64 x7_1 ∧ Aside0 (infix_back.l0 kq l0 a2 x7_1 = some r) ∧ Aside0 (kq ≤ k) ∧ Drawn0 w w')
  case atStart => exact ⟨(wrap64 (a1 - 1)), (by first | rfl | (simp; done) | (simp [*]; done)), H', ⟨Nat.le_refl _⟩, by repeat (first | exact Drawn0.refl _ | apply Drawn0.step)⟩
  case round =>
    clear H'
    try clear p2
    obtain ⟨x7_1, rfl, HA, HK1, ⟨m1, rfl⟩⟩ := hrel
    cases gk with
    | zero => exact absurd HA.out (by simp [infix_back.l0])
    | succ k1 =>
      have H := HA.out
      clear HA
      simp only [infix_back.l0] at H
      by_cases c4 : a2 > 0
      · rw [if_pos c4] at H
        have c4b0 : decide (0 < a2) = true := decide_eq_true c4
        clear c4
        by_cases c5 : 0 ≤ x7_1
        · rw [if_pos c5] at H
          have c5b0 : decide (0 ≤ x7_1) = true := decide_eq_true c5
          clear c5
          by_cases c6 : x7_1 < (l0.length : Int)
          · rw [if_pos c6] at H
            have c6b0 : decide (x7_1 < (l0.length : Int)) = true := decide_eq_true c6
            clear c6
            by_cases c7 : (rd l0 x7_1) < a2
            · rw [if_pos c7] at H
              have c7b0 : decide ((rd l0 x7_1) < a2) = true := decide_eq_true c7
              clear c7
              have H' := Aside0.mk H
              clear H
              have p145 : 0 ≤ (x7_1 : Int) := of_decide_eq_true (by first | (with_reducible assumption) | assumption)
              have q145 : x7_1 < (l0.length : Int) := of_decide_eq_true (by first | (with_reducible assumption) | assumption)
              obtain ⟨ad145, e145, hx145_0⟩ := Kd.at_int HR0.out x7_1 p145 q145
              cases e145
              replace p145 := eq_true p145
              replace q145 := eq_true q145
              go_wp2
              go_roundg k1
              case measure => have := HK1.out; omega
              case rel => exact ⟨(wrap64 (x7_1 - 1)), (by first | rfl | (simp; done) | (simp [*]; done)), H', ⟨by have := HK1.out; omega⟩, by repeat (first | exact Drawn0.refl _ | apply Drawn0.step)⟩
            · rw [if_neg c7] at H
              have c7b0 : decide ((rd l0 x7_1) < a2) = false := decide_eq_false c7
              clear c7
              obtain rfl := Option.some.inj H
              have p145 : 0 ≤ (x7_1 : Int) := of_decide_eq_true (by first | (with_reducible assumption) | assumption)
              have q145 : x7_1 < (l0.length : Int) := of_decide_eq_true (by first | (with_reducible assumption) | assumption)
              obtain ⟨ad145, e145, hx145_0⟩ := Kd.at_int HR0.out x7_1 p145 q145
              cases e145
              replace p145 := eq_true p145
              replace q145 := eq_true q145
              go_wp2
              go_ret
              exact ⟨by first | rfl | (simp; done) | (simp [*]; done), by repeat (first | exact Drawn0.refl _ | apply Drawn0.step)⟩
          · rw [if_neg c6] at H
            exact absurd H (by simp)
        · rw [if_neg c5] at H
          exact absurd H (by simp)
      · rw [if_neg c4] at H
        have c4b0 : decide (0 < a2) = false := decide_eq_false c4
        clear c4
        obtain rfl := Option.some.inj H
        go_wp2
        go_ret
        exact ⟨by first | rfl | (simp; done) | (simp [*]; done), by repeat (first | exact Drawn0.refl _ | apply Drawn0.step)⟩

end Go.Proofs.Ytgjkjndfnjabeaa.X
end

section
/- infix.Follow, and what it calls. -/
namespace Go.Proofs.Ytgjkjndfnjabeaa.X
open Go.RowKit Go.Shelf Go.Sort Go.Proofs.YtgjkjndfnjabeaaW.PrintWords Go.Proofs.YtgjkjndfnjabeaaW.PrintLast Go.Proofs.YtgjkjndfnjabeaaW.PrintMore

theorem E.back_l0 (l : List Int) (n : Int) (hl : l.length ≤ 1000000) (h0 : n ≤ rd l 0) : ∀ (i k : Nat), i < l.length → i < k → infix_back.l0 k l n i = some (S.backN l n (i + 1)) := by
  intro i
  induction i with
  | zero =>
    intro k hi hk
    obtain ⟨k, rfl⟩ : ∃ m, k = m + 1 := ⟨k - 1, by omega⟩
    simp only [infix_back.l0, S.backN]
    rw [show ((0 : Nat) : Int) = 0 from rfl, if_neg (show ¬(0 < n ∧ rd l 0 < n) from by omega)]
    by_cases hn : n > 0
    · rw [if_pos hn, if_pos (by omega), if_pos (by omega), if_neg (by omega)]
    · rw [if_neg hn]
  | succ i ih =>
    intro k hi hk
    obtain ⟨k, rfl⟩ : ∃ m, k = m + 1 := ⟨k - 1, by omega⟩
    have ih := ih k (by omega) (by omega)
    simp only [infix_back.l0]
    rw [S.backN]
    by_cases hn : n > 0
    · rw [if_pos hn, if_pos (by omega), if_pos (by omega)]
      by_cases hr : rd l ((i + 1 : Nat) : Int) < n
      · rw [if_pos hr, if_pos ⟨hn, hr⟩, show wrap64 (((i + 1 : Nat) : Int) - 1) = (i : Int) from by rw [E.wrap_id (by omega) (by omega)]; omega]
        exact ih
      · rw [if_neg hr, if_neg (fun h => hr h.2)]
    · rw [if_neg hn, if_neg (fun h => hn h.1)]
theorem E.back_f (l : List Int) (n : Int) (hl : l.length ≤ 200) (h0 : n ≤ rd l 0) (i : Int) (h1 : 1 ≤ i) (h2 : i ≤ l.length) (k : Nat) (hk : 300 < k) : infix_back.f k l i n = some (S.backN l n i.toNat) := by
  unfold infix_back.f
  obtain ⟨j, rfl⟩ : ∃ j : Nat, i = ((j + 1 : Nat) : Int) := ⟨(i - 1).toNat, by omega⟩
  rw [show wrap64 (((j + 1 : Nat) : Int) - 1) = (j : Int) from by rw [E.wrap_id (by omega) (by omega)]; omega]
  exact E.back_l0 l n (by omega) h0 j k (by omega) (by omega)

theorem E.quietD {P : Program} {f : FuncId} {args : Array Value} {w : World} {n : Nat} {v : Value} (h : Calls P f args (w.drewN n) fun e w' => e = .returned v ∧ Drawn0 (w.drewN n) w') :
    Calls P f args (w.drewN n) fun e w'' => e = .returned v ∧ ∃ m, w'' = w.drewN m := Calls.quiet_of (h.mono (by rintro e w' ⟨rfl, ⟨m, rfl⟩⟩; exact ⟨rfl, m, rfl⟩))

/-- What stands at a place of Follow's: the walk's record, and its own list. -/
def E.Wk (l : List Int) (A0 : Option Addr) (c0 : Nat) (w0 : World) (B : Nat) (a n : Int) (xs : List Int) (W : World) : Prop :=
  ∃ v : Value, W.heap[B]? = some (.cells #[.slice A0 l.length c0, .int .i64 a, .int .i64 n, v] 48 (0, 0)) ∧ Kd.R (Kd.int .i64) 3 W w0.heap.size (fun k => k ≠ B) v xs ∧ Below w0.heap.size w0 W ∧ w0.heap.size ≤ B

/-- One step, where it is not too far. -/
def E.StepYes (l : List Int) (A0 : Option Addr) (c0 : Nat) (w0 : World) (B : Nat) (n x : Int) (xs : List Int) (e : Ending) (W : World) : Prop := e = .returned (.bool true) ∧ E.Wk l A0 c0 w0 B x n (xs ++ [x]) W
def E.StepNo (l : List Int) (A0 : Option Addr) (c0 : Nat) (w0 : World) (B : Nat) (a n : Int) (xs : List Int) (e : Ending) (W : World) : Prop := e = .returned (.bool false) ∧ E.Wk l A0 c0 w0 B a n xs W

set_option maxHeartbeats 1000000 in
theorem E.step_no (A0 : Option Addr) (c0 : Nat) (l : List Int) (w0 W : World) (B : Nat) (a n lo : Int) (xs : List Int) (hr0 : Kd.C (Kd.int .i64) w0 A0 l.length l) (hc0 : l.length ≤ c0) (hl : l.length ≤ 200) (h31 : n ≤ rd l 0) (ha : 1 ≤ a) (ha1 : a ≤ l.length)
    (hx : S.backN l n a.toNat < lo) (h : E.Wk l A0 c0 w0 B a n xs W) :
    Calls Try.prog 35 #[.pointer (some ⟨B, 0, none⟩), .int .i64 lo] W (E.StepNo l A0 c0 w0 B a n xs) := by
  obtain ⟨v, hb, hR, hB, hw⟩ := h
  have hf := E.back_f l n hl h31 a ha ha1 301 (by omega)
  generalize S.backN l n a.toNat = x at hf hx
  have HC := Aside0.mk (Kd.C_below hr0 hB)
  have HC0 := Aside0.mk hc0
  have HF := Aside0.mk hf
  have c1 := blk_cell hb 0
  have c2 := blk_cell hb 1
  have c3 := blk_cell hb 2
  have HW : Aside0 (∀ m, E.Wk l A0 c0 w0 B a n xs (W.drewN m)) := ⟨fun m => ⟨v, blk_drewN hb m, Kd.R_drewN hR m, pw_below_drewN hB m, hw⟩⟩
  have cx : decide (x < lo) = true := decide_eq_true hx
  simp at c1 c2 c3
  generalize hP : E.StepNo l A0 c0 w0 B a n xs = Post
  clear hr0 hc0 hf hb hR hB
  go_enter Try.func35, Try.ntmps35
  go_wp2
  go_quiet (first | (go_at_call 41; exact E.quietD (v := .int .i64 x) (infix_back.calls 301 _ _ _ _ _ _ _ (Kd.C_drewN HC.out _) HC0.out HF.out)))
  go_wp2
  subst hP
  exact ⟨rfl, HW.out _⟩

set_option maxHeartbeats 1000000 in
theorem E.step_yes (A0 : Option Addr) (c0 : Nat) (l : List Int) (w0 W : World) (B : Nat) (a n lo : Int) (xs : List Int) (hr0 : Kd.C (Kd.int .i64) w0 A0 l.length l) (hc0 : l.length ≤ c0) (hl : l.length ≤ 200) (h31 : n ≤ rd l 0) (ha : 1 ≤ a) (ha1 : a ≤ l.length)
    (hx : ¬ S.backN l n a.toNat < lo) (hxs : xs.length ≤ 1000) (h : E.Wk l A0 c0 w0 B a n xs W) :
    Calls Try.prog 35 #[.pointer (some ⟨B, 0, none⟩), .int .i64 lo] W (E.StepYes l A0 c0 w0 B n (S.backN l n a.toNat) xs) := by
  obtain ⟨v, hb, hR, hB, hw⟩ := h
  have hf := E.back_f l n hl h31 a ha ha1 301 (by omega)
  generalize S.backN l n a.toNat = x at hf hx
  have HC := Aside0.mk (Kd.C_below hr0 hB)
  have HC0 := Aside0.mk hc0
  have HF := Aside0.mk hf
  have c1 := blk_cell hb 0
  have c2 := blk_cell hb 1
  have c3 := blk_cell hb 2
  have c4 := blk_cell hb 3
  have hlt := blk_lt hb
  have HBK := Aside0.mk hb
  have HR := Aside0.mk hR
  have HB := Aside0.mk hB
  have cx : decide (x < lo) = false := decide_eq_false hx
  simp at c1 c2 c3 c4
  generalize hP : E.StepYes l A0 c0 w0 B n x xs = Post
  clear hr0 hc0 hf hb hR hB
  go_enter Try.func35, Try.ntmps35
  go_wp2
  go_quiet (first | (go_at_call 41; exact E.quietD (v := .int .i64 x) (infix_back.calls 301 _ _ _ _ _ _ _ (Kd.C_drewN HC.out _) HC0.out HF.out)))
  go_wp2_with (first | ((with_reducible refine gate_builtin (b := .append) (xs := #[.tmp 26, .tmp 28]) rfl ?_); at_builtin; refine Kd.R_append (Kd.int .i64) (w0 := w0) w0.heap.size rfl (.tmp 26) (.tmp 28) 22 3 (.int .i64 0) 8 rfl Try.underlying22 info3 rfl (by decide) (by omega) v xs x [.int .i64 x] (fun k => k ≠ B) (fun _ => False) rfl rfl ?aP (fun _ hk => hk.elim) ?aF ?aO ?aB ?aS ?aL ?_; (case aP => exact rfl); (case aF => exact (fun k hk => by simp at hk; omega)); (case aO => exact (Kd.R_drewN HR.out _)); (case aB => exact (pw_below_drewN HB.out _)); (case aS => exact (by have := HB.out.size; simpa using this)); (case aL => omega); intro v1 w1 ho hb1 hg1 hat1; obtain ⟨A1, k1, e1, _, _⟩ := Kd.R_reads ho; obtain ⟨q, hq⟩ : ∃ q, (xs ++ [x]).length = q := ⟨_, rfl⟩; rw [hq] at e1; subst e1; have hne : some B ≠ v.ownBlock := fun e => HR.out.1 B e.symm rfl; have hbk1 := blk_grown (blk_drewN HBK.out _) hg1 hne; have f3 := blk_frozen hbk1 3; have d3 := blk_cell hbk1 3; have hbk2 := blk_put hbk1 3 (.slice A1 q k1) rfl; have f1 := blk_frozen hbk2 1; have d1 := blk_cell hbk2 1; have HO := Aside0.mk ho; have HB1 := Aside0.mk hb1; have HK := Aside0.mk hbk1; simp at d3 d1; clear ho hb1 hg1 hat1 hbk1 hbk2) | fail)
  subst hP
  refine ⟨rfl, .slice A1 q k1, ?_, ?_, ?_, hw⟩
  · exact blk_put (blk_put HK.out 3 (.slice A1 q k1) rfl) 1 (.int .i64 x) rfl
  · exact Kd.R_far (Kd.R_far HO.out (fun k hk => hk) _) (fun k hk => hk) _
  · exact below_set (below_set HB1.out hw) hw

/-- infix.Follow, where there is no way. -/
theorem E.follow_bad (A0 : Option Addr) (c0 : Nat) (l : List Int) (hi lo : Int) (w : World) (hr0 : Kd.C (Kd.int .i64) w A0 l.length l) (hc0 : l.length ≤ c0) (hok : ¬(S.mayB l = true ∧ 0 ≤ lo ∧ lo ≤ hi ∧ hi < l.length)) :
    Calls Try.prog 16 #[.slice A0 l.length c0, .int .i64 hi, .int .i64 lo] w fun e w' => e = .returned (.tuple #[.slice none 0 0, .bool false]) ∧ Below w.heap.size w w' := by
  have HR0 := Aside0.mk hr0
  have HC0 := Aside0.mk hc0
  clear hr0 hc0
  have hmay := fun w hr => E.may_calls A0 c0 l w hr HC0.out
  cases hm : S.mayB l with
  | false =>
    rw [hm] at hmay
    have HM := Aside0.mk hmay
    clear hmay
    go_enter Try.func16, Try.ntmps16
    go_wp2
    go_step3
    go_wp2_with (go_at_call 25; refine (HM.out _ HR0.out).mono ?_; rintro e w' ⟨rfl, ⟨m, rfl⟩⟩)
    (try rw [Exit.noGoto_ret])
    go_ret2
    exact ⟨rfl, pw_below_drewN (Below.refl _ _) _⟩
  | true =>
    rw [hm] at hmay
    have HM := Aside0.mk hmay
    clear hmay
    by_cases h1 : lo < 0
    · have d1 : decide (lo < 0) = true := decide_eq_true h1
      go_enter Try.func16, Try.ntmps16
      go_wp2
      go_step3
      go_wp2_with (go_at_call 25; refine (HM.out _ HR0.out).mono ?_; rintro e w' ⟨rfl, ⟨m, rfl⟩⟩)
      (try rw [Exit.noGoto_ret])
      go_ret2
      exact ⟨rfl, pw_below_drewN (Below.refl _ _) _⟩
    · have d1 : decide (lo < 0) = false := decide_eq_false h1
      by_cases h2 : hi < lo
      · have d2 : decide (hi < lo) = true := decide_eq_true h2
        go_enter Try.func16, Try.ntmps16
        go_wp2
        go_step3
        go_wp2_with (go_at_call 25; refine (HM.out _ HR0.out).mono ?_; rintro e w' ⟨rfl, ⟨m, rfl⟩⟩)
        (try rw [Exit.noGoto_ret])
        go_ret2
        exact ⟨rfl, pw_below_drewN (Below.refl _ _) _⟩
      · have d2 : decide (hi < lo) = false := decide_eq_false h2
        have d3 : decide ((l.length : Int) ≤ hi) = true := decide_eq_true (by
          by_cases h3 : (l.length : Int) ≤ hi
          · exact h3
          · exact absurd ⟨hm, by omega, by omega, by omega⟩ hok)
        go_enter Try.func16, Try.ntmps16
        go_wp2
        go_step3
        go_wp2_with (go_at_call 25; refine (HM.out _ HR0.out).mono ?_; rintro e w' ⟨rfl, ⟨m, rfl⟩⟩)
        (try rw [Exit.noGoto_ret])
        go_ret2
        exact ⟨rfl, pw_below_drewN (Below.refl _ _) _⟩

/-- What stands ahead of a round of Follow's. -/
def E.FolJ (l : List Int) (A0 : Option Addr) (c0 : Nat) (w0 : World) (B : Nat) (hi lo : Int) (kq : Nat) (W : World) : Prop :=
  ∃ (a n : Int) (xs : List Int), lo ≤ a ∧ a ≤ hi ∧ 0 ≤ n ∧ n ≤ 31 ∧ (∀ y : Int, lo ≤ y → y < a → rd l y ≤ n) ∧ xs.reverse = S.wayTo l hi lo a ∧ a - lo + n ≤ kq ∧ E.Wk l A0 c0 w0 B a n xs W

set_option maxHeartbeats 2000000 in
theorem E.follow_ok (A0 : Option Addr) (c0 : Nat) (l : List Int) (hi lo : Int) (w : World) (hr0 : Kd.C (Kd.int .i64) w A0 l.length l) (hc0 : l.length ≤ c0) (hok : S.mayB l = true ∧ 0 ≤ lo ∧ lo ≤ hi ∧ hi < l.length) :
    Calls Try.prog 16 #[.slice A0 l.length c0, .int .i64 hi, .int .i64 lo] w fun e w' => ∃ v : Value, e = .returned (.tuple #[v, .bool true]) ∧ Kd.R (Kd.int .i64) 3 w' w.heap.size (fun _ => True) v (S.wayL l hi lo) ∧ Below w.heap.size w w' := by
  obtain ⟨hm, h0, h1, h2⟩ := hok
  obtain ⟨_, hl, h31, hlv⟩ := S.mayB_parts hm
  have HR0 := Aside0.mk hr0
  have HC0 := Aside0.mk hc0
  have HLV := Aside0.mk hlv
  have hmay := fun w hr => E.may_calls A0 c0 l w hr hc0
  rw [hm] at hmay
  have HM := Aside0.mk hmay
  have d1 : decide (lo < 0) = false := decide_eq_false (by omega)
  have d2 : decide (hi < lo) = false := decide_eq_false (by omega)
  have d3 : decide ((l.length : Int) ≤ hi) = false := decide_eq_false (by omega)
  clear hmay hr0 hc0 hlv
  go_enter Try.func16, Try.ntmps16
  go_wp2
  go_step3
  go_wp2_with (go_at_call 25; refine (HM.out _ HR0.out).mono ?_; rintro e w' ⟨rfl, ⟨m, rfl⟩⟩)
  go_step3
  go_wp2
  have hstart : E.FolJ l A0 c0 w (w.heap.size + 1) hi lo (hi - lo + 31).toNat (((w.drewN m).alloc (.cells #[.int .i64 hi] 3)).alloc (.cells #[.slice A0 l.length c0, .int .i64 hi, .int .i64 31, .slice (some ⟨w.heap.size, 0, none⟩) 1 1] 48)) := by
    refine ⟨hi, 31, [hi], h1, Int.le_refl _, by omega, by omega, fun y a b => (HLV.out y (by omega) (by omega)).2, by rw [S.way_start h0 h2]; rfl, by omega, .slice (some ⟨w.heap.size, 0, none⟩) 1 1, ?_, ?_, ?_, by omega⟩
    · have := blk_new ((w.drewN m).alloc (.cells #[.int .i64 hi] 3)) (.cells #[.slice A0 l.length c0, .int .i64 hi, .int .i64 31, .slice (some ⟨w.heap.size, 0, none⟩) 1 1] 48)
      simpa using this
    · have h := own_lit_of (enc := Value.int .i64) (w.drewN m) w.heap.size 3 [hi] (by simp) (by simp)
      rw [show (encs (Value.int .i64) [hi]).toArray = #[.int .i64 hi] from rfl] at h
      refine Kd.R_alloc (Kd.R_of_own (by simpa using h) (fun k hk => ?_)) _
      cases hk
      simp
    · exact below_alloc (below_alloc (pw_below_drewN (Below.refl _ _) _) _) _
  go_loopg [] (hi - lo + 31).toNat (fun kq W => Aside0 (E.FolJ l A0 c0 w (w.heap.size + 1) hi lo kq W))
  case atStart => exact ⟨hstart⟩
  case round =>
    clear hstart
    obtain ⟨⟨a, n, xs, j1, j2, j3, j4, j5, j6, j7, j8⟩⟩ := hrel
    have hlen : xs.length ≤ 1000 := by
      have e := congrArg List.length j6
      rw [List.length_reverse] at e
      have := S.wayTo_len l hi lo a
      omega
    have HJ := Aside0.mk j8
    have H5 := Aside0.mk j5
    have H6 := Aside0.mk j6
    obtain ⟨v, hb, hR, hB, hw⟩ := j8
    have c2 := blk_cell hb 1
    have c4 := blk_cell hb 3
    simp at c2 c4
    clear j5 j6
    by_cases hal : a = lo
    · have hnn : v ≠ .slice none 0 0 := fun e => by
        subst e
        obtain ⟨A1, k1, e1, _, _⟩ := Kd.R_reads hR
        injection e1 with _ e2 _
        have h6 := H6.out
        rw [List.eq_nil_of_length_eq_zero e2.symm] at h6
        have := (S.wayTo_mem (l := l) (hi := hi) (lo := lo) (x := a) (y := hi)).2 ⟨(S.wayL_mem h0 h2).2 (.inl rfl), j2⟩
        rw [← h6] at this
        simp at this
      have hown := Kd.own_of_R hR
      obtain ⟨g, cap, e1, hbg, hgl, hncap, hcm, _, hH⟩ := Lib.holds_of_ownsRow (enc := Value.int .i64) (zs := xs) hown hnn
      subst e1
      have hne : g ≠ w.heap.size + 1 := hR.1 g rfl
      have hrev : Calls Try.prog 36 #[.slice (some ⟨g, 0, none⟩) xs.length cap] wr fun e w' => e = .returned (.tuple #[]) ∧ ∃ n, w' = putRow (Value.int .i64) (Sort.ahead wr n) g 0 xs.reverse.toArray := AnyG.slices_Reverse_int Try.reverseA g 0 cap xs wr hH (by omega)
      have hput : ∀ q, (putRow (Value.int .i64) (Sort.ahead wr q) g 0 xs.reverse.toArray).heap[w.heap.size + 1]? = wr.heap[w.heap.size + 1]? := fun q => by simp [putRow, mapBlock, Sort.ahead, Array.getElem?_modify, hne]
      have HV := Aside0.mk hrev
      have HP := Aside0.mk hput
      have HO := Aside0.mk hown
      have HB := Aside0.mk hB
      have HBK := Aside0.mk hb
      clear hrev hput hown hb hR hB hH
      subst hal
      go_wp2_with (go_at_call 36; refine HV.out.mono ?_; rintro e w' ⟨rfl, q, rfl⟩; have hb2 := (HP.out q).trans HBK.out; have ho2 := Lib.ownsRow_putRow (q := q) (k := xs.length) (ys := xs.reverse) HO.out (by simp) (Nat.le_refl _); have hb3 := Lib.below_putRow (enc := Value.int .i64) (q := q) (d := xs.reverse.toArray) HB.out hbg; generalize putRow (Value.int .i64) (Sort.ahead wr q) g 0 xs.reverse.toArray = w2 at hb2 ho2 hb3 ⊢; have c5 := blk_cell hb2 3; simp at c5; have HO2 := Aside0.mk ho2; have HB3 := Aside0.mk hb3; clear hb2 ho2 hb3)
      (try rw [Exit.noGoto_ret])
      go_ret2
      have ho := HO2.out
      rw [List.take_of_length_le (by simp), H6.out, S.way_end h0 h2 h1] at ho
      have hlw : (S.wayL l hi a).length = xs.length := by rw [← S.way_end h0 h2 h1, ← H6.out, List.length_reverse]
      exact ⟨_, rfl, Kd.R_of_own (by rw [hlw]; exact ho) (fun _ _ => trivial), HB3.out⟩
    · have cb : (a == lo) = false := beq_eq_false_iff_ne.mpr hal
      have hbk := S.backN_is (l := l) (n := n) (by omega) a.toNat (by omega)
      clear hb hR hB c4
      by_cases hx : S.backN l n a.toNat < lo
      · go_wp2_with (go_at_call 35; refine (E.step_no A0 c0 l w _ (w.heap.size + 1) a n lo xs HR0.out HC0.out hl (by omega) (by omega) (by omega) hx HJ.out).mono ?_; rintro e w' ⟨rfl, hwk⟩; have HK := Aside0.mk hwk; obtain ⟨v', hb', hR', hB', _⟩ := hwk; have c3 := blk_cell hb' 2; have f3 := blk_frozen hb' 2; simp at c3; clear hb' hR' hB')
        go_roundg (a - lo + (n - 1)).toNat
        case measure => omega
        case rel =>
          obtain ⟨v', hb', hR', hB', _⟩ := HK.out
          have hn : 1 ≤ n := by
            by_cases e : n = 0
            · have := hbk.2.2.1 (by omega); omega
            · omega
          exact ⟨a, n - 1, xs, j1, j2, by omega, by omega, fun y y1 y2 => by have := hbk.2.2.2.2 y (by omega) (by omega); omega, H6.out, by omega, v', blk_put hb' 2 _ rfl, Kd.R_far hR' (fun k hk => hk) _, below_set hB' (by omega), hw⟩
      · generalize hxx : S.backN l n a.toNat = x at *
        have hyes := E.step_yes A0 c0 l w wr (w.heap.size + 1) a n lo xs HR0.out HC0.out hl (by omega) (by omega) (by omega) (by rw [hxx]; exact hx) hlen HJ.out
        rw [hxx] at hyes
        have HY := Aside0.mk hyes
        clear hyes
        go_wp2_with (go_at_call 35; refine HY.out.mono ?_; rintro e w' ⟨rfl, hwk⟩; have HK := Aside0.mk hwk; clear hwk)
        go_roundg (x - lo + n).toNat
        case measure => omega
        case rel =>
          have hrx : rd l x ≤ n := H5.out x (by omega) (by omega)
          have hrn : n ≤ rd l x := by
            by_cases e : n = 0
            · have := (HLV.out x (by omega) (by omega)).1; omega
            · exact hbk.2.2.2.1 (by omega)
          refine ⟨⟨x, n, xs ++ [x], by omega, by omega, j3, j4, fun y y1 y2 => H5.out y y1 (by omega), ?_, by omega, HK.out⟩⟩
          rw [List.reverse_append, H6.out]
          exact (S.way_step h0 h2 (by omega) (by omega) j2 (by omega) (fun y y1 y2 => by have := H5.out y y1 (by omega); omega) (fun y y1 y2 => by have := hbk.2.2.2.2 y y1 (by omega); omega)).symm

theorem E.follow_calls (A0 : Option Addr) (c0 : Nat) (l : List Int) (hi lo : Int) (w : World) (hr0 : Kd.C (Kd.int .i64) w A0 l.length l) (hc0 : l.length ≤ c0) :
    Calls Try.prog 16 #[.slice A0 l.length c0, .int .i64 hi, .int .i64 lo] w fun e w' => ∃ v : Value, e = .returned (.tuple #[v, .bool (S.followZ l hi lo).2]) ∧ Kd.R (Kd.int .i64) 3 w' w.heap.size (fun _ => True) v (S.followZ l hi lo).1 ∧ Below w.heap.size w w' := by
  by_cases hok : S.mayB l = true ∧ 0 ≤ lo ∧ lo ≤ hi ∧ hi < l.length
  · have e1 : S.followZ l hi lo = (S.wayL l hi lo, true) := by unfold S.followZ; rw [if_pos hok]
    rw [e1]
    exact E.follow_ok A0 c0 l hi lo w hr0 hc0 hok
  · have e1 : S.followZ l hi lo = ([], false) := by unfold S.followZ; rw [if_neg hok]
    rw [e1]
    exact (E.follow_bad A0 c0 l hi lo w hr0 hc0 hok).mono fun e w' h => ⟨_, h.1, Kd.R_nil _ _ _ _ _, h.2⟩

end Go.Proofs.Ytgjkjndfnjabeaa.X
end

section
-- By this session's own program (wip/tools/xprint.py), over the kit's print. Not trusted: Lean checks it.
namespace Go.Proofs.Ytgjkjndfnjabeaa.X
open Go.RowKit Go.Proofs.YtgjkjndfnjabeaaW.PrintWords Go.Proofs.YtgjkjndfnjabeaaW.PrintLast Go.Proofs.YtgjkjndfnjabeaaW.PrintMore
attribute [local go_sem] max2_int min2_int max_two min_two max_three min_three max_four min_four   -- for this text's walks alone
set_option linter.unusedVariables false
set_option linter.unusedSimpArgs false

/-! ### infix_Follow: function 16 -/
-- EXT YtgjkjndfnjabeaaE8
def infix_Follow.f (l0 : List Int) (a1 : Int) (a2 : Int) : Option (List Int × Bool) := some (S.followZ l0 a1 a2)
theorem infix_Follow.calls (A0 : Option Addr) (c0 : Nat) (l0 : List Int) (a1 : Int) (a2 : Int) (r1 : List Int) (r2 : Bool) (w : World) (hr0 : Kd.C (Kd.int .i64) w A0 l0.length l0) (hc0 : l0.length ≤ c0) (h : infix_Follow.f l0 a1 a2 = some (r1, r2)) :
    Calls Try.prog 16 #[.slice A0 l0.length c0, .int .i64 a1, .int .i64 a2] w fun e w' => ∃ v0_ : Value, e = .returned (.tuple #[v0_, .bool r2]) ∧ Kd.R (Kd.int .i64) 3 w' w.heap.size (fun _ => True) v0_ r1 ∧ Below w.heap.size w w' := by
  have h' := Option.some.inj h
  obtain ⟨rfl, rfl⟩ : (S.followZ l0 a1 a2).1 = r1 ∧ (S.followZ l0 a1 a2).2 = r2 := by rw [h']; exact ⟨rfl, rfl⟩
  exact E.follow_calls A0 c0 l0 a1 a2 w hr0 hc0


end Go.Proofs.Ytgjkjndfnjabeaa.X
end

section
-- By this session's own program (wip/tools/xprint.py), over the kit's print. Not trusted: Lean checks it.
namespace Go.Proofs.Ytgjkjndfnjabeaa.X
open Go.RowKit Go.Proofs.YtgjkjndfnjabeaaW.PrintWords Go.Proofs.YtgjkjndfnjabeaaW.PrintLast Go.Proofs.YtgjkjndfnjabeaaW.PrintMore
attribute [local go_sem] max2_int min2_int max_two min_two max_three min_three max_four min_four   -- for this text's walks alone
set_option linter.unusedVariables false
set_option linter.unusedSimpArgs false

/-! ### stepladderref12_Ints: function 18 -/
def stepladderref12_Ints.l0 : Nat → List Int → List Int → Int → Option (Bool)
  | 0, _, _, _ => none
  | k + 1, x0, x1, x5 => if x5 < (x0.length : Int) then (if 0 ≤ x5 then (if x5 < (x1.length : Int) then (if (rd x0 x5) = (rd x1 x5) then (stepladderref12_Ints.l0 k x0 x1 (wrap64 (x5 + 1))) else (some false)) else (none)) else (none)) else (some true)
def stepladderref12_Ints.f (k : Nat) (l0 : List Int) (l1 : List Int) : Option (Bool) := if (l0.length : Int) = (l1.length : Int) then (stepladderref12_Ints.l0 k l0 l1 0) else (some false)
theorem stepladderref12_Ints.mono_l : ∀ k, (∀ y0 y1 y2, LeO (stepladderref12_Ints.l0 k y0 y1 y2) (stepladderref12_Ints.l0 (k + 1) y0 y1 y2))
  | 0 => fun _ _ _ r h => by simp [stepladderref12_Ints.l0] at h
  | k + 1 => by
    have ih0 := stepladderref12_Ints.mono_l k
    · intro y0 y1 y2
      unfold stepladderref12_Ints.l0
      repeat' first
      | (with_reducible exact ih0 _ _ _)
      | (with_reducible exact LeO.refl _)
      | (with_reducible exact LeO.none _)
      | (with_reducible refine LeO.ite ?_ ?_)
      | (with_reducible refine LeO.bind ?_ (fun _ => ?_))
      | exact ih0 _ _ _
      | exact LeO.none _
      | refine LeO.ite ?_ ?_
      | refine LeO.bind ?_ (fun _ => ?_)
theorem stepladderref12_Ints.mono : ∀ a0 a1 k, LeO (stepladderref12_Ints.f k a0 a1) (stepladderref12_Ints.f (k + 1) a0 a1) := by
  intro a0 a1 k
  have ih0 := stepladderref12_Ints.mono_l k
  unfold stepladderref12_Ints.f
  repeat' first
      | (with_reducible exact ih0 _ _ _)
      | (with_reducible exact LeO.refl _)
      | (with_reducible exact LeO.none _)
      | (with_reducible refine LeO.ite ?_ ?_)
      | (with_reducible refine LeO.bind ?_ (fun _ => ?_))
      | exact ih0 _ _ _
      | exact LeO.none _
      | refine LeO.ite ?_ ?_
      | refine LeO.bind ?_ (fun _ => ?_)
set_option maxHeartbeats 8000000 in
set_option maxRecDepth 100000 in
theorem stepladderref12_Ints.calls (k : Nat) (A0 : Option Addr) (c0 : Nat) (l0 : List Int) (A1 : Option Addr) (c1 : Nat) (l1 : List Int) (r : Bool) (w : World) (hr0 : Kd.C (Kd.int .i64) w A0 l0.length l0) (hc0 : l0.length ≤ c0) (hr1 : Kd.C (Kd.int .i64) w A1 l1.length l1) (hc1 : l1.length ≤ c1) (h : stepladderref12_Ints.f k l0 l1 = some r) :
    Calls Try.prog 18 #[.slice A0 l0.length c0, .slice A1 l1.length c1] w fun e w' => e = .returned (.bool r) ∧ Drawn0 w w' := by
  have HR0 := Aside0.mk hr0
  have HC0 := Aside0.mk hc0
  clear hr0 hc0
  have HR1 := Aside0.mk hr1
  have HC1 := Aside0.mk hc1
  clear hr1 hc1
  have H : (if (l0.length : Int) = (l1.length : Int) then (stepladderref12_Ints.l0 k l0 l1 0) else (some false)) = some r := h
  clear h
  by_cases c3 : (l0.length : Int) = (l1.length : Int)
  · rw [if_pos c3] at H
    have c3b0 : ((l0.length : Int) == (l1.length : Int)) = true := beq_iff_eq.mpr c3
    have c3b1 : ((l0.length : Int) != (l1.length : Int)) = false := bne_eq_false_iff_eq.mpr c3
    have c3b2 : (l0.length == l1.length) = true := by first | simpa using c3 | (simp at c3 ⊢; omega)
    clear c3
    have H' := Aside0.mk H
    clear H
    go_enter Try.func18, Try.ntmps18
    go_wp2
    repeat (go_quiet (fail); try go_wp2)
    go_loopg [5] k (fun kq v5 w' => ∃ (x5_1 : Int), v5 = .int .i64 x5_1 ∧ Aside0 (stepladderref12_Ints.l0 kq l0 l1 x5_1 = some r) ∧ Aside0 (kq ≤ k) ∧ Drawn0 w w')
    case atStart => exact ⟨(0), (by first | rfl | (simp; done) | (simp [*]; done)), H', ⟨Nat.le_refl _⟩, by repeat (first | exact Drawn0.refl _ | apply Drawn0.step)⟩
    case round =>
      clear H'
      try clear c1
      try clear p2
      try clear c3
      try clear c3b0
      try clear c3b1
      try clear c3b2
      obtain ⟨x5_1, rfl, HA, HK1, ⟨m1, rfl⟩⟩ := hrel
      cases gk with
      | zero => exact absurd HA.out (by simp [stepladderref12_Ints.l0])
      | succ k1 =>
        have H := HA.out
        clear HA
        simp only [stepladderref12_Ints.l0] at H
        by_cases c4 : x5_1 < (l0.length : Int)
        · rw [if_pos c4] at H
          have c4b0 : decide (x5_1 < (l0.length : Int)) = true := decide_eq_true c4
          clear c4
          by_cases c5 : 0 ≤ x5_1
          · rw [if_pos c5] at H
            have c5b0 : decide (0 ≤ x5_1) = true := decide_eq_true c5
            clear c5
            by_cases c6 : x5_1 < (l1.length : Int)
            · rw [if_pos c6] at H
              have c6b0 : decide (x5_1 < (l1.length : Int)) = true := decide_eq_true c6
              clear c6
              by_cases c7 : (rd l0 x5_1) = (rd l1 x5_1)
              · rw [if_pos c7] at H
                have c7b0 : ((rd l0 x5_1) == (rd l1 x5_1)) = true := beq_iff_eq.mpr c7
                have c7b1 : ((rd l0 x5_1) != (rd l1 x5_1)) = false := bne_eq_false_iff_eq.mpr c7
                clear c7
                have H' := Aside0.mk H
                clear H
                have p137 : 0 ≤ (x5_1 : Int) := of_decide_eq_true (by first | (with_reducible assumption) | assumption)
                have q137 : x5_1 < (l0.length : Int) := of_decide_eq_true (by first | (with_reducible assumption) | assumption)
                obtain ⟨ad137, e137, hx137_0⟩ := Kd.at_int HR0.out x5_1 p137 q137
                cases e137
                replace p137 := eq_true p137
                replace q137 := eq_true q137
                have p138 : 0 ≤ (x5_1 : Int) := of_decide_eq_true (by first | (with_reducible assumption) | assumption)
                have q138 : x5_1 < (l1.length : Int) := of_decide_eq_true (by first | (with_reducible assumption) | assumption)
                obtain ⟨ad138, e138, hx138_0⟩ := Kd.at_int HR1.out x5_1 p138 q138
                cases e138
                replace p138 := eq_true p138
                replace q138 := eq_true q138
                go_wp2
                repeat (go_quiet (fail); try go_wp2)
                go_roundg k1
                case measure => have := HK1.out; omega
                case rel => exact ⟨(wrap64 (x5_1 + 1)), (by first | rfl | (simp; done) | (simp [*]; done)), H', ⟨by have := HK1.out; omega⟩, by repeat (first | exact Drawn0.refl _ | apply Drawn0.step)⟩
              · rw [if_neg c7] at H
                have c7b0 : ((rd l0 x5_1) == (rd l1 x5_1)) = false := beq_eq_false_iff_ne.mpr c7
                have c7b1 : ((rd l0 x5_1) != (rd l1 x5_1)) = true := bne_iff_ne.mpr c7
                obtain rfl := Option.some.inj H
                have p137 : 0 ≤ (x5_1 : Int) := of_decide_eq_true (by first | (with_reducible assumption) | assumption)
                have q137 : x5_1 < (l0.length : Int) := of_decide_eq_true (by first | (with_reducible assumption) | assumption)
                obtain ⟨ad137, e137, hx137_0⟩ := Kd.at_int HR0.out x5_1 p137 q137
                cases e137
                replace p137 := eq_true p137
                replace q137 := eq_true q137
                have p138 : 0 ≤ (x5_1 : Int) := of_decide_eq_true (by first | (with_reducible assumption) | assumption)
                have q138 : x5_1 < (l1.length : Int) := of_decide_eq_true (by first | (with_reducible assumption) | assumption)
                obtain ⟨ad138, e138, hx138_0⟩ := Kd.at_int HR1.out x5_1 p138 q138
                cases e138
                replace p138 := eq_true p138
                replace q138 := eq_true q138
                go_wp2
                repeat (go_quiet (fail); try go_wp2)
                go_ret
                exact ⟨by first | rfl | (simp; done) | (simp [*]; done), by repeat (first | exact Drawn0.refl _ | apply Drawn0.step)⟩
            · rw [if_neg c6] at H
              exact absurd H (by simp)
          · rw [if_neg c5] at H
            exact absurd H (by simp)
        · rw [if_neg c4] at H
          have c4b0 : decide (x5_1 < (l0.length : Int)) = false := decide_eq_false c4
          clear c4
          obtain rfl := Option.some.inj H
          go_wp2
          repeat (go_quiet (fail); try go_wp2)
          go_ret
          exact ⟨by first | rfl | (simp; done) | (simp [*]; done), by repeat (first | exact Drawn0.refl _ | apply Drawn0.step)⟩
  · rw [if_neg c3] at H
    have c3b0 : ((l0.length : Int) == (l1.length : Int)) = false := beq_eq_false_iff_ne.mpr c3
    have c3b1 : ((l0.length : Int) != (l1.length : Int)) = true := bne_iff_ne.mpr c3
    have c3b2 : (l0.length == l1.length) = false := by first | simpa using c3 | (simp at c3 ⊢; omega)
    obtain rfl := Option.some.inj H
    go_enter Try.func18, Try.ntmps18
    go_wp2
    repeat (go_quiet (fail); try go_wp2)
    go_ret
    exact ⟨by first | rfl | (simp; done) | (simp [*]; done), by repeat (first | exact Drawn0.refl _ | apply Drawn0.step)⟩

end Go.Proofs.Ytgjkjndfnjabeaa.X
end

section
/- infix.Both: slices.Concat, slices.Sort, slices.Compact. -/
namespace Go.Proofs.Ytgjkjndfnjabeaa.X
open Go.RowKit Go.Shelf Go.Sort Go.Proofs.YtgjkjndfnjabeaaW.PrintWords Go.Proofs.YtgjkjndfnjabeaaW.PrintLast Go.Proofs.YtgjkjndfnjabeaaW.PrintMore

/-- slices.Grow, at nil. -/
def E.Grown (w : World) (e : Ending) (w' : World) : Prop := ∃ v : Value, e = .returned v ∧ Kd.R (Kd.int .i64) 3 w' w.heap.size (fun _ => True) v [] ∧ Below w.heap.size w w'
set_option maxHeartbeats 1000000 in
theorem E.grow_calls (n : Int) (h0 : 0 ≤ n) (h1 : n ≤ 1000000) (w : World) : Calls Try.prog 58 #[.slice none 0 0, .int .i64 n] w (E.Grown w) := by
  have d1 : decide (n < 0) = false := decide_eq_false (by omega)
  by_cases hn : n = 0
  · subst hn
    go_enter Try.func58, Try.ntmps58
    go_wp2
    go_ret
    exact ⟨_, rfl, Kd.R_nil _ _ _ _ _, Below.refl _ _⟩
  · have d2 : decide (0 < n) = true := decide_eq_true (by omega)
    obtain ⟨i0, hi0, _, hsz, _⟩ := info_parts info3
    have hcut0 := cut_to (P := Try.prog) 22 3 .i64 Try.underlying22 hi0 none 0 0 0 (by omega) (by omega) (by omega)
    go_enter Try.func58, Try.ntmps58
    go_wp2_with (first | ((with_reducible refine gate_builtin (b := .append) (xs := #[.tmp 20, .tmp 21]) rfl ?_); at_builtin; refine Kd.R_append_zeros (Kd.int .i64) (w0 := w) w.heap.size rfl (.tmp 20) (.tmp 21) 22 3 3 (.int .i64 0) 8 rfl Try.underlying22 Try.underlying3 info3 rfl (by decide) (by omega) (.slice none 0 0) ([] : List Int) 0 n (fun _ => True) rfl rfl rfl (fun _ _ => trivial) (Kd.R_nil _ _ _ _ _) h0 ?aB ?aS ?aL ?_; (case aB => exact Below.refl _ _); (case aS => exact Nat.le_refl _); (case aL => simp; omega); intro v1 w1 ho hb1 hg1 hat1; obtain ⟨A1, k1, e1, hle1, _⟩ := Kd.R_reads ho; obtain ⟨q, hq⟩ : ∃ q, ([] ++ List.replicate n.toNat (0 : Int) : List Int).length = q := ⟨_, rfl⟩; rw [hq] at e1 hle1; subst e1; have hcut1 := cut_to (P := Try.prog) 22 3 .i64 Try.underlying22 hi0 A1 q k1 0 (by omega) (by omega) hle1; have HO := Aside0.mk ho; have HB := Aside0.mk hb1; clear ho hb1 hg1 hat1) | fail)
    go_ret
    exact ⟨_, rfl, Kd.R_take (m := 0) HO.out (Nat.zero_le _), HB.out⟩

/-- What is together after so many of two rows. -/
def E.parts (l0 l1 : List Int) : Nat → List Int
  | 0 => []
  | 1 => [] ++ l0
  | _ => ([] ++ l0) ++ l1

theorem E.parts_two (l0 l1 : List Int) : ((E.parts l0 l1 2).length : Int) = (l0.length : Int) + l1.length := by simp [E.parts]

/-- slices.Concat, of two. -/
def E.Joined (W : World) (l : List Int) (e : Ending) (w' : World) : Prop := ∃ v : Value, e = .returned v ∧ Kd.R (Kd.int .i64) 3 w' W.heap.size (fun _ => True) v l ∧ Below W.heap.size W w'
set_option maxHeartbeats 2000000 in
theorem E.concat_calls (b : Nat) (A0 : Option Addr) (c0 : Nat) (l0 : List Int) (A1 : Option Addr) (c1 : Nat) (l1 : List Int) (W : World) (hr0 : Kd.C (Kd.int .i64) W A0 l0.length l0) (hr1 : Kd.C (Kd.int .i64) W A1 l1.length l1) (hl : l0.length + l1.length ≤ 1000000)
    (hb : W.heap[b]? = some (.cells #[.slice A0 l0.length c0, .slice A1 l1.length c1] 22 (0, 0))) :
    Calls Try.prog 50 #[.slice (some ⟨b, 0, none⟩) 2 2] W (E.Joined W (l0 ++ l1)) := by
  have HR0 := Aside0.mk hr0
  have HR1 := Aside0.mk hr1
  have x0 := blk_cell hb 0
  have x1 := blk_cell hb 1
  simp at x0 x1
  have HBK := Aside0.mk hb
  have hgrow := fun w => E.grow_calls ((l0.length : Int) + l1.length) (by omega) (by omega) w
  have HG := Aside0.mk hgrow
  generalize hP : E.Joined W (l0 ++ l1) = Post
  clear hr0 hr1 hb hgrow
  go_enter Try.func50, Try.ntmps50
  go_wp2
  go_loopg [3, 5, 11] 2 (fun kq v3 _ v11 w' => ∃ (k : Nat) (s : Int), v11 = .int .i64 k ∧ v3 = .int .i64 s ∧ s = ((E.parts l0 l1 k).length : Int) ∧ k ≤ 2 ∧ 2 - k ≤ kq ∧ W = w')
  case atStart => exact ⟨0, 0, rfl, rfl, rfl, by omega, by omega, rfl⟩
  case round =>
    obtain ⟨k, s, rfl, rfl, hs, hk, hg, rfl⟩ := hrel
    obtain rfl | rfl | rfl : k = 0 ∨ k = 1 ∨ k = 2 := by omega
    · obtain rfl : s = 0 := hs
      have hw : wrap64 (l0.length : Int) = l0.length := E.wrap_id (by omega) (by omega)
      have hd : decide ((l0.length : Int) < 0) = false := decide_eq_false (by omega)
      go_wp2
      go_roundg 1
      case measure => omega
      case rel => exact ⟨1, _, by go_num, rfl, rfl, by omega, by omega, rfl⟩
    · obtain rfl : s = (l0.length : Int) := hs
      have hw : wrap64 ((l0.length : Int) + l1.length) = (l0.length : Int) + l1.length := E.wrap_id (by omega) (by omega)
      have hd : decide ((l0.length : Int) + l1.length < 0) = false := decide_eq_false (by omega)
      go_wp2
      go_roundg 0
      case measure => omega
      case rel => exact ⟨2, _, by go_num, rfl, (E.parts_two l0 l1).symm, by omega, by omega, rfl⟩
    · have hs2 : s = (l0.length : Int) + l1.length := by rw [hs]; exact E.parts_two l0 l1
      clear hs
      subst hs2
      go_wp2_with (go_at_call 58; refine (HG.out _).mono ?_; rintro e w' ⟨v, rfl, hv, hbv⟩; have HV := Aside0.mk hv; have HBV := Aside0.mk hbv; clear hv hbv)
      clear hg hk
      go_loopg [6, 8, 27] 2 (fun kq v6 _ v27 w' => ∃ (k : Nat) (xs : List Int), v27 = .int .i64 k ∧ xs = E.parts l0 l1 k ∧ k ≤ 2 ∧ 2 - k ≤ kq ∧ Aside0 (Kd.R (Kd.int .i64) 3 w' W.heap.size (fun _ => True) v6 xs) ∧ Aside0 (Below W.heap.size W w'))
      case atStart => exact ⟨0, [], rfl, rfl, by omega, by omega, HV, HBV⟩
      case round =>
        clear HV HBV
        obtain ⟨k, xs, rfl, hxs, hk, hg, HO, HB⟩ := hrel
        have y0 : wr.cell? ⟨b, 0, none⟩ = some (.slice A0 l0.length c0) := by
          have := blk_cell (blk_below HBK.out HB.out) 0
          simpa using this
        have y1 : wr.cell? ⟨b, 1, none⟩ = some (.slice A1 l1.length c1) := by
          have := blk_cell (blk_below HBK.out HB.out) 1
          simpa using this
        obtain rfl | rfl | rfl : k = 0 ∨ k = 1 ∨ k = 2 := by omega
        · have hx2 : xs = ([] : List Int) := hxs
          clear hxs
          subst hx2
          have cb : decide ((0 : Int) < 2) = true := by decide
          go_wp2_with (first | ((with_reducible refine gate_builtin (b := .append) (xs := #[.tmp 31, .tmp 32]) rfl ?_); at_builtin; refine Kd.R_append_rows (Kd.int .i64) (w0 := W) W.heap.size rfl (.tmp 31) (.tmp 32) 22 3 (.int .i64 0) 8 rfl Try.underlying22 info3 rfl (by decide) (by omega) u6 (([] : List Int)) l0 _ _ _ (fun _ => True) (fun _ => False) rfl rfl HO.out ?aR (fun _ _ h => h) (fun _ h => h.elim) (fun _ _ => trivial) HB.out ?aS ?aL ?_; (case aR => exact Kd.C_below HR0.out HB.out); (case aS => exact HB.out.size); (case aL => simp; omega); intro v1 w1 ho hb1 hg1 hat1; have HO1 := Aside0.mk ho; have HB1 := Aside0.mk hb1; clear ho hb1 hg1 hat1) | fail)
          go_roundg (1 - 0)
          case measure => omega
          case rel => exact ⟨0 + 1, _, by go_num, rfl, by omega, by omega, HO1, HB1⟩
        · have hx2 : xs = ([] ++ l0) := hxs
          rw [hx2] at HO
          clear hxs hx2
          have cb : decide ((1 : Int) < 2) = true := by decide
          go_wp2_with (first | ((with_reducible refine gate_builtin (b := .append) (xs := #[.tmp 31, .tmp 32]) rfl ?_); at_builtin; refine Kd.R_append_rows (Kd.int .i64) (w0 := W) W.heap.size rfl (.tmp 31) (.tmp 32) 22 3 (.int .i64 0) 8 rfl Try.underlying22 info3 rfl (by decide) (by omega) u6 (([] ++ l0)) l1 _ _ _ (fun _ => True) (fun _ => False) rfl rfl HO.out ?aR (fun _ _ h => h) (fun _ h => h.elim) (fun _ _ => trivial) HB.out ?aS ?aL ?_; (case aR => exact Kd.C_below HR1.out HB.out); (case aS => exact HB.out.size); (case aL => simp; omega); intro v1 w1 ho hb1 hg1 hat1; have HO1 := Aside0.mk ho; have HB1 := Aside0.mk hb1; clear ho hb1 hg1 hat1) | fail)
          go_roundg (1 - 1)
          case measure => omega
          case rel => exact ⟨1 + 1, _, by go_num, rfl, by omega, by omega, HO1, HB1⟩
        · have hx2 : xs = l0 ++ l1 := hxs
          clear hxs
          subst hx2
          go_wp2
          subst hP
          exact ⟨_, rfl, HO.out, HB.out⟩

/-- infix.union -/
def E.Both (w : World) (l : List Int) (e : Ending) (w' : World) : Prop := ∃ v : Value, e = .returned v ∧ Kd.R (Kd.int .i64) 3 w' w.heap.size (fun _ => True) v l ∧ Below w.heap.size w w'

/-- slices.Sort, of a row of the call's own. -/
def E.SortedRow (w : World) (base : Nat) (v : Value) (xs : List Int) (e : Ending) (w' : World) : Prop :=
  e = .returned (.tuple #[]) ∧ w'.ownsRow base 3 1 v xs.length ((xs.mergeSort fun x y => decide (x ≤ y)).map (Value.int .i64)) ∧ ∀ w0, Below base w0 w → Below base w0 w'
theorem E.sort_own (v : Value) (base : Nat) (xs : List Int) (w : World) (h : w.ownsRow base 3 1 v xs.length (xs.map (Value.int .i64))) (hl : xs.length ≤ 1000000) : Calls Try.prog 47 #[v] w (E.SortedRow w base v xs) := by
  by_cases hnn : v = .slice none 0 0
  · subst hnn
    have hx : xs = [] := by
      rcases h.2 with ⟨_, e⟩ | ⟨g, cap, cur, e, _⟩
      · exact List.eq_nil_of_length_eq_zero e
      · cases e
    subst hx
    have hs : Calls Try.prog 47 #[.slice none 0 0] w fun e w' => e = .returned (.tuple #[]) ∧ w' = w := AnyM.slices_Sort_int_none Try.sortA none 0 w
    exact hs.mono fun e w' ⟨he, hw⟩ => ⟨he, by rw [hw]; simpa using h, fun w0 hb => by rw [hw]; exact hb⟩
  · obtain ⟨g, cap, rfl, hbg, hgl, hncap, hcm, _, hH⟩ := Lib.holds_of_ownsRow (enc := Value.int .i64) (zs := xs) h hnn
    have hs : Calls Try.prog 47 #[.slice (some ⟨g, 0, none⟩) xs.length cap] w fun e w' => e = .returned (.tuple #[]) ∧ ∃ n os, w' = grow (putRow (Value.int .i64) (Sort.ahead w n) g 0 (xs.mergeSort fun x y => decide (x ≤ y)).toArray) os := AnyM.slices_Sort_int Try.sortA g 0 cap xs w hH hgl (by omega)
    refine hs.mono ?_
    rintro e w' ⟨rfl, n, os, rfl⟩
    rcases h.2 with ⟨h0, _⟩ | ⟨g', cap', cur, hv, hbase, hb, h1, h2, h3, h4⟩
    · cases h0
    cases hv
    exact ⟨rfl, ownsRow_sortedI (by simp) hbase hb h1 h2 h3, fun w0 hb0 => hb0.grown (grownBy_sortedI _) (by omega) (fun j hj => by cases hj; exact hbase)⟩

/-- slices.Compact, of a row of the call's own. -/
def E.Compacted (w : World) (base : Nat) (xs : List Int) (e : Ending) (w' : World) : Prop :=
  ∃ v' : Value, e = .returned v' ∧ w'.ownsRow base 3 1 v' (Lib.compact xs).length ((Lib.compact xs).map (Value.int .i64)) ∧ ∀ w0, Below base w0 w → Below base w0 w'
theorem E.compact_own (v : Value) (base : Nat) (xs : List Int) (w : World) (h : w.ownsRow base 3 1 v xs.length (xs.map (Value.int .i64))) (hl : xs.length ≤ 1000000) : Calls Try.prog 51 #[v] w (E.Compacted w base xs) := by
  by_cases hnn : v = .slice none 0 0
  · subst hnn
    have hx : xs = [] := by
      rcases h.2 with ⟨_, e⟩ | ⟨g, cap, cur, e, _⟩
      · exact List.eq_nil_of_length_eq_zero e
      · cases e
    subst hx
    have hs : Calls Try.prog 51 #[.slice none 0 0] w fun e w' => e = .returned (.slice none 0 0) ∧ w' = w := AnyG.slices_Compact_int_empty Try.compactA none 0 w
    exact hs.mono fun e w' ⟨he, hw⟩ => ⟨_, he, by rw [hw]; exact h, fun w0 hb => by rw [hw]; exact hb⟩
  · obtain ⟨g, cap, rfl, hbg, hgl, hncap, hcm, _, hH⟩ := Lib.holds_of_ownsRow (enc := Value.int .i64) (zs := xs) h hnn
    have hs : Calls Try.prog 51 #[.slice (some ⟨g, 0, none⟩) xs.length cap] w fun e w' => e = .returned (.slice (some ⟨g, 0, none⟩) (Lib.compact xs).length cap) ∧ ∃ q, w' = putRow (Value.int .i64) (Sort.ahead w q) g 0 (Lib.compact xs ++ List.replicate (xs.length - (Lib.compact xs).length) 0).toArray := AnyG.slices_Compact_int Try.compactA g 0 cap xs w hH (by omega) hncap
    refine hs.mono ?_
    rintro e w' ⟨rfl, q, rfl⟩
    have hle := Lib.compact_length_le xs
    have hc := Lib.ownsRow_putRow (q := q) (k := (Lib.compact xs).length) (ys := Lib.compact xs ++ List.replicate (xs.length - (Lib.compact xs).length) 0) h (by simp; omega) hle
    rw [List.take_left] at hc
    exact ⟨_, rfl, hc, fun w0 hb0 => Lib.below_putRow hb0 hbg⟩

set_option maxHeartbeats 2000000 in
theorem E.union_calls (A0 : Option Addr) (c0 : Nat) (l0 : List Int) (A1 : Option Addr) (c1 : Nat) (l1 : List Int) (w : World) (hr0 : Kd.C (Kd.int .i64) w A0 l0.length l0) (hr1 : Kd.C (Kd.int .i64) w A1 l1.length l1) (hl : l0.length + l1.length ≤ 1000000) :
    Calls Try.prog 38 #[.slice A0 l0.length c0, .slice A1 l1.length c1] w (E.Both w (S.bothL l0 l1)) := by
  have hcc : Calls Try.prog 50 #[.slice (some ⟨w.heap.size, 0, none⟩) 2 2] (w.alloc (.cells #[.slice A0 l0.length c0, .slice A1 l1.length c1] 22)) (E.Joined (w.alloc (.cells #[.slice A0 l0.length c0, .slice A1 l1.length c1] 22)) (l0 ++ l1)) :=
    E.concat_calls w.heap.size A0 c0 l0 A1 c1 l1 _ (Kd.C_alloc hr0 _) (Kd.C_alloc hr1 _) hl (blk_new _ _)
  have HCC := Aside0.mk hcc
  generalize hP : E.Both w (S.bothL l0 l1) = Post
  clear hr0 hr1 hcc
  go_enter Try.func38, Try.ntmps38
  go_wp2_with (first
    | (go_at_call 50; refine HCC.out.mono ?_; rintro e w' ⟨v, rfl, hv, hbv⟩; have HV := Aside0.mk (Kd.own_of_R hv); have HBV := Aside0.mk hbv; clear hv hbv)
    | (go_at_call 47; refine (E.sort_own _ _ _ _ HV.out (by simp; omega)).mono ?_; rintro e w2 ⟨rfl, ho2, hb2⟩; have HO2 := Aside0.mk ho2; have HB2 := Aside0.mk (hb2 _ HBV.out); clear ho2 hb2)
    | (go_at_call 51; refine (E.compact_own _ _ ((l0 ++ l1).mergeSort fun x y => decide (x ≤ y)) _ (by rw [List.length_mergeSort]; exact HO2.out) (by rw [List.length_mergeSort]; simp; omega)).mono ?_; rintro e w3 ⟨v3, rfl, ho3, hb3⟩; have HO3 := Aside0.mk ho3; have HB3 := Aside0.mk (hb3 _ HB2.out); clear ho3 hb3)
    | fail)
  subst hP
  refine ⟨v3, rfl, Kd.R_lower (Kd.R_of_own HO3.out (fun _ _ => trivial)) (by simp), below_then (below_alloc (Below.refl _ _) _) (by simp) HB3.out⟩

/-- infix.Both -/
theorem E.both_calls (A0 : Option Addr) (c0 : Nat) (l0 : List Int) (A1 : Option Addr) (c1 : Nat) (l1 : List Int) (w : World) (hr0 : Kd.C (Kd.int .i64) w A0 l0.length l0) (_hc0 : l0.length ≤ c0) (hr1 : Kd.C (Kd.int .i64) w A1 l1.length l1) (_hc1 : l1.length ≤ c1) (hl : l0.length + l1.length ≤ 1000000) :
    Calls Try.prog 19 #[.slice A0 l0.length c0, .slice A1 l1.length c1] w fun e w' => ∃ v : Value, e = .returned v ∧ Kd.R (Kd.int .i64) 3 w' w.heap.size (fun _ => True) v (S.bothL l0 l1) ∧ Below w.heap.size w w' := by
  have hu := E.union_calls A0 c0 l0 A1 c1 l1 w hr0 hr1 hl
  have HU := Aside0.mk hu
  clear hu hr0 hr1
  change Calls _ _ _ _ (E.Both w (S.bothL l0 l1))
  generalize hP : E.Both w (S.bothL l0 l1) = Post
  go_enter Try.func19, Try.ntmps19
  go_wp2_with (go_at_call 38; refine HU.out.mono ?_; intro e w' hp; have HP := Aside0.mk hp; obtain ⟨v, rfl, _, _⟩ := hp)
  subst hP
  exact HP.out

end Go.Proofs.Ytgjkjndfnjabeaa.X
end

section
-- By this session's own program (wip/tools/xprint.py), over the kit's print. Not trusted: Lean checks it.
namespace Go.Proofs.Ytgjkjndfnjabeaa.X
open Go.RowKit Go.Proofs.YtgjkjndfnjabeaaW.PrintWords Go.Proofs.YtgjkjndfnjabeaaW.PrintLast Go.Proofs.YtgjkjndfnjabeaaW.PrintMore
attribute [local go_sem] max2_int min2_int max_two min_two max_three min_three max_four min_four   -- for this text's walks alone
set_option linter.unusedVariables false
set_option linter.unusedSimpArgs false

/-! ### infix_Both: function 19 -/
-- EXT YtgjkjndfnjabeaaE9
def infix_Both.f (l0 : List Int) (l1 : List Int) : Option (List Int) := if l0.length + l1.length ≤ 1000000 then some (S.bothL l0 l1) else none
theorem infix_Both.calls (A0 : Option Addr) (c0 : Nat) (l0 : List Int) (A1 : Option Addr) (c1 : Nat) (l1 : List Int) (r : List Int) (w : World) (hr0 : Kd.C (Kd.int .i64) w A0 l0.length l0) (hc0 : l0.length ≤ c0) (hr1 : Kd.C (Kd.int .i64) w A1 l1.length l1) (hc1 : l1.length ≤ c1) (h : infix_Both.f l0 l1 = some r) :
    Calls Try.prog 19 #[.slice A0 l0.length c0, .slice A1 l1.length c1] w fun e w' => ∃ v0_ : Value, e = .returned (v0_) ∧ Kd.R (Kd.int .i64) 3 w' w.heap.size (fun _ => True) v0_ r ∧ Below w.heap.size w w' := by
  unfold infix_Both.f at h
  split at h
  · rename_i hb; obtain rfl := Option.some.inj h; exact E.both_calls A0 c0 l0 A1 c1 l1 w hr0 hc0 hr1 hc1 hb
  · cases h


end Go.Proofs.Ytgjkjndfnjabeaa.X
end

section
/- slices.Max. -/
namespace Go.Proofs.Ytgjkjndfnjabeaa.X
open Go.RowKit Go.Proofs.YtgjkjndfnjabeaaW.PrintWords Go.Proofs.YtgjkjndfnjabeaaW.PrintLast Go.Proofs.YtgjkjndfnjabeaaW.PrintMore

theorem S.maxL_snoc {l : List Int} {k : Nat} (h0 : 0 < k) (hk : k < l.length) : S.maxL (l.take (k + 1)) = if S.maxL (l.take k) < rd l k then rd l k else S.maxL (l.take k) := by
  rw [rd_get hk]
  cases l with
  | nil => simp at hk
  | cons x t =>
    obtain ⟨k, rfl⟩ : ∃ m, k = m + 1 := ⟨k - 1, by omega⟩
    have hk' : k < t.length := by simpa using hk
    have e : (x :: t).take (k + 1 + 1) = x :: (t.take k ++ [t[k]]) := by rw [List.take_succ_cons, List.take_succ_eq_append_getElem hk']
    rw [e, List.take_succ_cons]
    show List.foldl _ x (t.take k ++ _) = _
    rw [List.foldl_append]
    rfl

set_option maxHeartbeats 1000000 in
theorem E.max_calls (A0 : Option Addr) (c0 : Nat) (l0 : List Int) (w : World) (hr0 : Kd.C (Kd.int .i64) w A0 l0.length l0) (_hc0 : l0.length ≤ c0) (h0 : 0 < l0.length) (h1 : l0.length ≤ 1000000) :
    Calls Try.prog 40 #[.slice A0 l0.length c0] w fun e w' => e = .returned (.int .i64 (S.maxL l0)) ∧ Drawn0 w w' := by
  have HR0 := Aside0.mk hr0
  have b1 : decide ((l0.length : Int) < 1) = false := by rw [decide_eq_false_iff_not]; omega
  obtain ⟨ad, e1, hx⟩ := Kd.at_int HR0.out 0 (by omega) (by omega)
  cases e1
  rw [Int.toNat_zero, Addr.add_zero'] at hx
  have e0 : S.maxL (l0.take 1) = rd l0 0 := by
    cases l0 with
    | nil => simp at h0
    | cons x t => rfl
  clear hr0
  go_enter Try.func40, Try.ntmps40
  go_wp2
  go_loopg [3, 4] l0.length (fun kq v3 v4 w' => ∃ k : Nat, v4 = .int .i64 k ∧ v3 = .int .i64 (S.maxL (l0.take k)) ∧ 1 ≤ k ∧ k ≤ l0.length ∧ l0.length - k ≤ kq ∧ Drawn0 w w')
  case atStart => exact ⟨1, rfl, by rw [e0], Nat.le_refl _, by omega, by omega, Drawn0.refl _⟩
  case round =>
    obtain ⟨k, rfl, rfl, hk0, hk, hg, ⟨m1, rfl⟩⟩ := hrel
    by_cases hlt : k < l0.length
    · have hltz : (k : Int) < (l0.length : Int) := by omega
      have p1 : 0 ≤ (k : Int) := by omega
      have cb : decide ((k : Int) < (l0.length : Int)) = true := by simpa using hltz
      obtain ⟨ad2, e2, hx2⟩ := Kd.at_int HR0.out k p1 hltz
      cases e2
      rw [Int.toNat_natCast] at hx2
      have hs := S.maxL_snoc hk0 hlt
      generalize rd l0 k = y at hx2 hs
      have hmax : max (S.maxL (l0.take k)) y = S.maxL (l0.take (k + 1)) := by
        rw [hs]
        split <;> omega
      have HM := Aside0.mk hmax
      clear hmax
      have hs_ := hs.symm
      clear hs
      go_wp2
      go_roundg (l0.length - (k + 1))
      case measure => omega
      case rel => exact ⟨k + 1, by go_num, (by first | rfl | rw [HM.out]), by omega, by omega, by omega, by repeat (first | exact Drawn0.refl _ | apply Drawn0.step)⟩
    · have hltz : ¬ (k : Int) < (l0.length : Int) := by omega
      have cb : decide ((k : Int) < (l0.length : Int)) = false := by simpa using hltz
      obtain rfl : k = l0.length := by omega
      go_wp2
      go_ret
      exact ⟨rfl, by repeat (first | exact Drawn0.refl _ | apply Drawn0.step)⟩

end Go.Proofs.Ytgjkjndfnjabeaa.X
end

section
-- By this session's own program (wip/tools/xprint.py), over the kit's print. Not trusted: Lean checks it.
namespace Go.Proofs.Ytgjkjndfnjabeaa.X
open Go.RowKit Go.Proofs.YtgjkjndfnjabeaaW.PrintWords Go.Proofs.YtgjkjndfnjabeaaW.PrintLast Go.Proofs.YtgjkjndfnjabeaaW.PrintMore
attribute [local go_sem] max2_int min2_int max_two min_two max_three min_three max_four min_four   -- for this text's walks alone
set_option linter.unusedVariables false
set_option linter.unusedSimpArgs false

/-! ### slices_Max_int_int: function 40 -/
-- EXT YtgjkjndfnjabeaaE10
def slices_Max_int_int.f (l0 : List Int) : Option (Int) := if 0 < l0.length ∧ l0.length ≤ 1000000 then some (S.maxL l0) else none
theorem slices_Max_int_int.calls (A0 : Option Addr) (c0 : Nat) (l0 : List Int) (r : Int) (w : World) (hr0 : Kd.C (Kd.int .i64) w A0 l0.length l0) (hc0 : l0.length ≤ c0) (h : slices_Max_int_int.f l0 = some r) :
    Calls Try.prog 40 #[.slice A0 l0.length c0] w fun e w' => e = .returned (.int .i64 r) ∧ Drawn0 w w' := by
  unfold slices_Max_int_int.f at h
  split at h
  · rename_i hb; obtain rfl := Option.some.inj h; exact E.max_calls A0 c0 l0 w hr0 hc0 hb.1 hb.2
  · cases h


end Go.Proofs.Ytgjkjndfnjabeaa.X
end
