/- infix.Follow, and what it calls. -/
import Derived.Test.YtgjkjndfnjabeaaE1
import Derived.Test.YtgjkjndfnjabeaaE0
import Derived.Test.YtgjkjndfnjabeaaE3
import Derived.Test.YtgjkjndfnjabeaaS3
import Derived.Test.YtgjkjndfnjabeaaShelf
import Derived.Test.YtgjkjndfnjabeaaXinfixback
import Derived.Lib.OwnBridge
import Derived.RangeFuncNested
import Derived.WalkMore
namespace Go.Proofs.Ytgjkjndfnjabeaa.X
open Go.RowKit Go.Shelf Go.Sort Go.Proofs.YtgjkjndfnjabeaaW.PrintWords Go.Proofs.YtgjkjndfnjabeaaW.PrintLast Go.Proofs.YtgjkjndfnjabeaaW.PrintMore

theorem E.back_l0 (l : List Int) (n : Int) (hl : l.length ≤ 1000000) (h0 : n ≤ rd l 0) : ∀ (i k : Nat), i < l.length → i < k → infix_back.l0 k l n i = some (S.backN l n (i + 1)) := by
  intro i
  induction i with
  | zero =>
    intro k hi hk
    obtain ⟨k, rfl⟩ : ∃ m, k = m + 1 := ⟨k - 1, by omega⟩
    simp only [infix_back.l0, S.backN]
    rw [show ((0 : Nat) : Int) = 0 from rfl, if_neg (show ¬(0 < n ∧ rd l 0 < n) from by omega)]
    by_cases hn : n > 0
    · rw [if_pos hn, if_pos (by omega), if_pos (by omega), if_neg (by omega)]
    · rw [if_neg hn]
  | succ i ih =>
    intro k hi hk
    obtain ⟨k, rfl⟩ : ∃ m, k = m + 1 := ⟨k - 1, by omega⟩
    have ih := ih k (by omega) (by omega)
    simp only [infix_back.l0]
    rw [S.backN]
    by_cases hn : n > 0
    · rw [if_pos hn, if_pos (by omega), if_pos (by omega)]
      by_cases hr : rd l ((i + 1 : Nat) : Int) < n
      · rw [if_pos hr, if_pos ⟨hn, hr⟩, show wrap64 (((i + 1 : Nat) : Int) - 1) = (i : Int) from by rw [E.wrap_id (by omega) (by omega)]; omega]
        exact ih
      · rw [if_neg hr, if_neg (fun h => hr h.2)]
    · rw [if_neg hn, if_neg (fun h => hn h.1)]
theorem E.back_f (l : List Int) (n : Int) (hl : l.length ≤ 200) (h0 : n ≤ rd l 0) (i : Int) (h1 : 1 ≤ i) (h2 : i ≤ l.length) (k : Nat) (hk : 300 < k) : infix_back.f k l i n = some (S.backN l n i.toNat) := by
  unfold infix_back.f
  obtain ⟨j, rfl⟩ : ∃ j : Nat, i = ((j + 1 : Nat) : Int) := ⟨(i - 1).toNat, by omega⟩
  rw [show wrap64 (((j + 1 : Nat) : Int) - 1) = (j : Int) from by rw [E.wrap_id (by omega) (by omega)]; omega]
  exact E.back_l0 l n (by omega) h0 j k (by omega) (by omega)

theorem E.quietD {P : Program} {f : FuncId} {args : Array Value} {w : World} {n : Nat} {v : Value} (h : Calls P f args (w.drewN n) fun e w' => e = .returned v ∧ Drawn0 (w.drewN n) w') :
    Calls P f args (w.drewN n) fun e w'' => e = .returned v ∧ ∃ m, w'' = w.drewN m := Calls.quiet_of (h.mono (by rintro e w' ⟨rfl, ⟨m, rfl⟩⟩; exact ⟨rfl, m, rfl⟩))

/-- What stands at a place of Follow's: the walk's record, and its own list. -/
def E.Wk (l : List Int) (A0 : Option Addr) (c0 : Nat) (w0 : World) (B : Nat) (a n : Int) (xs : List Int) (W : World) : Prop :=
  ∃ v : Value, W.heap[B]? = some (.cells #[.slice A0 l.length c0, .int .i64 a, .int .i64 n, v] 48 (0, 0)) ∧ Kd.R (Kd.int .i64) 3 W w0.heap.size (fun k => k ≠ B) v xs ∧ Below w0.heap.size w0 W ∧ w0.heap.size ≤ B

/-- One step, where it is not too far. -/
def E.StepYes (l : List Int) (A0 : Option Addr) (c0 : Nat) (w0 : World) (B : Nat) (n x : Int) (xs : List Int) (e : Ending) (W : World) : Prop := e = .returned (.bool true) ∧ E.Wk l A0 c0 w0 B x n (xs ++ [x]) W
def E.StepNo (l : List Int) (A0 : Option Addr) (c0 : Nat) (w0 : World) (B : Nat) (a n : Int) (xs : List Int) (e : Ending) (W : World) : Prop := e = .returned (.bool false) ∧ E.Wk l A0 c0 w0 B a n xs W

set_option maxHeartbeats 1000000 in
theorem E.step_no (A0 : Option Addr) (c0 : Nat) (l : List Int) (w0 W : World) (B : Nat) (a n lo : Int) (xs : List Int) (hr0 : Kd.C (Kd.int .i64) w0 A0 l.length l) (hc0 : l.length ≤ c0) (hl : l.length ≤ 200) (h31 : n ≤ rd l 0) (ha : 1 ≤ a) (ha1 : a ≤ l.length)
    (hx : S.backN l n a.toNat < lo) (h : E.Wk l A0 c0 w0 B a n xs W) :
    Calls Try.prog 35 #[.pointer (some ⟨B, 0, none⟩), .int .i64 lo] W (E.StepNo l A0 c0 w0 B a n xs) := by
  obtain ⟨v, hb, hR, hB, hw⟩ := h
  have hf := E.back_f l n hl h31 a ha ha1 301 (by omega)
  generalize S.backN l n a.toNat = x at hf hx
  have HC := Aside0.mk (Kd.C_below hr0 hB)
  have HC0 := Aside0.mk hc0
  have HF := Aside0.mk hf
  have c1 := blk_cell hb 0
  have c2 := blk_cell hb 1
  have c3 := blk_cell hb 2
  have HW : Aside0 (∀ m, E.Wk l A0 c0 w0 B a n xs (W.drewN m)) := ⟨fun m => ⟨v, blk_drewN hb m, Kd.R_drewN hR m, pw_below_drewN hB m, hw⟩⟩
  have cx : decide (x < lo) = true := decide_eq_true hx
  simp at c1 c2 c3
  generalize hP : E.StepNo l A0 c0 w0 B a n xs = Post
  clear hr0 hc0 hf hb hR hB
  go_enter Try.func35, Try.ntmps35
  go_wp2
  go_quiet (first | (go_at_call 41; exact E.quietD (v := .int .i64 x) (infix_back.calls 301 _ _ _ _ _ _ _ (Kd.C_drewN HC.out _) HC0.out HF.out)))
  go_wp2
  subst hP
  exact ⟨rfl, HW.out _⟩

set_option maxHeartbeats 1000000 in
theorem E.step_yes (A0 : Option Addr) (c0 : Nat) (l : List Int) (w0 W : World) (B : Nat) (a n lo : Int) (xs : List Int) (hr0 : Kd.C (Kd.int .i64) w0 A0 l.length l) (hc0 : l.length ≤ c0) (hl : l.length ≤ 200) (h31 : n ≤ rd l 0) (ha : 1 ≤ a) (ha1 : a ≤ l.length)
    (hx : ¬ S.backN l n a.toNat < lo) (hxs : xs.length ≤ 1000) (h : E.Wk l A0 c0 w0 B a n xs W) :
    Calls Try.prog 35 #[.pointer (some ⟨B, 0, none⟩), .int .i64 lo] W (E.StepYes l A0 c0 w0 B n (S.backN l n a.toNat) xs) := by
  obtain ⟨v, hb, hR, hB, hw⟩ := h
  have hf := E.back_f l n hl h31 a ha ha1 301 (by omega)
  generalize S.backN l n a.toNat = x at hf hx
  have HC := Aside0.mk (Kd.C_below hr0 hB)
  have HC0 := Aside0.mk hc0
  have HF := Aside0.mk hf
  have c1 := blk_cell hb 0
  have c2 := blk_cell hb 1
  have c3 := blk_cell hb 2
  have c4 := blk_cell hb 3
  have hlt := blk_lt hb
  have HBK := Aside0.mk hb
  have HR := Aside0.mk hR
  have HB := Aside0.mk hB
  have cx : decide (x < lo) = false := decide_eq_false hx
  simp at c1 c2 c3 c4
  generalize hP : E.StepYes l A0 c0 w0 B n x xs = Post
  clear hr0 hc0 hf hb hR hB
  go_enter Try.func35, Try.ntmps35
  go_wp2
  go_quiet (first | (go_at_call 41; exact E.quietD (v := .int .i64 x) (infix_back.calls 301 _ _ _ _ _ _ _ (Kd.C_drewN HC.out _) HC0.out HF.out)))
  go_wp2_with (first | ((with_reducible refine gate_builtin (b := .append) (xs := #[.tmp 26, .tmp 28]) rfl ?_); at_builtin; refine Kd.R_append (Kd.int .i64) (w0 := w0) w0.heap.size rfl (.tmp 26) (.tmp 28) 22 3 (.int .i64 0) 8 rfl Try.underlying22 info3 rfl (by decide) (by omega) v xs x [.int .i64 x] (fun k => k ≠ B) (fun _ => False) rfl rfl ?aP (fun _ hk => hk.elim) ?aF ?aO ?aB ?aS ?aL ?_; (case aP => exact rfl); (case aF => exact (fun k hk => by simp at hk; omega)); (case aO => exact (Kd.R_drewN HR.out _)); (case aB => exact (pw_below_drewN HB.out _)); (case aS => exact (by have := HB.out.size; simpa using this)); (case aL => omega); intro v1 w1 ho hb1 hg1 hat1; obtain ⟨A1, k1, e1, _, _⟩ := Kd.R_reads ho; obtain ⟨q, hq⟩ : ∃ q, (xs ++ [x]).length = q := ⟨_, rfl⟩; rw [hq] at e1; subst e1; have hne : some B ≠ v.ownBlock := fun e => HR.out.1 B e.symm rfl; have hbk1 := blk_grown (blk_drewN HBK.out _) hg1 hne; have f3 := blk_frozen hbk1 3; have d3 := blk_cell hbk1 3; have hbk2 := blk_put hbk1 3 (.slice A1 q k1) rfl; have f1 := blk_frozen hbk2 1; have d1 := blk_cell hbk2 1; have HO := Aside0.mk ho; have HB1 := Aside0.mk hb1; have HK := Aside0.mk hbk1; simp at d3 d1; clear ho hb1 hg1 hat1 hbk1 hbk2) | fail)
  subst hP
  refine ⟨rfl, .slice A1 q k1, ?_, ?_, ?_, hw⟩
  · exact blk_put (blk_put HK.out 3 (.slice A1 q k1) rfl) 1 (.int .i64 x) rfl
  · exact Kd.R_far (Kd.R_far HO.out (fun k hk => hk) _) (fun k hk => hk) _
  · exact below_set (below_set HB1.out hw) hw

/-- infix.Follow, where there is no way. -/
theorem E.follow_bad (A0 : Option Addr) (c0 : Nat) (l : List Int) (hi lo : Int) (w : World) (hr0 : Kd.C (Kd.int .i64) w A0 l.length l) (hc0 : l.length ≤ c0) (hok : ¬(S.mayB l = true ∧ 0 ≤ lo ∧ lo ≤ hi ∧ hi < l.length)) :
    Calls Try.prog 16 #[.slice A0 l.length c0, .int .i64 hi, .int .i64 lo] w fun e w' => e = .returned (.tuple #[.slice none 0 0, .bool false]) ∧ Below w.heap.size w w' := by
  have HR0 := Aside0.mk hr0
  have HC0 := Aside0.mk hc0
  clear hr0 hc0
  have hmay := fun w hr => E.may_calls A0 c0 l w hr HC0.out
  cases hm : S.mayB l with
  | false =>
    rw [hm] at hmay
    have HM := Aside0.mk hmay
    clear hmay
    go_enter Try.func16, Try.ntmps16
    go_wp2
    go_step3
    go_wp2_with (go_at_call 25; refine (HM.out _ HR0.out).mono ?_; rintro e w' ⟨rfl, ⟨m, rfl⟩⟩)
    (try rw [Exit.noGoto_ret])
    go_ret2
    exact ⟨rfl, pw_below_drewN (Below.refl _ _) _⟩
  | true =>
    rw [hm] at hmay
    have HM := Aside0.mk hmay
    clear hmay
    by_cases h1 : lo < 0
    · have d1 : decide (lo < 0) = true := decide_eq_true h1
      go_enter Try.func16, Try.ntmps16
      go_wp2
      go_step3
      go_wp2_with (go_at_call 25; refine (HM.out _ HR0.out).mono ?_; rintro e w' ⟨rfl, ⟨m, rfl⟩⟩)
      (try rw [Exit.noGoto_ret])
      go_ret2
      exact ⟨rfl, pw_below_drewN (Below.refl _ _) _⟩
    · have d1 : decide (lo < 0) = false := decide_eq_false h1
      by_cases h2 : hi < lo
      · have d2 : decide (hi < lo) = true := decide_eq_true h2
        go_enter Try.func16, Try.ntmps16
        go_wp2
        go_step3
        go_wp2_with (go_at_call 25; refine (HM.out _ HR0.out).mono ?_; rintro e w' ⟨rfl, ⟨m, rfl⟩⟩)
        (try rw [Exit.noGoto_ret])
        go_ret2
        exact ⟨rfl, pw_below_drewN (Below.refl _ _) _⟩
      · have d2 : decide (hi < lo) = false := decide_eq_false h2
        have d3 : decide ((l.length : Int) ≤ hi) = true := decide_eq_true (by
          by_cases h3 : (l.length : Int) ≤ hi
          · exact h3
          · exact absurd ⟨hm, by omega, by omega, by omega⟩ hok)
        go_enter Try.func16, Try.ntmps16
        go_wp2
        go_step3
        go_wp2_with (go_at_call 25; refine (HM.out _ HR0.out).mono ?_; rintro e w' ⟨rfl, ⟨m, rfl⟩⟩)
        (try rw [Exit.noGoto_ret])
        go_ret2
        exact ⟨rfl, pw_below_drewN (Below.refl _ _) _⟩

/-- What stands ahead of a round of Follow's. -/
def E.FolJ (l : List Int) (A0 : Option Addr) (c0 : Nat) (w0 : World) (B : Nat) (hi lo : Int) (kq : Nat) (W : World) : Prop :=
  ∃ (a n : Int) (xs : List Int), lo ≤ a ∧ a ≤ hi ∧ 0 ≤ n ∧ n ≤ 31 ∧ (∀ y : Int, lo ≤ y → y < a → rd l y ≤ n) ∧ xs.reverse = S.wayTo l hi lo a ∧ a - lo + n ≤ kq ∧ E.Wk l A0 c0 w0 B a n xs W

set_option maxHeartbeats 2000000 in
theorem E.follow_ok (A0 : Option Addr) (c0 : Nat) (l : List Int) (hi lo : Int) (w : World) (hr0 : Kd.C (Kd.int .i64) w A0 l.length l) (hc0 : l.length ≤ c0) (hok : S.mayB l = true ∧ 0 ≤ lo ∧ lo ≤ hi ∧ hi < l.length) :
    Calls Try.prog 16 #[.slice A0 l.length c0, .int .i64 hi, .int .i64 lo] w fun e w' => ∃ v : Value, e = .returned (.tuple #[v, .bool true]) ∧ Kd.R (Kd.int .i64) 3 w' w.heap.size (fun _ => True) v (S.wayL l hi lo) ∧ Below w.heap.size w w' := by
  obtain ⟨hm, h0, h1, h2⟩ := hok
  obtain ⟨_, hl, h31, hlv⟩ := S.mayB_parts hm
  have HR0 := Aside0.mk hr0
  have HC0 := Aside0.mk hc0
  have HLV := Aside0.mk hlv
  have hmay := fun w hr => E.may_calls A0 c0 l w hr hc0
  rw [hm] at hmay
  have HM := Aside0.mk hmay
  have d1 : decide (lo < 0) = false := decide_eq_false (by omega)
  have d2 : decide (hi < lo) = false := decide_eq_false (by omega)
  have d3 : decide ((l.length : Int) ≤ hi) = false := decide_eq_false (by omega)
  clear hmay hr0 hc0 hlv
  go_enter Try.func16, Try.ntmps16
  go_wp2
  go_step3
  go_wp2_with (go_at_call 25; refine (HM.out _ HR0.out).mono ?_; rintro e w' ⟨rfl, ⟨m, rfl⟩⟩)
  go_step3
  go_wp2
  have hstart : E.FolJ l A0 c0 w (w.heap.size + 1) hi lo (hi - lo + 31).toNat (((w.drewN m).alloc (.cells #[.int .i64 hi] 3)).alloc (.cells #[.slice A0 l.length c0, .int .i64 hi, .int .i64 31, .slice (some ⟨w.heap.size, 0, none⟩) 1 1] 48)) := by
    refine ⟨hi, 31, [hi], h1, Int.le_refl _, by omega, by omega, fun y a b => (HLV.out y (by omega) (by omega)).2, by rw [S.way_start h0 h2]; rfl, by omega, .slice (some ⟨w.heap.size, 0, none⟩) 1 1, ?_, ?_, ?_, by omega⟩
    · have := blk_new ((w.drewN m).alloc (.cells #[.int .i64 hi] 3)) (.cells #[.slice A0 l.length c0, .int .i64 hi, .int .i64 31, .slice (some ⟨w.heap.size, 0, none⟩) 1 1] 48)
      simpa using this
    · have h := own_lit_of (enc := Value.int .i64) (w.drewN m) w.heap.size 3 [hi] (by simp) (by simp)
      rw [show (encs (Value.int .i64) [hi]).toArray = #[.int .i64 hi] from rfl] at h
      refine Kd.R_alloc (Kd.R_of_own (by simpa using h) (fun k hk => ?_)) _
      cases hk
      simp
    · exact below_alloc (below_alloc (pw_below_drewN (Below.refl _ _) _) _) _
  go_loopg [] (hi - lo + 31).toNat (fun kq W => Aside0 (E.FolJ l A0 c0 w (w.heap.size + 1) hi lo kq W))
  case atStart => exact ⟨hstart⟩
  case round =>
    clear hstart
    obtain ⟨⟨a, n, xs, j1, j2, j3, j4, j5, j6, j7, j8⟩⟩ := hrel
    have hlen : xs.length ≤ 1000 := by
      have e := congrArg List.length j6
      rw [List.length_reverse] at e
      have := S.wayTo_len l hi lo a
      omega
    have HJ := Aside0.mk j8
    have H5 := Aside0.mk j5
    have H6 := Aside0.mk j6
    obtain ⟨v, hb, hR, hB, hw⟩ := j8
    have c2 := blk_cell hb 1
    have c4 := blk_cell hb 3
    simp at c2 c4
    clear j5 j6
    by_cases hal : a = lo
    · have hnn : v ≠ .slice none 0 0 := fun e => by
        subst e
        obtain ⟨A1, k1, e1, _, _⟩ := Kd.R_reads hR
        injection e1 with _ e2 _
        have h6 := H6.out
        rw [List.eq_nil_of_length_eq_zero e2.symm] at h6
        have := (S.wayTo_mem (l := l) (hi := hi) (lo := lo) (x := a) (y := hi)).2 ⟨(S.wayL_mem h0 h2).2 (.inl rfl), j2⟩
        rw [← h6] at this
        simp at this
      have hown := Kd.own_of_R hR
      obtain ⟨g, cap, e1, hbg, hgl, hncap, hcm, _, hH⟩ := Lib.holds_of_ownsRow (enc := Value.int .i64) (zs := xs) hown hnn
      subst e1
      have hne : g ≠ w.heap.size + 1 := hR.1 g rfl
      have hrev : Calls Try.prog 36 #[.slice (some ⟨g, 0, none⟩) xs.length cap] wr fun e w' => e = .returned (.tuple #[]) ∧ ∃ n, w' = putRow (Value.int .i64) (Sort.ahead wr n) g 0 xs.reverse.toArray := AnyG.slices_Reverse_int Try.reverseA g 0 cap xs wr hH (by omega)
      have hput : ∀ q, (putRow (Value.int .i64) (Sort.ahead wr q) g 0 xs.reverse.toArray).heap[w.heap.size + 1]? = wr.heap[w.heap.size + 1]? := fun q => by simp [putRow, mapBlock, Sort.ahead, Array.getElem?_modify, hne]
      have HV := Aside0.mk hrev
      have HP := Aside0.mk hput
      have HO := Aside0.mk hown
      have HB := Aside0.mk hB
      have HBK := Aside0.mk hb
      clear hrev hput hown hb hR hB hH
      subst hal
      go_wp2_with (go_at_call 36; refine HV.out.mono ?_; rintro e w' ⟨rfl, q, rfl⟩; have hb2 := (HP.out q).trans HBK.out; have ho2 := Lib.ownsRow_putRow (q := q) (k := xs.length) (ys := xs.reverse) HO.out (by simp) (Nat.le_refl _); have hb3 := Lib.below_putRow (enc := Value.int .i64) (q := q) (d := xs.reverse.toArray) HB.out hbg; generalize putRow (Value.int .i64) (Sort.ahead wr q) g 0 xs.reverse.toArray = w2 at hb2 ho2 hb3 ⊢; have c5 := blk_cell hb2 3; simp at c5; have HO2 := Aside0.mk ho2; have HB3 := Aside0.mk hb3; clear hb2 ho2 hb3)
      (try rw [Exit.noGoto_ret])
      go_ret2
      have ho := HO2.out
      rw [List.take_of_length_le (by simp), H6.out, S.way_end h0 h2 h1] at ho
      have hlw : (S.wayL l hi a).length = xs.length := by rw [← S.way_end h0 h2 h1, ← H6.out, List.length_reverse]
      exact ⟨_, rfl, Kd.R_of_own (by rw [hlw]; exact ho) (fun _ _ => trivial), HB3.out⟩
    · have cb : (a == lo) = false := beq_eq_false_iff_ne.mpr hal
      have hbk := S.backN_is (l := l) (n := n) (by omega) a.toNat (by omega)
      clear hb hR hB c4
      by_cases hx : S.backN l n a.toNat < lo
      · go_wp2_with (go_at_call 35; refine (E.step_no A0 c0 l w _ (w.heap.size + 1) a n lo xs HR0.out HC0.out hl (by omega) (by omega) (by omega) hx HJ.out).mono ?_; rintro e w' ⟨rfl, hwk⟩; have HK := Aside0.mk hwk; obtain ⟨v', hb', hR', hB', _⟩ := hwk; have c3 := blk_cell hb' 2; have f3 := blk_frozen hb' 2; simp at c3; clear hb' hR' hB')
        go_roundg (a - lo + (n - 1)).toNat
        case measure => omega
        case rel =>
          obtain ⟨v', hb', hR', hB', _⟩ := HK.out
          have hn : 1 ≤ n := by
            by_cases e : n = 0
            · have := hbk.2.2.1 (by omega); omega
            · omega
          exact ⟨a, n - 1, xs, j1, j2, by omega, by omega, fun y y1 y2 => by have := hbk.2.2.2.2 y (by omega) (by omega); omega, H6.out, by omega, v', blk_put hb' 2 _ rfl, Kd.R_far hR' (fun k hk => hk) _, below_set hB' (by omega), hw⟩
      · generalize hxx : S.backN l n a.toNat = x at *
        have hyes := E.step_yes A0 c0 l w wr (w.heap.size + 1) a n lo xs HR0.out HC0.out hl (by omega) (by omega) (by omega) (by rw [hxx]; exact hx) hlen HJ.out
        rw [hxx] at hyes
        have HY := Aside0.mk hyes
        clear hyes
        go_wp2_with (go_at_call 35; refine HY.out.mono ?_; rintro e w' ⟨rfl, hwk⟩; have HK := Aside0.mk hwk; clear hwk)
        go_roundg (x - lo + n).toNat
        case measure => omega
        case rel =>
          have hrx : rd l x ≤ n := H5.out x (by omega) (by omega)
          have hrn : n ≤ rd l x := by
            by_cases e : n = 0
            · have := (HLV.out x (by omega) (by omega)).1; omega
            · exact hbk.2.2.2.1 (by omega)
          refine ⟨⟨x, n, xs ++ [x], by omega, by omega, j3, j4, fun y y1 y2 => H5.out y y1 (by omega), ?_, by omega, HK.out⟩⟩
          rw [List.reverse_append, H6.out]
          exact (S.way_step h0 h2 (by omega) (by omega) j2 (by omega) (fun y y1 y2 => by have := H5.out y y1 (by omega); omega) (fun y y1 y2 => by have := hbk.2.2.2.2 y y1 (by omega); omega)).symm

theorem E.follow_calls (A0 : Option Addr) (c0 : Nat) (l : List Int) (hi lo : Int) (w : World) (hr0 : Kd.C (Kd.int .i64) w A0 l.length l) (hc0 : l.length ≤ c0) :
    Calls Try.prog 16 #[.slice A0 l.length c0, .int .i64 hi, .int .i64 lo] w fun e w' => ∃ v : Value, e = .returned (.tuple #[v, .bool (S.followZ l hi lo).2]) ∧ Kd.R (Kd.int .i64) 3 w' w.heap.size (fun _ => True) v (S.followZ l hi lo).1 ∧ Below w.heap.size w w' := by
  by_cases hok : S.mayB l = true ∧ 0 ≤ lo ∧ lo ≤ hi ∧ hi < l.length
  · have e1 : S.followZ l hi lo = (S.wayL l hi lo, true) := by unfold S.followZ; rw [if_pos hok]
    rw [e1]
    exact E.follow_ok A0 c0 l hi lo w hr0 hc0 hok
  · have e1 : S.followZ l hi lo = ([], false) := by unfold S.followZ; rw [if_neg hok]
    rw [e1]
    exact (E.follow_bad A0 c0 l hi lo w hr0 hc0 hok).mono fun e w' h => ⟨_, h.1, Kd.R_nil _ _ _ _ _, h.2⟩

end Go.Proofs.Ytgjkjndfnjabeaa.X
