/- good.Fair and good.Good. -/
import Derived.Test.YtgjkjndfnjabeaaE6
import Derived.Test.YtgjkjndfnjabeaaE3
import Derived.Test.YtgjkjndfnjabeaaXgoodCount
import Derived.Test.YtgjkjndfnjabeaaE0
namespace Go.Proofs.Ytgjkjndfnjabeaa.X
open Go.RowKit Go.Shelf Go.Proofs.YtgjkjndfnjabeaaW.PrintWords Go.Proofs.YtgjkjndfnjabeaaW.PrintLast Go.Proofs.YtgjkjndfnjabeaaW.PrintMore

theorem E.shift_small {mn : Int} {k : Nat} (h0 : 0 ≤ mn) (h1 : mn ≤ 1000000) (hk : k ≤ 32) : wrap64 (mn * 2 ^ k) = mn * 2 ^ k := by
  have h2 : (2 : Nat) ^ k ≤ 2 ^ 32 := Nat.pow_le_pow_right (by omega) hk
  have h3 : ((2 : Int) ^ k) = ((2 ^ k : Nat) : Int) := by rw [Int.natCast_pow]; rfl
  have h4 : (0 : Int) ≤ 2 ^ k := by rw [h3]; exact Int.natCast_nonneg _
  have h5 : ((2 : Int) ^ k) ≤ 4294967296 := by rw [h3]; exact Int.ofNat_le.2 h2
  have h6 : mn * 2 ^ k ≤ 1000000 * 4294967296 := Int.mul_le_mul h1 h5 h4 (by omega)
  have h7 : 0 ≤ mn * 2 ^ k := Int.mul_nonneg h0 h4
  generalize mn * 2 ^ k = z at *
  unfold wrap64
  omega

set_option maxHeartbeats 1000000 in
theorem E.fair1_calls (pl mn n : Int) (A0 : Option Addr) (n0 c0 Bn Bv : Nat) (W : World) (hn : Boxed W Bn 3 (.int .i64 n)) (hv : Boxed W Bv 22 (.slice A0 n0 c0)) (h0 : 0 ≤ n) (h1 : n ≤ 31) (hp : 0 ≤ pl) (hp1 : pl < n0) (hm : 0 ≤ mn) (hm1 : mn ≤ 1000000) (hn0 : n0 ≤ 1000000) :
    Calls Try.prog 45 #[.int .i64 pl, .int .i64 mn, .pointer (some ⟨Bn, 0, none⟩), .pointer (some ⟨Bv, 0, none⟩)] W fun e W' => e = .returned (.bool (decide ((n0 : Int) - pl < mn * 2 ^ (n + 1).toNat))) ∧ Drawn0 W W' := by
  have c1 := hn.cell
  have c2 := hv.cell
  clear hn hv
  rw [← E.shift_small hm hm1 (show (n + 1).toNat ≤ 32 by omega)]
  go_enter Try.func45, Try.ntmps45
  go_wp2
  go_quiet (fail)
  go_wp2
  go_ret
  exact ⟨rfl, ⟨_, rfl⟩⟩

theorem E.count_f (l : List Int) (i n : Int) (hl : l.length ≤ 200) : good_Count.f 300 l i n = some (S.cntZ l i n) := by
  unfold good_Count.f
  rw [E.up_f l i _ n (by omega) 300 (by omega)]
  rfl

set_option maxHeartbeats 1000000 in
theorem E.good1_calls (pl mn n : Int) (A0 : Option Addr) (c0 Bn Bv : Nat) (l : List Int) (W : World) (hn : Boxed W Bn 3 (.int .i64 n)) (hv : Boxed W Bv 22 (.slice A0 l.length c0)) (hC : Kd.C (Kd.int .i64) W A0 l.length l) (hc0 : l.length ≤ c0) (hl : l.length ≤ 200) (hm : 0 ≤ mn) (hm1 : mn ≤ 1000000) :
    Calls Try.prog 33 #[.int .i64 pl, .int .i64 mn, .pointer (some ⟨Bv, 0, none⟩), .pointer (some ⟨Bn, 0, none⟩)] W fun e W' => e = .returned (.bool (decide (S.cntZ l pl n < 4 * mn))) ∧ Below W.heap.size W W' := by
  have c1 := hn.cell
  have c2 := hv.cell
  have HC := Aside0.mk hC
  have HC0 := Aside0.mk hc0
  have HF := Aside0.mk (E.count_f l pl n hl)
  clear hn hv hC hc0
  go_enter Try.func33, Try.ntmps33
  go_wp2_with (first | (go_at_call 14; refine (good_Count.calls 300 _ _ _ _ _ _ _ HC.out HC0.out HF.out).mono ?_; rintro e w' ⟨rfl, hB⟩; have HB := Aside0.mk hB; clear hB) | fail)
  go_ret
  exact ⟨rfl, HB.out⟩

/-- What good.all goes by is the plain count. -/
theorem S.allEls_is (l : List Int) (n m : Int) (is : Int → Int → Bool) : S.allEls l n m is = S.allB l n m is := by
  have hlen : ∀ j : Nat, j < (S.upZ l 0 (l.length : Int) n).length → S.cntZ l (rd (S.upZ l 0 (l.length : Int) n) j) n = ((S.upZ l 0 (l.length : Int) n).length : Int) - j := by
    intro j hj
    have hm := S.rd_mem (a := S.upZ l 0 (l.length : Int) n) (i := j) (by omega) (by omega)
    have h0 := (S.upZ_mem.1 hm).1
    have e1 : S.upZ l (rd (S.upZ l 0 (l.length : Int) n) j) (l.length : Int) n = (S.upZ l 0 (l.length : Int) n).filter fun y => decide (rd (S.upZ l 0 (l.length : Int) n) j ≤ y) := S.upZ_filter l h0 _ _
    have e2 : S.mthLast (S.upZ l 0 (l.length : Int) n) (((S.upZ l 0 (l.length : Int) n).length : Int) - j) = rd (S.upZ l 0 (l.length : Int) n) j := by
      unfold S.mthLast
      rw [if_pos (by omega)]
      congr 1
      omega
    have e3 := S.mthLast_count (S.upZ_up l 0 (l.length : Int) n) (m := ((S.upZ l 0 (l.length : Int) n).length : Int) - j) (by omega) (by omega)
    rw [e2] at e3
    unfold S.cntZ
    rw [e1]
    exact e3
  rw [Bool.eq_iff_iff]
  unfold S.allEls S.allB
  rw [List.all_eq_true, List.all_eq_true]
  constructor
  · intro h x hx
    obtain ⟨j, hj, rfl⟩ := List.getElem_of_mem hx
    have hq := hlen j hj
    rw [rd_get hj] at hq
    have hg := S.endEls_get (l := l) (n := n) (k := (S.upZ l 0 (l.length : Int) n).length - 1 - j) (by omega)
    have := h _ (List.mem_of_getElem? hg)
    unfold S.elOk at this
    simp only at this
    rw [show ((S.upZ l 0 (l.length : Int) n).length : Int) - 1 - (((S.upZ l 0 (l.length : Int) n).length - 1 - j : Nat) : Int) = (j : Int) from by omega, rd_get hj,
      show (((S.upZ l 0 (l.length : Int) n).length - 1 - j : Nat) : Int) + 1 = ((S.upZ l 0 (l.length : Int) n).length : Int) - j from by omega, ← hq] at this
    exact this
  · intro h x hx
    obtain ⟨k, hk, rfl⟩ := List.getElem_of_mem hx
    rw [S.endEls_len] at hk
    have hg := S.endEls_get hk
    rw [List.getElem?_eq_getElem (by rw [S.endEls_len]; exact hk)] at hg
    rw [Option.some.inj hg]
    unfold S.elOk
    simp only
    have hj : (S.upZ l 0 (l.length : Int) n).length - 1 - k < (S.upZ l 0 (l.length : Int) n).length := by omega
    have hq := hlen _ hj
    rw [show (((S.upZ l 0 (l.length : Int) n).length - 1 - k : Nat) : Int) = ((S.upZ l 0 (l.length : Int) n).length : Int) - 1 - k from by omega] at hq
    have := h _ (S.rd_mem (a := S.upZ l 0 (l.length : Int) n) (i := ((S.upZ l 0 (l.length : Int) n).length : Int) - 1 - k) (by omega) (by omega))
    rw [hq, show ((S.upZ l 0 (l.length : Int) n).length : Int) - (((S.upZ l 0 (l.length : Int) n).length : Int) - 1 - k) = (k : Int) + 1 from by omega] at this
    exact this
theorem S.endEls_range {l : List Int} {n : Int} {x : Int × Int} (h : x ∈ S.endEls l n) : 0 ≤ x.1 ∧ x.1 < l.length ∧ 1 ≤ x.2 ∧ x.2 ≤ l.length := by
  obtain ⟨k, hk, rfl⟩ := List.getElem_of_mem h
  rw [S.endEls_len] at hk
  have hg := S.endEls_get hk
  rw [List.getElem?_eq_getElem (by rw [S.endEls_len]; exact hk)] at hg
  rw [Option.some.inj hg]
  have hu : (S.upZ l 0 (l.length : Int) n).length ≤ l.length := by rw [← S.cntAt_all]; exact S.cntAt_le _ _ _
  have := S.upZ_mem.1 (S.rd_mem (a := S.upZ l 0 (l.length : Int) n) (i := ((S.upZ l 0 (l.length : Int) n).length : Int) - 1 - k) (by omega) (by omega))
  simp only
  omega

set_option maxHeartbeats 1000000 in
theorem E.fair_ok (A0 : Option Addr) (c0 : Nat) (l : List Int) (n m : Int) (w : World) (hr0 : Kd.C (Kd.int .i64) w A0 l.length l) (hc0 : l.length ≤ c0) (hmay : S.mayB l = true) (h0 : 0 ≤ n) (h1 : n ≤ 31) (h2 : 1 ≤ m) :
    Calls Try.prog 26 #[.slice A0 l.length c0, .int .i64 n, .int .i64 m] w fun e w' => e = .returned (.bool (S.allB l n m fun i c => decide ((l.length : Int) - i < c * 2 ^ (n + 1).toNat))) ∧ Below w.heap.size w w' := by
  obtain ⟨_, p1, _, _⟩ := S.mayB_parts hmay
  have HR0 := Aside0.mk hr0
  have HC0 := Aside0.mk hc0
  have HM := Aside0.mk hmay
  clear hr0 hc0 hmay
  have b0 : decide (n < 0) = false := by rw [decide_eq_false_iff_not]; omega
  have b1 : decide (31 < n) = false := by rw [decide_eq_false_iff_not]; omega
  have b2 : decide (m < 1) = false := by rw [decide_eq_false_iff_not]; omega
  go_enter Try.func26, Try.ntmps26
  go_wp2_with (first | (go_at_call 25; refine (E.may_calls _ _ _ _ (Kd.C_alloc (Kd.C_alloc HR0.out _) _) HC0.out).mono ?_; rw [HM.out]; rintro e w' ⟨rfl, ⟨nd, rfl⟩⟩) | fail)
  have hb0 : Below w.heap.size w (((w.alloc (.cells #[.slice A0 l.length c0] 22)).alloc (.cells #[.int .i64 n] 3)).drewN nd) := pw_below_drewN (below_alloc (below_alloc (Below.refl _ _) _) _) _
  have bv : Boxed (((w.alloc (.cells #[.slice A0 l.length c0] 22)).alloc (.cells #[.int .i64 n] 3)).drewN nd) w.heap.size 22 (.slice A0 l.length c0) := (Boxed.new w 22 (.slice A0 l.length c0)).alloc (.cells #[.int .i64 n] 3)
  have bn : Boxed (((w.alloc (.cells #[.slice A0 l.length c0] 22)).alloc (.cells #[.int .i64 n] 3)).drewN nd) (w.heap.size + 1) 3 (.int .i64 n) := by
    have := Boxed.new (w.alloc (.cells #[.slice A0 l.length c0] 22)) 3 (.int .i64 n)
    rw [World.size_alloc] at this
    exact this
  refine (E.all_calls 45 #[.pointer (some ⟨w.heap.size + 1, 0, none⟩), .pointer (some ⟨w.heap.size, 0, none⟩)] (enters_of Try.func45 (by kernel_rfl) rfl) (fun i c => decide ((l.length : Int) - i < c * 2 ^ (n + 1).toNat)) A0 c0 l n m _ (Kd.C_below HR0.out hb0) ?_).mono ?_
  · intro x W hx hB
    have hxr := S.endEls_range hx
    refine (E.fair1_calls x.1 x.2 n A0 l.length c0 (w.heap.size + 1) w.heap.size W (E.boxBelow bn hB (by simp)) (E.boxBelow bv hB (by simp; omega)) h0 h1 hxr.1 hxr.2.1 (by omega) (by omega) (by omega)).mono ?_
    rintro e W' ⟨rfl, hd⟩
    exact ⟨rfl, hd.below⟩
  · rintro e w1 ⟨rfl, hB⟩
    have HB := Aside0.mk (below_then hb0 hb0.size hB)
    clear hb0 bv bn hB
    rw [S.allEls_is]
    go_wp2
    go_ret
    exact ⟨rfl, HB.out⟩

theorem E.fair_bad0 (A0 : Option Addr) (c0 : Nat) (l : List Int) (n m : Int) (w : World) (hr0 : Kd.C (Kd.int .i64) w A0 l.length l) (hc0 : l.length ≤ c0) (hmay : S.mayB l = false) :
    Calls Try.prog 26 #[.slice A0 l.length c0, .int .i64 n, .int .i64 m] w fun e w' => e = .returned (.bool false) ∧ Below w.heap.size w w' := by
  have HR0 := Aside0.mk hr0
  have HC0 := Aside0.mk hc0
  have HM := Aside0.mk hmay
  clear hr0 hc0 hmay
  go_enter Try.func26, Try.ntmps26
  go_wp2_with (go_at_call 25; refine (E.may_calls _ _ _ _ (Kd.C_alloc (Kd.C_alloc HR0.out _) _) HC0.out).mono ?_; rw [HM.out]; rintro e w' ⟨rfl, ⟨nd, rfl⟩⟩)
  go_ret
  exact ⟨rfl, pw_below_drewN (below_alloc (below_alloc (Below.refl _ _) _) _) _⟩
theorem E.fair_bad1 (A0 : Option Addr) (c0 : Nat) (l : List Int) (n m : Int) (w : World) (hr0 : Kd.C (Kd.int .i64) w A0 l.length l) (hc0 : l.length ≤ c0) (hmay : S.mayB l = true) (h0 : n < 0) :
    Calls Try.prog 26 #[.slice A0 l.length c0, .int .i64 n, .int .i64 m] w fun e w' => e = .returned (.bool false) ∧ Below w.heap.size w w' := by
  have HR0 := Aside0.mk hr0
  have HC0 := Aside0.mk hc0
  have HM := Aside0.mk hmay
  clear hr0 hc0 hmay
  have b0 : decide (n < 0) = true := by rw [decide_eq_true_eq]; omega
  go_enter Try.func26, Try.ntmps26
  go_wp2_with (go_at_call 25; refine (E.may_calls _ _ _ _ (Kd.C_alloc (Kd.C_alloc HR0.out _) _) HC0.out).mono ?_; rw [HM.out]; rintro e w' ⟨rfl, ⟨nd, rfl⟩⟩)
  go_ret
  exact ⟨rfl, pw_below_drewN (below_alloc (below_alloc (Below.refl _ _) _) _) _⟩
theorem E.fair_bad2 (A0 : Option Addr) (c0 : Nat) (l : List Int) (n m : Int) (w : World) (hr0 : Kd.C (Kd.int .i64) w A0 l.length l) (hc0 : l.length ≤ c0) (hmay : S.mayB l = true) (_h0 : 0 ≤ n) (h1 : 31 < n) :
    Calls Try.prog 26 #[.slice A0 l.length c0, .int .i64 n, .int .i64 m] w fun e w' => e = .returned (.bool false) ∧ Below w.heap.size w w' := by
  have HR0 := Aside0.mk hr0
  have HC0 := Aside0.mk hc0
  have HM := Aside0.mk hmay
  clear hr0 hc0 hmay
  have b0 : decide (n < 0) = false := by rw [decide_eq_false_iff_not]; omega
  have b1 : decide (31 < n) = true := by rw [decide_eq_true_eq]; omega
  go_enter Try.func26, Try.ntmps26
  go_wp2_with (go_at_call 25; refine (E.may_calls _ _ _ _ (Kd.C_alloc (Kd.C_alloc HR0.out _) _) HC0.out).mono ?_; rw [HM.out]; rintro e w' ⟨rfl, ⟨nd, rfl⟩⟩)
  go_ret
  exact ⟨rfl, pw_below_drewN (below_alloc (below_alloc (Below.refl _ _) _) _) _⟩
theorem E.fair_bad3 (A0 : Option Addr) (c0 : Nat) (l : List Int) (n m : Int) (w : World) (hr0 : Kd.C (Kd.int .i64) w A0 l.length l) (hc0 : l.length ≤ c0) (hmay : S.mayB l = true) (h0 : 0 ≤ n) (h1 : n ≤ 31) (h2 : m < 1) :
    Calls Try.prog 26 #[.slice A0 l.length c0, .int .i64 n, .int .i64 m] w fun e w' => e = .returned (.bool false) ∧ Below w.heap.size w w' := by
  have HR0 := Aside0.mk hr0
  have HC0 := Aside0.mk hc0
  have HM := Aside0.mk hmay
  clear hr0 hc0 hmay
  have b0 : decide (n < 0) = false := by rw [decide_eq_false_iff_not]; omega
  have b1 : decide (31 < n) = false := by rw [decide_eq_false_iff_not]; omega
  have b2 : decide (m < 1) = true := by rw [decide_eq_true_eq]; omega
  go_enter Try.func26, Try.ntmps26
  go_wp2_with (go_at_call 25; refine (E.may_calls _ _ _ _ (Kd.C_alloc (Kd.C_alloc HR0.out _) _) HC0.out).mono ?_; rw [HM.out]; rintro e w' ⟨rfl, ⟨nd, rfl⟩⟩)
  go_ret
  exact ⟨rfl, pw_below_drewN (below_alloc (below_alloc (Below.refl _ _) _) _) _⟩

theorem E.fair_calls (A0 : Option Addr) (c0 : Nat) (l : List Int) (n m : Int) (w : World) (hr0 : Kd.C (Kd.int .i64) w A0 l.length l) (hc0 : l.length ≤ c0) :
    Calls Try.prog 26 #[.slice A0 l.length c0, .int .i64 n, .int .i64 m] w fun e w' => e = .returned (.bool (S.fairB l n m)) ∧ Below w.heap.size w w' := by
  cases hmay : S.mayB l with
  | false =>
    rw [show S.fairB l n m = false from by unfold S.fairB; rw [hmay]; rfl]
    exact E.fair_bad0 A0 c0 l n m w hr0 hc0 hmay
  | true =>
    by_cases h0 : n < 0
    · rw [show S.fairB l n m = false from by unfold S.fairB; rw [hmay, show decide (0 ≤ n) = false from by rw [decide_eq_false_iff_not]; omega]; rfl]
      exact E.fair_bad1 A0 c0 l n m w hr0 hc0 hmay h0
    · by_cases h1 : 31 < n
      · rw [show S.fairB l n m = false from by unfold S.fairB; rw [hmay, show decide (n ≤ 31) = false from by rw [decide_eq_false_iff_not]; omega]; simp]
        exact E.fair_bad2 A0 c0 l n m w hr0 hc0 hmay (by omega) h1
      · by_cases h2 : m < 1
        · rw [show S.fairB l n m = false from by unfold S.fairB; rw [hmay, show decide (1 ≤ m) = false from by rw [decide_eq_false_iff_not]; omega]; simp]
          exact E.fair_bad3 A0 c0 l n m w hr0 hc0 hmay (by omega) (by omega) h2
        · rw [show S.fairB l n m = S.allB l n m fun i c => decide ((l.length : Int) - i < c * 2 ^ (n + 1).toNat) from by
            unfold S.fairB
            rw [hmay, show decide (0 ≤ n) = true from by rw [decide_eq_true_eq]; omega, show decide (n ≤ 31) = true from by rw [decide_eq_true_eq]; omega, show decide (1 ≤ m) = true from by rw [decide_eq_true_eq]; omega]
            rfl]
          exact E.fair_ok A0 c0 l n m w hr0 hc0 hmay (by omega) (by omega) (by omega)

/-- Each level, up to the n-th. -/
def S.goodTo (l : List Int) (m : Int) (n : Nat) : Bool := (List.range n).all fun n => S.allB l ((n : Int) + 1) m fun i c => decide (S.cntZ l i n < 4 * c)
theorem S.goodTo_succ (l : List Int) (m : Int) (n : Nat) : S.goodTo l m (n + 1) = (S.goodTo l m n && S.allB l ((n : Int) + 1) m fun i c => decide (S.cntZ l i n < 4 * c)) := by
  unfold S.goodTo
  rw [List.range_succ, List.all_append]
  simp
theorem S.goodTo_false {l : List Int} {m : Int} {n k : Nat} (hk : n < k) (h : (S.allB l ((n : Int) + 1) m fun i c => decide (S.cntZ l i n < 4 * c)) = false) : S.goodTo l m k = false := by
  unfold S.goodTo
  rw [List.all_eq_false]
  exact ⟨n, List.mem_range.2 hk, by rw [h]; simp⟩

theorem E.good_bad0 (A0 : Option Addr) (c0 : Nat) (l : List Int) (m : Int) (w : World) (hr0 : Kd.C (Kd.int .i64) w A0 l.length l) (hc0 : l.length ≤ c0) (hmay : S.mayB l = false) :
    Calls Try.prog 13 #[.slice A0 l.length c0, .int .i64 m] w fun e w' => e = .returned (.bool false) ∧ Below w.heap.size w w' := by
  have HR0 := Aside0.mk hr0
  have HC0 := Aside0.mk hc0
  have HM := Aside0.mk hmay
  clear hr0 hc0 hmay
  go_enter Try.func13, Try.ntmps13
  go_wp2_with (go_at_call 25; refine (E.may_calls _ _ _ _ (Kd.C_alloc HR0.out _) HC0.out).mono ?_; rw [HM.out]; rintro e w' ⟨rfl, ⟨nd, rfl⟩⟩)
  go_ret
  exact ⟨rfl, pw_below_drewN (below_alloc (Below.refl _ _) _) _⟩
theorem E.good_bad1 (A0 : Option Addr) (c0 : Nat) (l : List Int) (m : Int) (w : World) (hr0 : Kd.C (Kd.int .i64) w A0 l.length l) (hc0 : l.length ≤ c0) (hmay : S.mayB l = true) (h : m < 1) :
    Calls Try.prog 13 #[.slice A0 l.length c0, .int .i64 m] w fun e w' => e = .returned (.bool false) ∧ Below w.heap.size w w' := by
  have HR0 := Aside0.mk hr0
  have HC0 := Aside0.mk hc0
  have HM := Aside0.mk hmay
  clear hr0 hc0 hmay
  have b0 : decide (m < 1) = true := by rw [decide_eq_true_eq]; omega
  go_enter Try.func13, Try.ntmps13
  go_wp2_with (go_at_call 25; refine (E.may_calls _ _ _ _ (Kd.C_alloc HR0.out _) HC0.out).mono ?_; rw [HM.out]; rintro e w' ⟨rfl, ⟨nd, rfl⟩⟩)
  go_ret
  exact ⟨rfl, pw_below_drewN (below_alloc (Below.refl _ _) _) _⟩

set_option maxHeartbeats 2000000 in
theorem E.good_ok (A0 : Option Addr) (c0 : Nat) (l : List Int) (m : Int) (w : World) (hr0 : Kd.C (Kd.int .i64) w A0 l.length l) (hc0 : l.length ≤ c0) (hmay : S.mayB l = true) (h : 1 ≤ m) :
    Calls Try.prog 13 #[.slice A0 l.length c0, .int .i64 m] w fun e w' => e = .returned (.bool (S.goodTo l m 31)) ∧ Below w.heap.size w w' := by
  obtain ⟨_, p1, _, _⟩ := S.mayB_parts hmay
  have HR0 := Aside0.mk hr0
  have HC0 := Aside0.mk hc0
  have HM := Aside0.mk hmay
  clear hr0 hc0 hmay
  generalize hres : S.goodTo l m 31 = res
  have HRES := Aside0.mk hres
  clear hres
  have b0 : decide (m < 1) = false := by rw [decide_eq_false_iff_not]; omega
  go_enter Try.func13, Try.ntmps13
  go_wp2_with (go_at_call 25; refine (E.may_calls _ _ _ _ (Kd.C_alloc HR0.out _) HC0.out).mono ?_; rw [HM.out]; rintro e w' ⟨rfl, ⟨nd, rfl⟩⟩)
  have hB0 : Below w.heap.size w ((w.alloc (.cells #[.slice A0 l.length c0] 22)).drewN nd) := pw_below_drewN (below_alloc (Below.refl _ _) _) _
  have hV0 : Boxed ((w.alloc (.cells #[.slice A0 l.length c0] 22)).drewN nd) w.heap.size 22 (.slice A0 l.length c0) := Boxed.new w 22 (.slice A0 l.length c0)
  have HB0 := Aside0.mk hB0
  have HV0 := Aside0.mk hV0
  clear hB0 hV0
  go_loopg [5, 13] 31 (fun kq _ v13 w' => ∃ k : Nat, v13 = .int .i64 k ∧ k ≤ 31 ∧ 31 - k ≤ kq ∧ Aside0 (S.goodTo l m k = true) ∧ Aside0 (Below w.heap.size w w') ∧ Aside0 (Boxed w' w.heap.size 22 (.slice A0 l.length c0)))
  case atStart => exact ⟨0, rfl, by omega, by omega, ⟨rfl⟩, HB0, HV0⟩
  case round =>
    obtain ⟨k, rfl, hk, hg, HT, HB, HV⟩ := hrel
    clear HB0 HV0
    by_cases hlt : k < 31
    · have cb : decide ((k : Int) < 31) = true := by rw [decide_eq_true_eq]; omega
      have cv : ∀ o, (wr.alloc o).cell? ⟨w.heap.size, 0, none⟩ = some (.slice A0 l.length c0) := fun o => (HV.out.alloc o).cell
      have bk := Boxed.new wr 3 (.int .i64 (k : Int))
      have bv := HV.out.alloc (.cells #[.int .i64 (k : Int)] 3)
      have hB1 := below_alloc HB.out (.cells #[.int .i64 (k : Int)] 3)
      have hwr := HB.out.size
      have BK := Aside0.mk bk
      have BV := Aside0.mk bv
      have HB1 := Aside0.mk hB1
      clear bk bv hB1
      cases hok : S.allB l ((k : Int) + 1) m fun i c => decide (S.cntZ l i k < 4 * c) with
      | true =>
        have HOK := Aside0.mk hok
        clear hok
        go_wp2_with fail
        refine (E.all_calls 33 #[.pointer (some ⟨w.heap.size, 0, none⟩), .pointer (some ⟨wr.heap.size, 0, none⟩)] (enters_of Try.func33 (by kernel_rfl) rfl) (fun i c => decide (S.cntZ l i k < 4 * c)) A0 c0 l ((k : Int) + 1) m _ (Kd.C_below HR0.out HB1.out) ?_).mono ?_
        · intro x W hx hB
          have hxr := S.endEls_range hx
          refine (E.good1_calls x.1 x.2 k A0 c0 wr.heap.size w.heap.size l W (E.boxBelow BK.out hB (by simp)) (E.boxBelow BV.out hB (by simp; omega)) (Kd.C_below HR0.out (below_then HB1.out HB1.out.size hB)) HC0.out p1 (by omega) (by omega)).mono ?_
          rintro e W' ⟨rfl, hd⟩
          exact ⟨rfl, hd⟩
        rw [S.allEls_is, HOK.out]
        rintro e w1 ⟨rfl, hB⟩
        have HB2 := Aside0.mk (below_then HB1.out HB1.out.size hB)
        have HV2 := Aside0.mk (E.boxBelow BV.out hB (by simp; omega))
        clear hB
        go_wp2
        go_roundg (30 - k)
        case measure => omega
        case rel => exact ⟨k + 1, by go_num, by omega, by omega, ⟨by rw [S.goodTo_succ, HT.out, HOK.out]; rfl⟩, HB2, HV2⟩
      | false =>
        have HOK := Aside0.mk hok
        clear hok
        go_wp2_with fail
        refine (E.all_calls 33 #[.pointer (some ⟨w.heap.size, 0, none⟩), .pointer (some ⟨wr.heap.size, 0, none⟩)] (enters_of Try.func33 (by kernel_rfl) rfl) (fun i c => decide (S.cntZ l i k < 4 * c)) A0 c0 l ((k : Int) + 1) m _ (Kd.C_below HR0.out HB1.out) ?_).mono ?_
        · intro x W hx hB
          have hxr := S.endEls_range hx
          refine (E.good1_calls x.1 x.2 k A0 c0 wr.heap.size w.heap.size l W (E.boxBelow BK.out hB (by simp)) (E.boxBelow BV.out hB (by simp; omega)) (Kd.C_below HR0.out (below_then HB1.out HB1.out.size hB)) HC0.out p1 (by omega) (by omega)).mono ?_
          rintro e W' ⟨rfl, hd⟩
          exact ⟨rfl, hd⟩
        rw [S.allEls_is, HOK.out]
        rintro e w1 ⟨rfl, hB⟩
        have HB2 := Aside0.mk (below_then HB1.out HB1.out.size hB)
        have HV2 := Aside0.mk (E.boxBelow BV.out hB (by simp; omega))
        clear hB
        go_wp2
        go_ret
        exact ⟨by rw [← HRES.out, S.goodTo_false hlt HOK.out]; rfl, HB2.out⟩
    · obtain rfl : k = 31 := by omega
      go_wp2
      go_ret
      exact ⟨by rw [← HRES.out, HT.out]; rfl, HB.out⟩

theorem E.good_calls (A0 : Option Addr) (c0 : Nat) (l : List Int) (m : Int) (w : World) (hr0 : Kd.C (Kd.int .i64) w A0 l.length l) (hc0 : l.length ≤ c0) :
    Calls Try.prog 13 #[.slice A0 l.length c0, .int .i64 m] w fun e w' => e = .returned (.bool (S.goodB l m)) ∧ Below w.heap.size w w' := by
  cases hmay : S.mayB l with
  | false =>
    rw [show S.goodB l m = false from by unfold S.goodB; rw [hmay]; rfl]
    exact E.good_bad0 A0 c0 l m w hr0 hc0 hmay
  | true =>
    by_cases h : m < 1
    · rw [show S.goodB l m = false from by unfold S.goodB; rw [hmay, show decide (1 ≤ m) = false from by rw [decide_eq_false_iff_not]; omega]; rfl]
      exact E.good_bad1 A0 c0 l m w hr0 hc0 hmay h
    · rw [show S.goodB l m = S.goodTo l m 31 from by unfold S.goodB; rw [hmay, show decide (1 ≤ m) = true from by rw [decide_eq_true_eq]; omega]; rfl]
      exact E.good_ok A0 c0 l m w hr0 hc0 hmay (by omega)

end Go.Proofs.Ytgjkjndfnjabeaa.X
