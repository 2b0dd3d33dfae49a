/- infix.Both: slices.Concat, slices.Sort, slices.Compact. -/
import Derived.Test.YtgjkjndfnjabeaaX0
import Derived.Test.YtgjkjndfnjabeaaS1
import Derived.Test.YtgjkjndfnjabeaaS2
import Derived.Test.YtgjkjndfnjabeaaE0
import Derived.Test.YtgjkjndfnjabeaaShelf
import Derived.Lib.OwnBridge
import Derived.Lib.RowBridge
import Derived.Sort.OwnSortedInts
import Derived.RangeFuncNested
namespace Go.Proofs.Ytgjkjndfnjabeaa.X
open Go.RowKit Go.Shelf Go.Sort Go.Proofs.YtgjkjndfnjabeaaW.PrintWords Go.Proofs.YtgjkjndfnjabeaaW.PrintLast Go.Proofs.YtgjkjndfnjabeaaW.PrintMore

/-- slices.Grow, at nil. -/
def E.Grown (w : World) (e : Ending) (w' : World) : Prop := ∃ v : Value, e = .returned v ∧ Kd.R (Kd.int .i64) 3 w' w.heap.size (fun _ => True) v [] ∧ Below w.heap.size w w'
set_option maxHeartbeats 1000000 in
theorem E.grow_calls (n : Int) (h0 : 0 ≤ n) (h1 : n ≤ 1000000) (w : World) : Calls Try.prog 58 #[.slice none 0 0, .int .i64 n] w (E.Grown w) := by
  have d1 : decide (n < 0) = false := decide_eq_false (by omega)
  by_cases hn : n = 0
  · subst hn
    go_enter Try.func58, Try.ntmps58
    go_wp2
    go_ret
    exact ⟨_, rfl, Kd.R_nil _ _ _ _ _, Below.refl _ _⟩
  · have d2 : decide (0 < n) = true := decide_eq_true (by omega)
    obtain ⟨i0, hi0, _, hsz, _⟩ := info_parts info3
    have hcut0 := cut_to (P := Try.prog) 22 3 .i64 Try.underlying22 hi0 none 0 0 0 (by omega) (by omega) (by omega)
    go_enter Try.func58, Try.ntmps58
    go_wp2_with (first | ((with_reducible refine gate_builtin (b := .append) (xs := #[.tmp 20, .tmp 21]) rfl ?_); at_builtin; refine Kd.R_append_zeros (Kd.int .i64) (w0 := w) w.heap.size rfl (.tmp 20) (.tmp 21) 22 3 3 (.int .i64 0) 8 rfl Try.underlying22 Try.underlying3 info3 rfl (by decide) (by omega) (.slice none 0 0) ([] : List Int) 0 n (fun _ => True) rfl rfl rfl (fun _ _ => trivial) (Kd.R_nil _ _ _ _ _) h0 ?aB ?aS ?aL ?_; (case aB => exact Below.refl _ _); (case aS => exact Nat.le_refl _); (case aL => simp; omega); intro v1 w1 ho hb1 hg1 hat1; obtain ⟨A1, k1, e1, hle1, _⟩ := Kd.R_reads ho; obtain ⟨q, hq⟩ : ∃ q, ([] ++ List.replicate n.toNat (0 : Int) : List Int).length = q := ⟨_, rfl⟩; rw [hq] at e1 hle1; subst e1; have hcut1 := cut_to (P := Try.prog) 22 3 .i64 Try.underlying22 hi0 A1 q k1 0 (by omega) (by omega) hle1; have HO := Aside0.mk ho; have HB := Aside0.mk hb1; clear ho hb1 hg1 hat1) | fail)
    go_ret
    exact ⟨_, rfl, Kd.R_take (m := 0) HO.out (Nat.zero_le _), HB.out⟩

/-- What is together after so many of two rows. -/
def E.parts (l0 l1 : List Int) : Nat → List Int
  | 0 => []
  | 1 => [] ++ l0
  | _ => ([] ++ l0) ++ l1

theorem E.parts_two (l0 l1 : List Int) : ((E.parts l0 l1 2).length : Int) = (l0.length : Int) + l1.length := by simp [E.parts]

/-- slices.Concat, of two. -/
def E.Joined (W : World) (l : List Int) (e : Ending) (w' : World) : Prop := ∃ v : Value, e = .returned v ∧ Kd.R (Kd.int .i64) 3 w' W.heap.size (fun _ => True) v l ∧ Below W.heap.size W w'
set_option maxHeartbeats 2000000 in
theorem E.concat_calls (b : Nat) (A0 : Option Addr) (c0 : Nat) (l0 : List Int) (A1 : Option Addr) (c1 : Nat) (l1 : List Int) (W : World) (hr0 : Kd.C (Kd.int .i64) W A0 l0.length l0) (hr1 : Kd.C (Kd.int .i64) W A1 l1.length l1) (hl : l0.length + l1.length ≤ 1000000)
    (hb : W.heap[b]? = some (.cells #[.slice A0 l0.length c0, .slice A1 l1.length c1] 22 (0, 0))) :
    Calls Try.prog 50 #[.slice (some ⟨b, 0, none⟩) 2 2] W (E.Joined W (l0 ++ l1)) := by
  have HR0 := Aside0.mk hr0
  have HR1 := Aside0.mk hr1
  have x0 := blk_cell hb 0
  have x1 := blk_cell hb 1
  simp at x0 x1
  have HBK := Aside0.mk hb
  have hgrow := fun w => E.grow_calls ((l0.length : Int) + l1.length) (by omega) (by omega) w
  have HG := Aside0.mk hgrow
  generalize hP : E.Joined W (l0 ++ l1) = Post
  clear hr0 hr1 hb hgrow
  go_enter Try.func50, Try.ntmps50
  go_wp2
  go_loopg [3, 5, 11] 2 (fun kq v3 _ v11 w' => ∃ (k : Nat) (s : Int), v11 = .int .i64 k ∧ v3 = .int .i64 s ∧ s = ((E.parts l0 l1 k).length : Int) ∧ k ≤ 2 ∧ 2 - k ≤ kq ∧ W = w')
  case atStart => exact ⟨0, 0, rfl, rfl, rfl, by omega, by omega, rfl⟩
  case round =>
    obtain ⟨k, s, rfl, rfl, hs, hk, hg, rfl⟩ := hrel
    obtain rfl | rfl | rfl : k = 0 ∨ k = 1 ∨ k = 2 := by omega
    · obtain rfl : s = 0 := hs
      have hw : wrap64 (l0.length : Int) = l0.length := E.wrap_id (by omega) (by omega)
      have hd : decide ((l0.length : Int) < 0) = false := decide_eq_false (by omega)
      go_wp2
      go_roundg 1
      case measure => omega
      case rel => exact ⟨1, _, by go_num, rfl, rfl, by omega, by omega, rfl⟩
    · obtain rfl : s = (l0.length : Int) := hs
      have hw : wrap64 ((l0.length : Int) + l1.length) = (l0.length : Int) + l1.length := E.wrap_id (by omega) (by omega)
      have hd : decide ((l0.length : Int) + l1.length < 0) = false := decide_eq_false (by omega)
      go_wp2
      go_roundg 0
      case measure => omega
      case rel => exact ⟨2, _, by go_num, rfl, (E.parts_two l0 l1).symm, by omega, by omega, rfl⟩
    · have hs2 : s = (l0.length : Int) + l1.length := by rw [hs]; exact E.parts_two l0 l1
      clear hs
      subst hs2
      go_wp2_with (go_at_call 58; refine (HG.out _).mono ?_; rintro e w' ⟨v, rfl, hv, hbv⟩; have HV := Aside0.mk hv; have HBV := Aside0.mk hbv; clear hv hbv)
      clear hg hk
      go_loopg [6, 8, 27] 2 (fun kq v6 _ v27 w' => ∃ (k : Nat) (xs : List Int), v27 = .int .i64 k ∧ xs = E.parts l0 l1 k ∧ k ≤ 2 ∧ 2 - k ≤ kq ∧ Aside0 (Kd.R (Kd.int .i64) 3 w' W.heap.size (fun _ => True) v6 xs) ∧ Aside0 (Below W.heap.size W w'))
      case atStart => exact ⟨0, [], rfl, rfl, by omega, by omega, HV, HBV⟩
      case round =>
        clear HV HBV
        obtain ⟨k, xs, rfl, hxs, hk, hg, HO, HB⟩ := hrel
        have y0 : wr.cell? ⟨b, 0, none⟩ = some (.slice A0 l0.length c0) := by
          have := blk_cell (blk_below HBK.out HB.out) 0
          simpa using this
        have y1 : wr.cell? ⟨b, 1, none⟩ = some (.slice A1 l1.length c1) := by
          have := blk_cell (blk_below HBK.out HB.out) 1
          simpa using this
        obtain rfl | rfl | rfl : k = 0 ∨ k = 1 ∨ k = 2 := by omega
        · have hx2 : xs = ([] : List Int) := hxs
          clear hxs
          subst hx2
          have cb : decide ((0 : Int) < 2) = true := by decide
          go_wp2_with (first | ((with_reducible refine gate_builtin (b := .append) (xs := #[.tmp 31, .tmp 32]) rfl ?_); at_builtin; refine Kd.R_append_rows (Kd.int .i64) (w0 := W) W.heap.size rfl (.tmp 31) (.tmp 32) 22 3 (.int .i64 0) 8 rfl Try.underlying22 info3 rfl (by decide) (by omega) u6 (([] : List Int)) l0 _ _ _ (fun _ => True) (fun _ => False) rfl rfl HO.out ?aR (fun _ _ h => h) (fun _ h => h.elim) (fun _ _ => trivial) HB.out ?aS ?aL ?_; (case aR => exact Kd.C_below HR0.out HB.out); (case aS => exact HB.out.size); (case aL => simp; omega); intro v1 w1 ho hb1 hg1 hat1; have HO1 := Aside0.mk ho; have HB1 := Aside0.mk hb1; clear ho hb1 hg1 hat1) | fail)
          go_roundg (1 - 0)
          case measure => omega
          case rel => exact ⟨0 + 1, _, by go_num, rfl, by omega, by omega, HO1, HB1⟩
        · have hx2 : xs = ([] ++ l0) := hxs
          rw [hx2] at HO
          clear hxs hx2
          have cb : decide ((1 : Int) < 2) = true := by decide
          go_wp2_with (first | ((with_reducible refine gate_builtin (b := .append) (xs := #[.tmp 31, .tmp 32]) rfl ?_); at_builtin; refine Kd.R_append_rows (Kd.int .i64) (w0 := W) W.heap.size rfl (.tmp 31) (.tmp 32) 22 3 (.int .i64 0) 8 rfl Try.underlying22 info3 rfl (by decide) (by omega) u6 (([] ++ l0)) l1 _ _ _ (fun _ => True) (fun _ => False) rfl rfl HO.out ?aR (fun _ _ h => h) (fun _ h => h.elim) (fun _ _ => trivial) HB.out ?aS ?aL ?_; (case aR => exact Kd.C_below HR1.out HB.out); (case aS => exact HB.out.size); (case aL => simp; omega); intro v1 w1 ho hb1 hg1 hat1; have HO1 := Aside0.mk ho; have HB1 := Aside0.mk hb1; clear ho hb1 hg1 hat1) | fail)
          go_roundg (1 - 1)
          case measure => omega
          case rel => exact ⟨1 + 1, _, by go_num, rfl, by omega, by omega, HO1, HB1⟩
        · have hx2 : xs = l0 ++ l1 := hxs
          clear hxs
          subst hx2
          go_wp2
          subst hP
          exact ⟨_, rfl, HO.out, HB.out⟩

/-- infix.union -/
def E.Both (w : World) (l : List Int) (e : Ending) (w' : World) : Prop := ∃ v : Value, e = .returned v ∧ Kd.R (Kd.int .i64) 3 w' w.heap.size (fun _ => True) v l ∧ Below w.heap.size w w'

/-- slices.Sort, of a row of the call's own. -/
def E.SortedRow (w : World) (base : Nat) (v : Value) (xs : List Int) (e : Ending) (w' : World) : Prop :=
  e = .returned (.tuple #[]) ∧ w'.ownsRow base 3 1 v xs.length ((xs.mergeSort fun x y => decide (x ≤ y)).map (Value.int .i64)) ∧ ∀ w0, Below base w0 w → Below base w0 w'
theorem E.sort_own (v : Value) (base : Nat) (xs : List Int) (w : World) (h : w.ownsRow base 3 1 v xs.length (xs.map (Value.int .i64))) (hl : xs.length ≤ 1000000) : Calls Try.prog 47 #[v] w (E.SortedRow w base v xs) := by
  by_cases hnn : v = .slice none 0 0
  · subst hnn
    have hx : xs = [] := by
      rcases h.2 with ⟨_, e⟩ | ⟨g, cap, cur, e, _⟩
      · exact List.eq_nil_of_length_eq_zero e
      · cases e
    subst hx
    have hs : Calls Try.prog 47 #[.slice none 0 0] w fun e w' => e = .returned (.tuple #[]) ∧ w' = w := AnyM.slices_Sort_int_none Try.sortA none 0 w
    exact hs.mono fun e w' ⟨he, hw⟩ => ⟨he, by rw [hw]; simpa using h, fun w0 hb => by rw [hw]; exact hb⟩
  · obtain ⟨g, cap, rfl, hbg, hgl, hncap, hcm, _, hH⟩ := Lib.holds_of_ownsRow (enc := Value.int .i64) (zs := xs) h hnn
    have hs : Calls Try.prog 47 #[.slice (some ⟨g, 0, none⟩) xs.length cap] w fun e w' => e = .returned (.tuple #[]) ∧ ∃ n os, w' = grow (putRow (Value.int .i64) (Sort.ahead w n) g 0 (xs.mergeSort fun x y => decide (x ≤ y)).toArray) os := AnyM.slices_Sort_int Try.sortA g 0 cap xs w hH hgl (by omega)
    refine hs.mono ?_
    rintro e w' ⟨rfl, n, os, rfl⟩
    rcases h.2 with ⟨h0, _⟩ | ⟨g', cap', cur, hv, hbase, hb, h1, h2, h3, h4⟩
    · cases h0
    cases hv
    exact ⟨rfl, ownsRow_sortedI (by simp) hbase hb h1 h2 h3, fun w0 hb0 => hb0.grown (grownBy_sortedI _) (by omega) (fun j hj => by cases hj; exact hbase)⟩

/-- slices.Compact, of a row of the call's own. -/
def E.Compacted (w : World) (base : Nat) (xs : List Int) (e : Ending) (w' : World) : Prop :=
  ∃ v' : Value, e = .returned v' ∧ w'.ownsRow base 3 1 v' (Lib.compact xs).length ((Lib.compact xs).map (Value.int .i64)) ∧ ∀ w0, Below base w0 w → Below base w0 w'
theorem E.compact_own (v : Value) (base : Nat) (xs : List Int) (w : World) (h : w.ownsRow base 3 1 v xs.length (xs.map (Value.int .i64))) (hl : xs.length ≤ 1000000) : Calls Try.prog 51 #[v] w (E.Compacted w base xs) := by
  by_cases hnn : v = .slice none 0 0
  · subst hnn
    have hx : xs = [] := by
      rcases h.2 with ⟨_, e⟩ | ⟨g, cap, cur, e, _⟩
      · exact List.eq_nil_of_length_eq_zero e
      · cases e
    subst hx
    have hs : Calls Try.prog 51 #[.slice none 0 0] w fun e w' => e = .returned (.slice none 0 0) ∧ w' = w := AnyG.slices_Compact_int_empty Try.compactA none 0 w
    exact hs.mono fun e w' ⟨he, hw⟩ => ⟨_, he, by rw [hw]; exact h, fun w0 hb => by rw [hw]; exact hb⟩
  · obtain ⟨g, cap, rfl, hbg, hgl, hncap, hcm, _, hH⟩ := Lib.holds_of_ownsRow (enc := Value.int .i64) (zs := xs) h hnn
    have hs : Calls Try.prog 51 #[.slice (some ⟨g, 0, none⟩) xs.length cap] w fun e w' => e = .returned (.slice (some ⟨g, 0, none⟩) (Lib.compact xs).length cap) ∧ ∃ q, w' = putRow (Value.int .i64) (Sort.ahead w q) g 0 (Lib.compact xs ++ List.replicate (xs.length - (Lib.compact xs).length) 0).toArray := AnyG.slices_Compact_int Try.compactA g 0 cap xs w hH (by omega) hncap
    refine hs.mono ?_
    rintro e w' ⟨rfl, q, rfl⟩
    have hle := Lib.compact_length_le xs
    have hc := Lib.ownsRow_putRow (q := q) (k := (Lib.compact xs).length) (ys := Lib.compact xs ++ List.replicate (xs.length - (Lib.compact xs).length) 0) h (by simp; omega) hle
    rw [List.take_left] at hc
    exact ⟨_, rfl, hc, fun w0 hb0 => Lib.below_putRow hb0 hbg⟩

set_option maxHeartbeats 2000000 in
theorem E.union_calls (A0 : Option Addr) (c0 : Nat) (l0 : List Int) (A1 : Option Addr) (c1 : Nat) (l1 : List Int) (w : World) (hr0 : Kd.C (Kd.int .i64) w A0 l0.length l0) (hr1 : Kd.C (Kd.int .i64) w A1 l1.length l1) (hl : l0.length + l1.length ≤ 1000000) :
    Calls Try.prog 38 #[.slice A0 l0.length c0, .slice A1 l1.length c1] w (E.Both w (S.bothL l0 l1)) := by
  have hcc : Calls Try.prog 50 #[.slice (some ⟨w.heap.size, 0, none⟩) 2 2] (w.alloc (.cells #[.slice A0 l0.length c0, .slice A1 l1.length c1] 22)) (E.Joined (w.alloc (.cells #[.slice A0 l0.length c0, .slice A1 l1.length c1] 22)) (l0 ++ l1)) :=
    E.concat_calls w.heap.size A0 c0 l0 A1 c1 l1 _ (Kd.C_alloc hr0 _) (Kd.C_alloc hr1 _) hl (blk_new _ _)
  have HCC := Aside0.mk hcc
  generalize hP : E.Both w (S.bothL l0 l1) = Post
  clear hr0 hr1 hcc
  go_enter Try.func38, Try.ntmps38
  go_wp2_with (first
    | (go_at_call 50; refine HCC.out.mono ?_; rintro e w' ⟨v, rfl, hv, hbv⟩; have HV := Aside0.mk (Kd.own_of_R hv); have HBV := Aside0.mk hbv; clear hv hbv)
    | (go_at_call 47; refine (E.sort_own _ _ _ _ HV.out (by simp; omega)).mono ?_; rintro e w2 ⟨rfl, ho2, hb2⟩; have HO2 := Aside0.mk ho2; have HB2 := Aside0.mk (hb2 _ HBV.out); clear ho2 hb2)
    | (go_at_call 51; refine (E.compact_own _ _ ((l0 ++ l1).mergeSort fun x y => decide (x ≤ y)) _ (by rw [List.length_mergeSort]; exact HO2.out) (by rw [List.length_mergeSort]; simp; omega)).mono ?_; rintro e w3 ⟨v3, rfl, ho3, hb3⟩; have HO3 := Aside0.mk ho3; have HB3 := Aside0.mk (hb3 _ HB2.out); clear ho3 hb3)
    | fail)
  subst hP
  refine ⟨v3, rfl, Kd.R_lower (Kd.R_of_own HO3.out (fun _ _ => trivial)) (by simp), below_then (below_alloc (Below.refl _ _) _) (by simp) HB3.out⟩

/-- infix.Both -/
theorem E.both_calls (A0 : Option Addr) (c0 : Nat) (l0 : List Int) (A1 : Option Addr) (c1 : Nat) (l1 : List Int) (w : World) (hr0 : Kd.C (Kd.int .i64) w A0 l0.length l0) (_hc0 : l0.length ≤ c0) (hr1 : Kd.C (Kd.int .i64) w A1 l1.length l1) (_hc1 : l1.length ≤ c1) (hl : l0.length + l1.length ≤ 1000000) :
    Calls Try.prog 19 #[.slice A0 l0.length c0, .slice A1 l1.length c1] w fun e w' => ∃ v : Value, e = .returned v ∧ Kd.R (Kd.int .i64) 3 w' w.heap.size (fun _ => True) v (S.bothL l0 l1) ∧ Below w.heap.size w w' := by
  have hu := E.union_calls A0 c0 l0 A1 c1 l1 w hr0 hr1 hl
  have HU := Aside0.mk hu
  clear hu hr0 hr1
  change Calls _ _ _ _ (E.Both w (S.bothL l0 l1))
  generalize hP : E.Both w (S.bothL l0 l1) = Post
  go_enter Try.func19, Try.ntmps19
  go_wp2_with (go_at_call 38; refine HU.out.mono ?_; intro e w' hp; have HP := Aside0.mk hp; obtain ⟨v, rfl, _, _⟩ := hp)
  subst hP
  exact HP.out

end Go.Proofs.Ytgjkjndfnjabeaa.X
