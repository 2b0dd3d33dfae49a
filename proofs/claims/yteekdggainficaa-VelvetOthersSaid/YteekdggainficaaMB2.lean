/- Texts of these proofs, laid together by wip/tools/mergeb.py: E4, Xstepladderref12Ints, XsuperPrefix, PA, V0, V1, XslicesEqualintint, V2, V3. -/
import Derived.Test.YteekdggainficaaMB1
import Derived.Maps.OwnSet
import Derived.Maps.Keyed
import Derived.OwnWalkIn
import Derived.TacticsInMore
import Derived.Maps.OwnOps
import Derived.RangeFuncNested
import Derived.WalkMore
import Derived.Shelf.Abstract
section
/- super.Prefix: what is taken, kept in a map, its keys sorted. -/
namespace Go.Proofs.Yteekdggainficaa.X
open Go.RowKit Go.Shelf Go.Maps Go.Sort Go.Proofs.YteekdggainficaaW.PrintWords Go.Proofs.YteekdggainficaaW.PrintLast Go.Proofs.YteekdggainficaaW.PrintMore

/-- The set of some numbers, as the map reads. -/
def E.setD (acc : List Int) : DataW Unit := setOf (.agg []) (acc.map fun x => Lit.int .i64 x)
theorem E.setD_snoc (acc : List Int) (x : Int) : E.setD (acc ++ [x]) = (E.setD acc).put (.int .i64 x) (.agg []) := by
  unfold E.setD
  rw [List.map_append, List.map_cons, List.map_nil, setOf_snoc]
abbrev E.owns (W : World) (b : Nat) (acc : List Int) : Prop := W.ownsMap (H := Unit) Try.prog 3 unitElem b acc.length (E.setD acc)

theorem E.take_snoc {L : List Int} {k : Nat} (h : k < L.length) : L.take (k + 1) = L.take k ++ [rd L k] := by
  rw [List.take_succ_eq_append_getElem h, rd_get h]

theorem E.add_block (a : Addr) (n : Nat) : (a.add n).block = a.block := by unfold Addr.add; split <;> rfl

/-- Numbers that an int holds. -/
def E.Ints (L : List Int) : Prop := ∀ x ∈ L, -9223372036854775808 ≤ x ∧ x ≤ 9223372036854775807

set_option maxHeartbeats 1000000 in
theorem E.pref1_calls (v1 v2 : Value) (A0 : Option Addr) (c0 : Nat) (L : List Int) (W : World) (bp bm : Nat) (acc : List Int) (hp : Boxed W bp 48 (.map (some bm))) (ho : E.owns W bm acc) (hC : Kd.C (Kd.int .i64) W A0 L.length L)
    (hA : ∀ ad, A0 = some ad → 0 < L.length → ad.block ≠ bm) (hwf : E.Ints L) (hn : acc.length + L.length < 9223372036854775807) :
    Calls Try.prog 39 #[v1, v2, .slice A0 L.length c0, .pointer (some ⟨bp, 0, none⟩)] W fun e W' => e = .returned (.tuple #[]) ∧ E.owns W' bm (acc ++ L) ∧ W.grownBy W' (some bm) := by
  have HP := Aside0.mk hp
  have HO := Aside0.mk ho
  have hmx := Kd.C_max hC
  have HC := Aside0.mk hC
  have HA := Aside0.mk hA
  have HW := Aside0.mk hwf
  have hpm : bp ≠ bm := by
    intro e
    subst e
    obtain ⟨es, clock, hb, _⟩ := ho
    rw [show W.heap[bp]? = _ from hp] at hb
    cases hb
  clear hp ho hC hA hwf
  go_enter Try.func39, Try.ntmps39
  go_wp2
  go_loopg [8, 11] L.length (fun kq _ v11 w' => ∃ k : Nat, v11 = .int .i64 k ∧ k ≤ L.length ∧ L.length - k ≤ kq ∧ Aside0 (E.owns w' bm (acc ++ L.take k)) ∧ Aside0 (W.grownBy w' (some bm)))
  case atStart => exact ⟨0, rfl, Nat.zero_le _, by omega, ⟨by simpa using HO.out⟩, ⟨World.grownBy.refl _ _⟩⟩
  case round =>
    obtain ⟨k, rfl, hk, hg, HO1, HG⟩ := hrel
    clear HO
    by_cases hlt : k < L.length
    · have hltz : (k : Int) < (L.length : Int) := by omega
      have p1 : 0 ≤ (k : Int) := by omega
      have cb : decide ((k : Int) < (L.length : Int)) = true := by rw [decide_eq_true_eq]; exact hltz
      obtain ⟨ad, e1, hx⟩ := Kd.at_int HC.out k p1 hltz
      cases e1
      rw [Int.toNat_natCast] at hx
      have hx1 : wr.cell? (ad.add k) = some (.int .i64 (rd L k)) := HG.out.cell hx (by rw [E.add_block]; intro e; exact HA.out ad rfl (by omega) (Option.some.inj e))
      have hp1 := (HP.out.kept HG.out (fun e => hpm (Option.some.inj e))).cell
      have HX := Aside0.mk hx
      clear hx
      have hwx : (Lit.int .i64 (rd L k)).wf = true := WalkArith.wf_i64 (HW.out _ (S.rd_mem p1 hltz))
      have hkey := Maps.keyOf_int_mk (P := Try.prog) Try.underlying3 hwx
      have HN : (acc ++ L.take k).length < maxLen := by unfold maxLen; rw [List.length_append, List.length_take]; omega
      generalize hy : rd L k = y at *
      have HY := Aside0.mk hy
      clear hy
      have HK := Aside0.mk hkey
      clear hkey hwx
      have HNN := Aside0.mk HN
      clear HN
      go_wp2_with (at_mapUpdate; refine wpList_mapUpdate_own _ rfl _ _ _ 48 rfl 3 50 (int_keyed Try.underlying3) Try.underlying48 unitElem bm _ _ rfl HO1.out HNN.out _ _ _ rfl rfl HK.out _ [] unitElem_mk ?_; intro w1 hown1 hgrow1; have HO2 := Aside0.mk hown1; have HG2 := Aside0.mk hgrow1; clear hown1 hgrow1)
      go_roundg (L.length - (k + 1))
      case measure => omega
      case rel =>
        refine ⟨k + 1, by go_num, by omega, by omega, ⟨?_⟩, ⟨HG.out.trans HG2.out⟩⟩
        show w1.ownsMap (H := Unit) _ _ _ _ _ _
        rw [E.take_snoc hlt, HY.out, ← List.append_assoc, E.setD_snoc, List.length_append]
        exact HO2.out
    · have hltz : ¬ (k : Int) < (L.length : Int) := by omega
      have cb : decide ((k : Int) < (L.length : Int)) = false := by rw [decide_eq_false_iff_not]; exact hltz
      obtain rfl : k = L.length := by omega
      go_wp2
      go_end0
      exact ⟨rfl, by rw [List.take_length] at HO1; exact HO1.out, HG.out⟩

/-- What has been collected ahead of round i. -/
def S.accAt (l : List Int) (m k : Int) : Nat → List Int
  | 0 => []
  | i + 1 => S.accAt l m k i ++ S.climbL l m k i
theorem S.accAt_mem (l : List Int) (m k : Int) (x : Int) : ∀ i : Nat, x ∈ S.accAt l m k i ↔ ∃ j, j < i ∧ x ∈ S.climbL l m k j
  | 0 => by simp [S.accAt]
  | i + 1 => by
    unfold S.accAt
    rw [List.mem_append, S.accAt_mem l m k x i]
    constructor
    · rintro (⟨j, hj, hx⟩ | hx)
      · exact ⟨j, by omega, hx⟩
      · exact ⟨i, by omega, hx⟩
    · rintro ⟨j, hj, hx⟩
      by_cases e : j = i
      · subst e; exact .inr hx
      · exact .inl ⟨j, by omega, hx⟩
theorem S.upFrom_len (l : List Int) : ∀ (i fr hi n : Int), (S.upFrom l i fr hi n).length ≤ l.length := by
  induction l with
  | nil => intro i fr hi n; simp [S.upFrom]
  | cons x l ih =>
    intro i fr hi n
    unfold S.upFrom
    have := ih (i + 1) fr hi n
    split
    · rw [List.length_cons, List.length_cons]; omega
    · rw [List.length_cons]; omega
theorem S.accAt_len (l : List Int) (m k : Int) : ∀ i : Nat, (S.accAt l m k i).length ≤ i * l.length
  | 0 => by simp [S.accAt]
  | i + 1 => by
    unfold S.accAt
    have h1 := S.accAt_len l m k i
    have h2 : (S.climbL l m k i).length ≤ l.length := S.upFrom_len _ _ _ _ _
    rw [List.length_append, Nat.add_mul]
    omega
theorem S.fromZ_is {l : List Int} {m k : Int} (h : S.okB l m k = true) {n : Int} (hn : n ≤ 31) : S.fromZ l m k n = S.mthLast (S.upZ l 0 ((l.length : Int) - k) (n + 1)) m := by
  unfold S.fromZ
  rw [if_pos h, if_neg (by omega)]
/-- A level is taken from no earlier a place than a greater one. -/
theorem S.fromZ_anti {l : List Int} {m k : Int} (h : S.okB l m k = true) {n n' : Int} (hn : n ≤ n') (hn' : n' ≤ 31) : S.fromZ l m k n' ≤ S.fromZ l m k n := by
  obtain ⟨h0, h1, h2, h3⟩ := S.okB_parts h
  rw [S.fromZ_is h hn', S.fromZ_is h (by omega), S.upZ_level l 0 _ (show n + 1 ≤ n' + 1 by omega)]
  exact S.mthLast_mono (S.upZ_up _ _ _ _) (fun x hx => (S.upZ_mem.1 hx).1) _ h1
theorem S.takenL_mem {l : List Int} {m k x : Int} : x ∈ S.takenL l m k ↔ 0 ≤ x ∧ x < l.length ∧ x < (l.length : Int) - k ∧ 0 ≤ rd l x ∧ S.fromZ l m k (rd l x) ≤ x := by
  unfold S.takenL
  rw [List.mem_filter, S.upZ_mem, decide_eq_true_eq]
  constructor
  · rintro ⟨⟨h0, h1, h2, h3, h4⟩, h5⟩; exact ⟨h0, h1, h3, h4, h5⟩
  · rintro ⟨h0, h1, h3, h4, h5⟩; exact ⟨⟨h0, h1, h0, h3, h4⟩, h5⟩
theorem S.takenL_up (l : List Int) (m k : Int) : S.Up (S.takenL l m k) := S.up_filter (S.upZ_up _ _ _ _) _
theorem S.acc_taken {l : List Int} {m k : Int} (h : S.okB l m k = true) (x : Int) : x ∈ S.accAt l m k 32 ↔ x ∈ S.takenL l m k := by
  obtain ⟨h0, h1, h2, h3⟩ := S.okB_parts h
  obtain ⟨_, _, h6, h7⟩ := S.mayB_parts h0
  have hc : ∀ j : Nat, j < 32 → S.climbAt l m k j = S.fromZ l m k (31 - (j : Int)) := fun j hj => by
    have := S.climb_from h (31 - j) (by omega)
    rw [show 31 - (31 - j) = j from by omega] at this
    rw [this, S.fromZ_is h (by omega)]
    congr 2
    omega
  rw [S.accAt_mem, S.takenL_mem]
  constructor
  · rintro ⟨j, hj, hx⟩
    unfold S.climbL at hx
    rw [hc j hj] at hx
    obtain ⟨x0, x1, x2, x3, x4⟩ := S.upZ_mem.1 hx
    have hl := h7 x x0 x1
    exact ⟨x0, x1, x3, hl.1, Int.le_trans (S.fromZ_anti h x4 hl.2) x2⟩
  · rintro ⟨x0, x1, x3, x4, x5⟩
    have hl := h7 x x0 x1
    refine ⟨(31 - rd l x).toNat, by omega, ?_⟩
    unfold S.climbL
    rw [hc _ (by omega), S.upZ_mem, show (31 : Int) - (((31 - rd l x).toNat : Nat) : Int) = rd l x from by omega]
    exact ⟨x0, x1, x5, x3, Int.le_refl _⟩

theorem E.up_nodup {a : List Int} (h : S.Up a) : a.Nodup := h.imp fun hlt e => by omega
theorem E.setD_has (acc : List Int) (x : Int) : has (E.setD acc) (.int .i64 x) = true ↔ x ∈ acc := by
  unfold E.setD
  rw [has_setOf _ _ _ (fun y hy => by obtain ⟨z, _, rfl⟩ := List.mem_map.1 hy; trivial), List.any_map, List.any_eq_true]
  constructor
  · rintro ⟨y, hy, he⟩
    have := WideAt.sameKey_eq (a := Lit.int .i64 y) (b := Lit.int .i64 x) he
    injection this with _ e
    subst e
    exact hy
  · intro hx
    exact ⟨x, hx, WideAt.sameKey_self (a := Lit.int .i64 x) trivial⟩
/-- The map's keys, sorted, are the list. -/
theorem E.sorted_is {W : World} {b : Nat} {acc t ss : List Int} (ho : E.owns W b acc) (ht : S.Up t) (hm : ∀ x, x ∈ acc ↔ x ∈ t) (hp : ss.Perm (intKeys (E.setD acc))) : ss.mergeSort leI = t := by
  have hc : CollectedI (E.setD acc) (fun _ => false) t := ⟨E.up_nodup ht, fun x => by rw [E.setD_has, hm x]; simp⟩
  have hp2 := hc.perm ho (int_keyed Try.underlying3) Try.underlying3 (fun _ => rfl)
  rw [mergeSort_of_perm_i (hp.trans hp2.symm)]
  exact List.mergeSort_of_pairwise (ht.imp fun h => by simp [leI]; omega)

/-- What stands while Prefix climbs. -/
def E.PrefJ (l : List Int) (m k : Int) (w0 : World) (i : Nat) (W : World) : Prop :=
  Below w0.heap.size w0 W ∧ w0.heap.size + 2 ≤ W.heap.size ∧ Boxed W (w0.heap.size + 1) 48 (.map (some w0.heap.size)) ∧ E.owns W w0.heap.size (S.accAt l m k i)

theorem E.climbL_ints {l : List Int} {m k : Int} {i : Nat} (h : l.length ≤ 200) : E.Ints (S.climbL l m k i) := fun x hx => by
  have := S.upZ_mem.1 hx
  omega

set_option maxHeartbeats 1000000 in
theorem E.prefClimb_calls (A0 : Option Addr) (c0 : Nat) (l0 : List Int) (a1 a2 : Int) (w0 w : World) (hr0 : Kd.C (Kd.int .i64) w0 A0 l0.length l0) (hc0 : l0.length ≤ c0) (hok : S.okB l0 a1 a2 = true) (hm : a1 ≤ 9223372036854775807)
    (hJ : E.PrefJ l0 a1 a2 w0 0 w) :
    Calls Try.prog 38 #[.slice A0 l0.length c0, .int .i64 a1, .int .i64 a2, .func (.func 39) #[] #[.pointer (some ⟨w0.heap.size + 1, 0, none⟩)]] w fun e w' =>
      e = .returned (.tuple #[]) ∧ E.PrefJ l0 a1 a2 w0 32 w' := by
  obtain ⟨h0, h1, h2, h3⟩ := S.okB_parts hok
  obtain ⟨_, h5, _, _⟩ := S.mayB_parts h0
  refine E.climb_calls 39 _ (enters_of Try.func39 (by kernel_rfl) rfl) A0 c0 l0 a1 a2 w0 w (w0.heap.size + 2) hr0 hc0 h5 h1 h2 h3 hm (E.PrefJ l0 a1 a2 w0) ?_ ?_ ?_ hJ
  · rintro i W W' ⟨j1, j2, j3, j4⟩ hb
    refine ⟨below_then j1 (by omega) hb, Nat.le_trans j2 hb.size, E.boxKept j3 hb, ?_⟩
    exact j4.kept (grown_of_below hb none) (by simp)
  · rintro i W ⟨j1, j2, _⟩
    exact ⟨j1, j2⟩
  · rintro i A c W hi ⟨j1, j2, j3, j4⟩ hC hA
    have hl1 : (S.accAt l0 a1 a2 i).length ≤ 32 * 200 := Nat.le_trans (S.accAt_len l0 a1 a2 i) (Nat.mul_le_mul (by omega) h5)
    have hl2 : (S.climbL l0 a1 a2 i).length ≤ l0.length := S.upFrom_len _ _ _ _ _
    refine (E.pref1_calls _ _ A c _ W _ w0.heap.size (S.accAt l0 a1 a2 i) j3 j4 hC (fun ad e _ => by have := hA ad e; omega) (E.climbL_ints h5) (by omega)).mono ?_
    rintro e W' ⟨rfl, ho, hg⟩
    refine ⟨rfl, ⟨j1.grown hg (by omega) (fun j e => by cases e; exact Nat.le_refl _), Nat.le_trans j2 hg.size, j3.kept hg (by simp), ho⟩, hg.size, fun b hb hlt => hg.block b hlt (by simp; omega)⟩

/-- slices.Sort's two contracts at this seat, at the fence that asks nothing. -/
theorem E.sortsA (m : Nat) : AnyZI.SortsIn Try.prog Try.sortedA_ren Fence.wide m :=
  ⟨fun blk off cap ss W hH hblk hsz => callsIn_wide.2 (AnyM.slices_Sort_int Try.sortA blk off cap ss W hH hblk hsz),
   fun p cap W => callsIn_wide.2 (AnyM.slices_Sort_int_none Try.sortA p cap W)⟩

/-- maps.Keys -/
theorem E.keys_calls (b : Nat) (W : World) : Calls Try.prog 41 #[.map (some b)] W fun e w' =>
    e = .returned (.func (.func 48) #[] #[.pointer (some ⟨W.heap.size, 0, none⟩)]) ∧ W.alloc (.cells #[.map (some b)] 48) = w' :=
  ((callsIn_wide (n := 5)).1 (AnyZI.keys_in Try.keysA Fence.wide 5 trivial rfl (some b) W)).mono fun _ _ h => ⟨h.1, h.2.symm⟩

/-- slices.Sorted, at what maps.Keys has handed back. -/
def E.SortedAs (W : World) (t : List Int) (e : Ending) (w' : World) : Prop := ∃ v : Value, e = .returned v ∧ Kd.R (Kd.int .i64) 3 w' W.heap.size (fun _ => True) v t ∧ Below W.heap.size W w'
set_option maxHeartbeats 1000000 in
theorem E.sorted_calls (b : Nat) (acc t : List Int) (w : World) (ho : E.owns w b acc) (ht : S.Up t) (hm : ∀ x, x ∈ acc ↔ x ∈ t) (hn : acc.length ≤ 17592186044416) :
    Calls Try.prog 40 #[.func (.func 48) #[] #[.pointer (some ⟨w.heap.size, 0, none⟩)]] (w.alloc (.cells #[.map (some b)] 48)) (E.SortedAs (w.alloc (.cells #[.map (some b)] 48)) t) := by
  have hsz : Maps.size (E.setD acc) ≤ acc.length := ho.size_le
  have hbl := ho.lt
  have hseq : SeqGives Fence.wide 2 Try.prog 48 #[.pointer (some ⟨w.heap.size, 0, none⟩)] encZ (fun ss => ss.Perm (intKeys (E.setD acc))) (Maps.size (E.setD acc)) (w.alloc (.cells #[.map (some b)] 48)) :=
    AnyZI.keys_gives (ρ := Try.keysA_ren) { Try.keysA with } Fence.wide _ trivial rfl (by omega) w.heap.size b acc.length (E.setD acc) _ (by simp) (by simp) (by
      obtain ⟨es, clock, hb, Ft, hs, hD⟩ := ho
      exact ⟨es, clock, (Below.heap_alloc _ _ b hbl).trans hb, Ft, hs, hD⟩)
  have cS := AnyZI.sorted_in Try.sortedA Fence.wide 5 trivial trivial trivial trivial rfl (by omega) (E.sortsA _) (enters_of Try.func47 (by kernel_rfl) rfl) 48 #[.pointer (some ⟨w.heap.size, 0, none⟩)] trivial (enters_of Try.func48 (by kernel_rfl) rfl) _ _ (by unfold maxLen; omega) (by omega) _ hseq
  change CallsIn _ _ Try.prog 40 _ _ _ at cS
  refine ((callsIn_wide (n := 5)).1 cS).mono ?_
  rintro e w' ⟨v, ss, rfl, hp, hrow, _, hb⟩
  have e1 := E.sorted_is ho ht hm hp
  have e2 : ss.length = t.length := by rw [← e1, List.length_mergeSort]
  refine ⟨v, rfl, ?_, hb⟩
  rw [show (ss.mergeSort fun x y => decide (x ≤ y)) = t from e1, e2] at hrow
  exact Kd.R_of_own hrow (fun _ _ => trivial)

set_option maxHeartbeats 1000000 in
theorem E.prefix_calls_bad (A0 : Option Addr) (c0 : Nat) (l0 : List Int) (a1 a2 : Int) (w : World) (hr0 : Kd.C (Kd.int .i64) w A0 l0.length l0) (hc0 : l0.length ≤ c0) (hok : S.okB l0 a1 a2 = false) :
    Calls Try.prog 25 #[.slice A0 l0.length c0, .int .i64 a1, .int .i64 a2] w fun e w' => e = .returned (.tuple #[.slice none 0 0, .bool false]) ∧ Below w.heap.size w w' := by
  have hf := E.may_f l0 a1 a2
  rw [hok] at hf
  have HR0 := Aside0.mk hr0
  have HC0 := Aside0.mk hc0
  have HF := Aside0.mk hf
  clear hr0 hc0 hf hok
  go_enter Try.func25, Try.ntmps25
  go_wp2_with (go_at_call 37; refine (super_may.calls _ _ _ _ _ _ _ HR0.out HC0.out HF.out).mono ?_; rintro e w' ⟨rfl, ⟨m, rfl⟩⟩)
  go_ret2
  exact ⟨rfl, pw_below_drewN (Below.refl _ _) _⟩

set_option maxHeartbeats 1000000 in
theorem E.prefix_calls_ok (A0 : Option Addr) (c0 : Nat) (l0 : List Int) (a1 a2 : Int) (w : World) (hr0 : Kd.C (Kd.int .i64) w A0 l0.length l0) (hc0 : l0.length ≤ c0) (hok : S.okB l0 a1 a2 = true) (hm : a1 ≤ 9223372036854775807) :
    Calls Try.prog 25 #[.slice A0 l0.length c0, .int .i64 a1, .int .i64 a2] w fun e w' => ∃ v : Value, e = .returned (.tuple #[v, .bool true]) ∧ Kd.R (Kd.int .i64) 3 w' w.heap.size (fun _ => True) v (S.takenL l0 a1 a2) ∧ Below w.heap.size w w' := by
  have hf := E.may_f l0 a1 a2
  rw [hok] at hf
  have HR0 := Aside0.mk hr0
  have HC0 := Aside0.mk hc0
  have HF := Aside0.mk hf
  have HOK := Aside0.mk hok
  clear hr0 hc0 hf hok
  have hmm := @run_makeMap Try.prog
  go_enter Try.func25, Try.ntmps25
  go_wp2_with (first | (go_at_call 37; refine (super_may.calls _ _ _ _ _ _ _ HR0.out HC0.out HF.out).mono ?_; rintro e w' ⟨rfl, ⟨m, rfl⟩⟩) | fail)
  have hJ : E.PrefJ l0 a1 a2 w 0 (((w.drewN m).alloc (.map #[] 0)).alloc (.cells #[.map (some w.heap.size)] 48)) := by
    refine ⟨below_alloc (below_alloc (pw_below_drewN (Below.refl _ _) _) _) _, by simp, ?_, ?_⟩
    · have b1 := Boxed.new ((w.drewN m).alloc (.map #[] 0)) 48 (.map (some w.heap.size))
      simpa using b1
    · have b2 := World.ownsMap_made (H := Unit) (w.drewN m) Try.prog 3 unitElem
      have b3 := b2.kept (World.grownBy_alloc _ (.cells #[.map (some w.heap.size)] 48) none) (by simp)
      simp only [World.heap_drewN] at b3
      exact b3
  refine (E.prefClimb_calls A0 c0 l0 a1 a2 w _ HR0.out HC0.out HOK.out hm hJ).mono ?_
  clear hJ
  rintro e w1 ⟨rfl, j1, j2, j3, j4⟩
  have J1 := Aside0.mk j1
  have J4 := Aside0.mk j4
  have c3 := j3.cell
  clear j1 j3 j4
  obtain ⟨_, p1, p2, p3⟩ := S.okB_parts HOK.out
  obtain ⟨_, p5, _, _⟩ := S.mayB_parts (S.okB_parts HOK.out).1
  have hal : (S.accAt l0 a1 a2 32).length ≤ 17592186044416 := Nat.le_trans (Nat.le_trans (S.accAt_len l0 a1 a2 32) (Nat.mul_le_mul (Nat.le_refl _) p5)) (by omega)
  have HAL := Aside0.mk hal
  clear hal
  go_wp2_with (first | (go_at_call 41; refine (E.keys_calls _ _).mono ?_; rintro e w' ⟨rfl, rfl⟩) | fail)
  refine (E.sorted_calls w.heap.size (S.accAt l0 a1 a2 32) (S.takenL l0 a1 a2) w1 J4.out (S.takenL_up _ _ _) (S.acc_taken HOK.out) HAL.out).mono ?_
  rintro e w2 ⟨v, rfl, hR, hB⟩
  have HR := Aside0.mk hR
  have HB := Aside0.mk hB
  clear hR hB
  go_wp2
  go_ret2
  refine ⟨v, rfl, Kd.R_lower HR.out ?_, below_then (below_alloc J1.out _) ?_ HB.out⟩
  · have := J1.out.size; simp; omega
  · have := J1.out.size; simp; omega

theorem E.prefix_calls (A0 : Option Addr) (c0 : Nat) (l0 : List Int) (a1 a2 : Int) (w : World) (hr0 : Kd.C (Kd.int .i64) w A0 l0.length l0) (hc0 : l0.length ≤ c0) (hm : a1 ≤ 9223372036854775807) :
    Calls Try.prog 25 #[.slice A0 l0.length c0, .int .i64 a1, .int .i64 a2] w fun e w' => ∃ v : Value, e = .returned (.tuple #[v, .bool (S.prefZ l0 a1 a2).2]) ∧ Kd.R (Kd.int .i64) 3 w' w.heap.size (fun _ => True) v (S.prefZ l0 a1 a2).1 ∧ Below w.heap.size w w' := by
  cases hok : S.okB l0 a1 a2 with
  | false =>
    have e1 : S.prefZ l0 a1 a2 = ([], false) := by unfold S.prefZ; rw [hok]; simp
    rw [e1]
    exact (E.prefix_calls_bad A0 c0 l0 a1 a2 w hr0 hc0 hok).mono fun e w' h => ⟨_, h.1, Kd.R_nil _ _ _ _ _, h.2⟩
  | true =>
    have e1 : S.prefZ l0 a1 a2 = (S.takenL l0 a1 a2, true) := by unfold S.prefZ; rw [if_pos hok]
    rw [e1]
    exact E.prefix_calls_ok A0 c0 l0 a1 a2 w hr0 hc0 hok hm

end Go.Proofs.Yteekdggainficaa.X
end

section
-- By this session's own program (wip/tools/xprint.py), over the kit's print. Not trusted: Lean checks it.
namespace Go.Proofs.Yteekdggainficaa.X
open Go.RowKit Go.Proofs.YteekdggainficaaW.PrintWords Go.Proofs.YteekdggainficaaW.PrintLast Go.Proofs.YteekdggainficaaW.PrintMore
attribute [local go_sem] max2_int min2_int max_two min_two max_three min_three max_four min_four   -- for this text's walks alone
set_option linter.unusedVariables false
set_option linter.unusedSimpArgs false

/-! ### stepladderref12_Ints: function 12 -/
def stepladderref12_Ints.l0 : Nat → List Int → List Int → Int → Option (Bool)
  | 0, _, _, _ => none
  | k + 1, x0, x1, x5 => if x5 < (x0.length : Int) then (if 0 ≤ x5 then (if x5 < (x1.length : Int) then (if (rd x0 x5) = (rd x1 x5) then (stepladderref12_Ints.l0 k x0 x1 (wrap64 (x5 + 1))) else (some false)) else (none)) else (none)) else (some true)
def stepladderref12_Ints.f (k : Nat) (l0 : List Int) (l1 : List Int) : Option (Bool) := if (l0.length : Int) = (l1.length : Int) then (stepladderref12_Ints.l0 k l0 l1 0) else (some false)
theorem stepladderref12_Ints.mono_l : ∀ k, (∀ y0 y1 y2, LeO (stepladderref12_Ints.l0 k y0 y1 y2) (stepladderref12_Ints.l0 (k + 1) y0 y1 y2))
  | 0 => fun _ _ _ r h => by simp [stepladderref12_Ints.l0] at h
  | k + 1 => by
    have ih0 := stepladderref12_Ints.mono_l k
    · intro y0 y1 y2
      unfold stepladderref12_Ints.l0
      repeat' first
      | (with_reducible exact ih0 _ _ _)
      | (with_reducible exact LeO.refl _)
      | (with_reducible exact LeO.none _)
      | (with_reducible refine LeO.ite ?_ ?_)
      | (with_reducible refine LeO.bind ?_ (fun _ => ?_))
      | exact ih0 _ _ _
      | exact LeO.none _
      | refine LeO.ite ?_ ?_
      | refine LeO.bind ?_ (fun _ => ?_)
theorem stepladderref12_Ints.mono : ∀ a0 a1 k, LeO (stepladderref12_Ints.f k a0 a1) (stepladderref12_Ints.f (k + 1) a0 a1) := by
  intro a0 a1 k
  have ih0 := stepladderref12_Ints.mono_l k
  unfold stepladderref12_Ints.f
  repeat' first
      | (with_reducible exact ih0 _ _ _)
      | (with_reducible exact LeO.refl _)
      | (with_reducible exact LeO.none _)
      | (with_reducible refine LeO.ite ?_ ?_)
      | (with_reducible refine LeO.bind ?_ (fun _ => ?_))
      | exact ih0 _ _ _
      | exact LeO.none _
      | refine LeO.ite ?_ ?_
      | refine LeO.bind ?_ (fun _ => ?_)
set_option maxHeartbeats 8000000 in
set_option maxRecDepth 100000 in
theorem stepladderref12_Ints.calls (k : Nat) (A0 : Option Addr) (c0 : Nat) (l0 : List Int) (A1 : Option Addr) (c1 : Nat) (l1 : List Int) (r : Bool) (w : World) (hr0 : Kd.C (Kd.int .i64) w A0 l0.length l0) (hc0 : l0.length ≤ c0) (hr1 : Kd.C (Kd.int .i64) w A1 l1.length l1) (hc1 : l1.length ≤ c1) (h : stepladderref12_Ints.f k l0 l1 = some r) :
    Calls Try.prog 12 #[.slice A0 l0.length c0, .slice A1 l1.length c1] w fun e w' => e = .returned (.bool r) ∧ Drawn0 w w' := by
  have HR0 := Aside0.mk hr0
  have HC0 := Aside0.mk hc0
  clear hr0 hc0
  have HR1 := Aside0.mk hr1
  have HC1 := Aside0.mk hc1
  clear hr1 hc1
  have H : (if (l0.length : Int) = (l1.length : Int) then (stepladderref12_Ints.l0 k l0 l1 0) else (some false)) = some r := h
  clear h
  by_cases c3 : (l0.length : Int) = (l1.length : Int)
  · rw [if_pos c3] at H
    have c3b0 : ((l0.length : Int) == (l1.length : Int)) = true := beq_iff_eq.mpr c3
    have c3b1 : ((l0.length : Int) != (l1.length : Int)) = false := bne_eq_false_iff_eq.mpr c3
    have c3b2 : (l0.length == l1.length) = true := by first | simpa using c3 | (simp at c3 ⊢; omega)
    clear c3
    have H' := Aside0.mk H
    clear H
    go_enter Try.func12, Try.ntmps12
    go_wp2
    repeat (go_quiet (fail); try go_wp2)
    go_loopg [5] k (fun kq v5 w' => ∃ (x5_1 : Int), v5 = .int .i64 x5_1 ∧ Aside0 (stepladderref12_Ints.l0 kq l0 l1 x5_1 = some r) ∧ Aside0 (kq ≤ k) ∧ Drawn0 w w')
    case atStart => exact ⟨(0), (by first | rfl | (simp; done) | (simp [*]; done)), H', ⟨Nat.le_refl _⟩, by repeat (first | exact Drawn0.refl _ | apply Drawn0.step)⟩
    case round =>
      clear H'
      try clear c1
      try clear p2
      try clear c3
      try clear c3b0
      try clear c3b1
      try clear c3b2
      obtain ⟨x5_1, rfl, HA, HK1, ⟨m1, rfl⟩⟩ := hrel
      cases gk with
      | zero => exact absurd HA.out (by simp [stepladderref12_Ints.l0])
      | succ k1 =>
        have H := HA.out
        clear HA
        simp only [stepladderref12_Ints.l0] at H
        by_cases c4 : x5_1 < (l0.length : Int)
        · rw [if_pos c4] at H
          have c4b0 : decide (x5_1 < (l0.length : Int)) = true := decide_eq_true c4
          clear c4
          by_cases c5 : 0 ≤ x5_1
          · rw [if_pos c5] at H
            have c5b0 : decide (0 ≤ x5_1) = true := decide_eq_true c5
            clear c5
            by_cases c6 : x5_1 < (l1.length : Int)
            · rw [if_pos c6] at H
              have c6b0 : decide (x5_1 < (l1.length : Int)) = true := decide_eq_true c6
              clear c6
              by_cases c7 : (rd l0 x5_1) = (rd l1 x5_1)
              · rw [if_pos c7] at H
                have c7b0 : ((rd l0 x5_1) == (rd l1 x5_1)) = true := beq_iff_eq.mpr c7
                have c7b1 : ((rd l0 x5_1) != (rd l1 x5_1)) = false := bne_eq_false_iff_eq.mpr c7
                clear c7
                have H' := Aside0.mk H
                clear H
                have p145 : 0 ≤ (x5_1 : Int) := of_decide_eq_true (by first | (with_reducible assumption) | assumption)
                have q145 : x5_1 < (l0.length : Int) := of_decide_eq_true (by first | (with_reducible assumption) | assumption)
                obtain ⟨ad145, e145, hx145_0⟩ := Kd.at_int HR0.out x5_1 p145 q145
                cases e145
                replace p145 := eq_true p145
                replace q145 := eq_true q145
                have p146 : 0 ≤ (x5_1 : Int) := of_decide_eq_true (by first | (with_reducible assumption) | assumption)
                have q146 : x5_1 < (l1.length : Int) := of_decide_eq_true (by first | (with_reducible assumption) | assumption)
                obtain ⟨ad146, e146, hx146_0⟩ := Kd.at_int HR1.out x5_1 p146 q146
                cases e146
                replace p146 := eq_true p146
                replace q146 := eq_true q146
                go_wp2
                repeat (go_quiet (fail); try go_wp2)
                go_roundg k1
                case measure => have := HK1.out; omega
                case rel => exact ⟨(wrap64 (x5_1 + 1)), (by first | rfl | (simp; done) | (simp [*]; done)), H', ⟨by have := HK1.out; omega⟩, by repeat (first | exact Drawn0.refl _ | apply Drawn0.step)⟩
              · rw [if_neg c7] at H
                have c7b0 : ((rd l0 x5_1) == (rd l1 x5_1)) = false := beq_eq_false_iff_ne.mpr c7
                have c7b1 : ((rd l0 x5_1) != (rd l1 x5_1)) = true := bne_iff_ne.mpr c7
                obtain rfl := Option.some.inj H
                have p145 : 0 ≤ (x5_1 : Int) := of_decide_eq_true (by first | (with_reducible assumption) | assumption)
                have q145 : x5_1 < (l0.length : Int) := of_decide_eq_true (by first | (with_reducible assumption) | assumption)
                obtain ⟨ad145, e145, hx145_0⟩ := Kd.at_int HR0.out x5_1 p145 q145
                cases e145
                replace p145 := eq_true p145
                replace q145 := eq_true q145
                have p146 : 0 ≤ (x5_1 : Int) := of_decide_eq_true (by first | (with_reducible assumption) | assumption)
                have q146 : x5_1 < (l1.length : Int) := of_decide_eq_true (by first | (with_reducible assumption) | assumption)
                obtain ⟨ad146, e146, hx146_0⟩ := Kd.at_int HR1.out x5_1 p146 q146
                cases e146
                replace p146 := eq_true p146
                replace q146 := eq_true q146
                go_wp2
                repeat (go_quiet (fail); try go_wp2)
                go_ret
                exact ⟨by first | rfl | (simp; done) | (simp [*]; done), by repeat (first | exact Drawn0.refl _ | apply Drawn0.step)⟩
            · rw [if_neg c6] at H
              exact absurd H (by simp)
          · rw [if_neg c5] at H
            exact absurd H (by simp)
        · rw [if_neg c4] at H
          have c4b0 : decide (x5_1 < (l0.length : Int)) = false := decide_eq_false c4
          clear c4
          obtain rfl := Option.some.inj H
          go_wp2
          repeat (go_quiet (fail); try go_wp2)
          go_ret
          exact ⟨by first | rfl | (simp; done) | (simp [*]; done), by repeat (first | exact Drawn0.refl _ | apply Drawn0.step)⟩
  · rw [if_neg c3] at H
    have c3b0 : ((l0.length : Int) == (l1.length : Int)) = false := beq_eq_false_iff_ne.mpr c3
    have c3b1 : ((l0.length : Int) != (l1.length : Int)) = true := bne_iff_ne.mpr c3
    have c3b2 : (l0.length == l1.length) = false := by first | simpa using c3 | (simp at c3 ⊢; omega)
    obtain rfl := Option.some.inj H
    go_enter Try.func12, Try.ntmps12
    go_wp2
    repeat (go_quiet (fail); try go_wp2)
    go_ret
    exact ⟨by first | rfl | (simp; done) | (simp [*]; done), by repeat (first | exact Drawn0.refl _ | apply Drawn0.step)⟩

end Go.Proofs.Yteekdggainficaa.X
end

section
-- By this session's own program (wip/tools/xprint.py), over the kit's print. Not trusted: Lean checks it.
namespace Go.Proofs.Yteekdggainficaa.X
open Go.RowKit Go.Proofs.YteekdggainficaaW.PrintWords Go.Proofs.YteekdggainficaaW.PrintLast Go.Proofs.YteekdggainficaaW.PrintMore
attribute [local go_sem] max2_int min2_int max_two min_two max_three min_three max_four min_four   -- for this text's walks alone
set_option linter.unusedVariables false
set_option linter.unusedSimpArgs false

/-! ### super_Prefix: function 25 -/
-- EXT YteekdggainficaaE4
def super_Prefix.f (l0 : List Int) (a1 : Int) (a2 : Int) : Option (List Int × Bool) := if a1 ≤ 9223372036854775807 then some (S.prefZ l0 a1 a2) else none
theorem super_Prefix.calls (A0 : Option Addr) (c0 : Nat) (l0 : List Int) (a1 : Int) (a2 : Int) (r1 : List Int) (r2 : Bool) (w : World) (hr0 : Kd.C (Kd.int .i64) w A0 l0.length l0) (hc0 : l0.length ≤ c0) (h : super_Prefix.f l0 a1 a2 = some (r1, r2)) :
    Calls Try.prog 25 #[.slice A0 l0.length c0, .int .i64 a1, .int .i64 a2] w fun e w' => ∃ v0_ : Value, e = .returned (.tuple #[v0_, .bool r2]) ∧ Kd.R (Kd.int .i64) 3 w' w.heap.size (fun _ => True) v0_ r1 ∧ Below w.heap.size w w' := by
  unfold super_Prefix.f at h
  split at h
  · rename_i hb
    have h' := Option.some.inj h
    obtain ⟨rfl, rfl⟩ : (S.prefZ l0 a1 a2).1 = r1 ∧ (S.prefZ l0 a1 a2).2 = r2 := by rw [h']; exact ⟨rfl, rfl⟩
    exact E.prefix_calls A0 c0 l0 a1 a2 w hr0 hc0 hb
  · cases h


end Go.Proofs.Yteekdggainficaa.X
end

section
/- What the statements' small helpers come to: the same lists? is a number one of some? And super's, as the print has them. -/
namespace Go.Proofs.Yteekdggainficaa.X
open Go.RowKit Go.Proofs.YteekdggainficaaW.PrintWords

theorem P.wf_bounds {x : Int} (h : (Lit.int .i64 x).wf = true) : -9223372036854775808 ≤ x ∧ x ≤ 9223372036854775807 := by
  simpa [Lit.wf, IntKind.min, IntKind.max, IntKind.signed, IntKind.bits] using h

theorem P.ints_l0 (a b : List Int) (ha : a.length ≤ 1000000) (hab : a.length = b.length) (d : Nat) : ∀ (k i : Nat), a.length - i = d → i ≤ a.length → d < k →
    stepladderref12_Ints.l0 k a b i = some (decide (a.drop i = b.drop i)) := by
  induction d with
  | zero =>
    intro k i hd hi hk
    obtain ⟨k, rfl⟩ : ∃ m, k = m + 1 := ⟨k - 1, by omega⟩
    simp only [stepladderref12_Ints.l0]
    rw [if_neg (by omega), List.drop_of_length_le (by omega), List.drop_of_length_le (by omega)]
    rfl
  | succ d ih =>
    intro k i hd hi hk
    obtain ⟨k, rfl⟩ : ∃ m, k = m + 1 := ⟨k - 1, by omega⟩
    have h1 : i < a.length := by omega
    have h2 : i < b.length := by omega
    simp only [stepladderref12_Ints.l0]
    rw [if_pos (by omega), if_pos (by omega), if_pos (by omega), rd_get h1, rd_get h2, List.drop_eq_getElem_cons h1, List.drop_eq_getElem_cons h2]
    have hw : wrap64 ((i : Int) + 1) = ((i + 1 : Nat) : Int) := by rw [E.wrap_id (by omega) (by omega)]; omega
    by_cases h : a[i] = b[i]
    · rw [if_pos h, hw, ih k (i + 1) (by omega) (by omega) (by omega)]
      congr 1
      rw [decide_eq_decide, h]
      constructor
      · intro e; rw [e]
      · intro e; injection e
    · rw [if_neg h]
      congr 1
      symm
      rw [decide_eq_false_iff_not]
      intro e
      injection e with e1 e2
      exact h e1
theorem P.ints (a b : List Int) (ha : a.length ≤ 1000000) (k : Nat) (hk : a.length + 1 < k) : stepladderref12_Ints.f k a b = some (decide (a = b)) := by
  unfold stepladderref12_Ints.f
  by_cases h : (a.length : Int) = (b.length : Int)
  · rw [if_pos h, show (0 : Int) = ((0 : Nat) : Int) from rfl, P.ints_l0 a b ha (by omega) a.length k 0 (by omega) (by omega) (by omega)]
    simp
  · rw [if_neg h]
    congr 1
    symm
    rw [decide_eq_false_iff_not]
    intro e
    rw [e] at h
    exact h rfl

theorem P.prefix_f (l : List Int) (m k : Int) (hm : (Lit.int .i64 m).wf = true) : super_Prefix.f l m k = some (S.prefZ l m k) := by
  unfold super_Prefix.f
  rw [if_pos (P.wf_bounds hm).2]
theorem P.may_f (l : List Int) : super_May.f l = some (S.mayB l) := rfl

/-- Of From and Prefix, where something can be taken. -/
theorem S.fromZ_bad {l : List Int} {m k n : Int} (h : S.okB l m k = false) : S.fromZ l m k n = -1 := by unfold S.fromZ; rw [h]; rfl
theorem S.fromZ_range {l : List Int} {m k n : Int} (h : S.okB l m k = true) : 0 ≤ S.fromZ l m k n ∧ S.fromZ l m k n < (l.length : Int) - k ∧ (S.fromZ l m k n = 0 ∨ n + 1 ≤ rd l (S.fromZ l m k n)) := by
  obtain ⟨h0, h1, h2, h3⟩ := S.okB_parts h
  unfold S.fromZ
  rw [if_pos h]
  by_cases hn : 31 < n
  · rw [if_pos hn]
    exact ⟨by omega, by omega, .inl rfl⟩
  · rw [if_neg hn]
    by_cases hm : m ≤ ((S.upZ l 0 ((l.length : Int) - k) (n + 1)).length : Int)
    · have := S.upZ_mem.1 (S.mthLast_mem h1 hm)
      exact ⟨this.1, this.2.2.2.1, .inr this.2.2.2.2⟩
    · unfold S.mthLast
      rw [if_neg hm]
      exact ⟨by omega, by omega, .inl rfl⟩
theorem S.prefZ_ok {l : List Int} {m k : Int} (h : S.okB l m k = true) : S.prefZ l m k = (S.takenL l m k, true) := by unfold S.prefZ; rw [if_pos h]
theorem S.prefZ_bad {l : List Int} {m k : Int} (h : S.okB l m k = false) : S.prefZ l m k = ([], false) := by unfold S.prefZ; rw [h]; rfl
theorem S.okB_iff {l : List Int} {m k : Int} : S.okB l m k = true ↔ S.mayB l = true ∧ 1 ≤ m ∧ 1 ≤ k ∧ k < (l.length : Int) := by
  unfold S.okB
  simp
theorem S.taken_zero {l : List Int} {m k : Int} (h : S.okB l m k = true) : (0 : Int) ∈ S.takenL l m k := by
  obtain ⟨h0, h1, h2, h3⟩ := S.okB_parts h
  obtain ⟨h4, _, h6, _⟩ := S.mayB_parts h0
  rw [S.takenL_mem, h6]
  refine ⟨Int.le_refl _, by omega, by omega, by omega, ?_⟩
  have e : S.upZ l 0 ((l.length : Int) - k) (31 + 1) = [] := by
    refine List.eq_nil_iff_forall_not_mem.2 fun x hx => ?_
    obtain ⟨a, b, _, _, c⟩ := S.upZ_mem.1 hx
    have := (S.mayB_parts h0).2.2.2 x a b
    omega
  rw [S.fromZ_is h (by omega), e]
  unfold S.mthLast
  rw [if_neg (by simp; omega)]
  omega
theorem S.taken_len {l : List Int} {m k : Int} : (S.takenL l m k).length ≤ l.length := by
  unfold S.takenL
  exact Nat.le_trans (List.length_filter_le _ _) (S.upFrom_len _ _ _ _ _)
theorem S.upZ_len (l : List Int) (fr hi n : Int) : (S.upZ l fr hi n).length ≤ l.length := S.upFrom_len _ _ _ _ _

/-- A rising list all of whose numbers are another's is no longer. -/
theorem S.sub_len {a b : List Int} (ha : S.Up a) (hb : S.Up b) (h : ∀ x ∈ a, x ∈ b) : a.length ≤ b.length := by
  have e : a = b.filter fun x => decide (x ∈ a) := by
    refine S.up_ext ha (S.up_filter hb _) fun x => ?_
    rw [List.mem_filter, decide_eq_true_eq]
    exact ⟨fun hx => ⟨h x hx, hx⟩, fun hx => hx.2⟩
  rw [e]
  exact List.length_filter_le _ _
/-- The numbers below one. -/
def S.below (n : Int) : List Int := (List.range n.toNat).map fun j : Nat => (j : Int)
theorem S.below_up (n : Int) : S.Up (S.below n) := by
  unfold S.below
  refine List.Pairwise.map _ (fun a b h => ?_) List.pairwise_lt_range
  exact Int.ofNat_lt.2 h
theorem S.below_mem {n x : Int} : x ∈ S.below n ↔ 0 ≤ x ∧ x < n := by
  unfold S.below
  rw [List.mem_map]
  constructor
  · rintro ⟨j, hj, rfl⟩
    have := List.mem_range.1 hj
    omega
  · intro h
    exact ⟨x.toNat, List.mem_range.2 (by omega), by omega⟩
theorem S.below_len (n : Int) : (S.below n).length = n.toNat := by simp [S.below]
theorem S.mthLast_more {U : List Int} (h : S.Up U) (h0 : ∀ x ∈ U, 0 ≤ x) {m m' : Int} (h1 : 1 ≤ m) (hm : m ≤ m') : S.mthLast U m' ≤ S.mthLast U m := by
  by_cases hu' : m' ≤ (U.length : Int)
  · unfold S.mthLast
    rw [if_pos hu', if_pos (by omega)]
    by_cases e : m = m'
    · subst e; exact Int.le_refl _
    · have := S.up_rd h (i := (U.length - m'.toNat)) (j := (U.length - m.toNat)) (by omega) (by omega)
      rw [show ((U.length - m'.toNat : Nat) : Int) = (U.length : Int) - m' from by omega, show ((U.length - m.toNat : Nat) : Int) = (U.length : Int) - m from by omega] at this
      omega
  · have e : S.mthLast U m' = 0 := by unfold S.mthLast; rw [if_neg hu']
    rw [e]
    by_cases hu : m ≤ (U.length : Int)
    · exact h0 _ (S.mthLast_mem h1 hu)
    · unfold S.mthLast; rw [if_neg hu]; omega
theorem S.taken_more {l : List Int} {m m' k : Int} (h : S.okB l m k = true) (hm : m ≤ m') (x : Int) (hx : x ∈ S.takenL l m k) : x ∈ S.takenL l m' k := by
  obtain ⟨h0, h1, h2, h3⟩ := S.okB_parts h
  have h' : S.okB l m' k = true := S.okB_iff.2 ⟨h0, by omega, h2, h3⟩
  rw [S.takenL_mem] at hx ⊢
  obtain ⟨x0, x1, x2, x3, x4⟩ := hx
  have hl := (S.mayB_parts h0).2.2.2 x x0 x1
  refine ⟨x0, x1, x2, x3, Int.le_trans ?_ x4⟩
  rw [S.fromZ_is h hl.2, S.fromZ_is h' hl.2]
  exact S.mthLast_more (S.upZ_up _ _ _ _) (fun y hy => (S.upZ_mem.1 hy).1) h1 hm
theorem S.taken_ahead (l : List Int) (m k : Int) : (S.takenL l m k).length ≤ ((l.length : Int) - k).toNat := by
  rw [← S.below_len]
  exact S.sub_len (S.takenL_up _ _ _) (S.below_up _) fun x hx => S.below_mem.2 (by have := S.takenL_mem.1 hx; exact ⟨this.1, this.2.2.1⟩)

end Go.Proofs.Yteekdggainficaa.X
end

section
/- velvet: the plain functions that its functions come to. -/
namespace Go.Proofs.Yteekdggainficaa.X
open Go.RowKit Go.Proofs.YteekdggainficaaW.PrintWords

/-- Blocks' levels. -/
def V.lev (l : List S36) : List Int := l.map fun x => x.f1
/-- velvet.May -/
def V.mayV (l : List S36) : Bool := S.mayB (V.lev l)
/-- The links behind a smooth block of a level: up to that level its place. -/
def V.upd (L : List Int) (i n : Int) : List Int := L.take 1 ++ List.replicate n.toNat i ++ L.drop (n.toNat + 1)
/-- Is a block smooth, if it should tell these links? -/
def V.isB (i : Nat) (x : S36) (L : List Int) : Bool := decide (i = 0) || (x.f0 && decide (x.f2 = L))
/-- velvet.walk: of each block the links that it should tell, and whether it is smooth. -/
def V.run : List S36 → Nat → List Int → List (List Int × Bool)
  | [], _, _ => []
  | x :: t, i, L => (L, V.isB i x L) :: V.run t (i + 1) (if i ≠ 0 ∧ V.isB i x L = true then V.upd L i x.f1 else L)
/-- velvet.Smooth -/
def V.smoothZ (l : List S36) : List Bool := if V.mayV l = true then (V.run l 0 [0]).map (·.2) else []
/-- velvet.Links -/
def V.linksZ (l : List S36) (i : Int) : List Int := if V.mayV l = true ∧ 1 ≤ i ∧ i < l.length then ((V.run l 0 [0]).getD i.toNat ([], false)).1 else []
/-- velvet.Prefix: the places of smooth blocks ahead of the last k. -/
def V.atL (l : List S36) (k : Int) : List Int := ((List.range ((l.length : Int) - k).toNat).filter fun j => (V.smoothZ l).getD j false).map fun j : Nat => (j : Int)
/-- Their levels, and k blocks of level 0. -/
def V.levA (l : List S36) (k : Int) : List Int := ((V.atL l k).map fun j => (l.getD j.toNat z36).f1) ++ List.replicate k.toNat 0
def V.prefZ (l : List S36) (m k : Int) : List Int × Bool := if V.mayV l = true ∧ 1 ≤ m ∧ 1 ≤ k ∧ k < l.length then ((S.prefZ (V.levA l k) m k).1.map fun j => rd (V.atL l k) j, true) else ([], false)

theorem V.run_len : ∀ (l : List S36) (i : Nat) (L : List Int), (V.run l i L).length = l.length
  | [], _, _ => rfl
  | x :: t, i, L => by simp [V.run, V.run_len t]

end Go.Proofs.Yteekdggainficaa.X
end

section
/- velvet's map of links: what it reads as; the links closure of velvet.walk. -/
namespace Go.Proofs.Yteekdggainficaa.X
open Go.RowKit Go.Maps Go.Proofs.YteekdggainficaaW.PrintWords Go.Proofs.YteekdggainficaaW.PrintLast Go.Proofs.YteekdggainficaaW.PrintMore

/-- A map reads as a list: at each of its places' numbers the place. -/
structure V.Reads (D : DataW Unit) (L : List Int) : Prop where
  tidy : Tidy D
  size : Maps.size D = L.length
  has : ∀ x : Int, has D (.int .i64 x) = true ↔ 0 ≤ x ∧ x < L.length
  at_ : ∀ (j : Nat) (z : DataW Unit), j < L.length → D.atKey (.int .i64 j) z = .lit (.int .i64 (rd L j))
/-- One place written: an old one, or the next one. -/
def V.put (L : List Int) (n : Nat) (i : Int) : List Int := if n < L.length then L.set n i else L ++ [i]
theorem V.put_len {L : List Int} {n : Nat} (i : Int) (_hn : n ≤ L.length) : (V.put L n i).length = if n < L.length then L.length else L.length + 1 := by
  unfold V.put
  split <;> simp
theorem V.rd_put {L : List Int} {n : Nat} (i : Int) (hn : n ≤ L.length) (j : Nat) : rd (V.put L n i) j = if j = n then i else rd L j := by
  unfold V.put
  simp only [rd, Int.toNat_natCast, List.getD_eq_getElem?_getD]
  split
  · rename_i h
    by_cases e : j = n
    · subst e; rw [if_pos rfl, List.getElem?_set_self h]; rfl
    · rw [if_neg e, List.getElem?_set_ne (Ne.symm e)]
  · rename_i h
    have hn' : n = L.length := by omega
    by_cases e : j = n
    · subst e; subst hn'; rw [if_pos rfl, List.getElem?_append_right (Nat.le_refl _)]; simp
    · rw [if_neg e]
      rcases Nat.lt_or_ge j L.length with h1 | h1
      · rw [List.getElem?_append_left h1]
      · rw [List.getElem?_eq_none (by simp; omega), List.getElem?_eq_none h1]
theorem V.key (n : Int) : WideAt.IsKeyLit (.int .i64 n) := trivial
theorem V.Reads.put {D : DataW Unit} {L : List Int} (h : V.Reads D L) {n : Nat} (hn : n ≤ L.length) (i : Int) : V.Reads (D.put (.int .i64 n) (.lit (.int .i64 i))) (V.put L n i) where
  tidy := h.tidy.put (V.key n) _
  size := by
    rw [size_put h.tidy, V.put_len i hn, h.size]
    by_cases e : n < L.length
    · rw [if_pos e, if_pos ((h.has n).2 ⟨by omega, by omega⟩)]
    · rw [if_neg e, if_neg (fun e' => e (by have := (h.has n).1 e'; omega))]
  has := fun x => by
    rw [V.put_len i hn]
    by_cases e : x = n
    · subst e
      rw [has_put_same h.tidy.isMap (V.key _)]
      split <;> simp <;> omega
    · rw [has_put_other (by intro e'; injection e' with _ e''; exact e e''), h.has]
      split <;> omega
  at_ := fun j z hj => by
    rw [V.rd_put i hn]
    by_cases e : j = n
    · subst e
      rw [if_pos rfl, atKey_put_same h.tidy.isMap (V.key _)]
    · rw [if_neg e, atKey_put_other (by intro e'; injection e' with _ e''; omega)]
      rw [V.put_len i hn] at hj
      exact h.at_ j z (by split at hj <;> omega)

abbrev V.owns (W : World) (b n : Nat) (D : DataW Unit) : Prop := W.ownsMap (H := Unit) Try.prog 3 (plainElem Try.prog 3) b n D
theorem V.zeroE (w : World) : (zeroValue 3).run Try.prog w = .ok (.int .i64 0) w := by kernel_rfl

theorem E.boxKept1 {W W' : World} {B : Nat} {t : TypeId} {v : Value} (h : Boxed W B t v) (hb : Below W.heap.size W W') : Boxed W' B t v := (hb.block B h.lt).trans h

/-- What the links closure hands back. -/
def V.Links1 (W : World) (L : List Int) (e : Ending) (w' : World) : Prop := ∃ v : Value, e = .returned v ∧ Kd.R (Kd.int .i64) 3 w' W.heap.size (fun _ => True) v L ∧ Below W.heap.size W w'
set_option maxHeartbeats 1000000 in
theorem V.links1_calls (W : World) (bp bm n : Nat) (D : DataW Unit) (L : List Int) (hp : Boxed W bp 56 (.map (some bm))) (ho : V.owns W bm n D) (hL : V.Reads D L) (hl : L.length ≤ 1000) :
    Calls Try.prog 42 #[.pointer (some ⟨bp, 0, none⟩)] W (V.Links1 W L) := by
  have c1 := hp.cell
  have hlen := fun ty => ho.len Try.underlying56 ty
  have HP := Aside0.mk hp
  have HO := Aside0.mk ho
  have HL := Aside0.mk hL
  have hsz := hL.size
  generalize hPP : V.Links1 W L = Post
  clear hp ho hL
  go_enter Try.func42, Try.ntmps42
  go_wp2
  go_loopg [2, 3, 6] L.length (fun kq v2 _ v6 w' => ∃ k : Nat, v6 = .int .i64 k ∧ k ≤ L.length ∧ L.length - k ≤ kq ∧ Aside0 (Kd.R (Kd.int .i64) 3 w' W.heap.size (fun _ => True) v2 (L.take k)) ∧ Aside0 (Below W.heap.size W w'))
  case atStart => exact ⟨0, rfl, Nat.zero_le _, by omega, ⟨Kd.R_nil _ _ _ _ _⟩, ⟨Below.refl _ _⟩⟩
  case round =>
    obtain ⟨k, rfl, hk, hg, HR, HB⟩ := hrel
    have hp1 := (E.boxKept1 HP.out HB.out).cell
    have ho1 := HO.out.kept (grown_of_below HB.out none) (by simp)
    have HO1 := Aside0.mk ho1
    clear ho1
    by_cases hlt : k < L.length
    · have hltz : (k : Int) < (L.length : Int) := by omega
      have cb : decide ((k : Int) < (L.length : Int)) = true := decide_eq_true hltz
      have hkey : keyOf Try.prog 3 (.int .i64 k) = some (.int .i64 k) := Maps.keyOf_int_mk (P := Try.prog) Try.underlying3 (WalkArith.wf_i64 (by omega))
      have hat0 := HL.out.at_ k (.lit (.int .i64 0)) hlt
      have HKY := Aside0.mk hkey
      have HAT := Aside0.mk hat0
      clear hkey hat0
      go_wp2_with (first
        | (at_lookup; refine wpList_lookup_own_int _ rfl _ _ 56 rfl 3 3 .i64 (int_keyed Try.underlying3) Try.underlying56 Try.underlying3 (V.zeroE _) bm n D rfl HO1.out _ _ rfl HKY.out ?_; intro c hat hwc; have hc : rd L k = c := (by have := HAT.out.symm.trans hat; injection this with this; injection this); have HC := Aside0.mk hc; clear hat hwc hc)
        | ((with_reducible refine gate_builtin (b := .append) (xs := #[.tmp 9, .tmp 13]) rfl ?_); at_builtin; refine Kd.R_append (Kd.int .i64) (w0 := W) W.heap.size rfl (.tmp 9) (.tmp 13) 26 3 (.int .i64 0) 8 rfl Try.underlying26 info3 rfl (by decide) (by omega) u2 (L.take k) c [.int .i64 c] (fun _ => True) (fun _ => False) rfl rfl rfl (fun _ hk => hk.elim) (fun _ _ => trivial) HR.out HB.out HB.out.size ?aL ?_; (case aL => rw [List.length_take]; omega); intro v1 w1 hr1 hb1 hg1 hat1; have HR1 := Aside0.mk hr1; have HB1 := Aside0.mk hb1; clear hr1 hb1 hg1 hat1)
        | fail)
      go_roundg (L.length - (k + 1))
      case measure => omega
      case rel =>
        refine ⟨k + 1, by go_num, by omega, by omega, ⟨?_⟩, HB1⟩
        rw [List.take_succ_eq_append_getElem hlt, ← rd_get hlt, HC.out]
        exact HR1.out
    · have hltz : ¬ (k : Int) < (L.length : Int) := by omega
      have cb : decide ((k : Int) < (L.length : Int)) = false := decide_eq_false hltz
      obtain rfl : k = L.length := by omega
      go_wp2
      subst hPP
      have hr := HR.out
      rw [List.take_length] at hr
      exact ⟨_, rfl, hr, HB.out⟩

end Go.Proofs.Yteekdggainficaa.X
end

section
-- By this session's own program (wip/tools/xprint.py), over the kit's print. Not trusted: Lean checks it.
namespace Go.Proofs.Yteekdggainficaa.X
open Go.RowKit Go.Proofs.YteekdggainficaaW.PrintWords Go.Proofs.YteekdggainficaaW.PrintLast Go.Proofs.YteekdggainficaaW.PrintMore
attribute [local go_sem] max2_int min2_int max_two min_two max_three min_three max_four min_four   -- for this text's walks alone
set_option linter.unusedVariables false
set_option linter.unusedSimpArgs false

/-! ### slices_Equal_int_int: function 28 -/
def slices_Equal_int_int.l0 : Nat → List Int → List Int → Int → Int → Option (Bool)
  | 0, _, _, _, _ => none
  | k + 1, x0, x1, x12, x13 => if x13 < x12 then (if 0 ≤ x13 then (if x13 < (x0.length : Int) then (if x13 < (x1.length : Int) then (if (rd x0 x13) = (rd x1 x13) then (slices_Equal_int_int.l0 k x0 x1 x12 (wrap64 (x13 + 1))) else (some false)) else (none)) else (none)) else (none)) else (some true)
def slices_Equal_int_int.f (k : Nat) (l0 : List Int) (l1 : List Int) : Option (Bool) := if (l0.length : Int) = (l1.length : Int) then (slices_Equal_int_int.l0 k l0 l1 (l0.length : Int) 0) else (some false)
theorem slices_Equal_int_int.mono_l : ∀ k, (∀ y0 y1 y2 y3, LeO (slices_Equal_int_int.l0 k y0 y1 y2 y3) (slices_Equal_int_int.l0 (k + 1) y0 y1 y2 y3))
  | 0 => fun _ _ _ _ r h => by simp [slices_Equal_int_int.l0] at h
  | k + 1 => by
    have ih0 := slices_Equal_int_int.mono_l k
    · intro y0 y1 y2 y3
      unfold slices_Equal_int_int.l0
      repeat' first
      | (with_reducible exact ih0 _ _ _ _)
      | (with_reducible exact LeO.refl _)
      | (with_reducible exact LeO.none _)
      | (with_reducible refine LeO.ite ?_ ?_)
      | (with_reducible refine LeO.bind ?_ (fun _ => ?_))
      | exact ih0 _ _ _ _
      | exact LeO.none _
      | refine LeO.ite ?_ ?_
      | refine LeO.bind ?_ (fun _ => ?_)
theorem slices_Equal_int_int.mono : ∀ a0 a1 k, LeO (slices_Equal_int_int.f k a0 a1) (slices_Equal_int_int.f (k + 1) a0 a1) := by
  intro a0 a1 k
  have ih0 := slices_Equal_int_int.mono_l k
  unfold slices_Equal_int_int.f
  repeat' first
      | (with_reducible exact ih0 _ _ _ _)
      | (with_reducible exact LeO.refl _)
      | (with_reducible exact LeO.none _)
      | (with_reducible refine LeO.ite ?_ ?_)
      | (with_reducible refine LeO.bind ?_ (fun _ => ?_))
      | exact ih0 _ _ _ _
      | exact LeO.none _
      | refine LeO.ite ?_ ?_
      | refine LeO.bind ?_ (fun _ => ?_)
set_option maxHeartbeats 8000000 in
set_option maxRecDepth 100000 in
theorem slices_Equal_int_int.calls (k : Nat) (A0 : Option Addr) (c0 : Nat) (l0 : List Int) (A1 : Option Addr) (c1 : Nat) (l1 : List Int) (r : Bool) (w : World) (hr0 : Kd.C (Kd.int .i64) w A0 l0.length l0) (hc0 : l0.length ≤ c0) (hr1 : Kd.C (Kd.int .i64) w A1 l1.length l1) (hc1 : l1.length ≤ c1) (h : slices_Equal_int_int.f k l0 l1 = some r) :
    Calls Try.prog 28 #[.slice A0 l0.length c0, .slice A1 l1.length c1] w fun e w' => e = .returned (.bool r) ∧ Drawn0 w w' := by
  have HR0 := Aside0.mk hr0
  have HC0 := Aside0.mk hc0
  clear hr0 hc0
  have HR1 := Aside0.mk hr1
  have HC1 := Aside0.mk hc1
  clear hr1 hc1
  have H : (if (l0.length : Int) = (l1.length : Int) then (slices_Equal_int_int.l0 k l0 l1 (l0.length : Int) 0) else (some false)) = some r := h
  clear h
  by_cases c3 : (l0.length : Int) = (l1.length : Int)
  · rw [if_pos c3] at H
    have c3b0 : ((l0.length : Int) == (l1.length : Int)) = true := beq_iff_eq.mpr c3
    have c3b1 : ((l0.length : Int) != (l1.length : Int)) = false := bne_eq_false_iff_eq.mpr c3
    have c3b2 : (l0.length == l1.length) = true := by first | simpa using c3 | (simp at c3 ⊢; omega)
    clear c3
    have H' := Aside0.mk H
    clear H
    go_enter Try.func28, Try.ntmps28
    go_wp2
    repeat (go_quiet (fail); try go_wp2)
    go_loopg [13] k (fun kq v13 w' => ∃ (x13_1 : Int), v13 = .int .i64 x13_1 ∧ Aside0 (slices_Equal_int_int.l0 kq l0 l1 (l0.length : Int) x13_1 = some r) ∧ Aside0 (kq ≤ k) ∧ Drawn0 w w')
    case atStart => exact ⟨(0), (by first | rfl | (simp; done) | (simp [*]; done)), H', ⟨Nat.le_refl _⟩, by repeat (first | exact Drawn0.refl _ | apply Drawn0.step)⟩
    case round =>
      clear H'
      try clear c1
      try clear c2
      try clear p2
      try clear c3
      try clear c3b0
      try clear c3b1
      try clear c3b2
      obtain ⟨x13_1, rfl, HA, HK1, ⟨m1, rfl⟩⟩ := hrel
      cases gk with
      | zero => exact absurd HA.out (by simp [slices_Equal_int_int.l0])
      | succ k1 =>
        have H := HA.out
        clear HA
        simp only [slices_Equal_int_int.l0] at H
        by_cases c4 : x13_1 < (l0.length : Int)
        · rw [if_pos c4] at H
          have c4b0 : decide (x13_1 < (l0.length : Int)) = true := decide_eq_true c4
          clear c4
          by_cases c5 : 0 ≤ x13_1
          · rw [if_pos c5] at H
            have c5b0 : decide (0 ≤ x13_1) = true := decide_eq_true c5
            clear c5
            by_cases c6 : x13_1 < (l0.length : Int)
            · rw [if_pos c6] at H
              have c6b0 : decide (x13_1 < (l0.length : Int)) = true := decide_eq_true c6
              clear c6
              by_cases c7 : x13_1 < (l1.length : Int)
              · rw [if_pos c7] at H
                have c7b0 : decide (x13_1 < (l1.length : Int)) = true := decide_eq_true c7
                clear c7
                by_cases c8 : (rd l0 x13_1) = (rd l1 x13_1)
                · rw [if_pos c8] at H
                  have c8b0 : ((rd l0 x13_1) == (rd l1 x13_1)) = true := beq_iff_eq.mpr c8
                  have c8b1 : ((rd l0 x13_1) != (rd l1 x13_1)) = false := bne_eq_false_iff_eq.mpr c8
                  clear c8
                  have H' := Aside0.mk H
                  clear H
                  have p376 : 0 ≤ (x13_1 : Int) := of_decide_eq_true (by first | (with_reducible assumption) | assumption)
                  have q376 : x13_1 < (l0.length : Int) := of_decide_eq_true (by first | (with_reducible assumption) | assumption)
                  obtain ⟨ad376, e376, hx376_0⟩ := Kd.at_int HR0.out x13_1 p376 q376
                  cases e376
                  replace p376 := eq_true p376
                  replace q376 := eq_true q376
                  have p377 : 0 ≤ (x13_1 : Int) := of_decide_eq_true (by first | (with_reducible assumption) | assumption)
                  have q377 : x13_1 < (l1.length : Int) := of_decide_eq_true (by first | (with_reducible assumption) | assumption)
                  obtain ⟨ad377, e377, hx377_0⟩ := Kd.at_int HR1.out x13_1 p377 q377
                  cases e377
                  replace p377 := eq_true p377
                  replace q377 := eq_true q377
                  go_wp2
                  repeat (go_quiet (fail); try go_wp2)
                  go_roundg k1
                  case measure => have := HK1.out; omega
                  case rel => exact ⟨(wrap64 (x13_1 + 1)), (by first | rfl | (simp; done) | (simp [*]; done)), H', ⟨by have := HK1.out; omega⟩, by repeat (first | exact Drawn0.refl _ | apply Drawn0.step)⟩
                · rw [if_neg c8] at H
                  have c8b0 : ((rd l0 x13_1) == (rd l1 x13_1)) = false := beq_eq_false_iff_ne.mpr c8
                  have c8b1 : ((rd l0 x13_1) != (rd l1 x13_1)) = true := bne_iff_ne.mpr c8
                  obtain rfl := Option.some.inj H
                  have p376 : 0 ≤ (x13_1 : Int) := of_decide_eq_true (by first | (with_reducible assumption) | assumption)
                  have q376 : x13_1 < (l0.length : Int) := of_decide_eq_true (by first | (with_reducible assumption) | assumption)
                  obtain ⟨ad376, e376, hx376_0⟩ := Kd.at_int HR0.out x13_1 p376 q376
                  cases e376
                  replace p376 := eq_true p376
                  replace q376 := eq_true q376
                  have p377 : 0 ≤ (x13_1 : Int) := of_decide_eq_true (by first | (with_reducible assumption) | assumption)
                  have q377 : x13_1 < (l1.length : Int) := of_decide_eq_true (by first | (with_reducible assumption) | assumption)
                  obtain ⟨ad377, e377, hx377_0⟩ := Kd.at_int HR1.out x13_1 p377 q377
                  cases e377
                  replace p377 := eq_true p377
                  replace q377 := eq_true q377
                  go_wp2
                  repeat (go_quiet (fail); try go_wp2)
                  go_ret
                  exact ⟨by first | rfl | (simp; done) | (simp [*]; done), by repeat (first | exact Drawn0.refl _ | apply Drawn0.step)⟩
              · rw [if_neg c7] at H
                exact absurd H (by simp)
            · rw [if_neg c6] at H
              exact absurd H (by simp)
          · rw [if_neg c5] at H
            exact absurd H (by simp)
        · rw [if_neg c4] at H
          have c4b0 : decide (x13_1 < (l0.length : Int)) = false := decide_eq_false c4
          clear c4
          obtain rfl := Option.some.inj H
          go_wp2
          repeat (go_quiet (fail); try go_wp2)
          go_ret
          exact ⟨by first | rfl | (simp; done) | (simp [*]; done), by repeat (first | exact Drawn0.refl _ | apply Drawn0.step)⟩
  · rw [if_neg c3] at H
    have c3b0 : ((l0.length : Int) == (l1.length : Int)) = false := beq_eq_false_iff_ne.mpr c3
    have c3b1 : ((l0.length : Int) != (l1.length : Int)) = true := bne_iff_ne.mpr c3
    have c3b2 : (l0.length == l1.length) = false := by first | simpa using c3 | (simp at c3 ⊢; omega)
    obtain rfl := Option.some.inj H
    go_enter Try.func28, Try.ntmps28
    go_wp2
    repeat (go_quiet (fail); try go_wp2)
    go_ret
    exact ⟨by first | rfl | (simp; done) | (simp [*]; done), by repeat (first | exact Drawn0.refl _ | apply Drawn0.step)⟩

end Go.Proofs.Yteekdggainficaa.X
end

section
/- velvet.walk's plain facts; slices.Equal. -/
namespace Go.Proofs.Yteekdggainficaa.X
open Go.RowKit Go.Maps Go.Proofs.YteekdggainficaaW.PrintWords Go.Proofs.YteekdggainficaaW.PrintLast Go.Proofs.YteekdggainficaaW.PrintMore

theorem V.equal_l0 (a b : List Int) (ha : a.length ≤ 1000000) (hab : a.length = b.length) (d : Nat) : ∀ (k i : Nat), a.length - i = d → i ≤ a.length → d < k →
    slices_Equal_int_int.l0 k a b a.length i = some (decide (a.drop i = b.drop i)) := by
  induction d with
  | zero =>
    intro k i hd hi hk
    obtain ⟨k, rfl⟩ : ∃ m, k = m + 1 := ⟨k - 1, by omega⟩
    simp only [slices_Equal_int_int.l0]
    rw [if_neg (by omega), List.drop_of_length_le (by omega), List.drop_of_length_le (by omega)]
    rfl
  | succ d ih =>
    intro k i hd hi hk
    obtain ⟨k, rfl⟩ : ∃ m, k = m + 1 := ⟨k - 1, by omega⟩
    have h1 : i < a.length := by omega
    have h2 : i < b.length := by omega
    simp only [slices_Equal_int_int.l0]
    rw [if_pos (by omega), if_pos (by omega), if_pos (by omega), if_pos (by omega), rd_get h1, rd_get h2, List.drop_eq_getElem_cons h1, List.drop_eq_getElem_cons h2]
    have hw : wrap64 ((i : Int) + 1) = ((i + 1 : Nat) : Int) := by rw [E.wrap_id (by omega) (by omega)]; omega
    by_cases h : a[i] = b[i]
    · rw [if_pos h, hw, ih k (i + 1) (by omega) (by omega) (by omega)]
      congr 1
      rw [decide_eq_decide, h]
      exact ⟨fun e => by rw [e], fun e => by injection e⟩
    · rw [if_neg h]
      congr 1
      symm
      rw [decide_eq_false_iff_not]
      intro e
      injection e with e1 e2
      exact h e1
theorem V.equal_f (a b : List Int) (hb : b.length ≤ 1000000) (k : Nat) (hk : b.length + 1 < k) : slices_Equal_int_int.f k a b = some (decide (a = b)) := by
  unfold slices_Equal_int_int.f
  by_cases h : (a.length : Int) = (b.length : Int)
  · have := V.equal_l0 a b (by omega) (by omega) a.length k 0 (by omega) (by omega) (by omega)
    rw [show ((0 : Nat) : Int) = 0 from rfl] at this
    rw [if_pos h, this]
    simp
  · rw [if_neg h]
    congr 1
    symm
    rw [decide_eq_false_iff_not]
    intro e
    rw [e] at h
    exact h rfl

/-- The links that a block should tell. -/
def V.lnk (l : List S36) : Nat → List Int
  | 0 => [0]
  | i + 1 => if i ≠ 0 ∧ V.isB i (l.getD i z36) (V.lnk l i) = true then V.upd (V.lnk l i) i (l.getD i z36).f1 else V.lnk l i
/-- Is it smooth? -/
def V.sm (l : List S36) (i : Nat) : Bool := V.isB i (l.getD i z36) (V.lnk l i)
theorem V.run_get (l : List S36) : ∀ (d i : Nat), l.length - i = d → i ≤ l.length → V.run (l.drop i) i (V.lnk l i) = (List.range' i d).map fun j => (V.lnk l j, V.sm l j) := by
  intro d
  induction d with
  | zero =>
    intro i hd hi
    rw [List.drop_of_length_le (by omega)]
    rfl
  | succ d ih =>
    intro i hd hi
    have h1 : i < l.length := by omega
    have e : l.getD i z36 = l[i] := by rw [List.getD_eq_getElem?_getD, List.getElem?_eq_getElem h1]; rfl
    rw [List.drop_eq_getElem_cons h1, V.run, List.range'_succ, List.map_cons, ← ih (i + 1) (by omega) (by omega)]
    simp only [V.lnk, V.sm, e]
theorem V.run_is (l : List S36) : V.run l 0 [0] = (List.range l.length).map fun j => (V.lnk l j, V.sm l j) := by
  have := V.run_get l l.length 0 (by omega) (by omega)
  rw [List.drop_zero] at this
  rw [List.range_eq_range']
  exact this
theorem V.upd_len {L : List Int} (i : Int) (n : Int) (h : 1 ≤ L.length) : (V.upd L i n).length = max L.length (n.toNat + 1) := by
  unfold V.upd
  simp
  omega
theorem V.lnk_len (l : List S36) (hl : ∀ x ∈ l, x.f1 ≤ 31) : ∀ i : Nat, 1 ≤ (V.lnk l i).length ∧ (V.lnk l i).length ≤ 32 := by
  intro i
  induction i with
  | zero => exact ⟨by simp [V.lnk], by simp [V.lnk]⟩
  | succ i ih =>
    unfold V.lnk
    split
    · rw [V.upd_len _ _ ih.1]
      have hb : (l.getD i z36).f1 ≤ 31 := by
        rw [List.getD_eq_getElem?_getD]
        rcases Nat.lt_or_ge i l.length with h | h
        · rw [List.getElem?_eq_getElem h]; exact hl _ (List.getElem_mem h)
        · rw [List.getElem?_eq_none h]; decide
      omega
    · exact ih

end Go.Proofs.Yteekdggainficaa.X
end

section
/- velvet.walk, whatever it calls. -/
namespace Go.Proofs.Yteekdggainficaa.X
open Go.RowKit Go.Shelf Go.Maps Go.Proofs.YteekdggainficaaW.PrintWords Go.Proofs.YteekdggainficaaW.PrintLast Go.Proofs.YteekdggainficaaW.PrintMore

/-- What a callback lets be: maps, and the walk's own boxes. -/
def V.Fr (W W' : World) : Prop := W.heap.size ≤ W'.heap.size ∧ ∀ (k : Nat) (o : Obj), W.heap[k]? = some o → ((∃ es cl, o = .map es cl) ∨ ∃ cs fr, o = .cells cs 56 fr ∨ o = .cells cs 36 fr) → W'.heap[k]? = some o
theorem V.ext {a b : List Int} (hl : a.length = b.length) (h : ∀ j : Nat, j < a.length → rd a j = rd b j) : a = b := by
  refine List.ext_getElem hl fun j h1 h2 => ?_
  have := h j h1
  rwa [rd_get h1, rd_get h2] at this
theorem V.rd_upd {L : List Int} {n : Nat} (i : Int) (h : 1 ≤ L.length) (j : Nat) : rd (V.upd L i n) j = if 1 ≤ j ∧ j ≤ n then i else rd L j := by
  unfold V.upd
  simp only [rd, Int.toNat_natCast, List.getD_eq_getElem?_getD]
  have ht : (L.take 1).length = 1 := by rw [List.length_take]; omega
  rcases Nat.lt_or_ge j 1 with h1 | h1
  · rw [if_neg (by omega), List.append_assoc, List.getElem?_append_left (by omega), List.getElem?_take_of_lt h1]
  · rw [List.append_assoc, List.getElem?_append_right (by omega), ht]
    by_cases h2 : j ≤ n
    · rw [if_pos ⟨h1, h2⟩, List.getElem?_append_left (by simp; omega), List.getElem?_replicate_of_lt (by omega)]
      rfl
    · rw [if_neg (by omega), List.getElem?_append_right (by simp; omega), List.length_replicate, List.getElem?_drop]
      congr 2
      omega
theorem V.put_upd {L : List Int} {n : Nat} (i : Int) (h : 1 ≤ L.length) : V.put (V.upd L i n) (n + 1) i = V.upd L i ((n + 1 : Nat) : Int) := by
  have l1 := V.upd_len i (n : Int) h
  have l2 := V.upd_len i ((n + 1 : Nat) : Int) h
  have hn : n + 1 ≤ (V.upd L i n).length := by rw [l1]; omega
  have l3 := V.put_len i hn
  refine V.ext (by rw [l3, l2, l1]; split <;> omega) fun j _ => ?_
  rw [V.rd_put i hn, V.rd_upd (n := n + 1) i h j]
  by_cases e : j = n + 1
  · rw [if_pos e, if_pos (by omega)]
  · rw [if_neg e, V.rd_upd (n := n) i h j]
    by_cases e2 : 1 ≤ j ∧ j ≤ n
    · rw [if_pos e2, if_pos (by omega)]
    · rw [if_neg e2, if_neg (by omega)]
theorem V.upd_zero {L : List Int} (i : Int) : V.upd L i 0 = L := by
  cases L <;> rfl

theorem V.may_lev {l : List S36} (h : V.mayV l = true) : ∀ x ∈ l, 0 ≤ x.f1 ∧ x.f1 ≤ 31 := by
  unfold V.mayV S.mayB at h
  simp only [Bool.and_eq_true, decide_eq_true_eq, Bool.not_eq_true', List.any_eq_false] at h
  intro x hx
  have := h.2.2.2 x.f1 (List.mem_map.2 ⟨x, hx, rfl⟩)
  unfold S.oddB at this
  simp at this
  omega
theorem V.may_len {l : List S36} (h : V.mayV l = true) : l.length ≤ 200 := by
  unfold V.mayV S.mayB at h
  simp only [Bool.and_eq_true, decide_eq_true_eq] at h
  have := h.2.1
  rwa [V.lev, List.length_map] at this
theorem V.lev_at {l : List S36} (h : ∀ x ∈ l, 0 ≤ x.f1 ∧ x.f1 ≤ 31) {i : Nat} (hi : i < l.length) : 0 ≤ (l.getD i z36).f1 ∧ (l.getD i z36).f1 ≤ 31 := by
  rw [List.getD_eq_getElem?_getD, List.getElem?_eq_getElem hi]
  exact h _ (List.getElem_mem hi)
theorem V.lnk_hit {l : List S36} {i : Nat} (h1 : i ≠ 0) (h2 : V.sm l i = true) : V.lnk l (i + 1) = V.upd (V.lnk l i) i (l.getD i z36).f1 := by
  rw [V.lnk, if_pos ⟨h1, h2⟩]
theorem V.lnk_skip {l : List S36} {i : Nat} (h : i = 0 ∨ V.sm l i = false) : V.lnk l (i + 1) = V.lnk l i := by
  rw [V.lnk, if_neg]
  rintro ⟨h1, h2⟩
  rcases h with h | h
  · exact h1 h
  · unfold V.sm at h; rw [h2] at h; cases h
theorem V.Fr.box {W W' : World} (h : V.Fr W W') {b : Nat} {v : Value} (hb : Boxed W b 56 v) : Boxed W' b 56 v := h.2 _ _ hb (.inr ⟨_, _, .inl rfl⟩)
theorem V.Fr.owns {W W' : World} (h : V.Fr W W') {b n : Nat} {D : DataW Unit} (ho : V.owns W b n D) : V.owns W' b n D := by
  obtain ⟨es, clock, hb, F, hs, hD⟩ := ho
  exact ⟨es, clock, h.2 _ _ hb (.inl ⟨_, _, rfl⟩), F, hs, hD⟩
theorem V.blk_ne_map {W : World} {b n : Nat} {D : DataW Unit} (ho : V.owns W b n D) {B : Nat} {cs : Array Value} {t : TypeId} {fr : Nat × Nat} (hb : W.heap[B]? = some (.cells cs t fr)) : B ≠ b := by
  rintro rfl
  obtain ⟨es, clock, h, _⟩ := ho
  rw [hb] at h
  cases h
theorem V.box_ne {W : World} {b n : Nat} {D : DataW Unit} (ho : V.owns W b n D) {B : Nat} {t : TypeId} {v : Value} (hb : Boxed W B t v) : B ≠ b := V.blk_ne_map ho hb
theorem V.reads_start {l : List S36} : V.Reads ((DataW.map []).put (.int .i64 0) (.lit (.int .i64 0))) (V.lnk l 0) := by
  have h0 : V.Reads (DataW.map []) [] := ⟨tidy_empty, rfl, fun x => by simp [Maps.has], fun j z hj => by simp at hj⟩
  exact h0.put (n := 0) (Nat.le_refl _) 0

end Go.Proofs.Yteekdggainficaa.X
end
