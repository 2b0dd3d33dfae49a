/- Texts of this proof, laid together by wip/tools/merge.py: E4, XsuperPrefix, PA, PI, PR, PureInfixTells. -/
import Derived.Test.YtgjkjndfnjabeaaMInfixTells1
import Derived.Maps.OwnSet
import Derived.Maps.Keyed
import Derived.OwnWalkIn
import Derived.TacticsInMore
import Derived.Test.YtgjkjndfnjabeaaMInfixTells2
import Derived.Test.YtgjkjndfnjabeaaMInfixTells3
import Derived.Test.YtgjkjndfnjabeaaMInfixTells4
import Derived.Test.YtgjkjndfnjabeaaMInfixTells5
import Derived.Test.YtgjkjndfnjabeaaMInfixTells9
section
/- super.Prefix: what is taken, kept in a map, its keys sorted. -/
namespace Go.Proofs.Ytgjkjndfnjabeaa.X
open Go.RowKit Go.Shelf Go.Maps Go.Sort Go.Proofs.YtgjkjndfnjabeaaW.PrintWords Go.Proofs.YtgjkjndfnjabeaaW.PrintLast Go.Proofs.YtgjkjndfnjabeaaW.PrintMore

/-- The set of some numbers, as the map reads. -/
def E.setD (acc : List Int) : DataW Unit := setOf (.agg []) (acc.map fun x => Lit.int .i64 x)
theorem E.setD_snoc (acc : List Int) (x : Int) : E.setD (acc ++ [x]) = (E.setD acc).put (.int .i64 x) (.agg []) := by
  unfold E.setD
  rw [List.map_append, List.map_cons, List.map_nil, setOf_snoc]
abbrev E.owns (W : World) (b : Nat) (acc : List Int) : Prop := W.ownsMap (H := Unit) Try.prog 3 unitElem b acc.length (E.setD acc)

theorem E.take_snoc {L : List Int} {k : Nat} (h : k < L.length) : L.take (k + 1) = L.take k ++ [rd L k] := by
  rw [List.take_succ_eq_append_getElem h, rd_get h]

theorem E.add_block (a : Addr) (n : Nat) : (a.add n).block = a.block := by unfold Addr.add; split <;> rfl

/-- Numbers that an int holds. -/
def E.Ints (L : List Int) : Prop := ∀ x ∈ L, -9223372036854775808 ≤ x ∧ x ≤ 9223372036854775807

set_option maxHeartbeats 1000000 in
theorem E.pref1_calls (v1 v2 : Value) (A0 : Option Addr) (c0 : Nat) (L : List Int) (W : World) (bp bm : Nat) (acc : List Int) (hp : Boxed W bp 35 (.map (some bm))) (ho : E.owns W bm acc) (hC : Kd.C (Kd.int .i64) W A0 L.length L)
    (hA : ∀ ad, A0 = some ad → 0 < L.length → ad.block ≠ bm) (hwf : E.Ints L) (hn : acc.length + L.length < 9223372036854775807) :
    Calls Try.prog 29 #[v1, v2, .slice A0 L.length c0, .pointer (some ⟨bp, 0, none⟩)] W fun e W' => e = .returned (.tuple #[]) ∧ E.owns W' bm (acc ++ L) ∧ W.grownBy W' (some bm) := by
  have HP := Aside0.mk hp
  have HO := Aside0.mk ho
  have hmx := Kd.C_max hC
  have HC := Aside0.mk hC
  have HA := Aside0.mk hA
  have HW := Aside0.mk hwf
  have hpm : bp ≠ bm := by
    intro e
    subst e
    obtain ⟨es, clock, hb, _⟩ := ho
    rw [show W.heap[bp]? = _ from hp] at hb
    cases hb
  clear hp ho hC hA hwf
  go_enter Try.func29, Try.ntmps29
  go_wp2
  go_loopg [8, 11] L.length (fun kq _ v11 w' => ∃ k : Nat, v11 = .int .i64 k ∧ k ≤ L.length ∧ L.length - k ≤ kq ∧ Aside0 (E.owns w' bm (acc ++ L.take k)) ∧ Aside0 (W.grownBy w' (some bm)))
  case atStart => exact ⟨0, rfl, Nat.zero_le _, by omega, ⟨by simpa using HO.out⟩, ⟨World.grownBy.refl _ _⟩⟩
  case round =>
    obtain ⟨k, rfl, hk, hg, HO1, HG⟩ := hrel
    clear HO
    by_cases hlt : k < L.length
    · have hltz : (k : Int) < (L.length : Int) := by omega
      have p1 : 0 ≤ (k : Int) := by omega
      have cb : decide ((k : Int) < (L.length : Int)) = true := by rw [decide_eq_true_eq]; exact hltz
      obtain ⟨ad, e1, hx⟩ := Kd.at_int HC.out k p1 hltz
      cases e1
      rw [Int.toNat_natCast] at hx
      have hx1 : wr.cell? (ad.add k) = some (.int .i64 (rd L k)) := HG.out.cell hx (by rw [E.add_block]; intro e; exact HA.out ad rfl (by omega) (Option.some.inj e))
      have hp1 := (HP.out.kept HG.out (fun e => hpm (Option.some.inj e))).cell
      have HX := Aside0.mk hx
      clear hx
      have hwx : (Lit.int .i64 (rd L k)).wf = true := WalkArith.wf_i64 (HW.out _ (S.rd_mem p1 hltz))
      have hkey := Maps.keyOf_int_mk (P := Try.prog) Try.underlying3 hwx
      have HN : (acc ++ L.take k).length < maxLen := by unfold maxLen; rw [List.length_append, List.length_take]; omega
      generalize hy : rd L k = y at *
      have HY := Aside0.mk hy
      clear hy
      have HK := Aside0.mk hkey
      clear hkey hwx
      have HNN := Aside0.mk HN
      clear HN
      go_wp2_with (at_mapUpdate; refine wpList_mapUpdate_own _ rfl _ _ _ 35 rfl 3 37 (int_keyed Try.underlying3) Try.underlying35 unitElem bm _ _ rfl HO1.out HNN.out _ _ _ rfl rfl HK.out _ [] unitElem_mk ?_; intro w1 hown1 hgrow1; have HO2 := Aside0.mk hown1; have HG2 := Aside0.mk hgrow1; clear hown1 hgrow1)
      go_roundg (L.length - (k + 1))
      case measure => omega
      case rel =>
        refine ⟨k + 1, by go_num, by omega, by omega, ⟨?_⟩, ⟨HG.out.trans HG2.out⟩⟩
        show w1.ownsMap (H := Unit) _ _ _ _ _ _
        rw [E.take_snoc hlt, HY.out, ← List.append_assoc, E.setD_snoc, List.length_append]
        exact HO2.out
    · have hltz : ¬ (k : Int) < (L.length : Int) := by omega
      have cb : decide ((k : Int) < (L.length : Int)) = false := by rw [decide_eq_false_iff_not]; exact hltz
      obtain rfl : k = L.length := by omega
      go_wp2
      go_end0
      exact ⟨rfl, by rw [List.take_length] at HO1; exact HO1.out, HG.out⟩

/-- What has been collected ahead of round i. -/
def S.accAt (l : List Int) (m k : Int) : Nat → List Int
  | 0 => []
  | i + 1 => S.accAt l m k i ++ S.climbL l m k i
theorem S.accAt_mem (l : List Int) (m k : Int) (x : Int) : ∀ i : Nat, x ∈ S.accAt l m k i ↔ ∃ j, j < i ∧ x ∈ S.climbL l m k j
  | 0 => by simp [S.accAt]
  | i + 1 => by
    unfold S.accAt
    rw [List.mem_append, S.accAt_mem l m k x i]
    constructor
    · rintro (⟨j, hj, hx⟩ | hx)
      · exact ⟨j, by omega, hx⟩
      · exact ⟨i, by omega, hx⟩
    · rintro ⟨j, hj, hx⟩
      by_cases e : j = i
      · subst e; exact .inr hx
      · exact .inl ⟨j, by omega, hx⟩
theorem S.upFrom_len (l : List Int) : ∀ (i fr hi n : Int), (S.upFrom l i fr hi n).length ≤ l.length := by
  induction l with
  | nil => intro i fr hi n; simp [S.upFrom]
  | cons x l ih =>
    intro i fr hi n
    unfold S.upFrom
    have := ih (i + 1) fr hi n
    split
    · rw [List.length_cons, List.length_cons]; omega
    · rw [List.length_cons]; omega
theorem S.accAt_len (l : List Int) (m k : Int) : ∀ i : Nat, (S.accAt l m k i).length ≤ i * l.length
  | 0 => by simp [S.accAt]
  | i + 1 => by
    unfold S.accAt
    have h1 := S.accAt_len l m k i
    have h2 : (S.climbL l m k i).length ≤ l.length := S.upFrom_len _ _ _ _ _
    rw [List.length_append, Nat.add_mul]
    omega
theorem S.fromZ_is {l : List Int} {m k : Int} (h : S.okB l m k = true) {n : Int} (hn : n ≤ 31) : S.fromZ l m k n = S.mthLast (S.upZ l 0 ((l.length : Int) - k) (n + 1)) m := by
  unfold S.fromZ
  rw [if_pos h, if_neg (by omega)]
/-- A level is taken from no earlier a place than a greater one. -/
theorem S.fromZ_anti {l : List Int} {m k : Int} (h : S.okB l m k = true) {n n' : Int} (hn : n ≤ n') (hn' : n' ≤ 31) : S.fromZ l m k n' ≤ S.fromZ l m k n := by
  obtain ⟨h0, h1, h2, h3⟩ := S.okB_parts h
  rw [S.fromZ_is h hn', S.fromZ_is h (by omega), S.upZ_level l 0 _ (show n + 1 ≤ n' + 1 by omega)]
  exact S.mthLast_mono (S.upZ_up _ _ _ _) (fun x hx => (S.upZ_mem.1 hx).1) _ h1
theorem S.takenL_mem {l : List Int} {m k x : Int} : x ∈ S.takenL l m k ↔ 0 ≤ x ∧ x < l.length ∧ x < (l.length : Int) - k ∧ 0 ≤ rd l x ∧ S.fromZ l m k (rd l x) ≤ x := by
  unfold S.takenL
  rw [List.mem_filter, S.upZ_mem, decide_eq_true_eq]
  constructor
  · rintro ⟨⟨h0, h1, h2, h3, h4⟩, h5⟩; exact ⟨h0, h1, h3, h4, h5⟩
  · rintro ⟨h0, h1, h3, h4, h5⟩; exact ⟨⟨h0, h1, h0, h3, h4⟩, h5⟩
theorem S.takenL_up (l : List Int) (m k : Int) : S.Up (S.takenL l m k) := S.up_filter (S.upZ_up _ _ _ _) _
theorem S.acc_taken {l : List Int} {m k : Int} (h : S.okB l m k = true) (x : Int) : x ∈ S.accAt l m k 32 ↔ x ∈ S.takenL l m k := by
  obtain ⟨h0, h1, h2, h3⟩ := S.okB_parts h
  obtain ⟨_, _, h6, h7⟩ := S.mayB_parts h0
  have hc : ∀ j : Nat, j < 32 → S.climbAt l m k j = S.fromZ l m k (31 - (j : Int)) := fun j hj => by
    have := S.climb_from h (31 - j) (by omega)
    rw [show 31 - (31 - j) = j from by omega] at this
    rw [this, S.fromZ_is h (by omega)]
    congr 2
    omega
  rw [S.accAt_mem, S.takenL_mem]
  constructor
  · rintro ⟨j, hj, hx⟩
    unfold S.climbL at hx
    rw [hc j hj] at hx
    obtain ⟨x0, x1, x2, x3, x4⟩ := S.upZ_mem.1 hx
    have hl := h7 x x0 x1
    exact ⟨x0, x1, x3, hl.1, Int.le_trans (S.fromZ_anti h x4 hl.2) x2⟩
  · rintro ⟨x0, x1, x3, x4, x5⟩
    have hl := h7 x x0 x1
    refine ⟨(31 - rd l x).toNat, by omega, ?_⟩
    unfold S.climbL
    rw [hc _ (by omega), S.upZ_mem, show (31 : Int) - (((31 - rd l x).toNat : Nat) : Int) = rd l x from by omega]
    exact ⟨x0, x1, x5, x3, Int.le_refl _⟩

theorem E.up_nodup {a : List Int} (h : S.Up a) : a.Nodup := h.imp fun hlt e => by omega
theorem E.setD_has (acc : List Int) (x : Int) : has (E.setD acc) (.int .i64 x) = true ↔ x ∈ acc := by
  unfold E.setD
  rw [has_setOf _ _ _ (fun y hy => by obtain ⟨z, _, rfl⟩ := List.mem_map.1 hy; trivial), List.any_map, List.any_eq_true]
  constructor
  · rintro ⟨y, hy, he⟩
    have := WideAt.sameKey_eq (a := Lit.int .i64 y) (b := Lit.int .i64 x) he
    injection this with _ e
    subst e
    exact hy
  · intro hx
    exact ⟨x, hx, WideAt.sameKey_self (a := Lit.int .i64 x) trivial⟩
/-- The map's keys, sorted, are the list. -/
theorem E.sorted_is {W : World} {b : Nat} {acc t ss : List Int} (ho : E.owns W b acc) (ht : S.Up t) (hm : ∀ x, x ∈ acc ↔ x ∈ t) (hp : ss.Perm (intKeys (E.setD acc))) : ss.mergeSort leI = t := by
  have hc : CollectedI (E.setD acc) (fun _ => false) t := ⟨E.up_nodup ht, fun x => by rw [E.setD_has, hm x]; simp⟩
  have hp2 := hc.perm ho (int_keyed Try.underlying3) Try.underlying3 (fun _ => rfl)
  rw [mergeSort_of_perm_i (hp.trans hp2.symm)]
  exact List.mergeSort_of_pairwise (ht.imp fun h => by simp [leI]; omega)

/-- What stands while Prefix climbs. -/
def E.PrefJ (l : List Int) (m k : Int) (w0 : World) (i : Nat) (W : World) : Prop :=
  Below w0.heap.size w0 W ∧ w0.heap.size + 2 ≤ W.heap.size ∧ Boxed W (w0.heap.size + 1) 35 (.map (some w0.heap.size)) ∧ E.owns W w0.heap.size (S.accAt l m k i)

theorem E.climbL_ints {l : List Int} {m k : Int} {i : Nat} (h : l.length ≤ 200) : E.Ints (S.climbL l m k i) := fun x hx => by
  have := S.upZ_mem.1 hx
  omega

set_option maxHeartbeats 1000000 in
theorem E.prefClimb_calls (A0 : Option Addr) (c0 : Nat) (l0 : List Int) (a1 a2 : Int) (w0 w : World) (hr0 : Kd.C (Kd.int .i64) w0 A0 l0.length l0) (hc0 : l0.length ≤ c0) (hok : S.okB l0 a1 a2 = true) (hm : a1 ≤ 9223372036854775807)
    (hJ : E.PrefJ l0 a1 a2 w0 0 w) :
    Calls Try.prog 28 #[.slice A0 l0.length c0, .int .i64 a1, .int .i64 a2, .func (.func 29) #[] #[.pointer (some ⟨w0.heap.size + 1, 0, none⟩)]] w fun e w' =>
      e = .returned (.tuple #[]) ∧ E.PrefJ l0 a1 a2 w0 32 w' := by
  obtain ⟨h0, h1, h2, h3⟩ := S.okB_parts hok
  obtain ⟨_, h5, _, _⟩ := S.mayB_parts h0
  refine E.climb_calls 29 _ (enters_of Try.func29 (by kernel_rfl) rfl) A0 c0 l0 a1 a2 w0 w (w0.heap.size + 2) hr0 hc0 h5 h1 h2 h3 hm (E.PrefJ l0 a1 a2 w0) ?_ ?_ ?_ hJ
  · rintro i W W' ⟨j1, j2, j3, j4⟩ hb
    refine ⟨below_then j1 (by omega) hb, Nat.le_trans j2 hb.size, E.boxKept j3 hb, ?_⟩
    exact j4.kept (grown_of_below hb none) (by simp)
  · rintro i W ⟨j1, j2, _⟩
    exact ⟨j1, j2⟩
  · rintro i A c W hi ⟨j1, j2, j3, j4⟩ hC hA
    have hl1 : (S.accAt l0 a1 a2 i).length ≤ 32 * 200 := Nat.le_trans (S.accAt_len l0 a1 a2 i) (Nat.mul_le_mul (by omega) h5)
    have hl2 : (S.climbL l0 a1 a2 i).length ≤ l0.length := S.upFrom_len _ _ _ _ _
    refine (E.pref1_calls _ _ A c _ W _ w0.heap.size (S.accAt l0 a1 a2 i) j3 j4 hC (fun ad e _ => by have := hA ad e; omega) (E.climbL_ints h5) (by omega)).mono ?_
    rintro e W' ⟨rfl, ho, hg⟩
    refine ⟨rfl, ⟨j1.grown hg (by omega) (fun j e => by cases e; exact Nat.le_refl _), Nat.le_trans j2 hg.size, j3.kept hg (by simp), ho⟩, hg.size, fun b hb hlt => hg.block b hlt (by simp; omega)⟩

/-- slices.Sort's two contracts at this seat, at the fence that asks nothing. -/
theorem E.sortsA (m : Nat) : AnyZI.SortsIn Try.prog Try.sortedA_ren Fence.wide m :=
  ⟨fun blk off cap ss W hH hblk hsz => callsIn_wide.2 (AnyM.slices_Sort_int Try.sortA blk off cap ss W hH hblk hsz),
   fun p cap W => callsIn_wide.2 (AnyM.slices_Sort_int_none Try.sortA p cap W)⟩

/-- maps.Keys -/
theorem E.keys_calls (b : Nat) (W : World) : Calls Try.prog 31 #[.map (some b)] W fun e w' =>
    e = .returned (.func (.func 48) #[] #[.pointer (some ⟨W.heap.size, 0, none⟩)]) ∧ W.alloc (.cells #[.map (some b)] 35) = w' :=
  ((callsIn_wide (n := 5)).1 (AnyZI.keys_in Try.keysA Fence.wide 5 trivial rfl (some b) W)).mono fun _ _ h => ⟨h.1, h.2.symm⟩

/-- slices.Sorted, at what maps.Keys has handed back. -/
def E.SortedAs (W : World) (t : List Int) (e : Ending) (w' : World) : Prop := ∃ v : Value, e = .returned v ∧ Kd.R (Kd.int .i64) 3 w' W.heap.size (fun _ => True) v t ∧ Below W.heap.size W w'
set_option maxHeartbeats 1000000 in
theorem E.sorted_calls (b : Nat) (acc t : List Int) (w : World) (ho : E.owns w b acc) (ht : S.Up t) (hm : ∀ x, x ∈ acc ↔ x ∈ t) (hn : acc.length ≤ 17592186044416) :
    Calls Try.prog 30 #[.func (.func 48) #[] #[.pointer (some ⟨w.heap.size, 0, none⟩)]] (w.alloc (.cells #[.map (some b)] 35)) (E.SortedAs (w.alloc (.cells #[.map (some b)] 35)) t) := by
  have hsz : Maps.size (E.setD acc) ≤ acc.length := ho.size_le
  have hbl := ho.lt
  have hseq : SeqGives Fence.wide 2 Try.prog 48 #[.pointer (some ⟨w.heap.size, 0, none⟩)] encZ (fun ss => ss.Perm (intKeys (E.setD acc))) (Maps.size (E.setD acc)) (w.alloc (.cells #[.map (some b)] 35)) :=
    AnyZI.keys_gives (ρ := Try.keysA_ren) { Try.keysA with } Fence.wide _ trivial rfl (by omega) w.heap.size b acc.length (E.setD acc) _ (by simp) (by simp) (by
      obtain ⟨es, clock, hb, Ft, hs, hD⟩ := ho
      exact ⟨es, clock, (Below.heap_alloc _ _ b hbl).trans hb, Ft, hs, hD⟩)
  have cS := AnyZI.sorted_in Try.sortedA Fence.wide 5 trivial trivial trivial trivial rfl (by omega) (E.sortsA _) (enters_of Try.func47 (by kernel_rfl) rfl) 48 #[.pointer (some ⟨w.heap.size, 0, none⟩)] trivial (enters_of Try.func48 (by kernel_rfl) rfl) _ _ (by unfold maxLen; omega) (by omega) _ hseq
  change CallsIn _ _ Try.prog 30 _ _ _ at cS
  refine ((callsIn_wide (n := 5)).1 cS).mono ?_
  rintro e w' ⟨v, ss, rfl, hp, hrow, _, hb⟩
  have e1 := E.sorted_is ho ht hm hp
  have e2 : ss.length = t.length := by rw [← e1, List.length_mergeSort]
  refine ⟨v, rfl, ?_, hb⟩
  rw [show (ss.mergeSort fun x y => decide (x ≤ y)) = t from e1, e2] at hrow
  exact Kd.R_of_own hrow (fun _ _ => trivial)

set_option maxHeartbeats 1000000 in
theorem E.prefix_calls_bad (A0 : Option Addr) (c0 : Nat) (l0 : List Int) (a1 a2 : Int) (w : World) (hr0 : Kd.C (Kd.int .i64) w A0 l0.length l0) (hc0 : l0.length ≤ c0) (hok : S.okB l0 a1 a2 = false) :
    Calls Try.prog 12 #[.slice A0 l0.length c0, .int .i64 a1, .int .i64 a2] w fun e w' => e = .returned (.tuple #[.slice none 0 0, .bool false]) ∧ Below w.heap.size w w' := by
  have hf := E.may_f l0 a1 a2
  rw [hok] at hf
  have HR0 := Aside0.mk hr0
  have HC0 := Aside0.mk hc0
  have HF := Aside0.mk hf
  clear hr0 hc0 hf hok
  go_enter Try.func12, Try.ntmps12
  go_wp2_with (go_at_call 27; refine (super_may.calls _ _ _ _ _ _ _ HR0.out HC0.out HF.out).mono ?_; rintro e w' ⟨rfl, ⟨m, rfl⟩⟩)
  go_ret2
  exact ⟨rfl, pw_below_drewN (Below.refl _ _) _⟩

set_option maxHeartbeats 1000000 in
theorem E.prefix_calls_ok (A0 : Option Addr) (c0 : Nat) (l0 : List Int) (a1 a2 : Int) (w : World) (hr0 : Kd.C (Kd.int .i64) w A0 l0.length l0) (hc0 : l0.length ≤ c0) (hok : S.okB l0 a1 a2 = true) (hm : a1 ≤ 9223372036854775807) :
    Calls Try.prog 12 #[.slice A0 l0.length c0, .int .i64 a1, .int .i64 a2] w fun e w' => ∃ v : Value, e = .returned (.tuple #[v, .bool true]) ∧ Kd.R (Kd.int .i64) 3 w' w.heap.size (fun _ => True) v (S.takenL l0 a1 a2) ∧ Below w.heap.size w w' := by
  have hf := E.may_f l0 a1 a2
  rw [hok] at hf
  have HR0 := Aside0.mk hr0
  have HC0 := Aside0.mk hc0
  have HF := Aside0.mk hf
  have HOK := Aside0.mk hok
  clear hr0 hc0 hf hok
  have hmm := @run_makeMap Try.prog
  go_enter Try.func12, Try.ntmps12
  go_wp2_with (first | (go_at_call 27; refine (super_may.calls _ _ _ _ _ _ _ HR0.out HC0.out HF.out).mono ?_; rintro e w' ⟨rfl, ⟨m, rfl⟩⟩) | fail)
  have hJ : E.PrefJ l0 a1 a2 w 0 (((w.drewN m).alloc (.map #[] 0)).alloc (.cells #[.map (some w.heap.size)] 35)) := by
    refine ⟨below_alloc (below_alloc (pw_below_drewN (Below.refl _ _) _) _) _, by simp, ?_, ?_⟩
    · have b1 := Boxed.new ((w.drewN m).alloc (.map #[] 0)) 35 (.map (some w.heap.size))
      simpa using b1
    · have b2 := World.ownsMap_made (H := Unit) (w.drewN m) Try.prog 3 unitElem
      have b3 := b2.kept (World.grownBy_alloc _ (.cells #[.map (some w.heap.size)] 35) none) (by simp)
      simp only [World.heap_drewN] at b3
      exact b3
  refine (E.prefClimb_calls A0 c0 l0 a1 a2 w _ HR0.out HC0.out HOK.out hm hJ).mono ?_
  clear hJ
  rintro e w1 ⟨rfl, j1, j2, j3, j4⟩
  have J1 := Aside0.mk j1
  have J4 := Aside0.mk j4
  have c3 := j3.cell
  clear j1 j3 j4
  obtain ⟨_, p1, p2, p3⟩ := S.okB_parts HOK.out
  obtain ⟨_, p5, _, _⟩ := S.mayB_parts (S.okB_parts HOK.out).1
  have hal : (S.accAt l0 a1 a2 32).length ≤ 17592186044416 := Nat.le_trans (Nat.le_trans (S.accAt_len l0 a1 a2 32) (Nat.mul_le_mul (Nat.le_refl _) p5)) (by omega)
  have HAL := Aside0.mk hal
  clear hal
  go_wp2_with (first | (go_at_call 31; refine (E.keys_calls _ _).mono ?_; rintro e w' ⟨rfl, rfl⟩) | fail)
  refine (E.sorted_calls w.heap.size (S.accAt l0 a1 a2 32) (S.takenL l0 a1 a2) w1 J4.out (S.takenL_up _ _ _) (S.acc_taken HOK.out) HAL.out).mono ?_
  rintro e w2 ⟨v, rfl, hR, hB⟩
  have HR := Aside0.mk hR
  have HB := Aside0.mk hB
  clear hR hB
  go_wp2
  go_ret2
  refine ⟨v, rfl, Kd.R_lower HR.out ?_, below_then (below_alloc J1.out _) ?_ HB.out⟩
  · have := J1.out.size; simp; omega
  · have := J1.out.size; simp; omega

theorem E.prefix_calls (A0 : Option Addr) (c0 : Nat) (l0 : List Int) (a1 a2 : Int) (w : World) (hr0 : Kd.C (Kd.int .i64) w A0 l0.length l0) (hc0 : l0.length ≤ c0) (hm : a1 ≤ 9223372036854775807) :
    Calls Try.prog 12 #[.slice A0 l0.length c0, .int .i64 a1, .int .i64 a2] w fun e w' => ∃ v : Value, e = .returned (.tuple #[v, .bool (S.prefZ l0 a1 a2).2]) ∧ Kd.R (Kd.int .i64) 3 w' w.heap.size (fun _ => True) v (S.prefZ l0 a1 a2).1 ∧ Below w.heap.size w w' := by
  cases hok : S.okB l0 a1 a2 with
  | false =>
    have e1 : S.prefZ l0 a1 a2 = ([], false) := by unfold S.prefZ; rw [hok]; simp
    rw [e1]
    exact (E.prefix_calls_bad A0 c0 l0 a1 a2 w hr0 hc0 hok).mono fun e w' h => ⟨_, h.1, Kd.R_nil _ _ _ _ _, h.2⟩
  | true =>
    have e1 : S.prefZ l0 a1 a2 = (S.takenL l0 a1 a2, true) := by unfold S.prefZ; rw [if_pos hok]
    rw [e1]
    exact E.prefix_calls_ok A0 c0 l0 a1 a2 w hr0 hc0 hok hm

end Go.Proofs.Ytgjkjndfnjabeaa.X
end

section
-- By this session's own program (wip/tools/xprint.py), over the kit's print. Not trusted: Lean checks it.
namespace Go.Proofs.Ytgjkjndfnjabeaa.X
open Go.RowKit Go.Proofs.YtgjkjndfnjabeaaW.PrintWords Go.Proofs.YtgjkjndfnjabeaaW.PrintLast Go.Proofs.YtgjkjndfnjabeaaW.PrintMore
attribute [local go_sem] max2_int min2_int max_two min_two max_three min_three max_four min_four   -- for this text's walks alone
set_option linter.unusedVariables false
set_option linter.unusedSimpArgs false

/-! ### super_Prefix: function 12 -/
-- EXT YtgjkjndfnjabeaaE4
def super_Prefix.f (l0 : List Int) (a1 : Int) (a2 : Int) : Option (List Int × Bool) := if a1 ≤ 9223372036854775807 then some (S.prefZ l0 a1 a2) else none
theorem super_Prefix.calls (A0 : Option Addr) (c0 : Nat) (l0 : List Int) (a1 : Int) (a2 : Int) (r1 : List Int) (r2 : Bool) (w : World) (hr0 : Kd.C (Kd.int .i64) w A0 l0.length l0) (hc0 : l0.length ≤ c0) (h : super_Prefix.f l0 a1 a2 = some (r1, r2)) :
    Calls Try.prog 12 #[.slice A0 l0.length c0, .int .i64 a1, .int .i64 a2] w fun e w' => ∃ v0_ : Value, e = .returned (.tuple #[v0_, .bool r2]) ∧ Kd.R (Kd.int .i64) 3 w' w.heap.size (fun _ => True) v0_ r1 ∧ Below w.heap.size w w' := by
  unfold super_Prefix.f at h
  split at h
  · rename_i hb
    have h' := Option.some.inj h
    obtain ⟨rfl, rfl⟩ : (S.prefZ l0 a1 a2).1 = r1 ∧ (S.prefZ l0 a1 a2).2 = r2 := by rw [h']; exact ⟨rfl, rfl⟩
    exact E.prefix_calls A0 c0 l0 a1 a2 w hr0 hc0 hb
  · cases h


end Go.Proofs.Ytgjkjndfnjabeaa.X
end

section
/- What the statements' small helpers come to: the same lists? is a number one of some? And super's, as the print has them. -/
namespace Go.Proofs.Ytgjkjndfnjabeaa.X
open Go.RowKit Go.Proofs.YtgjkjndfnjabeaaW.PrintWords

theorem P.wf_bounds {x : Int} (h : (Lit.int .i64 x).wf = true) : -9223372036854775808 ≤ x ∧ x ≤ 9223372036854775807 := by
  simpa [Lit.wf, IntKind.min, IntKind.max, IntKind.signed, IntKind.bits] using h

theorem P.ints_l0 (a b : List Int) (ha : a.length ≤ 1000000) (hab : a.length = b.length) (d : Nat) : ∀ (k i : Nat), a.length - i = d → i ≤ a.length → d < k →
    stepladderref12_Ints.l0 k a b i = some (decide (a.drop i = b.drop i)) := by
  induction d with
  | zero =>
    intro k i hd hi hk
    obtain ⟨k, rfl⟩ : ∃ m, k = m + 1 := ⟨k - 1, by omega⟩
    simp only [stepladderref12_Ints.l0]
    rw [if_neg (by omega), List.drop_of_length_le (by omega), List.drop_of_length_le (by omega)]
    rfl
  | succ d ih =>
    intro k i hd hi hk
    obtain ⟨k, rfl⟩ : ∃ m, k = m + 1 := ⟨k - 1, by omega⟩
    have h1 : i < a.length := by omega
    have h2 : i < b.length := by omega
    simp only [stepladderref12_Ints.l0]
    rw [if_pos (by omega), if_pos (by omega), if_pos (by omega), rd_get h1, rd_get h2, List.drop_eq_getElem_cons h1, List.drop_eq_getElem_cons h2]
    have hw : wrap64 ((i : Int) + 1) = ((i + 1 : Nat) : Int) := by rw [E.wrap_id (by omega) (by omega)]; omega
    by_cases h : a[i] = b[i]
    · rw [if_pos h, hw, ih k (i + 1) (by omega) (by omega) (by omega)]
      congr 1
      rw [decide_eq_decide, h]
      constructor
      · intro e; rw [e]
      · intro e; injection e
    · rw [if_neg h]
      congr 1
      symm
      rw [decide_eq_false_iff_not]
      intro e
      injection e with e1 e2
      exact h e1
theorem P.ints (a b : List Int) (ha : a.length ≤ 1000000) (k : Nat) (hk : a.length + 1 < k) : stepladderref12_Ints.f k a b = some (decide (a = b)) := by
  unfold stepladderref12_Ints.f
  by_cases h : (a.length : Int) = (b.length : Int)
  · rw [if_pos h, show (0 : Int) = ((0 : Nat) : Int) from rfl, P.ints_l0 a b ha (by omega) a.length k 0 (by omega) (by omega) (by omega)]
    simp
  · rw [if_neg h]
    congr 1
    symm
    rw [decide_eq_false_iff_not]
    intro e
    rw [e] at h
    exact h rfl

theorem P.prefix_f (l : List Int) (m k : Int) (hm : (Lit.int .i64 m).wf = true) : super_Prefix.f l m k = some (S.prefZ l m k) := by
  unfold super_Prefix.f
  rw [if_pos (P.wf_bounds hm).2]
theorem P.may_f (l : List Int) : super_May.f l = some (S.mayB l) := rfl

/-- Of From and Prefix, where something can be taken. -/
theorem S.fromZ_bad {l : List Int} {m k n : Int} (h : S.okB l m k = false) : S.fromZ l m k n = -1 := by unfold S.fromZ; rw [h]; rfl
theorem S.fromZ_range {l : List Int} {m k n : Int} (h : S.okB l m k = true) : 0 ≤ S.fromZ l m k n ∧ S.fromZ l m k n < (l.length : Int) - k ∧ (S.fromZ l m k n = 0 ∨ n + 1 ≤ rd l (S.fromZ l m k n)) := by
  obtain ⟨h0, h1, h2, h3⟩ := S.okB_parts h
  unfold S.fromZ
  rw [if_pos h]
  by_cases hn : 31 < n
  · rw [if_pos hn]
    exact ⟨by omega, by omega, .inl rfl⟩
  · rw [if_neg hn]
    by_cases hm : m ≤ ((S.upZ l 0 ((l.length : Int) - k) (n + 1)).length : Int)
    · have := S.upZ_mem.1 (S.mthLast_mem h1 hm)
      exact ⟨this.1, this.2.2.2.1, .inr this.2.2.2.2⟩
    · unfold S.mthLast
      rw [if_neg hm]
      exact ⟨by omega, by omega, .inl rfl⟩
theorem S.prefZ_ok {l : List Int} {m k : Int} (h : S.okB l m k = true) : S.prefZ l m k = (S.takenL l m k, true) := by unfold S.prefZ; rw [if_pos h]
theorem S.prefZ_bad {l : List Int} {m k : Int} (h : S.okB l m k = false) : S.prefZ l m k = ([], false) := by unfold S.prefZ; rw [h]; rfl
theorem S.okB_iff {l : List Int} {m k : Int} : S.okB l m k = true ↔ S.mayB l = true ∧ 1 ≤ m ∧ 1 ≤ k ∧ k < (l.length : Int) := by
  unfold S.okB
  simp
theorem S.taken_zero {l : List Int} {m k : Int} (h : S.okB l m k = true) : (0 : Int) ∈ S.takenL l m k := by
  obtain ⟨h0, h1, h2, h3⟩ := S.okB_parts h
  obtain ⟨h4, _, h6, _⟩ := S.mayB_parts h0
  rw [S.takenL_mem, h6]
  refine ⟨Int.le_refl _, by omega, by omega, by omega, ?_⟩
  have e : S.upZ l 0 ((l.length : Int) - k) (31 + 1) = [] := by
    refine List.eq_nil_iff_forall_not_mem.2 fun x hx => ?_
    obtain ⟨a, b, _, _, c⟩ := S.upZ_mem.1 hx
    have := (S.mayB_parts h0).2.2.2 x a b
    omega
  rw [S.fromZ_is h (by omega), e]
  unfold S.mthLast
  rw [if_neg (by simp; omega)]
  omega
theorem S.taken_len {l : List Int} {m k : Int} : (S.takenL l m k).length ≤ l.length := by
  unfold S.takenL
  exact Nat.le_trans (List.length_filter_le _ _) (S.upFrom_len _ _ _ _ _)
theorem S.upZ_len (l : List Int) (fr hi n : Int) : (S.upZ l fr hi n).length ≤ l.length := S.upFrom_len _ _ _ _ _

/-- A rising list all of whose numbers are another's is no longer. -/
theorem S.sub_len {a b : List Int} (ha : S.Up a) (hb : S.Up b) (h : ∀ x ∈ a, x ∈ b) : a.length ≤ b.length := by
  have e : a = b.filter fun x => decide (x ∈ a) := by
    refine S.up_ext ha (S.up_filter hb _) fun x => ?_
    rw [List.mem_filter, decide_eq_true_eq]
    exact ⟨fun hx => ⟨h x hx, hx⟩, fun hx => hx.2⟩
  rw [e]
  exact List.length_filter_le _ _
/-- The numbers below one. -/
def S.below (n : Int) : List Int := (List.range n.toNat).map fun j : Nat => (j : Int)
theorem S.below_up (n : Int) : S.Up (S.below n) := by
  unfold S.below
  refine List.Pairwise.map _ (fun a b h => ?_) List.pairwise_lt_range
  exact Int.ofNat_lt.2 h
theorem S.below_mem {n x : Int} : x ∈ S.below n ↔ 0 ≤ x ∧ x < n := by
  unfold S.below
  rw [List.mem_map]
  constructor
  · rintro ⟨j, hj, rfl⟩
    have := List.mem_range.1 hj
    omega
  · intro h
    exact ⟨x.toNat, List.mem_range.2 (by omega), by omega⟩
theorem S.below_len (n : Int) : (S.below n).length = n.toNat := by simp [S.below]
theorem S.mthLast_more {U : List Int} (h : S.Up U) (h0 : ∀ x ∈ U, 0 ≤ x) {m m' : Int} (h1 : 1 ≤ m) (hm : m ≤ m') : S.mthLast U m' ≤ S.mthLast U m := by
  by_cases hu' : m' ≤ (U.length : Int)
  · unfold S.mthLast
    rw [if_pos hu', if_pos (by omega)]
    by_cases e : m = m'
    · subst e; exact Int.le_refl _
    · have := S.up_rd h (i := (U.length - m'.toNat)) (j := (U.length - m.toNat)) (by omega) (by omega)
      rw [show ((U.length - m'.toNat : Nat) : Int) = (U.length : Int) - m' from by omega, show ((U.length - m.toNat : Nat) : Int) = (U.length : Int) - m from by omega] at this
      omega
  · have e : S.mthLast U m' = 0 := by unfold S.mthLast; rw [if_neg hu']
    rw [e]
    by_cases hu : m ≤ (U.length : Int)
    · exact h0 _ (S.mthLast_mem h1 hu)
    · unfold S.mthLast; rw [if_neg hu]; omega
theorem S.taken_more {l : List Int} {m m' k : Int} (h : S.okB l m k = true) (hm : m ≤ m') (x : Int) (hx : x ∈ S.takenL l m k) : x ∈ S.takenL l m' k := by
  obtain ⟨h0, h1, h2, h3⟩ := S.okB_parts h
  have h' : S.okB l m' k = true := S.okB_iff.2 ⟨h0, by omega, h2, h3⟩
  rw [S.takenL_mem] at hx ⊢
  obtain ⟨x0, x1, x2, x3, x4⟩ := hx
  have hl := (S.mayB_parts h0).2.2.2 x x0 x1
  refine ⟨x0, x1, x2, x3, Int.le_trans ?_ x4⟩
  rw [S.fromZ_is h hl.2, S.fromZ_is h' hl.2]
  exact S.mthLast_more (S.upZ_up _ _ _ _) (fun y hy => (S.upZ_mem.1 hy).1) h1 hm
theorem S.taken_ahead (l : List Int) (m k : Int) : (S.takenL l m k).length ≤ ((l.length : Int) - k).toNat := by
  rw [← S.below_len]
  exact S.sub_len (S.takenL_up _ _ _) (S.below_up _) fun x hx => S.below_mem.2 (by have := S.takenL_mem.1 hx; exact ⟨this.1, this.2.2.1⟩)

end Go.Proofs.Ytgjkjndfnjabeaa.X
end

section
/- What infix's functions come to, as the print has them; plain facts on what is linked. -/
namespace Go.Proofs.Ytgjkjndfnjabeaa.X
open Go.RowKit Go.Proofs.YtgjkjndfnjabeaaW.PrintWords

theorem P.next {i : Nat} (hi : i ≤ 1000000) : wrap64 ((i : Int) + 1) = ((i + 1 : Nat) : Int) := by rw [E.wrap_id (by omega) (by omega)]; omega
theorem P.follow_f (l : List Int) (hi lo : Int) : infix_Follow.f l hi lo = some (S.followZ l hi lo) := rfl
theorem P.both_f (a b : List Int) (h : a.length + b.length ≤ 1000000) : infix_Both.f a b = some (S.bothL a b) := by
  unfold infix_Both.f
  rw [if_pos h]
theorem P.max_f (l : List Int) (h0 : 0 < l.length) (h : l.length ≤ 1000000) : slices_Max_int_int.f l = some (S.maxL l) := by
  unfold slices_Max_int_int.f
  rw [if_pos ⟨h0, h⟩]

/-- infix.Back -/
def S.backZ (l : List Int) (i n : Int) : Int := if S.mayB l = true ∧ 1 ≤ i ∧ i < l.length ∧ 0 ≤ n ∧ n ≤ 31 then S.backN l n i.toNat else -1
theorem P.back_f (l : List Int) (i n : Int) (k : Nat) (hk : 300 < k) : infix_Back.f k l i n = some (S.backZ l i n) := by
  unfold infix_Back.f S.backZ
  rw [P.may_f]
  simp only [Option.bind_some]
  by_cases c0 : S.mayB l = true
  · obtain ⟨_, h1, h2, _⟩ := S.mayB_parts c0
    rw [if_pos c0]
    by_cases c1 : i < 1
    · rw [if_pos c1, if_neg (by omega)]
    rw [if_neg c1]
    by_cases c2 : i ≥ (l.length : Int)
    · rw [if_pos c2, if_neg (by omega)]
    rw [if_neg c2]
    by_cases c3 : n < 0
    · rw [if_pos c3, if_neg (by omega)]
    rw [if_neg c3]
    by_cases c4 : n > 31
    · rw [if_pos c4, if_neg (by omega)]
    rw [if_neg c4, if_pos ⟨c0, by omega, by omega, by omega, by omega⟩, E.back_f l n h1 (by omega) i (by omega) (by omega) k hk]
    rfl
  · rw [if_neg c0, if_neg (fun h => c0 h.1)]

/-- Of what slices.Compact leaves of a sorted row. -/
theorem S.compact_facts (zs : List Int) (hs : zs.Pairwise (· ≤ ·)) : ∀ m : Nat, m ≤ zs.length → S.Up (Lib.compactUpTo zs.toArray m) ∧ (∀ x : Int, x ∈ Lib.compactUpTo zs.toArray m ↔ ∃ j : Nat, j < m ∧ zs.getD j 0 = x) := by
  have hget : ∀ j : Nat, j < zs.length → zs.toArray[j]! = zs.getD j 0 := fun j hj => by simp [getElem!_pos, hj, List.getD]
  have hle : ∀ i j : Nat, i ≤ j → j < zs.length → zs.getD i 0 ≤ zs.getD j 0 := fun i j hij hj => by
    have hi : i < zs.length := by omega
    simp only [List.getD, List.getElem?_eq_getElem hi, List.getElem?_eq_getElem hj, Option.getD_some]
    rcases Nat.lt_or_ge i j with h | h
    · exact List.pairwise_iff_getElem.1 hs i j hi hj h
    · have : i = j := by omega
      subst this; exact Int.le_refl _
  intro m
  induction m with
  | zero => intro _; exact ⟨by simp [Lib.compactUpTo], fun x => by simp [Lib.compactUpTo]⟩
  | succ m ih =>
    intro hm
    obtain ⟨hup, hmem⟩ := ih (by omega)
    rw [Lib.compactUpTo_succ, hget m (by omega)]
    cases hk : Lib.keeps zs.toArray m with
    | true =>
      rw [if_pos rfl]
      have hgt : ∀ x ∈ Lib.compactUpTo zs.toArray m, x < zs.getD m 0 := fun x hx => by
        obtain ⟨j, hj, rfl⟩ := (hmem x).1 hx
        have h1 := hle j (m - 1) (by omega) (by omega)
        have h2 := hle (m - 1) m (by omega) (by omega)
        unfold Lib.keeps at hk
        rw [decide_eq_true_eq, hget m (by omega), hget (m - 1) (by omega)] at hk
        omega
      refine ⟨List.pairwise_append.2 ⟨hup, List.pairwise_singleton _ _, fun a ha b hb => by rw [List.mem_singleton] at hb; rw [hb]; exact hgt a ha⟩, fun x => ?_⟩
      rw [List.mem_append, hmem, List.mem_singleton]
      constructor
      · rintro (⟨j, hj, e⟩ | e)
        · exact ⟨j, by omega, e⟩
        · exact ⟨m, by omega, e.symm⟩
      · rintro ⟨j, hj, e⟩
        by_cases hjm : j = m
        · subst hjm; exact .inr e.symm
        · exact .inl ⟨j, by omega, e⟩
    | false =>
      rw [if_neg (by decide), List.append_nil]
      refine ⟨hup, fun x => ?_⟩
      unfold Lib.keeps at hk
      rw [decide_eq_false_iff_not, hget m (by omega), hget (m - 1) (by omega)] at hk
      rw [hmem]
      constructor
      · rintro ⟨j, hj, e⟩; exact ⟨j, by omega, e⟩
      · rintro ⟨j, hj, e⟩
        by_cases hjm : j = m
        · subst hjm
          refine ⟨j - 1, by omega, ?_⟩
          rw [← e]
          by_cases h : zs.getD (j - 1) 0 = zs.getD j 0
          · exact h
          · exact absurd (.inr (Ne.symm h)) hk
        · exact ⟨j, by omega, e⟩
theorem S.both_facts (a b : List Int) : S.Up (S.bothL a b) ∧ ∀ x : Int, x ∈ S.bothL a b ↔ x ∈ a ∨ x ∈ b := by
  have hp : ((a ++ b).mergeSort fun x y => decide (x ≤ y)).Pairwise (· ≤ ·) := by
    have := List.pairwise_mergeSort (le := fun x y : Int => decide (x ≤ y)) (fun x y z => by simp; omega) (fun x y => by simp; omega) (a ++ b)
    exact this.imp fun h => by simpa using h
  obtain ⟨h1, h2⟩ := S.compact_facts _ hp _ (Nat.le_refl _)
  refine ⟨h1, fun x => ?_⟩
  have h3 := h2 x
  rw [show Lib.compactUpTo ((a ++ b).mergeSort fun x y => decide (x ≤ y)).toArray ((a ++ b).mergeSort fun x y => decide (x ≤ y)).length = S.bothL a b from rfl] at h3
  rw [h3, ← List.mem_append, ← List.mem_mergeSort (le := fun x y : Int => decide (x ≤ y)), List.mem_iff_getElem]
  constructor
  · rintro ⟨j, hj, e⟩
    refine ⟨j, hj, ?_⟩
    rw [← e, List.getD, List.getElem?_eq_getElem hj]
    rfl
  · rintro ⟨j, hj, e⟩
    refine ⟨j, hj, ?_⟩
    rw [← e, List.getD, List.getElem?_eq_getElem hj]
    rfl
theorem S.both_up (a b : List Int) : S.Up (S.bothL a b) := (S.both_facts a b).1
theorem S.both_mem {a b : List Int} {x : Int} : x ∈ S.bothL a b ↔ x ∈ a ∨ x ∈ b := (S.both_facts a b).2 x
theorem S.both_len (a b : List Int) : (S.bothL a b).length ≤ a.length + b.length := by
  unfold S.bothL
  refine Nat.le_trans (?_ : _ ≤ ((a ++ b).mergeSort fun x y => decide (x ≤ y)).length) (by simp)
  unfold Lib.compact Lib.compactUpTo
  rw [List.length_map]
  exact Nat.le_trans (List.length_filter_le _ _) (by simp)

/-- The greatest is below a number, if all are. -/
theorem S.maxL_lt {l : List Int} (h : 0 < l.length) (M : Int) : S.maxL l < M ↔ ∀ x ∈ l, x < M := by
  cases l with
  | nil => simp at h
  | cons x t =>
    clear h
    unfold S.maxL
    simp only
    induction t generalizing x with
    | nil => simp
    | cons y t ih =>
      rw [List.foldl_cons, ih]
      constructor
      · intro h z hz
        rcases List.mem_cons.1 hz with rfl | hz
        · have := h (if z < y then y else z) List.mem_cons_self
          split at this <;> omega
        · rcases List.mem_cons.1 hz with rfl | hz
          · have := h (if x < z then z else x) List.mem_cons_self
            split at this <;> omega
          · exact h z (List.mem_cons_of_mem _ hz)
      · intro h z hz
        rcases List.mem_cons.1 hz with rfl | hz
        · have h1 := h x List.mem_cons_self
          have h2 := h y (List.mem_cons_of_mem _ List.mem_cons_self)
          split <;> assumption
        · exact h z (List.mem_cons_of_mem _ (List.mem_cons_of_mem _ hz))

/-- May a place lead to another one, by some number? -/
def S.Step (l : List Int) (x y : Int) : Prop := y = x + 1 ∨ (1 ≤ rd l x ∧ ∀ z : Int, x < z → z < y → rd l z < rd l x)
/-- What is asked of the place of number j of some. -/
def S.LinkAt (l a : List Int) (j : Nat) : Prop := 0 ≤ rd a j ∧ rd a j < l.length ∧ (0 < j → rd a ((j : Int) - 1) < rd a j ∧ S.mayB l = true ∧ S.Step l (rd a ((j : Int) - 1)) (rd a j))

theorem S.mid_mem {l : List Int} {x y : Int} (hx : 0 ≤ x) (hy : y ≤ l.length) (M : Int) : (∀ z ∈ (l.take y.toNat).drop x.toNat, z < M) ↔ ∀ z : Int, x ≤ z → z < y → rd l z < M := by
  constructor
  · intro h z h1 h2
    refine h _ ?_
    have hz : z.toNat < l.length := by omega
    have hlen : z.toNat - x.toNat < ((l.take y.toNat).drop x.toNat).length := by rw [List.length_drop, List.length_take]; omega
    have := List.getElem_mem hlen
    rw [List.getElem_drop, List.getElem_take] at this
    have e : rd l z = l[z.toNat] := by have := rd_get hz; rwa [show ((z.toNat : Nat) : Int) = z from by omega] at this
    rw [e]
    simpa [show x.toNat + (z.toNat - x.toNat) = z.toNat from by omega] using this
  · intro h z hz
    obtain ⟨j, hj, rfl⟩ := List.mem_iff_getElem.1 hz
    rw [List.length_drop, List.length_take] at hj
    rw [List.getElem_drop, List.getElem_take]
    have := h ((x.toNat + j : Nat) : Int) (by omega) (by omega)
    rwa [rd_get (by omega)] at this

theorem P.linked_l0 (l a : List Int) (hl : l.length ≤ 210) (ha : a.length ≤ 100000) (d : Nat) : ∀ (k i : Nat) (last : Int), a.length - i = d → i ≤ a.length → 4 * d + 1 < k → (0 < i → last = rd a ((i : Int) - 1) ∧ 0 ≤ last ∧ last < l.length) → (i = 0 → last = -1) →
    ∃ b, infix_Linked.l0 k l last a a.length i = some b ∧ (b = true ↔ ∀ j : Nat, i ≤ j → j < a.length → S.LinkAt l a j) := by
  induction d with
  | zero =>
    intro k i last hd hi hk _ _
    obtain ⟨k, rfl⟩ : ∃ m, k = m + 1 := ⟨k - 1, by omega⟩
    simp only [infix_Linked.l0]
    rw [if_neg (by omega)]
    exact ⟨true, rfl, fun _ j h1 h2 => by omega, fun _ => rfl⟩
  | succ d ih =>
    intro k i last hd hi hk hlast hlast0
    obtain ⟨k, rfl⟩ : ∃ m, k = m + 1 + 1 + 1 := ⟨k - 3, by omega⟩
    have hi' : i < a.length := by omega
    have hno : ∀ (hbad : ¬ S.LinkAt l a i), ∃ b, some false = some b ∧ (b = true ↔ ∀ j : Nat, i ≤ j → j < a.length → S.LinkAt l a j) := fun hbad => ⟨false, rfl, fun e => (by cases e), fun h => absurd (h i (Nat.le_refl _) hi') hbad⟩
    have hj1t : infix_Linked.j1 (k + 1 + 1) l last i (rd a i) a a.length i true = some false := by simp only [infix_Linked.j1, if_true]
    simp only [infix_Linked.l0]
    rw [if_pos (by omega), if_pos (by omega), if_pos (by omega)]
    by_cases c1 : rd a i < 0
    · rw [if_pos c1, hj1t]; exact hno (fun h => by have := h.1; omega)
    rw [if_neg c1]
    by_cases c2 : rd a i ≥ (l.length : Int)
    · rw [if_pos c2, hj1t]; exact hno (fun h => by have := h.2.1; omega)
    rw [if_neg c2]
    obtain ⟨b, hb, hbi⟩ := ih k (i + 1) (rd a i) (by omega) (by omega) (by omega) (fun _ => ⟨by congr 1; omega, by omega, by omega⟩) (fun h => by omega)
    have hyes : ∀ (hok : S.LinkAt l a i), (b = true ↔ ∀ j : Nat, i ≤ j → j < a.length → S.LinkAt l a j) := fun hok => by
      rw [hbi]
      constructor
      · intro h j h1 h2
        by_cases e : j = i
        · subst e; exact hok
        · exact h j (by omega) h2
      · intro h j h1 h2; exact h j (by omega) h2
    have hgo : infix_Linked.l0 k l (rd a i) a a.length (wrap64 ((i : Int) + 1)) = some b := by rw [P.next (by omega)]; exact hb
    by_cases c3 : (i : Int) > 0
    · obtain ⟨hl1, hl2, hl3⟩ := hlast (by omega)
      rw [if_pos c3]
      by_cases c4 : rd a i ≤ last
      · rw [if_pos c4, hj1t]; exact hno (fun h => by have := (h.2.2 (by omega)).1; omega)
      rw [if_neg c4, P.may_f]
      simp only [Option.bind_some]
      cases hm : S.mayB l with
      | false => rw [show (!false) = true from rfl, hj1t]; exact hno (fun h => by have := (h.2.2 (by omega)).2.1; rw [hm] at this; cases this)
      | true =>
        rw [show (!true) = false from rfl]
        simp only [infix_Linked.j1]
        rw [if_neg (by decide), if_pos c3, E.wrap_id (x := rd a i - 1) (by omega) (by omega), E.wrap_id (x := last + 1) (by omega) (by omega)]
        by_cases c5 : last = rd a i - 1
        · rw [if_pos c5]
          simp only [infix_Linked.j2]
          rw [if_neg (by decide), if_pos c3, E.wrap_id (x := rd a i - 1) (by omega) (by omega), if_pos c5, hgo]
          exact ⟨b, rfl, hyes ⟨by omega, by omega, fun _ => ⟨by omega, hm, .inl (by omega)⟩⟩⟩
        · have hlen : 0 < ((l.take (rd a i).toNat).drop (last + 1).toNat).length := by rw [List.length_drop, List.length_take]; omega
          have hlen2 : ((l.take (rd a i).toNat).drop (last + 1).toNat).length ≤ 1000000 := by rw [List.length_drop, List.length_take]; omega
          have hmx := S.maxL_lt hlen (mx (rd l last) 1)
          rw [S.mid_mem (by omega) (by omega)] at hmx
          rw [if_neg c5, if_pos (by omega), if_pos (by omega), if_pos (by omega), P.max_f _ hlen hlen2]
          simp only [Option.bind_some]
          rw [if_pos hl2, if_pos hl3]
          by_cases c6 : S.maxL ((l.take (rd a i).toNat).drop (last + 1).toNat) ≥ mx (rd l last) 1
          · rw [decide_eq_true c6]
            simp only [infix_Linked.j2, if_true]
            refine hno (fun h => ?_)
            obtain ⟨_, _, hst⟩ := h.2.2 (by omega)
            rw [← hl1] at hst
            rcases hst with hst | ⟨h1, h2⟩
            · omega
            · have hlt := hmx.2 (fun z z1 z2 => by
                have := h2 z (by omega) z2
                unfold mx
                split <;> omega)
              omega
          · rw [decide_eq_false c6]
            simp only [infix_Linked.j2]
            rw [if_neg (by decide), if_pos c3, E.wrap_id (x := rd a i - 1) (by omega) (by omega), if_neg c5, if_pos hl2, if_pos hl3]
            by_cases c7 : rd l last = 0
            · rw [if_pos c7]
              refine hno (fun h => ?_)
              obtain ⟨_, _, hst⟩ := h.2.2 (by omega)
              rw [← hl1] at hst
              rcases hst with hst | ⟨h1, h2⟩ <;> omega
            · rw [if_neg c7, hgo]
              have hnn := ((S.mayB_parts hm).2.2.2 last hl2 hl3).1
              refine ⟨b, rfl, hyes ⟨by omega, by omega, fun _ => ⟨by omega, hm, .inr ?_⟩⟩⟩
              rw [← hl1]
              refine ⟨by omega, fun z z1 z2 => ?_⟩
              have := hmx.1 (by omega) z (by omega) z2
              unfold mx at this
              split at this <;> omega
    · rw [if_neg c3]
      simp only [infix_Linked.j1]
      rw [if_neg (by decide), if_neg c3]
      simp only [infix_Linked.j2]
      rw [if_neg (by decide), if_neg c3, hgo]
      exact ⟨b, rfl, hyes ⟨by omega, by omega, fun h => by omega⟩⟩

/-- infix.Linked -/
theorem P.linked_f (l a : List Int) (hl : l.length ≤ 210) (ha : a.length ≤ 100000) (k : Nat) (hk : 4 * a.length + 1 < k) : ∃ b, infix_Linked.f k l a = some b ∧ (b = true ↔ ∀ j : Nat, j < a.length → S.LinkAt l a j) := by
  obtain ⟨b, hb, hbi⟩ := P.linked_l0 l a hl ha a.length k 0 (-1) rfl (by omega) hk (fun h => by omega) (fun _ => rfl)
  exact ⟨b, hb, hbi.trans ⟨fun h j hj => h j (by omega) hj, fun h j _ hj => h j hj⟩⟩

/-- One number of some directly follows another one. -/
def S.Next (a : List Int) (c d : Int) : Prop := c ∈ a ∧ d ∈ a ∧ c < d ∧ ∀ x ∈ a, ¬(c < x ∧ x < d)
theorem S.next_of {a : List Int} (h : S.Up a) {i : Nat} (hi : i + 1 < a.length) : S.Next a (rd a i) (rd a ((i + 1 : Nat) : Int)) := by
  refine ⟨S.rd_mem (by omega) (by omega), S.rd_mem (by omega) (by omega), S.up_rd h (by omega) hi, fun x hx hlt => ?_⟩
  obtain ⟨j, hj, rfl⟩ := List.mem_iff_getElem.1 hx
  rw [← rd_get hj] at hlt
  rcases Nat.lt_or_ge i j with h1 | h1
  · rcases Nat.lt_or_ge (i + 1) j with h2 | h2
    · have := S.up_rd h h2 hj; omega
    · have : j = i + 1 := by omega
      subst this; omega
  · rcases Nat.lt_or_ge j i with h2 | h2
    · have := S.up_rd h h2 (by omega); omega
    · have : j = i := by omega
      subst this; omega
theorem S.linked_of {l a : List Int} (hup : S.Up a) (hr : ∀ x ∈ a, 0 ≤ x ∧ x < l.length) (hm : S.mayB l = true) (hs : ∀ c d, S.Next a c d → S.Step l c d) : ∀ j : Nat, j < a.length → S.LinkAt l a j := by
  intro j hj
  have h1 := hr _ (S.rd_mem (a := a) (i := j) (by omega) (by omega))
  refine ⟨h1.1, h1.2, fun h0 => ?_⟩
  obtain ⟨i, rfl⟩ : ∃ i, j = i + 1 := ⟨j - 1, by omega⟩
  have hn := S.next_of hup hj
  rw [show ((i + 1 : Nat) : Int) - 1 = (i : Int) from by omega]
  exact ⟨hn.2.2.1, hm, hs _ _ hn⟩
theorem P.linked_true (l a : List Int) (hl : l.length ≤ 210) (ha : a.length ≤ 100000) (k : Nat) (hk : 4 * a.length + 1 < k) (hup : S.Up a) (hr : ∀ x ∈ a, 0 ≤ x ∧ x < l.length) (hm : S.mayB l = true) (hs : ∀ c d, S.Next a c d → S.Step l c d) : infix_Linked.f k l a = some true := by
  obtain ⟨b, hb, hbi⟩ := P.linked_f l a hl ha k hk
  rw [hb, hbi.2 (S.linked_of hup hr hm hs)]

/-- Between two places of a way, of which one directly follows the other, all is lower. -/
theorem S.way_gap {l : List Int} {hi lo c d : Int} (h0 : 0 ≤ lo) (h1 : hi < l.length) (hn : S.Next (S.wayL l hi lo) c d) : lo ≤ c ∧ 0 ≤ rd l c ∧ ∀ z : Int, c < z → z < d → rd l z < rd l c := by
  obtain ⟨hc, hd, hlt, hno⟩ := hn
  have hd' : d ≤ hi := by
    rcases (S.wayL_mem h0 h1).1 hd with h | h <;> omega
  rcases (S.wayL_mem h0 h1).1 hc with h | ⟨a1, a2, a3, a4⟩
  · omega
  · refine ⟨a1, a3, ?_⟩
    have key : ∀ (n : Nat) (z : Int), z - c = n + 1 → z < d → rd l z < rd l c := by
      intro n
      induction n using Nat.strongRecOn with
      | ind n ih =>
        intro z hz hzd
        by_cases hlt' : rd l z < rd l c
        · exact hlt'
        · exfalso
          refine hno z ((S.wayL_mem h0 h1).2 (.inr ⟨by omega, by omega, by omega, fun y y1 y2 => ?_⟩)) ⟨by omega, hzd⟩
          rcases Int.lt_or_le y c with h | h
          · have := a4 y y1 h; omega
          · rcases Int.lt_or_le c y with h' | h'
            · have := ih (y - c - 1).toNat (by omega) y (by omega) (by omega); omega
            · have : y = c := by omega
              subst this; omega
    exact fun z z1 z2 => key (z - c - 1).toNat z (by omega) z2
theorem S.step_of_gap {l : List Int} (hm : S.mayB l = true) {c d : Int} (hc : 0 ≤ c) (hd : d < l.length) (hlt : c < d) (h : ∀ z : Int, c < z → z < d → rd l z < rd l c) : S.Step l c d := by
  by_cases e : d = c + 1
  · exact .inl e
  · have h1 := h (c + 1) (by omega) (by omega)
    have h2 := ((S.mayB_parts hm).2.2.2 (c + 1) (by omega) (by omega)).1
    exact .inr ⟨by omega, h⟩
theorem S.wayL_range {l : List Int} {hi lo : Int} (h0 : 0 ≤ lo) (h1 : hi < l.length) (h2 : lo ≤ hi) : ∀ x ∈ S.wayL l hi lo, lo ≤ x ∧ x ≤ hi := fun x hx => by
  rcases (S.wayL_mem h0 h1).1 hx with h | h <;> omega
theorem S.way_step_of {l : List Int} (hm : S.mayB l = true) {hi lo c d : Int} (h0 : 0 ≤ lo) (h1 : hi < l.length) (h2 : lo ≤ hi) (hn : S.Next (S.wayL l hi lo) c d) : S.Step l c d := by
  obtain ⟨g1, g2, g3⟩ := S.way_gap h0 h1 hn
  have := S.wayL_range h0 h1 h2 d hn.2.1
  exact S.step_of_gap hm (by omega) (by omega) hn.2.2.1 g3
theorem S.wayL_lo {l : List Int} (hm : S.mayB l = true) {hi lo : Int} (h0 : 0 ≤ lo) (h1 : hi < l.length) (h2 : lo ≤ hi) : lo ∈ S.wayL l hi lo := by
  rw [S.wayL_mem h0 h1]
  by_cases e : lo = hi
  · exact .inl e
  · exact .inr ⟨Int.le_refl _, by omega, ((S.mayB_parts hm).2.2.2 lo h0 (by omega)).1, fun y y1 y2 => by omega⟩
theorem S.wayL_hi {l : List Int} {hi lo : Int} (h0 : 0 ≤ lo) (h1 : hi < l.length) : hi ∈ S.wayL l hi lo := (S.wayL_mem h0 h1).2 (.inl rfl)
/-- Of rising places the last one is none below any. -/
theorem S.up_last {a : List Int} (h : S.Up a) {x : Int} (hx : x ∈ a) : x ≤ rd a ((a.length : Int) - 1) := by
  obtain ⟨j, hj, rfl⟩ := List.mem_iff_getElem.1 hx
  rw [← rd_get hj, show (a.length : Int) - 1 = ((a.length - 1 : Nat) : Int) from by omega]
  rcases Nat.lt_or_ge j (a.length - 1) with h1 | h1
  · exact Int.le_of_lt (S.up_rd h h1 (by omega))
  · have : j = a.length - 1 := by omega
    subst this; exact Int.le_refl _
theorem S.follow_ok {l : List Int} {hi lo : Int} (h : S.mayB l = true ∧ 0 ≤ lo ∧ lo ≤ hi ∧ hi < l.length) : S.followZ l hi lo = (S.wayL l hi lo, true) := by unfold S.followZ; rw [if_pos h]
theorem S.follow_bad {l : List Int} {hi lo : Int} (h : ¬(S.mayB l = true ∧ 0 ≤ lo ∧ lo ≤ hi ∧ hi < l.length)) : S.followZ l hi lo = ([], false) := by unfold S.followZ; rw [if_neg h]

/-- The chapter's example. -/
theorem P.awake16 (k : Nat) (hk : 400 < k) : stepladderlaw16_awake.f k = some true := by
  have hm : S.mayB [31, 0, 1, 0, 0] = true := by decide +kernel
  have hw : S.wayL [31, 0, 1, 0, 0] 4 1 = [1, 2, 4] := by decide +kernel
  have hf : S.followZ [31, 0, 1, 0, 0] 4 1 = ([1, 2, 4], true) := by rw [S.follow_ok ⟨hm, by decide, by decide, by decide⟩, hw]
  have hl1 : infix_Linked.f k [31, 0, 1, 0, 0] [1, 2, 4] = some true := by
    rw [← hw]
    refine P.linked_true _ _ (by decide) (by rw [hw]; decide) k (by rw [hw]; simp; omega) (S.wayL_up _ _ _) (fun x hx => ?_) hm (fun c d hn => S.way_step_of hm (by decide) (by decide) (by decide) hn)
    have := S.wayL_range (l := [31, 0, 1, 0, 0]) (hi := 4) (lo := 1) (by decide) (by decide) (by decide) x hx
    simp; omega
  have hl2 : infix_Linked.f k [31, 0, 1, 0, 0] [1, 4] = some false := by
    obtain ⟨b, hb, hbi⟩ := P.linked_f [31, 0, 1, 0, 0] [1, 4] (by decide) (by decide) k (by simp; omega)
    rw [hb]
    congr 1
    rw [← Bool.not_eq_true, hbi]
    intro h
    have := (h 1 (by decide)).2.2 (by decide)
    rcases this.2.2 with e | ⟨e, _⟩
    · revert e; decide +kernel
    · revert e; decide +kernel
  have hb : S.bothL [1, 2, 4] [1, 2, 4] = [1, 2, 4] := S.up_ext (S.both_up _ _) (by decide) fun x => by rw [S.both_mem]; simp
  have hbk : S.backZ [31, 0, 1, 0, 0] 4 1 = 2 := by decide +kernel
  unfold stepladderlaw16_awake.f
  simp only [Option.bind_some]
  rw [P.follow_f, hf]
  simp only [Option.bind_some, if_true]
  rw [P.ints _ _ (by decide) k (by simp; omega)]
  simp only [Option.bind_some, decide_true, if_true]
  rw [P.back_f _ _ _ k (by omega), hbk]
  simp only [Option.bind_some, if_true]
  rw [hl1]
  simp only [Option.bind_some, if_true]
  rw [hl2]
  simp only [Option.bind_some, Bool.false_eq_true, if_false]
  rw [P.both_f _ _ (by decide), hb]
  rfl

end Go.Proofs.Ytgjkjndfnjabeaa.X
end

section
/- What the document's answers for layer 14 come to, as the print has them. -/
namespace Go.Proofs.Ytgjkjndfnjabeaa.X
open Go.RowKit Go.Proofs.YtgjkjndfnjabeaaW.PrintWords

theorem P.rnext {i : Nat} (hi : i ≤ 1000000) : wrap64 ((i : Int) + 1) = ((i + 1 : Nat) : Int) := by rw [E.wrap_id (by omega) (by omega)]; omega

theorem P.r14_may_l0 (l : List Int) (hl : l.length ≤ 1000000) (d : Nat) : ∀ (k i : Nat), l.length - i = d → i ≤ l.length → d < k → stepladderref14_May.l0 k l i = some (!(l.drop i).any S.oddB) := by
  induction d with
  | zero =>
    intro k i hd hi hk
    obtain ⟨k, rfl⟩ : ∃ m, k = m + 1 := ⟨k - 1, by omega⟩
    simp only [stepladderref14_May.l0]
    rw [if_neg (by omega), List.drop_of_length_le (by omega)]
    rfl
  | succ d ih =>
    intro k i hd hi hk
    obtain ⟨k, rfl⟩ : ∃ m, k = m + 1 := ⟨k - 1, by omega⟩
    have h1 : i < l.length := by omega
    simp only [stepladderref14_May.l0]
    rw [if_pos (by omega), if_pos (by omega), rd_get h1, List.drop_eq_getElem_cons h1, List.any_cons]
    by_cases ha : l[i] < 0
    · rw [if_pos ha, show S.oddB l[i] = true from decide_eq_true (by omega)]
      rfl
    · rw [if_neg ha]
      by_cases hb : l[i] > 31
      · rw [if_pos hb, show S.oddB l[i] = true from decide_eq_true (by omega)]
        rfl
      · rw [if_neg hb, P.rnext (by omega), ih k (i + 1) (by omega) (by omega) (by omega), show S.oddB l[i] = false from decide_eq_false (by omega)]
        rfl

theorem P.r14_may (l : List Int) (hl : l.length ≤ 210) (k : Nat) (hk : 300 < k) : stepladderref14_May.f k l = some (S.mayB l) := by
  obtain ⟨k, rfl⟩ : ∃ m, k = m + 1 := ⟨k - 1, by omega⟩
  have hj : stepladderref14_May.j0 (k + 1) l true = some false := by simp only [stepladderref14_May.j0, if_true]
  unfold stepladderref14_May.f S.mayB
  by_cases h1 : (l.length : Int) < 1
  · rw [if_pos h1, hj, decide_eq_false (p := 0 < l.length) (by omega)]
    rfl
  rw [if_neg h1]
  by_cases h2 : (l.length : Int) > 200
  · rw [if_pos h2, hj, decide_eq_true (p := 0 < l.length) (by omega), decide_eq_false (p := l.length ≤ 200) (by omega)]
    rfl
  rw [if_neg h2, if_pos (by omega), decide_eq_true (p := 0 < l.length) (by omega), decide_eq_true (p := l.length ≤ 200) (by omega)]
  by_cases h3 : rd l 0 = 31
  · have := P.r14_may_l0 l (by omega) l.length k 0 (by omega) (by omega) (by omega)
    rw [show ((0 : Nat) : Int) = 0 from rfl] at this
    rw [show (rd l 0 != 31) = false from by simp [h3], decide_eq_true h3]
    simp only [stepladderref14_May.j0]
    rw [if_neg (by decide), this]
    simp
  · rw [show (rd l 0 != 31) = true from by simpa using h3, hj, decide_eq_false h3]
    rfl

theorem P.r14_up_l0 (l : List Int) (fr hi n : Int) (hl : l.length ≤ 1000000) (d : Nat) : ∀ (k i : Nat) (acc : List Int), l.length - i = d → i ≤ l.length → acc.length ≤ i → d < k →
    stepladderref14_Up.l0 k l fr hi n acc i = some (acc ++ S.upFrom (l.drop i) i fr hi n) := by
  induction d with
  | zero =>
    intro k i acc hd hi' hacc hk
    obtain ⟨k, rfl⟩ : ∃ m, k = m + 1 := ⟨k - 1, by omega⟩
    simp only [stepladderref14_Up.l0]
    rw [if_neg (by omega), List.drop_of_length_le (by omega)]
    simp [S.upFrom]
  | succ d ih =>
    intro k i acc hd hi' hacc hk
    obtain ⟨k, rfl⟩ : ∃ m, k = m + 1 := ⟨k - 1, by omega⟩
    have h1 : i < l.length := by omega
    have hs : ¬(fr ≤ (i : Int) ∧ (i : Int) < hi ∧ n ≤ l[i]) → stepladderref14_Up.l0 k l fr hi n acc (wrap64 ((i : Int) + 1)) = some (acc ++ S.upFrom (l.drop i) i fr hi n) := fun h => by
      rw [P.rnext (by omega), ih k (i + 1) acc (by omega) (by omega) (by omega) (by omega), List.drop_eq_getElem_cons h1]
      conv => rhs; unfold S.upFrom
      rw [if_neg h]
      rfl
    simp only [stepladderref14_Up.l0]
    rw [if_pos (by omega), rd_get h1]
    by_cases c1 : (i : Int) ≥ fr
    · rw [if_pos c1]
      by_cases c2 : (i : Int) < hi
      · rw [if_pos c2, if_pos (by omega)]
        by_cases c3 : l[i] ≥ n
        · rw [if_pos c3, if_pos (by omega), P.rnext (by omega), ih k (i + 1) _ (by omega) (by omega) (by simp; omega) (by omega), List.drop_eq_getElem_cons h1]
          conv => rhs; unfold S.upFrom
          rw [if_pos ⟨c1, c2, c3⟩]
          simp
        · rw [if_neg c3, hs (fun h => c3 h.2.2)]
      · rw [if_neg c2, hs (fun h => c2 h.2.1)]
    · rw [if_neg c1, hs (fun h => c1 h.1)]

theorem P.r14_up (l : List Int) (fr hi n : Int) (hl : l.length ≤ 1000000) (k : Nat) (hk : l.length + 1 < k) : stepladderref14_Up.f k l fr hi n = some (S.upZ l fr hi n) := by
  have := P.r14_up_l0 l fr hi n (by omega) l.length k 0 [] (by omega) (by omega) (by simp) (by omega)
  rw [show ((0 : Nat) : Int) = 0 from rfl] at this
  unfold stepladderref14_Up.f
  rw [this]
  simp [S.upZ]

end Go.Proofs.Ytgjkjndfnjabeaa.X
end

section
/- InfixTells: any link leads to the place, any way down goes by the places, any places are linked, or not, and two lists are together, what the document says. For every input. -/
namespace Go.Proofs.Ytgjkjndfnjabeaa.Pure
open Go.RowKit Go.Proofs.Ytgjkjndfnjabeaa.X Go.Proofs.YtgjkjndfnjabeaaW.PrintWords Go.Proofs.YtgjkjndfnjabeaaW.PrintLast

theorem InfixTells.backIs {l : List Int} {i n : Int} (h : S.mayB l = true ∧ 1 ≤ i ∧ i < l.length ∧ 0 ≤ n ∧ n ≤ 31) :
    0 ≤ S.backZ l i n ∧ S.backZ l i n < i ∧ (n ≤ 0 → S.backZ l i n = i - 1) ∧ (0 < n → n ≤ rd l (S.backZ l i n)) ∧ ∀ y : Int, S.backZ l i n < y → y < i → rd l y < n := by
  have e : S.backZ l i n = S.backN l n i.toNat := by unfold S.backZ; rw [if_pos h]
  obtain ⟨_, _, h31, _⟩ := S.mayB_parts h.1
  have := S.backN_is (l := l) (n := n) (by omega) i.toNat (by omega)
  rw [← e, show ((i.toNat : Nat) : Int) = i from by omega] at this
  exact this
theorem InfixTells.backBad {l : List Int} {i n : Int} (h : ¬(S.mayB l = true ∧ 1 ≤ i ∧ i < l.length ∧ 0 ≤ n ∧ n ≤ 31)) : S.backZ l i n = -1 := by unfold S.backZ; rw [if_neg h]

theorem InfixTells.back (l : List Int) (i n : Int) (hl : l.length ≤ 210) (k : Nat) (hk : 400 < k) : stepladderref16_Back.f k l i n = some (S.backZ l i n) := by
  obtain ⟨k, rfl⟩ : ∃ m, k = m + 1 := ⟨k - 1, by omega⟩
  have hj : stepladderref16_Back.j0 (k + 1) l i n true = some (-1) := by simp only [stepladderref16_Back.j0, if_true]
  unfold stepladderref16_Back.f
  rw [P.r14_may l hl _ (by omega)]
  simp only [Option.bind_some]
  by_cases c0 : S.mayB l = true
  · rw [if_pos c0]
    by_cases c1 : i < 1
    · rw [if_pos c1, hj, InfixTells.backBad (fun h => by omega)]
    rw [if_neg c1]
    by_cases c2 : i ≥ (l.length : Int)
    · rw [if_pos c2, hj, InfixTells.backBad (fun h => by omega)]
    rw [if_neg c2]
    by_cases c3 : n < 0
    · rw [if_pos c3, hj, InfixTells.backBad (fun h => by omega)]
    rw [if_neg c3]
    by_cases c4 : n > 31
    · rw [decide_eq_true c4, hj, InfixTells.backBad (fun h => by omega)]
    rw [decide_eq_false c4]
    obtain ⟨b0, b1, b2, b3, b4⟩ := InfixTells.backIs (l := l) (i := i) (n := n) ⟨c0, by omega, by omega, by omega, by omega⟩
    generalize S.backZ l i n = B at *
    simp only [stepladderref16_Back.j0]
    rw [if_neg (by decide)]
    by_cases c5 : n = 0
    · rw [if_pos c5, E.wrap_id (x := i - 1) (by omega) (by omega), b2 (by omega)]
    · rw [if_neg c5, P.r14_up l 0 i n (by omega) k (by omega)]
      simp only [Option.bind_some]
      have hB : B ∈ S.upZ l 0 i n := S.upZ_mem.2 ⟨b0, by omega, b0, b1, b3 (by omega)⟩
      have hpos : 0 < (S.upZ l 0 i n).length := List.length_pos_iff.2 (fun e => by rw [e] at hB; simp at hB)
      have hlen := S.upZ_len l 0 i n
      rw [E.wrap_id (x := ((S.upZ l 0 i n).length : Int) - 1) (by omega) (by omega), if_pos (by omega), if_pos (by omega)]
      have h1 := S.up_last (S.upZ_up l 0 i n) hB
      have h2 := S.upZ_mem.1 (S.rd_mem (a := S.upZ l 0 i n) (i := ((S.upZ l 0 i n).length : Int) - 1) (by omega) (by omega))
      generalize rd (S.upZ l 0 i n) (((S.upZ l 0 i n).length : Int) - 1) = X at *
      congr 1
      by_cases e : B < X
      · have := b4 X e h2.2.2.2.1; omega
      · omega
  · rw [if_neg c0, hj, InfixTells.backBad (fun h => c0 h.1)]

theorem InfixTells.follow_l0 (l : List Int) (hi lo : Int) (hm : S.mayB l = true) (h0 : 0 ≤ lo) (h1 : hi < l.length) (h2 : lo ≤ hi) (d : Nat) : ∀ (k : Nat) (a n : Int), lo ≤ a → a ≤ hi → 0 ≤ n → n ≤ 31 → (∀ y : Int, lo ≤ y → y < a → rd l y ≤ n) → a - lo + n ≤ d → d + 401 < k →
    stepladderref16_Follow.l0 k l lo (S.wayTo l hi lo a) a n = some (S.wayL l hi lo, true) := by
  obtain ⟨_, hl, h31, hlv⟩ := S.mayB_parts hm
  induction d with
  | zero =>
    intro k a n a0 a1 n0 n1 hy hd hk
    obtain ⟨k, rfl⟩ : ∃ m, k = m + 1 := ⟨k - 1, by omega⟩
    obtain rfl : a = lo := by omega
    simp only [stepladderref16_Follow.l0]
    rw [if_neg (by omega), S.way_end h0 h1 h2]
  | succ d ih =>
    intro k a n a0 a1 n0 n1 hy hd hk
    obtain ⟨k, rfl⟩ : ∃ m, k = m + 1 := ⟨k - 1, by omega⟩
    simp only [stepladderref16_Follow.l0]
    by_cases hal : a > lo
    · rw [if_pos hal, InfixTells.back l a n (by omega) k (by omega)]
      simp only [Option.bind_some]
      obtain ⟨b0, b1, b2, b3, b4⟩ := InfixTells.backIs (l := l) (i := a) (n := n) ⟨hm, by omega, by omega, n0, n1⟩
      generalize S.backZ l a n = x at *
      by_cases hx : x ≥ lo
      · have hrx := hy x hx b1
        have hxx := (hlv x (by omega) (by omega)).1
        have hrn : n ≤ rd l x := by
          by_cases e : n = 0
          · omega
          · exact b3 (by omega)
        have hlen := S.wayTo_len l hi lo a
        rw [if_pos hx, if_pos (by simp; omega), List.singleton_append, ← S.way_step h0 h1 hx b1 a1 hxx (fun y y1 y2 => by have := hy y y1 (by omega); omega) (fun y y1 y2 => by have := b4 y y1 y2; omega)]
        exact ih k x n hx (by omega) n0 n1 (fun y y1 y2 => hy y y1 (by omega)) (by omega) (by omega)
      · have hn : 1 ≤ n := by
          by_cases e : n = 0
          · have := b2 (by omega); omega
          · omega
        rw [if_neg hx, E.wrap_id (x := n - 1) (by omega) (by omega)]
        exact ih k a (n - 1) a0 a1 (by omega) (by omega) (fun y y1 y2 => by have := b4 y (by omega) y2; omega) (by omega) (by omega)
    · obtain rfl : a = lo := by omega
      rw [if_neg hal, S.way_end h0 h1 h2]

theorem InfixTells.follow (l : List Int) (hi lo : Int) (hl : l.length ≤ 210) (k : Nat) (hk : 1000 < k) : stepladderref16_Follow.f k l hi lo = some (S.followZ l hi lo) := by
  obtain ⟨k, rfl⟩ : ∃ m, k = m + 1 := ⟨k - 1, by omega⟩
  have hj : stepladderref16_Follow.j0 (k + 1) l hi lo true = some ([], false) := by simp only [stepladderref16_Follow.j0, if_true]
  unfold stepladderref16_Follow.f
  rw [P.r14_may l hl _ (by omega)]
  simp only [Option.bind_some]
  by_cases c0 : S.mayB l = true
  · rw [if_pos c0]
    by_cases c1 : lo < 0
    · rw [if_pos c1, hj, S.follow_bad (fun h => by omega)]
    rw [if_neg c1]
    by_cases c2 : lo > hi
    · rw [if_pos c2, hj, S.follow_bad (fun h => by omega)]
    rw [if_neg c2]
    by_cases c3 : hi ≥ (l.length : Int)
    · rw [decide_eq_true c3, hj, S.follow_bad (fun h => by omega)]
    rw [decide_eq_false c3]
    simp only [stepladderref16_Follow.j0]
    have hs := S.way_start (l := l) (hi := hi) (lo := lo) (by omega) (by omega)
    have := InfixTells.follow_l0 l hi lo c0 (by omega) (by omega) (by omega) (hi - lo + 31).toNat k hi 31 (by omega) (by omega) (by omega) (by omega) (fun y y1 y2 => ((S.mayB_parts c0).2.2.2 y (by omega) (by omega)).2) (by omega) (by omega)
    rw [hs] at this
    rw [if_neg (by decide), S.follow_ok ⟨c0, by omega, by omega, by omega⟩]
    exact this
  · rw [if_neg c0, hj, S.follow_bad (fun h => c0 h.1)]

theorem InfixTells.led_l0 (l : List Int) (y x : Int) (hl : l.length ≤ 210) (d : Nat) : ∀ (k n : Nat), n + d = 32 → d + 401 < k →
    ∃ b, stepladderref16_led.l0 k l y x n = some b ∧ (b = true ↔ ∃ v : Int, (n : Int) ≤ v ∧ v ≤ 31 ∧ S.backZ l y v = x) := by
  induction d with
  | zero =>
    intro k n hn hk
    obtain ⟨k, rfl⟩ : ∃ m, k = m + 1 := ⟨k - 1, by omega⟩
    simp only [stepladderref16_led.l0]
    rw [if_neg (by omega)]
    exact ⟨false, rfl, fun e => (by cases e), fun ⟨v, h1, h2, _⟩ => by omega⟩
  | succ d ih =>
    intro k n hn hk
    obtain ⟨k, rfl⟩ : ∃ m, k = m + 1 := ⟨k - 1, by omega⟩
    simp only [stepladderref16_led.l0]
    rw [if_pos (by omega), InfixTells.back l y n hl k (by omega)]
    simp only [Option.bind_some]
    by_cases h : S.backZ l y n = x
    · rw [if_pos h]
      exact ⟨true, rfl, fun _ => ⟨n, Int.le_refl _, by omega, h⟩, fun _ => rfl⟩
    · obtain ⟨b, hb, hbi⟩ := ih k (n + 1) (by omega) (by omega)
      rw [if_neg h, P.next (by omega)]
      refine ⟨b, hb, hbi.trans ⟨fun ⟨v, h1, h2, h3⟩ => ⟨v, by omega, h2, h3⟩, fun ⟨v, h1, h2, h3⟩ => ⟨v, ?_, h2, h3⟩⟩⟩
      by_cases e : v = n
      · subst e; exact absurd h3 h
      · omega
theorem InfixTells.led_iff {l : List Int} {x y : Int} (hx : 0 ≤ x) (hxy : x < y) (hy : y < l.length) : (∃ v : Int, ((0 : Nat) : Int) ≤ v ∧ v ≤ 31 ∧ S.backZ l y v = x) ↔ S.mayB l = true ∧ S.Step l x y := by
  constructor
  · rintro ⟨v, h1, h2, h3⟩
    by_cases hok : S.mayB l = true ∧ 1 ≤ y ∧ y < l.length ∧ 0 ≤ v ∧ v ≤ 31
    · obtain ⟨b0, b1, b2, b3, b4⟩ := InfixTells.backIs hok
      rw [h3] at b0 b1 b2 b3 b4
      refine ⟨hok.1, ?_⟩
      by_cases e : v = 0
      · have := b2 (by omega)
        exact .inl (by omega)
      · have := b3 (by omega)
        exact .inr ⟨by omega, fun z z1 z2 => by have := b4 z z1 z2; omega⟩
    · rw [InfixTells.backBad hok] at h3; omega
  · rintro ⟨hm, hs⟩
    have hlv := (S.mayB_parts hm).2.2.2 x hx (by omega)
    rcases hs with hs | ⟨h1, h2⟩
    · refine ⟨0, by omega, by omega, ?_⟩
      have := (InfixTells.backIs (l := l) (i := y) (n := 0) ⟨hm, by omega, hy, by omega, by omega⟩).2.2.1 (by omega)
      omega
    · refine ⟨rd l x, by omega, by omega, ?_⟩
      obtain ⟨b0, b1, b2, b3, b4⟩ := InfixTells.backIs (l := l) (i := y) (n := rd l x) ⟨hm, by omega, hy, by omega, by omega⟩
      generalize S.backZ l y (rd l x) = B at *
      have h3 := b3 (by omega)
      rcases Int.lt_trichotomy B x with h | h | h
      · have := b4 x h hxy; omega
      · exact h
      · have := h2 B h b1; omega

theorem InfixTells.linked_l0 (l a : List Int) (hl : l.length ≤ 210) (ha : a.length ≤ 1000) (d : Nat) : ∀ (k i : Nat), a.length - i = d → i ≤ a.length → 2 * d + 501 < k → (0 < i → 0 ≤ rd a ((i : Int) - 1) ∧ rd a ((i : Int) - 1) < l.length) →
    ∃ b, stepladderref16_Linked.l0 k l a i = some b ∧ (b = true ↔ ∀ j : Nat, i ≤ j → j < a.length → S.LinkAt l a j) := by
  induction d with
  | zero =>
    intro k i hd hi hk _
    obtain ⟨k, rfl⟩ : ∃ m, k = m + 1 := ⟨k - 1, by omega⟩
    simp only [stepladderref16_Linked.l0]
    rw [if_neg (by omega)]
    exact ⟨true, rfl, fun _ j h1 h2 => by omega, fun _ => rfl⟩
  | succ d ih =>
    intro k i hd hi hk hlast
    obtain ⟨k, rfl⟩ : ∃ m, k = m + 1 + 1 := ⟨k - 2, by omega⟩
    have hi' : i < a.length := by omega
    have hno : ∀ (hbad : ¬ S.LinkAt l a i), ∃ b, some false = some b ∧ (b = true ↔ ∀ j : Nat, i ≤ j → j < a.length → S.LinkAt l a j) := fun hbad => ⟨false, rfl, fun e => (by cases e), fun h => absurd (h i (Nat.le_refl _) hi') hbad⟩
    have hj1t : stepladderref16_Linked.j1 (k + 1) l a i true = some false := by simp only [stepladderref16_Linked.j1, if_true]
    simp only [stepladderref16_Linked.l0]
    rw [if_pos (by omega), if_pos (by omega)]
    by_cases c1 : rd a i < 0
    · rw [if_pos c1, hj1t]; exact hno (fun h => by have := h.1; omega)
    rw [if_neg c1]
    by_cases c2 : rd a i ≥ (l.length : Int)
    · rw [decide_eq_true c2, hj1t]; exact hno (fun h => by have := h.2.1; omega)
    rw [decide_eq_false c2]
    obtain ⟨b, hb, hbi⟩ := ih k (i + 1) (by omega) (by omega) (by omega) (fun _ => by rw [show ((i + 1 : Nat) : Int) - 1 = (i : Int) from by omega]; exact ⟨by omega, by omega⟩)
    have hyes : ∀ (hok : S.LinkAt l a i), (b = true ↔ ∀ j : Nat, i ≤ j → j < a.length → S.LinkAt l a j) := fun hok => by
      rw [hbi]
      constructor
      · intro h j h1 h2
        by_cases e : j = i
        · subst e; exact hok
        · exact h j (by omega) h2
      · intro h j h1 h2; exact h j (by omega) h2
    have hgo : stepladderref16_Linked.l0 k l a (wrap64 ((i : Int) + 1)) = some b := by rw [P.next (by omega)]; exact hb
    simp only [stepladderref16_Linked.j1]
    rw [if_neg (by decide), hgo]
    by_cases c3 : (i : Int) = 0
    · rw [if_pos c3]
      exact ⟨b, rfl, hyes ⟨by omega, by omega, fun h => by omega⟩⟩
    · obtain ⟨hl1, hl2⟩ := hlast (by omega)
      rw [if_neg c3, if_pos (by omega), if_pos (by omega), E.wrap_id (x := (i : Int) - 1) (by omega) (by omega), if_pos (by omega), if_pos (by omega)]
      obtain ⟨b2, hb2, hb2i⟩ := InfixTells.led_l0 l (rd a i) (rd a ((i : Int) - 1)) hl 32 k 0 (by omega) (by omega)
      unfold stepladderref16_led.f
      rw [show ((0 : Nat) : Int) = 0 from rfl] at hb2
      rw [hb2]
      simp only [Option.bind_some]
      by_cases c4 : rd a i ≤ rd a ((i : Int) - 1)
      · rw [if_pos c4]; exact hno (fun h => by have := (h.2.2 (by omega)).1; omega)
      rw [if_neg c4]
      rw [InfixTells.led_iff hl1 (by omega) (by omega)] at hb2i
      cases b2 with
      | true =>
        rw [if_pos rfl]
        exact ⟨b, rfl, hyes ⟨by omega, by omega, fun _ => ⟨by omega, hb2i.1 rfl⟩⟩⟩
      | false =>
        rw [if_neg (by decide)]
        exact hno (fun h => by have := hb2i.2 (h.2.2 (by omega)).2; cases this)

/-- Of rising places, one more. -/
def InfixTells.rest (v : Int) : Bool → List Int → List Int
  | true, L => L.filter fun x => decide (x ≠ v)
  | false, [] => [v]
  | false, x :: t => if v ≤ x then v :: ((if x = v then [] else [x]) ++ t.filter fun x => decide (x ≠ v)) else x :: InfixTells.rest v false t
theorem InfixTells.rest_facts (v : Int) : ∀ {L : List Int}, S.Up L → S.Up (InfixTells.rest v false L) ∧ (∀ x, x ∈ InfixTells.rest v false L ↔ x ∈ L ∨ x = v) ∧ (InfixTells.rest v false L).length ≤ L.length + 1
  | [], _ => ⟨by simp [InfixTells.rest], fun x => by simp [InfixTells.rest], by simp [InfixTells.rest]⟩
  | y :: t, h => by
    obtain ⟨h1, h2⟩ := List.pairwise_cons.1 h
    unfold InfixTells.rest
    by_cases hv : v ≤ y
    · rw [if_pos hv]
      have hf : t.filter (fun x => decide (x ≠ v)) = t := List.filter_eq_self.2 fun x hx => by have := h1 x hx; simp; omega
      rw [hf]
      by_cases e : y = v
      · subst e
        rw [if_pos rfl, List.nil_append]
        exact ⟨h, fun x => ⟨.inl, fun h => h.elim id (fun e => by rw [e]; exact List.mem_cons_self)⟩, by simp⟩
      · rw [if_neg e]
        refine ⟨List.Pairwise.cons (fun x hx => ?_) h, fun x => by rw [List.mem_cons]; exact ⟨fun h => h.elim .inr .inl, fun h => h.elim .inr .inl⟩, by simp⟩
        rcases List.mem_cons.1 hx with rfl | hx
        · omega
        · have := h1 x hx; omega
    · rw [if_neg hv]
      obtain ⟨i1, i2, i3⟩ := InfixTells.rest_facts v h2
      refine ⟨List.Pairwise.cons (fun x hx => ?_) i1, fun x => ?_, by simp; omega⟩
      · rcases (i2 x).1 hx with hx | rfl
        · exact h1 x hx
        · omega
      · rw [List.mem_cons, i2, List.mem_cons]
        exact ⟨fun h => h.elim (fun h => .inl (.inl h)) (fun h => h.elim (fun h => .inl (.inr h)) .inr), fun h => h.elim (fun h => h.elim .inl (fun h => .inr (.inl h))) (fun h => .inr (.inr h))⟩

theorem InfixTells.both_l1 (all out : List Int) (i : Nat) (hi : i < all.length) (hall : all.length ≤ 1000) (hout : out.length ≤ 1000) (K : Nat) (R : Option (List Int)) (d : Nat) : ∀ (k j : Nat) (next : List Int) (done : Bool), out.length - j = d → j ≤ out.length → next.length ≤ 2 * j → 2 * d + 1 + K < k →
    (∀ k, K < k → stepladderref16_Both.l0 k all (next ++ InfixTells.rest (rd all i) done (out.drop j)) ((i + 1 : Nat) : Int) = R) → stepladderref16_Both.l1 k all out i next done j = R := by
  induction d with
  | zero =>
    intro k j next done hd hj hn hk ht
    obtain ⟨k, rfl⟩ : ∃ m, k = m + 1 := ⟨k - 1, by omega⟩
    rw [List.drop_of_length_le (by omega)] at ht
    have ht := ht k (by omega)
    simp only [stepladderref16_Both.l1]
    rw [if_neg (by omega), P.next (by omega)]
    cases done with
    | true =>
      rw [if_pos rfl]
      rw [show InfixTells.rest (rd all i) true [] = [] from rfl, List.append_nil] at ht
      exact ht
    | false =>
      rw [if_neg (by decide), if_pos (by omega), if_pos (by omega), if_pos (by omega)]
      exact ht
  | succ d ih =>
    intro k j next done hd hj hn hk ht
    obtain ⟨k, rfl⟩ : ∃ m, k = m + 1 + 1 := ⟨k - 2, by omega⟩
    have hj' : j < out.length := by omega
    rw [List.drop_eq_getElem_cons hj'] at ht
    have hno : ∀ (hx : out[j] < rd all i ∨ done = true), stepladderref16_Both.j2 (k + 1) all out i next done j false = R := fun hx => by
      simp only [stepladderref16_Both.j2]
      rw [if_neg (by decide), if_pos (by omega), if_pos (by omega), if_pos (by omega), if_pos (by omega), rd_get hj', P.next (by omega)]
      by_cases e : out[j] = rd all i
      · rw [if_pos e]
        refine ih k (j + 1) next done (by omega) (by omega) (by omega) (by omega) fun k hk => ?_
        have := ht k hk
        obtain rfl : done = true := hx.elim (fun h => by omega) id
        rw [← this]
        simp [InfixTells.rest, e]
      · rw [if_neg e, if_pos (by omega)]
        refine ih k (j + 1) (next ++ [out[j]]) done (by omega) (by omega) (by simp; omega) (by omega) fun k hk => ?_
        have := ht k hk
        rw [← this, List.append_assoc]
        congr 2
        cases done with
        | true =>
          simp only [InfixTells.rest]
          rw [List.filter_cons_of_pos (by simpa using e)]
          rfl
        | false =>
          have hlt : ¬ rd all i ≤ out[j] := hx.elim (fun h => by omega) (fun h => by cases h)
          rw [InfixTells.rest, if_neg hlt]
          rfl
    simp only [stepladderref16_Both.l1]
    rw [if_pos (by omega)]
    cases done with
    | true =>
      rw [if_pos rfl]
      exact hno (.inr rfl)
    | false =>
      rw [if_neg (by decide), if_pos (by omega), if_pos (by omega), if_pos (by omega), rd_get hj']
      by_cases hge : out[j] ≥ rd all i
      · rw [decide_eq_true hge]
        simp only [stepladderref16_Both.j2]
        rw [if_pos trivial, if_pos (by omega), if_pos (by omega), if_pos (by omega)]
        simp only [Option.bind_some]
        rw [if_pos (by omega), if_pos (by omega), rd_get hj', P.next (by omega)]
        by_cases e : out[j] = rd all i
        · rw [if_pos e]
          refine ih k (j + 1) (next ++ [rd all i]) true (by omega) (by omega) (by simp; omega) (by omega) fun k hk => ?_
          have := ht k hk
          rw [← this, List.append_assoc]
          congr 2
          rw [InfixTells.rest, InfixTells.rest, if_pos hge, if_pos e]
          rfl
        · rw [if_neg e, if_pos (by simp; omega)]
          refine ih k (j + 1) (next ++ [rd all i] ++ [out[j]]) true (by omega) (by omega) (by simp; omega) (by omega) fun k hk => ?_
          have := ht k hk
          rw [← this, List.append_assoc, List.append_assoc]
          congr 2
          rw [InfixTells.rest, InfixTells.rest, if_pos hge, if_neg e]
          rfl
      · rw [decide_eq_false hge]
        exact hno (.inl (by omega))

theorem InfixTells.both_l0 (all : List Int) (hall : all.length ≤ 200) (d : Nat) : ∀ (k i : Nat) (out : List Int), all.length - i = d → i ≤ all.length → S.Up out → out.length ≤ i → d * 1000 + 1 < k →
    ∃ L, stepladderref16_Both.l0 k all out i = some L ∧ S.Up L ∧ ∀ x, x ∈ L ↔ x ∈ out ∨ x ∈ all.drop i := by
  induction d with
  | zero =>
    intro k i out hd hi hup ho hk
    obtain ⟨k, rfl⟩ : ∃ m, k = m + 1 := ⟨k - 1, by omega⟩
    simp only [stepladderref16_Both.l0]
    rw [if_neg (by omega)]
    exact ⟨out, rfl, hup, fun x => by rw [List.drop_of_length_le (by omega)]; simp⟩
  | succ d ih =>
    intro k i out hd hi hup ho hk
    obtain ⟨k, rfl⟩ : ∃ m, k = m + 1 := ⟨k - 1, by omega⟩
    have hi' : i < all.length := by omega
    obtain ⟨f1, f2, f3⟩ := InfixTells.rest_facts (rd all i) hup
    obtain ⟨K, hK⟩ : ∃ K, K = d * 1000 + 1 := ⟨_, rfl⟩
    have hk2 : K + 900 < k := by omega
    have hih := fun (k : Nat) (hk : K < k) => ih k (i + 1) (InfixTells.rest (rd all i) false out) (by omega) (by omega) f1 (by omega) (hK ▸ hk)
    obtain ⟨L, hL, hLu, hLm⟩ := hih (K + 1) (by omega)
    simp only [stepladderref16_Both.l0]
    rw [if_pos (by omega)]
    refine ⟨L, ?_, hLu, fun x => ?_⟩
    · rw [show (0 : Int) = ((0 : Nat) : Int) from rfl]
      refine InfixTells.both_l1 all out i hi' (by omega) (by omega) K (some L) out.length k 0 [] false (by omega) (by omega) (by simp) (by omega) fun k' hk' => ?_
      rw [List.nil_append, List.drop_zero]
      obtain ⟨L', hL', hLu', hLm'⟩ := hih k' hk'
      rw [hL']
      congr 1
      exact S.up_ext hLu' hLu fun x => (hLm' x).trans (hLm x).symm
    · rw [hLm, f2, List.drop_eq_getElem_cons hi', List.mem_cons, rd_get hi']
      exact ⟨fun h => h.elim (fun h => h.elim .inl (fun h => .inr (.inl h))) (fun h => .inr (.inr h)), fun h => h.elim (fun h => .inl (.inl h)) (fun h => h.elim (fun h => .inl (.inr h)) .inr)⟩

theorem InfixTells.both (a b : List Int) (ha : a.length ≤ 60) (hb : b.length ≤ 60) (k : Nat) (hk : 150000 < k) : stepladderref16_Both.f k a b = some (S.bothL a b) := by
  unfold stepladderref16_Both.f
  rw [if_pos (by simp; omega)]
  simp only [Option.bind_some, List.nil_append]
  obtain ⟨q, hq⟩ : ∃ q, q = (a ++ b).length := ⟨_, rfl⟩
  have hq2 : q ≤ 120 := by rw [hq, List.length_append]; omega
  have hkq : q * 1000 + 1 < k := by omega
  obtain ⟨L, hL, hup, hmem⟩ := InfixTells.both_l0 (a ++ b) (by omega) q k 0 [] (by omega) (by omega) (by simp) (by simp) hkq
  rw [show ((0 : Nat) : Int) = 0 from rfl] at hL
  rw [if_pos (by omega), hL]
  congr 1
  refine S.up_ext hup (S.both_up _ _) fun x => ?_
  rw [hmem, S.both_mem]
  simp

theorem InfixTells.all (l : List Int) (i n hi lo : Int) (a b : List Int) (k : Nat) (hk : 200001 < k) : stepladderlaw16_InfixTells.f k l i n hi lo a b = some true := by
  obtain ⟨k, rfl⟩ : ∃ m, k = m + 1 := ⟨k - 1, by omega⟩
  have hj : stepladderlaw16_InfixTells.j0 (k + 1) l i n hi lo a b true true = some true := by simp only [stepladderlaw16_InfixTells.j0, if_true]
  unfold stepladderlaw16_InfixTells.f
  rw [P.awake16 _ (by omega)]
  simp only [Option.bind_some, if_true]
  by_cases h1 : (l.length : Int) > 210
  · rw [if_pos h1, hj]
  rw [if_neg h1]
  by_cases h2 : (a.length : Int) > 60
  · rw [if_pos h2, hj]
  rw [if_neg h2]
  by_cases h3 : (b.length : Int) > 60
  · rw [decide_eq_true h3, hj]
  rw [decide_eq_false h3]
  have hfl : (S.followZ l hi lo).1.length ≤ 1000 := by
    by_cases h : S.mayB l = true ∧ 0 ≤ lo ∧ lo ≤ hi ∧ hi < l.length
    · rw [S.follow_ok h]; have := S.wayL_len l hi lo; simp only; omega
    · rw [S.follow_bad h]; simp
  have hbl := S.both_len a b
  obtain ⟨b1, hb1, hb1i⟩ := P.linked_f l a (by omega) (by omega) k (by omega)
  obtain ⟨b2, hb2, hb2i⟩ := InfixTells.linked_l0 l a (by omega) (by omega) a.length k 0 (by omega) (by omega) (by omega) (fun h => by omega)
  have hbb : b1 = b2 := by
    rw [Bool.eq_iff_iff, hb1i, hb2i]
    exact ⟨fun h j _ hj => h j hj, fun h j hj => h j (by omega) hj⟩
  subst hbb
  simp only [stepladderlaw16_InfixTells.j0]
  rw [if_neg (by decide), P.follow_f]
  simp only [Option.bind_some]
  rw [InfixTells.follow l hi lo (by omega) k (by omega)]
  simp only [Option.bind_some]
  rw [P.ints _ _ (by omega) k (by omega)]
  simp only [Option.bind_some]
  rw [P.both_f a b (by omega)]
  simp only [Option.bind_some]
  rw [InfixTells.both a b (by omega) (by omega) k (by omega)]
  simp only [Option.bind_some]
  rw [P.ints _ _ (by omega) k (by omega)]
  simp only [Option.bind_some]
  unfold stepladderref16_Linked.f
  rw [show ((0 : Nat) : Int) = 0 from rfl] at hb2
  rw [hb2]
  simp only [Option.bind_some, decide_true, if_true, beq_self_eq_true]
  rw [hb1]
  simp only [Option.bind_some, beq_self_eq_true, if_true]
  rw [P.back_f l i n k (by omega), InfixTells.back l i n (by omega) k (by omega)]
  simp

theorem InfixTells : stepladderlaw16_InfixTells.Pure := fun l i n hi lo a b _ _ _ _ _ _ _ _ _ _ _ _ _ => ⟨200002, InfixTells.all l i n hi lo a b 200002 (by omega)⟩

end Go.Proofs.Ytgjkjndfnjabeaa.Pure
end
