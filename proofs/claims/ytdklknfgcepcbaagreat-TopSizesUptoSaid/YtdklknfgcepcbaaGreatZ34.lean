/- Texts of this proof, laid together by wip/tools/pack.py: TN4. -/
import Derived.Test.YtdklknfgcepcbaaGreatZ33
import Derived.Maps.OwnSet
import Derived.Maps.Keyed
import Derived.OwnWalkIn
import Derived.TacticsInMore
section
namespace Go.Proofs.YtdklknfgcepcbaaGreat.X
open Go.RowKit Go.Shelf Go.Maps Go.Sort Go.Proofs.YtdklknfgcepcbaaGreatW.PrintWords Go.Proofs.YtdklknfgcepcbaaGreatW.PrintLast Go.Proofs.YtdklknfgcepcbaaGreatW.PrintMore
set_option linter.unusedSimpArgs false
set_option linter.unusedVariables false
def E.setD (acc : List Int) : DataW Unit := setOf (.agg []) (acc.map fun x => Lit.int .i64 x)
theorem E.setD_snoc (acc : List Int) (x : Int) : E.setD (acc ++ [x]) = (E.setD acc).put (.int .i64 x) (.agg []) := by
  unfold E.setD
  rw [List.map_append, List.map_cons, List.map_nil, setOf_snoc]
abbrev E.owns (W : World) (b : Nat) (acc : List Int) : Prop := W.ownsMap (H := Unit) Tryz.prog 3 unitElem b acc.length (E.setD acc)
theorem E.take_snoc {L : List Int} {k : Nat} (h : k < L.length) : L.take (k + 1) = L.take k ++ [rd L k] := by
  rw [List.take_succ_eq_append_getElem h, rd_get h]
theorem E.add_block (a : Addr) (n : Nat) : (a.add n).block = a.block := by unfold Addr.add; split <;> rfl
def E.Ints (L : List Int) : Prop := ∀ x ∈ L, -9223372036854775808 ≤ x ∧ x ≤ 9223372036854775807
set_option maxHeartbeats 1000000 in
theorem E.pref1_calls (v1 v2 : Value) (A0 : Option Addr) (c0 : Nat) (L : List Int) (W : World) (bp bm : Nat) (acc : List Int) (hp : Boxed W bp 133 (.map (some bm))) (ho : E.owns W bm acc) (hC : Kd.C (Kd.int .i64) W A0 L.length L)
    (hA : ∀ ad, A0 = some ad → 0 < L.length → ad.block ≠ bm) (hwf : E.Ints L) (hn : acc.length + L.length < 9223372036854775807) :
    Calls Tryz.prog 64 #[v1, v2, .slice A0 L.length c0, .pointer (some ⟨bp, 0, none⟩)] W fun e W' => e = .returned (.tuple #[]) ∧ E.owns W' bm (acc ++ L) ∧ W.grownBy W' (some bm) := by
  have HP := Aside0.mk hp
  have HO := Aside0.mk ho
  have hmx := Kd.C_max hC
  have HC := Aside0.mk hC
  have HA := Aside0.mk hA
  have HW := Aside0.mk hwf
  have hpm : bp ≠ bm := by
    intro e
    subst e
    obtain ⟨es, clock, hb, _⟩ := ho
    rw [show W.heap[bp]? = _ from hp] at hb
    cases hb
  clear hp ho hC hA hwf
  go_enter Tryz.func64, Tryz.ntmps64
  go_wp2
  go_loopg [8, 11] L.length (fun kq _ v11 w' => ∃ k : Nat, v11 = .int .i64 k ∧ k ≤ L.length ∧ L.length - k ≤ kq ∧ Aside0 (E.owns w' bm (acc ++ L.take k)) ∧ Aside0 (W.grownBy w' (some bm)))
  case atStart => exact ⟨0, rfl, Nat.zero_le _, by omega, ⟨by simpa using HO.out⟩, ⟨World.grownBy.refl _ _⟩⟩
  case round =>
    obtain ⟨k, rfl, hk, hg, HO1, HG⟩ := hrel
    clear HO
    by_cases hlt : k < L.length
    · have hltz : (k : Int) < (L.length : Int) := by omega
      have p1 : 0 ≤ (k : Int) := by omega
      have cb : decide ((k : Int) < (L.length : Int)) = true := by rw [decide_eq_true_eq]; exact hltz
      obtain ⟨ad, e1, hx⟩ := Kd.at_int HC.out k p1 hltz
      cases e1
      rw [Int.toNat_natCast] at hx
      have hx1 : wr.cell? (ad.add k) = some (.int .i64 (rd L k)) := HG.out.cell hx (by rw [E.add_block]; intro e; exact HA.out ad rfl (by omega) (Option.some.inj e))
      have hp1 := (HP.out.kept HG.out (fun e => hpm (Option.some.inj e))).cell
      have HX := Aside0.mk hx
      clear hx
      have hwx : (Lit.int .i64 (rd L k)).wf = true := WalkArith.wf_i64 (HW.out _ (S.rd_mem p1 hltz))
      have hkey := Maps.keyOf_int_mk (P := Tryz.prog) Tryz.underlying3 hwx
      have HN : (acc ++ L.take k).length < maxLen := by unfold maxLen; rw [List.length_append, List.length_take]; omega
      generalize hy : rd L k = y at *
      have HY := Aside0.mk hy
      clear hy
      have HK := Aside0.mk hkey
      clear hkey hwx
      have HNN := Aside0.mk HN
      clear HN
      go_wp2_with (at_mapUpdate; refine wpList_mapUpdate_own _ rfl _ _ _ 133 rfl 3 109 (int_keyed Tryz.underlying3) Tryz.underlying133 unitElem bm _ _ rfl HO1.out HNN.out _ _ _ rfl rfl HK.out _ [] unitElem_mk ?_; intro w1 hown1 hgrow1; have HO2 := Aside0.mk hown1; have HG2 := Aside0.mk hgrow1; clear hown1 hgrow1)
      go_roundg (L.length - (k + 1))
      case measure => omega
      case rel =>
        refine ⟨k + 1, by go_num, by omega, by omega, ⟨?_⟩, ⟨HG.out.trans HG2.out⟩⟩
        show w1.ownsMap (H := Unit) _ _ _ _ _ _
        rw [E.take_snoc hlt, HY.out, ← List.append_assoc, E.setD_snoc, List.length_append]
        exact HO2.out
    · have hltz : ¬ (k : Int) < (L.length : Int) := by omega
      have cb : decide ((k : Int) < (L.length : Int)) = false := by rw [decide_eq_false_iff_not]; exact hltz
      obtain rfl : k = L.length := by omega
      go_wp2
      go_end0
      exact ⟨rfl, by rw [List.take_length] at HO1; exact HO1.out, HG.out⟩
def S.accAt (l : List Int) (m k : Int) : Nat → List Int
  | 0 => []
  | i + 1 => S.accAt l m k i ++ S.climbL l m k i
theorem S.accAt_mem (l : List Int) (m k : Int) (x : Int) : ∀ i : Nat, x ∈ S.accAt l m k i ↔ ∃ j, j < i ∧ x ∈ S.climbL l m k j
  | 0 => by simp [S.accAt]
  | i + 1 => by
    unfold S.accAt
    rw [List.mem_append, S.accAt_mem l m k x i]
    constructor
    · rintro (⟨j, hj, hx⟩ | hx)
      · exact ⟨j, by omega, hx⟩
      · exact ⟨i, by omega, hx⟩
    · rintro ⟨j, hj, hx⟩
      by_cases e : j = i
      · subst e; exact .inr hx
      · exact .inl ⟨j, by omega, hx⟩
theorem S.upFrom_len (l : List Int) : ∀ (i fr hi n : Int), (S.upFrom l i fr hi n).length ≤ l.length := by
  induction l with
  | nil => intro i fr hi n; simp [S.upFrom]
  | cons x l ih =>
    intro i fr hi n
    unfold S.upFrom
    have := ih (i + 1) fr hi n
    split
    · rw [List.length_cons, List.length_cons]; omega
    · rw [List.length_cons]; omega
theorem S.accAt_len (l : List Int) (m k : Int) : ∀ i : Nat, (S.accAt l m k i).length ≤ i * l.length
  | 0 => by simp [S.accAt]
  | i + 1 => by
    unfold S.accAt
    have h1 := S.accAt_len l m k i
    have h2 : (S.climbL l m k i).length ≤ l.length := S.upFrom_len _ _ _ _ _
    rw [List.length_append, Nat.add_mul]
    omega
theorem S.fromZ_is {l : List Int} {m k : Int} (h : S.okB l m k = true) {n : Int} (hn : n ≤ 31) : S.fromZ l m k n = S.mthLast (S.upZ l 0 ((l.length : Int) - k) (n + 1)) m := by
  unfold S.fromZ
  rw [if_pos h, if_neg (by omega)]
theorem S.fromZ_anti {l : List Int} {m k : Int} (h : S.okB l m k = true) {n n' : Int} (hn : n ≤ n') (hn' : n' ≤ 31) : S.fromZ l m k n' ≤ S.fromZ l m k n := by
  obtain ⟨h0, h1, h2, h3⟩ := S.okB_parts h
  rw [S.fromZ_is h hn', S.fromZ_is h (by omega), S.upZ_level l 0 _ (show n + 1 ≤ n' + 1 by omega)]
  exact S.mthLast_mono (S.upZ_up _ _ _ _) (fun x hx => (S.upZ_mem.1 hx).1) _ h1
theorem S.takenL_mem {l : List Int} {m k x : Int} : x ∈ S.takenL l m k ↔ 0 ≤ x ∧ x < l.length ∧ x < (l.length : Int) - k ∧ 0 ≤ rd l x ∧ S.fromZ l m k (rd l x) ≤ x := by
  unfold S.takenL
  rw [List.mem_filter, S.upZ_mem, decide_eq_true_eq]
  constructor
  · rintro ⟨⟨h0, h1, h2, h3, h4⟩, h5⟩; exact ⟨h0, h1, h3, h4, h5⟩
  · rintro ⟨h0, h1, h3, h4, h5⟩; exact ⟨⟨h0, h1, h0, h3, h4⟩, h5⟩
theorem S.takenL_up (l : List Int) (m k : Int) : S.Up (S.takenL l m k) := S.up_filter (S.upZ_up _ _ _ _) _
theorem S.acc_taken {l : List Int} {m k : Int} (h : S.okB l m k = true) (x : Int) : x ∈ S.accAt l m k 32 ↔ x ∈ S.takenL l m k := by
  obtain ⟨h0, h1, h2, h3⟩ := S.okB_parts h
  obtain ⟨_, _, h6, h7⟩ := S.mayB_parts h0
  have hc : ∀ j : Nat, j < 32 → S.climbAt l m k j = S.fromZ l m k (31 - (j : Int)) := fun j hj => by
    have := S.climb_from h (31 - j) (by omega)
    rw [show 31 - (31 - j) = j from by omega] at this
    rw [this, S.fromZ_is h (by omega)]
    congr 2
    omega
  rw [S.accAt_mem, S.takenL_mem]
  constructor
  · rintro ⟨j, hj, hx⟩
    unfold S.climbL at hx
    rw [hc j hj] at hx
    obtain ⟨x0, x1, x2, x3, x4⟩ := S.upZ_mem.1 hx
    have hl := h7 x x0 x1
    exact ⟨x0, x1, x3, hl.1, Int.le_trans (S.fromZ_anti h x4 hl.2) x2⟩
  · rintro ⟨x0, x1, x3, x4, x5⟩
    have hl := h7 x x0 x1
    refine ⟨(31 - rd l x).toNat, by omega, ?_⟩
    unfold S.climbL
    rw [hc _ (by omega), S.upZ_mem, show (31 : Int) - (((31 - rd l x).toNat : Nat) : Int) = rd l x from by omega]
    exact ⟨x0, x1, x5, x3, Int.le_refl _⟩
theorem E.up_nodup {a : List Int} (h : S.Up a) : a.Nodup := h.imp fun hlt e => by omega
theorem E.setD_has (acc : List Int) (x : Int) : has (E.setD acc) (.int .i64 x) = true ↔ x ∈ acc := by
  unfold E.setD
  rw [has_setOf _ _ _ (fun y hy => by obtain ⟨z, _, rfl⟩ := List.mem_map.1 hy; trivial), List.any_map, List.any_eq_true]
  constructor
  · rintro ⟨y, hy, he⟩
    have := WideAt.sameKey_eq (a := Lit.int .i64 y) (b := Lit.int .i64 x) he
    injection this with _ e
    subst e
    exact hy
  · intro hx
    exact ⟨x, hx, WideAt.sameKey_self (a := Lit.int .i64 x) trivial⟩
theorem E.sorted_is {W : World} {b : Nat} {acc t ss : List Int} (ho : E.owns W b acc) (ht : S.Up t) (hm : ∀ x, x ∈ acc ↔ x ∈ t) (hp : ss.Perm (intKeys (E.setD acc))) : ss.mergeSort leI = t := by
  have hc : CollectedI (E.setD acc) (fun _ => false) t := ⟨E.up_nodup ht, fun x => by rw [E.setD_has, hm x]; simp⟩
  have hp2 := hc.perm ho (int_keyed Tryz.underlying3) Tryz.underlying3 (fun _ => rfl)
  rw [mergeSort_of_perm_i (hp.trans hp2.symm)]
  exact List.mergeSort_of_pairwise (ht.imp fun h => by simp [leI]; omega)
def E.PrefJ (l : List Int) (m k : Int) (w0 : World) (i : Nat) (W : World) : Prop :=
  Below w0.heap.size w0 W ∧ w0.heap.size + 2 ≤ W.heap.size ∧ Boxed W (w0.heap.size + 1) 133 (.map (some w0.heap.size)) ∧ E.owns W w0.heap.size (S.accAt l m k i)
theorem E.climbL_ints {l : List Int} {m k : Int} {i : Nat} (h : l.length ≤ 200) : E.Ints (S.climbL l m k i) := fun x hx => by
  have := S.upZ_mem.1 hx
  omega
set_option maxHeartbeats 1000000 in
theorem E.prefClimb_calls (A0 : Option Addr) (c0 : Nat) (l0 : List Int) (a1 a2 : Int) (w0 w : World) (hr0 : Kd.C (Kd.int .i64) w0 A0 l0.length l0) (hc0 : l0.length ≤ c0) (hok : S.okB l0 a1 a2 = true) (hm : a1 ≤ 9223372036854775807)
    (hJ : E.PrefJ l0 a1 a2 w0 0 w) :
    Calls Tryz.prog 63 #[.slice A0 l0.length c0, .int .i64 a1, .int .i64 a2, .func (.func 64) #[] #[.pointer (some ⟨w0.heap.size + 1, 0, none⟩)]] w fun e w' =>
      e = .returned (.tuple #[]) ∧ E.PrefJ l0 a1 a2 w0 32 w' := by
  obtain ⟨h0, h1, h2, h3⟩ := S.okB_parts hok
  obtain ⟨_, h5, _, _⟩ := S.mayB_parts h0
  refine E.climb_calls 64 _ (enters_of Tryz.func64 (by kernel_rfl) rfl) A0 c0 l0 a1 a2 w0 w (w0.heap.size + 2) hr0 hc0 h5 h1 h2 h3 hm (E.PrefJ l0 a1 a2 w0) ?_ ?_ ?_ hJ
  · rintro i W W' ⟨j1, j2, j3, j4⟩ hb
    refine ⟨below_then j1 (by omega) hb, Nat.le_trans j2 hb.size, E.boxKept j3 hb, ?_⟩
    exact j4.kept (grown_of_below hb none) (by simp)
  · rintro i W ⟨j1, j2, _⟩
    exact ⟨j1, j2⟩
  · rintro i A c W hi ⟨j1, j2, j3, j4⟩ hC hA
    have hl1 : (S.accAt l0 a1 a2 i).length ≤ 32 * 200 := Nat.le_trans (S.accAt_len l0 a1 a2 i) (Nat.mul_le_mul (by omega) h5)
    have hl2 : (S.climbL l0 a1 a2 i).length ≤ l0.length := S.upFrom_len _ _ _ _ _
    refine (E.pref1_calls _ _ A c _ W _ w0.heap.size (S.accAt l0 a1 a2 i) j3 j4 hC (fun ad e _ => by have := hA ad e; omega) (E.climbL_ints h5) (by omega)).mono ?_
    rintro e W' ⟨rfl, ho, hg⟩
    refine ⟨rfl, ⟨j1.grown hg (by omega) (fun j e => by cases e; exact Nat.le_refl _), Nat.le_trans j2 hg.size, j3.kept hg (by simp), ho⟩, hg.size, fun b hb hlt => hg.block b hlt (by simp; omega)⟩
theorem E.sortsA (m : Nat) : AnyZI.SortsIn Tryz.prog Tryz.sortedA_ren Fence.wide m :=
  ⟨fun blk off cap ss W hH hblk hsz => callsIn_wide.2 (AnyM.slices_Sort_int Tryz.sortA blk off cap ss W hH hblk hsz),
   fun p cap W => callsIn_wide.2 (AnyM.slices_Sort_int_none Tryz.sortA p cap W)⟩
theorem E.keys_calls (b : Nat) (W : World) : Calls Tryz.prog 66 #[.map (some b)] W fun e w' =>
    e = .returned (.func (.func 117) #[] #[.pointer (some ⟨W.heap.size, 0, none⟩)]) ∧ W.alloc (.cells #[.map (some b)] 133) = w' :=
  ((callsIn_wide (n := 5)).1 (AnyZI.keys_in Tryz.keysA Fence.wide 5 trivial rfl (some b) W)).mono fun _ _ h => ⟨h.1, h.2.symm⟩
def E.SortedAs (W : World) (t : List Int) (e : Ending) (w' : World) : Prop := ∃ v : Value, e = .returned v ∧ Kd.R (Kd.int .i64) 3 w' W.heap.size (fun _ => True) v t ∧ Below W.heap.size W w'
set_option maxHeartbeats 1000000 in
theorem E.sorted_calls (b : Nat) (acc t : List Int) (w : World) (ho : E.owns w b acc) (ht : S.Up t) (hm : ∀ x, x ∈ acc ↔ x ∈ t) (hn : acc.length ≤ 17592186044416) :
    Calls Tryz.prog 65 #[.func (.func 117) #[] #[.pointer (some ⟨w.heap.size, 0, none⟩)]] (w.alloc (.cells #[.map (some b)] 133)) (E.SortedAs (w.alloc (.cells #[.map (some b)] 133)) t) := by
  have hsz : Maps.size (E.setD acc) ≤ acc.length := ho.size_le
  have hbl := ho.lt
  have hseq : SeqGives Fence.wide 2 Tryz.prog 117 #[.pointer (some ⟨w.heap.size, 0, none⟩)] encZ (fun ss => ss.Perm (intKeys (E.setD acc))) (Maps.size (E.setD acc)) (w.alloc (.cells #[.map (some b)] 133)) :=
    AnyZI.keys_gives (ρ := Tryz.keysA_ren) { Tryz.keysA with } Fence.wide _ trivial rfl (by omega) w.heap.size b acc.length (E.setD acc) _ (by simp) (by simp) (by
      obtain ⟨es, clock, hb, Ft, hs, hD⟩ := ho
      exact ⟨es, clock, (Below.heap_alloc _ _ b hbl).trans hb, Ft, hs, hD⟩)
  have cS := AnyZI.sorted_in Tryz.sortedA Fence.wide 5 trivial trivial trivial trivial rfl (by omega) (E.sortsA _) (enters_of Tryz.func116 (by kernel_rfl) rfl) 117 #[.pointer (some ⟨w.heap.size, 0, none⟩)] trivial (enters_of Tryz.func117 (by kernel_rfl) rfl) _ _ (by unfold maxLen; omega) (by omega) _ hseq
  change CallsIn _ _ Tryz.prog 65 _ _ _ at cS
  refine ((callsIn_wide (n := 5)).1 cS).mono ?_
  rintro e w' ⟨v, ss, rfl, hp, hrow, _, hb⟩
  have e1 := E.sorted_is ho ht hm hp
  have e2 : ss.length = t.length := by rw [← e1, List.length_mergeSort]
  refine ⟨v, rfl, ?_, hb⟩
  rw [show (ss.mergeSort fun x y => decide (x ≤ y)) = t from e1, e2] at hrow
  exact Kd.R_of_own hrow (fun _ _ => trivial)
set_option maxHeartbeats 1000000 in
theorem E.prefix_calls_bad (A0 : Option Addr) (c0 : Nat) (l0 : List Int) (a1 a2 : Int) (w : World) (hr0 : Kd.C (Kd.int .i64) w A0 l0.length l0) (hc0 : l0.length ≤ c0) (hok : S.okB l0 a1 a2 = false) :
    Calls Tryz.prog 37 #[.slice A0 l0.length c0, .int .i64 a1, .int .i64 a2] w fun e w' => e = .returned (.tuple #[.slice none 0 0, .bool false]) ∧ Below w.heap.size w w' := by
  have hf := E.may_f l0 a1 a2
  rw [hok] at hf
  have HR0 := Aside0.mk hr0
  have HC0 := Aside0.mk hc0
  have HF := Aside0.mk hf
  clear hr0 hc0 hf hok
  go_enter Tryz.func37, Tryz.ntmps37
  go_wp2_with (go_at_call 62; refine (super_may.calls _ _ _ _ _ _ _ HR0.out HC0.out HF.out).mono ?_; rintro e w' ⟨rfl, ⟨m, rfl⟩⟩)
  go_ret2
  exact ⟨rfl, pw_below_drewN (Below.refl _ _) _⟩
set_option maxHeartbeats 1000000 in
theorem E.prefix_calls_ok (A0 : Option Addr) (c0 : Nat) (l0 : List Int) (a1 a2 : Int) (w : World) (hr0 : Kd.C (Kd.int .i64) w A0 l0.length l0) (hc0 : l0.length ≤ c0) (hok : S.okB l0 a1 a2 = true) (hm : a1 ≤ 9223372036854775807) :
    Calls Tryz.prog 37 #[.slice A0 l0.length c0, .int .i64 a1, .int .i64 a2] w fun e w' => ∃ v : Value, e = .returned (.tuple #[v, .bool true]) ∧ Kd.R (Kd.int .i64) 3 w' w.heap.size (fun _ => True) v (S.takenL l0 a1 a2) ∧ Below w.heap.size w w' := by
  have hf := E.may_f l0 a1 a2
  rw [hok] at hf
  have HR0 := Aside0.mk hr0
  have HC0 := Aside0.mk hc0
  have HF := Aside0.mk hf
  have HOK := Aside0.mk hok
  clear hr0 hc0 hf hok
  have hmm := @run_makeMap Tryz.prog
  go_enter Tryz.func37, Tryz.ntmps37
  go_wp2_with (((go_at_call 62; refine (super_may.calls _ _ _ _ _ _ _ HR0.out HC0.out HF.out).mono ?_; rintro e w' ⟨rfl, ⟨m, rfl⟩⟩)))
  have hJ : E.PrefJ l0 a1 a2 w 0 (((w.drewN m).alloc (.map #[] 0)).alloc (.cells #[.map (some w.heap.size)] 133)) := by
    refine ⟨below_alloc (below_alloc (pw_below_drewN (Below.refl _ _) _) _) _, by simp, ?_, ?_⟩
    · have b1 := Boxed.new ((w.drewN m).alloc (.map #[] 0)) 133 (.map (some w.heap.size))
      simpa using b1
    · have b2 := World.ownsMap_made (H := Unit) (w.drewN m) Tryz.prog 3 unitElem
      have b3 := b2.kept (World.grownBy_alloc _ (.cells #[.map (some w.heap.size)] 133) none) (by simp)
      simp only [World.heap_drewN] at b3
      exact b3
  refine (E.prefClimb_calls A0 c0 l0 a1 a2 w _ HR0.out HC0.out HOK.out hm hJ).mono ?_
  clear hJ
  rintro e w1 ⟨rfl, j1, j2, j3, j4⟩
  have J1 := Aside0.mk j1
  have J4 := Aside0.mk j4
  have c3 := j3.cell
  clear j1 j3 j4
  obtain ⟨_, p1, p2, p3⟩ := S.okB_parts HOK.out
  obtain ⟨_, p5, _, _⟩ := S.mayB_parts (S.okB_parts HOK.out).1
  have hal : (S.accAt l0 a1 a2 32).length ≤ 17592186044416 := Nat.le_trans (Nat.le_trans (S.accAt_len l0 a1 a2 32) (Nat.mul_le_mul (Nat.le_refl _) p5)) (by omega)
  have HAL := Aside0.mk hal
  clear hal
  go_wp2_with (((go_at_call 66; refine (E.keys_calls _ _).mono ?_; rintro e w' ⟨rfl, rfl⟩)))
  refine (E.sorted_calls w.heap.size (S.accAt l0 a1 a2 32) (S.takenL l0 a1 a2) w1 J4.out (S.takenL_up _ _ _) (S.acc_taken HOK.out) HAL.out).mono ?_
  rintro e w2 ⟨v, rfl, hR, hB⟩
  have HR := Aside0.mk hR
  have HB := Aside0.mk hB
  clear hR hB
  go_wp2
  go_ret2
  refine ⟨v, rfl, Kd.R_lower HR.out ?_, below_then (below_alloc J1.out _) ?_ HB.out⟩
  · have := J1.out.size; simp; omega
  · have := J1.out.size; simp; omega
theorem E.prefix_calls (A0 : Option Addr) (c0 : Nat) (l0 : List Int) (a1 a2 : Int) (w : World) (hr0 : Kd.C (Kd.int .i64) w A0 l0.length l0) (hc0 : l0.length ≤ c0) (hm : a1 ≤ 9223372036854775807) :
    Calls Tryz.prog 37 #[.slice A0 l0.length c0, .int .i64 a1, .int .i64 a2] w fun e w' => ∃ v : Value, e = .returned (.tuple #[v, .bool (S.prefZ l0 a1 a2).2]) ∧ Kd.R (Kd.int .i64) 3 w' w.heap.size (fun _ => True) v (S.prefZ l0 a1 a2).1 ∧ Below w.heap.size w w' := by
  cases hok : S.okB l0 a1 a2 with
  | false =>
    have e1 : S.prefZ l0 a1 a2 = ([], false) := by unfold S.prefZ; rw [hok]; simp
    rw [e1]
    exact (E.prefix_calls_bad A0 c0 l0 a1 a2 w hr0 hc0 hok).mono fun e w' h => ⟨_, h.1, Kd.R_nil _ _ _ _ _, h.2⟩
  | true =>
    have e1 : S.prefZ l0 a1 a2 = (S.takenL l0 a1 a2, true) := by unfold S.prefZ; rw [if_pos hok]
    rw [e1]
    exact E.prefix_calls_ok A0 c0 l0 a1 a2 w hr0 hc0 hok hm
end Go.Proofs.YtdklknfgcepcbaaGreat.X
end
