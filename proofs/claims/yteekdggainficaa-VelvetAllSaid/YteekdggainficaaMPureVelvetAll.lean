/- If all but the first block are Up, and tell what they should, it is as of all their levels: plain. -/
import Derived.Test.YteekdggainficaaMPY
import Derived.Test.YteekdggainficaaMXstepladderlaw21VelvetAll
namespace Go.Proofs.Yteekdggainficaa.X
open Go.RowKit Go.Proofs.YteekdggainficaaW.PrintWords
/-- Blocks that tell what they should. -/
def V.bld (v : List Int) : Nat → List S36
  | 0 => []
  | i + 1 => V.bld v i ++ [⟨true, rd v i, if i = 0 then [] else V.lnk (V.bld v i) i⟩]
theorem V.bld_len (v : List Int) : ∀ i, (V.bld v i).length = i
  | 0 => rfl
  | i + 1 => by rw [V.bld, List.length_append, V.bld_len v i]; rfl
theorem V.bld_at (v : List Int) : ∀ n j, j < n → (V.bld v n).getD j z36 = ⟨true, rd v j, if j = 0 then [] else V.lnk (V.bld v j) j⟩
  | 0, _, h => absurd h (Nat.not_lt_zero _)
  | n + 1, j, h => by
    rw [V.bld]
    by_cases e : j = n
    · subst e
      have := V.getD_end (l := V.bld v j) (x := ⟨true, rd v j, if j = 0 then [] else V.lnk (V.bld v j) j⟩)
      rwa [V.bld_len] at this
    · rw [V.getD_left (by rw [V.bld_len]; omega)]
      exact V.bld_at v n j (by omega)
theorem V.bld_lnk (v : List Int) {n i : Nat} (h : i ≤ n) : V.lnk (V.bld v n) i = V.lnk (V.bld v i) i :=
  V.lnk_congr i fun j hj => by rw [V.bld_at v n j (by omega), V.bld_at v i j hj]
theorem V.bld_sm (v : List Int) {n j : Nat} (h : j < n) : V.sm (V.bld v n) j = true := by
  unfold V.sm V.isB
  rw [V.bld_at v n j h, V.bld_lnk v (n := n) (i := j) (by omega)]
  by_cases e : j = 0
  · simp [e]
  · simp [e]
theorem V.bld_lev (v : List Int) : ∀ n, n ≤ v.length → V.lev (V.bld v n) = v.take n
  | 0, _ => rfl
  | n + 1, h => by
    have ih := V.bld_lev v n (by omega)
    unfold V.lev at ih ⊢
    rw [V.bld, List.map_append, ih, List.take_succ_eq_append_getElem (by omega), ← rd_get]
    rfl
theorem S.mayB_take {v : List Int} {n : Nat} (h1 : 1 ≤ n) (h : S.mayB v = true) : S.mayB (v.take n) = true := by
  obtain ⟨h0, hl, h31, hlv⟩ := S.mayB_parts h
  have hr : ∀ x : Int, 0 ≤ x → x < (v.take n).length → rd (v.take n) x = rd v x := fun x a b => by
    rw [List.length_take] at b
    obtain ⟨j, rfl⟩ : ∃ j : Nat, x = j := ⟨x.toNat, by omega⟩
    rw [rd_get (by rw [List.length_take]; omega), rd_get (by omega), List.getElem_take]
  refine S.mayB_of (by rw [List.length_take]; omega) (by rw [List.length_take]; omega) ?_ fun x a b => ?_
  · rw [hr 0 (by omega) (by rw [List.length_take]; omega)]; exact h31
  · rw [hr x a b]
    rw [List.length_take] at b
    exact hlv x a (by omega)
theorem V.bld_may {v : List Int} {n : Nat} (h1 : 1 ≤ n) (hn : n ≤ v.length) (h : S.mayB v = true) : V.mayV (V.bld v n) = true := by
  unfold V.mayV
  rw [V.bld_lev v n hn]
  exact S.mayB_take h1 h
theorem V.bld_set (v : List Int) (i : Nat) (h : i ≠ 0) : (V.bld v i ++ [(⟨true, rd v i, []⟩ : S36)]).set i ⟨true, rd v i, V.lnk (V.bld v i) i⟩ = V.bld v (i + 1) := by
  rw [V.bld, if_neg h, List.set_append_right _ _ (by rw [V.bld_len]; exact Nat.le_refl _), V.bld_len, Nat.sub_self]
  rfl
theorem V.bld_smooth {v : List Int} (h : S.mayB v = true) : V.smoothZ (V.bld v v.length) = List.replicate v.length true := by
  have hm := V.bld_may (n := v.length) (by have := (S.mayB_parts h).1; omega) (Nat.le_refl _) h
  rw [V.smoothZ_is hm, V.bld_len]
  refine List.ext_getElem (by simp) fun j h1 h2 => ?_
  rw [List.getElem_map, List.getElem_range, List.getElem_replicate]
  exact V.bld_sm v (by simpa using h1)
theorem V.bld_thorny {v : List Int} (h : S.mayB v = true) : V.thornyL (V.bld v v.length) = [] := by
  unfold V.thornyL
  rw [V.bld_smooth h]
  refine List.eq_nil_iff_forall_not_mem.2 fun x hx => ?_
  obtain ⟨j, rfl, h1, _, h3⟩ := V.thTo_mem.1 hx
  rw [List.length_replicate] at h1
  rw [List.getD_eq_getElem?_getD, List.getElem?_replicate_of_lt h1] at h3
  cases h3
theorem V.bld_pref {v : List Int} (h : S.mayB v = true) (m k2 : Int) : V.prefZ (V.bld v v.length) m k2 = S.prefZ v m k2 := by
  have h1 := (S.mayB_parts h).1
  have hm := V.bld_may (n := v.length) (by omega) (Nat.le_refl _) h
  by_cases c : 1 ≤ m ∧ 1 ≤ k2 ∧ k2 < v.length
  · obtain ⟨k, rfl⟩ : ∃ k : Nat, k2 = k := ⟨k2.toNat, by omega⟩
    have hok : S.okB v m k = true := S.okB_iff.2 ⟨h, c⟩
    obtain ⟨_, hl, h31, hlv⟩ := S.mayB_parts h
    rw [V.prefZ_ok hm c.1 (by omega) (by rw [V.bld_len]; omega), V.bld_len]
    have hat : V.atTo (V.bld v v.length) (v.length - k) = (List.range (v.length - k)).map fun j : Nat => (j : Int) := by
      unfold V.atTo
      congr 1
      refine List.filter_eq_self.2 fun j hj => ?_
      rw [List.mem_range] at hj
      rw [V.bld_smooth h, List.getD_eq_getElem?_getD, List.getElem?_replicate_of_lt (by omega)]
      rfl
    have hlevs : V.lev (V.smo (V.bld v v.length) (v.length - k)) = v.take (v.length - k) := by
      unfold V.smo
      rw [hat]
      refine List.ext_getElem (by unfold V.lev; simp) fun j a b => ?_
      unfold V.lev at a ⊢
      rw [List.length_map, List.length_map, List.length_map, List.length_range] at a
      rw [List.getElem_map, List.getElem_map, List.getElem_map, List.getElem_range, Int.toNat_natCast, V.bld_at v v.length j (by omega), List.getElem_take]
      exact rd_get (by omega)
    rw [hat, hlevs]
    have hrd : ∀ x : Int, 0 ≤ x → x < (v.length : Int) - k → rd (v.take (v.length - k) ++ List.replicate k 0) x = rd v x := fun x a b => by
      obtain ⟨j, rfl⟩ : ∃ j : Nat, x = j := ⟨x.toNat, by omega⟩
      rw [rd_get (by rw [List.length_append, List.length_take]; omega), rd_get (by omega), List.getElem_append_left (by rw [List.length_take]; omega), List.getElem_take]
    have hlen : (v.take (v.length - k) ++ List.replicate k (0 : Int)).length = v.length := by rw [List.length_append, List.length_take, List.length_replicate]; omega
    have hrd0 : ∀ x : Int, (v.length : Int) - k ≤ x → x < v.length → rd (v.take (v.length - k) ++ List.replicate k (0 : Int)) x = 0 := fun x a b => by
      obtain ⟨j, rfl⟩ : ∃ j : Nat, x = j := ⟨x.toNat, by omega⟩
      rw [rd_get (by rw [hlen]; omega), List.getElem_append_right (by rw [List.length_take]; omega), List.getElem_replicate]
    have hok' : S.okB (v.take (v.length - k) ++ List.replicate k 0) m k = true := by
      refine S.okB_iff.2 ⟨S.mayB_of (by omega) (by omega) ?_ fun x a b => ?_, c.1, c.2.1, by rw [hlen]; exact c.2.2⟩
      · rw [hrd 0 (by omega) (by omega)]; exact h31
      · rw [hlen] at b
        by_cases e : x < (v.length : Int) - k
        · rw [hrd x a e]; exact hlv x a b
        · rw [hrd0 x (by omega) b]; omega
    rw [S.prefZ_ok hok', S.prefZ_ok hok, S.taken_same hok' hok hlen (fun x a b => hrd x a (by rw [hlen] at b; exact b))]
    have hmap : ((S.takenL v m k).map fun j => rd ((List.range (v.length - k)).map fun j : Nat => (j : Int)) j) = S.takenL v m k := by
      conv => rhs; rw [← List.map_id (S.takenL v m k)]
      refine List.map_congr_left fun x hx => ?_
      have := S.takenL_mem.1 hx
      obtain ⟨j, rfl⟩ : ∃ j : Nat, x = j := ⟨x.toNat, by omega⟩
      rw [rd_get (by rw [List.length_map, List.length_range]; omega), List.getElem_map, List.getElem_range]
      rfl
    simp only [hmap]
  · have hok : S.okB v m k2 = false := by
      cases e : S.okB v m k2 with
      | false => rfl
      | true => exact absurd (S.okB_parts e).2 c
    rw [S.prefZ_bad hok, V.prefZ_no (fun h' => c (by rw [V.bld_len] at h'; exact h'.2))]

theorem P.all_l1 (v : List Int) (m k2 : Int) (hm1 : m ≤ 9223372036854775807) (hwm : (Lit.int .i64 m).wf = true) (h : S.mayB v = true) (hl : v.length ≤ 210) (K : Nat) (hK : 2000 < K) (d : Nat) : ∀ (k i : Nat), v.length - i = d → i ≤ v.length → K + d < k →
    stepladderlaw21_VelvetAll.l1 k v m k2 (V.bld v v.length) (List.replicate v.length true) i = some true := by
  induction d with
  | zero =>
    intro k i hd hi hk
    obtain ⟨k, rfl⟩ : ∃ m, k = m + 1 := ⟨k - 1, by omega⟩
    obtain rfl : i = v.length := by omega
    have hpl : (S.prefZ v m k2).1.length ≤ 210 := Nat.le_trans (V.taken_len v m k2) hl
    simp only [stepladderlaw21_VelvetAll.l1]
    rw [if_neg (by simp), P.vprefix_f _ m k2 (by rw [V.bld_len]; omega) hm1, V.bld_pref h, P.prefix_f v m k2 hwm]
    simp only [Option.bind_some]
    rw [P.ints _ _ (by omega) k (by omega)]
    simp only [Option.bind_some]
    rw [if_pos (by simp), if_pos (by simp), if_pos (by simp), P.thorny_f _ (by rw [V.bld_len]; omega) k (by rw [V.bld_len]; omega), V.bld_thorny h]
    rfl
  | succ d ih =>
    intro k i hd hi hk
    obtain ⟨k, rfl⟩ : ∃ m, k = m + 1 := ⟨k - 1, by omega⟩
    simp only [stepladderlaw21_VelvetAll.l1]
    have e : rdOf false (List.replicate v.length true) (i : Int) = true := by
      unfold rdOf
      rw [Int.toNat_natCast, List.getD_eq_getElem?_getD, List.getElem?_replicate_of_lt (by omega)]
      rfl
    rw [if_pos (by rw [List.length_replicate]; omega), if_pos (by omega), e, if_pos rfl, P.nx (by omega)]
    exact ih k (i + 1) (by omega) (by omega) (by omega)
theorem P.all_l0 (v : List Int) (m k2 : Int) (hm1 : m ≤ 9223372036854775807) (hwm : (Lit.int .i64 m).wf = true) (h : S.mayB v = true) (hl : v.length ≤ 210) (d : Nat) : ∀ (k i : Nat), v.length - i = d → i ≤ v.length → 4000 + d < k →
    stepladderlaw21_VelvetAll.l0 k v m k2 (V.bld v i) i = some true := by
  induction d with
  | zero =>
    intro k i hd hi hk
    obtain ⟨k, rfl⟩ : ∃ m, k = m + 1 := ⟨k - 1, by omega⟩
    obtain rfl : i = v.length := by omega
    simp only [stepladderlaw21_VelvetAll.l0]
    rw [if_neg (by omega), P.smooth_f _ (by rw [V.bld_len]; omega), V.bld_smooth h]
    simp only [Option.bind_some]
    exact P.all_l1 v m k2 hm1 hwm h hl 2001 (by omega) v.length k 0 (by omega) (by omega) (by omega)
  | succ d ih =>
    intro k i hd hi hk
    obtain ⟨k, rfl⟩ : ∃ m, k = m + 1 := ⟨k - 1, by omega⟩
    have ih := ih k (i + 1) (by omega) (by omega) (by omega)
    have hbl := V.bld_len v i
    simp only [stepladderlaw21_VelvetAll.l0]
    rw [if_pos (by omega), if_pos (by omega), if_pos (by omega)]
    simp only [Option.bind_some]
    rw [P.nx (by omega)]
    by_cases c : i = 0
    · rw [if_neg (by omega)]
      have : V.bld v (i + 1) = V.bld v i ++ [(⟨true, rd v i, []⟩ : S36)] := by rw [V.bld, if_pos c]
      rw [← this]
      exact ih
    · rw [if_pos (by omega)]
      have hy : (V.bld v i ++ [(⟨true, rd v i, []⟩ : S36)]).length = i + 1 := by rw [List.length_append, hbl]; rfl
      have hlev : V.lev (V.bld v i ++ [(⟨true, rd v i, []⟩ : S36)]) = v.take (i + 1) := by
        rw [← V.bld_lev v (i + 1) (by omega), V.bld]
        unfold V.lev
        rw [List.map_append, List.map_append]
        rfl
      have hmy : V.mayV (V.bld v i ++ [(⟨true, rd v i, []⟩ : S36)]) = true := by
        unfold V.mayV
        rw [hlev]
        exact S.mayB_take (by omega) h
      have hlk : V.linksZ (V.bld v i ++ [(⟨true, rd v i, []⟩ : S36)]) i = V.lnk (V.bld v i) i := by
        rw [V.linksZ_is hmy (by omega) (by omega), Int.toNat_natCast]
        exact V.lnk_congr i fun j hj => V.getD_left (by omega)
      have he : rd_T36 (V.bld v i ++ [(⟨true, rd v i, []⟩ : S36)]) (i : Int) = ⟨true, rd v i, []⟩ := by
        unfold rd_T36
        rw [Int.toNat_natCast]
        have := V.getD_end (l := V.bld v i) (x := (⟨true, rd v i, []⟩ : S36))
        rwa [hbl] at this
      rw [P.links_f _ _ (by omega), hlk]
      simp only [Option.bind_some]
      rw [if_pos (by omega), he, Int.toNat_natCast, V.bld_set v i c]
      exact ih
end Go.Proofs.Yteekdggainficaa.X
namespace Go.Proofs.Yteekdggainficaa.Pure
open Go.RowKit Go.Proofs.Yteekdggainficaa.X Go.Proofs.YteekdggainficaaW.PrintWords Go.Proofs.YteekdggainficaaW.PrintLast

theorem VelvetAll : stepladderlaw21_VelvetAll.Pure := by
  intro v m k2 _ _ _ hwm _
  have hm1 := (P.wf_bounds hwm).2
  refine ⟨6001, ?_⟩
  have hj0 : stepladderlaw21_VelvetAll.j0 6001 v m k2 true true = some true := by simp only [stepladderlaw21_VelvetAll.j0, if_true]
  unfold stepladderlaw21_VelvetAll.f
  rw [P.awake21 _ (by omega)]
  simp only [Option.bind_some, if_true]
  by_cases h1 : (v.length : Int) > 210
  · rw [if_pos h1]; exact hj0
  rw [if_neg h1, P.may_f]
  simp only [Option.bind_some]
  cases hm : S.mayB v with
  | false => exact hj0
  | true =>
    simp only [stepladderlaw21_VelvetAll.j0]
    rw [if_neg (by decide)]
    exact P.all_l0 v m k2 hm1 hwm hm (by omega) v.length 6000 0 (by omega) (by omega) (by omega)

end Go.Proofs.Yteekdggainficaa.Pure
