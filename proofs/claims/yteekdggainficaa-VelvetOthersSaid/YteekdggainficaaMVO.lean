/- stepladderlaw21.VelvetOthers: the words of its walk. -/
import Derived.Test.YteekdggainficaaMVN
namespace Go.Proofs.Yteekdggainficaa.X
open Go.RowKit Go.Shelf Go.Maps Go.Proofs.YteekdggainficaaW.PrintWords Go.Proofs.YteekdggainficaaW.PrintLast Go.Proofs.YteekdggainficaaW.PrintMore

theorem V.add0 (g j : Nat) : (⟨g, 0, none⟩ : Addr).add j = ⟨g, j, none⟩ := by unfold Addr.add; split <;> simp_all
/-- One block in a row of its own. -/
theorem V.C_one {W : World} {g : Nat} {x : S36} {cs : List Value} (hb : W.heap[g]? = some (.cells cs.toArray 36 (0, 0))) (hK : k36.K W x cs) : Kd.C k36 W (some ⟨g, 0, none⟩) [x].length [x] := by
  have hn := World.news_of_block hb
  refine ⟨rfl, by simp, fun _ => ⟨_, rfl, fun j p hj => ?_⟩⟩
  match j, hj with
  | 0, hj =>
    cases hj
    exact ⟨cs, k36.K_len hK, hK, fun i u hu => by rw [Nat.zero_mul, Nat.zero_add]; exact hn i u (by simpa using hu)⟩
/-- Three cells of a row's block, written: a block. -/
theorem V.reads_set {R : S36 → List Value → Prop} {W : World} {g n i : Nat} {xs : List S36} {x : S36} {va vb vc : Value} (h : ReadsRow R 3 W (some ⟨g, 0, none⟩) n xs) (hi : i < n) (hK : R x [va, vb, vc]) :
    ReadsRow R 3 (((W.setCell ⟨g, i * 3, none⟩ va).setCell ⟨g, i * 3 + 1, none⟩ vb).setCell ⟨g, i * 3 + 2, none⟩ vc) (some ⟨g, 0, none⟩) n (xs.set i x) := by
  obtain ⟨h1, h2, h3⟩ := h
  have hadd : ∀ j, (⟨g, 0, none⟩ : Addr).add j = ⟨g, j, none⟩ := fun j => by unfold Addr.add; split <;> simp_all
  refine ⟨by rw [List.length_set]; exact h1, h2, fun hn => ?_⟩
  obtain ⟨ad, e, hc⟩ := h3 hn
  cases e
  refine ⟨_, rfl, fun j p hj => ?_⟩
  by_cases c : j = i
  · subst c
    obtain ⟨q, hq, _, hcell⟩ := hc j (xs[j]'(by omega)) (List.getElem?_eq_getElem (by omega))
    rw [List.getElem?_set_self (by omega)] at hj
    cases hj
    have e0 := hcell 0 _ (List.getElem?_eq_getElem (by omega))
    have e1 := hcell 1 _ (List.getElem?_eq_getElem (by omega))
    have e2 := hcell 2 _ (List.getElem?_eq_getElem (by omega))
    rw [hadd] at e0 e1 e2
    refine ⟨[va, vb, vc], rfl, hK, fun k u hu => ?_⟩
    rw [hadd]
    match k, hu with
    | 0, hu =>
      cases hu
      rw [World.cell?_setCell_other _ _ _ _ (by simp), World.cell?_setCell_other _ _ _ _ (by simp)]
      exact World.cell?_setCell_same _ _ _ e0
    | 1, hu =>
      cases hu
      rw [World.cell?_setCell_other _ _ _ _ (by simp)]
      exact World.cell?_setCell_same _ _ _ ((World.cell?_setCell_other _ _ _ _ (by simp)).trans e1)
    | 2, hu =>
      cases hu
      exact World.cell?_setCell_same _ _ _ ((World.cell?_setCell_other _ _ _ _ (by simp)).trans ((World.cell?_setCell_other _ _ _ _ (by simp)).trans e2))
    | k + 3, hu => simp at hu
  · rw [List.getElem?_set_ne (Ne.symm c)] at hj
    obtain ⟨q, hq, hR, hcell⟩ := hc j p hj
    refine ⟨q, hq, hR, fun k u hu => ?_⟩
    have hk : k < 3 := by rw [← hq]; exact (List.getElem?_eq_some_iff.1 hu).1
    have hne : ∀ d, d < 3 → (⟨g, i * 3 + d, none⟩ : Addr) ≠ ⟨g, j * 3 + k, none⟩ := fun d hd e => by
      injection e with _ e
      omega
    have := hcell k u hu
    rw [hadd] at this ⊢
    rw [World.cell?_setCell_other _ _ _ _ (hne 2 (by omega)), World.cell?_setCell_other _ _ _ _ (hne 1 (by omega)), World.cell?_setCell_other _ _ _ _ (by have := hne 0 (by omega); rwa [Nat.add_zero] at this)]
    exact this

/-- append(nil, l...): a row of the call's own, its elements as they came in. -/
theorem V.append_all {P : Program} {ops : Array Oper} {rest : List Oper} {o : Oper} {a : Act} {Q : Exit → Act → World → Prop} {w0 W : World} (base : Nat) (hgd : o.guard = none) (s x : Operand) (t : TypeId)
    (ho : o.op = .call { callee := .builtin .append, args := #[s, x], argTypes := #[t, t] })
    (ht : P.underlying t = some (.slice 36)) (hinfo : (P.info? 36).map (fun i => (i.zero, i.size, i.bytes)) = some (some (.agg #[.bool false, .int .i64 0, .slice none 0 0]), 3, 40))
    (wK : World) (ad : Addr) (c : Nat) (xs : List S36) (hs : a.eval s = .slice none 0 0) (hx : a.eval x = .slice (some ad) xs.length c) (HR : ReadsRow (k36.K wK) 3 W (some ad) xs.length xs)
    (HB : Below base w0 W) (hbase : base ≤ W.heap.size) (hl : xs.length * 40 ≤ 140737488355328)
    (h : ∀ v1 w1, OwnRow (k36.K wK) 36 3 w1 base v1 xs → Below base w0 w1 → W.grownBy w1 none → wpList P ops Q rest (a.put o.dst v1) w1) :
    wpList P ops Q (o :: rest) a W := by
  obtain ⟨i0, hi, hzz⟩ := Option.map_eq_some_iff.1 hinfo
  simp only [Prod.mk.injEq] at hzz
  obtain ⟨hz0, hz1, hz2⟩ := hzz
  obtain ⟨news, hnr, hnc⟩ := ReadsRow.inner_ HR
  have hone : ∀ u ∈ news, u.oneCell' = true := by
    intro u hu
    obtain ⟨q, hq, rfl⟩ := List.mem_iff_getElem.1 hu
    have hql : q / 3 < xs.length := by
      rw [Nat.div_lt_iff_lt_mul (by decide)]
      rw [← hnr.1]
      exact hq
    have hc := hnr.2 (q / 3) _ (List.getElem?_eq_getElem hql)
    refine k36.K_one hc _ ?_
    rw [List.mem_iff_getElem?]
    refine ⟨q % 3, ?_⟩
    rw [List.getElem?_take, if_pos (Nat.mod_lt _ (by decide)), List.getElem?_drop, Nat.mul_comm, Nat.div_add_mod, List.getElem?_eq_getElem hq]
  refine wpList_append_own_at W hgd s x t ho base 36 i0 _ 3 40 ht hi hz0 hz1 hz2 rfl (by decide) (.slice none 0 0) 0 [] hs (own_nil _ _ _ _) ad xs.length c news hx hnr.1 hnc hone (by simp only [maxLen]; omega) (by omega) hbase ?_
  intro v1 w1 hown hg _ _
  refine h v1 w1 ⟨news, ?_, hnr⟩ (HB.grown hg hbase (fun k e => by simp [Value.ownBlock] at e)) hg
  rw [Nat.zero_add, List.nil_append] at hown
  exact hown

/-! ### plain -/
theorem V.set_len (l : List S36) (i : Nat) (x : S36) : (l.set i x).length = l.length := List.length_set
theorem V.set_ne {l : List S36} {i j : Nat} {x : S36} (h : j ≠ i) : (l.set i x).getD j z36 = l.getD j z36 := by
  rw [List.getD_eq_getElem?_getD, List.getD_eq_getElem?_getD, List.getElem?_set_ne (Ne.symm h)]
/-- Where a block is not smooth, nor what stands in its place, all others are as they were. -/
theorem V.set_lnk {l : List S36} {i : Nat} {x : S36} (h1 : V.sm l i = false) (h2 : V.sm (l.set i x) i = false) : ∀ j : Nat, V.lnk (l.set i x) j = V.lnk l j
  | 0 => rfl
  | j + 1 => by
    have ih := V.set_lnk h1 h2 j
    by_cases c : j = i
    · subst c
      rw [V.lnk_skip (.inr h1), V.lnk_skip (.inr h2)]
      exact ih
    · rw [V.lnk, V.lnk, ih, V.set_ne c]
theorem V.set_sm {l : List S36} {i j : Nat} {x : S36} (h1 : V.sm l i = false) (h2 : V.sm (l.set i x) i = false) (h : j ≠ i) : V.sm (l.set i x) j = V.sm l j := by
  unfold V.sm
  rw [V.set_lnk h1 h2, V.set_ne h]
theorem V.set_ahead {l : List S36} {i j : Nat} {x : S36} (h : j < i) : V.sm (l.set i x) j = V.sm l j :=
  V.sm_congr fun q hq => V.set_ne (by omega)

end Go.Proofs.Yteekdggainficaa.X
