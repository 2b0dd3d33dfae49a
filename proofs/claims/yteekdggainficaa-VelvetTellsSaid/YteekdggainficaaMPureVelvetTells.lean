/- Any blocks may be, should tell the links, are smooth, or thorny, and are taken, as the document says: plain. -/
import Derived.Test.YteekdggainficaaMPX
import Derived.Test.YteekdggainficaaMXstepladderlaw21VelvetTells
namespace Go.Proofs.Yteekdggainficaa.Pure
open Go.RowKit Go.Proofs.Yteekdggainficaa.X Go.Proofs.YteekdggainficaaW.PrintWords Go.Proofs.YteekdggainficaaW.PrintLast

theorem VelvetTells : ∀ (l0 : List S36) (a1 a2 a3 : Int), l0.length ≤ 9223372036854775807 → (∀ y ∈ l0, (Lit.int .i64 y.f1).wf = true) → (Lit.int .i64 a1).wf = true → (Lit.int .i64 a2).wf = true → (Lit.int .i64 a3).wf = true → ∃ k, stepladderlaw21_VelvetTells.f k l0 a1 a2 a3 = some true := by
  intro l i m k2 hl _ _ wm _
  have hm1 := (P.wf_bounds wm).2
  obtain ⟨k, hk⟩ : ∃ k, l.length + 100000 = k := ⟨_, rfl⟩
  refine ⟨k + 1, ?_⟩
  obtain ⟨b, hb, hbt⟩ := P.few_f l hl (k + 1) (by omega)
  unfold stepladderlaw21_VelvetTells.f
  rw [P.awake21 _ (by omega), hb]
  simp only [Option.bind_some, if_true]
  simp only [stepladderlaw21_VelvetTells.j0]
  cases b with
  | false => rw [if_pos (by decide)]
  | true =>
    obtain ⟨h210, hc⟩ := hbt rfl
    have hsl := (V.smoothZ_len l).1
    have htl : (V.thornyL l).length ≤ 1000 := Nat.le_trans (V.thTo_len _ _ _) (by omega)
    have hll : (V.linksZ l i).length ≤ 1000 := by
      unfold V.linksZ
      split
      · rename_i h
        have := V.linksZ_is h.1 h.2.1 h.2.2
        unfold V.linksZ at this
        rw [if_pos h] at this
        rw [this]
        have := V.lnk_len l (fun x hx => (V.may_lev h.1 x hx).2) i.toNat
        omega
      · simp
    have hpl : (V.prefZ l m k2).1.length ≤ 1000 := by
      unfold V.prefZ
      split
      · rename_i h
        have h1 := V.taken_len (V.levA l k2) m k2
        have h2 : (V.levA l k2).length ≤ 500 := by
          unfold V.levA V.atL
          rw [List.length_append, List.length_map, List.length_map, List.length_replicate]
          have := List.length_filter_le (fun j => (V.smoothZ l).getD j false) (List.range ((l.length : Int) - k2).toNat)
          rw [List.length_range] at this
          omega
        rw [List.length_map]
        omega
      · simp
    rw [if_neg (by decide), P.links_f l i (by omega), P.r21_Links_f l i h210 hc k (by omega)]
    simp only [Option.bind_some]
    rw [P.ints _ _ (by omega) k (by omega), P.smooth_f l (by omega), P.r21_smooth_f l h210 hc k (by omega)]
    simp only [Option.bind_some]
    rw [P.bools_f _ (by omega) k (by omega), P.thorny_f l (by omega) k (by omega), P.r21_thorny_f l h210 hc k (by omega)]
    simp only [Option.bind_some]
    rw [P.ints _ _ (by omega) k (by omega), P.vprefix_f l m k2 (by omega) hm1, P.r21_prefix_f l m k2 h210 hc k (by omega)]
    simp only [Option.bind_some]
    rw [P.ints _ _ (by omega) k (by omega), P.r21_may_f l h210 k (by omega), V.may_f l (by omega) k (by omega)]
    simp

end Go.Proofs.Yteekdggainficaa.Pure
