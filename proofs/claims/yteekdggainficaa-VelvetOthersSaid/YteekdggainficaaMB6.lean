/- Texts of these proofs, laid together by wip/tools/mergeb.py: PV, OV. -/
import Derived.Test.YteekdggainficaaMB2
import Derived.Test.YteekdggainficaaMB4
import Derived.Test.YteekdggainficaaMB5
import Derived.Test.YteekdggainficaaMB1
import Derived.Deep.Slices
import Derived.ChangeArms
import Derived.ChangeSlices
section
/- What velvet's statements' small helpers come to, as the print has them. -/
namespace Go.Proofs.Yteekdggainficaa.X
open Go.RowKit Go.Proofs.YteekdggainficaaW.PrintWords

theorem P.nx {i : Nat} (hi : i + 1 ≤ 9223372036854775807) : wrap64 ((i : Int) + 1) = ((i + 1 : Nat) : Int) := by rw [E.wrap_id (by omega) (by omega)]; omega

theorem P.few_l0 (l : List S36) (hl : l.length ≤ 9223372036854775807) (d : Nat) : ∀ (k i : Nat), l.length - i = d → i ≤ l.length → d < k → (∀ j < i, (l.getD j z36).f2.length ≤ 40) →
    ∃ b, stepladderlaw21_few.l0 k l i = some b ∧ (b = true → l.length ≤ 210 ∧ ∀ j < l.length, (l.getD j z36).f2.length ≤ 40) := by
  induction d with
  | zero =>
    intro k i hd hi hk hj
    obtain ⟨k, rfl⟩ : ∃ m, k = m + 1 := ⟨k - 1, by omega⟩
    obtain rfl : i = l.length := by omega
    simp only [stepladderlaw21_few.l0]
    rw [if_neg (by omega)]
    exact ⟨_, rfl, fun h => ⟨by have := of_decide_eq_true h; omega, hj⟩⟩
  | succ d ih =>
    intro k i hd hi hk hj
    obtain ⟨k, rfl⟩ : ∃ m, k = m + 1 := ⟨k - 1, by omega⟩
    have e : rd_T36 l (i : Int) = l.getD i z36 := by unfold rd_T36; rw [Int.toNat_natCast]
    simp only [stepladderlaw21_few.l0]
    rw [if_pos (by omega), if_pos (by omega), e]
    by_cases h : ((l.getD i z36).f2.length : Int) > 40
    · rw [if_pos h]
      exact ⟨false, rfl, fun h => by cases h⟩
    · rw [if_neg h, P.nx (by omega)]
      refine ih k (i + 1) (by omega) (by omega) (by omega) fun j hj1 => ?_
      by_cases e : j = i
      · subst e; omega
      · exact hj j (by omega)
theorem P.few_f (l : List S36) (hl : l.length ≤ 9223372036854775807) (k : Nat) (hk : l.length < k) :
    ∃ b, stepladderlaw21_few.f k l = some b ∧ (b = true → l.length ≤ 210 ∧ ∀ j < l.length, (l.getD j z36).f2.length ≤ 40) :=
  P.few_l0 l hl l.length k 0 (by omega) (by omega) hk (fun j hj => absurd hj (Nat.not_lt_zero _))

theorem P.smooth_f (l : List S36) (hl : l.length ≤ 1000) : velvet_Smooth.f l = some (V.smoothZ l) := by unfold velvet_Smooth.f; rw [if_pos hl]
theorem P.links_f (l : List S36) (a : Int) (hl : l.length ≤ 1000) : velvet_Links.f l a = some (V.linksZ l a) := by unfold velvet_Links.f; rw [if_pos hl]
theorem P.vprefix_f (l : List S36) (a b : Int) (hl : l.length ≤ 1000) (ha : a ≤ 9223372036854775807) : velvet_Prefix.f l a b = some (V.prefZ l a b) := by unfold velvet_Prefix.f; rw [if_pos ⟨hl, ha⟩]

/-! ### velvet.Thorny -/
def V.thTo (l : List S36) (s : List Bool) (i : Nat) : List Int := ((List.range i).filter fun j => (l.getD j z36).f0 && !s.getD j false).map fun j : Nat => (j : Int)
def V.thornyL (l : List S36) : List Int := V.thTo l (V.smoothZ l) (V.smoothZ l).length
theorem V.thTo_succ (l : List S36) (s : List Bool) (i : Nat) : V.thTo l s (i + 1) = if ((l.getD i z36).f0 && !s.getD i false) = true then V.thTo l s i ++ [(i : Int)] else V.thTo l s i := by
  unfold V.thTo
  rw [List.range_succ, List.filter_append, List.map_append]
  split <;> rename_i h
  · rw [List.filter_cons_of_pos (p := fun j => (l.getD j z36).f0 && !s.getD j false) h, List.filter_nil]; rfl
  · rw [List.filter_cons_of_neg (p := fun j => (l.getD j z36).f0 && !s.getD j false) h, List.filter_nil, List.map_nil, List.append_nil]
theorem V.thTo_len (l : List S36) (s : List Bool) (i : Nat) : (V.thTo l s i).length ≤ i := by
  unfold V.thTo
  rw [List.length_map]
  have := List.length_filter_le (fun j => (l.getD j z36).f0 && !s.getD j false) (List.range i)
  rwa [List.length_range] at this
theorem V.thTo_mem {l : List S36} {s : List Bool} {i : Nat} {x : Int} : x ∈ V.thTo l s i ↔ ∃ j : Nat, x = j ∧ j < i ∧ (l.getD j z36).f0 = true ∧ s.getD j false = false := by
  unfold V.thTo
  rw [List.mem_map]
  constructor
  · rintro ⟨j, hj, rfl⟩
    rw [List.mem_filter, List.mem_range, Bool.and_eq_true, Bool.not_eq_true'] at hj
    exact ⟨j, rfl, hj.1, hj.2.1, hj.2.2⟩
  · rintro ⟨j, rfl, h1, h2, h3⟩
    refine ⟨j, ?_, rfl⟩
    rw [List.mem_filter, List.mem_range, Bool.and_eq_true, Bool.not_eq_true']
    exact ⟨h1, h2, h3⟩
theorem P.thorny_l0 (l : List S36) (s : List Bool) (hs : s.length ≤ l.length) (hl : l.length ≤ 1000) (d : Nat) : ∀ (k i : Nat), s.length - i = d → i ≤ s.length → d < k →
    velvet_Thorny.l0 k l (V.thTo l s i) s s.length i = some (V.thTo l s s.length) := by
  induction d with
  | zero =>
    intro k i hd hi hk
    obtain ⟨k, rfl⟩ : ∃ m, k = m + 1 := ⟨k - 1, by omega⟩
    obtain rfl : i = s.length := by omega
    simp only [velvet_Thorny.l0]
    rw [if_neg (by omega)]
  | succ d ih =>
    intro k i hd hi hk
    obtain ⟨k, rfl⟩ : ∃ m, k = m + 1 := ⟨k - 1, by omega⟩
    have e : rd_T36 l (i : Int) = l.getD i z36 := by unfold rd_T36; rw [Int.toNat_natCast]
    have e2 : rdOf false s (i : Int) = s.getD i false := by unfold rdOf; rw [Int.toNat_natCast]
    have hlen := V.thTo_len l s i
    have ih := ih k (i + 1) (by omega) (by omega) (by omega)
    rw [V.thTo_succ] at ih
    simp only [velvet_Thorny.l0]
    rw [if_pos (by omega), if_pos (by omega), if_pos (by omega), if_pos (by omega), e, e2, P.nx (by omega)]
    cases h0 : (l.getD i z36).f0 with
    | false =>
      rw [h0] at ih
      rw [if_neg (by decide)]
      rw [if_neg (by simp)] at ih
      exact ih
    | true =>
      rw [h0] at ih
      rw [if_pos rfl]
      cases h1 : s.getD i false with
      | true =>
        rw [h1] at ih
        rw [if_pos rfl]
        rw [if_neg (by decide)] at ih
        exact ih
      | false =>
        rw [h1] at ih
        rw [if_neg (by decide), if_pos (by omega)]
        rw [if_pos (by decide)] at ih
        exact ih
theorem V.smoothZ_len (l : List S36) : (V.smoothZ l).length ≤ l.length ∧ (V.mayV l = true → (V.smoothZ l).length = l.length) := by
  unfold V.smoothZ
  split
  · rw [List.length_map, V.run_len]; exact ⟨Nat.le_refl _, fun _ => rfl⟩
  · rename_i h
    exact ⟨by simp, fun h' => absurd h' h⟩
theorem P.thorny_f (l : List S36) (hl : l.length ≤ 1000) (k : Nat) (hk : l.length < k) : velvet_Thorny.f k l = some (V.thornyL l) := by
  have hs := (V.smoothZ_len l).1
  unfold velvet_Thorny.f
  rw [P.smooth_f l hl]
  simp only [Option.bind_some]
  exact P.thorny_l0 l _ hs hl _ k 0 rfl (by omega) (by omega)

/-- The chapter's example. -/
theorem P.awake21 (k : Nat) (hk : 300 < k) : stepladderlaw21_awake.f k = some true := by
  obtain ⟨L, hL⟩ : ∃ L : List S36, [(⟨false, 31, ([] : List Int)⟩ : S36), (⟨true, 1, (([0] : List Int))⟩ : S36), (⟨true, 0, (([0, 1] : List Int))⟩ : S36)] = L := ⟨_, rfl⟩
  have h1 : V.smoothZ L = [true, true, true] := by subst hL; decide +kernel
  have h2 : V.prefZ L 1 1 = ([0, 1], true) := by subst hL; decide +kernel
  have h3 : V.mayV L = true := by subst hL; decide +kernel
  have h4 : V.thornyL L = [] := by subst hL; decide +kernel
  have h5 : V.linksZ L 2 = [0, 1] := by subst hL; decide +kernel
  have hn : L.length = 3 := by subst hL; rfl
  unfold stepladderlaw21_awake.f
  rw [hL]
  simp only [Option.bind_some]
  rw [P.smooth_f L (by omega), h1]
  simp only [Option.bind_some]
  rw [P.vprefix_f L 1 1 (by omega) (by omega), h2]
  simp only [Option.bind_some]
  rw [V.may_f L (by omega) k (by omega), h3, P.thorny_f L (by omega) k (by omega), h4, P.links_f L 2 (by omega), h5]
  rfl

end Go.Proofs.Yteekdggainficaa.X
end

section
/- Blocks that came in, opened. -/
namespace Go.Proofs.Yteekdggainficaa.X
open Go.RowKit Go.ChangeShapes Go.WideShapes Go.Deep Go.Proofs.YteekdggainficaaW.PrintWords

instance V.inh36 : Inhabited S36 := ⟨z36⟩
theorem V.claim_open {H : Type} {enc : TypeId × Value → H} {w : World} {fuel : Nat} {cs : List Value} {x : DataW H × List MemPlace} (h : DataW.trod enc Try.prog w 0 (fun _ => true) true fuel 26 cs = some x) :
    ∃ (A : Option Addr) (c : Nat) (xs : List Int), cs = [.slice A xs.length c] ∧ xs.length ≤ c ∧ (Kd.int .i64).C w A xs.length xs := by
  rcases open_ints Try.underlying26 Try.underlying3 (by kernel_rfl) h with ⟨hcs, _⟩ | ⟨a, l, c, zs, hcs, _, hl, hm, hz, _, hcell, hwz⟩
  · exact ⟨none, 0, [], hcs, Nat.le_refl _, Kd.C_of_reads (d := (0 : Int)) (h1 := fun _ => rfl) ⟨rfl, by simp, fun h => by simp at h⟩⟩
  · simp only [if_true] at hz
    have e : (zs.take l).length = l := by rw [List.length_take]; omega
    unfold maxLen at hm
    refine ⟨some a, c, zs.take l, by rw [e]; exact hcs, by omega, Kd.C_of_reads (d := (0 : Int)) (h1 := fun _ => rfl) ⟨rfl, by omega, fun _ => ⟨a, rfl, fun j hj => ?_⟩⟩⟩
    have := hcell j (by omega)
    rw [this, List.getD_eq_getElem?_getD, List.getD_eq_getElem?_getD, List.getElem?_take_of_lt (by omega)]

theorem V.vel_open {H : Type} {enc : TypeId × Value → H} {w : World} {fuel : Nat} {cs : List Value} {x : DataW H × List MemPlace} (h : DataW.trod enc Try.prog w 0 (fun _ => true) true fuel 36 cs = some x) :
    ∃ y : S36, k36.K w y cs ∧ (Lit.int .i64 y.f1).wf = true := by
  obtain ⟨xs, n, _, _, hl, hx, hf⟩ := DataW.trod_struct Try.underlying36 h
  have ce : Try.prog.cellsOf 36 = 3 := by kernel_rfl
  have cb : Try.prog.cellsOf 4 = 1 := by kernel_rfl
  have ci : Try.prog.cellsOf 3 = 1 := by kernel_rfl
  have cl : Try.prog.cellsOf 26 = 1 := by kernel_rfl
  rw [ce] at hl
  match xs, hx, cs, hl with
  | [y0, y1, y2], _, [v0, v1, v2], _ =>
    have k0 : ([v0, v1, v2].drop 0).take (Try.prog.cellsOf 4) = [v0] := by rw [cb]; rfl
    have k1 : ([v0, v1, v2].drop 1).take (Try.prog.cellsOf 3) = [v1] := by rw [ci]; rfl
    have k2 : ([v0, v1, v2].drop 2).take (Try.prog.cellsOf 26) = [v2] := by rw [cl]; rfl
    have g0 : DataW.trod enc Try.prog w 0 (fun _ => true) true n 4 [v0] = some y0 := by rw [← k0]; exact hf 0 _ rfl
    have g1 : DataW.trod enc Try.prog w 0 (fun _ => true) true n 3 [v1] = some y1 := by rw [← k1]; exact hf 1 _ rfl
    have g2 : DataW.trod enc Try.prog w 0 (fun _ => true) true n 26 [v2] = some y2 := by rw [← k2]; exact hf 2 _ rfl
    obtain ⟨b, e0, _⟩ := DataW.trod_bool Try.underlying4 g0
    obtain ⟨i, e1, _, w1⟩ := DataW.trod_int Try.underlying3 g1
    obtain ⟨A, c, zs, e2, hl2, hC⟩ := V.claim_open g2
    injection e0 with e0
    injection e1 with e1
    injection e2 with e2
    subst e0
    subst e1
    subst e2
    exact ⟨⟨b, i, zs⟩, ⟨[.bool b], _, rfl, rfl, ⟨[.int .i64 i], _, rfl, rfl, ⟨A, c, rfl, hl2, hC⟩⟩⟩, w1⟩

/-- A slice of blocks that came in. -/
theorem V.open_vels {H : Type} {enc : TypeId × Value → H} {w : World} {fuel : Nat} {cs : List Value} {x : DataW H × List MemPlace} (h : DataW.trod enc Try.prog w 0 (fun _ => true) true fuel 22 cs = some x) :
    ∃ (A : Option Addr) (c : Nat) (xs : List S36), cs = [.slice A xs.length c] ∧ xs.length ≤ c ∧ Kd.C k36 w A xs.length xs ∧ ∀ y ∈ xs, (Lit.int .i64 y.f1).wf = true := by
  have ce : Try.prog.cellsOf 36 = 3 := by kernel_rfl
  rcases open_slice Try.underlying22 h with ⟨hcs, _⟩ | ⟨a, len, cap, m, n, D, Pl, hcs, _, hl, hm, hmm, _, hel⟩
  · exact ⟨none, 0, [], hcs, Nat.le_refl _, ⟨rfl, by simp, fun h => by simp at h⟩, by simp⟩
  · simp only [if_true] at hmm
    rw [ce] at hel
    have each : ∀ i, i < len → ∃ q : S36 × List Value, w.cells? 0 (a.add (i * 3)) 3 = some q.2 ∧ k36.K w q.1 q.2 ∧ (Lit.int .i64 q.1.f1).wf = true := by
      intro i hi
      obtain ⟨cs', h1, h2⟩ := hel i (by omega)
      obtain ⟨y, hy, hw⟩ := V.vel_open h2
      exact ⟨(y, cs'), h1, hy, hw⟩
    obtain ⟨q, hq⟩ := choose_lt each
    unfold maxLen at hm
    have hlen : ((List.range len).map fun i => (q i).1).length = len := by simp
    refine ⟨some a, cap, (List.range len).map fun i => (q i).1, by rw [hlen]; exact hcs, by rw [hlen]; exact hl, ⟨rfl, by rw [hlen]; omega, fun _ => ⟨a, rfl, fun j p hj => ?_⟩⟩, fun y hy => ?_⟩
    · obtain ⟨hj1, hj2⟩ := List.getElem?_eq_some_iff.1 hj
      rw [hlen] at hj1
      simp at hj2
      subst hj2
      obtain ⟨h1, h2, _⟩ := hq j hj1
      obtain ⟨_, h3, h4⟩ := World.cells?_some h1
      refine ⟨(q j).2, h3, h2, fun i u hu => ?_⟩
      have hi : i < 3 := by rw [← h3]; exact (List.getElem?_eq_some_iff.1 hu).1
      have := h4 i hi
      rw [Deep.add_add] at this
      exact this.trans hu
    · obtain ⟨i, hi, rfl⟩ := List.mem_map.1 hy
      exact (hq i (List.mem_range.1 hi)).2.2

end Go.Proofs.Yteekdggainficaa.X
end
