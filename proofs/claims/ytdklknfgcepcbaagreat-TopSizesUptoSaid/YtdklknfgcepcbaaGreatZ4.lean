/- Texts of this proof, laid together by wip/tools/pack.py: TS, TP. -/
import Derived.Test.YtdklknfgcepcbaaGreatZ3
import Derived.Deep.RegionHeld3
namespace Go.Proofs.YtdklknfgcepcbaaGreat.X
open Go.RowKit Go.Proofs.YtdklknfgcepcbaaGreatW.PrintWords Go.Proofs.YtdklknfgcepcbaaGreatW.PrintLast Go.Proofs.YtdklknfgcepcbaaGreatW.PrintMore
set_option linter.unusedSimpArgs false
set_option linter.unusedVariables false
set_option maxHeartbeats 2000000
set_option maxRecDepth 20000
section
def T.nth {α : Type} : List α → Nat → Option α
  | [], _ => none
  | a :: _, 0 => some a
  | _ :: l, n + 1 => T.nth l n
theorem T.nth_eq {α : Type} : ∀ (l : List α) (n : Nat), T.nth l n = l[n]?
  | [], _ => by simp [T.nth]
  | _ :: _, 0 => by simp [T.nth]
  | _ :: l, n + 1 => by simp [T.nth, T.nth_eq l n]
inductive T.Ord where
  | nil
  | t (i : Nat) (r : T.Ord)
  | p (i : Nat) (r : T.Ord)
  | a (i : Nat) (r : T.Ord)
  | z (i : Nat) (r : T.Ord)
  | f (i j : Nat) (r s : T.Ord)
def T.Ord.len : T.Ord → Nat
  | .nil => 0
  | .t _ r | .p _ r | .a _ r | .z _ r => r.len + 1
  | .f _ _ r s => max r.len s.len + 1
def T.waits (md : Region.Mode) (ops : Array Oper) : Nat → Nat → Nat → Bool
  | 0, _, _ => false
  | n + 1, j, i => match ops[j]? with
    | some oj => oj.after.any fun e => Region.binds md e && (e.on == i || T.waits md ops n e.on i)
    | none => false
def T.Cl (md : Region.Mode) (ops : Array Oper) (listed : Array Bool) : Prop :=
  ∀ k ok, ops[k]? = some ok → listed.getD k false = true → ∀ e ∈ ok.after, Region.binds md e = true → listed.getD e.on false = true
theorem T.waits_spec {md : Region.Mode} {ops : Array Oper} {listed : Array Bool} (hc : T.Cl md ops listed) {i : Nat} : ∀ (n j : Nat), T.waits md ops n j i = true →
    (∀ oj, ops[j]? = some oj → ∀ e ∈ oj.after, Region.binds md e = true → listed.getD e.on false = true) → listed.getD i false = true
  | 0, _, h, _ => by simp [T.waits] at h
  | n + 1, j, h, ha => by
    unfold T.waits at h
    split at h
    · rename_i oj hj
      obtain ⟨e, he, hb⟩ := Array.any_eq_true'.1 h
      rw [Bool.and_eq_true, Bool.or_eq_true, beq_iff_eq] at hb
      have hl := ha oj hj e he hb.1
      rcases hb.2 with h1 | h1
      · rw [← h1]; exact hl
      · exact T.waits_spec hc n e.on h1 fun ok hk e' he' hb' => hc e.on ok hk hl e' he' hb'
    · cases h
theorem T.Cl.start (md : Region.Mode) (ops : Array Oper) (n : Nat) : T.Cl md ops (Array.replicate n false) := fun k ok hk hl => by
  simp only [Array.getD_eq_getD_getElem?, Array.getElem?_replicate] at hl
  split at hl <;> simp at hl
theorem T.Cl.set {md : Region.Mode} {ops : Array Oper} {listed : Array Bool} {i : Nat} (h : T.Cl md ops listed) (hi : ∀ oi, ops[i]? = some oi → ∀ e ∈ oi.after, Region.binds md e = true → listed.getD e.on false = true) : T.Cl md ops (listed.setIfInBounds i true) := by
  have up : ∀ k, listed.getD k false = true → (listed.setIfInBounds i true).getD k false = true := fun k hk => by
    simp only [Array.getD_eq_getD_getElem?, Array.getElem?_setIfInBounds] at hk ⊢
    split
    · split <;> simp
      rename_i hik hsz
      subst hik
      rw [Array.getElem?_eq_none (by omega)] at hk
      simp at hk
    · exact hk
  intro k ok hk hl e he hb
  by_cases hki : k = i
  · subst hki; exact up _ (hi ok hk e he hb)
  · refine up _ (h k ok hk ?_ e he hb)
    simp only [Array.getD_eq_getD_getElem?, Array.getElem?_setIfInBounds] at hl ⊢
    rwa [if_neg (fun e => hki e.symm)] at hl
section
variable (P : Program) (l : List Oper) (Q : Exit → Act → World → Prop)
def T.Seq : T.Ord → (World → Prop) → Act → World → Prop
  | .nil, _, a, w => Q .normal a w
  | .t i r, S, a, w => ∃ o v, T.nth l i = some o ∧ YieldsIf P l.toArray S o v a ∧ T.Seq r S (a.put o.dst v) w
  | .p i r, S, a, w => ∃ o v, T.nth l i = some o ∧ Yields P l.toArray o v a ∧ T.Seq r S (a.put o.dst v) w
  | .a i r, S, a, w => ∃ o, T.nth l i = some o ∧ wpOp P l.toArray Q i (fun a' w' => ∃ S' : World → Prop, S' w' ∧ (∀ w, S' w → S w) ∧ T.Seq r S' a' w') a w
  | .z i r, _, a, w => ∃ o, T.nth l i = some o ∧ wpOp P l.toArray Q i (fun a' w' => ∃ S' : World → Prop, S' w' ∧ T.Seq r S' a' w') a w
  | .f i j r s, S, a, w => (∃ o, T.nth l i = some o ∧ wpOp P l.toArray Q i (fun a' w' => ∃ S' : World → Prop, S' w' ∧ (∀ w, S' w → S w) ∧ T.Seq r S' a' w') a w) ∧
      ∃ o, T.nth l j = some o ∧ wpOp P l.toArray Q j (fun a' w' => ∃ S' : World → Prop, S' w' ∧ (∀ w, S' w → S w) ∧ T.Seq s S' a' w') a w
def T.okZ (ops : Array Oper) : T.Ord → Array Bool → Bool
  | .nil, listed => (Region.ready .any ops listed).isEmpty
  | .z i r, listed => (Region.ready .any ops listed == [i]) && T.okZ ops r (listed.setIfInBounds i true)
  | .t i r, listed => (Region.ready .any ops listed == [i]) && T.okZ ops r (listed.setIfInBounds i true)
  | .p i r, listed => (Region.ready .any ops listed == [i]) && T.okZ ops r (listed.setIfInBounds i true)
  | .a _ _, _ => false
  | .f _ _ _ _, _ => false
def T.ok (ops : Array Oper) (s0 : Nat) : T.Ord → Array Bool → Bool
  | .nil, listed => (Region.ready .any ops listed).isEmpty
  | .t i r, listed => Region.free .any ops listed i && ((Region.ready .any ops listed).contains i && ((decide (ops.size ≤ s0) || T.waits .any ops 2 s0 i) && (i != s0 && T.ok ops s0 r (listed.setIfInBounds i true))))
  | .p i r, listed => Region.free .any ops listed i && ((Region.ready .any ops listed).contains i && (i != s0 && T.ok ops s0 r (listed.setIfInBounds i true)))
  | .a i r, listed => (Region.ready .any ops listed == [i]) && (i != s0 && T.ok ops s0 r (listed.setIfInBounds i true))
  | .z i r, listed => (Region.ready .any ops listed == [i]) && (i == s0 && T.okZ ops r (listed.setIfInBounds i true))
  | .f i j r s, listed => (Region.ready .any ops listed == [i, j]) && (i != s0 && (j != s0 && (T.ok ops s0 r (listed.setIfInBounds i true) && T.ok ops s0 s (listed.setIfInBounds j true))))
end
section
variable {P : Program} {l : List Oper} {Q : Exit → Act → World → Prop} {md : Region.Mode} {s0 : Nat}
def T.D (P : Program) (md : Region.Mode) (ops : Array Oper) (Q : Exit → Act → World → Prop) (s0 : Nat) (S : World → Prop) : Nat → Array Bool → Act → World → Prop
  | 0, listed, a, w => Region.ready md ops listed = [] ∧ Q .normal a w
  | fuel + 1, listed, a, w =>
    (Region.ready md ops listed = [] → Q .normal a w) ∧
    ∀ i ∈ Region.ready md ops listed, wpOp P ops Q i (fun a' w' => (i = s0 → wpAny P md ops Q fuel (listed.setIfInBounds i true) a' w') ∧ (i ≠ s0 → S w' ∧ T.D P md ops Q s0 S fuel (listed.setIfInBounds i true) a' w')) a w
variable {ops : Array Oper}
theorem T.D_any {S : World → Prop} : ∀ (fuel : Nat) (listed : Array Bool) (a : Act) (w : World), T.D P md ops Q s0 S fuel listed a w → wpAny P md ops Q fuel listed a w
  | 0, _, _, _, h => h
  | fuel + 1, _, _, _, h => ⟨h.1, fun i hi => wpOp_mono (fun a' w' h' => if he : i = s0 then h'.1 he else T.D_any fuel _ a' w' (h'.2 he).2) (h.2 i hi)⟩
theorem T.D_mono {S S' : World → Prop} (hS : ∀ w, S' w → S w) : ∀ (fuel : Nat) (listed : Array Bool) (a : Act) (w : World), T.D P md ops Q s0 S' fuel listed a w → T.D P md ops Q s0 S fuel listed a w
  | 0, _, _, _, h => h
  | fuel + 1, _, _, _, h => ⟨h.1, fun i hi => wpOp_mono (fun a' w' h' => ⟨h'.1, fun hn => ⟨hS _ (h'.2 hn).1, T.D_mono hS fuel _ a' w' (h'.2 hn).2⟩⟩) (h.2 i hi)⟩
theorem T.D_first {S : World → Prop} {i : Nat} {oi : Oper} {v : Value} (hi : ops[i]? = some oi) (hsel : ∀ (j : Nat) (o : Oper) cs b, ops[j]? = some o → o.op ≠ .select cs b)
    (hQ : ∀ c a w, Q (.panic c) (a.put oi.dst v) w → Q (.panic c) a w) (hs0 : ops.size ≤ s0 ∨ T.waits md ops 2 s0 i = true) (his : i ≠ s0) :
    ∀ (fuel : Nat) (listed : Array Bool) (a : Act) (w : World),
      (∀ j oj, ops[j]? = some oj → j ≠ i → listed.getD j true = false → (∀ e ∈ oj.after, Region.binds md e = true → e.on ≠ i) → oi.apart ops oj = true) →
      i ∈ Region.ready md ops listed → T.Cl md ops listed → YieldsIf P ops S oi v a → S w →
      T.D P md ops Q s0 S fuel (listed.setIfInBounds i true) (a.put oi.dst v) w → T.D P md ops Q s0 S (fuel + 1) listed a w := by
  intro fuel
  induction fuel with
  | zero =>
    intro listed a w _ hr _ hy hS H
    refine ⟨fun h => (by rw [h] at hr; cases hr), fun j hj => ?_⟩
    by_cases hji : j = i
    · subst hji; exact hy.wpOp hi hS ⟨fun he => absurd he his, fun _ => ⟨hS, H⟩⟩
    · have := ready_mono hj hji
      rw [H.1] at this
      cases this
  | succ fuel ih =>
    intro listed a w hfree hr hcl hy hS H
    refine ⟨fun h => (by rw [h] at hr; cases hr), fun j hj => ?_⟩
    by_cases hji : j = i
    · subst hji; exact hy.wpOp hi hS ⟨fun he => absurd he his, fun _ => ⟨hS, H⟩⟩
    · have h1 := H.2 j (ready_mono hj hji)
      obtain ⟨hjun, oj, hoj, hall⟩ := mem_ready.1 hj
      have hnot : ∀ e ∈ oj.after, Region.binds md e = true → e.on ≠ i := fun e he hb heq => by
        have h1 := hall e he hb
        have h0 := (mem_ready.1 hr).1
        rw [heq] at h1
        rcases Nat.lt_or_ge i listed.size with h' | h'
        · simp [h'] at h0 h1; rw [h0] at h1; cases h1
        · simp [Array.getElem?_eq_none h'] at h1
      have hjs : j ≠ s0 := fun e => by
        rcases hs0 with h' | h'
        · have := (Array.getElem?_eq_some_iff.1 hoj).1; omega
        · have h1 := T.waits_spec hcl 2 s0 h' fun ok hk e' he' hb' => by
            rw [← e, hoj] at hk
            cases hk
            exact hall e' he' hb'
          have h0 := (mem_ready.1 hr).1
          simp only [Array.getD_eq_getD_getElem?] at h0 h1
          cases hq : listed[i]? with
          | none => rw [hq] at h0; simp at h0
          | some q => rw [hq] at h0 h1; simp at h0 h1; rw [h0] at h1; cases h1
      have h2 := wpOp_putIf hoj (hfree j oj hoj hji hjun hnot) (fun cs b => hsel i oi cs b hi) (fun cs b => hsel j oj cs b hoj) hQ hy h1
      have hfree' : ∀ k ok, ops[k]? = some ok → k ≠ i → (listed.setIfInBounds j true).getD k true = false →
          (∀ e ∈ ok.after, Region.binds md e = true → e.on ≠ i) → oi.apart ops ok = true := fun k ok hk hki hun hno => by
        refine hfree k ok hk hki ?_ hno
        by_cases hjk : j = k
        · subst hjk; exact hjun
        · rw [getD_set_ne true hjk] at hun; exact hun
      refine wpOp_mono (fun a' w' h3 => ⟨fun he => absurd he hjs, fun _ => ⟨(h3.2.2 hjs).1, ih (listed.setIfInBounds j true) a' w' hfree' (ready_mono hr (Ne.symm hji)) (hcl.set fun ok hk e' he' hb' => by rw [hoj] at hk; cases hk; exact hall e' he' hb') h3.1 (h3.2.2 hjs).1 ?_⟩⟩) h2
      rw [Array.setIfInBounds_comm _ _ hji]
      exact (h3.2.2 hjs).2
theorem T.D_pure {S : World → Prop} {i : Nat} {oi : Oper} {v : Value} (hi : ops[i]? = some oi) (hsel : ∀ (j : Nat) (o : Oper) cs b, ops[j]? = some o → o.op ≠ .select cs b)
    (hQ : ∀ c a w, Q (.panic c) (a.put oi.dst v) w → Q (.panic c) a w) (his : i ≠ s0) :
    ∀ (fuel : Nat) (listed : Array Bool) (a : Act) (w : World),
      (∀ j oj, ops[j]? = some oj → j ≠ i → listed.getD j true = false → (∀ e ∈ oj.after, Region.binds md e = true → e.on ≠ i) → oi.apart ops oj = true) →
      i ∈ Region.ready md ops listed → Yields P ops oi v a → S w →
      T.D P md ops Q s0 S fuel (listed.setIfInBounds i true) (a.put oi.dst v) w → T.D P md ops Q s0 S (fuel + 1) listed a w := by
  intro fuel
  induction fuel with
  | zero =>
    intro listed a w _ hr hy hS H
    refine ⟨fun h => (by rw [h] at hr; cases hr), fun j hj => ?_⟩
    by_cases hji : j = i
    · subst hji; exact hy.wpOp hi ⟨fun he => absurd he his, fun _ => ⟨hS, H⟩⟩
    · have := ready_mono hj hji
      rw [H.1] at this
      cases this
  | succ fuel ih =>
    intro listed a w hfree hr hy hS H
    refine ⟨fun h => (by rw [h] at hr; cases hr), fun j hj => ?_⟩
    by_cases hji : j = i
    · subst hji; exact hy.wpOp hi ⟨fun he => absurd he his, fun _ => ⟨hS, H⟩⟩
    · have h1 := H.2 j (ready_mono hj hji)
      obtain ⟨hjun, oj, hoj, hall⟩ := mem_ready.1 hj
      have hnot : ∀ e ∈ oj.after, Region.binds md e = true → e.on ≠ i := fun e he hb heq => by
        have h1 := hall e he hb
        have h0 := (mem_ready.1 hr).1
        rw [heq] at h1
        rcases Nat.lt_or_ge i listed.size with h' | h'
        · simp [h'] at h0 h1; rw [h0] at h1; cases h1
        · simp [Array.getElem?_eq_none h'] at h1
      have h2 := wpOp_put hoj (hfree j oj hoj hji hjun hnot) (fun cs b => hsel i oi cs b hi) (fun cs b => hsel j oj cs b hoj) hQ hy h1
      have hfree' : ∀ k ok, ops[k]? = some ok → k ≠ i → (listed.setIfInBounds j true).getD k true = false →
          (∀ e ∈ ok.after, Region.binds md e = true → e.on ≠ i) → oi.apart ops ok = true := fun k ok hk hki hun hno => by
        refine hfree k ok hk hki ?_ hno
        by_cases hjk : j = k
        · subst hjk; exact hjun
        · rw [getD_set_ne true hjk] at hun; exact hun
      have hir := ready_mono hr (Ne.symm hji)
      refine wpOp_mono (fun a' w' h3 => ⟨fun he => ?_, fun hn => ⟨(h3.2.2 hn).1, ih (listed.setIfInBounds j true) a' w' hfree' hir h3.1 (h3.2.2 hn).1 ?_⟩⟩) h2
      · refine wpAny_first hi hsel hQ fuel (listed.setIfInBounds j true) a' w' hfree' hir h3.1 ?_
        rw [Array.setIfInBounds_comm _ _ hji]
        exact h3.2.1 he
      · rw [Array.setIfInBounds_comm _ _ hji]
        exact (h3.2.2 hn).2
theorem T.eq_of_beq {a b : List Nat} (h : (a == b) = true) : a = b := by simpa using h
theorem T.nth_arr {i : Nat} {o : Oper} (h : T.nth l i = some o) : l.toArray[i]? = some o := by rw [T.nth_eq] at h; simpa using h
theorem T.put_eq (a : Act) (d : Option Tmp) (v : Value) : Act.put a d v = ⟨(Act.put a d v).tmps, a.defers⟩ := by cases d <;> rfl
theorem T.seqZ : ∀ (r : T.Ord) (S : World → Prop) (fuel : Nat) (listed : Array Bool) (a : Act) (w : World), r.len ≤ fuel → T.okZ l.toArray r listed = true → S w → T.Seq P l Q r S a w → wpAny P .any l.toArray Q fuel listed a w
  | .nil, _, fuel, listed, a, w, _, hk, _, h => by
    have hr : Region.ready .any l.toArray listed = [] := by simpa [T.okZ] using hk
    cases fuel with
    | zero => exact ⟨hr, h⟩
    | succ n => exact ⟨fun _ => h, by rw [hr]; simp⟩
  | .z i r, S, fuel, listed, a, w, hl, hk, hS, h => by
    unfold T.okZ at hk
    obtain ⟨h1, h2⟩ := Bool.and_eq_true_iff.1 hk
    have hr := T.eq_of_beq h1
    obtain ⟨o, ho, h⟩ := h
    cases fuel with
    | zero => exact absurd hl (Nat.not_succ_le_zero _)
    | succ n =>
      refine ⟨fun h0 => (by rw [hr] at h0; cases h0), fun j hj => ?_⟩
      rw [hr] at hj
      cases List.mem_singleton.1 hj
      exact wpOp_mono (fun a' w' ⟨S', hS', h'⟩ => T.seqZ r S' n _ a' w' (Nat.le_of_succ_le_succ hl) h2 hS' h') h
  | .t i r, S, fuel, listed, a, w, hl, hk, hS, h => by
    unfold T.okZ at hk
    obtain ⟨h1, h2⟩ := Bool.and_eq_true_iff.1 hk
    have hr := T.eq_of_beq h1
    obtain ⟨o, v, ho, hy, h⟩ := h
    cases fuel with
    | zero => exact absurd hl (Nat.not_succ_le_zero _)
    | succ n =>
      refine ⟨fun h0 => (by rw [hr] at h0; cases h0), fun j hj => ?_⟩
      rw [hr] at hj
      cases List.mem_singleton.1 hj
      exact hy.wpOp (T.nth_arr ho) hS (T.seqZ r S n _ _ w (Nat.le_of_succ_le_succ hl) h2 hS h)
  | .p i r, S, fuel, listed, a, w, hl, hk, hS, h => by
    unfold T.okZ at hk
    obtain ⟨h1, h2⟩ := Bool.and_eq_true_iff.1 hk
    have hr := T.eq_of_beq h1
    obtain ⟨o, v, ho, hy, h⟩ := h
    cases fuel with
    | zero => exact absurd hl (Nat.not_succ_le_zero _)
    | succ n =>
      refine ⟨fun h0 => (by rw [hr] at h0; cases h0), fun j hj => ?_⟩
      rw [hr] at hj
      cases List.mem_singleton.1 hj
      exact hy.wpOp (T.nth_arr ho) (T.seqZ r S n _ _ w (Nat.le_of_succ_le_succ hl) h2 hS h)
  | .a _ _, _, _, _, _, _, _, hk, _, _ => by simp [T.okZ] at hk
  | .f _ _ _ _, _, _, _, _, _, _, hk, _, _ => by simp [T.okZ] at hk
theorem T.clr {ops : Array Oper} {listed : Array Bool} {i : Nat} (h : T.Cl .any ops listed) (hi : i ∈ Region.ready .any ops listed) : T.Cl .any ops (listed.setIfInBounds i true) :=
  h.set fun oi hoi e he hb => by
    obtain ⟨_, oj, hoj, hall⟩ := mem_ready.1 hi
    rw [hoi] at hoj
    cases hoj
    exact hall e he hb
theorem T.seqD (hsel : Region.noSelect l.toArray = true) (hQ : ∀ c (a : Act) tm w, Q (.panic c) ⟨tm, a.defers⟩ w → Q (.panic c) a w) :
    ∀ (r : T.Ord) (S : World → Prop) (fuel : Nat) (listed : Array Bool) (a : Act) (w : World), r.len ≤ fuel → T.Cl .any l.toArray listed → T.ok l.toArray s0 r listed = true → S w → T.Seq P l Q r S a w → T.D P .any l.toArray Q s0 S fuel listed a w
  | .nil, _, fuel, listed, a, w, _, _, hk, _, h => by
    have hr : Region.ready .any l.toArray listed = [] := by simpa [T.ok] using hk
    cases fuel with
    | zero => exact ⟨hr, h⟩
    | succ n => exact ⟨fun _ => h, by rw [hr]; simp⟩
  | .t i r, S, fuel, listed, a, w, hl, hcl, hk, hS, h => by
    unfold T.ok at hk
    obtain ⟨h1, hk⟩ := Bool.and_eq_true_iff.1 hk
    obtain ⟨h2, hk⟩ := Bool.and_eq_true_iff.1 hk
    obtain ⟨h3, hk⟩ := Bool.and_eq_true_iff.1 hk
    obtain ⟨h4, h5⟩ := Bool.and_eq_true_iff.1 hk
    obtain ⟨o, v, ho, hy, h⟩ := h
    cases fuel with
    | zero => exact absurd hl (Nat.not_succ_le_zero _)
    | succ n =>
      exact T.D_first (T.nth_arr ho) (Region.noSelect_spec hsel) (fun c a w h => hQ c a _ w (T.put_eq a _ _ ▸ h)) (by simpa using h3) (by simpa using h4) n listed a w (Region.free_spec (T.nth_arr ho) h1) (by simpa using h2) hcl hy hS
        (T.seqD hsel hQ r S n _ _ w (Nat.le_of_succ_le_succ hl) (T.clr hcl (by simpa using h2)) h5 hS h)
  | .p i r, S, fuel, listed, a, w, hl, hcl, hk, hS, h => by
    unfold T.ok at hk
    obtain ⟨h1, hk⟩ := Bool.and_eq_true_iff.1 hk
    obtain ⟨h2, hk⟩ := Bool.and_eq_true_iff.1 hk
    obtain ⟨h4, h5⟩ := Bool.and_eq_true_iff.1 hk
    obtain ⟨o, v, ho, hy, h⟩ := h
    cases fuel with
    | zero => exact absurd hl (Nat.not_succ_le_zero _)
    | succ n =>
      exact T.D_pure (T.nth_arr ho) (Region.noSelect_spec hsel) (fun c a w h => hQ c a _ w (T.put_eq a _ _ ▸ h)) (by simpa using h4) n listed a w (Region.free_spec (T.nth_arr ho) h1) (by simpa using h2) hy hS
        (T.seqD hsel hQ r S n _ _ w (Nat.le_of_succ_le_succ hl) (T.clr hcl (by simpa using h2)) h5 hS h)
  | .a i r, S, fuel, listed, a, w, hl, hcl, hk, hS, h => by
    unfold T.ok at hk
    obtain ⟨h1, hk⟩ := Bool.and_eq_true_iff.1 hk
    obtain ⟨h4, h5⟩ := Bool.and_eq_true_iff.1 hk
    have hr := T.eq_of_beq h1
    obtain ⟨o, ho, h⟩ := h
    have hn : i ≠ s0 := by simpa using h4
    cases fuel with
    | zero => exact absurd hl (Nat.not_succ_le_zero _)
    | succ n =>
      refine ⟨fun h0 => (by rw [hr] at h0; cases h0), fun j hj => ?_⟩
      rw [hr] at hj
      cases List.mem_singleton.1 hj
      exact wpOp_mono (fun a' w' ⟨S', hS', hm, h'⟩ => ⟨fun he => absurd he hn, fun _ => ⟨hm _ hS', T.D_mono hm _ _ _ _ (T.seqD hsel hQ r S' n _ a' w' (Nat.le_of_succ_le_succ hl) (T.clr hcl (by rw [hr]; simp)) h5 hS' h')⟩⟩) h
  | .z i r, S, fuel, listed, a, w, hl, hcl, hk, hS, h => by
    unfold T.ok at hk
    obtain ⟨h1, hk⟩ := Bool.and_eq_true_iff.1 hk
    obtain ⟨h4, h5⟩ := Bool.and_eq_true_iff.1 hk
    have hr := T.eq_of_beq h1
    obtain ⟨o, ho, h⟩ := h
    have hn : i = s0 := by simpa using h4
    cases fuel with
    | zero => exact absurd hl (Nat.not_succ_le_zero _)
    | succ n =>
      refine ⟨fun h0 => (by rw [hr] at h0; cases h0), fun j hj => ?_⟩
      rw [hr] at hj
      cases List.mem_singleton.1 hj
      exact wpOp_mono (fun a' w' ⟨S', hS', h'⟩ => ⟨fun _ => T.seqZ r S' n _ a' w' (Nat.le_of_succ_le_succ hl) h5 hS' h', fun he => absurd hn he⟩) h
  | .f i j r s, S, fuel, listed, a, w, hl, hcl, hk, hS, h => by
    unfold T.ok at hk
    obtain ⟨h1, hk⟩ := Bool.and_eq_true_iff.1 hk
    obtain ⟨h4, hk⟩ := Bool.and_eq_true_iff.1 hk
    obtain ⟨h5, hk⟩ := Bool.and_eq_true_iff.1 hk
    obtain ⟨h6, h7⟩ := Bool.and_eq_true_iff.1 hk
    have hr := T.eq_of_beq h1
    obtain ⟨⟨o, ho, h⟩, o', ho', h'⟩ := h
    have hn : i ≠ s0 := by simpa using h4
    have hn' : j ≠ s0 := by simpa using h5
    have hl' : max r.len s.len + 1 ≤ fuel := hl
    cases fuel with
    | zero => exact absurd hl (Nat.not_succ_le_zero _)
    | succ n =>
      refine ⟨fun h0 => (by rw [hr] at h0; cases h0), fun k hj => ?_⟩
      rw [hr] at hj
      rcases List.mem_cons.1 hj with rfl | hj
      · exact wpOp_mono (fun a' w' ⟨S', hS', hm, h'⟩ => ⟨fun he => absurd he hn, fun _ => ⟨hm _ hS', T.D_mono hm _ _ _ _ (T.seqD hsel hQ r S' n _ a' w' (by omega) (T.clr hcl (by rw [hr]; simp)) h6 hS' h')⟩⟩) h
      · cases List.mem_singleton.1 hj
        exact wpOp_mono (fun a' w' ⟨S', hS', hm, h'⟩ => ⟨fun he => absurd he hn', fun _ => ⟨hm _ hS', T.D_mono hm _ _ _ _ (T.seqD hsel hQ s S' n _ a' w' (by omega) (T.clr hcl (by rw [hr]; simp)) h7 hS' h')⟩⟩) h'
theorem T.region (id : Nat) {a : Act} {w : World} (r : T.Ord) (s0 : Nat) (hk : (P.follows .mixedOrders && (Region.noSelect l.toArray && (decide (r.len ≤ l.length) && T.ok l.toArray s0 r (Array.replicate l.length false)))) = true)
    (hQ : ∀ c (a : Act) tm w, Q (.panic c) ⟨tm, a.defers⟩ w → Q (.panic c) a w) (S : World → Prop) (hS : S w.drew) (h : T.Seq P l Q r S a w.drew) : (Code.region id l.toArray true).wp P Q a w := by
  obtain ⟨h1, hk⟩ := Bool.and_eq_true_iff.1 hk
  obtain ⟨h2, hk⟩ := Bool.and_eq_true_iff.1 hk
  obtain ⟨h3, h4⟩ := Bool.and_eq_true_iff.1 hk
  refine wp_region_any h1 (T.D_any (s0 := s0) (S := S) _ _ _ _ ?_)
  rw [List.size_toArray]
  exact T.seqD h2 hQ r S _ _ _ _ (by simpa using h3) (T.Cl.start _ _ _) h4 hS h
end
section
variable {P : Program} {l : List Oper} {Q : Exit → Act → World → Prop} {S : World → Prop} {a : Act} {w w0 : World} {i j : Nat} {r s : T.Ord} {o : Oper} {v : Value} {F : Option Nat} {L : List T.Blk}
theorem T.sq_nil (h : Q .normal a w) : T.Seq P l Q .nil S a w := h
theorem T.sq_t (ho : T.nth l i = some o) (hw : Region.wanted o (yielded l.toArray a.tmps) = true) (hy : ∀ w, S w → (execOp a.eval o).run P w = .ok (.value v) w) (h : T.Seq P l Q r S (a.put o.dst v) w) : T.Seq P l Q (.t i r) S a w :=
  ⟨o, v, ho, .inl ⟨hw, hy⟩, h⟩
theorem T.sq_p (ho : T.nth l i = some o) (hw : Region.wanted o (yielded l.toArray a.tmps) = true) (hy : ∀ w, (execOp a.eval o).run P w = .ok (.value v) w) (h : T.Seq P l Q r S (a.put o.dst v) w) : T.Seq P l Q (.p i r) S a w :=
  ⟨o, v, ho, .inl ⟨hw, hy⟩, h⟩
theorem T.sq_pskip (ho : T.nth l i = some o) (hw : Region.wanted o (yielded l.toArray a.tmps) = false) (h : T.Seq P l Q r S (a.put o.dst undef) w) : T.Seq P l Q (.p i r) S a w :=
  ⟨o, undef, ho, .inr ⟨hw, rfl⟩, h⟩
theorem T.sq_skip (ho : T.nth l i = some o) (hw : Region.wanted o (yielded l.toArray a.tmps) = false) (h : T.Seq P l Q r S (a.put o.dst undef) w) : T.Seq P l Q (.t i r) S a w :=
  ⟨o, undef, ho, .inr ⟨hw, rfl⟩, h⟩
theorem T.sq_wp {K : Act → World → Prop} (ho : T.nth l i = some o) (hg : o.guard = none) (h : o.wp P a w K Q) : wpOp P l.toArray Q i K a w := by
  unfold wpOp
  simp only [T.nth_arr ho, Region.wanted, hg, if_true]
  exact .inl h
theorem T.sq_a (ho : T.nth l i = some o) (hg : o.guard = none)
    (h : ∀ K : Act → World → Prop, Shut (∀ a' w' (L' : List T.Blk), T.Mem w0 F w' L' → L.Sublist L' → T.Seq P l Q r (fun w => T.Mem w0 F w L') a' w' → K a' w') → T.OW P o a w K Q) : T.Seq P l Q (.a i r) (fun w => T.Mem w0 F w L) a w :=
  ⟨o, ho, T.sq_wp ho hg (T.OW.out (h _ (fun _ _ L' h1 h2 h3 => ⟨fun w => T.Mem w0 F w L', h1, fun _ hw => hw.drop h2, h3⟩)))⟩
theorem T.sq_z (ho : T.nth l i = some o) (hg : o.guard = none)
    (h : ∀ K : Act → World → Prop, Shut (∀ a' w' (L' : List T.Blk), T.Mem w0 F w' L' → T.Seq P l Q r (fun w => T.Mem w0 F w L') a' w' → K a' w') → T.OW P o a w K Q) : T.Seq P l Q (.z i r) (fun w => T.Mem w0 F w L) a w :=
  ⟨o, ho, T.sq_wp ho hg (T.OW.out (h _ (fun _ _ L' h1 h3 => ⟨fun w => T.Mem w0 F w L', h1, h3⟩)))⟩
theorem T.sq_f (h1 : T.Seq P l Q (.a i r) S a w) (h2 : T.Seq P l Q (.a j s) S a w) : T.Seq P l Q (.f i j r s) S a w := ⟨h1, h2⟩
theorem T.mregion (id : Nat) (r : T.Ord) (s0 : Nat) (hk : (P.follows .mixedOrders && (Region.noSelect l.toArray && (decide (r.len ≤ l.length) && T.ok l.toArray s0 r (Array.replicate l.length false)))) = true)
    (hQ : ∀ c (a : Act) tm w, Q (.panic c) ⟨tm, a.defers⟩ w → Q (.panic c) a w) (hM : T.Mem w0 F w L) {L0 : List T.Blk} (hs : L0.Sublist L) (h : ∀ w, T.Mem w0 F w L → T.Seq P l Q r (fun w => T.Mem w0 F w L0) a w) : (Code.region id l.toArray true).wp P Q a w :=
  T.region id r s0 hk hQ _ (hM.drew.drop hs) (h _ hM.drew)
end
def T.rounds (P : Program) (c : Code) (Q : Exit → Act → World → Prop) : Nat → Act → World → Prop
  | 0, _, _ => False
  | n + 1, a, w => c.wp P (Exit.then (T.rounds P c Q n) Q) a w
theorem T.rounds_key {P : Program} {c : Code} {Q : Exit → Act → World → Prop} : ∀ (n : Nat) (a : Act) (w : World), T.rounds P c Q n a w → ∀ (b : Frame) (k : List Item) (cs : List Frame),
    ∃ e a' w', Q e a' w' ∧ Arrives P (lone (b.at a (.code c :: .inLoop c :: k)) cs w) b k cs e a' w'
  | 0, _, _, h, _, _, _ => h.elim
  | n + 1, a, w, h, b, k, cs => by
    obtain ⟨e, a₁, w₁, hq, harr⟩ := h b (.inLoop c :: k) cs
    cases e with
    | normal =>
      obtain ⟨e₂, a₂, w₂, hq₂, harr₂⟩ := T.rounds_key n a₁ w₁ hq b k cs
      exact ⟨e₂, a₂, w₂, hq₂, .of_steps (Steps.trans harr (.one step_inLoop)) harr₂⟩
    | exit id => exact ⟨_, a₁, w₁, hq, .pass (x := .inLoop c) rfl (fun _ _ => .inl (by simp)) harr⟩
    | goto l => exact ⟨_, a₁, w₁, hq, .pass (x := .inLoop c) rfl (fun _ _ => .inl (by simp)) harr⟩
    | ret => exact ⟨_, a₁, w₁, hq, .pass (x := .inLoop c) rfl (fun _ _ => .inl (by simp)) harr⟩
    | panic ch => exact ⟨_, a₁, w₁, hq, .pass (x := .inLoop c) rfl (fun _ _ => .inl (by simp)) harr⟩
    | outgrown => exact ⟨_, a₁, w₁, hq, .pass (x := .inLoop c) rfl (fun _ _ => .inl (by simp)) harr⟩
theorem T.wp_rounds (n : Nat) {P : Program} {c : Code} {Q : Exit → Act → World → Prop} {a : Act} {w : World} (h : T.rounds P c Q n a w) : (Code.loop c).wp P Q a w := fun b k cs => by
  obtain ⟨e, a', w', hq, harr⟩ := T.rounds_key n a w h b k cs
  exact ⟨e, a', w', hq, .of_steps (.one step_loop) harr⟩
end
section
section
variable {P : Program} (w : World)
theorem T.run_append (base : Nat) (t ty e : TypeId) (i : TypeInfo) (z : Value) (size bytes : Nat) (ht : P.underlying t = some (.slice e)) (hi : P.info? e = some i) (hz : i.zero = some z)
    (hsize : i.size = size) (hby : i.bytes = bytes) (hzs : z.cells.size = size) (hsz : 0 < size)
    (v : Value) (n : Nat) (xs : List Value) (hown : w.ownsRow base e size v n xs)
    (x : Value) (m : Nat) (news : List Value) (hx : T.Sl w x m news) (hl : news.length = m * size)
    (h63 : n + m ≤ maxLen) (hbytes : ((n + m) + (n + m) / 4 + 192) * bytes ≤ 281474976710656) (hbase : base ≤ w.heap.size) :
    ∃ v' w', (Builtin.append_ #[t, t] ty #[v, x]).run P w = .ok v' w' ∧ w'.ownsRow base e size v' (n + m) (xs ++ news) ∧ w.grownBy w' v.ownBlock ∧
      (∀ k, v'.ownBlock = some k → v.ownBlock = some k ∨ w.heap.size ≤ k) := by
  obtain ⟨A, c, rfl, hc, h1, hx⟩ := hx
  rcases hx with ⟨_, rfl, rfl, rfl⟩ | ⟨b, o, rfl, hr⟩
  · 
    have hfc : ∀ s, (Builtin.firstCells s 0 (.slice A 0 0)).run P w = .ok #[] w := fun s => by cases A <;> simp [Builtin.firstCells, loadCells, loadCellsFrom]
    rcases hown.2 with ⟨rfl, rfl⟩ | ⟨g, cap, cur, rfl, hbg, hg, hnc, hcm, hcs, htake⟩
    · refine ⟨.slice none 0 0, w, ?_, by simpa using hown, World.grownBy.refl _ _, fun k hk => .inl hk⟩
      simp [Builtin.append_, run_underlying ht, sizeOf, typeInfo, hi, Builtin.lenOf, hfc]
    · refine ⟨.slice (some ⟨g, 0, none⟩) n cap, w, ?_, by simpa using hown, World.grownBy.refl _ _, fun k hk => .inl hk⟩
      simp [Builtin.append_, run_underlying ht, sizeOf, typeInfo, hi, Builtin.lenOf, hfc, hnc, storeCells]
  · have hnews : ∀ j u, news[j]? = some u → w.cell? ((⟨b, o, none⟩ : Addr).add j) = some u := fun j u hj => by rw [Addr.add_mid]; exact hr j u hj
    subst hsize
    subst hby
    have hsmall : n + m ≤ 9223372036854775807 := by simp only [maxLen] at h63; omega
    have hlen : (xs ++ news).length = (n + m) * i.size := by rw [List.length_append, hown.1, hl, Nat.add_mul]
    have grown : ∀ (old : Nat) (row : Option Nat), old < n + m →
        (w.drew.alloc (.cells (xs.toArray ++ news.toArray ++ Builtin.zeroCells z.cells (grownCap w (n + m) old e - (n + m))) e)).ownsRow base e i.size
          (.slice (some ⟨w.heap.size, 0, none⟩) (n + m) (grownCap w (n + m) old e)) (n + m) (xs ++ news) ∧
        w.grownBy (w.drew.alloc (.cells (xs.toArray ++ news.toArray ++ Builtin.zeroCells z.cells (grownCap w (n + m) old e - (n + m))) e)) row := by
      intro old row ho
      have hge := grownCap_ge w (n + m) old e
      have hcm : grownCap w (n + m) old e ≤ maxLen := grownCap_le_maxLen w (n + m) old e h63
      refine ⟨⟨hlen, .inr ⟨w.heap.size, _, _, rfl, hbase, heap_alloc_new w.drew _, hge, hcm, ?_, ?_⟩⟩, ⟨rfl, rfl, rfl, by simp, fun k hk _ => Below.heap_alloc w.drew _ k hk⟩⟩
      · rw [Array.size_append, Array.size_append, List.size_toArray, List.size_toArray, size_zeroCells, hzs, hown.1, hl, ← Nat.add_mul, ← Nat.add_mul]
        congr 1
        omega
      · rw [Array.toList_append, Array.toList_append, ← hlen]
        exact List.take_left
    rcases hown.2 with ⟨rfl, rfl⟩ | ⟨g, cap, cur, rfl, hbg, hg, hnc, hcm, hcs, htake⟩
    · have hx0 : xs = [] := List.eq_nil_of_length_eq_zero (by simpa using hown.1)
      subst hx0
      by_cases hm : m = 0
      · subst hm
        have hn : news = [] := List.eq_nil_of_length_eq_zero (by simpa using hl)
        subst hn
        refine ⟨.slice none 0 0, w, ?_, World.ownsRow_nil w base e i.size, World.grownBy.refl _ _, fun k hk => .inl hk⟩
        simp [Builtin.append_, run_underlying ht, sizeOf, typeInfo, hi, Builtin.lenOf, Builtin.firstCells, loadCells, loadCellsFrom]
      · have hrn := run_append_nil (P := P) w t ty e i z ht hi hz ⟨b, o, none⟩ m c news hl hnews (by omega) (by omega) (by have hb := hbytes; simp only [Nat.zero_add] at hb; exact Nat.le_trans (Nat.mul_le_mul_right _ (by omega)) hb)
        have hgr := grown 0 (Value.ownBlock (.slice none 0 0)) (by omega)
        simp only [Nat.zero_add, List.nil_append, Array.empty_append] at hgr ⊢
        exact ⟨_, _, hrn, hgr.1, hgr.2, fun k hk => .inr (by cases hk; exact Nat.le_refl _)⟩
    · by_cases hroom : n + m ≤ cap
      · have hfit : n * i.size + news.length ≤ cur.size := by rw [hl, hcs, ← Nat.add_mul]; exact Nat.mul_le_mul_right _ hroom
        have hrr := run_append_room (P := P) w t ty e i ht hi g n cap cur hg ⟨b, o, none⟩ m c news hl hnews h1 hroom hfit
        refine ⟨_, _, hrr, ⟨hlen, .inr ⟨g, cap, _, rfl, hbg, setRow_heap w g cur _ e _ hg, hroom, hcm, ?_, ?_⟩⟩, ⟨rfl, rfl, rfl, by simp, fun k _ hk => setRow_other w g k _ (fun e => hk (by simp [Value.ownBlock, e]))⟩, fun k hk => .inl hk⟩
        · rw [List.size_toArray, List.length_append, List.length_append, List.length_take, List.length_drop, Array.length_toList]
          omega
        · rw [htake, ← hlen]
          exact List.take_left
      · have holds : ∀ j u, xs[j]? = some u → w.cell? ((⟨g, 0, none⟩ : Addr).add j) = some u := hown.cells (g := g) rfl
        have hrg := run_append_grow (P := P) w t ty e i z ht hi hz ⟨g, 0, none⟩ n cap xs hown.1 holds ⟨b, o, none⟩ m c news hl hnews (by omega) (by omega) (growslice_fits_wide (by omega) hbytes)
        have hgr := grown cap (Value.ownBlock (.slice (some ⟨g, 0, none⟩) n cap)) (by omega)
        exact ⟨_, _, hrg, hgr.1, hgr.2, fun k hk => .inr (by cases hk; exact Nat.le_refl _)⟩
end
theorem T.nbeq {a b : Nat} (h : (a == b) = true) : a = b := by simpa using h
structure T.El (P : Program) (t e : TypeId) (size bytes : Nat) : Prop where
  under : P.underlying t = some (.slice e)
  info : ∃ i z, P.info? e = some i ∧ i.zero = some z ∧ i.size = size ∧ i.bytes = bytes ∧ z.cells.size = size
  pos : 0 < size
def T.elOk (P : Program) (t e : TypeId) (size bytes : Nat) : Bool :=
  (match P.underlying t with | some (.slice e') => e' == e | _ => false) &&
  ((match P.info? e with | some i => (match i.zero with | some z => (i.size == size) && ((i.bytes == bytes) && (z.cells.size == size)) | none => false) | none => false) && decide (0 < size))
theorem T.el_of {P : Program} {t e : TypeId} {size bytes : Nat} (h : T.elOk P t e size bytes = true) : T.El P t e size bytes := by
  unfold T.elOk at h
  obtain ⟨h1, h⟩ := Bool.and_eq_true_iff.1 h
  obtain ⟨h2, h3⟩ := Bool.and_eq_true_iff.1 h
  refine ⟨?_, ?_, of_decide_eq_true h3⟩
  · split at h1
    · rename_i e' he; rw [he, T.nbeq h1]
    · cases h1
  · split at h2
    · rename_i i hi
      split at h2
      · rename_i z hz
        obtain ⟨h4, h2⟩ := Bool.and_eq_true_iff.1 h2
        obtain ⟨h5, h6⟩ := Bool.and_eq_true_iff.1 h2
        exact ⟨i, z, hi, hz, T.nbeq h4, T.nbeq h5, T.nbeq h6⟩
      · cases h2
    · cases h2
section
variable {P : Program} {ops : Array Oper} {rest : List Oper} {op : Oper} {a : Act} {w w0 : World} {Q : Exit → Act → World → Prop} {L L' : List T.Blk} {F : Option Nat}
theorem T.op_append {K : Act → World → Prop} (s x : Operand) (t : TypeId) (ho : op.op = .call { callee := .builtin .append, args := #[s, x], argTypes := #[t, t] })
    (e : TypeId) (size bytes : Nat) (hE : T.El P t e size bytes) (v : Value) (n : Nat) (xs : List Value) (hs : a.eval s = v) (L' : Value → List T.Blk) (m : Nat) (news : List Value) (hM : T.Mem w0 F w L)
    (hS : ∀ v', T.Sub (.g v e size n xs) (.g v' e size (n + m) (xs ++ news)) L (L' v')) (hx : T.Sl w (a.eval x) m news) (hl : news.length = m * size)
    (h63 : n + m ≤ maxLen) (hbytes : ((n + m) + (n + m) / 4 + 192) * bytes ≤ 281474976710656)
    (h : ∀ v' w', T.Mem w0 F w' (L' v') → K (a.put op.dst v') w') : T.OW P op a w K Q := by
  refine ⟨?_⟩
  obtain ⟨i, z, hi, hz, h1, h2, h3⟩ := hE.info
  have hrow := hM.row _ (hS v).mem
  obtain ⟨v', w', hr, ho', hg, hk⟩ := T.run_append (P := P) w w0.heap.size t op.type e i z size bytes hE.under hi hz h1 h2 h3 hE.pos v n xs hrow.1 _ m news hx hl h63 hbytes hM.grown.size
  have hn1 : ∀ u ∈ news, u.oneCell' = true := by obtain ⟨_, _, _, _, h1, _⟩ := hx; exact h1
  have hh := h v' w' (hM.turn (hS v') hg ⟨ho', T.ones_app hrow.2 hn1⟩ hk)
  unfold Oper.wp execOp
  simp only [ho, resolve, invoke, builtin, Sem.run_bind, Sem.run_pure, Result.andThen_ok, List.map_toArray, List.map_cons, List.map_nil, hs, hr]
  exact hh
end
end
end Go.Proofs.YtdklknfgcepcbaaGreat.X
