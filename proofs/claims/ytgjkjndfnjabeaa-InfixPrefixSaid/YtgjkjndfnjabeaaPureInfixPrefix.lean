/- InfixPrefix: what is taken of levels is linked, up to the last place ahead of the last k; and so it is, together with the ways down from a place that is taken to one that is not, and from there to the next one that is. For every input. -/
import Derived.Test.YtgjkjndfnjabeaaPI
import Derived.Test.YtgjkjndfnjabeaaXstepladderlaw16InfixPrefix
namespace Go.Proofs.Ytgjkjndfnjabeaa.Pure
open Go.RowKit Go.Proofs.Ytgjkjndfnjabeaa.X Go.Proofs.YtgjkjndfnjabeaaW.PrintWords Go.Proofs.YtgjkjndfnjabeaaW.PrintLast

theorem InfixPrefix.taken_step {l : List Int} {m p : Int} (hok : S.okB l m p = true) {c d : Int} (hn : S.Next (S.takenL l m p) c d) : S.Step l c d := by
  obtain ⟨q0, q1, q2, q3⟩ := S.okB_parts hok
  obtain ⟨hc, hd, hlt, hno⟩ := hn
  obtain ⟨c0, c1, c2, c3, c4⟩ := S.takenL_mem.1 hc
  obtain ⟨d0, d1, d2, d3, d4⟩ := S.takenL_mem.1 hd
  refine S.step_of_gap q0 c0 d1 hlt fun z z1 z2 => ?_
  have hz := (S.mayB_parts q0).2.2.2 z (by omega) (by omega)
  by_cases h : rd l z < rd l c
  · exact h
  · have ha := S.fromZ_anti hok (n := rd l c) (n' := rd l z) (by omega) hz.2
    exact absurd ⟨z1, z2⟩ (hno z (S.takenL_mem.2 ⟨by omega, by omega, by omega, hz.1, by omega⟩))

theorem InfixPrefix.last {l : List Int} {m p : Int} (hok : S.okB l m p = true) : rd (S.takenL l m p) (((S.takenL l m p).length : Int) - 1) = (l.length : Int) - p - 1 := by
  obtain ⟨q0, q1, q2, q3⟩ := S.okB_parts hok
  have hlv := (S.mayB_parts q0).2.2.2 ((l.length : Int) - p - 1) (by omega) (by omega)
  have hr := S.fromZ_range (n := rd l ((l.length : Int) - p - 1)) hok
  have hin : (l.length : Int) - p - 1 ∈ S.takenL l m p := S.takenL_mem.2 ⟨by omega, by omega, by omega, hlv.1, by omega⟩
  have h1 := S.up_last (S.takenL_up l m p) hin
  have hpos : 0 < (S.takenL l m p).length := List.length_pos_iff.2 (fun e => by rw [e] at hin; simp at hin)
  have h2 := S.takenL_mem.1 (S.rd_mem (a := S.takenL l m p) (i := ((S.takenL l m p).length : Int) - 1) (by omega) (by omega))
  omega

/-- What is taken, together with the two ways. -/
theorem InfixPrefix.step {l : List Int} {m p : Int} (hok : S.okB l m p = true) {A B lo : Int} (hn : S.Next (S.takenL l m p) A B) (h1 : A < lo) (h2 : lo < B) {c d : Int} (hcd : S.Next (S.bothL (S.bothL (S.takenL l m p) (S.wayL l B lo)) (S.wayL l lo A)) c d) : S.Step l c d := by
  obtain ⟨q0, q1, q2, q3⟩ := S.okB_parts hok
  obtain ⟨hA, hB, hAB, hno⟩ := hn
  have mA := S.takenL_mem.1 hA
  have mB := S.takenL_mem.1 hB
  have hmem : ∀ x, x ∈ S.bothL (S.bothL (S.takenL l m p) (S.wayL l B lo)) (S.wayL l lo A) ↔ (x ∈ S.takenL l m p ∨ x ∈ S.wayL l B lo) ∨ x ∈ S.wayL l lo A := fun x => by rw [S.both_mem, S.both_mem]
  have rB := S.wayL_range (l := l) (hi := B) (lo := lo) (by omega) (by omega) (by omega)
  have rA := S.wayL_range (l := l) (hi := lo) (lo := A) (by omega) (by omega) (by omega)
  have loB := S.wayL_lo q0 (hi := B) (lo := lo) (by omega) (by omega) (by omega)
  have hiB := S.wayL_hi (l := l) (hi := B) (lo := lo) (by omega) (by omega)
  have loA := S.wayL_lo q0 (hi := lo) (lo := A) (by omega) (by omega) (by omega)
  have hiA := S.wayL_hi (l := l) (hi := lo) (lo := A) (by omega) (by omega)
  obtain ⟨hc, hd, hlt, hnb⟩ := hcd
  have hcm := (hmem c).1 hc
  have hdm := (hmem d).1 hd
  have nA := hnb A ((hmem A).2 (.inl (.inl hA)))
  have nB := hnb B ((hmem B).2 (.inl (.inl hB)))
  have nL := hnb lo ((hmem lo).2 (.inr hiA))
  by_cases k1 : d ≤ A
  · refine InfixPrefix.taken_step hok ⟨?_, ?_, hlt, fun x hx => hnb x ((hmem x).2 (.inl (.inl hx)))⟩
    · rcases hcm with (h | h) | h
      · exact h
      · have := rB c h; omega
      · have := rA c h; omega
    · rcases hdm with (h | h) | h
      · exact h
      · have := rB d h; omega
      · have := rA d h
        have : d = A := by omega
        subst this; exact hA
  · by_cases k2 : B ≤ c
    · refine InfixPrefix.taken_step hok ⟨?_, ?_, hlt, fun x hx => hnb x ((hmem x).2 (.inl (.inl hx)))⟩
      · rcases hcm with (h | h) | h
        · exact h
        · have := rB c h
          have : c = B := by omega
          subst this; exact hB
        · have := rA c h; omega
      · rcases hdm with (h | h) | h
        · exact h
        · have := rB d h; omega
        · have := rA d h; omega
    · have hcA : A ≤ c := by omega
      have hdB : d ≤ B := by omega
      by_cases k3 : d ≤ lo
      · refine S.way_step_of q0 (hi := lo) (lo := A) (by omega) (by omega) (by omega) ⟨?_, ?_, hlt, fun x hx => hnb x ((hmem x).2 (.inr hx))⟩
        · rcases hcm with (h | h) | h
          · have := hno c h
            have : c = A := by omega
            subst this; exact loA
          · have := rB c h; omega
          · exact h
        · rcases hdm with (h | h) | h
          · have := hno d h; omega
          · have := rB d h
            have : d = lo := by omega
            subst this; exact hiA
          · exact h
      · refine S.way_step_of q0 (hi := B) (lo := lo) (by omega) (by omega) (by omega) ⟨?_, ?_, hlt, fun x hx => hnb x ((hmem x).2 (.inl (.inr hx)))⟩
        · rcases hcm with (h | h) | h
          · have := hno c h; omega
          · exact h
          · have := rA c h
            have : c = lo := by omega
            subst this; exact loB
        · rcases hdm with (h | h) | h
          · have := hno d h
            have : d = B := by omega
            subst this; exact hiB
          · exact h
          · have := rA d h; omega

theorem InfixPrefix.all (l : List Int) (m p a lo : Int) (hm : (Lit.int .i64 m).wf = true) (k : Nat) (hk : 8000 < k) : stepladderlaw16_InfixPrefix.f k l m p a lo = some true := by
  obtain ⟨k, rfl⟩ : ∃ m, k = m + 1 + 1 + 1 + 1 := ⟨k - 4, by omega⟩
  have hj : stepladderlaw16_InfixPrefix.j0 (k + 1 + 1 + 1 + 1) l m p a lo true true = some true := by simp only [stepladderlaw16_InfixPrefix.j0, if_true]
  unfold stepladderlaw16_InfixPrefix.f
  rw [P.awake16 _ (by omega)]
  simp only [Option.bind_some, if_true]
  by_cases h1 : (l.length : Int) > 210
  · rw [decide_eq_true h1, hj]
  rw [decide_eq_false h1]
  simp only [stepladderlaw16_InfixPrefix.j0]
  rw [if_neg (by decide), P.prefix_f _ _ _ hm]
  simp only [Option.bind_some]
  cases hok : S.okB l m p with
  | false =>
    rw [S.prefZ_bad hok]
    simp only
    rw [if_neg (by decide)]
    simp only [stepladderlaw16_InfixPrefix.j1, if_true]
    rfl
  | true =>
    obtain ⟨q0, q1, q2, q3⟩ := S.okB_parts hok
    have hlen := S.taken_len (l := l) (m := m) (k := p)
    have hz := S.taken_zero hok
    have hpos : 0 < (S.takenL l m p).length := List.length_pos_iff.2 (fun e => by rw [e] at hz; simp at hz)
    have hup := S.takenL_up l m p
    have hmem : ∀ x ∈ S.takenL l m p, 0 ≤ x ∧ x < (l.length : Int) - p := fun x hx => by have := S.takenL_mem.1 hx; exact ⟨this.1, this.2.2.1⟩
    have hlast := InfixPrefix.last hok
    rw [S.prefZ_ok hok]
    simp only [if_true]
    rw [show (((S.takenL l m p).length : Int) == 0) = false from by simp; exact List.length_pos_iff.1 hpos]
    simp only [stepladderlaw16_InfixPrefix.j1]
    rw [if_neg (by decide), P.linked_true l _ (by omega) (by omega) _ (by omega) hup (fun x hx => by have := hmem x hx; omega) q0 (fun c d hn => InfixPrefix.taken_step hok hn)]
    simp only [Option.bind_some, if_true]
    rw [E.wrap_id (x := ((S.takenL l m p).length : Int) - 1) (by omega) (by omega), if_pos (by omega), if_pos (by omega), E.wrap_id (x := (l.length : Int) - p) (by omega) (by omega), E.wrap_id (x := (l.length : Int) - p - 1) (by omega) (by omega), hlast,
      show ((l.length : Int) - p - 1 != (l.length : Int) - p - 1) = false from by simp]
    have hj3 : stepladderlaw16_InfixPrefix.j3 (k + 1) l a lo (S.takenL l m p) true = some true := by simp only [stepladderlaw16_InfixPrefix.j3, if_true]
    simp only [stepladderlaw16_InfixPrefix.j2]
    rw [if_neg (by decide)]
    by_cases c1 : a < 1
    · rw [if_pos c1, hj3]
    rw [if_neg c1]
    by_cases c2 : a ≥ ((S.takenL l m p).length : Int)
    · rw [if_pos c2, hj3]
    rw [if_neg c2]
    obtain ⟨i, rfl⟩ : ∃ q : Nat, a = ((q + 1 : Nat) : Int) := ⟨(a - 1).toNat, by omega⟩
    rw [show wrap64 (((i + 1 : Nat) : Int) - 1) = (i : Int) from by rw [E.wrap_id (by omega) (by omega)]; omega, if_pos (by omega), if_pos (by omega)]
    by_cases c3 : lo ≤ rd (S.takenL l m p) i
    · rw [if_pos c3, hj3]
    rw [if_neg c3, if_pos (by omega), if_pos (by omega)]
    by_cases c4 : lo ≥ rd (S.takenL l m p) ((i + 1 : Nat) : Int)
    · rw [decide_eq_true c4, hj3]
    rw [decide_eq_false c4]
    have hn := S.next_of hup (i := i) (by omega)
    have hA := hmem _ hn.1
    have hB := hmem _ hn.2.1
    generalize hAA : rd (S.takenL l m p) i = A at *
    generalize hBB : rd (S.takenL l m p) ((i + 1 : Nat) : Int) = B at *
    have w1 := S.wayL_len l B lo
    have w2 := S.wayL_len l lo A
    have b1 := S.both_len (S.takenL l m p) (S.wayL l B lo)
    have b2 := S.both_len (S.bothL (S.takenL l m p) (S.wayL l B lo)) (S.wayL l lo A)
    simp only [stepladderlaw16_InfixPrefix.j3]
    rw [show wrap64 (((i + 1 : Nat) : Int) - 1) = (i : Int) from by rw [E.wrap_id (by omega) (by omega)]; omega, if_neg (by decide), if_pos (by omega), if_pos (by omega), P.follow_f, hBB, S.follow_ok ⟨q0, by omega, by omega, by omega⟩]
    simp only [Option.bind_some, if_true]
    rw [if_pos (by omega), if_pos (by omega), P.follow_f, hAA, S.follow_ok ⟨q0, by omega, by omega, by omega⟩]
    simp only [Option.bind_some, if_true]
    rw [P.both_f _ _ (by omega)]
    simp only [Option.bind_some]
    rw [P.both_f _ _ (by omega)]
    simp only [Option.bind_some]
    rw [P.linked_true l _ (by omega) (by omega) k (by omega) (S.both_up _ _) (fun x hx => ?_) q0 (fun c d hcd => InfixPrefix.step hok hn (by omega) (by omega) hcd)]
    · rfl
    · rw [S.both_mem, S.both_mem] at hx
      rcases hx with (h | h) | h
      · have := hmem x h; omega
      · have := S.wayL_range (l := l) (hi := B) (lo := lo) (by omega) (by omega) (by omega) x h; omega
      · have := S.wayL_range (l := l) (hi := lo) (lo := A) (by omega) (by omega) (by omega) x h; omega

theorem InfixPrefix : stepladderlaw16_InfixPrefix.Pure := fun l m p a lo _ _ _ hm _ _ _ => ⟨8001, InfixPrefix.all l m p a lo hm 8001 (by omega)⟩

end Go.Proofs.Ytgjkjndfnjabeaa.Pure
