/- stepladderlaw21.VelvetNone: whatever comes in. -/
import Derived.Test.YteekdggainficaaMVN
namespace Go.Proofs.Yteekdggainficaa.X
open Go.RowKit Go.Shelf Go.Maps Go.Proofs.YteekdggainficaaW.PrintWords Go.Proofs.YteekdggainficaaW.PrintLast Go.Proofs.YteekdggainficaaW.PrintMore

set_option maxHeartbeats 4000000 in
set_option maxRecDepth 100000 in
theorem V.none_few (A0 : Option Addr) (c0 : Nat) (l : List S36) (m k2 : Int) (w : World) (hr0 : Kd.C k36 w A0 l.length l) (hc0 : l.length ≤ c0) (hf : stepladderlaw21_few.f (l.length + 1) l = some false) :
    Calls Try.prog 8 #[.slice A0 l.length c0, .int .i64 m, .int .i64 k2] w (V.Yes w) := by
  have haw := P.awake21 301 (by omega)
  have HR0 := Aside0.mk hr0
  have HC0 := Aside0.mk hc0
  have HF := Aside0.mk hf
  have HAW := Aside0.mk haw
  generalize hP : V.Yes w = Post
  clear hr0 hc0 hf haw
  go_enter Try.func8, Try.ntmps8
  go_wp2_with (first
    | (go_at_call 10; refine (stepladderlaw21_awake.calls 301 true _ HAW.out).mono ?_; rintro e w1 ⟨rfl, hb1⟩; have HB1 := Aside0.mk hb1; have HR1 := Aside0.mk (Kd.C_below HR0.out hb1); clear hb1)
    | (go_at_call 11; refine (stepladderlaw21_few.calls _ _ _ _ _ _ HR1.out HC0.out HF.out).mono ?_; rintro e w2 ⟨rfl, ⟨d1, rfl⟩⟩; have HB2 := Aside0.mk (pw_below_drewN HB1.out d1))
    | fail)
  subst hP
  exact ⟨rfl, HB2.out⟩
set_option maxHeartbeats 4000000 in
set_option maxRecDepth 100000 in
theorem V.none_may (A0 : Option Addr) (c0 : Nat) (l : List S36) (m k2 : Int) (w : World) (hr0 : Kd.C k36 w A0 l.length l) (hc0 : l.length ≤ c0) (hl : l.length ≤ 210) (hf : stepladderlaw21_few.f (l.length + 1) l = some true) (hm : V.mayV l = false) :
    Calls Try.prog 8 #[.slice A0 l.length c0, .int .i64 m, .int .i64 k2] w (V.Yes w) := by
  have hmf := V.may_f l (by omega) 1001 (by omega)
  rw [hm] at hmf
  have haw := P.awake21 301 (by omega)
  have HR0 := Aside0.mk hr0
  have HC0 := Aside0.mk hc0
  have HF := Aside0.mk hf
  have HMF := Aside0.mk hmf
  have HAW := Aside0.mk haw
  generalize hP : V.Yes w = Post
  clear hr0 hc0 hf haw hmf
  go_enter Try.func8, Try.ntmps8
  go_wp2_with (first
    | (go_at_call 10; refine (stepladderlaw21_awake.calls 301 true _ HAW.out).mono ?_; rintro e w1 ⟨rfl, hb1⟩; have HB1 := Aside0.mk hb1; have HR1 := Aside0.mk (Kd.C_below HR0.out hb1); clear hb1)
    | (go_at_call 11; refine (stepladderlaw21_few.calls _ _ _ _ _ _ HR1.out HC0.out HF.out).mono ?_; rintro e w2 ⟨rfl, ⟨d1, rfl⟩⟩; have HB2 := Aside0.mk (pw_below_drewN HB1.out d1); have HR2 := Aside0.mk (Kd.C_drewN HR1.out d1))
    | (go_at_call 23; refine (velvet_May.calls 1001 _ _ _ _ _ HR2.out HC0.out HMF.out).mono ?_; rintro e w3 ⟨rfl, hb3⟩; have HB3 := Aside0.mk (below_then HB2.out HB2.out.size hb3); clear hb3)
    | fail)
  subst hP
  exact ⟨rfl, HB3.out⟩
theorem V.none_calls (A0 : Option Addr) (c0 : Nat) (l : List S36) (m k2 : Int) (w : World) (hr0 : Kd.C k36 w A0 l.length l) (hc0 : l.length ≤ c0) (wm : (Lit.int .i64 m).wf = true) (_wk : (Lit.int .i64 k2).wf = true) :
    Calls Try.prog 8 #[.slice A0 l.length c0, .int .i64 m, .int .i64 k2] w fun e w' => e = .returned (.bool true) ∧ Below w.heap.size w w' := by
  obtain ⟨b, hb, hbt⟩ := P.few_f l hr0.2.1 (l.length + 1) (by omega)
  cases b with
  | false => exact V.none_few A0 c0 l m k2 w hr0 hc0 hb
  | true =>
    obtain ⟨h210, _⟩ := hbt rfl
    cases hm : V.mayV l with
    | false => exact V.none_may A0 c0 l m k2 w hr0 hc0 h210 hb hm
    | true =>
      rcases V.non_pref hm m k2 with h | h
      · exact V.none_ok A0 c0 l m k2 w hr0 hc0 (P.wf_bounds wm).2 h210 hb hm [] false h (.inl ⟨rfl, rfl⟩)
      · exact V.none_ok A0 c0 l m k2 w hr0 hc0 (P.wf_bounds wm).2 h210 hb hm [0] true h (.inr ⟨rfl, rfl⟩)

end Go.Proofs.Yteekdggainficaa.X
