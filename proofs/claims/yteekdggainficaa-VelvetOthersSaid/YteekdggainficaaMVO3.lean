/- stepladderlaw21.VelvetOthers: whatever comes in. -/
import Derived.Test.YteekdggainficaaMVO2
namespace Go.Proofs.Yteekdggainficaa.X
open Go.RowKit Go.Shelf Go.Maps Go.Proofs.YteekdggainficaaW.PrintWords Go.Proofs.YteekdggainficaaW.PrintLast Go.Proofs.YteekdggainficaaW.PrintMore

set_option maxHeartbeats 4000000 in
set_option maxRecDepth 100000 in
theorem V.others_few (A0 : Option Addr) (c0 : Nat) (l : List S36) (i : Int) (x : S36) (Ax : Option Addr) (cx : Nat) (w : World) (hr0 : Kd.C k36 w A0 l.length l) (hc0 : l.length ≤ c0) (hK : k36.K w x [.bool x.f0, .int .i64 x.f1, .slice Ax x.f2.length cx]) (b2 : Bool) (hf : stepladderlaw21_few.f (l.length + 1) l = some false) (hfx : stepladderlaw21_few.f 2 [x] = some b2) :
    Calls Try.prog 6 #[.slice A0 l.length c0, .int .i64 i, .agg #[.bool x.f0, .int .i64 x.f1, .slice Ax x.f2.length cx]] w (V.Yes w) := by
  have haw := P.awake21 301 (by omega)
  have hbx := blk_new w (.cells #[.bool x.f0, .int .i64 x.f1, .slice Ax x.f2.length cx] 36)
  have hb0 := below_alloc (Below.refl w.heap.size w) (.cells #[.bool x.f0, .int .i64 x.f1, .slice Ax x.f2.length cx] 36)
  have HR0 := Aside0.mk hr0
  have HC0 := Aside0.mk hc0
  have HF := Aside0.mk hf
  have HFX := Aside0.mk hfx
  have HAW := Aside0.mk haw
  have HK := Aside0.mk hK
  have HBX := Aside0.mk hbx
  have HB0 := Aside0.mk hb0
  generalize hP : V.Yes w = Post
  clear hr0 hc0 hf hfx haw hK hbx hb0
  go_enter Try.func6, Try.ntmps6
  go_wp2_with (first
    | (go_at_call 10; refine (stepladderlaw21_awake.calls 301 true _ HAW.out).mono ?_; rintro e w1 ⟨rfl, hb1⟩; have HB1 := Aside0.mk (below_then HB0.out HB0.out.size hb1); have HBX1 := Aside0.mk (blk_below HBX.out hb1); clear hb1)
    | fail)
  refine (stepladderlaw21_few.calls (l.length + 1) A0 c0 l false w1 (Kd.C_below HR0.out HB1.out) HC0.out HF.out).mono ?_
  rintro e w2 ⟨rfl, ⟨q1, rfl⟩⟩
  have HB2 := Aside0.mk (pw_below_drewN HB1.out q1)
  have hbx2 := blk_drewN HBX1.out q1
  have z0 := blk_cell hbx2 0
  have z1 := blk_cell hbx2 1
  have z2 := blk_cell hbx2 2
  simp at z0 z1 z2
  clear hbx2
  go_wp2_with fail
  have hc3 := V.C_one (x := x) (blk_new (w1.drewN q1) (.cells #[.bool x.f0, .int .i64 x.f1, .slice Ax x.f2.length cx] 36)) (k36.K_below (below_alloc HB2.out _) HK.out)
  refine (stepladderlaw21_few.calls 2 _ 1 [x] b2 _ hc3 (Nat.le_refl 1) HFX.out).mono ?_
  rintro e w4 ⟨rfl, ⟨q2, rfl⟩⟩
  clear hc3
  have HB4 := Aside0.mk (pw_below_drewN (below_alloc HB2.out (.cells #[.bool x.f0, .int .i64 x.f1, .slice Ax x.f2.length cx] 36)) q2)
  clear HB1 HB2 HBX1 z0 z1 z2 HB0 HBX
  go_wp2
  subst hP
  exact ⟨rfl, HB4.out⟩
set_option maxHeartbeats 4000000 in
set_option maxRecDepth 100000 in
theorem V.others_few2 (A0 : Option Addr) (c0 : Nat) (l : List S36) (i : Int) (x : S36) (Ax : Option Addr) (cx : Nat) (w : World) (hr0 : Kd.C k36 w A0 l.length l) (hc0 : l.length ≤ c0) (hK : k36.K w x [.bool x.f0, .int .i64 x.f1, .slice Ax x.f2.length cx]) (hf : stepladderlaw21_few.f (l.length + 1) l = some true) (hfx : stepladderlaw21_few.f 2 [x] = some false) :
    Calls Try.prog 6 #[.slice A0 l.length c0, .int .i64 i, .agg #[.bool x.f0, .int .i64 x.f1, .slice Ax x.f2.length cx]] w (V.Yes w) := by
  have haw := P.awake21 301 (by omega)
  have hbx := blk_new w (.cells #[.bool x.f0, .int .i64 x.f1, .slice Ax x.f2.length cx] 36)
  have hb0 := below_alloc (Below.refl w.heap.size w) (.cells #[.bool x.f0, .int .i64 x.f1, .slice Ax x.f2.length cx] 36)
  have HR0 := Aside0.mk hr0
  have HC0 := Aside0.mk hc0
  have HF := Aside0.mk hf
  have HFX := Aside0.mk hfx
  have HAW := Aside0.mk haw
  have HK := Aside0.mk hK
  have HBX := Aside0.mk hbx
  have HB0 := Aside0.mk hb0
  generalize hP : V.Yes w = Post
  clear hr0 hc0 hf hfx haw hK hbx hb0
  go_enter Try.func6, Try.ntmps6
  go_wp2_with (first
    | (go_at_call 10; refine (stepladderlaw21_awake.calls 301 true _ HAW.out).mono ?_; rintro e w1 ⟨rfl, hb1⟩; have HB1 := Aside0.mk (below_then HB0.out HB0.out.size hb1); have HBX1 := Aside0.mk (blk_below HBX.out hb1); clear hb1)
    | fail)
  refine (stepladderlaw21_few.calls (l.length + 1) A0 c0 l true w1 (Kd.C_below HR0.out HB1.out) HC0.out HF.out).mono ?_
  rintro e w2 ⟨rfl, ⟨q1, rfl⟩⟩
  have HB2 := Aside0.mk (pw_below_drewN HB1.out q1)
  have hbx2 := blk_drewN HBX1.out q1
  have z0 := blk_cell hbx2 0
  have z1 := blk_cell hbx2 1
  have z2 := blk_cell hbx2 2
  simp at z0 z1 z2
  clear hbx2
  go_wp2_with fail
  have hc3 := V.C_one (x := x) (blk_new (w1.drewN q1) (.cells #[.bool x.f0, .int .i64 x.f1, .slice Ax x.f2.length cx] 36)) (k36.K_below (below_alloc HB2.out _) HK.out)
  refine (stepladderlaw21_few.calls 2 _ 1 [x] false _ hc3 (Nat.le_refl 1) HFX.out).mono ?_
  rintro e w4 ⟨rfl, ⟨q2, rfl⟩⟩
  clear hc3
  have HB4 := Aside0.mk (pw_below_drewN (below_alloc HB2.out (.cells #[.bool x.f0, .int .i64 x.f1, .slice Ax x.f2.length cx] 36)) q2)
  clear HB1 HB2 HBX1 z0 z1 z2 HB0 HBX
  go_wp2
  subst hP
  exact ⟨rfl, HB4.out⟩
set_option maxHeartbeats 4000000 in
set_option maxRecDepth 100000 in
theorem V.others_low (A0 : Option Addr) (c0 : Nat) (l : List S36) (i : Int) (x : S36) (Ax : Option Addr) (cx : Nat) (w : World) (hr0 : Kd.C k36 w A0 l.length l) (hc0 : l.length ≤ c0) (hK : k36.K w x [.bool x.f0, .int .i64 x.f1, .slice Ax x.f2.length cx]) (hf : stepladderlaw21_few.f (l.length + 1) l = some true) (hfx : stepladderlaw21_few.f 2 [x] = some true) (h1 : i < 1) :
    Calls Try.prog 6 #[.slice A0 l.length c0, .int .i64 i, .agg #[.bool x.f0, .int .i64 x.f1, .slice Ax x.f2.length cx]] w (V.Yes w) := by
  have d1 : decide (i < 1) = true := decide_eq_true h1
  have haw := P.awake21 301 (by omega)
  have hbx := blk_new w (.cells #[.bool x.f0, .int .i64 x.f1, .slice Ax x.f2.length cx] 36)
  have hb0 := below_alloc (Below.refl w.heap.size w) (.cells #[.bool x.f0, .int .i64 x.f1, .slice Ax x.f2.length cx] 36)
  have HR0 := Aside0.mk hr0
  have HC0 := Aside0.mk hc0
  have HF := Aside0.mk hf
  have HFX := Aside0.mk hfx
  have HAW := Aside0.mk haw
  have HK := Aside0.mk hK
  have HBX := Aside0.mk hbx
  have HB0 := Aside0.mk hb0
  generalize hP : V.Yes w = Post
  clear hr0 hc0 hf hfx haw hK hbx hb0
  go_enter Try.func6, Try.ntmps6
  go_wp2_with (first
    | (go_at_call 10; refine (stepladderlaw21_awake.calls 301 true _ HAW.out).mono ?_; rintro e w1 ⟨rfl, hb1⟩; have HB1 := Aside0.mk (below_then HB0.out HB0.out.size hb1); have HBX1 := Aside0.mk (blk_below HBX.out hb1); clear hb1)
    | fail)
  refine (stepladderlaw21_few.calls (l.length + 1) A0 c0 l true w1 (Kd.C_below HR0.out HB1.out) HC0.out HF.out).mono ?_
  rintro e w2 ⟨rfl, ⟨q1, rfl⟩⟩
  have HB2 := Aside0.mk (pw_below_drewN HB1.out q1)
  have hbx2 := blk_drewN HBX1.out q1
  have z0 := blk_cell hbx2 0
  have z1 := blk_cell hbx2 1
  have z2 := blk_cell hbx2 2
  simp at z0 z1 z2
  clear hbx2
  go_wp2_with fail
  have hc3 := V.C_one (x := x) (blk_new (w1.drewN q1) (.cells #[.bool x.f0, .int .i64 x.f1, .slice Ax x.f2.length cx] 36)) (k36.K_below (below_alloc HB2.out _) HK.out)
  refine (stepladderlaw21_few.calls 2 _ 1 [x] true _ hc3 (Nat.le_refl 1) HFX.out).mono ?_
  rintro e w4 ⟨rfl, ⟨q2, rfl⟩⟩
  clear hc3
  have HB4 := Aside0.mk (pw_below_drewN (below_alloc HB2.out (.cells #[.bool x.f0, .int .i64 x.f1, .slice Ax x.f2.length cx] 36)) q2)
  clear HB1 HB2 HBX1 z0 z1 z2 HB0 HBX
  go_wp2
  subst hP
  exact ⟨rfl, HB4.out⟩
set_option maxHeartbeats 4000000 in
set_option maxRecDepth 100000 in
theorem V.others_high (A0 : Option Addr) (c0 : Nat) (l : List S36) (i : Int) (x : S36) (Ax : Option Addr) (cx : Nat) (w : World) (hr0 : Kd.C k36 w A0 l.length l) (hc0 : l.length ≤ c0) (hK : k36.K w x [.bool x.f0, .int .i64 x.f1, .slice Ax x.f2.length cx]) (hf : stepladderlaw21_few.f (l.length + 1) l = some true) (hfx : stepladderlaw21_few.f 2 [x] = some true) (h1 : ¬ i < 1) (h2 : (l.length : Int) ≤ i) :
    Calls Try.prog 6 #[.slice A0 l.length c0, .int .i64 i, .agg #[.bool x.f0, .int .i64 x.f1, .slice Ax x.f2.length cx]] w (V.Yes w) := by
  have d1 : decide (i < 1) = false := decide_eq_false h1
  have d2 : decide ((l.length : Int) ≤ i) = true := decide_eq_true h2
  have haw := P.awake21 301 (by omega)
  have hbx := blk_new w (.cells #[.bool x.f0, .int .i64 x.f1, .slice Ax x.f2.length cx] 36)
  have hb0 := below_alloc (Below.refl w.heap.size w) (.cells #[.bool x.f0, .int .i64 x.f1, .slice Ax x.f2.length cx] 36)
  have HR0 := Aside0.mk hr0
  have HC0 := Aside0.mk hc0
  have HF := Aside0.mk hf
  have HFX := Aside0.mk hfx
  have HAW := Aside0.mk haw
  have HK := Aside0.mk hK
  have HBX := Aside0.mk hbx
  have HB0 := Aside0.mk hb0
  generalize hP : V.Yes w = Post
  clear hr0 hc0 hf hfx haw hK hbx hb0
  go_enter Try.func6, Try.ntmps6
  go_wp2_with (first
    | (go_at_call 10; refine (stepladderlaw21_awake.calls 301 true _ HAW.out).mono ?_; rintro e w1 ⟨rfl, hb1⟩; have HB1 := Aside0.mk (below_then HB0.out HB0.out.size hb1); have HBX1 := Aside0.mk (blk_below HBX.out hb1); clear hb1)
    | fail)
  refine (stepladderlaw21_few.calls (l.length + 1) A0 c0 l true w1 (Kd.C_below HR0.out HB1.out) HC0.out HF.out).mono ?_
  rintro e w2 ⟨rfl, ⟨q1, rfl⟩⟩
  have HB2 := Aside0.mk (pw_below_drewN HB1.out q1)
  have hbx2 := blk_drewN HBX1.out q1
  have z0 := blk_cell hbx2 0
  have z1 := blk_cell hbx2 1
  have z2 := blk_cell hbx2 2
  simp at z0 z1 z2
  clear hbx2
  go_wp2_with fail
  have hc3 := V.C_one (x := x) (blk_new (w1.drewN q1) (.cells #[.bool x.f0, .int .i64 x.f1, .slice Ax x.f2.length cx] 36)) (k36.K_below (below_alloc HB2.out _) HK.out)
  refine (stepladderlaw21_few.calls 2 _ 1 [x] true _ hc3 (Nat.le_refl 1) HFX.out).mono ?_
  rintro e w4 ⟨rfl, ⟨q2, rfl⟩⟩
  clear hc3
  have HB4 := Aside0.mk (pw_below_drewN (below_alloc HB2.out (.cells #[.bool x.f0, .int .i64 x.f1, .slice Ax x.f2.length cx] 36)) q2)
  clear HB1 HB2 HBX1 z0 z1 z2 HB0 HBX
  go_wp2
  subst hP
  exact ⟨rfl, HB4.out⟩
set_option maxHeartbeats 4000000 in
set_option maxRecDepth 100000 in
theorem V.others_may (A0 : Option Addr) (c0 : Nat) (l : List S36) (i : Int) (x : S36) (Ax : Option Addr) (cx : Nat) (w : World) (hr0 : Kd.C k36 w A0 l.length l) (hc0 : l.length ≤ c0) (hK : k36.K w x [.bool x.f0, .int .i64 x.f1, .slice Ax x.f2.length cx]) (hf : stepladderlaw21_few.f (l.length + 1) l = some true) (hfx : stepladderlaw21_few.f 2 [x] = some true) (hl : l.length ≤ 210) (h1 : ¬ i < 1) (h2 : ¬ (l.length : Int) ≤ i) (hm : V.mayV l = false) :
    Calls Try.prog 6 #[.slice A0 l.length c0, .int .i64 i, .agg #[.bool x.f0, .int .i64 x.f1, .slice Ax x.f2.length cx]] w (V.Yes w) := by
  have d1 : decide (i < 1) = false := decide_eq_false h1
  have d2 : decide ((l.length : Int) ≤ i) = false := decide_eq_false h2
  have hmf := V.may_f l (by omega) 1001 (by omega)
  rw [hm] at hmf
  have HMF := Aside0.mk hmf
  clear hmf
  have haw := P.awake21 301 (by omega)
  have hbx := blk_new w (.cells #[.bool x.f0, .int .i64 x.f1, .slice Ax x.f2.length cx] 36)
  have hb0 := below_alloc (Below.refl w.heap.size w) (.cells #[.bool x.f0, .int .i64 x.f1, .slice Ax x.f2.length cx] 36)
  have HR0 := Aside0.mk hr0
  have HC0 := Aside0.mk hc0
  have HF := Aside0.mk hf
  have HFX := Aside0.mk hfx
  have HAW := Aside0.mk haw
  have HK := Aside0.mk hK
  have HBX := Aside0.mk hbx
  have HB0 := Aside0.mk hb0
  generalize hP : V.Yes w = Post
  clear hr0 hc0 hf hfx haw hK hbx hb0
  go_enter Try.func6, Try.ntmps6
  go_wp2_with (first
    | (go_at_call 10; refine (stepladderlaw21_awake.calls 301 true _ HAW.out).mono ?_; rintro e w1 ⟨rfl, hb1⟩; have HB1 := Aside0.mk (below_then HB0.out HB0.out.size hb1); have HBX1 := Aside0.mk (blk_below HBX.out hb1); clear hb1)
    | fail)
  refine (stepladderlaw21_few.calls (l.length + 1) A0 c0 l true w1 (Kd.C_below HR0.out HB1.out) HC0.out HF.out).mono ?_
  rintro e w2 ⟨rfl, ⟨q1, rfl⟩⟩
  have HB2 := Aside0.mk (pw_below_drewN HB1.out q1)
  have hbx2 := blk_drewN HBX1.out q1
  have z0 := blk_cell hbx2 0
  have z1 := blk_cell hbx2 1
  have z2 := blk_cell hbx2 2
  simp at z0 z1 z2
  clear hbx2
  go_wp2_with fail
  have hc3 := V.C_one (x := x) (blk_new (w1.drewN q1) (.cells #[.bool x.f0, .int .i64 x.f1, .slice Ax x.f2.length cx] 36)) (k36.K_below (below_alloc HB2.out _) HK.out)
  refine (stepladderlaw21_few.calls 2 _ 1 [x] true _ hc3 (Nat.le_refl 1) HFX.out).mono ?_
  rintro e w4 ⟨rfl, ⟨q2, rfl⟩⟩
  clear hc3
  have HB4 := Aside0.mk (pw_below_drewN (below_alloc HB2.out (.cells #[.bool x.f0, .int .i64 x.f1, .slice Ax x.f2.length cx] 36)) q2)
  clear HB1 HB2 HBX1 z0 z1 z2 HB0 HBX
  go_wp2_with fail
  refine (velvet_May.calls 1001 A0 c0 l false _ (Kd.C_below HR0.out HB4.out) HC0.out HMF.out).mono ?_
  rintro e w5 ⟨rfl, hb5⟩
  have HB5 := Aside0.mk (below_then HB4.out HB4.out.size hb5)
  go_wp2
  subst hP
  exact ⟨rfl, HB5.out⟩
theorem V.others_calls (A0 : Option Addr) (c0 : Nat) (l : List S36) (i : Int) (x : S36) (Ax : Option Addr) (cx : Nat) (w : World) (hr0 : Kd.C k36 w A0 l.length l) (hc0 : l.length ≤ c0) (hK : k36.K w x [.bool x.f0, .int .i64 x.f1, .slice Ax x.f2.length cx]) :
    Calls Try.prog 6 #[.slice A0 l.length c0, .int .i64 i, .agg #[.bool x.f0, .int .i64 x.f1, .slice Ax x.f2.length cx]] w fun e w' => e = .returned (.bool true) ∧ Below w.heap.size w w' := by
  obtain ⟨b, hb, hbt⟩ := P.few_f l hr0.2.1 (l.length + 1) (by omega)
  obtain ⟨b2, hb2, _⟩ := P.few_f [x] (by simp) 2 (by simp)
  cases b with
  | false => exact V.others_few A0 c0 l i x Ax cx w hr0 hc0 hK b2 hb hb2
  | true =>
    obtain ⟨h210, _⟩ := hbt rfl
    cases b2 with
    | false => exact V.others_few2 A0 c0 l i x Ax cx w hr0 hc0 hK hb hb2
    | true =>
      by_cases h1 : i < 1
      · exact V.others_low A0 c0 l i x Ax cx w hr0 hc0 hK hb hb2 h1
      by_cases h2 : (l.length : Int) ≤ i
      · exact V.others_high A0 c0 l i x Ax cx w hr0 hc0 hK hb hb2 h1 h2
      cases hm : V.mayV l with
      | false => exact V.others_may A0 c0 l i x Ax cx w hr0 hc0 hK hb hb2 h210 h1 h2 hm
      | true =>
        obtain ⟨j, rfl⟩ : ∃ j : Nat, i = j := ⟨i.toNat, by omega⟩
        exact V.others_ok A0 c0 l j x Ax cx w hr0 hc0 hK h210 hb hb2 (by omega) (by omega) hm

end Go.Proofs.Yteekdggainficaa.X
