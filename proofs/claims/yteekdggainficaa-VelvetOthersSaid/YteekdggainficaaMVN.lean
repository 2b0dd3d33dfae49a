/- stepladderlaw21.VelvetNone: the walk. -/
import Derived.Test.YteekdggainficaaMPZ
namespace Go.Proofs.Yteekdggainficaa.X
open Go.RowKit Go.Shelf Go.Maps Go.Proofs.YteekdggainficaaW.PrintWords Go.Proofs.YteekdggainficaaW.PrintLast Go.Proofs.YteekdggainficaaW.PrintMore

theorem V.K_up {w : World} {x : S36} {b0 : Bool} {A : Option Addr} {c : Nat} (b : Bool) (h : k36.K w x [.bool b0, .int .i64 x.f1, .slice A x.f2.length c]) : k36.K w ⟨b, x.f1, x.f2⟩ [.bool b, .int .i64 x.f1, .slice A x.f2.length c] := by
  obtain ⟨A2, c2, e, hl, hC⟩ := k36_open h
  injection e with _ e
  injection e with _ e
  injection e with e _
  injection e with e1 _ e2
  subst e1
  subst e2
  exact ⟨[.bool b], _, rfl, rfl, ⟨[.int .i64 x.f1], _, rfl, rfl, ⟨A, c, rfl, hl, hC⟩⟩⟩
theorem V.keep2 {w W : World} {a1 a2 : Addr} {v1 v2 : Value} (h1 : w.cell? a1 = some v1) (h2 : w.cell? a2 = some v2) (hb : Below w.heap.size w W) : W.cell? a1 = some v1 ∧ W.cell? a2 = some v2 :=
  ⟨(hb.cell (World.block_lt_of_cell? w _ h1)).trans h1, (hb.cell (World.block_lt_of_cell? w _ h2)).trans h2⟩
def V.Yes (w : World) (e : Ending) (w' : World) : Prop := e = .returned (.bool true) ∧ Below w.heap.size w w'
set_option maxHeartbeats 4000000 in
set_option maxRecDepth 100000 in
theorem V.none_ok (A0 : Option Addr) (c0 : Nat) (l : List S36) (m k2 : Int) (w : World) (hr0 : Kd.C k36 w A0 l.length l) (hc0 : l.length ≤ c0) (hm1 : m ≤ 9223372036854775807) (hl : l.length ≤ 210) (hf : stepladderlaw21_few.f (l.length + 1) l = some true) (hm : V.mayV l = true) (pp : List Int) (is : Bool) (hpp : V.prefZ (V.non l l.length) m k2 = (pp, is)) (his : (pp = [] ∧ is = false) ∨ (pp = [0] ∧ is = true)) :
    Calls Try.prog 8 #[.slice A0 l.length c0, .int .i64 m, .int .i64 k2] w (V.Yes w) := by
  have hmf := V.may_f l (by omega) 1001 (by omega)
  rw [hm] at hmf
  have haw := P.awake21 301 (by omega)
  have HR0 := Aside0.mk hr0
  have HC0 := Aside0.mk hc0
  have HF := Aside0.mk hf
  have HMF := Aside0.mk hmf
  have HAW := Aside0.mk haw
  have HM1 := Aside0.mk hm1
  have HPP := Aside0.mk hpp
  generalize hP : V.Yes w = Post
  clear hr0 hc0 hf hmf haw hm1 hpp
  go_enter Try.func8, Try.ntmps8
  go_wp2_with (first
    | (go_at_call 10; refine (stepladderlaw21_awake.calls 301 true _ HAW.out).mono ?_; rintro e w1 ⟨rfl, hb1⟩; have HB1 := Aside0.mk hb1; have HR1 := Aside0.mk (Kd.C_below HR0.out hb1); clear hb1)
    | (go_at_call 11; refine (stepladderlaw21_few.calls _ _ _ _ _ _ HR1.out HC0.out HF.out).mono ?_; rintro e w2 ⟨rfl, ⟨d1, rfl⟩⟩; have HB2 := Aside0.mk (pw_below_drewN HB1.out d1); have HR2 := Aside0.mk (Kd.C_drewN HR1.out d1))
    | (go_at_call 23; refine (velvet_May.calls 1001 _ _ _ _ _ HR2.out HC0.out HMF.out).mono ?_; rintro e w3 ⟨rfl, hb3⟩; have HB3 := Aside0.mk (below_then HB2.out HB2.out.size hb3); clear hb3)
    | fail)
  go_loopg [9, 10] l.length (fun kq v9 v10 W => ∃ i : Nat, v10 = .int .i64 i ∧ i ≤ l.length ∧ l.length - i ≤ kq ∧ Aside0 (V.SmoR w W v9 (V.non l i)) ∧ Aside0 (Below w.heap.size w W))
  case atStart => exact ⟨0, rfl, Nat.zero_le _, by omega, ⟨[], own_nil _ _ _ _, Reps.none _ _⟩, HB3⟩
  case round =>
    obtain ⟨i, rfl, hi, hg, HS, HB⟩ := hrel
    clear HB1 HB2 HR1 HR2 HB3
    by_cases hlt : i < l.length
    · have hltz : (i : Int) < (l.length : Int) := by omega
      have cb : decide ((i : Int) < (l.length : Int)) = true := decide_eq_true hltz
      have p0 : 0 ≤ (i : Int) := by omega
      obtain ⟨ad, A3, c3, e3, x0, x1, x2, hK⟩ := V.at36 HR0.out i (by omega)
      cases e3
      have hno := V.non_succ hlt
      have hnl := V.non_len (l := l) (i := i) (by omega)
      generalize l.getD i z36 = sx at x0 x1 x2 hK hno
      have HNO := Aside0.mk hno
      have HNL := Aside0.mk hnl
      have X1 := Aside0.mk x1
      have X2 := Aside0.mk x2
      have HK := Aside0.mk (V.K_up false hK)
      clear hno hnl x0 x1 x2 hK
      obtain ⟨inner, hown9, hreps⟩ := HS.out
      have HO9 := Aside0.mk hown9
      have HRP := Aside0.mk hreps
      clear hown9 hreps
      go_wp2_with fail
      go_region_held3 (fun w' => w'.cell? ⟨(ad.add (i * 3)).block, (ad.add (i * 3)).off + 1, none⟩ = some (.int .i64 sx.f1) ∧ w'.cell? ⟨(ad.add (i * 3)).block, (ad.add (i * 3)).off + 2, none⟩ = some (.slice A3 sx.f2.length c3)) (first | exact V.keep2 X1.out X2.out HB3.out | exact V.keep2 X1.out X2.out (below_drew HB.out) | exact V.keep2 X1.out X2.out (below_alloc (below_drew HB.out) _)) (first | (refine V.step_append (w0 := w) w.heap.size rfl (.tmp 36) (.tmp 48) 22 36 (.agg #[.bool false, .int .i64 0, .slice none 0 0]) 3 40 rfl Try.underlying22 (by rfl) rfl (by decide) (by decide) u9 (V.non l i).length inner [.bool false, .int .i64 sx.f1, .slice A3 sx.f2.length c3] _ rfl rfl (by exact blk_new _ _) rfl (by simp [Value.oneCell']) ((HO9.out.drew).alloc _) (below_alloc (below_drew HB.out) _) (by have := HB.out.size; simp; omega) (by have := HNL.out; omega) ?_; intro v9' w4 hown4 hb4 hg4; have HS3 := Aside0.mk hown4; have HB3 := Aside0.mk hb4; clear hown4 hb4 hg4) | fail)
      go_wp2
      go_roundg (l.length - (i + 1))
      case measure => omega
      case rel => exact ⟨i + 1, by go_num, by omega, by omega, ⟨by rw [HNO.out]; exact V.SmoR.snoc HRP.out HK.out HS3.out⟩, HB3⟩
    · have hltz : ¬ (i : Int) < (l.length : Int) := by omega
      have cb : decide ((i : Int) < (l.length : Int)) = false := decide_eq_false hltz
      obtain rfl : i = l.length := by omega
      clear hltz hlt hg hi
      have hm' : V.mayV (V.non l l.length) = true := by rw [V.non_may]; exact hm
      have hxl := V.non_len (l := l) (Nat.le_refl _)
      obtain ⟨A9, c9, e9, hle9, hC9⟩ := V.SmoR.reads HS.out HB.out
      rw [hxl] at e9
      subst e9
      have hth := P.thorny_f (V.non l l.length) (by omega) 1001 (by omega)
      rw [V.non_thorny] at hth
      have hsz : (V.smoothZ (V.non l l.length)).length = l.length := by rw [(V.smoothZ_len _).2 hm', hxl]
      have hsg := fun j hj => V.non_smooth hm j hj
      have h0l := (V.may_parts hm).1
      have HC9 := Aside0.mk hC9
      have HLE9 := Aside0.mk hle9
      have HTH := Aside0.mk hth
      have HSZ := Aside0.mk hsz
      have HSG := Aside0.mk hsg
      have HXL := Aside0.mk hxl
      clear hC9 hle9 hth hsz hsg hxl hm' HS
      generalize V.non l l.length = X at *
      have h0z : (0 : Int) < (l.length : Int) := by omega
      go_wp2_with (first
        | (go_at_call 16; refine calls_of_args (args' := #[.slice A9 X.length c9]) (by rw [HXL.out]) ?_; refine (V.smooth_calls A9 c9 X wr HC9.out HLE9.out (by rw [HXL.out]; omega)).mono ?_; rintro e w5 ⟨v5, rfl, hv5, hb5⟩; obtain ⟨A5, c5, e5, hle5, hC5⟩ := Kd.R_reads hv5; rw [HSZ.out] at e5 hle5 hC5; subst e5; obtain ⟨ad5, ea5, _⟩ := Kd.at_bool hC5 0 (by omega) h0z; subst ea5; have HC5 := Aside0.mk hC5; have HB5 := Aside0.mk (below_then HB.out HB.out.size hb5); have HX5 := Aside0.mk (Kd.C_below HC9.out hb5); clear hv5 hb5 hle5 hC5)
        | (go_at_call 20; refine calls_of_args (args' := #[.slice A9 X.length c9, .int .i64 m, .int .i64 k2]) (by rw [HXL.out]) ?_; refine (V.prefix_calls A9 c9 X m k2 w5 HX5.out HLE9.out (by rw [HXL.out]; omega) HM1.out).mono ?_; rintro e w6 ⟨v6, rfl, hv6, hb6⟩; rw [HPP.out] at hv6 ⊢; obtain ⟨A6, c6, e6, _, hC6⟩ := Kd.R_reads hv6; subst e6; have HV6 := Aside0.mk hC6; have HV6x := Aside0.mk hv6; have HB6 := Aside0.mk (below_then HB5.out HB5.out.size hb6); have HX6 := Aside0.mk (Kd.C_below HX5.out hb6); have HC6 := Aside0.mk (Kd.C_below HC5.out hb6); clear hv6 hb6 hC6)
        | fail)
      refine calls_of_args (args' := #[.slice A9 X.length c9]) (by rw [HXL.out]) ?_
      refine (velvet_Thorny.calls 1001 A9 c9 X [] w6 HX6.out HLE9.out HTH.out).mono ?_
      rintro e w7 ⟨v7, rfl, hv7, hb7⟩
      obtain ⟨A7, c7, e7, _, _⟩ := Kd.R_reads hv7
      replace e7 : v7 = .slice A7 0 c7 := e7
      subst e7
      have HB7 := Aside0.mk (below_then HB6.out HB6.out.size hb7)
      have hc7 := Kd.C_below HC6.out hb7
      have HP7 := Aside0.mk (Kd.C_below HV6.out hb7)
      obtain ⟨ad7, ea7, hx7⟩ := Kd.at_bool hc7 0 (by omega) h0z
      cases ea7
      have hs0 : rdOf false (V.smoothZ X) 0 = true := (HSG.out 0 h0l).trans (by decide)
      rw [hs0] at hx7
      replace hx7 : w7.cell? ad5 = some (.bool true) := by rw [Int.toNat_zero, Addr.add_zero'] at hx7; exact hx7
      have HC7 := Aside0.mk hc7
      clear hv7 hb7 hc7 hs0
      have hp0 : pp = [0] → ∃ ad, A6 = some ad ∧ w7.cell? ad = some (.int .i64 0) := fun e => by
        subst e
        obtain ⟨ad, e1, hx⟩ := Kd.at_int HP7.out 0 (by omega) (by decide)
        rw [Int.toNat_zero, Addr.add_zero'] at hx
        exact ⟨ad, e1, hx⟩
      have HP0 := Aside0.mk hp0
      clear hp0
      go_wp2
      go_loopg [14] l.length (fun kq v14 W => ∃ j : Nat, v14 = .int .i64 j ∧ 1 ≤ j ∧ j ≤ l.length ∧ l.length - j ≤ kq ∧ w7 = W)
      case atStart => exact ⟨1, rfl, by omega, by omega, by omega, rfl⟩
      case round =>
        obtain ⟨j, rfl, hj1, hj, hg, rfl⟩ := hrel
        by_cases hlt : j < l.length
        · have hltz : (j : Int) < (l.length : Int) := by omega
          have cb : decide ((j : Int) < (l.length : Int)) = true := decide_eq_true hltz
          have p0 : 0 ≤ (j : Int) := by omega
          obtain ⟨ad8, ea8, hx8⟩ := Kd.at_bool HC7.out (j : Int) p0 hltz
          cases ea8
          have hsj : rdOf false (V.smoothZ X) (j : Int) = false := by
            unfold rdOf
            rw [Int.toNat_natCast]
            exact (HSG.out j hlt).trans (decide_eq_false (by omega))
          rw [hsj, Int.toNat_natCast] at hx8
          clear hsj
          go_wp2
          go_roundg (l.length - (j + 1))
          case measure => omega
          case rel => exact ⟨j + 1, by go_num, by omega, by omega, by omega, rfl⟩
        · have hltz : ¬ (j : Int) < (l.length : Int) := by omega
          have cb : decide ((j : Int) < (l.length : Int)) = false := decide_eq_false hltz
          obtain rfl : j = l.length := by omega
          rcases his with ⟨rfl, rfl⟩ | ⟨rfl, rfl⟩
          · go_wp2
            subst hP
            exact ⟨rfl, HB7.out⟩
          · obtain ⟨adp, rfl, hxp⟩ := HP0.out rfl
            go_wp2
            subst hP
            exact ⟨rfl, HB7.out⟩

end Go.Proofs.Yteekdggainficaa.X
