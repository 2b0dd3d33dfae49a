/- Texts of these proofs, laid together by wip/tools/mergeb.py: VW, Xvelvetlevels, XvelvetMay, V4, V5, V6. -/
import Derived.Test.YteekdggainficaaMB2
import Derived.Test.YteekdggainficaaMB1
section
/- velvet.walk, whatever it calls: the walk. -/
namespace Go.Proofs.Yteekdggainficaa.X
open Go.RowKit Go.Shelf Go.Maps Go.Proofs.YteekdggainficaaW.PrintWords Go.Proofs.YteekdggainficaaW.PrintLast Go.Proofs.YteekdggainficaaW.PrintMore

/-- How a walk ends. -/
def V.Walked (l : List S36) (go : Nat → Bool) (J : Nat → World → Prop) (e : Ending) (w' : World) : Prop :=
  e = .returned (.tuple #[]) ∧ ∃ j, J j w' ∧ j ≤ l.length ∧ (j = l.length ∨ (0 < j ∧ go (j - 1) = false)) ∧ ∀ i, i + 1 < j → go i = true

set_option maxHeartbeats 2000000 in
theorem V.walk_calls (g : Nat) (lb : Array Value) (eg : ∀ args w, (callFunc g args).run Try.prog w = .ok (.enter g args) w)
    (A0 : Option Addr) (c0 : Nat) (l : List S36) (w0 w : World) (B : Nat) (hr0 : Kd.C k36 w0 A0 l.length l) (hc0 : l.length ≤ c0) (hmay : V.mayV l = true) (go : Nat → Bool)
    (J : Nat → World → Prop) (hJup : ∀ i W W', J i W → Below W.heap.size W W' → J i W') (hJmap : ∀ i W W' b es cl, w.heap.size ≤ b → J i W → W.heap[b]? = some (.map es cl) → W.grownBy W' (some b) → J i W')
    (hJw : ∀ i W, J i W → Below w0.heap.size w0 W ∧ B ≤ W.heap.size)
    (hcb : ∀ (i : Nat) (v : Value) (W : World), i < l.length → J i W → Kd.R (Kd.int .i64) 3 W B (fun _ => True) v (V.lnk l i) →
      Calls Try.prog g (#[.int .i64 i, v, .bool (V.sm l i)] ++ lb) W fun e W' => e = .returned (.bool (go i)) ∧ J (i + 1) W' ∧ V.Fr W W')
    (h0 : J 0 w) :
    Calls Try.prog 26 #[.slice A0 l.length c0, .func (.func g) #[] lb, .func (.func 28) #[] #[]] w (V.Walked l go J) := by
  have HR0 := Aside0.mk hr0
  have HC0 := Aside0.mk hc0
  have HJU := Aside0.mk hJup
  have HJM := Aside0.mk hJmap
  have HJW := Aside0.mk hJw
  have HCB := Aside0.mk hcb
  have HJ0 := Aside0.mk h0
  have hmm := @run_makeMap Try.prog
  have hlen := V.may_len hmay
  have hlevs := V.may_lev hmay
  have HLEV := Aside0.mk hlevs
  clear hlevs
  have hmade := World.ownsMap_made (H := Unit) w Try.prog 3 (plainElem Try.prog 3)
  have hk0 : keyOf Try.prog 3 (.int .i64 0) = some (.int .i64 0) := Maps.keyOf_int_mk (P := Try.prog) Try.underlying3 (WalkArith.wf_i64 (by omega))
  have hv0 : plainElem (H := Unit) Try.prog 3 (.int .i64 0) = some (.lit (.int .i64 0), []) := plainElem_int Try.underlying3 (WalkArith.wf_i64 (by omega))
  obtain ⟨w1, hrun, ho1, hg1⟩ := hmade.update (int_keyed Try.underlying3) (t := 56) (e := 3) Try.underlying56 (by decide) hk0 hv0
  have HMADE := Aside0.mk hmade
  have HO1 := Aside0.mk ho1
  have HG1 := Aside0.mk hg1
  generalize hP : V.Walked l go J = Post
  clear hr0 hc0 hJup hJmap hJw hcb h0 ho1 hg1 hmade hk0 hv0
  go_enter Try.func26, Try.ntmps26
  go_wp2
  go_step3
  go_wp2
  go_step3
  go_wp2
  have hread0 : V.Reads ((DataW.map []).put (.int .i64 0) (.lit (.int .i64 0))) (V.lnk l 0) := V.reads_start
  have HRS := Aside0.mk hread0
  clear hread0
  go_loopg [18] l.length (fun kq v18 W => ∃ i : Nat, v18 = .int .i64 i ∧ i ≤ l.length ∧ l.length - i ≤ kq ∧ Aside0 (J i W) ∧ Aside0 (Boxed W w1.heap.size 56 (.map (some w.heap.size))) ∧ Aside0 (∃ (D : DataW Unit) (n : Nat), V.Reads D (V.lnk l i) ∧ V.owns W w.heap.size n D ∧ n ≤ 1 + 40 * i) ∧ Aside0 (∀ j, j < i → go j = true))
  case atStart =>
    refine ⟨0, rfl, Nat.zero_le _, by omega, ⟨?_⟩, ⟨?_⟩, ⟨_, 1, HRS.out, HO1.out.alloc _, by omega⟩, ⟨fun j hj => absurd hj (Nat.not_lt_zero _)⟩⟩
    · obtain ⟨es, cl, hb0, _⟩ := HMADE.out
      exact HJU.out 0 w1 _ (HJM.out 0 _ w1 _ _ _ (Nat.le_refl _) (HJU.out 0 w _ HJ0.out (below_alloc (Below.refl _ _) _)) hb0 HG1.out) (below_alloc (Below.refl _ _) _)
    · exact Boxed.new w1 _ _
  case round =>
    obtain ⟨i, rfl, hi, hg, HJ, HBX, HOW, HGO⟩ := hrel
    by_cases hlt : i < l.length
    · have hltz : (i : Int) < (l.length : Int) := by omega
      have cb : decide ((i : Int) < (l.length : Int)) = true := decide_eq_true hltz
      obtain ⟨ad, A2, c2, e1, x0, x1, x2, hl2, hC2⟩ := at_T36 HR0.out i (by omega) hltz
      cases e1
      rw [Int.toNat_natCast] at x0 x1 x2
      have hbw := (HJW.out _ _ HJ.out).1
      replace x0 := (hbw.cell (World.block_lt_of_cell? w0 _ x0)).trans x0
      replace x1 := (hbw.cell (World.block_lt_of_cell? w0 _ x1)).trans x1
      replace x2 := (hbw.cell (World.block_lt_of_cell? w0 _ x2)).trans x2
      have hrd36 : rd_T36 l i = l.getD i z36 := by unfold rd_T36; rw [Int.toNat_natCast]
      have hsm0 : i ≠ 0 → V.sm l i = ((rd_T36 l i).f0 && decide ((rd_T36 l i).f2 = V.lnk l i)) := fun h => by unfold V.sm V.isB; rw [hrd36]; simp [h]
      have hnx : i ≠ 0 → V.sm l i = true → V.lnk l (i + 1) = V.upd (V.lnk l i) i (rd_T36 l i).f1 := fun h1 h2 => by rw [V.lnk_hit h1 h2, hrd36]
      have hlv : 0 ≤ (rd_T36 l i).f1 ∧ (rd_T36 l i).f1 ≤ 31 := by rw [hrd36]; exact V.lev_at HLEV.out hlt
      clear hrd36
      generalize hub : (rd_T36 l i).f0 = ub at *
      generalize hlvv : (rd_T36 l i).f1 = lv at *
      generalize hcl : (rd_T36 l i).f2 = cl at *
      clear hub hlvv hcl hbw
      have HSM := Aside0.mk hsm0
      have HNX := Aside0.mk hnx
      have HL2 := Aside0.mk hl2
      have HCL := Aside0.mk hC2
      clear hsm0 hnx hl2 hC2
      have hlk := V.lnk_len l (fun x hx => (HLEV.out x hx).2) i
      have HLK := Aside0.mk hlk
      have hl1 : Calls Try.prog 42 #[.pointer (some ⟨w1.heap.size, 0, none⟩)] (wr.alloc (.cells #[.bool ub, .int .i64 lv, .slice A2 cl.length c2] 36)) (V.Links1 (wr.alloc (.cells #[.bool ub, .int .i64 lv, .slice A2 cl.length c2] 36)) (V.lnk l i)) := by
        obtain ⟨D, n, hrd, hown, hn⟩ := HOW.out
        exact V.links1_calls (wr.alloc (.cells #[.bool ub, .int .i64 lv, .slice A2 cl.length c2] 36)) w1.heap.size w.heap.size n D (V.lnk l i) (HBX.out.alloc _) (hown.alloc _) hrd (by omega)
      have HL1 := Aside0.mk hl1
      have HJ1 := Aside0.mk (HJU.out i wr _ HJ.out (below_alloc (Below.refl _ _) (.cells #[.bool ub, .int .i64 lv, .slice A2 cl.length c2] 36)))
      have HBX1 := Aside0.mk (HBX.out.alloc (.cells #[.bool ub, .int .i64 lv, .slice A2 cl.length c2] 36))
      clear hl1 hlk
      have hcb2 := fun (v : Value) (w2 : World) (hv : Kd.R (Kd.int .i64) 3 w2 (wr.alloc (.cells #[.bool ub, .int .i64 lv, .slice A2 cl.length c2] 36)).heap.size (fun _ => True) v (V.lnk l i)) (hbv : Below (wr.alloc (.cells #[.bool ub, .int .i64 lv, .slice A2 cl.length c2] 36)).heap.size (wr.alloc (.cells #[.bool ub, .int .i64 lv, .slice A2 cl.length c2] 36)) w2) =>
        HCB.out i v w2 hlt (HJU.out i _ w2 HJ1.out hbv) (Kd.R_lower hv (by have := (HJW.out _ _ HJ1.out).2; exact this))
      have HC2 := Aside0.mk hcb2
      clear hcb2
      have HBW : Aside0 (∀ w2, Below (wr.alloc (.cells #[.bool ub, .int .i64 lv, .slice A2 cl.length c2] 36)).heap.size (wr.alloc (.cells #[.bool ub, .int .i64 lv, .slice A2 cl.length c2] 36)) w2 → Boxed w2 w1.heap.size 56 (.map (some w.heap.size))) := ⟨fun w2 hb => E.boxKept1 HBX1.out hb⟩
      have HOW2 : Aside0 (∀ w2, Below (wr.alloc (.cells #[.bool ub, .int .i64 lv, .slice A2 cl.length c2] 36)).heap.size (wr.alloc (.cells #[.bool ub, .int .i64 lv, .slice A2 cl.length c2] 36)) w2 → ∃ (D : DataW Unit) (n : Nat), V.Reads D (V.lnk l i) ∧ V.owns w2 w.heap.size n D ∧ n ≤ 1 + 40 * i) := ⟨fun w2 hb => by
        obtain ⟨D, n, hrd, hown, hn⟩ := HOW.out
        exact ⟨D, n, hrd, (hown.alloc _).kept (grown_of_below hb none) (by simp), hn⟩⟩
      by_cases hi0 : i = 0
      · have b0 : ((i : Int) == 0) = true := by simp [hi0]
        have hsm : V.sm l i = true := by rw [hi0]; rfl
        rw [hsm] at HC2
        have HI0 := Aside0.mk hi0
        clear hi0 hsm
        cases hgo : go i with
        | false =>
          rw [hgo] at HC2
          have HGOI := Aside0.mk hgo
          clear hgo
          go_wp2_with (first | (go_at_call 42; refine HL1.out.mono ?_; rintro e w2 ⟨v, rfl, hv, hbv⟩; obtain ⟨A3, k3, e3, hle3, hC3⟩ := Kd.R_reads hv; obtain ⟨q3, hq3⟩ : ∃ q, (V.lnk l i).length = q := ⟨_, rfl⟩; rw [hq3] at e3; subst e3; have hgb := blk_below (blk_new wr (.cells #[.bool ub, .int .i64 lv, .slice A2 cl.length c2] 36)) hbv; have g0 := blk_cell hgb 0; have g1 := blk_cell hgb 1; have g2 := blk_cell hgb 2; simp at g0 g1 g2; have HGB := Aside0.mk hgb; have HV := Aside0.mk hv; have HBV := Aside0.mk hbv; have HQ3 := Aside0.mk hq3; have HLE3 := Aside0.mk hle3; have HC3 := Aside0.mk hC3; have HJ2 := Aside0.mk (HJU.out i _ w2 HJ1.out hbv); clear hv hbv hgb hq3 hle3 hC3) | (go_at_fn g; refine (HC2.out _ _ HV.out HBV.out).mono ?_; rintro e w3 ⟨rfl, hJ3, hF3⟩; have HJ3 := Aside0.mk hJ3; have HF3 := Aside0.mk hF3; clear hJ3 hF3) | fail)
          rw [Exit.noGoto_normal]
          go_end0
          subst hP
          exact ⟨rfl, i + 1, HJ3.out, by omega, .inr ⟨by omega, by simpa using HGOI.out⟩, fun j hj => HGO.out j (by omega)⟩
        | true =>
          rw [hgo] at HC2
          have HGOI := Aside0.mk hgo
          clear hgo
          go_wp2_with (first | (go_at_call 42; refine HL1.out.mono ?_; rintro e w2 ⟨v, rfl, hv, hbv⟩; obtain ⟨A3, k3, e3, hle3, hC3⟩ := Kd.R_reads hv; obtain ⟨q3, hq3⟩ : ∃ q, (V.lnk l i).length = q := ⟨_, rfl⟩; rw [hq3] at e3; subst e3; have hgb := blk_below (blk_new wr (.cells #[.bool ub, .int .i64 lv, .slice A2 cl.length c2] 36)) hbv; have g0 := blk_cell hgb 0; have g1 := blk_cell hgb 1; have g2 := blk_cell hgb 2; simp at g0 g1 g2; have HGB := Aside0.mk hgb; have HV := Aside0.mk hv; have HBV := Aside0.mk hbv; have HQ3 := Aside0.mk hq3; have HLE3 := Aside0.mk hle3; have HC3 := Aside0.mk hC3; have HJ2 := Aside0.mk (HJU.out i _ w2 HJ1.out hbv); clear hv hbv hgb hq3 hle3 hC3) | (go_at_fn g; refine (HC2.out _ _ HV.out HBV.out).mono ?_; rintro e w3 ⟨rfl, hJ3, hF3⟩; have HJ3 := Aside0.mk hJ3; have HF3 := Aside0.mk hF3; clear hJ3 hF3) | fail)
          go_roundg (l.length - (i + 1))
          case measure => omega
          case rel =>
            refine ⟨i + 1, by go_num, by omega, by omega, HJ3, ⟨HF3.out.box (HBW.out _ HBV.out)⟩, ⟨?_⟩, ⟨fun j hj => ?_⟩⟩
            · obtain ⟨D, n, hrd, hown, hn⟩ := HOW2.out _ HBV.out
              refine ⟨D, n, ?_, HF3.out.owns hown, by omega⟩
              rw [V.lnk_skip (.inl HI0.out)]
              exact hrd
            · by_cases e : j = i
              · subst e; exact HGOI.out
              · exact HGO.out j (by omega)
      · have b0 : ((i : Int) == 0) = false := by simp [hi0]
        have HI0 := Aside0.mk hi0
        have hsm1 := HSM.out hi0
        cases ub with
        | false =>
          have hsm : V.sm l i = false := by rw [hsm1]; rfl
          have HSMF := Aside0.mk hsm
          rw [hsm] at HC2
          clear hi0 hsm hsm1
          cases hgo : go i with
          | false =>
            rw [hgo] at HC2
            have HGOI := Aside0.mk hgo
            clear hgo
            go_wp2_with (first | (go_at_call 42; refine HL1.out.mono ?_; rintro e w2 ⟨v, rfl, hv, hbv⟩; obtain ⟨A3, k3, e3, hle3, hC3⟩ := Kd.R_reads hv; obtain ⟨q3, hq3⟩ : ∃ q, (V.lnk l i).length = q := ⟨_, rfl⟩; rw [hq3] at e3; subst e3; have hgb := blk_below (blk_new wr (.cells #[.bool false, .int .i64 lv, .slice A2 cl.length c2] 36)) hbv; have g0 := blk_cell hgb 0; have g1 := blk_cell hgb 1; have g2 := blk_cell hgb 2; simp at g0 g1 g2; have HGB := Aside0.mk hgb; have HV := Aside0.mk hv; have HBV := Aside0.mk hbv; have HQ3 := Aside0.mk hq3; have HLE3 := Aside0.mk hle3; have HC3 := Aside0.mk hC3; have HJ2 := Aside0.mk (HJU.out i _ w2 HJ1.out hbv); clear hv hbv hgb hq3 hle3 hC3) | (go_at_fn g; refine (HC2.out _ _ HV.out HBV.out).mono ?_; rintro e w3 ⟨rfl, hJ3, hF3⟩; have HJ3 := Aside0.mk hJ3; have HF3 := Aside0.mk hF3; clear hJ3 hF3) | fail)
            rw [Exit.noGoto_normal]
            go_end0
            subst hP
            exact ⟨rfl, i + 1, HJ3.out, by omega, .inr ⟨by omega, by simpa using HGOI.out⟩, fun j hj => HGO.out j (by omega)⟩
          | true =>
            rw [hgo] at HC2
            have HGOI := Aside0.mk hgo
            clear hgo
            go_wp2_with (first | (go_at_call 42; refine HL1.out.mono ?_; rintro e w2 ⟨v, rfl, hv, hbv⟩; obtain ⟨A3, k3, e3, hle3, hC3⟩ := Kd.R_reads hv; obtain ⟨q3, hq3⟩ : ∃ q, (V.lnk l i).length = q := ⟨_, rfl⟩; rw [hq3] at e3; subst e3; have hgb := blk_below (blk_new wr (.cells #[.bool false, .int .i64 lv, .slice A2 cl.length c2] 36)) hbv; have g0 := blk_cell hgb 0; have g1 := blk_cell hgb 1; have g2 := blk_cell hgb 2; simp at g0 g1 g2; have HGB := Aside0.mk hgb; have HV := Aside0.mk hv; have HBV := Aside0.mk hbv; have HQ3 := Aside0.mk hq3; have HLE3 := Aside0.mk hle3; have HC3 := Aside0.mk hC3; have HJ2 := Aside0.mk (HJU.out i _ w2 HJ1.out hbv); clear hv hbv hgb hq3 hle3 hC3) | (go_at_fn g; refine (HC2.out _ _ HV.out HBV.out).mono ?_; rintro e w3 ⟨rfl, hJ3, hF3⟩; have HJ3 := Aside0.mk hJ3; have HF3 := Aside0.mk hF3; clear hJ3 hF3) | fail)
            go_roundg (l.length - (i + 1))
            case measure => omega
            case rel =>
              refine ⟨i + 1, by go_num, by omega, by omega, HJ3, ⟨HF3.out.box (HBW.out _ HBV.out)⟩, ⟨?_⟩, ⟨fun j hj => ?_⟩⟩
              · obtain ⟨D, n, hrd, hown, hn⟩ := HOW2.out _ HBV.out
                refine ⟨D, n, ?_, HF3.out.owns hown, by omega⟩
                rw [V.lnk_skip (.inr HSMF.out)]
                exact hrd
              · by_cases e : j = i
                · subst e; exact HGOI.out
                · exact HGO.out j (by omega)
        | true =>
          by_cases heq : cl = V.lnk l i
          · have heqd : decide (cl = V.lnk l i) = true := decide_eq_true heq
            have HEQ := Aside0.mk heqd
            have hsm : V.sm l i = true := by rw [hsm1, heqd]; rfl
            have HSMT := Aside0.mk hsm
            rw [hsm] at HC2
            clear hi0 hsm hsm1 heq heqd
            cases hgo : go i with
            | false =>
              rw [hgo] at HC2
              have HGOI := Aside0.mk hgo
              clear hgo
              go_wp2_with (first | (go_at_call 42; refine HL1.out.mono ?_; rintro e w2 ⟨v, rfl, hv, hbv⟩; obtain ⟨A3, k3, e3, hle3, hC3⟩ := Kd.R_reads hv; obtain ⟨q3, hq3⟩ : ∃ q, (V.lnk l i).length = q := ⟨_, rfl⟩; rw [hq3] at e3; subst e3; have hgb := blk_below (blk_new wr (.cells #[.bool true, .int .i64 lv, .slice A2 cl.length c2] 36)) hbv; have g0 := blk_cell hgb 0; have g1 := blk_cell hgb 1; have g2 := blk_cell hgb 2; simp at g0 g1 g2; have HGB := Aside0.mk hgb; have HV := Aside0.mk hv; have HBV := Aside0.mk hbv; have HQ3 := Aside0.mk hq3; have HLE3 := Aside0.mk hle3; have HC3 := Aside0.mk hC3; have HJ2 := Aside0.mk (HJU.out i _ w2 HJ1.out hbv); clear hv hbv hgb hq3 hle3 hC3) | (go_at_call 28; refine calls_of_args (args' := #[.slice A2 cl.length c2, .slice A3 (V.lnk l i).length k3]) (by first | (rw [HQ3.out] <;> rfl) | rfl) ?_; refine (slices_Equal_int_int.calls 2000 A2 c2 cl A3 k3 (V.lnk l i) true w2 (Kd.C_below HCL.out (HJW.out _ _ HJ2.out).1) HL2.out HC3.out HLE3.out (by rw [V.equal_f _ _ (by have := HLK.out; omega) 2000 (by have := HLK.out; omega), HEQ.out])).mono ?_; rintro e w' ⟨rfl, ⟨m, rfl⟩⟩) | (go_at_fn g; refine (HC2.out _ _ (Kd.R_drewN HV.out m) (pw_below_drewN HBV.out m)).mono ?_; rintro e w3 ⟨rfl, hJ3, hF3⟩; have HJ3 := Aside0.mk hJ3; have HF3 := Aside0.mk hF3; clear hJ3 hF3) | fail)
              rw [Exit.noGoto_normal]
              go_end0
              subst hP
              exact ⟨rfl, i + 1, HJ3.out, by omega, .inr ⟨by omega, by simpa using HGOI.out⟩, fun j hj => HGO.out j (by omega)⟩
            | true =>
              rw [hgo] at HC2
              have HGOI := Aside0.mk hgo
              clear hgo
              go_wp2_with (first | (go_at_call 42; refine HL1.out.mono ?_; rintro e w2 ⟨v, rfl, hv, hbv⟩; obtain ⟨A3, k3, e3, hle3, hC3⟩ := Kd.R_reads hv; obtain ⟨q3, hq3⟩ : ∃ q, (V.lnk l i).length = q := ⟨_, rfl⟩; rw [hq3] at e3; subst e3; have hgb := blk_below (blk_new wr (.cells #[.bool true, .int .i64 lv, .slice A2 cl.length c2] 36)) hbv; have g0 := blk_cell hgb 0; have g1 := blk_cell hgb 1; have g2 := blk_cell hgb 2; simp at g0 g1 g2; have HGB := Aside0.mk hgb; have HV := Aside0.mk hv; have HBV := Aside0.mk hbv; have HQ3 := Aside0.mk hq3; have HLE3 := Aside0.mk hle3; have HC3 := Aside0.mk hC3; have HJ2 := Aside0.mk (HJU.out i _ w2 HJ1.out hbv); clear hv hbv hgb hq3 hle3 hC3) | (go_at_call 28; refine calls_of_args (args' := #[.slice A2 cl.length c2, .slice A3 (V.lnk l i).length k3]) (by first | (rw [HQ3.out] <;> rfl) | rfl) ?_; refine (slices_Equal_int_int.calls 2000 A2 c2 cl A3 k3 (V.lnk l i) true w2 (Kd.C_below HCL.out (HJW.out _ _ HJ2.out).1) HL2.out HC3.out HLE3.out (by rw [V.equal_f _ _ (by have := HLK.out; omega) 2000 (by have := HLK.out; omega), HEQ.out])).mono ?_; rintro e w' ⟨rfl, ⟨m, rfl⟩⟩) | (go_at_fn g; refine (HC2.out _ _ (Kd.R_drewN HV.out m) (pw_below_drewN HBV.out m)).mono ?_; rintro e w3 ⟨rfl, hJ3, hF3⟩; have HJ3 := Aside0.mk hJ3; have HF3 := Aside0.mk hF3; clear hJ3 hF3) | fail)
              have HOX := HOW2
              clear HJ HOW HOW2 HBX HBX1 HL1 HC2 HCB HL2 HCL HEQ HJ1 HJ2 g0 g1 g2 cb x0 x1 x2
              have hbw3 := pw_below_drewN HBV.out m
              have HX3 := Aside0.mk (HF3.out.2 _ _ (blk_drewN HGB.out m) (.inr ⟨_, _, .inr rfl⟩))
              have HBX3 := Aside0.mk (HF3.out.box (HBW.out _ hbw3))
              have HST : Aside0 (∃ (D : DataW Unit) (k : Nat), V.Reads D (V.upd (V.lnk l i) i ((0 : Nat) : Int)) ∧ V.owns w3 w.heap.size k D ∧ k ≤ 1 + 40 * i + 0) := ⟨by
                obtain ⟨D, k, hrd, hown, hn⟩ := HOX.out _ hbw3
                exact ⟨D, k, by rw [show ((0 : Nat) : Int) = 0 from rfl, V.upd_zero]; exact hrd, HF3.out.owns hown, by omega⟩⟩
              clear hbw3 HF3 HV HBV HGB HBW HOX
              go_loopg [12] lv.toNat (fun kq v12 W => ∃ (n p : Nat), v12 = .int .i64 n ∧ n = p + 1 ∧ p ≤ lv.toNat ∧ lv.toNat - p ≤ kq ∧ Aside0 (J (i + 1) W) ∧ Aside0 (Boxed W w1.heap.size 56 (.map (some w.heap.size))) ∧ Aside0 (∃ (D : DataW Unit) (k : Nat), V.Reads D (V.upd (V.lnk l i) i (p : Int)) ∧ V.owns W w.heap.size k D ∧ k ≤ 1 + 40 * i + p) ∧ Aside0 (W.heap[wr.heap.size]? = some (.cells #[.bool true, .int .i64 lv, .slice A2 cl.length c2] 36 (0, 0))))
              case atStart => exact ⟨1, 0, rfl, rfl, by omega, by omega, HJ3, HBX3, HST, HX3⟩
              case round =>
                obtain ⟨n, p, rfl, hn, hp, hg2, HJ4, HBX4, HOW4, HX4⟩ := hrel
                clear HJ3 HBX3 HST HX3
                have g1 := blk_cell HX4.out 1
                simp at g1
                have m1 := HBX4.out.cell
                by_cases hle : (n : Int) ≤ lv
                · have cb : decide ((n : Int) ≤ lv) = true := decide_eq_true hle
                  obtain ⟨D, k, hrd4, hown4, hk4⟩ := HOW4.out
                  have hkey : keyOf Try.prog 3 (.int .i64 n) = some (.int .i64 n) := Maps.keyOf_int_mk (P := Try.prog) Try.underlying3 (WalkArith.wf_i64 (by omega))
                  have hval : plainElem (H := Unit) Try.prog 3 (.int .i64 i) = some (.lit (.int .i64 i), []) := plainElem_int Try.underlying3 (WalkArith.wf_i64 (by omega))
                  have hkl : k < maxLen := by unfold maxLen; omega
                  have HRD4 := Aside0.mk hrd4
                  have HOWN4 := Aside0.mk hown4
                  have HK := Aside0.mk hkey
                  have HVL := Aside0.mk hval
                  have HKL := Aside0.mk hkl
                  clear hrd4 hown4 hkey hval hkl
                  go_wp2_with (at_mapUpdate; refine wpList_mapUpdate_own _ rfl _ _ _ 56 rfl 3 3 (int_keyed Try.underlying3) Try.underlying56 (plainElem Try.prog 3) w.heap.size _ _ rfl HOWN4.out HKL.out _ _ _ rfl rfl HK.out _ [] HVL.out ?_; intro w5 hown5 hgrow5; have HO5 := Aside0.mk hown5; have HG5 := Aside0.mk hgrow5; clear hown5 hgrow5)
                  go_roundg (lv.toNat - (p + 1))
                  case measure => omega
                  case rel =>
                    refine ⟨n + 1, p + 1, by go_num, by omega, by omega, by omega, ⟨?_⟩, ⟨?_⟩, ⟨_, k + 1, ?_, HO5.out, by omega⟩, ⟨?_⟩⟩
                    · obtain ⟨es, cl5, hb5, _⟩ := HOWN4.out
                      exact HJM.out _ _ _ _ _ _ (Nat.le_refl _) HJ4.out hb5 HG5.out
                    · exact HBX4.out.kept HG5.out (fun e => V.box_ne HOWN4.out HBX4.out (Option.some.inj e))
                    · have := HRD4.out.put (n := n) (by rw [V.upd_len _ _ HLK.out.1]; omega) (i : Int)
                      rw [hn, V.put_upd _ HLK.out.1] at this
                      rw [hn]
                      exact this
                    · exact blk_grown HX4.out HG5.out (fun e => V.blk_ne_map HOWN4.out HX4.out (Option.some.inj e))
                · have cb : decide ((n : Int) ≤ lv) = false := decide_eq_false hle
                  go_wp2
                  go_roundg (l.length - (i + 1))
                  case measure => omega
                  case rel =>
                    refine ⟨i + 1, by go_num, by omega, by omega, HJ4, HBX4, ⟨?_⟩, ⟨fun j hj => ?_⟩⟩
                    · obtain ⟨D, k, hrd, hown, hn4⟩ := HOW4.out
                      refine ⟨D, k, ?_, hown, by omega⟩
                      rw [HNX.out HI0.out HSMT.out, show lv = (p : Int) by omega]
                      exact hrd
                    · by_cases e : j = i
                      · subst e; exact HGOI.out
                      · exact HGO.out j (by omega)
          · have heqd : decide (cl = V.lnk l i) = false := decide_eq_false heq
            have HEQ := Aside0.mk heqd
            have hsm : V.sm l i = false := by rw [hsm1, heqd]; rfl
            have HSMF := Aside0.mk hsm
            rw [hsm] at HC2
            clear hi0 hsm hsm1 heq heqd
            cases hgo : go i with
            | false =>
              rw [hgo] at HC2
              have HGOI := Aside0.mk hgo
              clear hgo
              go_wp2_with (first | (go_at_call 42; refine HL1.out.mono ?_; rintro e w2 ⟨v, rfl, hv, hbv⟩; obtain ⟨A3, k3, e3, hle3, hC3⟩ := Kd.R_reads hv; obtain ⟨q3, hq3⟩ : ∃ q, (V.lnk l i).length = q := ⟨_, rfl⟩; rw [hq3] at e3; subst e3; have hgb := blk_below (blk_new wr (.cells #[.bool true, .int .i64 lv, .slice A2 cl.length c2] 36)) hbv; have g0 := blk_cell hgb 0; have g1 := blk_cell hgb 1; have g2 := blk_cell hgb 2; simp at g0 g1 g2; have HGB := Aside0.mk hgb; have HV := Aside0.mk hv; have HBV := Aside0.mk hbv; have HQ3 := Aside0.mk hq3; have HLE3 := Aside0.mk hle3; have HC3 := Aside0.mk hC3; have HJ2 := Aside0.mk (HJU.out i _ w2 HJ1.out hbv); clear hv hbv hgb hq3 hle3 hC3) | (go_at_call 28; refine calls_of_args (args' := #[.slice A2 cl.length c2, .slice A3 (V.lnk l i).length k3]) (by first | (rw [HQ3.out] <;> rfl) | rfl) ?_; refine (slices_Equal_int_int.calls 2000 A2 c2 cl A3 k3 (V.lnk l i) false w2 (Kd.C_below HCL.out (HJW.out _ _ HJ2.out).1) HL2.out HC3.out HLE3.out (by rw [V.equal_f _ _ (by have := HLK.out; omega) 2000 (by have := HLK.out; omega), HEQ.out])).mono ?_; rintro e w' ⟨rfl, ⟨m, rfl⟩⟩) | (go_at_fn g; refine (HC2.out _ _ (Kd.R_drewN HV.out m) (pw_below_drewN HBV.out m)).mono ?_; rintro e w3 ⟨rfl, hJ3, hF3⟩; have HJ3 := Aside0.mk hJ3; have HF3 := Aside0.mk hF3; clear hJ3 hF3) | fail)
              rw [Exit.noGoto_normal]
              go_end0
              subst hP
              exact ⟨rfl, i + 1, HJ3.out, by omega, .inr ⟨by omega, by simpa using HGOI.out⟩, fun j hj => HGO.out j (by omega)⟩
            | true =>
              rw [hgo] at HC2
              have HGOI := Aside0.mk hgo
              clear hgo
              go_wp2_with (first | (go_at_call 42; refine HL1.out.mono ?_; rintro e w2 ⟨v, rfl, hv, hbv⟩; obtain ⟨A3, k3, e3, hle3, hC3⟩ := Kd.R_reads hv; obtain ⟨q3, hq3⟩ : ∃ q, (V.lnk l i).length = q := ⟨_, rfl⟩; rw [hq3] at e3; subst e3; have hgb := blk_below (blk_new wr (.cells #[.bool true, .int .i64 lv, .slice A2 cl.length c2] 36)) hbv; have g0 := blk_cell hgb 0; have g1 := blk_cell hgb 1; have g2 := blk_cell hgb 2; simp at g0 g1 g2; have HGB := Aside0.mk hgb; have HV := Aside0.mk hv; have HBV := Aside0.mk hbv; have HQ3 := Aside0.mk hq3; have HLE3 := Aside0.mk hle3; have HC3 := Aside0.mk hC3; have HJ2 := Aside0.mk (HJU.out i _ w2 HJ1.out hbv); clear hv hbv hgb hq3 hle3 hC3) | (go_at_call 28; refine calls_of_args (args' := #[.slice A2 cl.length c2, .slice A3 (V.lnk l i).length k3]) (by first | (rw [HQ3.out] <;> rfl) | rfl) ?_; refine (slices_Equal_int_int.calls 2000 A2 c2 cl A3 k3 (V.lnk l i) false w2 (Kd.C_below HCL.out (HJW.out _ _ HJ2.out).1) HL2.out HC3.out HLE3.out (by rw [V.equal_f _ _ (by have := HLK.out; omega) 2000 (by have := HLK.out; omega), HEQ.out])).mono ?_; rintro e w' ⟨rfl, ⟨m, rfl⟩⟩) | (go_at_fn g; refine (HC2.out _ _ (Kd.R_drewN HV.out m) (pw_below_drewN HBV.out m)).mono ?_; rintro e w3 ⟨rfl, hJ3, hF3⟩; have HJ3 := Aside0.mk hJ3; have HF3 := Aside0.mk hF3; clear hJ3 hF3) | fail)
              go_roundg (l.length - (i + 1))
              case measure => omega
              case rel =>
                refine ⟨i + 1, by go_num, by omega, by omega, HJ3, ⟨HF3.out.box (HBW.out _ (pw_below_drewN HBV.out m))⟩, ⟨?_⟩, ⟨fun j hj => ?_⟩⟩
                · obtain ⟨D, n, hrd, hown, hn⟩ := HOW2.out _ (pw_below_drewN HBV.out m)
                  refine ⟨D, n, ?_, HF3.out.owns hown, by omega⟩
                  rw [V.lnk_skip (.inr HSMF.out)]
                  exact hrd
                · by_cases e : j = i
                  · subst e; exact HGOI.out
                  · exact HGO.out j (by omega)
    · have hltz : ¬ (i : Int) < (l.length : Int) := by omega
      have cb : decide ((i : Int) < (l.length : Int)) = false := decide_eq_false hltz
      obtain rfl : i = l.length := by omega
      go_wp2
      go_end0
      subst hP
      exact ⟨rfl, l.length, HJ.out, Nat.le_refl _, .inl rfl, fun j hj => HGO.out j (by omega)⟩

end Go.Proofs.Yteekdggainficaa.X
end

section
-- By this session's own program (wip/tools/xprint.py), over the kit's print. Not trusted: Lean checks it.
namespace Go.Proofs.Yteekdggainficaa.X
open Go.RowKit Go.Proofs.YteekdggainficaaW.PrintWords Go.Proofs.YteekdggainficaaW.PrintLast Go.Proofs.YteekdggainficaaW.PrintMore
attribute [local go_sem] max2_int min2_int max_two min_two max_three min_three max_four min_four   -- for this text's walks alone
set_option linter.unusedVariables false
set_option linter.unusedSimpArgs false

/-! ### velvet_levels: function 31 -/
def velvet_levels.l0 : Nat → List Int → List (S36) → Int → Int → Option (List Int)
  | 0, _, _, _, _ => none
  | k + 1, x3, x6, x7, x8 => if x8 < x7 then (if 0 ≤ x8 then (if x8 < (x6.length : Int) then (if x3.length < 17592186044416 then (velvet_levels.l0 k (x3 ++ [(rd_T36 x6 x8).f1]) x6 x7 (wrap64 (x8 + 1))) else (none)) else (none)) else (none)) else (some x3)
def velvet_levels.f (k : Nat) (l0 : List (S36)) : Option (List Int) := velvet_levels.l0 k ([] : List Int) l0 (l0.length : Int) 0
theorem velvet_levels.mono_l : ∀ k, (∀ y0 y1 y2 y3, LeO (velvet_levels.l0 k y0 y1 y2 y3) (velvet_levels.l0 (k + 1) y0 y1 y2 y3))
  | 0 => fun _ _ _ _ r h => by simp [velvet_levels.l0] at h
  | k + 1 => by
    have ih0 := velvet_levels.mono_l k
    · intro y0 y1 y2 y3
      unfold velvet_levels.l0
      repeat' first
      | (with_reducible exact ih0 _ _ _ _)
      | (with_reducible exact LeO.refl _)
      | (with_reducible exact LeO.none _)
      | (with_reducible refine LeO.ite ?_ ?_)
      | (with_reducible refine LeO.bind ?_ (fun _ => ?_))
      | exact ih0 _ _ _ _
      | exact LeO.none _
      | refine LeO.ite ?_ ?_
      | refine LeO.bind ?_ (fun _ => ?_)
theorem velvet_levels.mono : ∀ a0 k, LeO (velvet_levels.f k a0) (velvet_levels.f (k + 1) a0) := by
  intro a0 k
  have ih0 := velvet_levels.mono_l k
  unfold velvet_levels.f
  repeat' first
      | (with_reducible exact ih0 _ _ _ _)
      | (with_reducible exact LeO.refl _)
      | (with_reducible exact LeO.none _)
      | (with_reducible refine LeO.ite ?_ ?_)
      | (with_reducible refine LeO.bind ?_ (fun _ => ?_))
      | exact ih0 _ _ _ _
      | exact LeO.none _
      | refine LeO.ite ?_ ?_
      | refine LeO.bind ?_ (fun _ => ?_)
set_option maxHeartbeats 8000000 in
set_option maxRecDepth 100000 in
theorem velvet_levels.calls (k : Nat) (A0 : Option Addr) (c0 : Nat) (l0 : List (S36)) (r : List Int) (w : World) (hr0 : Kd.C k36 w A0 l0.length l0) (hc0 : l0.length ≤ c0) (h : velvet_levels.f k l0 = some r) :
    Calls Try.prog 31 #[.slice A0 l0.length c0] w fun e w' => ∃ v0_ : Value, e = .returned (v0_) ∧ Kd.R (Kd.int .i64) 3 w' w.heap.size (fun _ => True) v0_ r ∧ Below w.heap.size w w' := by
  have hu36 := Try.underlying36
  have HR0 := Aside0.mk hr0
  have HC0 := Aside0.mk hc0
  clear hr0 hc0
  have HB := Aside0.mk (Below.refl w.heap.size w)
  have H : (velvet_levels.l0 k ([] : List Int) l0 (l0.length : Int) 0) = some r := h
  clear h
  have H' := Aside0.mk H
  clear H
  go_enter Try.func31, Try.ntmps31
  go_wp2
  go_loopg [3, 8] k (fun kq v3 v8 w' => ∃ (x3_1 : List Int) (x8_1 : Int), v8 = .int .i64 x8_1 ∧ Aside0 (velvet_levels.l0 kq x3_1 l0 (l0.length : Int) x8_1 = some r) ∧ Aside0 (kq ≤ k) ∧ Aside0 (Kd.R (Kd.int .i64) 3 w' w.heap.size (fun _ => True) v3 x3_1) ∧ Aside0 (Below w.heap.size w w'))
  case atStart => exact ⟨(([] : List Int)), (0), (by first | rfl | (simp; done) | (simp [*]; done)), H', ⟨Nat.le_refl _⟩, ⟨by first | exact Kd.R_nil _ _ _ _ _ | exact Kd.N_nil _ _ _ _ _ | exact Kd.V_nil _ _ _ _ _ | exact Kd.Q_nil _ _ _ _ _ | exact Kd.S_nil _ _ _ _ _⟩, ⟨by repeat (first | (with_reducible first | exact HB.out | apply below_alloc | apply pw_below_drewN | apply below_drew1) | exact HB.out)⟩⟩
  case round =>
    clear H'
    obtain ⟨x3_1, x8_1, rfl, HA, HK1, HO_3, HB⟩ := hrel
    cases gk with
    | zero => exact absurd HA.out (by simp [velvet_levels.l0])
    | succ k1 =>
      have H := HA.out
      clear HA
      simp only [velvet_levels.l0] at H
      by_cases c2 : x8_1 < (l0.length : Int)
      · rw [if_pos c2] at H
        have c2b0 : decide (x8_1 < (l0.length : Int)) = true := decide_eq_true c2
        clear c2
        by_cases c3 : 0 ≤ x8_1
        · rw [if_pos c3] at H
          have c3b0 : decide (0 ≤ x8_1) = true := decide_eq_true c3
          clear c3
          by_cases c4 : x8_1 < (l0.length : Int)
          · rw [if_pos c4] at H
            have c4b0 : decide (x8_1 < (l0.length : Int)) = true := decide_eq_true c4
            clear c4
            by_cases c5 : x3_1.length < 17592186044416
            · rw [if_pos c5] at H
              have LMc5 := Aside0.mk c5
              clear c5
              obtain ⟨y111, hy111⟩ : ∃ y_ : List Int, y_ = (x3_1 ++ [(rd_T36 l0 x8_1).f1]) := ⟨_, rfl⟩
              replace H : (velvet_levels.l0 k1 y111 l0 (l0.length : Int) (wrap64 (x8_1 + 1))) = some r := by first | (rw [hy111]; with_reducible exact H) | (have H2_ := (Option.bind_some _ _).symm.trans H; rw [hy111]; with_reducible exact H2_) | (have H2_ := (Option.bind_some _ _).symm.trans H; with_reducible exact H2_) | with_reducible exact H | (rw [hy111]; exact H) | exact H
              have Ny111 := Aside0.mk hy111
              clear hy111
              have H' := Aside0.mk H
              clear H
              have p109 : 0 ≤ (x8_1 : Int) := of_decide_eq_true (by first | (with_reducible assumption) | assumption)
              have q109 : x8_1 < (l0.length : Int) := of_decide_eq_true (by first | (with_reducible assumption) | assumption)
              obtain ⟨ad109, A109_2, c109_2, e109, hx109_0, hx109_1, hx109_2, hl109_2, hi109_2⟩ := at_T36 HR0.out x8_1 p109 q109
              cases e109
              replace hx109_0 := (HB.out.cell (World.block_lt_of_cell? w _ hx109_0)).trans hx109_0
              replace hx109_1 := (HB.out.cell (World.block_lt_of_cell? w _ hx109_1)).trans hx109_1
              replace hx109_2 := (HB.out.cell (World.block_lt_of_cell? w _ hx109_2)).trans hx109_2
              have HR109_2 := Aside0.mk hi109_2
              have HC109_2 := Aside0.mk hl109_2
              clear hi109_2 hl109_2
              replace p109 := eq_true p109
              replace q109 := eq_true q109
              go_wp2_with (first | ((with_reducible refine gate_dst (N := 5) rfl ?_); refine box_event ?hg (N := 5) ?hd (cs := #[.bool false, .int .i64 0, .slice none 0 0]) (t := 36) ?hr ?_; (case hd => rfl); (case hg => rfl); (case hr => first | (go_simp; done) | (go_simp; rfl)); intro gb110 hg w6 hbox hb; have n0_ := Aside0.mk (Kd.R_below (by (with_reducible repeat (first | apply Kd.R_alloc | apply Kd.R_drewN | apply Kd.R_drew)); exact HO_3.out) hb); have n1_ := Aside0.mk (below_step (by repeat (first | (with_reducible first | exact HB.out | apply below_alloc | apply pw_below_drewN | apply below_drew1) | exact HB.out)) hb); have n2_ := Aside0.mk (hbox); have n3_ := Aside0.mk ((by rw [hg]; exact (below_size (by repeat (first | (with_reducible first | exact HB.out | apply below_alloc | apply pw_below_drewN | apply below_drew1) | exact HB.out))) : w.heap.size ≤ gb110)); have n4_ := Aside0.mk ((by rw [hg]; exact (below_size (by repeat (first | (with_reducible first | exact HB.out | apply below_alloc | apply pw_below_drewN | apply below_drew1) | exact HB.out))) : w.heap.size ≤ gb110)); clear HO_3; clear HB; have HO_3 := n0_; have HB := n1_; have BK110 := n2_; have GW110 := n3_; have GE110 := n4_; clear n0_ n1_ n2_ n3_ n4_; clear hb hbox hg; have hcz7_0 : w6.cell? ⟨gb110, 0, none⟩ = some (.bool false) := (blk_cell BK110.out 0).trans rfl; have hcz7_1 : w6.cell? ⟨gb110, 1, none⟩ = some (.int .i64 0) := (blk_cell BK110.out 1).trans rfl; have hcz7_2 : w6.cell? ⟨gb110, 2, none⟩ = some (.slice none 0 0) := (blk_cell BK110.out 2).trans rfl; have hfz7_0 := blk_frozen BK110.out 0; have hfz7_1 := blk_frozen BK110.out 1; have hfz7_2 := blk_frozen BK110.out 2) | ((with_reducible refine gate_builtin (b := .append) (xs := #[.tmp 12, .tmp 15]) rfl ?_); at_builtin; refine Kd.R_append (Kd.int .i64) (w0 := w) w.heap.size rfl (.tmp 12) (.tmp 15) 26 3 (.int .i64 0) 8 rfl Try.underlying26 info3 rfl (by decide) (by omega) u3 x3_1 ((rd_T36 l0 x8_1).f1) [.int .i64 ((rd_T36 l0 x8_1).f1)] (fun _ => True) (fun _ => False) rfl (by first | (go_simp; done) | (go_simp; rfl)) ?aP (fun _ hk => hk.elim) ?aF ?aO ?aB ?aS ?aL ?_; (case aP => exact rfl); (case aB => exact (by repeat (first | (with_reducible first | exact HB.out | apply below_alloc | apply pw_below_drewN | apply below_drew1 | refine below_set ?_ GE110.out) | exact HB.out))); (case aF => exact (fun _ _ => trivial)); (case aO => exact (by (with_reducible repeat (first | apply Kd.R_alloc | apply Kd.R_drewN | apply Kd.R_drew)); exact Kd.R_mono (Kd.R_far (p := ⟨gb110, 2, none⟩) (Kd.R_far (p := ⟨gb110, 1, none⟩) (Kd.R_far (p := ⟨gb110, 0, none⟩) (Kd.R_types HO_3.out BK110.out (by decide)) (fun _ hk => hk.2) (.bool ((rd_T36 l0 x8_1).f0))) (fun _ hk => hk.2) (.int .i64 ((rd_T36 l0 x8_1).f1))) (fun _ hk => hk.2) (.slice A109_2 ((rd_T36 l0 x8_1).f2).length c109_2)) (fun _ hk => trivial))); (case aS => exact (below_size (by repeat (first | (with_reducible first | exact HB.out | apply below_alloc | apply pw_below_drewN | apply below_drew1 | refine below_set ?_ GE110.out) | exact HB.out)))); (case aL => have := LMc5.out; omega); intro v112 w8 ho hb hg hat; rw [← Ny111.out] at ho; have n0_ := Aside0.mk (blk_grown (g := gb110) (o := .cells #[.bool ((rd_T36 l0 x8_1).f0), .int .i64 ((rd_T36 l0 x8_1).f1), .slice A109_2 ((rd_T36 l0 x8_1).f2).length c109_2] 36 (0, 0)) (by (with_reducible repeat (first | refine blk_drewN ?_ _ | refine blk_drew ?_ | refine blk_alloc ?_ _)); refine blk_put (cs := #[.bool ((rd_T36 l0 x8_1).f0), .int .i64 ((rd_T36 l0 x8_1).f1), .slice none 0 0]) ?_ 2 _ rfl; (with_reducible repeat (first | refine blk_drewN ?_ _ | refine blk_drew ?_ | refine blk_alloc ?_ _)); refine blk_put (cs := #[.bool ((rd_T36 l0 x8_1).f0), .int .i64 0, .slice none 0 0]) ?_ 1 _ rfl; (with_reducible repeat (first | refine blk_drewN ?_ _ | refine blk_drew ?_ | refine blk_alloc ?_ _)); refine blk_put (cs := #[.bool false, .int .i64 0, .slice none 0 0]) ?_ 0 _ rfl; (with_reducible repeat (first | refine blk_drewN ?_ _ | refine blk_drew ?_ | refine blk_alloc ?_ _)); exact BK110.out) hg (Kd.R_ne HO_3.out BK110.out (by decide))); have n1_ := Aside0.mk (hb); have n2_ := Aside0.mk (ho); clear BK110; clear HB; clear HO_3; have BK110 := n0_; have HB := n1_; have HO113 := n2_; clear n0_ n1_ n2_; clear ho hb hg hat))
              go_roundg k1
              case measure => have := HK1.out; omega
              case rel => exact ⟨(y111), (wrap64 (x8_1 + 1)), (by first | rfl | (simp; done) | (simp [*]; done)), H', ⟨by have := HK1.out; omega⟩, ⟨by (with_reducible repeat (first | apply Kd.R_alloc | apply Kd.R_drewN | apply Kd.R_drew)); exact HO113.out⟩, ⟨by repeat (first | (with_reducible first | exact HB.out | apply below_alloc | apply pw_below_drewN | apply below_drew1 | refine below_set ?_ GE110.out) | exact HB.out)⟩⟩
            · rw [if_neg c5] at H
              exact absurd H (by simp)
          · rw [if_neg c4] at H
            exact absurd H (by simp)
        · rw [if_neg c3] at H
          exact absurd H (by simp)
      · rw [if_neg c2] at H
        have c2b0 : decide (x8_1 < (l0.length : Int)) = false := decide_eq_false c2
        clear c2
        obtain rfl := Option.some.inj H
        go_wp2
        go_ret
        exact ⟨_, by first | rfl | (simp [errW_none, errW_some] <;> rfl) | (simp [*, errW_none, errW_some] <;> rfl), by (with_reducible repeat (first | apply Kd.R_alloc | apply Kd.R_drewN | apply Kd.R_drew)); exact HO_3.out, by repeat (first | (with_reducible first | exact HB.out | apply below_alloc | apply pw_below_drewN | apply below_drew1) | exact HB.out)⟩

end Go.Proofs.Yteekdggainficaa.X
end

section
-- By this session's own program (wip/tools/xprint.py), over the kit's print. Not trusted: Lean checks it.
namespace Go.Proofs.Yteekdggainficaa.X
open Go.RowKit Go.Proofs.YteekdggainficaaW.PrintWords Go.Proofs.YteekdggainficaaW.PrintLast Go.Proofs.YteekdggainficaaW.PrintMore
attribute [local go_sem] max2_int min2_int max_two min_two max_three min_three max_four min_four   -- for this text's walks alone
set_option linter.unusedVariables false
set_option linter.unusedSimpArgs false

/-! ### velvet_May: function 23 -/
def velvet_May.f (k : Nat) (l0 : List (S36)) : Option (Bool) := (velvet_levels.f k l0).bind fun t114 => ((super_May.f t114).bind fun t117 => (some t117))
theorem velvet_May.mono : ∀ a0 k, LeO (velvet_May.f k a0) (velvet_May.f (k + 1) a0) := by
  intro a0 k
  unfold velvet_May.f
  repeat' first
      | (with_reducible exact velvet_levels.mono _ _)
      | (with_reducible exact LeO.refl _)
      | (with_reducible exact LeO.none _)
      | (with_reducible refine LeO.ite ?_ ?_)
      | (with_reducible refine LeO.bind ?_ (fun _ => ?_))
      | exact velvet_levels.mono _ _
      | exact LeO.none _
      | refine LeO.ite ?_ ?_
      | refine LeO.bind ?_ (fun _ => ?_)
set_option maxHeartbeats 8000000 in
set_option maxRecDepth 100000 in
theorem velvet_May.calls (k : Nat) (A0 : Option Addr) (c0 : Nat) (l0 : List (S36)) (r : Bool) (w : World) (hr0 : Kd.C k36 w A0 l0.length l0) (hc0 : l0.length ≤ c0) (h : velvet_May.f k l0 = some r) :
    Calls Try.prog 23 #[.slice A0 l0.length c0] w fun e w' => e = .returned (.bool r) ∧ Below w.heap.size w w' := by
  have HR0 := Aside0.mk hr0
  have HC0 := Aside0.mk hc0
  clear hr0 hc0
  have HB := Aside0.mk (Below.refl w.heap.size w)
  have H : ((velvet_levels.f k l0).bind fun t114 => ((super_May.f t114).bind fun t117 => (some t117))) = some r := h
  clear h
  replace H := Option.bind_eq_some_iff.mp H
  obtain ⟨t114, A20, H⟩ := H
  replace H : ((super_May.f t114).bind fun t117 => (some t117)) = some r := H
  have A2 := Aside0.mk A20
  clear A20
  replace H := Option.bind_eq_some_iff.mp H
  obtain ⟨t117, A30, H⟩ := H
  replace H : (some t117) = some r := H
  have A3 := Aside0.mk A30
  clear A30
  obtain rfl := Option.some.inj H
  go_enter Try.func23, Try.ntmps23
  go_wp2_with (first | ((with_reducible refine gate_callee (f := 31) rfl ?_); refine goesL_ (some 4) rfl rfl Try.func31 (by kernel_rfl) rfl #[.slice A0 l0.length c0] rfl (by (try simp only [List.map_toArray, List.map_cons, List.map_nil]); first | done | rfl | (simp only [List.length_drop, List.length_take]; rfl)) ?_; (with_reducible refine (velvet_levels.calls k _ _ l0 t114 _ ?side1 ?side2 A2.out).mono ?_); (case side1 => repeat (first | exact HR0.out | (with_reducible refine Kd.C_alloc ?_ _) | (with_reducible refine Kd.C_drewN ?_ _) | (with_reducible refine Kd.C_drew ?_))); (case side2 => exact HC0.out); rintro e w4 ⟨v115, rfl, ho0, hb⟩; refine ⟨_, rfl, ?_⟩; have n0_ := Aside0.mk (Kd.R_lower ho0 (below_size (by repeat (first | (with_reducible first | exact HB.out | apply below_alloc | apply pw_below_drewN | apply below_drew1) | exact HB.out)))); have n1_ := Aside0.mk (below_step (by repeat (first | (with_reducible first | exact HB.out | apply below_alloc | apply pw_below_drewN | apply below_drew1) | exact HB.out)) hb); clear HB; have HO116 := n0_; have HB := n1_; clear n0_ n1_; (try clear hb); (try clear hb2); (try clear hk); (try clear hi); (try clear ho0); obtain ⟨Ao5, co5, eo5⟩ := Kd.R_slice HO116.out; subst eo5) | ((with_reducible refine gate_callee (f := 24) rfl ?_); refine goesL_ (some 5) rfl rfl Try.func24 (by kernel_rfl) rfl #[.slice Ao5 t114.length co5] rfl (by (try simp only [List.map_toArray, List.map_cons, List.map_nil]); first | done | rfl | (simp only [List.length_drop, List.length_take]; rfl)) ?_; (with_reducible refine (super_May.calls _ _ t114 t117 _ ?side1 ?side2 A3.out).mono ?_); (case side1 => repeat (first | exact (Kd.R_reads' HO116.out).2.2 | (with_reducible refine Kd.C_alloc ?_ _) | (with_reducible refine Kd.C_drewN ?_ _) | (with_reducible refine Kd.C_drew ?_))); (case side2 => exact (Kd.R_reads' HO116.out).2.1); rintro e w' ⟨rfl, ⟨nd, rfl⟩⟩; refine ⟨_, rfl, ?_⟩))
  go_ret
  exact ⟨by first | rfl | (simp [errW_none, errW_some] <;> rfl) | (simp [*, errW_none, errW_some] <;> rfl), by repeat (first | (with_reducible first | exact HB.out | apply below_alloc | apply pw_below_drewN | apply below_drew1) | exact HB.out)⟩

end Go.Proofs.Yteekdggainficaa.X
end

section
/- velvet.May, velvet.Smooth and velvet.Links. -/
namespace Go.Proofs.Yteekdggainficaa.X
open Go.RowKit Go.Shelf Go.Maps Go.Proofs.YteekdggainficaaW.PrintWords Go.Proofs.YteekdggainficaaW.PrintLast Go.Proofs.YteekdggainficaaW.PrintMore

theorem V.levels_l0 (l : List S36) (hl : l.length ≤ 1000) (d : Nat) : ∀ (k i : Nat), l.length - i = d → i ≤ l.length → d < k → velvet_levels.l0 k ((V.lev l).take i) l l.length i = some (V.lev l) := by
  have hll : (V.lev l).length = l.length := by unfold V.lev; rw [List.length_map]
  induction d with
  | zero =>
    intro k i hd hi hk
    obtain ⟨k, rfl⟩ : ∃ m, k = m + 1 := ⟨k - 1, by omega⟩
    simp only [velvet_levels.l0]
    rw [if_neg (by omega), List.take_of_length_le (by omega)]
  | succ d ih =>
    intro k i hd hi hk
    obtain ⟨k, rfl⟩ : ∃ m, k = m + 1 := ⟨k - 1, by omega⟩
    have h1 : i < l.length := by omega
    have e1 : (rd_T36 l (i : Int)).f1 = (V.lev l)[i]'(by omega) := by
      unfold rd_T36 V.lev
      rw [List.getD_eq_getElem?_getD, Int.toNat_natCast, List.getElem?_eq_getElem h1, List.getElem_map]
      rfl
    simp only [velvet_levels.l0]
    rw [if_pos (by omega), if_pos (by omega), if_pos (by omega), if_pos (by rw [List.length_take]; omega), e1, ← List.take_succ_eq_append_getElem (by omega), show wrap64 ((i : Int) + 1) = ((i + 1 : Nat) : Int) from by rw [E.wrap_id (by omega) (by omega)]; omega]
    exact ih k (i + 1) (by omega) (by omega) (by omega)
theorem V.levels_f (l : List S36) (hl : l.length ≤ 1000) (k : Nat) (hk : l.length < k) : velvet_levels.f k l = some (V.lev l) := by
  have := V.levels_l0 l hl l.length k 0 (by omega) (by omega) hk
  exact this
theorem V.may_f (l : List S36) (hl : l.length ≤ 1000) (k : Nat) (hk : l.length < k) : velvet_May.f k l = some (V.mayV l) := by
  unfold velvet_May.f
  rw [V.levels_f l hl k hk]
  rfl

theorem V.R_map {α : Type} {d : Kd α} {e base : Nat} {ok : Nat → Prop} {v : Value} {xs : List α} {W W' : World} {b : Nat} {es : Array MapEntry} {cl : Nat} (h : d.R e W base ok v xs) (hb : W.heap[b]? = some (.map es cl)) (hg : W.grownBy W' (some b)) : d.R e W' base ok v xs :=
  Kd.R_mono (Kd.R_move (Kd.R_bound h) (fun k hk => hg.block k hk.2.2.1 (fun e => by cases e; obtain ⟨_, _, _, q, _, cells, hc⟩ := hk; rw [hb] at hc; cases hc))) (fun _ hk => hk.1)
theorem V.blk_map {W W' : World} {b g : Nat} {es : Array MapEntry} {cl : Nat} {cs : Array Value} {t : TypeId} {fr : Nat × Nat} (h : W.heap[g]? = some (.cells cs t fr)) (hb : W.heap[b]? = some (.map es cl)) (hg : W.grownBy W' (some b)) : W'.heap[g]? = some (.cells cs t fr) :=
  blk_grown h hg (fun e => by cases e; rw [hb] at h; cases h)
theorem V.Fr.of_grown {α : Type} {d : Kd α} {e base : Nat} {ok : Nat → Prop} {v : Value} {xs : List α} {W W' : World} (h : d.R e W base ok v xs) (h1 : e ≠ 56) (h2 : e ≠ 36) (hg : W.grownBy W' v.ownBlock) : V.Fr W W' := by
  refine ⟨hg.size, fun k o hk hc => (hg.block k (blk_lt hk) fun e' => ?_).trans hk⟩
  obtain ⟨inner, ho⟩ := Kd.R_own h
  obtain ⟨cells, hcc⟩ := own_typed ho k e'.symm
  rw [hk] at hcc
  rcases hc with ⟨es, cl, rfl⟩ | ⟨cs, fr, rfl | rfl⟩
  · cases hcc
  · cases hcc; exact h1 rfl
  · cases hcc; exact h2 rfl
theorem V.Fr.set {W W' : World} (h : V.Fr W W') {b : Nat} {cs : Array Value} {t : TypeId} {fr : Nat × Nat} (hb : W'.heap[b]? = some (.cells cs t fr)) (h1 : t ≠ 56) (h2 : t ≠ 36) (u : Value) : V.Fr W (W'.setCell ⟨b, 0, none⟩ u) := by
  refine ⟨by simpa using h.1, fun k o hk hc => ?_⟩
  have hk2 := h.2 k o hk hc
  refine (Below.heap_setCell W' ⟨b, 0, none⟩ u k ?_).trans hk2
  intro e'
  rw [show k = b from e', hb] at hk2
  cases hk2
  rcases hc with ⟨es, cl, e⟩ | ⟨cs, fr, e | e⟩
  · cases e
  · cases e; exact h1 rfl
  · cases e; exact h2 rfl

/-! ### velvet.Smooth -/
/-- What stands while Smooth walks. -/
def V.SmJ (l : List S36) (w0 : World) (bx i : Nat) (W : World) : Prop :=
  ∃ v : Value, W.heap[bx]? = some (.cells #[v] 29 (0, 0)) ∧ Kd.R Kd.bool 4 W w0.heap.size (fun _ => True) v ((List.range i).map (V.sm l)) ∧ Below w0.heap.size w0 W ∧ w0.heap.size ≤ bx
def V.Sm1 (l : List S36) (w0 : World) (bx i : Nat) (W : World) (e : Ending) (W' : World) : Prop := e = .returned (.bool true) ∧ V.SmJ l w0 bx (i + 1) W' ∧ V.Fr W W'
set_option maxHeartbeats 1000000 in
theorem V.smooth1_calls (l : List S36) (w0 W : World) (bx i : Nat) (u : Value) (hi : i < 1000) (hJ : V.SmJ l w0 bx i W) :
    Calls Try.prog 30 #[.int .i64 i, u, .bool (V.sm l i), .pointer (some ⟨bx, 0, none⟩)] W (V.Sm1 l w0 bx i W) := by
  obtain ⟨v, hb, hR, hB, hw⟩ := hJ
  have hlen : ((List.range i).map (V.sm l)).length = i := by simp
  have hsn : (List.range (i + 1)).map (V.sm l) = (List.range i).map (V.sm l) ++ [V.sm l i] := by rw [List.range_succ, List.map_append]; rfl
  have c0 := blk_cell hb 0
  simp at c0
  have hlt := blk_lt hb
  have HSN := Aside0.mk hsn
  have HBK := Aside0.mk hb
  have HR0 := Aside0.mk (Kd.R_mono (Kd.R_types hR hb (by decide)) (fun k hk => hk.2))
  have HB := Aside0.mk hB
  clear hb hR hB hsn
  generalize hP : V.Sm1 l w0 bx i W = Post
  generalize (List.range i).map (V.sm l) = xs at *
  generalize V.sm l i = s at *
  go_enter Try.func30, Try.ntmps30
  go_wp2_with (first | ((with_reducible refine gate_builtin (b := .append) (xs := #[.tmp 8, .tmp 10]) rfl ?_); at_builtin; refine Kd.R_append Kd.bool (w0 := w0) w0.heap.size rfl (.tmp 8) (.tmp 10) 29 4 (.bool false) 1 rfl Try.underlying29 info4 rfl (by decide) (by omega) v xs s [.bool s] (fun k => k ≠ bx) (fun _ => False) rfl rfl ?aP (fun _ hk => hk.elim) ?aF ?aO ?aB ?aS ?aL ?_; (case aP => exact rfl); (case aF => exact (fun k hk => by omega)); (case aO => exact HR0.out); (case aB => exact HB.out); (case aS => exact HB.out.size); (case aL => omega); intro v1 w1 ho hb1 hg1 hat1; obtain ⟨A1, k1, e1, _, _⟩ := Kd.R_reads ho; obtain ⟨q, hq⟩ : ∃ q, (xs ++ [s]).length = q := ⟨_, rfl⟩; rw [hq] at e1; subst e1; have hne : some bx ≠ v.ownBlock := fun e => HR0.out.1 bx e.symm rfl; have hbk1 := blk_grown HBK.out hg1 hne; have f3 := blk_frozen hbk1 0; have d3 := blk_cell hbk1 0; have HO := Aside0.mk ho; have HB1 := Aside0.mk hb1; have HK := Aside0.mk hbk1; have HF := Aside0.mk (V.Fr.of_grown HR0.out (by decide) (by decide) hg1); simp at d3; clear ho hb1 hg1 hat1 hbk1) | fail)
  subst hP
  refine ⟨rfl, ⟨.slice A1 q k1, ?_, ?_, ?_, hw⟩, ?_⟩
  · exact blk_put HK.out 0 (.slice A1 q k1) rfl
  · rw [HSN.out]
    exact Kd.R_mono (Kd.R_far HO.out (fun k hk => hk) _) (fun _ _ => trivial)
  · exact below_set HB1.out hw
  · exact HF.out.set HK.out (by decide) (by decide) _

end Go.Proofs.Yteekdggainficaa.X
end

section
/- velvet.Smooth and velvet.Links, over the walk. -/
namespace Go.Proofs.Yteekdggainficaa.X
open Go.RowKit Go.Shelf Go.Maps Go.Proofs.YteekdggainficaaW.PrintWords Go.Proofs.YteekdggainficaaW.PrintLast Go.Proofs.YteekdggainficaaW.PrintMore

theorem V.smoothZ_is {l : List S36} (h : V.mayV l = true) : V.smoothZ l = (List.range l.length).map (V.sm l) := by
  unfold V.smoothZ
  rw [if_pos h, V.run_is, List.map_map]
  rfl
theorem V.linksZ_is {l : List S36} {a : Int} (h : V.mayV l = true) (h1 : 1 ≤ a) (h2 : a < l.length) : V.linksZ l a = V.lnk l a.toNat := by
  unfold V.linksZ
  rw [if_pos ⟨h, h1, h2⟩, V.run_is, List.getD_eq_getElem?_getD, List.getElem?_map, List.getElem?_range (by omega)]
  rfl

def V.SmEnd (l : List S36) (w : World) (e : Ending) (w' : World) : Prop := ∃ v0_ : Value, e = .returned v0_ ∧ Kd.R Kd.bool 4 w' w.heap.size (fun _ => True) v0_ (V.smoothZ l) ∧ Below w.heap.size w w'
theorem V.smooth_bad (A0 : Option Addr) (c0 : Nat) (l : List S36) (w : World) (hr0 : Kd.C k36 w A0 l.length l) (hc0 : l.length ≤ c0) (hl : l.length ≤ 1000) (hm : V.mayV l = false) :
    Calls Try.prog 16 #[.slice A0 l.length c0] w (V.SmEnd l w) := by
  have hf := V.may_f l hl 1001 (by omega)
  have hz : V.smoothZ l = [] := by unfold V.smoothZ; rw [if_neg (by rw [hm]; decide)]
  rw [hm] at hf
  have HR0 := Aside0.mk hr0
  have HC0 := Aside0.mk hc0
  have HF := Aside0.mk hf
  generalize hP : V.SmEnd l w = Post
  clear hr0 hc0 hf
  go_enter Try.func16, Try.ntmps16
  go_wp2_with (first | (go_at_call 23; refine (velvet_May.calls 1001 _ _ _ _ _ HR0.out HC0.out HF.out).mono ?_; rintro e w1 ⟨rfl, hb1⟩; have HB1 := Aside0.mk hb1; clear hb1) | fail)
  subst hP
  exact ⟨_, rfl, by rw [hz]; exact Kd.R_nil _ _ _ _ _, HB1.out⟩

theorem V.smooth_walk (A0 : Option Addr) (c0 : Nat) (l : List S36) (w w1 : World) (hr0 : Kd.C k36 w A0 l.length l) (hc0 : l.length ≤ c0) (hm : V.mayV l = true) (hb : Below w.heap.size w w1) :
    Calls Try.prog 26 #[.slice A0 l.length c0, .func (.func 30) #[] #[.pointer (some ⟨w1.heap.size, 0, none⟩)], .func (.func 28) #[] #[]] (w1.alloc (.cells #[.slice none 0 0] 29)) fun e w2 =>
      e = .returned (.tuple #[]) ∧ V.SmJ l w w1.heap.size l.length w2 := by
  have hsz := hb.size
  refine (V.walk_calls 30 _ (enters_of Try.func30 (by kernel_rfl) rfl) A0 c0 l w _ w.heap.size hr0 hc0 hm (fun _ => true) (V.SmJ l w w1.heap.size) ?_ ?_ ?_ ?_ ?_).mono ?_
  · rintro i W W' ⟨v, h1, h2, h3, h4⟩ hbw
    exact ⟨v, blk_below h1 hbw, Kd.R_below h2 hbw, below_then h3 h3.size hbw, h4⟩
  · rintro i W W' b es cl hbb ⟨v, h1, h2, h3, h4⟩ hmb hg
    refine ⟨v, V.blk_map h1 hmb hg, V.R_map h2 hmb hg, h3.grown hg h3.size (fun j e => ?_), h4⟩
    cases e
    simp at hbb
    omega
  · rintro i W ⟨v, h1, h2, h3, h4⟩
    exact ⟨h3, h3.size⟩
  · rintro i v W hi hJ hv
    have := V.may_len hm
    exact (V.smooth1_calls l w W w1.heap.size i v (by omega) hJ).mono fun e W' h => h
  · exact ⟨_, blk_new _ _, Kd.R_nil _ _ _ _ _, below_alloc hb _, hsz⟩
  · rintro e w2 ⟨rfl, j, hJ, hj, hj2, _⟩
    rcases hj2 with rfl | ⟨_, h⟩
    · exact ⟨rfl, hJ⟩
    · cases h
set_option maxHeartbeats 1000000 in
theorem V.smooth_ok (A0 : Option Addr) (c0 : Nat) (l : List S36) (w : World) (hr0 : Kd.C k36 w A0 l.length l) (hc0 : l.length ≤ c0) (hl : l.length ≤ 1000) (hm : V.mayV l = true) :
    Calls Try.prog 16 #[.slice A0 l.length c0] w (V.SmEnd l w) := by
  have hf := V.may_f l hl 1001 (by omega)
  have hz := V.smoothZ_is hm
  have hwk := fun w1 hb => V.smooth_walk A0 c0 l w w1 hr0 hc0 hm hb
  rw [hm] at hf
  have HR0 := Aside0.mk hr0
  have HC0 := Aside0.mk hc0
  have HF := Aside0.mk hf
  have HWK := Aside0.mk hwk
  have HZ := Aside0.mk hz
  generalize hP : V.SmEnd l w = Post
  clear hr0 hc0 hf hwk hz
  go_enter Try.func16, Try.ntmps16
  go_wp2_with (first | (go_at_call 23; refine (velvet_May.calls 1001 _ _ _ _ _ HR0.out HC0.out HF.out).mono ?_; rintro e w1 ⟨rfl, hb1⟩; have HB1 := Aside0.mk hb1; clear hb1) | (go_at_call 26; refine (HWK.out _ HB1.out).mono ?_; rintro e w2 ⟨rfl, v, hb2, hR2, hB2, _⟩; have c2 := blk_cell hb2 0; simp at c2; have HR2 := Aside0.mk hR2; have HB2 := Aside0.mk hB2; clear hb2 hR2 hB2) | fail)
  subst hP
  exact ⟨_, rfl, by rw [HZ.out]; exact HR2.out, HB2.out⟩
theorem V.smooth_calls (A0 : Option Addr) (c0 : Nat) (l : List S36) (w : World) (hr0 : Kd.C k36 w A0 l.length l) (hc0 : l.length ≤ c0) (hl : l.length ≤ 1000) :
    Calls Try.prog 16 #[.slice A0 l.length c0] w fun e w' => ∃ v0_ : Value, e = .returned (v0_) ∧ Kd.R Kd.bool 4 w' w.heap.size (fun _ => True) v0_ (V.smoothZ l) ∧ Below w.heap.size w w' := by
  cases hm : V.mayV l with
  | false => exact V.smooth_bad A0 c0 l w hr0 hc0 hl hm
  | true => exact V.smooth_ok A0 c0 l w hr0 hc0 hl hm

/-! ### velvet.Links -/
/-- What stands while Links walks. -/
def V.LkJ (l : List S36) (w0 : World) (a : Int) (bo bi i : Nat) (W : World) : Prop :=
  ∃ v : Value, W.heap[bo]? = some (.cells #[v] 26 (0, 0)) ∧ W.heap[bi]? = some (.cells #[.int .i64 a] 3 (0, 0)) ∧ Kd.R (Kd.int .i64) 3 W w0.heap.size (fun _ => True) v (if i = 0 then [] else V.lnk l (i - 1)) ∧ Below w0.heap.size w0 W ∧ w0.heap.size ≤ bo
def V.Lk1 (l : List S36) (w0 : World) (a : Int) (bo bi i : Nat) (W : World) (e : Ending) (W' : World) : Prop := e = .returned (.bool (decide ((i : Int) < a))) ∧ V.LkJ l w0 a bo bi (i + 1) W' ∧ V.Fr W W'
set_option maxHeartbeats 1000000 in
theorem V.lk1_calls (l : List S36) (w0 W : World) (a : Int) (bo bi i : Nat) (u : Value) (s : Bool) (hi : i < 1000) (hJ : V.LkJ l w0 a bo bi i W) (hu : Kd.R (Kd.int .i64) 3 W w0.heap.size (fun _ => True) u (V.lnk l i)) :
    Calls Try.prog 27 #[.int .i64 i, u, .bool s, .pointer (some ⟨bo, 0, none⟩), .pointer (some ⟨bi, 0, none⟩)] W (V.Lk1 l w0 a bo bi i W) := by
  obtain ⟨v, hb, hbi, hR, hB, hw⟩ := hJ
  have hne : bi ≠ bo := fun e => by subst e; rw [hb] at hbi; cases hbi
  have c0 := blk_cell hb 0
  have c1 := blk_cell hbi 0
  have f0 := blk_frozen hb 0
  obtain ⟨A1, k1, e1, _, _⟩ := Kd.R_reads hu
  obtain ⟨q, hq⟩ : ∃ q, (V.lnk l i).length = q := ⟨_, rfl⟩
  rw [hq] at e1
  subst e1
  have c3 := (cell_far (W := W) (p := ⟨bo, 0, none⟩) (a := ⟨bi, 0, none⟩) hne (.slice A1 q k1)).trans c1
  simp at c0 c1 c3
  have HBK := Aside0.mk hb
  have HBI := Aside0.mk hbi
  have HU := Aside0.mk hu
  have HB := Aside0.mk hB
  have HNE := Aside0.mk hne
  clear hb hbi hR hB hu hne hq
  generalize hP : V.Lk1 l w0 a bo bi i W = Post
  go_enter Try.func27, Try.ntmps27
  go_wp2
  subst hP
  refine ⟨rfl, ⟨.slice A1 q k1, blk_put HBK.out 0 _ rfl, blk_far HBI.out HNE.out _, ?_, below_set HB.out hw, hw⟩, ?_⟩
  · rw [if_neg (by omega), Nat.add_sub_cancel]
    exact Kd.R_mono (Kd.R_far (p := ⟨bo, 0, none⟩) (Kd.R_types HU.out HBK.out (by decide)) (fun k hk => hk.2) _) (fun _ _ => trivial)
  · exact V.Fr.set ⟨Nat.le_refl _, fun _ _ h _ => h⟩ HBK.out (by decide) (by decide) _

theorem V.links_walk (A0 : Option Addr) (c0 : Nat) (l : List S36) (w w1 : World) (a : Int) (bi : Nat) (hr0 : Kd.C k36 w A0 l.length l) (hc0 : l.length ≤ c0) (hm : V.mayV l = true) (h1 : 1 ≤ a) (h2 : a < l.length) (hb : Below w.heap.size w w1) (hbi : w1.heap[bi]? = some (.cells #[.int .i64 a] 3 (0, 0))) :
    Calls Try.prog 26 #[.slice A0 l.length c0, .func (.func 27) #[] #[.pointer (some ⟨w1.heap.size, 0, none⟩), .pointer (some ⟨bi, 0, none⟩)], .func (.func 28) #[] #[]] (w1.alloc (.cells #[.slice none 0 0] 26)) fun e w2 =>
      e = .returned (.tuple #[]) ∧ V.LkJ l w a w1.heap.size bi (a.toNat + 1) w2 := by
  have hsz := hb.size
  refine (V.walk_calls 27 _ (enters_of Try.func27 (by kernel_rfl) rfl) A0 c0 l w _ w.heap.size hr0 hc0 hm (fun i => decide ((i : Int) < a)) (V.LkJ l w a w1.heap.size bi) ?_ ?_ ?_ ?_ ?_).mono ?_
  · rintro i W W' ⟨v, k1, k2, k3, k4, k5⟩ hbw
    exact ⟨v, blk_below k1 hbw, blk_below k2 hbw, Kd.R_below k3 hbw, below_then k4 k4.size hbw, k5⟩
  · rintro i W W' b es cl hbb ⟨v, k1, k2, k3, k4, k5⟩ hmb hg
    refine ⟨v, V.blk_map k1 hmb hg, V.blk_map k2 hmb hg, V.R_map k3 hmb hg, k4.grown hg k4.size (fun j e => ?_), k5⟩
    cases e
    simp at hbb
    omega
  · rintro i W ⟨v, k1, k2, k3, k4, k5⟩
    exact ⟨k4, k4.size⟩
  · rintro i v W hi hJ hv
    have := V.may_len hm
    exact (V.lk1_calls l w W a w1.heap.size bi i v (V.sm l i) (by omega) hJ hv).mono fun e W' h => h
  · exact ⟨_, blk_new _ _, blk_alloc hbi _, Kd.R_nil _ _ _ _ _, below_alloc hb _, hsz⟩
  · rintro e w2 ⟨rfl, j, hJ, hj, hj2, hj3⟩
    have : j = a.toNat + 1 := by
      rcases hj2 with rfl | ⟨h0, h⟩
      · have := of_decide_eq_true (hj3 (l.length - 2) (by omega))
        omega
      · have h' := of_decide_eq_false h
        have := fun h3 => of_decide_eq_true (hj3 (j - 2) h3)
        omega
    subst this
    exact ⟨rfl, hJ⟩

def V.LkEnd (l : List S36) (a : Int) (w : World) (e : Ending) (w' : World) : Prop := ∃ v0_ : Value, e = .returned v0_ ∧ Kd.R (Kd.int .i64) 3 w' w.heap.size (fun _ => True) v0_ (V.linksZ l a) ∧ Below w.heap.size w w'
set_option maxHeartbeats 1000000 in
theorem V.links_ok (A0 : Option Addr) (c0 : Nat) (l : List S36) (a : Int) (w : World) (hr0 : Kd.C k36 w A0 l.length l) (hc0 : l.length ≤ c0) (hl : l.length ≤ 1000) (hm : V.mayV l = true) (h1 : 1 ≤ a) (h2 : a < l.length) :
    Calls Try.prog 13 #[.slice A0 l.length c0, .int .i64 a] w (V.LkEnd l a w) := by
  have hf := V.may_f l hl 1001 (by omega)
  have hz := V.linksZ_is hm h1 h2
  have hwk := fun w1 bi hb hbi => V.links_walk A0 c0 l w w1 a bi hr0 hc0 hm h1 h2 hb hbi
  rw [hm] at hf
  have d1 : decide (a < 1) = false := decide_eq_false (by omega)
  have d2 : decide ((l.length : Int) ≤ a) = false := decide_eq_false (by omega)
  have HR0 := Aside0.mk hr0
  have HC0 := Aside0.mk hc0
  have HF := Aside0.mk hf
  have HWK := Aside0.mk hwk
  have HZ := Aside0.mk hz
  have hba := Below.refl w.heap.size w
  have HB0 := Aside0.mk (below_alloc hba (.cells #[.int .i64 a] 3))
  have hbox := blk_new w (.cells #[.int .i64 a] 3)
  have HBOX := Aside0.mk hbox
  generalize hP : V.LkEnd l a w = Post
  clear hr0 hc0 hf hwk hz hba
  go_enter Try.func13, Try.ntmps13
  go_wp2_with (first | (go_at_call 23; refine (velvet_May.calls 1001 _ _ _ _ _ (Kd.C_alloc HR0.out _) HC0.out HF.out).mono ?_; rintro e w1 ⟨rfl, hb1⟩; have hbx1 := blk_below HBOX.out hb1; have c1 := blk_cell hbx1 0; simp at c1; have HB1 := Aside0.mk (below_then HB0.out HB0.out.size hb1); have HBX1 := Aside0.mk hbx1; clear hb1 hbx1) | (go_at_call 26; refine (HWK.out _ _ HB1.out HBX1.out).mono ?_; rintro e w2 ⟨rfl, v, hb2, hbi2, hR2, hB2, _⟩; have c2 := blk_cell hb2 0; simp at c2; have HR2 := Aside0.mk hR2; have HB2 := Aside0.mk hB2; clear hb2 hbi2 hR2 hB2) | fail)
  subst hP
  exact ⟨_, rfl, by rw [HZ.out]; exact HR2.out, HB2.out⟩
theorem V.links_bad (A0 : Option Addr) (c0 : Nat) (l : List S36) (a : Int) (w : World) (hr0 : Kd.C k36 w A0 l.length l) (hc0 : l.length ≤ c0) (hl : l.length ≤ 1000) (hn : ¬(V.mayV l = true ∧ 1 ≤ a ∧ a < l.length)) :
    Calls Try.prog 13 #[.slice A0 l.length c0, .int .i64 a] w (V.LkEnd l a w) := by
  have hf := V.may_f l hl 1001 (by omega)
  have hz : V.linksZ l a = [] := by unfold V.linksZ; rw [if_neg hn]
  have HR0 := Aside0.mk hr0
  have HC0 := Aside0.mk hc0
  have HF := Aside0.mk hf
  have HZ := Aside0.mk hz
  have HB0 := Aside0.mk (below_alloc (Below.refl w.heap.size w) (.cells #[.int .i64 a] 3))
  have HBOX := Aside0.mk (blk_new w (.cells #[.int .i64 a] 3))
  generalize hP : V.LkEnd l a w = Post
  clear hr0 hc0 hf hz
  cases hm : V.mayV l with
  | false =>
    rw [hm] at HF
    clear hn hm
    go_enter Try.func13, Try.ntmps13
    go_wp2_with (first | (go_at_call 23; refine (velvet_May.calls 1001 _ _ _ _ _ (Kd.C_alloc HR0.out _) HC0.out HF.out).mono ?_; rintro e w1 ⟨rfl, hb1⟩; have hbx1 := blk_below HBOX.out hb1; have c1 := blk_cell hbx1 0; simp at c1; have HB1 := Aside0.mk (below_then HB0.out HB0.out.size hb1); have HBX1 := Aside0.mk hbx1; clear hb1 hbx1) | fail)
    subst hP
    exact ⟨_, rfl, by rw [HZ.out]; exact Kd.R_nil _ _ _ _ _, HB1.out⟩
  | true =>
    rw [hm] at HF
    by_cases h1 : a < 1
    · have d1 : decide (a < 1) = true := decide_eq_true h1
      clear hn hm
      go_enter Try.func13, Try.ntmps13
      go_wp2_with (first | (go_at_call 23; refine (velvet_May.calls 1001 _ _ _ _ _ (Kd.C_alloc HR0.out _) HC0.out HF.out).mono ?_; rintro e w1 ⟨rfl, hb1⟩; have hbx1 := blk_below HBOX.out hb1; have c1 := blk_cell hbx1 0; simp at c1; have HB1 := Aside0.mk (below_then HB0.out HB0.out.size hb1); have HBX1 := Aside0.mk hbx1; clear hb1 hbx1) | fail)
      subst hP
      exact ⟨_, rfl, by rw [HZ.out]; exact Kd.R_nil _ _ _ _ _, HB1.out⟩
    · have d1 : decide (a < 1) = false := decide_eq_false h1
      have d2 : decide ((l.length : Int) ≤ a) = true := decide_eq_true (by
        by_cases h3 : (l.length : Int) ≤ a
        · exact h3
        · exact absurd ⟨hm, by omega, by omega⟩ hn)
      clear hn hm
      go_enter Try.func13, Try.ntmps13
      go_wp2_with (first | (go_at_call 23; refine (velvet_May.calls 1001 _ _ _ _ _ (Kd.C_alloc HR0.out _) HC0.out HF.out).mono ?_; rintro e w1 ⟨rfl, hb1⟩; have hbx1 := blk_below HBOX.out hb1; have c1 := blk_cell hbx1 0; simp at c1; have HB1 := Aside0.mk (below_then HB0.out HB0.out.size hb1); have HBX1 := Aside0.mk hbx1; clear hb1 hbx1) | fail)
      subst hP
      exact ⟨_, rfl, by rw [HZ.out]; exact Kd.R_nil _ _ _ _ _, HB1.out⟩
theorem V.links_calls (A0 : Option Addr) (c0 : Nat) (l : List S36) (a : Int) (w : World) (hr0 : Kd.C k36 w A0 l.length l) (hc0 : l.length ≤ c0) (hl : l.length ≤ 1000) :
    Calls Try.prog 13 #[.slice A0 l.length c0, .int .i64 a] w fun e w' => ∃ v0_ : Value, e = .returned (v0_) ∧ Kd.R (Kd.int .i64) 3 w' w.heap.size (fun _ => True) v0_ (V.linksZ l a) ∧ Below w.heap.size w w' := by
  by_cases h : V.mayV l = true ∧ 1 ≤ a ∧ a < l.length
  · exact V.links_ok A0 c0 l a w hr0 hc0 hl h.1 h.2.1 h.2.2
  · exact V.links_bad A0 c0 l a w hr0 hc0 hl h

end Go.Proofs.Yteekdggainficaa.X
end

section
/- velvet.Prefix: its first loop's region. -/
namespace Go.Proofs.Yteekdggainficaa.X
open Go.RowKit Go.Shelf Go.Maps Go.Proofs.YteekdggainficaaW.PrintWords Go.Proofs.YteekdggainficaaW.PrintLast Go.Proofs.YteekdggainficaaW.PrintMore

/-- append(v, x) as a step of a region that draws, x's box lying anywhere. -/
theorem V.step_append {P : Program} {ops : Array Oper} {o : Oper} {a : Act} {K : Act → World → Prop} {Q : Exit → Act → World → Prop} {E : Prop} {w0 W : World} (base : Nat) (hgd : o.guard = none) (s x : Operand) (t e : TypeId) (z : Value) (size bytes : Nat)
    (ho : o.op = .call { callee := .builtin .append, args := #[s, x], argTypes := #[t, t] })
    (ht : P.underlying t = some (.slice e)) (hinfo : (P.info? e).map (fun i => (i.zero, i.size, i.bytes)) = some (some z, size, bytes)) (hz : z.cells.size = size) (hs0 : 0 < size) (hb0 : 0 < bytes)
    (v : Value) (n : Nat) (xs ys : List Value) (g : Nat) (hs : a.eval s = v) (hx : a.eval x = .slice (some ⟨g, 0, none⟩) 1 1) (hn : W.heap[g]? = some (.cells ys.toArray e (0, 0))) (hys : ys.length = size) (h1 : ∀ u ∈ ys, u.oneCell' = true)
    (HO : W.ownsRow base e size v n xs) (HB : Below base w0 W) (hbase : base ≤ W.heap.size) (hl : (n + 1) * bytes ≤ 140737488355328)
    (h : ∀ v1 w1, w1.ownsRow base e size v1 (n + 1) (xs ++ ys) → Below base w0 w1 → W.grownBy w1 v.ownBlock → K (a.put o.dst v1) w1) :
    if Region.wanted o (yielded ops a.tmps) = true then Oper.wp P o a W K Q else E := by
  have hw : Region.wanted o (yielded ops a.tmps) = true := by simp [Region.wanted, hgd]
  obtain ⟨i0, hi, hzz⟩ := Option.map_eq_some_iff.1 hinfo
  simp only [Prod.mk.injEq] at hzz
  obtain ⟨hz0, hz1, hz2⟩ := hzz
  have hlen : n + 1 ≤ 140737488355328 := Nat.le_trans (Nat.le_mul_of_pos_right _ hb0) hl
  rw [if_pos hw]
  obtain ⟨v1, w1, hr, hown, hg, _, hat⟩ := run_append_own_at (P := P) W base t o.type e i0 z size bytes ht hi hz0 hz1 hz2 hz hs0 v n xs HO ⟨g, 0, none⟩ 1 1 ys (by rw [hys]; simp)
    (by simpa using World.news_of_block (cs := ys.toArray) (t := e) (fr := (0, 0)) hn) h1 (by simp only [maxLen]; omega) hl hbase
  unfold Oper.wp execOp
  simp only [ho, resolve, invoke, builtin, Sem.run_bind, Sem.run_pure, Result.andThen_ok, List.map_toArray, List.map_cons, List.map_nil, hs, hx, hr]
  exact h v1 w1 hown (HB.grown hg hbase (own_base HO)) hg
theorem V.keep3 {w W : World} {a0 a1 a2 : Addr} {v0 v1 v2 : Value} (h0 : w.cell? a0 = some v0) (h1 : w.cell? a1 = some v1) (h2 : w.cell? a2 = some v2) (hb : Below w.heap.size w W) : W.cell? a0 = some v0 ∧ W.cell? a1 = some v1 ∧ W.cell? a2 = some v2 :=
  ⟨(hb.cell (World.block_lt_of_cell? w _ h0)).trans h0, (hb.cell (World.block_lt_of_cell? w _ h1)).trans h1, (hb.cell (World.block_lt_of_cell? w _ h2)).trans h2⟩
/-- A row of the call's own, another one of other elements grown. -/
theorem V.own_other {W w1 : World} {base base' e e' size size' n n' : Nat} {v v' : Value} {xs xs' : List Value} (h : W.ownsRow base e size v n xs) (h' : W.ownsRow base' e' size' v' n' xs') (hne : e ≠ e') (hg : W.grownBy w1 v'.ownBlock) : w1.ownsRow base e size v n xs := by
  refine own_move h fun k hk => ?_
  obtain ⟨cs, hc⟩ := own_typed h k hk
  refine hg.block k (blk_lt hc) fun e1 => ?_
  obtain ⟨cs', hc'⟩ := own_typed h' k e1.symm
  rw [hc] at hc'
  cases hc'
  exact hne rfl
theorem V.own_below {W w1 : World} {base e size n : Nat} {v : Value} {xs : List Value} (h : W.ownsRow base e size v n xs) (hb : Below W.heap.size W w1) : w1.ownsRow base e size v n xs :=
  own_move h fun k hk => hb.block k (own_lt h k hk)

theorem V.new1 (W : World) (o1 o2 : Obj) : ((W.drew.alloc o1).alloc o2).heap[W.heap.size]? = some o1 := blk_alloc (blk_new W.drew o1) o2
theorem V.new2 (W : World) (o1 o2 : Obj) : ((W.drew.alloc o1).alloc o2).heap[W.heap.size + 1]? = some o2 := by
  have := blk_new (W.drew.alloc o1) o2
  simpa using this
theorem V.own_ne {W : World} {base e size n : Nat} {v : Value} {xs : List Value} (h : W.ownsRow base e size v n xs) {g : Nat} (hg : W.heap.size ≤ g) : some g ≠ v.ownBlock := fun e1 => by
  have := own_lt h _ e1.symm
  omega
theorem V.taken_lt {L : List Int} {m k x : Int} (h : x ∈ (S.prefZ L m k).1) : 0 ≤ x ∧ x < (L.length : Int) - k := by
  unfold S.prefZ at h
  split at h
  · have := S.takenL_mem.1 h
    omega
  · simp at h
theorem V.taken_len (L : List Int) (m k : Int) : (S.prefZ L m k).1.length ≤ L.length := by
  unfold S.prefZ
  split
  · unfold S.takenL S.upZ
    exact Nat.le_trans (List.length_filter_le _ _) (S.upFrom_len _ _ _ _ _)
  · simp
/-- The smooth blocks' places among the first i, and they. -/
def V.atTo (l : List S36) (i : Nat) : List Int := ((List.range i).filter fun j => (V.smoothZ l).getD j false).map fun j : Nat => (j : Int)
def V.smo (l : List S36) (i : Nat) : List S36 := (V.atTo l i).map fun j => l.getD j.toNat z36
theorem V.atTo_succ (l : List S36) (i : Nat) : V.atTo l (i + 1) = if (V.smoothZ l).getD i false = true then V.atTo l i ++ [(i : Int)] else V.atTo l i := by
  unfold V.atTo
  rw [List.range_succ, List.filter_append, List.map_append]
  split <;> rename_i h
  · rw [List.filter_cons_of_pos (p := fun j => (V.smoothZ l).getD j false) h, List.filter_nil]; rfl
  · rw [List.filter_cons_of_neg (p := fun j => (V.smoothZ l).getD j false) h, List.filter_nil, List.map_nil, List.append_nil]
theorem V.smo_succ (l : List S36) (i : Nat) : V.smo l (i + 1) = if (V.smoothZ l).getD i false = true then V.smo l i ++ [l.getD i z36] else V.smo l i := by
  unfold V.smo
  rw [V.atTo_succ]
  split
  · rw [List.map_append]; rfl
  · rfl
theorem V.atTo_len (l : List S36) (i : Nat) : (V.atTo l i).length ≤ i := by
  unfold V.atTo
  rw [List.length_map]
  have := List.length_filter_le (fun j => (V.smoothZ l).getD j false) (List.range i)
  rwa [List.length_range] at this
/-- Their row. -/
def V.SmoR (w W : World) (v : Value) (xs : List S36) : Prop := ∃ inner, W.ownsRow w.heap.size 36 3 v xs.length inner ∧ Reps (k36.K w) 3 xs inner
def V.AtR (w W : World) (v : Value) (xs : List Int) : Prop := W.ownsRow w.heap.size 3 1 v xs.length (encs (Value.int .i64) xs)
theorem V.SmoR.reads {w W : World} {v : Value} {xs : List S36} (h : V.SmoR w W v xs) (hb : Below w.heap.size w W) : ∃ A c, v = .slice A xs.length c ∧ xs.length ≤ c ∧ Kd.C k36 W A xs.length xs :=
  OwnRow.reads (OwnRow.imp_ (R' := k36.K W) h (fun _ _ hp => k36.K_below hb hp))

theorem V.at36 {w : World} {A : Option Addr} {n : Nat} {xs : List S36} (h : Kd.C k36 w A n xs) (i : Nat) (h1 : i < n) : ∃ ad A2 c2, A = some ad ∧ w.cell? (ad.add (i * 3)) = some (.bool (xs.getD i z36).f0) ∧ w.cell? ⟨(ad.add (i * 3)).block, (ad.add (i * 3)).off + 1, none⟩ = some (.int .i64 (xs.getD i z36).f1) ∧ w.cell? ⟨(ad.add (i * 3)).block, (ad.add (i * 3)).off + 2, none⟩ = some (.slice A2 (xs.getD i z36).f2.length c2) ∧
    k36.K w (xs.getD i z36) [.bool (xs.getD i z36).f0, .int .i64 (xs.getD i z36).f1, .slice A2 (xs.getD i z36).f2.length c2] := by
  obtain ⟨ad, c, e, _, hK, hc0⟩ := Kd.C_get h z36 (i : Int) (by omega) (by omega)
  rw [Int.toNat_natCast] at hK hc0
  have hc : ∀ j u, c[j]? = some u → w.cell? (ad.add (i * 3 + j)) = some u := hc0
  obtain ⟨A2, c2, rfl, l2, g2⟩ := k36_open hK
  exact ⟨ad, A2, c2, e, hc 0 _ rfl, by rw [← add_field _ _ 1 (by omega)]; exact hc 1 _ rfl, by rw [← add_field _ _ 2 (by omega)]; exact hc 2 _ rfl, hK⟩
theorem V.SmoR.snoc {w W2 : World} {v2 : Value} {xs : List S36} {inner cs : List Value} {x : S36} (hr : Reps (k36.K w) 3 xs inner) (hk : k36.K w x cs) (h : W2.ownsRow w.heap.size 36 3 v2 (xs.length + 1) (inner ++ cs)) : V.SmoR w W2 v2 (xs ++ [x]) :=
  ⟨inner ++ cs, by rw [List.length_append]; exact h, hr.snoc hk (k36.K_len hk)⟩
theorem V.AtR.snoc {w W2 : World} {v2 : Value} {xs : List Int} {x : Int} (h : W2.ownsRow w.heap.size 3 1 v2 (xs.length + 1) (encs (Value.int .i64) xs ++ [.int .i64 x])) : V.AtR w W2 v2 (xs ++ [x]) := by
  unfold V.AtR
  rw [List.length_append]
  unfold encs at h ⊢
  rw [List.map_append]
  exact h

theorem V.prefZ_is {l : List S36} {a1 : Int} {k : Nat} (hm : V.mayV l = true) (h1 : 1 ≤ a1) (h2 : 1 ≤ k) (h3 : k < l.length) :
    V.prefZ l a1 k = ((S.prefZ (V.lev (V.smo l (l.length - k)) ++ List.replicate ((k : Int)).toNat 0) a1 k).1.map fun j => rd (V.atTo l (l.length - k)) j, true) := by
  unfold V.prefZ
  rw [if_pos ⟨hm, h1, by omega, by omega⟩]
  have e1 : V.atL l k = V.atTo l (l.length - k) := by
    unfold V.atL V.atTo
    rw [show ((l.length : Int) - (k : Int)).toNat = l.length - k by omega]
  have e2 : V.levA l k = V.lev (V.smo l (l.length - k)) ++ List.replicate ((k : Int)).toNat 0 := by
    unfold V.levA V.lev V.smo
    rw [e1, List.map_map]
    rfl
  rw [e1, e2]

end Go.Proofs.Yteekdggainficaa.X
end
