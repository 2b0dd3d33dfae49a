/- Texts of these proofs, laid together by wip/tools/mergeb.py: V7, Xstepladderlaw21few, XvelvetLinks, XvelvetSmooth, XvelvetThorny, XvelvetPrefix. -/
import Derived.Test.YteekdggainficaaMB3
import Derived.Test.YteekdggainficaaMB1
section
/- velvet.Prefix. -/
namespace Go.Proofs.Yteekdggainficaa.X
open Go.RowKit Go.Shelf Go.Maps Go.Proofs.YteekdggainficaaW.PrintWords Go.Proofs.YteekdggainficaaW.PrintLast Go.Proofs.YteekdggainficaaW.PrintMore

def V.PrEnd (l : List S36) (a1 a2 : Int) (w : World) (e : Ending) (w' : World) : Prop := ∃ v0_ : Value, e = .returned (.tuple #[v0_, .bool (V.prefZ l a1 a2).2]) ∧ Kd.R (Kd.int .i64) 3 w' w.heap.size (fun _ => True) v0_ (V.prefZ l a1 a2).1 ∧ Below w.heap.size w w'
set_option maxHeartbeats 2000000 in
set_option maxRecDepth 8000 in
theorem V.prefix_ok (A0 : Option Addr) (c0 : Nat) (l : List S36) (a1 : Int) (k : Nat) (w : World) (hr0 : Kd.C k36 w A0 l.length l) (hc0 : l.length ≤ c0) (hl : l.length ≤ 1000) (hm1 : a1 ≤ 9223372036854775807) (hm : V.mayV l = true) (h1 : 1 ≤ a1) (h2 : 1 ≤ k) (h3 : k < l.length) :
    Calls Try.prog 20 #[.slice A0 l.length c0, .int .i64 a1, .int .i64 k] w (V.PrEnd l a1 k w) := by
  have hf := V.may_f l hl 1001 (by omega)
  rw [hm] at hf
  have hsm := fun W hr => V.smooth_calls A0 c0 l W hr hc0 hl
  have hsz : (V.smoothZ l).length = l.length := by rw [V.smoothZ_is hm]; simp
  have d1 : decide (a1 < 1) = false := decide_eq_false (by omega)
  have d2 : decide ((k : Int) < 1) = false := decide_eq_false (by omega)
  have d3 : decide ((l.length : Int) ≤ (k : Int)) = false := decide_eq_false (by omega)
  have HR0 := Aside0.mk hr0
  have HC0 := Aside0.mk hc0
  have HF := Aside0.mk hf
  have HSM := Aside0.mk hsm
  have HSZ := Aside0.mk hsz
  have HM1 := Aside0.mk hm1
  clear hm1
  generalize hP : V.PrEnd l a1 k w = Post
  clear hr0 hc0 hf hsm hsz
  go_enter Try.func20, Try.ntmps20
  go_wp2_with (first | (go_at_call 23; refine (velvet_May.calls 1001 _ _ _ _ _ HR0.out HC0.out HF.out).mono ?_; rintro e w1 ⟨rfl, hb1⟩; have HB1 := Aside0.mk hb1; have HR1 := Aside0.mk (Kd.C_below HR0.out hb1); clear hb1) | fail)
  refine (HSM.out _ HR1.out).mono ?_
  rintro e w2 ⟨v2, rfl, hv2, hb2⟩
  obtain ⟨A2, c2, e2, hle2, hC2⟩ := Kd.R_reads hv2
  rw [HSZ.out] at e2 hle2
  subst e2
  have HV2 := Aside0.mk (Kd.R_lower hv2 HB1.out.size)
  have HB2 := Aside0.mk (below_then HB1.out HB1.out.size hb2)
  have i1 : 0 ≤ (l.length : Int) - (k : Int) := by omega
  have i2 : (l.length : Int) - (k : Int) ≤ (c2 : Int) := by omega
  clear hv2 hb2 hC2
  go_wp2
  obtain ⟨n, hn⟩ : ∃ n, l.length - k = n := ⟨_, rfl⟩
  rw [hn]
  have hsml := HSZ.out
  go_loopg [8, 9, 42] n (fun kq v8 v9 v42 W => ∃ i : Nat, v42 = .int .i64 i ∧ i ≤ n ∧ n - i ≤ kq ∧ Aside0 (V.AtR w W v8 (V.atTo l i)) ∧ Aside0 (V.SmoR w W v9 (V.smo l i)) ∧ Aside0 (Kd.R Kd.bool 4 W w.heap.size (fun _ => True) (.slice A2 l.length c2) (V.smoothZ l)) ∧ Aside0 (Below w.heap.size w W))
  case atStart => exact ⟨0, rfl, Nat.zero_le _, by omega, ⟨own_nil _ _ _ _⟩, ⟨[], own_nil _ _ _ _, Reps.none _ _⟩, HV2, HB2⟩
  case round =>
    obtain ⟨i, rfl, hi, hg, HA, HS, HV, HB⟩ := hrel
    clear HV2 HB2
    by_cases hlt : i < n
    · have hltz : (i : Int) < (n : Int) := by omega
      have cb : decide ((i : Int) < (n : Int)) = true := decide_eq_true hltz
      have hCb := (Kd.R_reads' HV.out).2.2
      obtain ⟨ad2, e2, hx2⟩ := Kd.at_bool hCb (i : Int) (by omega) (by omega)
      cases e2
      rw [Int.toNat_natCast] at hx2
      obtain ⟨ad, A3, c3, e3, x0, x1, x2, hK⟩ := V.at36 HR0.out i (by omega)
      cases e3
      have hat := V.atTo_succ l i
      have hso := V.smo_succ l i
      have hrd : rdOf false (V.smoothZ l) (i : Int) = (V.smoothZ l).getD i false := by unfold rdOf; rw [Int.toNat_natCast]
      rw [hrd] at hx2
      clear hrd hCb
      cases hs : (V.smoothZ l).getD i false with
      | false =>
        rw [hs] at hx2 hat hso
        rw [if_neg (by decide)] at hat hso
        have HAT := Aside0.mk hat
        have HSO := Aside0.mk hso
        clear x0 x1 x2 hK hs hat hso
        go_wp2
        go_roundg (n - (i + 1))
        case measure => omega
        case rel => exact ⟨i + 1, by go_num, by omega, by omega, ⟨by rw [HAT.out]; exact HA.out⟩, ⟨by rw [HSO.out]; exact HS.out⟩, HV, HB⟩
      | true =>
        rw [hs] at hx2 hat hso
        rw [if_pos rfl] at hat hso
        generalize l.getD i z36 = sx at hso x0 x1 x2 hK
        have HAT := Aside0.mk hat
        have HSO := Aside0.mk hso
        have X0 := Aside0.mk x0
        have X1 := Aside0.mk x1
        have X2 := Aside0.mk x2
        have HK := Aside0.mk hK
        clear hs hat hso hK x0 x1 x2 hsml
        clear i1 i2
        have p0 : 0 ≤ (i : Int) := by omega
        have p1 : (i : Int) < (l.length : Int) := by omega
        have p2 : i < l.length := by omega
        obtain ⟨inner, hown9, hreps⟩ := HS.out
        have HO9 := Aside0.mk hown9
        have HRP := Aside0.mk hreps
        clear hown9 hreps
        go_wp2_with fail
        have hl1 := V.atTo_len l i
        have hl2 : (V.smo l i).length ≤ i := by unfold V.smo; rw [List.length_map]; exact hl1
        go_region_held3 (fun w' => w'.cell? (ad.add (i * 3)) = some (.bool sx.f0) ∧ w'.cell? ⟨(ad.add (i * 3)).block, (ad.add (i * 3)).off + 1, none⟩ = some (.int .i64 sx.f1) ∧ w'.cell? ⟨(ad.add (i * 3)).block, (ad.add (i * 3)).off + 2, none⟩ = some (.slice A3 sx.f2.length c3)) (first | exact V.keep3 X0.out X1.out X2.out HB3.out | exact V.keep3 X0.out X1.out X2.out HB2.out | exact V.keep3 X0.out X1.out X2.out (below_alloc HB2.out _) | exact V.keep3 X0.out X1.out X2.out (below_drew HB.out) | exact V.keep3 X0.out X1.out X2.out (below_alloc (below_drew HB.out) _) | exact V.keep3 X0.out X1.out X2.out (below_alloc (below_alloc (below_drew HB.out) _) _)) (first | (refine V.step_append (w0 := w) w.heap.size rfl (.tmp 48) (.tmp 50) 26 3 (.int .i64 0) 1 8 rfl Try.underlying26 info3 rfl (by decide) (by decide) u8 (V.atTo l i).length (encs (Value.int .i64) (V.atTo l i)) [.int .i64 i] _ rfl rfl (by first | exact blk_new _ _ | exact V.new1 wr _ _ | exact V.new2 wr _ _) rfl (by simp [Value.oneCell']) (by first | exact (HA.out.drew).alloc _ | exact ((HA.out.drew).alloc _).alloc _) (by first | exact below_alloc (below_drew HB.out) _ | exact below_alloc (below_alloc (below_drew HB.out) _) _) (by have := HB.out.size; simp; omega) (by omega) ?_; intro v8' w3 hown3 hb3 hg3; have HA2 := Aside0.mk hown3; have HB2 := Aside0.mk hb3; have HO2 : Aside0 (w3.ownsRow w.heap.size 36 3 u9 (V.smo l i).length inner) := ⟨by first | exact V.own_other ((HO9.out.drew).alloc _) ((HA.out.drew).alloc _) (by decide) hg3 | exact V.own_other (((HO9.out.drew).alloc _).alloc _) (((HA.out.drew).alloc _).alloc _) (by decide) hg3⟩; (first | have HN2 := Aside0.mk (blk_grown (V.new2 wr (.cells #[.int .i64 i] 3) (.cells #[.bool sx.f0, .int .i64 sx.f1, .slice A3 sx.f2.length c3] 36)) hg3 (V.own_ne HA.out (by omega))) | have HN2 := Aside0.mk (blk_grown (V.new1 wr (.cells #[.bool sx.f0, .int .i64 sx.f1, .slice A3 sx.f2.length c3] 36) (.cells #[.int .i64 i] 3)) hg3 (V.own_ne HA.out (by omega))) | skip); have HV3 : Aside0 (w3.ownsRow w.heap.size 4 1 (.slice (some ad2) l.length c2) (V.smoothZ l).length (encs Value.bool (V.smoothZ l))) := ⟨by first | exact V.own_other (((Kd.own_of_R HV.out).drew).alloc _) ((HA.out.drew).alloc _) (by decide) hg3 | exact V.own_other ((((Kd.own_of_R HV.out).drew).alloc _).alloc _) (((HA.out.drew).alloc _).alloc _) (by decide) hg3⟩; clear hown3 hb3 hg3) | (refine V.step_append (w0 := w) w.heap.size rfl (.tmp 52) (.tmp 57) 22 36 (.agg #[.bool false, .int .i64 0, .slice none 0 0]) 3 40 rfl Try.underlying22 (by rfl) rfl (by decide) (by decide) u9 (V.smo l i).length inner [.bool sx.f0, .int .i64 sx.f1, .slice A3 sx.f2.length c3] _ rfl rfl (by first | exact HN2.out | exact blk_new _ _) rfl (by simp [Value.oneCell']) (by first | exact HO2.out | exact HO2.out.alloc _) (by first | exact HB2.out | exact below_alloc HB2.out _) (by have := HB2.out.size; first | exact this | (simp; omega)) (by omega) ?_; intro v9' w4 hown4 hb4 hg4; have HS3 := Aside0.mk hown4; have HB3 := Aside0.mk hb4; have HA4 : Aside0 (w4.ownsRow w.heap.size 3 1 v8' ((V.atTo l i).length + 1) (encs (Value.int .i64) (V.atTo l i) ++ [.int .i64 i])) := ⟨by first | exact V.own_other HA2.out HO2.out (by decide) hg4 | exact V.own_other (HA2.out.alloc _) (HO2.out.alloc _) (by decide) hg4⟩; have HV4 : Aside0 (w4.ownsRow w.heap.size 4 1 (.slice (some ad2) l.length c2) (V.smoothZ l).length (encs Value.bool (V.smoothZ l))) := ⟨by first | exact V.own_other HV3.out HO2.out (by decide) hg4 | exact V.own_other (HV3.out.alloc _) (HO2.out.alloc _) (by decide) hg4⟩; clear hown4 hb4 hg4))
        all_goals
          go_wp2
          go_roundg (n - (i + 1))
          case measure => omega
          case rel => exact ⟨i + 1, by go_num, by omega, by omega, ⟨by rw [HAT.out]; exact V.AtR.snoc HA4.out⟩, ⟨by rw [HSO.out]; exact V.SmoR.snoc HRP.out HK.out HS3.out⟩, ⟨Kd.R_of_own HV4.out (fun _ _ => trivial)⟩, HB3⟩
    · have hltz : ¬ (i : Int) < (n : Int) := by omega
      have cb : decide ((i : Int) < (n : Int)) = false := decide_eq_false hltz
      obtain rfl : i = n := by omega
      clear hltz hlt hg hi hsml i1 i2
      obtain ⟨A9, c9, e9, hle9, hC9⟩ := V.SmoR.reads HS.out HB.out
      have hlf := V.levels_f (V.smo l i) (by have := V.atTo_len l i; unfold V.smo; rw [List.length_map]; omega) 1001 (by have := V.atTo_len l i; unfold V.smo; rw [List.length_map]; omega)
      have hsl : (V.lev (V.smo l i)).length ≤ 200 := by
        have := V.atTo_len l i
        have := V.may_len hm
        unfold V.lev V.smo
        rw [List.length_map, List.length_map]
        omega
      obtain ⟨q, hq⟩ : ∃ q, (V.smo l i).length = q := ⟨_, rfl⟩
      rw [hq] at e9
      subst e9
      have hr8 : Kd.R (Kd.int .i64) 3 wr w.heap.size (fun _ => True) u8 (V.atTo l i) := Kd.R_of_own HA.out (fun _ _ => trivial)
      obtain ⟨A8, c8, e8, hle8, hC8⟩ := Kd.R_reads hr8
      obtain ⟨q8, hq8⟩ : ∃ q, (V.atTo l i).length = q := ⟨_, rfl⟩
      rw [hq8] at e8
      subst e8
      have HC9 := Aside0.mk hC9
      have HLE9 := Aside0.mk hle9
      have HLF := Aside0.mk hlf
      have HQ := Aside0.mk hq
      have HQ8 := Aside0.mk hq8
      have HC8 := Aside0.mk hC8
      have hll : (V.lev (V.smo l i)).length = q8 := by rw [← hq8]; unfold V.lev V.smo; rw [List.length_map, List.length_map]
      obtain ⟨levs, hlevs⟩ : ∃ levs, V.lev (V.smo l i) ++ List.replicate ((k : Int)).toNat (0 : Int) = levs := ⟨_, rfl⟩
      have hlv : (levs.length : Int) = q8 + k := by rw [← hlevs, List.length_append, List.length_replicate, hll]; omega
      have HLV := Aside0.mk hlv
      have HLEVS := Aside0.mk hlevs
      have HLL := Aside0.mk hll
      have htk := fun x hx => V.taken_lt (L := levs) (m := a1) (k := k) (x := x) hx
      have HTK := Aside0.mk htk
      clear hC9 hle9 hlf hq HV HS hr8 hle8 hC8 hq8 hlv hlevs hll htk
      obtain ⟨T, hT⟩ : ∃ T, (S.prefZ levs a1 k).1 = T := ⟨_, rfl⟩
      have HT := Aside0.mk hT
      clear hT
      go_wp2_with (first
        | (go_at_call 31; refine calls_of_args (args' := #[.slice A9 (V.smo l i).length c9]) (by rw [HQ.out]) ?_; refine (velvet_levels.calls 1001 _ _ _ _ _ HC9.out HLE9.out HLF.out).mono ?_; rintro e w5 ⟨v5, rfl, hv5, hb5⟩; have HV5 := Aside0.mk hv5; have HB5 := Aside0.mk hb5; clear hv5 hb5)
        | ((with_reducible refine gate_builtin (b := .append) (xs := #[.tmp 62, .tmp 63]) rfl ?_); at_builtin; refine Kd.R_append_zeros (Kd.int .i64) (w0 := wr) wr.heap.size rfl (.tmp 62) (.tmp 63) 26 3 3 (.int .i64 0) 8 rfl Try.underlying26 Try.underlying3 info3 rfl (by decide) (by omega) v5 (V.lev (V.smo l i)) 0 (k : Int) (fun _ => True) rfl rfl rfl (fun _ _ => trivial) HV5.out (by omega) HB5.out HB5.out.size (by omega) ?_; intro v6 w6 hr6 hb6 hg6 hat6; rw [HLEVS.out] at hr6; obtain ⟨A6, c6, e6, hle6, hC6⟩ := Kd.R_reads hr6; obtain ⟨q6, hq6⟩ : ∃ q, levs.length = q := ⟨_, rfl⟩; rw [hq6] at e6; subst e6; have HQ6 := Aside0.mk hq6; have HC6 := Aside0.mk hC6; have HLE6 := Aside0.mk hle6; have HB6 := Aside0.mk hb6; clear hr6 hb6 hg6 hat6 hle6 hC6 hq6)
        | (go_at_call 25; refine calls_of_args (args' := #[.slice A6 levs.length c6, .int .i64 a1, .int .i64 k]) (by rw [HQ6.out]) ?_; refine (E.prefix_calls A6 c6 levs a1 k _ HC6.out HLE6.out HM1.out).mono ?_; rintro e w7 ⟨v7, rfl, hv7, hb7⟩; rw [HT.out] at hv7; obtain ⟨A7, c7, e7, hle7, hC7⟩ := Kd.R_reads hv7; obtain ⟨q7, hq7⟩ : ∃ q, T.length = q := ⟨_, rfl⟩; rw [hq7] at e7; subst e7; have HQ7 := Aside0.mk hq7; have HC7 := Aside0.mk hC7; have HB7 := Aside0.mk (below_then HB6.out HB6.out.size hb7); have hq7b := Kd.C_max hC7; clear hv7 hb7 hle7 hC7 hq7)
        | fail)
      have hq7c : q7 ≤ 1000 := by
        have h1 := V.taken_len levs a1 k
        rw [HT.out, HQ7.out] at h1
        have h2 := HLV.out
        have h3 := HQ8.out
        have h4 := V.atTo_len l i
        omega
      clear hq7b
      go_loopg [14, 72] q7 (fun kq v14 v72 W => ∃ j : Nat, v72 = .int .i64 j ∧ j ≤ q7 ∧ q7 - j ≤ kq ∧ Aside0 (Kd.R (Kd.int .i64) 3 W w7.heap.size (fun _ => True) v14 ((T.take j).map fun x => rd (V.atTo l i) x)) ∧ Aside0 (Below w7.heap.size w7 W))
      case atStart => exact ⟨0, rfl, Nat.zero_le _, by omega, ⟨Kd.R_nil _ _ _ _ _⟩, ⟨Below.refl _ _⟩⟩
      case round =>
        obtain ⟨j, rfl, hj, hg, HR, HBW⟩ := hrel
        by_cases hlt : j < q7
        · have hltz : (j : Int) < (q7 : Int) := by omega
          have cb : decide ((j : Int) < (q7 : Int)) = true := decide_eq_true hltz
          have h7 := Kd.C_below HC7.out HBW.out
          rw [HQ7.out] at h7
          obtain ⟨ad7, e7, hx7⟩ := Kd.at_int h7 (j : Int) (by omega) (by omega)
          cases e7
          rw [Int.toNat_natCast] at hx7
          have hjT : j < T.length := by rw [HQ7.out]; exact hlt
          have hmem : rd T (j : Int) ∈ (S.prefZ levs a1 k).1 := by rw [HT.out, rd_get hjT]; exact List.getElem_mem hjT
          have hxb := HTK.out _ hmem
          have hlv := HLV.out
          have htake : (T.take (j + 1)).map (fun x => rd (V.atTo l i) x) = (T.take j).map (fun x => rd (V.atTo l i) x) ++ [rd (V.atTo l i) (rd T (j : Int))] := by
            rw [List.take_succ_eq_append_getElem hjT, List.map_append, rd_get hjT]
            rfl
          generalize rd T (j : Int) = x at hx7 hmem hxb htake
          have x0 : 0 ≤ x := hxb.1
          have x1 : x < (q8 : Int) := by omega
          have h8 := Kd.C_below (Kd.C_below HC8.out HB7.out) HBW.out
          rw [HQ8.out] at h8
          obtain ⟨ad8, e8, hx8⟩ := Kd.at_int h8 x x0 x1
          cases e8
          have hl8 : ((T.take j).map fun x => rd (V.atTo l i) x).length ≤ 1000 := by rw [List.length_map, List.length_take]; omega
          generalize rd (V.atTo l i) x = y at hx8 htake
          have HTA := Aside0.mk htake
          clear htake hmem hxb hlv h7 h8 hjT
          generalize ((T.take j).map fun x => rd (V.atTo l i) x) = out at HR HTA hl8
          go_wp2_with (first
            | ((with_reducible refine gate_builtin (b := .append) (xs := #[.tmp 76, .tmp 81]) rfl ?_); at_builtin; refine Kd.R_append (Kd.int .i64) (w0 := w7) w7.heap.size rfl (.tmp 76) (.tmp 81) 26 3 (.int .i64 0) 8 rfl Try.underlying26 info3 rfl (by decide) (by omega) u14 out y [.int .i64 y] (fun _ => True) (fun _ => False) rfl rfl rfl (fun _ hk => hk.elim) (fun _ _ => trivial) HR.out HBW.out HBW.out.size (by omega) ?_; intro v1 w8 hr1 hb1 hg1 hat1; have HR1 := Aside0.mk hr1; have HB1' := Aside0.mk hb1; clear hr1 hb1 hg1 hat1)
            | fail)
          go_roundg (q7 - (j + 1))
          case measure => omega
          case rel => exact ⟨j + 1, by go_num, by omega, by omega, ⟨by rw [HTA.out]; exact HR1.out⟩, HB1'⟩
        · have hltz : ¬ (j : Int) < (q7 : Int) := by omega
          have cb : decide ((j : Int) < (q7 : Int)) = false := decide_eq_false hltz
          obtain rfl : j = q7 := by omega
          go_wp2
          subst hP
          have hp := V.prefZ_is hm h1 h2 h3
          rw [hn, HLEVS.out, HT.out] at hp
          have hr := HR.out
          rw [List.take_of_length_le (by rw [HQ7.out]; omega)] at hr
          unfold V.PrEnd
          rw [hp]
          have hs1 : w.heap.size ≤ w7.heap.size := Nat.le_trans HB.out.size HB7.out.size
          exact ⟨_, rfl, Kd.R_lower hr hs1, below_then (below_then HB.out HB.out.size HB7.out) hs1 HBW.out⟩

set_option maxHeartbeats 1000000 in
theorem V.prefix_bad (A0 : Option Addr) (c0 : Nat) (l : List S36) (a1 a2 : Int) (w : World) (hr0 : Kd.C k36 w A0 l.length l) (hc0 : l.length ≤ c0) (hl : l.length ≤ 1000) (hn : ¬(V.mayV l = true ∧ 1 ≤ a1 ∧ 1 ≤ a2 ∧ a2 < l.length)) :
    Calls Try.prog 20 #[.slice A0 l.length c0, .int .i64 a1, .int .i64 a2] w (V.PrEnd l a1 a2 w) := by
  have hf := V.may_f l hl 1001 (by omega)
  have hz : V.prefZ l a1 a2 = ([], false) := by unfold V.prefZ; rw [if_neg hn]
  have HR0 := Aside0.mk hr0
  have HC0 := Aside0.mk hc0
  have HF := Aside0.mk hf
  have HZ := Aside0.mk hz
  generalize hP : V.PrEnd l a1 a2 w = Post
  clear hr0 hc0 hf hz
  cases hm : V.mayV l with
  | false =>
    rw [hm] at HF
    clear hn hm
    go_enter Try.func20, Try.ntmps20
    go_wp2_with (first | (go_at_call 23; refine (velvet_May.calls 1001 _ _ _ _ _ HR0.out HC0.out HF.out).mono ?_; rintro e w1 ⟨rfl, hb1⟩; have HB1 := Aside0.mk hb1; clear hb1) | fail)
    subst hP
    exact ⟨.slice none 0 0, by rw [HZ.out]; rfl, by rw [HZ.out]; exact Kd.R_nil _ _ _ _ _, HB1.out⟩
  | true =>
    rw [hm] at HF
    by_cases h1 : a1 < 1
    · have d1 : decide (a1 < 1) = true := decide_eq_true h1
      clear hn hm
      go_enter Try.func20, Try.ntmps20
      go_wp2_with (first | (go_at_call 23; refine (velvet_May.calls 1001 _ _ _ _ _ HR0.out HC0.out HF.out).mono ?_; rintro e w1 ⟨rfl, hb1⟩; have HB1 := Aside0.mk hb1; clear hb1) | fail)
      subst hP
      exact ⟨.slice none 0 0, by rw [HZ.out]; rfl, by rw [HZ.out]; exact Kd.R_nil _ _ _ _ _, HB1.out⟩
    · have d1 : decide (a1 < 1) = false := decide_eq_false h1
      by_cases h2 : a2 < 1
      · have d2 : decide (a2 < 1) = true := decide_eq_true h2
        clear hn hm
        go_enter Try.func20, Try.ntmps20
        go_wp2_with (first | (go_at_call 23; refine (velvet_May.calls 1001 _ _ _ _ _ HR0.out HC0.out HF.out).mono ?_; rintro e w1 ⟨rfl, hb1⟩; have HB1 := Aside0.mk hb1; clear hb1) | fail)
        subst hP
        exact ⟨.slice none 0 0, by rw [HZ.out]; rfl, by rw [HZ.out]; exact Kd.R_nil _ _ _ _ _, HB1.out⟩
      · have d2 : decide (a2 < 1) = false := decide_eq_false h2
        have d3 : decide ((l.length : Int) ≤ a2) = true := decide_eq_true (by
          by_cases h3 : (l.length : Int) ≤ a2
          · exact h3
          · exact absurd ⟨hm, by omega, by omega, by omega⟩ hn)
        clear hn hm
        go_enter Try.func20, Try.ntmps20
        go_wp2_with (first | (go_at_call 23; refine (velvet_May.calls 1001 _ _ _ _ _ HR0.out HC0.out HF.out).mono ?_; rintro e w1 ⟨rfl, hb1⟩; have HB1 := Aside0.mk hb1; clear hb1) | fail)
        subst hP
        exact ⟨.slice none 0 0, by rw [HZ.out]; rfl, by rw [HZ.out]; exact Kd.R_nil _ _ _ _ _, HB1.out⟩
theorem V.prefix_calls (A0 : Option Addr) (c0 : Nat) (l : List S36) (a1 a2 : Int) (w : World) (hr0 : Kd.C k36 w A0 l.length l) (hc0 : l.length ≤ c0) (hl : l.length ≤ 1000) (hm1 : a1 ≤ 9223372036854775807) :
    Calls Try.prog 20 #[.slice A0 l.length c0, .int .i64 a1, .int .i64 a2] w fun e w' => ∃ v0_ : Value, e = .returned (.tuple #[v0_, .bool (V.prefZ l a1 a2).2]) ∧ Kd.R (Kd.int .i64) 3 w' w.heap.size (fun _ => True) v0_ (V.prefZ l a1 a2).1 ∧ Below w.heap.size w w' := by
  by_cases h : V.mayV l = true ∧ 1 ≤ a1 ∧ 1 ≤ a2 ∧ a2 < l.length
  · obtain ⟨k, rfl⟩ : ∃ k : Nat, a2 = k := ⟨a2.toNat, by omega⟩
    exact V.prefix_ok A0 c0 l a1 k w hr0 hc0 hl hm1 h.1 h.2.1 (by omega) (by omega)
  · exact V.prefix_bad A0 c0 l a1 a2 w hr0 hc0 hl h

end Go.Proofs.Yteekdggainficaa.X
end

section
-- By this session's own program (wip/tools/xprint.py), over the kit's print. Not trusted: Lean checks it.
namespace Go.Proofs.Yteekdggainficaa.X
open Go.RowKit Go.Proofs.YteekdggainficaaW.PrintWords Go.Proofs.YteekdggainficaaW.PrintLast Go.Proofs.YteekdggainficaaW.PrintMore
attribute [local go_sem] max2_int min2_int max_two min_two max_three min_three max_four min_four   -- for this text's walks alone
set_option linter.unusedVariables false
set_option linter.unusedSimpArgs false

/-! ### stepladderlaw21_few: function 11 -/
def stepladderlaw21_few.l0 : Nat → List (S36) → Int → Option (Bool)
  | 0, _, _ => none
  | k + 1, x0, x3 => if x3 < (x0.length : Int) then (if 0 ≤ x3 then (if (((rd_T36 x0 x3).f2).length : Int) > 40 then (some false) else (stepladderlaw21_few.l0 k x0 (wrap64 (x3 + 1)))) else (none)) else (some (decide ((x0.length : Int) ≤ 210)))
def stepladderlaw21_few.f (k : Nat) (l0 : List (S36)) : Option (Bool) := stepladderlaw21_few.l0 k l0 0
theorem stepladderlaw21_few.mono_l : ∀ k, (∀ y0 y1, LeO (stepladderlaw21_few.l0 k y0 y1) (stepladderlaw21_few.l0 (k + 1) y0 y1))
  | 0 => fun _ _ r h => by simp [stepladderlaw21_few.l0] at h
  | k + 1 => by
    have ih0 := stepladderlaw21_few.mono_l k
    · intro y0 y1
      unfold stepladderlaw21_few.l0
      repeat' first
      | (with_reducible exact ih0 _ _)
      | (with_reducible exact LeO.refl _)
      | (with_reducible exact LeO.none _)
      | (with_reducible refine LeO.ite ?_ ?_)
      | (with_reducible refine LeO.bind ?_ (fun _ => ?_))
      | exact ih0 _ _
      | exact LeO.none _
      | refine LeO.ite ?_ ?_
      | refine LeO.bind ?_ (fun _ => ?_)
theorem stepladderlaw21_few.mono : ∀ a0 k, LeO (stepladderlaw21_few.f k a0) (stepladderlaw21_few.f (k + 1) a0) := by
  intro a0 k
  have ih0 := stepladderlaw21_few.mono_l k
  unfold stepladderlaw21_few.f
  repeat' first
      | (with_reducible exact ih0 _ _)
      | (with_reducible exact LeO.refl _)
      | (with_reducible exact LeO.none _)
      | (with_reducible refine LeO.ite ?_ ?_)
      | (with_reducible refine LeO.bind ?_ (fun _ => ?_))
      | exact ih0 _ _
      | exact LeO.none _
      | refine LeO.ite ?_ ?_
      | refine LeO.bind ?_ (fun _ => ?_)
set_option maxHeartbeats 8000000 in
set_option maxRecDepth 100000 in
theorem stepladderlaw21_few.calls (k : Nat) (A0 : Option Addr) (c0 : Nat) (l0 : List (S36)) (r : Bool) (w : World) (hr0 : Kd.C k36 w A0 l0.length l0) (hc0 : l0.length ≤ c0) (h : stepladderlaw21_few.f k l0 = some r) :
    Calls Try.prog 11 #[.slice A0 l0.length c0] w fun e w' => e = .returned (.bool r) ∧ Drawn0 w w' := by
  have HR0 := Aside0.mk hr0
  have HC0 := Aside0.mk hc0
  clear hr0 hc0
  have H : (stepladderlaw21_few.l0 k l0 0) = some r := h
  clear h
  have H' := Aside0.mk H
  clear H
  go_enter Try.func11, Try.ntmps11
  go_wp2
  go_loopg [3] k (fun kq v3 w' => ∃ (x3_1 : Int), v3 = .int .i64 x3_1 ∧ Aside0 (stepladderlaw21_few.l0 kq l0 x3_1 = some r) ∧ Aside0 (kq ≤ k) ∧ Drawn0 w w')
  case atStart => exact ⟨(0), (by first | rfl | (simp; done) | (simp [*]; done)), H', ⟨Nat.le_refl _⟩, by repeat (first | exact Drawn0.refl _ | apply Drawn0.step)⟩
  case round =>
    clear H'
    try clear c1
    obtain ⟨x3_1, rfl, HA, HK1, ⟨m1, rfl⟩⟩ := hrel
    cases gk with
    | zero => exact absurd HA.out (by simp [stepladderlaw21_few.l0])
    | succ k1 =>
      have H := HA.out
      clear HA
      simp only [stepladderlaw21_few.l0] at H
      by_cases c2 : x3_1 < (l0.length : Int)
      · rw [if_pos c2] at H
        have c2b0 : decide (x3_1 < (l0.length : Int)) = true := decide_eq_true c2
        clear c2
        by_cases c3 : 0 ≤ x3_1
        · rw [if_pos c3] at H
          have c3b0 : decide (0 ≤ x3_1) = true := decide_eq_true c3
          clear c3
          by_cases c4 : (((rd_T36 l0 x3_1).f2).length : Int) > 40
          · rw [if_pos c4] at H
            have c4b0 : decide (40 < (((rd_T36 l0 x3_1).f2).length : Int)) = true := decide_eq_true c4
            have c4b1 : decide (40 < ((rd_T36 l0 x3_1).f2).length) = true := decide_eq_true (by omega)
            clear c4
            obtain rfl := Option.some.inj H
            have p144 : 0 ≤ (x3_1 : Int) := of_decide_eq_true (by first | (with_reducible assumption) | assumption)
            have q144 : x3_1 < (l0.length : Int) := of_decide_eq_true (by first | (with_reducible assumption) | assumption)
            obtain ⟨ad144, A144_2, c144_2, e144, hx144_0, hx144_1, hx144_2, hl144_2, hi144_2⟩ := at_T36 HR0.out x3_1 p144 q144
            cases e144
            have HR144_2 := Aside0.mk hi144_2
            have HC144_2 := Aside0.mk hl144_2
            clear hi144_2 hl144_2
            replace p144 := eq_true p144
            replace q144 := eq_true q144
            go_wp2
            go_ret
            exact ⟨by first | rfl | (simp; done) | (simp [*]; done), by repeat (first | exact Drawn0.refl _ | apply Drawn0.step)⟩
          · rw [if_neg c4] at H
            have c4b0 : decide (40 < (((rd_T36 l0 x3_1).f2).length : Int)) = false := decide_eq_false c4
            have c4b1 : decide (40 < ((rd_T36 l0 x3_1).f2).length) = false := decide_eq_false (by omega)
            clear c4
            have H' := Aside0.mk H
            clear H
            have p144 : 0 ≤ (x3_1 : Int) := of_decide_eq_true (by first | (with_reducible assumption) | assumption)
            have q144 : x3_1 < (l0.length : Int) := of_decide_eq_true (by first | (with_reducible assumption) | assumption)
            obtain ⟨ad144, A144_2, c144_2, e144, hx144_0, hx144_1, hx144_2, hl144_2, hi144_2⟩ := at_T36 HR0.out x3_1 p144 q144
            cases e144
            have HR144_2 := Aside0.mk hi144_2
            have HC144_2 := Aside0.mk hl144_2
            clear hi144_2 hl144_2
            replace p144 := eq_true p144
            replace q144 := eq_true q144
            go_wp2
            go_roundg k1
            case measure => have := HK1.out; omega
            case rel => exact ⟨(wrap64 (x3_1 + 1)), (by first | rfl | (simp; done) | (simp [*]; done)), H', ⟨by have := HK1.out; omega⟩, by repeat (first | exact Drawn0.refl _ | apply Drawn0.step)⟩
        · rw [if_neg c3] at H
          exact absurd H (by simp)
      · rw [if_neg c2] at H
        have c2b0 : decide (x3_1 < (l0.length : Int)) = false := decide_eq_false c2
        clear c2
        obtain rfl := Option.some.inj H
        go_wp2
        go_ret
        exact ⟨by first | rfl | (simp; done) | (simp [*]; done), by repeat (first | exact Drawn0.refl _ | apply Drawn0.step)⟩

end Go.Proofs.Yteekdggainficaa.X
end

section
-- By this session's own program (wip/tools/xprint.py), over the kit's print. Not trusted: Lean checks it.
namespace Go.Proofs.Yteekdggainficaa.X
open Go.RowKit Go.Proofs.YteekdggainficaaW.PrintWords Go.Proofs.YteekdggainficaaW.PrintLast Go.Proofs.YteekdggainficaaW.PrintMore
attribute [local go_sem] max2_int min2_int max_two min_two max_three min_three max_four min_four   -- for this text's walks alone
set_option linter.unusedVariables false
set_option linter.unusedSimpArgs false

/-! ### velvet_Links: function 13 -/
-- EXT YteekdggainficaaV5
def velvet_Links.f (l0 : List (S36)) (a1 : Int) : Option (List Int) := if l0.length ≤ 1000 then some (V.linksZ l0 a1) else none
theorem velvet_Links.calls (A0 : Option Addr) (c0 : Nat) (l0 : List (S36)) (a1 : Int) (r : List Int) (w : World) (hr0 : Kd.C k36 w A0 l0.length l0) (hc0 : l0.length ≤ c0) (h : velvet_Links.f l0 a1 = some r) :
    Calls Try.prog 13 #[.slice A0 l0.length c0, .int .i64 a1] w fun e w' => ∃ v0_ : Value, e = .returned (v0_) ∧ Kd.R (Kd.int .i64) 3 w' w.heap.size (fun _ => True) v0_ r ∧ Below w.heap.size w w' := by
  unfold velvet_Links.f at h
  split at h
  · rename_i hb; obtain rfl := Option.some.inj h; exact V.links_calls A0 c0 l0 a1 w hr0 hc0 hb
  · cases h


end Go.Proofs.Yteekdggainficaa.X
end

section
-- By this session's own program (wip/tools/xprint.py), over the kit's print. Not trusted: Lean checks it.
namespace Go.Proofs.Yteekdggainficaa.X
open Go.RowKit Go.Proofs.YteekdggainficaaW.PrintWords Go.Proofs.YteekdggainficaaW.PrintLast Go.Proofs.YteekdggainficaaW.PrintMore
attribute [local go_sem] max2_int min2_int max_two min_two max_three min_three max_four min_four   -- for this text's walks alone
set_option linter.unusedVariables false
set_option linter.unusedSimpArgs false

/-! ### velvet_Smooth: function 16 -/
-- EXT YteekdggainficaaV5
def velvet_Smooth.f (l0 : List (S36)) : Option (List Bool) := if l0.length ≤ 1000 then some (V.smoothZ l0) else none
theorem velvet_Smooth.calls (A0 : Option Addr) (c0 : Nat) (l0 : List (S36)) (r : List Bool) (w : World) (hr0 : Kd.C k36 w A0 l0.length l0) (hc0 : l0.length ≤ c0) (h : velvet_Smooth.f l0 = some r) :
    Calls Try.prog 16 #[.slice A0 l0.length c0] w fun e w' => ∃ v0_ : Value, e = .returned (v0_) ∧ Kd.R Kd.bool 4 w' w.heap.size (fun _ => True) v0_ r ∧ Below w.heap.size w w' := by
  unfold velvet_Smooth.f at h
  split at h
  · rename_i hb; obtain rfl := Option.some.inj h; exact V.smooth_calls A0 c0 l0 w hr0 hc0 hb
  · cases h


end Go.Proofs.Yteekdggainficaa.X
end

section
-- By this session's own program (wip/tools/xprint.py), over the kit's print. Not trusted: Lean checks it.
namespace Go.Proofs.Yteekdggainficaa.X
open Go.RowKit Go.Proofs.YteekdggainficaaW.PrintWords Go.Proofs.YteekdggainficaaW.PrintLast Go.Proofs.YteekdggainficaaW.PrintMore
attribute [local go_sem] max2_int min2_int max_two min_two max_three min_three max_four min_four   -- for this text's walks alone
set_option linter.unusedVariables false
set_option linter.unusedSimpArgs false

/-! ### velvet_Thorny: function 18 -/
def velvet_Thorny.l0 : Nat → List (S36) → List Int → List Bool → Int → Int → Option (List Int)
  | 0, _, _, _, _, _ => none
  | k + 1, x0, x3, x7, x8, x9 => if x9 < x8 then (if 0 ≤ x9 then (if x9 < (x7.length : Int) then (if x9 < (x0.length : Int) then (if (rd_T36 x0 x9).f0 = true then (if rdOf false x7 x9 = true then (velvet_Thorny.l0 k x0 x3 x7 x8 (wrap64 (x9 + 1))) else (if x3.length < 17592186044416 then (velvet_Thorny.l0 k x0 (x3 ++ [x9]) x7 x8 (wrap64 (x9 + 1))) else (none))) else (velvet_Thorny.l0 k x0 x3 x7 x8 (wrap64 (x9 + 1)))) else (none)) else (none)) else (none)) else (some x3)
def velvet_Thorny.f (k : Nat) (l0 : List (S36)) : Option (List Int) := (velvet_Smooth.f l0).bind fun t101 => (velvet_Thorny.l0 k l0 ([] : List Int) t101 (t101.length : Int) 0)
theorem velvet_Thorny.mono_l : ∀ k, (∀ y0 y1 y2 y3 y4, LeO (velvet_Thorny.l0 k y0 y1 y2 y3 y4) (velvet_Thorny.l0 (k + 1) y0 y1 y2 y3 y4))
  | 0 => fun _ _ _ _ _ r h => by simp [velvet_Thorny.l0] at h
  | k + 1 => by
    have ih0 := velvet_Thorny.mono_l k
    · intro y0 y1 y2 y3 y4
      unfold velvet_Thorny.l0
      repeat' first
      | (with_reducible exact ih0 _ _ _ _ _)
      | (with_reducible exact LeO.refl _)
      | (with_reducible exact LeO.none _)
      | (with_reducible refine LeO.ite ?_ ?_)
      | (with_reducible refine LeO.bind ?_ (fun _ => ?_))
      | exact ih0 _ _ _ _ _
      | exact LeO.none _
      | refine LeO.ite ?_ ?_
      | refine LeO.bind ?_ (fun _ => ?_)
theorem velvet_Thorny.mono : ∀ a0 k, LeO (velvet_Thorny.f k a0) (velvet_Thorny.f (k + 1) a0) := by
  intro a0 k
  have ih0 := velvet_Thorny.mono_l k
  unfold velvet_Thorny.f
  repeat' first
      | (with_reducible exact ih0 _ _ _ _ _)
      | (with_reducible exact LeO.refl _)
      | (with_reducible exact LeO.none _)
      | (with_reducible refine LeO.ite ?_ ?_)
      | (with_reducible refine LeO.bind ?_ (fun _ => ?_))
      | exact ih0 _ _ _ _ _
      | exact LeO.none _
      | refine LeO.ite ?_ ?_
      | refine LeO.bind ?_ (fun _ => ?_)
set_option maxHeartbeats 8000000 in
set_option maxRecDepth 100000 in
theorem velvet_Thorny.calls (k : Nat) (A0 : Option Addr) (c0 : Nat) (l0 : List (S36)) (r : List Int) (w : World) (hr0 : Kd.C k36 w A0 l0.length l0) (hc0 : l0.length ≤ c0) (h : velvet_Thorny.f k l0 = some r) :
    Calls Try.prog 18 #[.slice A0 l0.length c0] w fun e w' => ∃ v0_ : Value, e = .returned (v0_) ∧ Kd.R (Kd.int .i64) 3 w' w.heap.size (fun _ => True) v0_ r ∧ Below w.heap.size w w' := by
  have HR0 := Aside0.mk hr0
  have HC0 := Aside0.mk hc0
  clear hr0 hc0
  have HB := Aside0.mk (Below.refl w.heap.size w)
  have H : ((velvet_Smooth.f l0).bind fun t101 => (velvet_Thorny.l0 k l0 ([] : List Int) t101 (t101.length : Int) 0)) = some r := h
  clear h
  replace H := Option.bind_eq_some_iff.mp H
  obtain ⟨t101, A20, H⟩ := H
  replace H : (velvet_Thorny.l0 k l0 ([] : List Int) t101 (t101.length : Int) 0) = some r := H
  have A2 := Aside0.mk A20
  clear A20
  have H' := Aside0.mk H
  clear H
  go_enter Try.func18, Try.ntmps18
  go_wp2_with (first | ((with_reducible refine gate_callee (f := 16) rfl ?_); refine goesL_ (some 7) rfl rfl Try.func16 (by kernel_rfl) rfl #[.slice A0 l0.length c0] rfl (by (try simp only [List.map_toArray, List.map_cons, List.map_nil]); first | done | rfl | (simp only [List.length_drop, List.length_take]; rfl)) ?_; (with_reducible refine (velvet_Smooth.calls _ _ l0 t101 _ ?side1 ?side2 A2.out).mono ?_); (case side1 => repeat (first | exact HR0.out | (with_reducible refine Kd.C_alloc ?_ _) | (with_reducible refine Kd.C_drewN ?_ _) | (with_reducible refine Kd.C_drew ?_))); (case side2 => exact HC0.out); rintro e w3 ⟨v102, rfl, ho0, hb⟩; refine ⟨_, rfl, ?_⟩; have n0_ := Aside0.mk (Kd.R_lower ho0 (below_size (by repeat (first | (with_reducible first | exact HB.out | apply below_alloc | apply pw_below_drewN | apply below_drew1) | exact HB.out)))); have n1_ := Aside0.mk (below_step (by repeat (first | (with_reducible first | exact HB.out | apply below_alloc | apply pw_below_drewN | apply below_drew1) | exact HB.out)) hb); clear HB; have HO103 := n0_; have HB := n1_; clear n0_ n1_; (try clear hb); (try clear hb2); (try clear hk); (try clear hi); (try clear ho0); obtain ⟨Ao4, co4, eo4⟩ := Kd.R_slice HO103.out; subst eo4))
  go_loopg [3, 9] k (fun kq v3 v9 w' => ∃ (x3_1 : List Int) (x9_1 : Int), v9 = .int .i64 x9_1 ∧ Aside0 (velvet_Thorny.l0 kq l0 x3_1 t101 (t101.length : Int) x9_1 = some r) ∧ Aside0 (kq ≤ k) ∧ Aside0 (Kd.R (Kd.int .i64) 3 w' w.heap.size (fun _ => True) v3 x3_1) ∧ Aside0 (Kd.R Kd.bool 4 w' w.heap.size (fun _ => True) (.slice Ao4 t101.length co4) t101) ∧ Aside0 (Below w.heap.size w w'))
  case atStart => exact ⟨(([] : List Int)), (0), (by first | rfl | (simp; done) | (simp [*]; done)), H', ⟨Nat.le_refl _⟩, ⟨by first | exact Kd.R_nil _ _ _ _ _ | exact Kd.N_nil _ _ _ _ _ | exact Kd.V_nil _ _ _ _ _ | exact Kd.Q_nil _ _ _ _ _ | exact Kd.S_nil _ _ _ _ _⟩, ⟨by (with_reducible repeat (first | apply Kd.R_alloc | apply Kd.R_drewN | apply Kd.R_drew)); exact HO103.out⟩, ⟨by repeat (first | (with_reducible first | exact HB.out | apply below_alloc | apply pw_below_drewN | apply below_drew1) | exact HB.out)⟩⟩
  case round =>
    clear H'
    try clear c1
    try clear p2
    obtain ⟨x3_1, x9_1, rfl, HA, HK1, HO_3, HO_7, HB⟩ := hrel
    cases gk with
    | zero => exact absurd HA.out (by simp [velvet_Thorny.l0])
    | succ k1 =>
      have H := HA.out
      clear HA
      simp only [velvet_Thorny.l0] at H
      by_cases c5 : x9_1 < (t101.length : Int)
      · rw [if_pos c5] at H
        have c5b0 : decide (x9_1 < (t101.length : Int)) = true := decide_eq_true c5
        clear c5
        by_cases c6 : 0 ≤ x9_1
        · rw [if_pos c6] at H
          have c6b0 : decide (0 ≤ x9_1) = true := decide_eq_true c6
          clear c6
          by_cases c7 : x9_1 < (t101.length : Int)
          · rw [if_pos c7] at H
            have c7b0 : decide (x9_1 < (t101.length : Int)) = true := decide_eq_true c7
            clear c7
            by_cases c8 : x9_1 < (l0.length : Int)
            · rw [if_pos c8] at H
              have c8b0 : decide (x9_1 < (l0.length : Int)) = true := decide_eq_true c8
              clear c8
              obtain ⟨bq9, hbq9⟩ : ∃ b_ : Bool, b_ = ((rd_T36 l0 x9_1).f0) := ⟨_, rfl⟩
              replace H : (if bq9 = true then (if rdOf false t101 x9_1 = true then (velvet_Thorny.l0 k1 l0 x3_1 t101 (t101.length : Int) (wrap64 (x9_1 + 1))) else (if x3_1.length < 17592186044416 then (velvet_Thorny.l0 k1 l0 (x3_1 ++ [x9_1]) t101 (t101.length : Int) (wrap64 (x9_1 + 1))) else (none))) else (velvet_Thorny.l0 k1 l0 x3_1 t101 (t101.length : Int) (wrap64 (x9_1 + 1)))) = some r := by rw [← hbq9] at H; exact H
              have Nbq9 := Aside0.mk hbq9
              clear hbq9
              by_cases c10 : bq9 = true
              · subst c10
                have H1 : (if rdOf false t101 x9_1 = true then (velvet_Thorny.l0 k1 l0 x3_1 t101 (t101.length : Int) (wrap64 (x9_1 + 1))) else (if x3_1.length < 17592186044416 then (velvet_Thorny.l0 k1 l0 (x3_1 ++ [x9_1]) t101 (t101.length : Int) (wrap64 (x9_1 + 1))) else (none))) = some r := by rw [if_pos rfl] at H; exact H
                clear H
                have H := H1
                clear H1
                obtain ⟨bq11, hbq11⟩ : ∃ b_ : Bool, b_ = (rdOf false t101 x9_1) := ⟨_, rfl⟩
                replace H : (if bq11 = true then (velvet_Thorny.l0 k1 l0 x3_1 t101 (t101.length : Int) (wrap64 (x9_1 + 1))) else (if x3_1.length < 17592186044416 then (velvet_Thorny.l0 k1 l0 (x3_1 ++ [x9_1]) t101 (t101.length : Int) (wrap64 (x9_1 + 1))) else (none))) = some r := by rw [← hbq11] at H; exact H
                have Nbq11 := Aside0.mk hbq11
                clear hbq11
                by_cases c12 : bq11 = true
                · subst c12
                  have H1 : (velvet_Thorny.l0 k1 l0 x3_1 t101 (t101.length : Int) (wrap64 (x9_1 + 1))) = some r := by rw [if_pos rfl] at H; exact H
                  clear H
                  have H := H1
                  clear H1
                  have H' := Aside0.mk H
                  clear H
                  have p104 : 0 ≤ (x9_1 : Int) := of_decide_eq_true (by first | (with_reducible assumption) | assumption)
                  have q104 : x9_1 < (t101.length : Int) := of_decide_eq_true (by first | (with_reducible assumption) | assumption)
                  obtain ⟨ad104, e104, hx104_0⟩ := Kd.at_bool (Kd.R_reads' HO_7.out).2.2 x9_1 p104 q104
                  (try rw [← Nbq9.out] at hx104_0)
                  (try rw [← Nbq11.out] at hx104_0)
                  cases e104
                  replace p104 := eq_true p104
                  replace q104 := eq_true q104
                  have p105 : 0 ≤ (x9_1 : Int) := of_decide_eq_true (by first | (with_reducible assumption) | assumption)
                  have q105 : x9_1 < (l0.length : Int) := of_decide_eq_true (by first | (with_reducible assumption) | assumption)
                  obtain ⟨ad105, A105_2, c105_2, e105, hx105_0, hx105_1, hx105_2, hl105_2, hi105_2⟩ := at_T36 HR0.out x9_1 p105 q105
                  (try rw [← Nbq9.out] at hx105_0)
                  (try rw [← Nbq11.out] at hx105_0)
                  cases e105
                  replace hx105_0 := (HB.out.cell (World.block_lt_of_cell? w _ hx105_0)).trans hx105_0
                  replace hx105_1 := (HB.out.cell (World.block_lt_of_cell? w _ hx105_1)).trans hx105_1
                  replace hx105_2 := (HB.out.cell (World.block_lt_of_cell? w _ hx105_2)).trans hx105_2
                  have HR105_2 := Aside0.mk hi105_2
                  have HC105_2 := Aside0.mk hl105_2
                  clear hi105_2 hl105_2
                  replace p105 := eq_true p105
                  replace q105 := eq_true q105
                  go_wp2
                  go_roundg k1
                  case measure => have := HK1.out; omega
                  case rel => exact ⟨(x3_1), (wrap64 (x9_1 + 1)), (by first | rfl | (simp; done) | (simp [*]; done)), H', ⟨by have := HK1.out; omega⟩, ⟨by (with_reducible repeat (first | apply Kd.R_alloc | apply Kd.R_drewN | apply Kd.R_drew)); exact HO_3.out⟩, ⟨by (with_reducible repeat (first | apply Kd.R_alloc | apply Kd.R_drewN | apply Kd.R_drew)); exact HO_7.out⟩, ⟨by repeat (first | (with_reducible first | exact HB.out | apply below_alloc | apply pw_below_drewN | apply below_drew1) | exact HB.out)⟩⟩
                · replace c12 := Bool.eq_false_iff.mpr c12
                  subst c12
                  have H1 : (if x3_1.length < 17592186044416 then (velvet_Thorny.l0 k1 l0 (x3_1 ++ [x9_1]) t101 (t101.length : Int) (wrap64 (x9_1 + 1))) else (none)) = some r := by rw [if_neg (show ¬ (false = true) by decide)] at H; exact H
                  clear H
                  have H := H1
                  clear H1
                  by_cases c13 : x3_1.length < 17592186044416
                  · rw [if_pos c13] at H
                    have LMc13 := Aside0.mk c13
                    clear c13
                    obtain ⟨y106, hy106⟩ : ∃ y_ : List Int, y_ = (x3_1 ++ [x9_1]) := ⟨_, rfl⟩
                    replace H : (velvet_Thorny.l0 k1 l0 y106 t101 (t101.length : Int) (wrap64 (x9_1 + 1))) = some r := by first | (rw [hy106]; with_reducible exact H) | (have H2_ := (Option.bind_some _ _).symm.trans H; rw [hy106]; with_reducible exact H2_) | (have H2_ := (Option.bind_some _ _).symm.trans H; with_reducible exact H2_) | with_reducible exact H | (rw [hy106]; exact H) | exact H
                    have Ny106 := Aside0.mk hy106
                    clear hy106
                    have H' := Aside0.mk H
                    clear H
                    have p104 : 0 ≤ (x9_1 : Int) := of_decide_eq_true (by first | (with_reducible assumption) | assumption)
                    have q104 : x9_1 < (t101.length : Int) := of_decide_eq_true (by first | (with_reducible assumption) | assumption)
                    obtain ⟨ad104, e104, hx104_0⟩ := Kd.at_bool (Kd.R_reads' HO_7.out).2.2 x9_1 p104 q104
                    (try rw [← Nbq9.out] at hx104_0)
                    (try rw [← Nbq11.out] at hx104_0)
                    cases e104
                    replace p104 := eq_true p104
                    replace q104 := eq_true q104
                    have p105 : 0 ≤ (x9_1 : Int) := of_decide_eq_true (by first | (with_reducible assumption) | assumption)
                    have q105 : x9_1 < (l0.length : Int) := of_decide_eq_true (by first | (with_reducible assumption) | assumption)
                    obtain ⟨ad105, A105_2, c105_2, e105, hx105_0, hx105_1, hx105_2, hl105_2, hi105_2⟩ := at_T36 HR0.out x9_1 p105 q105
                    (try rw [← Nbq9.out] at hx105_0)
                    (try rw [← Nbq11.out] at hx105_0)
                    cases e105
                    replace hx105_0 := (HB.out.cell (World.block_lt_of_cell? w _ hx105_0)).trans hx105_0
                    replace hx105_1 := (HB.out.cell (World.block_lt_of_cell? w _ hx105_1)).trans hx105_1
                    replace hx105_2 := (HB.out.cell (World.block_lt_of_cell? w _ hx105_2)).trans hx105_2
                    have HR105_2 := Aside0.mk hi105_2
                    have HC105_2 := Aside0.mk hl105_2
                    clear hi105_2 hl105_2
                    replace p105 := eq_true p105
                    replace q105 := eq_true q105
                    go_wp2_with (first | ((with_reducible refine gate_builtin (b := .append) (xs := #[.tmp 23, .tmp 25]) rfl ?_); at_builtin; refine Kd.R_append (Kd.int .i64) (w0 := w) w.heap.size rfl (.tmp 23) (.tmp 25) 26 3 (.int .i64 0) 8 rfl Try.underlying26 info3 rfl (by decide) (by omega) u3 x3_1 x9_1 [.int .i64 x9_1] (fun _ => True) (fun _ => False) rfl rfl ?aP (fun _ hk => hk.elim) ?aF ?aO ?aB ?aS ?aL ?_; (case aP => exact rfl); (case aB => exact (by repeat (first | (with_reducible first | exact HB.out | apply below_alloc | apply pw_below_drewN | apply below_drew1) | exact HB.out))); (case aF => exact (fun _ _ => trivial)); (case aO => exact (by (with_reducible repeat (first | apply Kd.R_alloc | apply Kd.R_drewN | apply Kd.R_drew)); exact HO_3.out)); (case aS => exact (below_size (by repeat (first | (with_reducible first | exact HB.out | apply below_alloc | apply pw_below_drewN | apply below_drew1) | exact HB.out)))); (case aL => have := LMc13.out; omega); intro v107 w14 ho hb hg hat; rw [← Ny106.out] at ho; have n0_ := Aside0.mk (Kd.R_over' (by (with_reducible repeat (first | apply Kd.R_alloc | apply Kd.R_drewN | apply Kd.R_drew)); exact HO_7.out) (Kd.R_typed (by (with_reducible repeat (first | apply Kd.R_alloc | apply Kd.R_drewN | apply Kd.R_drew)); exact HO_3.out)) (by decide) hg); have n1_ := Aside0.mk (hb); have n2_ := Aside0.mk (ho); clear HO_7; clear HB; clear HO_3; have HO_7 := n0_; have HB := n1_; have HO108 := n2_; clear n0_ n1_ n2_; clear ho hb hg hat))
                    go_roundg k1
                    case measure => have := HK1.out; omega
                    case rel => exact ⟨(y106), (wrap64 (x9_1 + 1)), (by first | rfl | (simp; done) | (simp [*]; done)), H', ⟨by have := HK1.out; omega⟩, ⟨by (with_reducible repeat (first | apply Kd.R_alloc | apply Kd.R_drewN | apply Kd.R_drew)); exact HO108.out⟩, ⟨by (with_reducible repeat (first | apply Kd.R_alloc | apply Kd.R_drewN | apply Kd.R_drew)); exact HO_7.out⟩, ⟨by repeat (first | (with_reducible first | exact HB.out | apply below_alloc | apply pw_below_drewN | apply below_drew1) | exact HB.out)⟩⟩
                  · rw [if_neg c13] at H
                    exact absurd H (by simp)
              · replace c10 := Bool.eq_false_iff.mpr c10
                subst c10
                have H1 : (velvet_Thorny.l0 k1 l0 x3_1 t101 (t101.length : Int) (wrap64 (x9_1 + 1))) = some r := by rw [if_neg (show ¬ (false = true) by decide)] at H; exact H
                clear H
                have H := H1
                clear H1
                have H' := Aside0.mk H
                clear H
                have p104 : 0 ≤ (x9_1 : Int) := of_decide_eq_true (by first | (with_reducible assumption) | assumption)
                have q104 : x9_1 < (t101.length : Int) := of_decide_eq_true (by first | (with_reducible assumption) | assumption)
                obtain ⟨ad104, e104, hx104_0⟩ := Kd.at_bool (Kd.R_reads' HO_7.out).2.2 x9_1 p104 q104
                (try rw [← Nbq9.out] at hx104_0)
                cases e104
                replace p104 := eq_true p104
                replace q104 := eq_true q104
                have p105 : 0 ≤ (x9_1 : Int) := of_decide_eq_true (by first | (with_reducible assumption) | assumption)
                have q105 : x9_1 < (l0.length : Int) := of_decide_eq_true (by first | (with_reducible assumption) | assumption)
                obtain ⟨ad105, A105_2, c105_2, e105, hx105_0, hx105_1, hx105_2, hl105_2, hi105_2⟩ := at_T36 HR0.out x9_1 p105 q105
                (try rw [← Nbq9.out] at hx105_0)
                cases e105
                replace hx105_0 := (HB.out.cell (World.block_lt_of_cell? w _ hx105_0)).trans hx105_0
                replace hx105_1 := (HB.out.cell (World.block_lt_of_cell? w _ hx105_1)).trans hx105_1
                replace hx105_2 := (HB.out.cell (World.block_lt_of_cell? w _ hx105_2)).trans hx105_2
                have HR105_2 := Aside0.mk hi105_2
                have HC105_2 := Aside0.mk hl105_2
                clear hi105_2 hl105_2
                replace p105 := eq_true p105
                replace q105 := eq_true q105
                go_wp2
                go_roundg k1
                case measure => have := HK1.out; omega
                case rel => exact ⟨(x3_1), (wrap64 (x9_1 + 1)), (by first | rfl | (simp; done) | (simp [*]; done)), H', ⟨by have := HK1.out; omega⟩, ⟨by (with_reducible repeat (first | apply Kd.R_alloc | apply Kd.R_drewN | apply Kd.R_drew)); exact HO_3.out⟩, ⟨by (with_reducible repeat (first | apply Kd.R_alloc | apply Kd.R_drewN | apply Kd.R_drew)); exact HO_7.out⟩, ⟨by repeat (first | (with_reducible first | exact HB.out | apply below_alloc | apply pw_below_drewN | apply below_drew1) | exact HB.out)⟩⟩
            · rw [if_neg c8] at H
              exact absurd H (by simp)
          · rw [if_neg c7] at H
            exact absurd H (by simp)
        · rw [if_neg c6] at H
          exact absurd H (by simp)
      · rw [if_neg c5] at H
        have c5b0 : decide (x9_1 < (t101.length : Int)) = false := decide_eq_false c5
        clear c5
        obtain rfl := Option.some.inj H
        go_wp2
        go_ret
        exact ⟨_, by first | rfl | (simp [errW_none, errW_some] <;> rfl) | (simp [*, errW_none, errW_some] <;> rfl), by (with_reducible repeat (first | apply Kd.R_alloc | apply Kd.R_drewN | apply Kd.R_drew)); exact HO_3.out, by repeat (first | (with_reducible first | exact HB.out | apply below_alloc | apply pw_below_drewN | apply below_drew1) | exact HB.out)⟩

end Go.Proofs.Yteekdggainficaa.X
end

section
-- By this session's own program (wip/tools/xprint.py), over the kit's print. Not trusted: Lean checks it.
namespace Go.Proofs.Yteekdggainficaa.X
open Go.RowKit Go.Proofs.YteekdggainficaaW.PrintWords Go.Proofs.YteekdggainficaaW.PrintLast Go.Proofs.YteekdggainficaaW.PrintMore
attribute [local go_sem] max2_int min2_int max_two min_two max_three min_three max_four min_four   -- for this text's walks alone
set_option linter.unusedVariables false
set_option linter.unusedSimpArgs false

/-! ### velvet_Prefix: function 20 -/
-- EXT YteekdggainficaaV7
def velvet_Prefix.f (l0 : List (S36)) (a1 : Int) (a2 : Int) : Option (List Int × Bool) := if l0.length ≤ 1000 ∧ a1 ≤ 9223372036854775807 then some (V.prefZ l0 a1 a2) else none
theorem velvet_Prefix.calls (A0 : Option Addr) (c0 : Nat) (l0 : List (S36)) (a1 : Int) (a2 : Int) (r1 : List Int) (r2 : Bool) (w : World) (hr0 : Kd.C k36 w A0 l0.length l0) (hc0 : l0.length ≤ c0) (h : velvet_Prefix.f l0 a1 a2 = some (r1, r2)) :
    Calls Try.prog 20 #[.slice A0 l0.length c0, .int .i64 a1, .int .i64 a2] w fun e w' => ∃ v0_ : Value, e = .returned (.tuple #[v0_, .bool r2]) ∧ Kd.R (Kd.int .i64) 3 w' w.heap.size (fun _ => True) v0_ r1 ∧ Below w.heap.size w w' := by
  unfold velvet_Prefix.f at h
  split at h
  · rename_i hb
    have h' := Option.some.inj h
    obtain ⟨rfl, rfl⟩ : (V.prefZ l0 a1 a2).1 = r1 ∧ (V.prefZ l0 a1 a2).2 = r2 := by rw [h']; exact ⟨rfl, rfl⟩
    exact V.prefix_calls A0 c0 l0 a1 a2 w hr0 hc0 hb.1 hb.2
  · cases h


end Go.Proofs.Yteekdggainficaa.X
end
