/- stepladderlaw21.VelvetOthers: the walk. -/
import Derived.Test.YteekdggainficaaMVO
namespace Go.Proofs.Yteekdggainficaa.X
open Go.RowKit Go.Shelf Go.Maps Go.Proofs.YteekdggainficaaW.PrintWords Go.Proofs.YteekdggainficaaW.PrintLast Go.Proofs.YteekdggainficaaW.PrintMore

set_option maxHeartbeats 4000000 in
set_option maxRecDepth 100000 in
theorem V.others_ok (A0 : Option Addr) (c0 : Nat) (l : List S36) (i : Nat) (x : S36) (Ax : Option Addr) (cx : Nat) (w : World) (hr0 : Kd.C k36 w A0 l.length l) (hc0 : l.length ≤ c0) (hK : k36.K w x [.bool x.f0, .int .i64 x.f1, .slice Ax x.f2.length cx]) (hl : l.length ≤ 210) (hf : stepladderlaw21_few.f (l.length + 1) l = some true) (hfx : stepladderlaw21_few.f 2 [x] = some true) (h1 : 1 ≤ i) (hi : i < l.length) (hm : V.mayV l = true) :
    Calls Try.prog 6 #[.slice A0 l.length c0, .int .i64 i, .agg #[.bool x.f0, .int .i64 x.f1, .slice Ax x.f2.length cx]] w (V.Yes w) := by
  have hmf := V.may_f l (by omega) 1001 (by omega)
  rw [hm] at hmf
  have haw := P.awake21 301 (by omega)
  have hbx := blk_new w (.cells #[.bool x.f0, .int .i64 x.f1, .slice Ax x.f2.length cx] 36)
  have hb0 := below_alloc (Below.refl w.heap.size w) (.cells #[.bool x.f0, .int .i64 x.f1, .slice Ax x.f2.length cx] 36)
  have HR0 := Aside0.mk hr0
  have HC0 := Aside0.mk hc0
  have HF := Aside0.mk hf
  have HFX := Aside0.mk hfx
  have HMF := Aside0.mk hmf
  have HAW := Aside0.mk haw
  have HK := Aside0.mk hK
  have HBX := Aside0.mk hbx
  have HB0 := Aside0.mk hb0
  have d1 : decide ((i : Int) < 1) = false := decide_eq_false (by omega)
  have d2 : decide ((l.length : Int) ≤ (i : Int)) = false := decide_eq_false (by omega)
  generalize hP : V.Yes w = Post
  clear hr0 hc0 hf hfx hmf haw hK hbx hb0
  go_enter Try.func6, Try.ntmps6
  go_wp2_with (first
    | (go_at_call 10; refine (stepladderlaw21_awake.calls 301 true _ HAW.out).mono ?_; rintro e w1 ⟨rfl, hb1⟩; have HB1 := Aside0.mk (below_then HB0.out HB0.out.size hb1); have HBX1 := Aside0.mk (blk_below HBX.out hb1); clear hb1)
    | fail)
  refine (stepladderlaw21_few.calls (l.length + 1) A0 c0 l true w1 (Kd.C_below HR0.out HB1.out) HC0.out HF.out).mono ?_
  rintro e w2 ⟨rfl, ⟨q1, rfl⟩⟩
  have HB2 := Aside0.mk (pw_below_drewN HB1.out q1)
  have hbx2 := blk_drewN HBX1.out q1
  have HBX2 := Aside0.mk hbx2
  have b0 := blk_cell hbx2 0
  have b1 := blk_cell hbx2 1
  have b2 := blk_cell hbx2 2
  simp at b0 b1 b2
  clear hbx2
  go_wp2_with fail
  have hc3 := V.C_one (x := x) (blk_new (w1.drewN q1) (.cells #[.bool x.f0, .int .i64 x.f1, .slice Ax x.f2.length cx] 36)) (k36.K_below (below_alloc HB2.out _) HK.out)
  refine (stepladderlaw21_few.calls 2 _ 1 [x] true _ hc3 (Nat.le_refl 1) HFX.out).mono ?_
  rintro e w4 ⟨rfl, ⟨q2, rfl⟩⟩
  clear hc3
  have HB4 := Aside0.mk (pw_below_drewN (below_alloc HB2.out (.cells #[.bool x.f0, .int .i64 x.f1, .slice Ax x.f2.length cx] 36)) q2)
  have HBX4 := Aside0.mk (blk_drewN (blk_alloc HBX2.out (.cells #[.bool x.f0, .int .i64 x.f1, .slice Ax x.f2.length cx] 36)) q2)
  clear HB1 HB2 HBX1 HBX2 b0 b1 b2 HB0 HBX
  go_wp2_with fail
  refine (velvet_May.calls 1001 A0 c0 l true _ (Kd.C_below HR0.out HB4.out) HC0.out HMF.out).mono ?_
  rintro e w5 ⟨rfl, hb5⟩
  have HB5 := Aside0.mk (below_then HB4.out HB4.out.size hb5)
  have hbx5 := blk_below HBX4.out hb5
  have HBX5 := Aside0.mk hbx5
  have b0 := blk_cell hbx5 0
  have b1 := blk_cell hbx5 1
  have b2 := blk_cell hbx5 2
  simp at b0 b1 b2
  clear hb5 hbx5 HB4 HBX4
  obtain ⟨ad, _, _, e3, _⟩ := V.at36 HR0.out i hi
  subst e3
  have HR5 := Aside0.mk (ReadsRow.imp_ HR0.out HB5.out (fun _ _ h => h))
  go_wp2_with (first
    | ((with_reducible refine gate_builtin (b := .append) (xs := #[.const (.slice none 0 0), .tmp 47]) rfl ?_); at_builtin; refine V.append_all (w0 := w) w.heap.size rfl (.const (.slice none 0 0)) (.tmp 47) 22 rfl Try.underlying22 info36 w ad c0 l rfl rfl HR5.out HB5.out HB5.out.size (by omega) ?_; intro v6 w6 hown6 hb6 hg6; obtain ⟨Aq, cap, e6, hle6, hRR⟩ := OwnRow.reads hown6; obtain ⟨inner, ho6, _⟩ := hown6; obtain ⟨g, cap2, e7, hbg, hgl⟩ := ho6.form (by omega); rw [e7] at e6; injection e6 with e8 e9 e10; subst e8; subst e10; subst e7; obtain ⟨cells, hcb⟩ := own_typed ho6 g rfl; have f0 := blk_frozen hcb (i * 3); have f1 := blk_frozen hcb (i * 3 + 1); have f2 := blk_frozen hcb (i * 3 + 2); obtain ⟨ad6, q6, e11, hq6, _, hcell6⟩ := ReadsRow.get_ hRR z36 (i : Int) (by omega) (by omega); cases e11; rw [Int.toNat_natCast] at hcell6; obtain ⟨y0, hy0⟩ : ∃ y, w6.cell? ⟨g, i * 3, none⟩ = some y := ⟨_, by have := hcell6 0 _ (List.getElem?_eq_getElem (by omega)); rw [V.add0] at this; exact this⟩; obtain ⟨y1, hy1⟩ : ∃ y, w6.cell? ⟨g, i * 3 + 1, none⟩ = some y := ⟨_, by have := hcell6 1 _ (List.getElem?_eq_getElem (by omega)); rw [V.add0] at this; exact this⟩; obtain ⟨y2, hy2⟩ : ∃ y, w6.cell? ⟨g, i * 3 + 2, none⟩ = some y := ⟨_, by have := hcell6 2 _ (List.getElem?_eq_getElem (by omega)); rw [V.add0] at this; exact this⟩; have hbx6 := blk_grown HBX5.out hg6 (by simp); have b0 := blk_cell hbx6 0; have b1 := blk_cell hbx6 1; have b2 := blk_cell hbx6 2; simp at b0 b1 b2; have HRR := Aside0.mk hRR; have HB6 := Aside0.mk hb6; have HLE6 := Aside0.mk hle6; clear hRR hb6 hle6 ho6 hcb hcell6 hq6 hbx6 hg6)
    | fail)
  have hRW := V.reads_set HRR.out hi HK.out
  have hBW := below_set (j := i * 3 + 2) (v := .slice Ax x.f2.length cx) (below_set (j := i * 3 + 1) (v := .int .i64 x.f1) (below_set (j := i * 3) (v := .bool x.f0) HB6.out hbg) hbg) hbg
  clear y0 hy0 y1 hy1 y2 hy2 f0 f1 f2 b0 b1 b2 HRR HB6 HBX5 HR5 HB5
  generalize ((w6.setCell ⟨g, i * 3, none⟩ (.bool x.f0)).setCell ⟨g, i * 3 + 1, none⟩ (.int .i64 x.f1)).setCell ⟨g, i * 3 + 2, none⟩ (.slice Ax x.f2.length cx) = W2 at *
  have hml := V.set_len l i x
  have hRM : Kd.C k36 W2 (some ⟨g, 0, none⟩) (l.set i x).length (l.set i x) := by
    rw [hml]
    exact ReadsRow.imp_ hRW (Below.refl _ _) (fun _ _ h => k36.K_below hBW h)
  have hsl := (V.smoothZ_len l).2 hm
  have hmfm := V.may_f (l.set i x) (by omega) 1001 (by omega)
  have HSL := Aside0.mk hsl
  have HMFM := Aside0.mk hmfm
  have HBW := Aside0.mk hBW
  have HRM := Aside0.mk hRM
  have HML := Aside0.mk hml
  clear hRW hBW hRM hsl hml hmfm
  refine (V.smooth_calls (some ad) c0 l W2 (Kd.C_below HR0.out HBW.out) HC0.out (by omega)).mono ?_
  rintro e w7 ⟨v7, rfl, hv7, hb7⟩
  obtain ⟨A7, c7, e7, _, hC7⟩ := Kd.R_reads hv7
  rw [HSL.out] at e7 hC7
  subst e7
  obtain ⟨ad7, ea7, _⟩ := Kd.at_bool hC7 (i : Int) (by omega) (by omega)
  subst ea7
  have HB7 := Aside0.mk (below_then HBW.out HBW.out.size hb7)
  have HRM7 := Aside0.mk (Kd.C_below HRM.out hb7)
  have HC7 := Aside0.mk hC7
  clear hv7 hb7 hC7
  go_wp2_with fail
  refine calls_of_args (args' := #[.slice (some ⟨g, 0, none⟩) (l.set i x).length cap2]) (by rw [HML.out]) ?_
  refine (V.smooth_calls _ cap2 (l.set i x) w7 HRM7.out (by rw [HML.out]; exact HLE6.out) (by rw [HML.out]; omega)).mono ?_
  rintro e w8 ⟨v8, rfl, hv8, hb8⟩
  have HV8 := Aside0.mk (Kd.R_lower hv8 HB7.out.size)
  have HB8 := Aside0.mk (below_then HB7.out HB7.out.size hb8)
  have HRM8 := Aside0.mk (Kd.C_below HRM7.out hb8)
  have HC8 := Aside0.mk (Kd.C_below HC7.out hb8)
  clear hv8 hb8
  obtain ⟨A8, c8, e8, _, _⟩ := Kd.R_reads HV8.out
  obtain ⟨tl, htl⟩ : ∃ q, (V.smoothZ (l.set i x)).length = q := ⟨_, rfl⟩
  rw [htl] at e8
  subst e8
  have HTL := Aside0.mk htl
  clear htl
  go_wp2_with fail
  refine calls_of_args (args' := #[.slice (some ⟨g, 0, none⟩) (l.set i x).length cap2]) (by rw [HML.out]) ?_
  refine (velvet_May.calls 1001 _ cap2 (l.set i x) _ w8 HRM8.out (by rw [HML.out]; exact HLE6.out) HMFM.out).mono ?_
  rintro e w9 ⟨rfl, hb9⟩
  have HB9 := Aside0.mk (below_then HB8.out HB8.out.size hb9)
  have HRM9 := Aside0.mk (Kd.C_below HRM8.out hb9)
  have HC9 := Aside0.mk (Kd.C_below HC8.out hb9)
  have HV9 := Aside0.mk (Kd.R_below HV8.out hb9)
  clear hb9
  obtain ⟨ad9, ea9, hx9⟩ := Kd.at_bool HC9.out (i : Int) (by omega) (by omega)
  cases ea9
  have hsi : rdOf false (V.smoothZ l) (i : Int) = V.sm l i := by
    unfold rdOf
    rw [Int.toNat_natCast]
    exact V.smz_at hm hi
  rw [hsi, Int.toNat_natCast] at hx9
  clear hsi
  have p0 : 0 ≤ (i : Int) := by omega
  have p1 : (i : Int) < (l.length : Int) := by omega
  cases hmM : V.mayV (l.set i x) with
  | false =>
    rw [hmM] at HMFM
    go_wp2_with (first
      | (go_at_call 23; refine calls_of_args (args' := #[.slice (some ⟨g, 0, none⟩) (l.set i x).length cap2]) (by rw [HML.out]) ?_; refine (velvet_May.calls 1001 _ cap2 (l.set i x) false w9 HRM9.out (by rw [HML.out]; exact HLE6.out) HMFM.out).mono ?_; rintro e w10 ⟨rfl, hb10⟩; have HB10 := Aside0.mk (below_then HB9.out HB9.out.size hb10); clear hb10)
      | fail)
    subst hP
    exact ⟨rfl, HB10.out⟩
  | true =>
    rw [hmM] at HMFM
    cases hsi : V.sm l i with
    | true =>
      rw [hsi] at hx9
      go_wp2_with (first
        | (go_at_call 23; refine calls_of_args (args' := #[.slice (some ⟨g, 0, none⟩) (l.set i x).length cap2]) (by rw [HML.out]) ?_; refine (velvet_May.calls 1001 _ cap2 (l.set i x) true w9 HRM9.out (by rw [HML.out]; exact HLE6.out) HMFM.out).mono ?_; rintro e w10 ⟨rfl, hb10⟩; have HB10 := Aside0.mk (below_then HB9.out HB9.out.size hb10); clear hb10)
        | fail)
      subst hP
      exact ⟨rfl, HB10.out⟩
    | false =>
      rw [hsi] at hx9
      have htm := (V.smoothZ_len (l.set i x)).2 hmM
      rw [HTL.out, HML.out] at htm
      subst htm
      go_wp2_with fail
      have hct := (Kd.R_reads' HV9.out).2.2
      rw [HTL.out] at hct
      obtain ⟨ad8, ea8, _⟩ := Kd.at_bool hct (i : Int) (by omega) (by omega)
      subst ea8
      have HCT := Aside0.mk hct
      clear hct hx9
      cases hti : V.sm (l.set i x) i with
      | true =>
        go_loopg [13] 1 (fun kq v13 W => v13 = .int .i64 0 ∧ Aside0 (Kd.bool.C W (some ad7) l.length (V.smoothZ l)) ∧ Aside0 (Kd.bool.C W (some ad8) l.length (V.smoothZ (l.set i x))) ∧ Aside0 (Below w.heap.size w W))
        case atStart => exact ⟨rfl, HC9, HCT, HB9⟩
        case round =>
          obtain ⟨rfl, HS, HT, HB⟩ := hrel
          have cb : decide ((0 : Int) < (l.length : Int)) = true := decide_eq_true (by omega)
          obtain ⟨_, eb, hxt⟩ := Kd.at_bool HT.out (i : Int) p0 p1
          cases eb
          have e2 : rdOf false (V.smoothZ (l.set i x)) (i : Int) = true := by unfold rdOf; rw [Int.toNat_natCast, V.smz_at hmM (by rw [HML.out]; omega)]; exact hti
          rw [e2, Int.toNat_natCast] at hxt
          clear e2
          go_wp2
          clear hxt
          go_loopg [14] i (fun kq v14 W => ∃ k : Nat, v14 = .int .i64 k ∧ k ≤ i ∧ i - k ≤ kq ∧ Aside0 (Kd.bool.C W (some ad7) l.length (V.smoothZ l)) ∧ Aside0 (Kd.bool.C W (some ad8) l.length (V.smoothZ (l.set i x))) ∧ Aside0 (Below w.heap.size w W))
          case atStart => exact ⟨0, rfl, Nat.zero_le _, by omega, HS, HT, HB⟩
          case round =>
            clear HS HT HB
            obtain ⟨k, rfl, hk, hg, HS, HT, HB⟩ := hrel
            by_cases hlt : k < i
            · have hltz : (k : Int) < (i : Int) := by omega
              have cb : decide ((k : Int) < (i : Int)) = true := decide_eq_true hltz
              have q0 : 0 ≤ (k : Int) := by omega
              have q1 : (k : Int) < (l.length : Int) := by omega
              obtain ⟨_, ea, hxs⟩ := Kd.at_bool HS.out (k : Int) q0 q1
              cases ea
              obtain ⟨_, eb, hxt⟩ := Kd.at_bool HT.out (k : Int) q0 q1
              cases eb
              have e1 : rdOf false (V.smoothZ l) (k : Int) = V.sm l k := by unfold rdOf; rw [Int.toNat_natCast]; exact V.smz_at hm (by omega)
              have e2 : rdOf false (V.smoothZ (l.set i x)) (k : Int) = V.sm l k := by unfold rdOf; rw [Int.toNat_natCast, V.smz_at hmM (by rw [HML.out]; omega)]; exact V.set_ahead hlt
              rw [e1, Int.toNat_natCast] at hxs
              rw [e2, Int.toNat_natCast] at hxt
              clear e1 e2
              generalize V.sm l k = b at hxs hxt
              have hbb : (b != b) = false := by cases b <;> rfl
              go_wp2
              go_quiet (fail)
              go_wp2
              go_roundg (i - (k + 1))
              case measure => omega
              case rel => exact ⟨k + 1, by go_num, by omega, by omega, ⟨Kd.C_drewN HS.out _⟩, ⟨Kd.C_drewN HT.out _⟩, ⟨pw_below_drewN HB.out _⟩⟩
            · have hltz : ¬ (k : Int) < (i : Int) := by omega
              have cb : decide ((k : Int) < (i : Int)) = false := decide_eq_false hltz
              go_wp2
              subst hP
              exact ⟨rfl, HB.out⟩
      | false =>
        go_loopg [13] l.length (fun kq v13 W => ∃ k : Nat, v13 = .int .i64 k ∧ k ≤ l.length ∧ l.length - k ≤ kq ∧ Aside0 (Kd.bool.C W (some ad7) l.length (V.smoothZ l)) ∧ Aside0 (Kd.bool.C W (some ad8) l.length (V.smoothZ (l.set i x))) ∧ Aside0 (Below w.heap.size w W))
        case atStart => exact ⟨0, rfl, Nat.zero_le _, by omega, HC9, HCT, HB9⟩
        case round =>
          obtain ⟨k, rfl, hk, hg, HS, HT, HB⟩ := hrel
          by_cases hlt : k < l.length
          · have hltz : (k : Int) < (l.length : Int) := by omega
            have cb : decide ((k : Int) < (l.length : Int)) = true := decide_eq_true hltz
            have q0 : 0 ≤ (k : Int) := by omega
            obtain ⟨_, eb, hxt⟩ := Kd.at_bool HT.out (i : Int) p0 p1
            cases eb
            have e2 : rdOf false (V.smoothZ (l.set i x)) (i : Int) = false := by unfold rdOf; rw [Int.toNat_natCast, V.smz_at hmM (by rw [HML.out]; omega)]; exact hti
            rw [e2, Int.toNat_natCast] at hxt
            clear e2
            by_cases c : k = i
            · subst c
              have hne : ((k : Int) != (k : Int)) = false := by simp
              go_wp2
              go_quiet (fail)
              go_wp2
              go_roundg (l.length - (k + 1))
              case measure => omega
              case rel => exact ⟨k + 1, by go_num, by omega, by omega, ⟨Kd.C_drewN HS.out _⟩, ⟨Kd.C_drewN HT.out _⟩, ⟨pw_below_drewN HB.out _⟩⟩
            · have hne : ((k : Int) != (i : Int)) = true := bne_iff_ne.2 (by omega)
              obtain ⟨_, ea, hys⟩ := Kd.at_bool HS.out (k : Int) q0 hltz
              cases ea
              obtain ⟨_, eb, hyt⟩ := Kd.at_bool HT.out (k : Int) q0 hltz
              cases eb
              have e1 : rdOf false (V.smoothZ l) (k : Int) = V.sm l k := by unfold rdOf; rw [Int.toNat_natCast]; exact V.smz_at hm (by omega)
              have e2 : rdOf false (V.smoothZ (l.set i x)) (k : Int) = V.sm l k := by unfold rdOf; rw [Int.toNat_natCast, V.smz_at hmM (by rw [HML.out]; omega)]; exact V.set_sm hsi hti c
              rw [e1, Int.toNat_natCast] at hys
              rw [e2, Int.toNat_natCast] at hyt
              clear e1 e2
              generalize V.sm l k = b at hys hyt
              have hbb : (b != b) = false := by cases b <;> rfl
              go_wp2
              go_quiet (fail)
              go_wp2
              go_roundg (l.length - (k + 1))
              case measure => omega
              case rel => exact ⟨k + 1, by go_num, by omega, by omega, ⟨Kd.C_drewN HS.out _⟩, ⟨Kd.C_drewN HT.out _⟩, ⟨pw_below_drewN HB.out _⟩⟩
          · have hltz : ¬ (k : Int) < (l.length : Int) := by omega
            have cb : decide ((k : Int) < (l.length : Int)) = false := decide_eq_false hltz
            go_wp2
            clear hk hg
            go_loopg [14] i (fun kq v14 W => ∃ k : Nat, v14 = .int .i64 k ∧ k ≤ i ∧ i - k ≤ kq ∧ Aside0 (Kd.bool.C W (some ad7) l.length (V.smoothZ l)) ∧ Aside0 (Kd.bool.C W (some ad8) l.length (V.smoothZ (l.set i x))) ∧ Aside0 (Below w.heap.size w W))
            case atStart => exact ⟨0, rfl, Nat.zero_le _, by omega, HS, HT, HB⟩
            case round =>
              clear HS HT HB
              obtain ⟨k, rfl, hk, hg, HS, HT, HB⟩ := hrel
              by_cases hlt : k < i
              · have hltz : (k : Int) < (i : Int) := by omega
                have cb : decide ((k : Int) < (i : Int)) = true := decide_eq_true hltz
                have q0 : 0 ≤ (k : Int) := by omega
                have q1 : (k : Int) < (l.length : Int) := by omega
                obtain ⟨_, ea, hxs⟩ := Kd.at_bool HS.out (k : Int) q0 q1
                cases ea
                obtain ⟨_, eb, hxt⟩ := Kd.at_bool HT.out (k : Int) q0 q1
                cases eb
                have e1 : rdOf false (V.smoothZ l) (k : Int) = V.sm l k := by unfold rdOf; rw [Int.toNat_natCast]; exact V.smz_at hm (by omega)
                have e2 : rdOf false (V.smoothZ (l.set i x)) (k : Int) = V.sm l k := by unfold rdOf; rw [Int.toNat_natCast, V.smz_at hmM (by rw [HML.out]; omega)]; exact V.set_ahead hlt
                rw [e1, Int.toNat_natCast] at hxs
                rw [e2, Int.toNat_natCast] at hxt
                clear e1 e2
                generalize V.sm l k = b at hxs hxt
                have hbb : (b != b) = false := by cases b <;> rfl
                go_wp2
                go_quiet (fail)
                go_wp2
                go_roundg (i - (k + 1))
                case measure => omega
                case rel => exact ⟨k + 1, by go_num, by omega, by omega, ⟨Kd.C_drewN HS.out _⟩, ⟨Kd.C_drewN HT.out _⟩, ⟨pw_below_drewN HB.out _⟩⟩
              · have hltz : ¬ (k : Int) < (i : Int) := by omega
                have cb : decide ((k : Int) < (i : Int)) = false := decide_eq_false hltz
                go_wp2
                subst hP
                exact ⟨rfl, HB.out⟩

end Go.Proofs.Yteekdggainficaa.X
