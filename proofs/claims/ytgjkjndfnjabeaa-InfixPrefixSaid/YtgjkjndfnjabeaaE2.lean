/- super.climb, whatever it calls; super.From. -/
import Derived.Test.YtgjkjndfnjabeaaE0
import Derived.Test.YtgjkjndfnjabeaaE1
import Derived.Shelf.Abstract
import Derived.Test.YtgjkjndfnjabeaaR
namespace Go.Proofs.Ytgjkjndfnjabeaa.X
open Go.RowKit Go.Shelf Go.Proofs.YtgjkjndfnjabeaaW.PrintWords Go.Proofs.YtgjkjndfnjabeaaW.PrintLast Go.Proofs.YtgjkjndfnjabeaaW.PrintMore

/-- The places of round i. -/
def S.climbL (l : List Int) (m k : Int) (i : Nat) : List Int := S.upZ l (S.climbAt l m k i) ((l.length : Int) - k) (31 - (i : Int))
theorem S.climbAt_succ (l : List Int) (m k : Int) (i : Nat) : S.climbAt l m k (i + 1) = if m < ((S.climbL l m k i).length : Int) then rd (S.climbL l m k i) (((S.climbL l m k i).length : Int) - m) else S.climbAt l m k i := rfl

theorem E.R_keeps {e : Nat} {base B : Nat} {ok : Nat → Prop} {v : Value} {xs : List Int} {W W' : World} (h : Kd.R (Kd.int .i64) e W base ok v xs) (hb : B ≤ base) (hk : E.KeepsOn B W W') : Kd.R (Kd.int .i64) e W' base ok v xs :=
  Kd.R_mono (Kd.R_move (Kd.R_bound h) (fun k hk1 => hk.2 k (Nat.le_trans hb hk1.2.1) hk1.2.2.1)) (fun _ hk1 => hk1.1)
theorem E.cell_keeps {e : Nat} {base B c : Nat} {ok : Nat → Prop} {ad : Addr} {xs : List Int} {W W' : World} (h : Kd.R (Kd.int .i64) e W base ok (.slice (some ad) xs.length c) xs) (hb : B ≤ base) (hk : E.KeepsOn B W W') (i : Int) (h0 : 0 ≤ i) (h1 : i < xs.length) :
    W'.cell? (ad.add i.toNat) = some (.int .i64 (rd xs i)) := by
  obtain ⟨A, c', e, _, hC⟩ := Kd.R_reads (E.R_keeps h hb hk)
  injection e with e1 e2 e3
  subst e1
  obtain ⟨ad', e1, hx⟩ := Kd.at_int hC i h0 h1
  injection e1 with e1
  subst e1
  exact hx

set_option maxHeartbeats 1000000 in
theorem E.climb_calls (g : Nat) (lb : Array Value) (eg : ∀ args w, (callFunc g args).run Try.prog w = .ok (.enter g args) w)
    (A0 : Option Addr) (c0 : Nat) (l0 : List Int) (a1 a2 : Int) (w0 w : World) (B : Nat) (hr0 : Kd.C (Kd.int .i64) w0 A0 l0.length l0) (hc0 : l0.length ≤ c0) (hlen : l0.length ≤ 200) (h1 : 1 ≤ a1) (h2 : 1 ≤ a2) (h3 : a2 < (l0.length : Int)) (h1' : a1 ≤ 9223372036854775807)
    (J : Nat → World → Prop) (hJup : ∀ i W W', J i W → Below W.heap.size W W' → J i W') (hJw : ∀ i W, J i W → Below w0.heap.size w0 W ∧ B ≤ W.heap.size)
    (hcb : ∀ (i : Nat) (A : Option Addr) (c : Nat) (W : World), i < 32 → J i W → Kd.C (Kd.int .i64) W A (S.climbL l0 a1 a2 i).length (S.climbL l0 a1 a2 i) → (∀ ad, A = some ad → B ≤ ad.block) →
      Calls Try.prog g (#[.int .i64 (31 - (i : Int)), .int .i64 (S.climbAt l0 a1 a2 i), .slice A (S.climbL l0 a1 a2 i).length c] ++ lb) W fun e W' => e = .returned (.tuple #[]) ∧ J (i + 1) W' ∧ E.KeepsOn B W W')
    (h0 : J 0 w) :
    Calls Try.prog 28 #[.slice A0 l0.length c0, .int .i64 a1, .int .i64 a2, .func (.func g) #[] lb] w fun e w' => e = .returned (.tuple #[]) ∧ J 32 w' := by
  have HR0 := Aside0.mk hr0
  have HC0 := Aside0.mk hc0
  have HJU := Aside0.mk hJup
  have HJW := Aside0.mk hJw
  have HCB := Aside0.mk hcb
  have HJ0 := Aside0.mk h0
  clear hr0 hc0 hJup hJw hcb h0
  go_enter Try.func28, Try.ntmps28
  go_wp2
  go_loopg [8, 12] 32 (fun kq v8 v12 w' => ∃ (i : Nat), v12 = .int .i64 i ∧ v8 = .int .i64 (S.climbAt l0 a1 a2 i) ∧ i ≤ 32 ∧ 32 - i ≤ kq ∧ Aside0 (J i w'))
  case atStart => exact ⟨0, rfl, rfl, by omega, by omega, HJ0⟩
  case round =>
    obtain ⟨i, rfl, rfl, hi, hg, HJ⟩ := hrel
    clear HJ0
    by_cases hlt : i < 32
    · have hltz : (i : Int) < 32 := by omega
      have cb : decide ((i : Int) < 32) = true := by simpa using hltz
      go_wp2_with fail
      refine (super_Up.calls 300 A0 c0 l0 (S.climbAt l0 a1 a2 i) ((l0.length : Int) - a2) (31 - (i : Int)) (S.climbL l0 a1 a2 i) wr (Kd.C_below HR0.out (HJW.out _ _ HJ.out).1) HC0.out (E.up_f l0 _ _ _ (by omega) 300 (by omega))).mono ?_
      rintro e w1 ⟨v, rfl, hR, hB⟩
      have HJ1 := Aside0.mk (HJU.out i wr w1 HJ.out hB)
      have hBw := (HJW.out _ _ HJ.out).2
      obtain ⟨A1, c1, rfl, hle, hC⟩ := Kd.R_reads hR
      have hA1 : ∀ ad, A1 = some ad → B ≤ ad.block := fun ad e => by subst e; exact Nat.le_trans hBw (Kd.R_base hR _ rfl)
      have HCC := Aside0.mk (HCB.out i A1 c1 w1 hlt HJ1.out hC hA1)
      have hmx := Kd.C_max hC
      have hS := S.climbAt_succ l0 a1 a2 i
      have HS := Aside0.mk hS
      have HC := Aside0.mk hC
      have HR := Aside0.mk hR
      clear hS hC hA1 hR hB
      generalize hL : S.climbL l0 a1 a2 i = L at *
      have HL := Aside0.mk hL
      clear hL
      by_cases hm : a1 < (L.length : Int)
      · have cm : decide (a1 < (L.length : Int)) = true := by simpa using hm
        obtain ⟨ad, e1, _⟩ := Kd.at_int HC.out 0 (by omega) (by omega)
        cases e1
        have i0 : 0 ≤ (L.length : Int) - a1 := by omega
        have i1 : (L.length : Int) - a1 < (L.length : Int) := by omega
        go_wp2_with (go_at_fn g; refine HCC.out.mono ?_; rintro e w2 ⟨rfl, hJ2, hK⟩; have hx := E.cell_keeps HR.out hBw hK _ i0 i1; have HJ2 := Aside0.mk hJ2; clear hJ2 hK)
        go_roundg (31 - i)
        case measure => omega
        case rel => exact ⟨i + 1, by go_num, by rw [HS.out, if_pos hm], by omega, by omega, HJ2⟩
      · have cm : decide (a1 < (L.length : Int)) = false := by simpa using hm
        go_wp2_with (go_at_fn g; refine HCC.out.mono ?_; rintro e w2 ⟨rfl, hJ2, hK⟩; have HJ2 := Aside0.mk hJ2; clear hJ2 hK)
        go_roundg (31 - i)
        case measure => omega
        case rel => exact ⟨i + 1, by go_num, by rw [HS.out, if_neg (by omega)], by omega, by omega, HJ2⟩
    · obtain rfl : i = 32 := by omega
      go_wp2
      go_end0
      exact ⟨rfl, HJ.out⟩

end Go.Proofs.Ytgjkjndfnjabeaa.X
