/- Texts of this proof, laid together by wip/tools/pack.py: TP4. -/
import Derived.Test.YtdklknfgcepcbaaGreatZ43
namespace Go.Proofs.YtdklknfgcepcbaaGreat.X
open Go.RowKit Go.Proofs.YtdklknfgcepcbaaGreatW.PrintWords Go.Proofs.YtdklknfgcepcbaaGreatW.PrintLast Go.Proofs.YtdklknfgcepcbaaGreatW.PrintMore
set_option linter.unusedSimpArgs false
set_option linter.unusedVariables false
set_option maxHeartbeats 2000000
set_option maxRecDepth 20000
theorem T.Head.eq_of {h g : T.Head} (e : h.eq g = true) : h = g := by
  cases h
  cases g
  simp only [T.Head.eq, Bool.and_eq_true, beq_iff_eq] at e
  obtain ⟨h1, h2, h3, h4, h5, h6, h7, h8⟩ := e
  subst h1 h2 h3 h4 h5 h6 h7 h8
  rfl
theorem T.wk_tok : T.tOk 545259519 = true := by decide +kernel
theorem T.wk_no : T.hmay (T.hat (T.NX 545259519) 0) = false := by decide +kernel
theorem T.wk_yes : T.hmay (T.hat (T.NX 545259519) 1) = true := by decide +kernel
theorem T.wk_r0 : (T.hread (T.hput (T.hfirst 545259519))).eq (T.hfirst 545259519) = true := by decide +kernel
theorem T.wk_r1 : (T.hread (T.hput T.H2)).eq T.H2 = true := by decide +kernel
theorem T.wk_z : (T.hid T.H2 == T.z32) = false := by decide +kernel
theorem T.wk_h : (T.NX 545259519).height = 1 := by
  show IntKind.i64.wrap (0 + 1) = 1
  exact T.w64 (by decide) (by decide)
theorem T.wk_b : (T.NX 545259519).bits = 545259519 := rfl
theorem T.wk_second : T.Second 545259519 := by
  refine ⟨by decide, by decide, T.wk_tok, ?_, fun n hn => ⟨?_, ?_, ?_⟩, T.wk_no, T.wk_yes⟩
  · rw [T.wk_h]; decide
  · show -9223372036854775808 ≤ (T.NX 545259519).height ∧ (T.NX 545259519).height < 9223372036854775808
    rw [T.wk_h]; decide
  · show 0 ≤ (T.NX 545259519).bits ∧ (T.NX 545259519).bits < 4294967296
    rw [T.wk_b]; decide
  · show (0 : Int) ≤ (n : Int) ∧ (n : Int) < 18446744073709551616
    omega
theorem T.wake : T.Wake := by
  refine ⟨T.wk_second, T.wk_h, ?_, rfl, ?_, T.Head.eq_of T.wk_r0, T.Head.eq_of T.wk_r1, ?_, T.wk_z⟩
  · show T.lnext [] (T.hid (T.hfirst 545259519)) (T.hlevel (T.hfirst 545259519)) = _
    unfold T.lnext
    rfl
  · have h : T.H2.height = 1 := T.wk_h
    unfold T.Head.fit
    rw [h]
    rfl
  · unfold T.hlevel
    have hb : (T.hfirst 545259519).bits = 545259519 := rfl
    have hf : (T.hfirst 545259519).fit = true := rfl
    rw [hb, hf, T.wk_tok, Bool.and_self, if_pos rfl, if_pos (show (T.hfirst 545259519).height = 0 from rfl)]
end Go.Proofs.YtdklknfgcepcbaaGreat.X
