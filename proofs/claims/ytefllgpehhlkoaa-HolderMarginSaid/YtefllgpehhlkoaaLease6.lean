/-
  The lease (layer 18): Grant whole.
-/
import Derived.Test.YtefllgpehhlkoaaLease5
namespace Go.Proofs.Ytefllgpehhlkoaa
open Go.RowKit Go.Maps

theorem grantL_any (w : World) (v : Value) (h : LS) (now term place holder : Int) (hv : LIs w v h) (hk : (Lit.int .i64 place).wf = true) (hlo : -9223372036854775808 ≤ h.epoch) (hn : (lasting h.hs now).length < 1000000) :
    Calls Try.prog 34 #[v, .int .i64 now, .int .i64 term, .int .i64 place, .int .i64 holder] w (LAsked w (grantL h now term place holder)) := by
  obtain ⟨ep, qu, es⟩ := h
  obtain ⟨m, rfl, h1⟩ := hv
  have hbad : (term < 1 ∨ 1048576 < term ∨ now < 0 ∨ 1099511627776 < now ∨ holder < 0) → Hid (grantL ⟨ep, qu, es⟩ now term place holder = (⟨ep, qu, es⟩, 0, 1)) := fun hc => by
    show grantL _ _ _ _ _ = _
    unfold grantL; rw [if_pos hc]
  by_cases c0 : term < 1
  · exact grantL_arg0 w ep qu now term place holder es m h1 (decide_eq_true c0) (hbad (by omega))
  have f0 : decide (term < 1) = false := decide_eq_false c0
  by_cases c1 : 1048576 < term
  · exact grantL_arg1 w ep qu now term place holder es m h1 f0 (decide_eq_true c1) (hbad (by omega))
  have f1 : decide (1048576 < term) = false := decide_eq_false c1
  by_cases c2 : now < 0
  · exact grantL_arg2 w ep qu now term place holder es m h1 f0 f1 (decide_eq_true c2) (hbad (by omega))
  have f2 : decide (now < 0) = false := decide_eq_false c2
  by_cases c3 : 1099511627776 < now
  · exact grantL_arg3 w ep qu now term place holder es m h1 f0 f1 f2 (decide_eq_true c3) (hbad (by omega))
  have f3 : decide (1099511627776 < now) = false := decide_eq_false c3
  by_cases c4 : holder < 0
  · exact grantL_arg4 w ep qu now term place holder es m h1 f0 f1 f2 f3 (decide_eq_true c4) (hbad (by omega))
  have f4 : decide (holder < 0) = false := decide_eq_false c4
  have hnb : ¬ (term < 1 ∨ 1048576 < term ∨ now < 0 ∨ 1099511627776 < now ∨ holder < 0) := by omega
  by_cases cq : now < qu
  · exact grantL_late w ep qu now term place holder es m h1 f0 f1 f2 f3 f4 (decide_eq_true cq) (by show grantL _ _ _ _ _ = _; unfold grantL; rw [if_neg hnb, if_pos cq])
  have fq : decide (now < qu) = false := decide_eq_false cq
  have hmn : m = none → mget (lasting es now) place = none := fun e => by
    subst e
    have : es = [] := h1
    subst this
    rfl
  by_cases hbig : 1099511627776 ≤ ep
  · have fb : decide (1099511627776 ≤ ep) = true := decide_eq_true hbig
    cases hm : mget (lasting es now) place with
    | none =>
      have hE : Hid (grantL ⟨ep, qu, es⟩ now term place holder = (⟨ep, qu, es⟩, 0, 2)) := by show grantL _ _ _ _ _ = _; unfold grantL; rw [if_neg hnb, if_neg cq, if_neg (by rw [hm]; simp), if_pos hbig]
      by_cases hmm : m = none
      · exact grantL_big0 w ep qu now term place holder es m h1 hk f0 f1 f2 f3 f4 fq hmm hm fb hE
      · exact grantL_big1 w ep qu now term place holder es m h1 hk f0 f1 f2 f3 f4 fq hmm hm fb hE
    | some x =>
      obtain ⟨x0, x1, x2⟩ := x
      have hmm : m ≠ none := fun e => by rw [hmn e] at hm; cases hm
      by_cases hx : x0 = holder
      · subst hx
        exact grantL_big2 w ep qu now term place x0 es m h1 hk f0 f1 f2 f3 f4 fq hmm x1 x2 hm fb (by show grantL _ _ _ _ _ = _; unfold grantL; rw [if_neg hnb, if_neg cq, if_neg (by rw [hm]; simp), if_pos hbig])
      · exact grantL_busy w ep qu now term place holder es m h1 hk f0 f1 f2 f3 f4 fq hmm x0 x1 x2 hm hx (decide_eq_false hx) (by show grantL _ _ _ _ _ = _; unfold grantL; rw [if_neg hnb, if_neg cq, if_pos ⟨_, hm, hx⟩])
  · have fb : decide (1099511627776 ≤ ep) = false := decide_eq_false hbig
    cases hm : mget (lasting es now) place with
    | none =>
      have hE : grantL ⟨ep, qu, es⟩ now term place holder = (⟨ep + 1, qu, mput (lasting es now) place (holder, ep + 1, now + term)⟩, ep + 1, 0) := by unfold grantL; rw [if_neg hnb, if_neg cq, if_neg (by rw [hm]; simp), if_neg hbig]
      by_cases hmm : m = none
      · have he : lasting es now = [] := by
          subst hmm
          have : es = [] := h1
          subst this
          rfl
        rw [he] at hE
        exact grantL_ok0 w ep qu now term place holder es m h1 hk f0 f1 f2 f3 f4 fq hmm hm fb hlo hn hE
      · exact grantL_ok1 w ep qu now term place holder es m h1 hk f0 f1 f2 f3 f4 fq hmm hm fb hlo hn hE
    | some x =>
      obtain ⟨x0, x1, x2⟩ := x
      have hmm : m ≠ none := fun e => by rw [hmn e] at hm; cases hm
      by_cases hx : x0 = holder
      · subst hx
        exact grantL_ok2 w ep qu now term place x0 es m h1 hk f0 f1 f2 f3 f4 fq hmm x1 x2 hm fb hlo hn (by show grantL _ _ _ _ _ = _; unfold grantL; rw [if_neg hnb, if_neg cq, if_neg (by rw [hm]; simp), if_neg hbig])
      · exact grantL_busy w ep qu now term place holder es m h1 hk f0 f1 f2 f3 f4 fq hmm x0 x1 x2 hm hx (decide_eq_false hx) (by show grantL _ _ _ _ _ = _; unfold grantL; rw [if_neg hnb, if_neg cq, if_pos ⟨_, hm, hx⟩])
end Go.Proofs.Ytefllgpehhlkoaa
