/-
  'xs[k:]' of ints at the operation, whatever the capacity.
-/
import Derived.Test.YtefllgpehhlkoaaRow
namespace Go.Proofs.Ytefllgpehhlkoaa
open Go.RowKit

/-- where 'xs[k:]' begins -/
def adr (a : Option Addr) (k cap : Nat) : Option Addr := if cap = k then a else a.map (·.add k)

theorem elem22 : Try.prog.elem 22 = 3 := by kernel_rfl
theorem run_from (w : World) (a : Option Addr) (len cap k : Nat) (hk : k ≤ len) : (Instr.sliceAt 22 (.slice a len cap) (some (.int .i64 k)) none none).run Try.prog w = .ok (.slice (adr a k cap) (len - k) (cap - k)) w := by
  have hu : Try.prog.underlying 22 = some (.slice (Try.prog.elem 22)) := by rw [elem22]; exact Try.underlying22
  rw [run_sliceAt_slice _ _ _ _ _ _ hu, run_slice_l _ _ _ _ _ hu .i64 k (by omega) (by omega), elem22]
  have hs : (sizeOf 3).run Try.prog w = .ok 1 w := by kernel_rfl
  rw [hs]
  simp only [Result.andThen, sliced, Int.toNat_natCast, Nat.mul_one]
  rfl
theorem Sl.from_ {w : World} {top cap : Nat} {a : Option Addr} {l : List Int} (h : Sl w top a cap l) (k : Nat) (hk : k ≤ l.length) : RowAt w top (adr a k cap) (l.drop k) := by
  by_cases hlt : k < l.length
  · have hle := h.le
    obtain ⟨_, _, rfl | ⟨b, o, rfl, hb, hc⟩⟩ := h
    · simp at hlt
    · refine .inr ⟨b, o + k, ?_, hb, fun i hi => ?_⟩
      · unfold adr
        rw [if_neg (by omega)]
        simp only [Option.map_some, Addr.add]
        by_cases h0 : k = 0
        · subst h0; simp
        · rw [if_neg h0]
      · rw [nth_drop, Nat.add_assoc]
        exact hc (k + i) (by simp at hi; omega)
  · exact .inl (by rw [List.drop_eq_nil_iff]; omega)

theorem wpList_from (w : World) {ops : Array Oper} {rest : List Oper} {o : Oper} {a : Act} {Q : Exit → Act → World → Prop} (hg : o.guard = none) (x l : Operand) (hop : o.op = Op.slice 22 x (some l) none none)
    (ad : Option Addr) (len cap k : Nat) (hx : a.eval x = .slice ad len cap) (hl : a.eval l = .int .i64 k) (hk : k ≤ len)
    (hK : wpList Try.prog ops Q rest (a.put o.dst (.slice (adr ad k cap) (len - k) (cap - k))) w) : wpList Try.prog ops Q (o :: rest) a w := by
  refine wpList_plain hg fun K' hK' => ?_
  have hrun := run_from w ad len cap k hk
  unfold Oper.wp
  simp [execOp, hop, hx, hl, hrun, Result.andThen]
  exact hK' _ _ hK
end Go.Proofs.Ytefllgpehhlkoaa
