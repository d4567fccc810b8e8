/-
  The document's Check of a message, walked.
-/
import Derived.Test.YtjlfoiocceepjaaDoorSame
import Derived.Test.YtjlfoiocceepjaaDoorMsgL
namespace Go.Proofs.YtjlfoiocceepjaaDoor
open Go.RowKit Go.Proofs.YtjlfoiocceepjaaDoorW.PrintWords Go.Proofs.YtjlfoiocceepjaaDoorW.PrintLast Go.Proofs.YtjlfoiocceepjaaDoorW.PrintMore
set_option linter.unusedVariables false
set_option linter.unusedSimpArgs false

/-- the document's answer: 0, -1 if it is right -/
def rchk (r : Int × Int) : Int × Int := if r.2 = 0 then (0, -1) else (r.2, r.1)
def RetQ (r : Int × Int) (w : World) (e : Ending) (w' : World) : Prop := e = .returned (.tuple #[.int .i64 (rchk r).1, .int .i64 (rchk r).2]) ∧ Below w.heap.size w w'
theorem RetQ.some {r : Int × Int} {p q : Int} {w w' : World} (h : r = (p, q)) (hq : q ≠ 0) (hb : Below w.heap.size w w') : RetQ r w (.returned (.tuple #[.int .i64 q, .int .i64 p])) w' := ⟨by rw [h]; unfold rchk; rw [if_neg hq], hb⟩
theorem RetQ.none {r : Int × Int} {w w' : World} (h : r = (0, 0)) (hb : Below w.heap.size w w') : RetQ r w (.returned (.tuple #[.int .i64 0, .int .i64 (-1)])) w' := ⟨by rw [h]; rfl, hb⟩
/-- a number out of the row -/
theorem run_index_numbers (n : Nat → Int) (k : Nat) (hk : k < 10) (W : World) : (Instr.index 52 (.agg #[.int .i64 (n 0), .int .i64 (n 1), .int .i64 (n 2), .int .i64 (n 3), .int .i64 (n 4), .int .i64 (n 5), .int .i64 (n 6), .int .i64 (n 7), .int .i64 (n 8), .int .i64 (n 9)]) (.int .i64 (k : Int))).run Tryd.prog W = .ok (.int .i64 (n k)) W := by
  have h1 := fun W => run_sizeOf (P := Tryd.prog) (T := 3) (n := 1) (by kernel_rfl) W
  have h2 := part_i64 (P := Tryd.prog) Tryd.underlying3 #[.int .i64 (n 0), .int .i64 (n 1), .int .i64 (n 2), .int .i64 (n 3), .int .i64 (n 4), .int .i64 (n 5), .int .i64 (n 6), .int .i64 (n 7), .int .i64 (n 8), .int .i64 (n 9)] k _ (numsC n k hk) W
  have h3 : (0 : Int) ≤ (k : Int) ∧ (k : Int) < ((10 : Nat) : Int) := by omega
  simp only [Instr.index, asIntOf, Sem.run_bind, Sem.run_pure, Result.andThen_ok, run_underlying Tryd.underlying52, if_pos h3, h1, Nat.mul_one, Int.toNat_natCast, h2]
set_option maxRecDepth 100000 in
set_option maxHeartbeats 4000000 in
theorem rcheck_kind (n : Nat → Int) (A : Option Addr) (L c : Nat) (s : ByteArray) (w : World) (h : n 0 < 1 ∨ 10 < n 0) :
    Calls Tryd.prog 35 #[.agg (msgC n (.slice A L c) s)] w (RetQ (1, 13) w) := by
  have HB0 := Lib.hid (Below.refl w.heap.size w)
  unfold msgC
  have hu54 := Tryd.underlying54
  rcases (show n 0 < 1 ∨ (¬ n 0 < 1 ∧ 10 < n 0) by omega) with h | ⟨h, h'⟩
  all_goals
    go_enter Tryd.func35, Tryd.ntmps35
    go_wp2_with (first
      | ((with_reducible refine gate_dst (N := 1) rfl ?_); refine box_event rfl (N := 1) rfl (cs := msgC n (.slice A L c) s) (t := 54) ?hr ?_; (case hr => first | (go_simp; done) | (go_simp; rfl)); intro g hg W hbox hb; clear hg; have c0 : W.cell? ⟨g, 0, none⟩ = some (.int .i64 (n 0)) := Blk.cell hbox 0; have HX := Lib.hid (show Blk W g 54 (msgC n (.slice A L c) s) from hbox); have HB := Lib.hid hb; clear hb hbox)
      | fail)
    go_ret2
    exact RetQ.some rfl (by decide) HB.out
set_option maxRecDepth 100000 in
set_option maxHeartbeats 4000000 in
theorem rcheck_rest (n : Nat → Int) (A : Option Addr) (L c : Nat) (ts : List Int) (s : ByteArray) (w : World) (hr : KI.C w A L ts) (hL : ts.length = L) (hc : L ≤ c) (hcm : c ≤ 9223372036854775807) (hs : s.size ≤ 9223372036854775807) (h0 : ¬ n 0 < 1) (h0' : ¬ 10 < n 0) (r : Int × Int)
    (hq : Hid (r = chkN n (if 128 < L then (11, 2) else chkT (if 50000 < s.size then (12, 2) else (0, 0)) ts) 10 0)) :
    Calls Tryd.prog 35 #[.agg (msgC n (.slice A L c) s)] w (RetQ r w) := by
  have HR := Lib.hid hr
  have HL := Lib.hid hL
  clear hr hL
  have hu54 := Tryd.underlying54
  unfold msgC
  go_enter Tryd.func35, Tryd.ntmps35
  go_wp2_with (first
    | ((with_reducible refine gate_dst (N := 1) rfl ?_); refine box_event rfl (N := 1) rfl (cs := msgC n (.slice A L c) s) (t := 54) ?hr ?_; (case hr => first | (go_simp; done) | (go_simp; rfl)); intro g hg W hbox hb; clear hg; have c0 : W.cell? ⟨g, 0, none⟩ = some (.int .i64 (n 0)) := Blk.cell hbox 0; have HX := Lib.hid (show Blk W g 54 (msgC n (.slice A L c) s) from hbox); have HB := Lib.hid hb; clear hb hbox)
    | ((with_reducible refine gate_dst (N := 19) rfl ?_); refine wpList_load_part _ rfl (.tmp 18) 52 rfl g 0 #[.int .i64 (n 0), .int .i64 (n 1), .int .i64 (n 2), .int .i64 (n 3), .int .i64 (n 4), .int .i64 (n 5), .int .i64 (n 6), .int .i64 (n 7), .int .i64 (n 8), .int .i64 (n 9)] rfl aggArr sizeArr 54 _ HX.out ?_ ?_; exact numsC_part n _ _)
    | fail)
  have HC1 := Lib.hid (Kd.C_below HR.out HB.out)
  clear HR
  go_loop [20] (fun kv => ∃ k : Nat, k ≤ 10 ∧ kv = .int .i64 (k : Int) ∧ Hid (r = chkN n (if 128 < L then (11, 2) else chkT (if 50000 < s.size then (12, 2) else (0, 0)) ts) (10 - k) k)) (fun kv => 10 - (intOf kv).toNat)
  case atStart => exact ⟨0, by omega, rfl, hq⟩
  case round =>
    clear hq
    obtain ⟨k, hk, rfl, hq⟩ := hrel
    by_cases hlt : k < 10
    · have hidx := fun W => run_index_numbers n k hlt W
      have hkI : (k : Int) < 10 := by omega
      obtain ⟨x, hxe⟩ : ∃ x, x = n k := ⟨_, rfl⟩
      rw [← hxe] at hidx
      by_cases hbad : badN (n k)
      · have HQ := Lib.hid (hq.out.trans (chkN_bad hbad (by omega)))
        rw [← hxe] at hbad
        have HXE := Lib.hid hxe
        unfold badN at hbad
        clear hxe
        rcases (show x < 0 ∨ (¬ x < 0 ∧ 1099511627776 < x) by omega) with hz | ⟨hz, hz'⟩
        all_goals
          clear hbad
          go_wp2_with fail
          go_ret2
          exact RetQ.some HQ.out (by decide) HB.out
      · have HQ := Lib.hid (hq.out.trans (chkN_ok hbad (by omega)))
        rw [← hxe] at hbad
        have HXE := Lib.hid hxe
        unfold badN at hbad
        clear hxe
        have hz : ¬ x < 0 := by omega
        have hz' : ¬ 1099511627776 < x := by omega
        clear hbad
        go_wp2_with fail
        go_round
        case rel => exact ⟨k + 1, by omega, by go_num, Lib.hid (by rw [show 10 - (k + 1) = 10 - k - 1 by omega]; exact HQ.out)⟩
        case measure => simp [intOf]; omega
    · obtain rfl : k = 10 := by omega
      have HQ : Hid (r = (if 128 < L then (11, 2) else chkT (if 50000 < s.size then (12, 2) else (0, 0)) ts)) := Lib.hid hq.out
      clear hq
      have c10 : W.cell? ⟨g, 10, none⟩ = some (.slice A L c) := HX.out.cell 10
      by_cases hbig : 128 < L
      · have HQ := Lib.hid (HQ.out.trans (if_pos hbig))
        have hbI : (128 : Int) < (L : Int) := by omega
        go_wp2_with fail
        go_ret2
        exact RetQ.some HQ.out (by decide) HB.out
      · have HQ := Lib.hid (HQ.out.trans (if_neg hbig))
        have hbI : ¬ (128 : Int) < (L : Int) := by omega
        go_wp2_with fail
        go_loop [40] (fun kv => ∃ k : Nat, k ≤ L ∧ kv = .int .i64 (k : Int) ∧ Hid (r = chkT (if 50000 < s.size then (12, 2) else (0, 0)) (ts.drop k))) (fun kv => L - (intOf kv).toNat)
        case atStart => exact ⟨0, by omega, rfl, by rw [List.drop_zero]; exact HQ⟩
        case round =>
          clear HQ
          obtain ⟨k, hk, rfl, hq⟩ := hrel
          by_cases hlt : k < L
          · obtain ⟨ad, hA, had⟩ := KI_at HC1.out (by omega)
            have hx := had k hlt
            have hlt2 : k < ts.length := by rw [HL.out]; exact hlt
            subst hA
            have hkI : (k : Int) < (L : Int) := by omega
            obtain ⟨x, hxe⟩ : ∃ x, x = rd ts (k : Int) := ⟨_, rfl⟩
            rw [← hxe] at hx
            clear had
            by_cases hbad : badT (rd ts (k : Int))
            · have HQ := Lib.hid (hq.out.trans (chkT_bad hlt2 hbad))
              rw [← hxe] at hbad
              have HXE := Lib.hid hxe
              unfold badT at hbad
              clear hxe hlt2
              rcases (show x < 0 ∨ (¬ x < 0 ∧ 255 < x) by omega) with hz | ⟨hz, hz'⟩
              all_goals
                clear hbad
                go_wp2_with fail
                go_ret2
                exact RetQ.some HQ.out (by decide) HB.out
            · have HQ := Lib.hid (hq.out.trans (chkT_ok hlt2 hbad))
              rw [← hxe] at hbad
              have HXE := Lib.hid hxe
              unfold badT at hbad
              clear hxe hlt2
              have hz : ¬ x < 0 := by omega
              have hz' : ¬ 255 < x := by omega
              clear hbad
              go_wp2_with fail
              go_round
              case rel => exact ⟨k + 1, by omega, by go_num, HQ⟩
              case measure => simp [intOf]; omega
          · obtain rfl : k = L := by omega
            have HQ : Hid (r = (if 50000 < s.size then (12, 2) else (0, 0))) := Lib.hid (by have := hq.out; rw [List.drop_of_length_le (Nat.le_of_eq HL.out)] at this; exact this)
            clear hq
            have c11 : W.cell? ⟨g, 11, none⟩ = some (.string s) := HX.out.cell 11
            by_cases hsz : 50000 < s.size
            · have HQ := Lib.hid (HQ.out.trans (if_pos hsz))
              have hbI : (50000 : Int) < (s.size : Int) := by omega
              go_wp2_with fail
              go_ret2
              exact RetQ.some HQ.out (by decide) HB.out
            · have HQ := Lib.hid (HQ.out.trans (if_neg hsz))
              have hbI : ¬ (50000 : Int) < (s.size : Int) := by omega
              go_wp2_with fail
              go_ret2
              exact RetQ.none HQ.out HB.out
theorem rcheck_any (n : Nat → Int) (A : Option Addr) (c : Nat) (ts : List Int) (s : ByteArray) (w : World) (hr : KI.C w A ts.length ts) (hc : ts.length ≤ c) (hcm : c ≤ 9223372036854775807) (hs : s.size ≤ 9223372036854775807) :
    Calls Tryd.prog 35 #[.agg (msgC n (.slice A ts.length c) s)] w (RetQ (chk n ts s.size) w) := by
  unfold chk
  by_cases h : n 0 < 1 ∨ 10 < n 0
  · rw [if_pos h]; exact rcheck_kind n A _ c s w h
  · rw [if_neg h]; exact rcheck_rest n A _ c ts s w hr rfl hc hcm hs (fun h1 => h (.inl h1)) (fun h1 => h (.inr h1)) _ (Lib.hid rfl)
end Go.Proofs.YtjlfoiocceepjaaDoor
