/-
  Layer 15's awake, walked: it is true.
-/
import Derived.Test.YtjlfoiocceepjaaDoorWhy
import Derived.Test.YtjlfoiocceepjaaDoorRea
import Derived.Test.YtjlfoiocceepjaaDoorRPack
namespace Go.Proofs.YtjlfoiocceepjaaDoor
open Go.RowKit Go.Proofs.YtjlfoiocceepjaaDoorW.PrintWords Go.Proofs.YtjlfoiocceepjaaDoorW.PrintLast Go.Proofs.YtjlfoiocceepjaaDoorW.PrintMore
set_option linter.unusedVariables false
set_option linter.unusedSimpArgs false

def n6 : Nat → Int := fun k => if k = 0 then 6 else 0
theorem n6_good : Good n6 [] 0 := ⟨by decide, by decide, (fun k hk => by unfold n6; split <;> omega), by decide, (fun t ht => by cases ht), by decide⟩
theorem n6_text : msgL n6 [] [] = [6, 0, 0, 0, 0, 0, 0, 0, 0, 0, 0, 0] := by decide +kernel
theorem thanks_write (V : World) : Calls Tryd.prog 29 #[.agg #[.int .i64 6, .int .i64 0, .int .i64 0, .int .i64 0, .int .i64 0, .int .i64 0, .int .i64 0, .int .i64 0, .int .i64 0, .int .i64 0, .slice none 0 0, .string ⟨#[]⟩]] V fun e w' => e = .returned (.tuple #[.string (str (packL [6, 0, 0, 0, 0, 0, 0, 0, 0, 0, 0, 0])), .nilIface]) ∧ Below V.heap.size V w' := by
  have h := write_ok n6 none 0 [] ⟨#[]⟩ V (Kd.C_nil _ _) (Nat.le_refl _) (by omega) n6_good
  have e : msgL n6 [] (⟨#[]⟩ : ByteArray).data.toList = [6, 0, 0, 0, 0, 0, 0, 0, 0, 0, 0, 0] := n6_text
  rw [e] at h
  exact h
theorem none_read (V : World) : Calls Tryd.prog 33 #[.string ⟨#[]⟩] V fun e w' => e = .returned (.tuple #[.agg zeroC, .iface 69 (.agg #[.int .i64 0, .iface 41 (.agg #[.int .i64 0, .int .i64 11])])]) ∧ Below V.heap.size V w' :=
  read_err [] 11 0 (by decide) (by simp) (by decide +kernel) V

set_option maxRecDepth 100000 in
set_option maxHeartbeats 4000000 in
theorem awake5_any (w : World) (hg : Gl w) : Calls Tryd.prog 30 #[] w fun e w' => e = .returned (.bool true) ∧ Below w.heap.size w w' := by
  have HG := Lib.hid hg
  obtain ⟨S, hS⟩ : ∃ S, S = str (packL [6, 0, 0, 0, 0, 0, 0, 0, 0, 0, 0, 0]) := ⟨_, rfl⟩
  have H1 := Lib.hid thanks_write
  rw [← hS] at H1
  have H2 := Lib.hid none_read
  have H3 : Hid (∀ V, Calls Tryd.prog 19 #[.string ⟨#[6, 0, 0, 0, 0, 0, 0, 0, 0, 0, 0, 0]⟩] V fun e w' => e = .returned (.string S) ∧ Below V.heap.size V w') := Lib.hid (fun V => by rw [hS]; exact rpack_any [6, 0, 0, 0, 0, 0, 0, 0, 0, 0, 0, 0] V (by decide))
  unfold zeroC msgC at H2
  have hu48 := Tryd.underlying48
  clear hg hS
  go_enter Tryd.func30, Tryd.ntmps30
  go_wp2_with (first
    | (go_at_call 29; (with_reducible refine (H1.out _).mono ?_); rintro e w1 ⟨rfl, hb⟩; have HB1 := Lib.hid hb; have HG1 := Lib.hid (HG.out.out hb); clear hb)
    | (go_at_call 33; (with_reducible refine (H2.out _).mono ?_); rintro e w2 ⟨rfl, hb⟩; have HB2 := Lib.hid (HB1.out.trans (hb.mono HB1.out.size)); have HG2 := Lib.hid (HG1.out.out hb); clear hb)
    | ((with_reducible refine gate_dst (N := 3) rfl ?_); refine box_event rfl (N := 3) rfl (cs := zeroC) (t := 48) ?hr ?_; (case hr => first | (go_simp; done) | (go_simp; rfl)); intro g hg W hbox hb; have HGe := Lib.hid (Nat.le_of_eq hg.symm); have HGs := Lib.hid (show g < W.heap.size from Blk.lt hbox); clear hg; have HX := Lib.hid (show Blk W g 48 zeroC from hbox); have HB3 := Lib.hid (HB2.out.trans (hb.mono HB2.out.size)); have HG3 := Lib.hid (HG2.out.out hb); have HL3 := Lib.hid (Nat.le_trans HB2.out.size HGe.out); clear hb hbox)
    | (refine wpList_store_part _ rfl (.tmp 3) (.tmp 12) 48 rfl g 0 zeroC rfl rfl sizeMsg rfl 48 _ HX.out (Nat.le_refl _) zeroC rfl ?_; intro w4 hb4 hfr; have HB4 := Lib.hid (HB3.out.trans (hfr.below HL3.out)); have HG4 := Lib.hid (HG3.out.below (hfr.below (Nat.le_refl _)) (Nat.lt_of_lt_of_le HG.out.pos HL3.out)); clear hb4 hfr)
    | (go_at_call 19; (with_reducible refine (H3.out _).mono ?_); rintro e w5 ⟨rfl, hb⟩; have HB5 := Lib.hid (HB4.out.trans (hb.mono HB4.out.size)); have HG5 := Lib.hid (HG4.out.out hb); clear hb)
    | (go_at_call 36; (with_reducible refine (part_bf 0 0 11 _ HG5.out).mono ?_); rintro e w6 ⟨rfl, hb⟩; have HB6 := Lib.hid (HB5.out.trans (hb.mono HB5.out.size)); have HG6 := Lib.hid (HG5.out.out hb); clear hb)
    | (go_at_call 22; (with_reducible refine (why_bf 0 0 11 _ HG6.out).mono ?_); rintro e w7 ⟨rfl, hb⟩; have HB7 := Lib.hid (HB6.out.trans (hb.mono HB6.out.size)); clear hb)
    | fail)
  go_ret
  exact ⟨rfl, HB7.out⟩
end Go.Proofs.YtjlfoiocceepjaaDoor
