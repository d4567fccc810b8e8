/-
  FrameFaults, walked.
-/
import Derived.Test.YtjlfoiocceepjaaDoorAwk
import Derived.Test.YtjlfoiocceepjaaDoorIs
import Derived.Test.YtjlfoiocceepjaaDoorPFrameFaultsx1
namespace Go.Proofs.YtjlfoiocceepjaaDoor
open Go.RowKit Go.Proofs.YtjlfoiocceepjaaDoorW.PrintWords Go.Proofs.YtjlfoiocceepjaaDoorW.PrintLast Go.Proofs.YtjlfoiocceepjaaDoorW.PrintMore
set_option linter.unusedVariables false
set_option linter.unusedSimpArgs false

/-- every number has a name, of at most eight letters -/
theorem name_some (e : Int) : ∃ r : ByteArray, PFrameFaults.api_Errno_Error.f e = some r ∧ r.size ≤ 8 := by
  unfold PFrameFaults.api_Errno_Error.f
  simp only [Option.bind_some]
  by_cases h0 : e ≥ 0
  · rw [if_pos h0]
    obtain ⟨n, rfl⟩ := Int.eq_ofNat_of_zero_le h0
    by_cases h1 : n < 18
    · rw [if_pos (by simp; omega), if_pos (by omega)]
      refine ⟨_, rfl, ?_⟩
      clear h0
      match n, h1 with
      | 0, _ => decide
      | 1, _ => decide
      | 2, _ => decide
      | 3, _ => decide
      | 4, _ => decide
      | 5, _ => decide
      | 6, _ => decide
      | 7, _ => decide
      | 8, _ => decide
      | 9, _ => decide
      | 10, _ => decide
      | 11, _ => decide
      | 12, _ => decide
      | 13, _ => decide
      | 14, _ => decide
      | 15, _ => decide
      | 16, _ => decide
      | 17, _ => decide
      | n + 18, h => exact absurd h (by omega)
    · rw [if_neg (by simp; omega)]
      exact ⟨_, rfl, by decide⟩
  · rw [if_neg h0]
    exact ⟨_, rfl, by decide⟩
theorem unwrap_f (p e : Int) (w : World) : Calls Tryd.prog 27 #[.agg #[.int .i64 p, .int .i64 e]] w fun ev w' => ev = .returned (.iface 33 (.int .i64 e)) ∧ Below w.heap.size w w' := by
  go_enter Tryd.func27, Tryd.ntmps27
  go_wp2
  go_ret
  exact ⟨rfl, (Below.refl _ _).alloc (Nat.le_refl _) _⟩
set_option maxRecDepth 100000 in
set_option maxHeartbeats 4000000 in
theorem faults_any (p e o : Int) (w : World) (hg : Gl w) : Calls Tryd.prog 8 #[.int .i64 p, .int .i64 e, .int .i64 o] w fun ev w' => ev = .returned (.bool true) ∧ Below w.heap.size w w' := by
  obtain ⟨r, hr, hrs⟩ := name_some e
  obtain ⟨m, hm⟩ : ∃ m : ByteArray, m = (⟨#[102, 114, 97, 109, 101, 58, 32]⟩ : ByteArray) ++ r := ⟨_, rfl⟩
  have HE := Lib.hid (fun V => PFrameFaults.api_Errno_Error.calls e r V hr)
  have HF := Lib.hid (fun V => PFrameFaults.frame_Fault_Error.calls p e ((⟨#[102, 114, 97, 109, 101, 58, 32]⟩ : ByteArray) ++ r) V (by unfold PFrameFaults.frame_Fault_Error.f; rw [hr]; simp only [Option.bind_some]; rw [if_pos (by omega)]))
  have HB : Hid (Blk (w.alloc (.cells #[.int .i64 p, .int .i64 e] 41)) w.heap.size 41 #[.int .i64 p, .int .i64 e]) := Lib.hid (Blk.new _ _ _ _ rfl)
  have HO : Hid (Below w.heap.size w (w.alloc (.cells #[.int .i64 p, .int .i64 e] 41))) := Lib.hid ((Below.refl _ _).alloc (Nat.le_refl _) _)
  have HG := Lib.hid (hg.alloc (.cells #[.int .i64 p, .int .i64 e] 41))
  have hee : (e == e) = true := beq_self_eq_true e
  clear hr hg hm m
  go_enter Tryd.func8, Tryd.ntmps8
  go_wp2_with (first
    | (go_at_call 18; (with_reducible refine (awake_any _ HG.out).mono ?_); rintro ev w1 ⟨rfl, hb⟩; have HB1 := Lib.hid (HB.out.out hb); have HO1 := Lib.hid (HO.out.trans (hb.mono HO.out.size)); have HG1 := Lib.hid (HG.out.out hb); have b0 := HB1.out.cell 0; have b1 := HB1.out.cell 1; simp at b0 b1; clear hb HB HO HG)
    | (go_at_call 22; (with_reducible refine (why_f p e _ HG1.out).mono ?_); rintro ev w2 ⟨rfl, hb⟩; have HB2 := Lib.hid (HB1.out.out hb); have HO2 := Lib.hid (HO1.out.trans (hb.mono HO1.out.size)); have HG2 := Lib.hid (HG1.out.out hb); clear b0 b1; have b0 := HB2.out.cell 0; have b1 := HB2.out.cell 1; simp at b0 b1; clear hb HB1 HO1 HG1)
    | (go_at_call 23; (with_reducible refine (place_f p e _ HG2.out).mono ?_); rintro ev w3 ⟨rfl, hb⟩; have HB3 := Lib.hid (HB2.out.out hb); have HO3 := Lib.hid (HO2.out.trans (hb.mono HO2.out.size)); have HG3 := Lib.hid (HG2.out.out hb); clear b0 b1; have b0 := HB3.out.cell 0; have b1 := HB3.out.cell 1; simp at b0 b1; clear hb HB2 HO2 HG2)
    | (go_at_call 24; (with_reducible refine (is_f p e e _).mono ?_); rintro ev w4 ⟨rfl, hb⟩; have HB4 := Lib.hid (HB3.out.out hb); have HO4 := Lib.hid (HO3.out.trans (hb.mono HO3.out.size)); have HG4 := Lib.hid (HG3.out.out hb); clear b0 b1; have b0 := HB4.out.cell 0; have b1 := HB4.out.cell 1; simp at b0 b1; clear hb HB3 HO3 HG3)
    | (go_at_call 24; (with_reducible refine (is_f p e o _).mono ?_); rintro ev w5 ⟨rfl, hb⟩; have HB5 := Lib.hid (HB4.out.out hb); have HO5 := Lib.hid (HO4.out.trans (hb.mono HO4.out.size)); have HG5 := Lib.hid (HG4.out.out hb); clear b0 b1; have b0 := HB5.out.cell 0; have b1 := HB5.out.cell 1; simp at b0 b1; clear hb HB4 HO4 HG4)
    | (go_at_call 25; (with_reducible refine (HF.out _).mono ?_); rintro ev w6 ⟨rfl, hb⟩; have HB6 := Lib.hid (HB5.out.out hb); have HO6 := Lib.hid (HO5.out.trans (hb.mono HO5.out.size)); have HG6 := Lib.hid (HG5.out.out hb); clear b0 b1; have b0 := HB6.out.cell 0; have b1 := HB6.out.cell 1; simp at b0 b1; clear hb HB5 HO5 HG5)
    | (go_at_call 26; (with_reducible refine (HE.out _).mono ?_); rintro ev w7 ⟨rfl, hb⟩; have HB7 := Lib.hid (HB6.out.out hb); have HO7 := Lib.hid (HO6.out.trans (hb.mono HO6.out.size)); have HG7 := Lib.hid (HG6.out.out hb); clear b0 b1; have b0 := HB7.out.cell 0; have b1 := HB7.out.cell 1; simp at b0 b1; clear hb HB6 HO6 HG6)
    | (go_at_call 22; (with_reducible refine (why_nil _ HG7.out).mono ?_); rintro ev w8 ⟨rfl, hb⟩; have HB8 := Lib.hid (HB7.out.out hb); have HO8 := Lib.hid (HO7.out.trans (hb.mono HO7.out.size)); have HG8 := Lib.hid (HG7.out.out hb); clear b0 b1; have b0 := HB8.out.cell 0; have b1 := HB8.out.cell 1; simp at b0 b1; clear hb HB7 HO7 HG7)
    | (go_at_call 23; (with_reducible refine (place_nil _ HG8.out).mono ?_); rintro ev w9 ⟨rfl, hb⟩; have HB9 := Lib.hid (HB8.out.out hb); have HO9 := Lib.hid (HO8.out.trans (hb.mono HO8.out.size)); have HG9 := Lib.hid (HG8.out.out hb); clear b0 b1; have b0 := HB9.out.cell 0; have b1 := HB9.out.cell 1; simp at b0 b1; clear hb HB8 HO8 HG8)
    | (go_at_call 22; (with_reducible refine (why_e e _ HG9.out).mono ?_); rintro ev w10 ⟨rfl, hb⟩; have HB10 := Lib.hid (HB9.out.out hb); have HO10 := Lib.hid (HO9.out.trans (hb.mono HO9.out.size)); have HG10 := Lib.hid (HG9.out.out hb); clear b0 b1; have b0 := HB10.out.cell 0; have b1 := HB10.out.cell 1; simp at b0 b1; clear hb HB9 HO9 HG9)
    | (go_at_call 23; (with_reducible refine (place_e e _ HG10.out).mono ?_); rintro ev w11 ⟨rfl, hb⟩; have HB11 := Lib.hid (HB10.out.out hb); have HO11 := Lib.hid (HO10.out.trans (hb.mono HO10.out.size)); have HG11 := Lib.hid (HG10.out.out hb); clear b0 b1; have b0 := HB11.out.cell 0; have b1 := HB11.out.cell 1; simp at b0 b1; clear hb HB10 HO10 HG10)
    | (go_at_call 24; (with_reducible refine (is_nil e _).mono ?_); rintro ev w12 ⟨rfl, hb⟩; have HB12 := Lib.hid (HB11.out.out hb); have HO12 := Lib.hid (HO11.out.trans (hb.mono HO11.out.size)); have HG12 := Lib.hid (HG11.out.out hb); clear b0 b1; have b0 := HB12.out.cell 0; have b1 := HB12.out.cell 1; simp at b0 b1; clear hb HB11 HO11 HG11)
    | (go_at_call 27; (with_reducible refine (unwrap_f p e _).mono ?_); rintro ev w13 ⟨rfl, hb⟩; have HB13 := Lib.hid (HB12.out.out hb); have HO13 := Lib.hid (HO12.out.trans (hb.mono HO12.out.size)); have HG13 := Lib.hid (HG12.out.out hb); clear b0 b1; have b0 := HB13.out.cell 0; have b1 := HB13.out.cell 1; simp at b0 b1; clear hb HB12 HO12 HG12)
    | (go_at_call 24; (with_reducible refine (is_e e e _).mono ?_); rintro ev w14 ⟨rfl, hb⟩; have HB14 := Lib.hid (HB13.out.out hb); have HO14 := Lib.hid (HO13.out.trans (hb.mono HO13.out.size)); have HG14 := Lib.hid (HG13.out.out hb); clear b0 b1; have b0 := HB14.out.cell 0; have b1 := HB14.out.cell 1; simp at b0 b1; clear hb HB13 HO13 HG13)
    | (go_at_call 27; (with_reducible refine (unwrap_f p e _).mono ?_); rintro ev w15 ⟨rfl, hb⟩; have HB15 := Lib.hid (HB14.out.out hb); have HO15 := Lib.hid (HO14.out.trans (hb.mono HO14.out.size)); have HG15 := Lib.hid (HG14.out.out hb); clear b0 b1; have b0 := HB15.out.cell 0; have b1 := HB15.out.cell 1; simp at b0 b1; clear hb HB14 HO14 HG14)
    | (go_at_call 23; (with_reducible refine (place_e e _ HG15.out).mono ?_); rintro ev w16 ⟨rfl, hb⟩; have HB16 := Lib.hid (HB15.out.out hb); have HO16 := Lib.hid (HO15.out.trans (hb.mono HO15.out.size)); have HG16 := Lib.hid (HG15.out.out hb); clear b0 b1; have b0 := HB16.out.cell 0; have b1 := HB16.out.cell 1; simp at b0 b1; clear hb HB15 HO15 HG15)
    | fail)
  go_ret
  exact ⟨rfl, HO16.out⟩
end Go.Proofs.YtjlfoiocceepjaaDoor
