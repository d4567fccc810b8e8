/-
  FrameApart, walked.
-/
import Derived.Test.YtjlfoiocceepjaaDoorAwk
import Derived.Test.YtjlfoiocceepjaaDoorFrp
import Derived.Test.YtjlfoiocceepjaaDoorLong
namespace Go.Proofs.YtjlfoiocceepjaaDoor
open Go.RowKit
set_option linter.unusedVariables false
set_option linter.unusedSimpArgs false

theorem str_ne {a b : List UInt8} (h : a ≠ b) : str a ≠ str b := fun e => h (str_inj e)
/-- two texts, compared as the walk compares them -/
theorem text_ne {a b : ByteArray} (h : a ≠ b) : (a.toList == b.toList) = false := by
  refine beq_eq_false_iff_ne.2 fun e => h ?_
  rw [ByteArray.toList_eq, ByteArray.toList_eq] at e
  rw [← str_of a, e, str_of]
theorem text_eq {a b : ByteArray} (h : a = b) : (a.toList == b.toList) = true := by rw [h]; exact beq_self_eq_true _
set_option maxRecDepth 100000 in
set_option maxHeartbeats 2000000 in
theorem apart_any (A B : ByteArray) (w : World) (hg : Gl w) : Calls Tryd.prog 6 #[.string A, .string B] w (RetT w) := by
  obtain ⟨a, ha⟩ : ∃ a, a = A.data.toList.take 300 := ⟨_, rfl⟩
  obtain ⟨b, hb⟩ : ∃ b, b = B.data.toList.take 300 := ⟨_, rfl⟩
  have hal : a.length ≤ 300 := by rw [ha, List.length_take]; omega
  have hbl : b.length ≤ 300 := by rw [hb, List.length_take]; omega
  obtain ⟨S, hS⟩ : ∃ S, S = str a := ⟨_, rfl⟩
  obtain ⟨T, hT⟩ : ∃ T, T = str b := ⟨_, rfl⟩
  obtain ⟨x, hx⟩ : ∃ x, x = str (packL a) := ⟨_, rfl⟩
  obtain ⟨y, hy⟩ : ∃ y, y = str (packL b) := ⟨_, rfl⟩
  have H1 : Hid (∀ V, Calls Tryd.prog 14 #[.string A, .int .i64 300] V fun e w' => e = .returned (.string S) ∧ Below V.heap.size V w') := Lib.hid (fun V => by rw [hS, ha]; exact cut_any A 300 (by omega) V)
  have H2 : Hid (∀ V, Calls Tryd.prog 14 #[.string B, .int .i64 300] V fun e w' => e = .returned (.string T) ∧ Below V.heap.size V w') := Lib.hid (fun V => by rw [hT, hb]; exact cut_any B 300 (by omega) V)
  have H3 : Hid (∀ V, Calls Tryd.prog 15 #[.string S] V fun e w' => e = .returned (.tuple #[.string x, .nilIface]) ∧ Below V.heap.size V w') := Lib.hid (fun V => by rw [hS, hx]; exact pack_any a V (by omega))
  have H4 : Hid (∀ V, Calls Tryd.prog 15 #[.string T] V fun e w' => e = .returned (.tuple #[.string y, .nilIface]) ∧ Below V.heap.size V w') := Lib.hid (fun V => by rw [hT, hy]; exact pack_any b V (by omega))
  have zS : S.size = a.length := by rw [hS, str_size]
  have zx : x.size = a.length + 10 := by rw [hx, str_size, packL_length]
  have zy : y.size = b.length + 10 := by rw [hy, str_size, packL_length]
  have c1 : ((x.size : Int) != (S.size : Int) + 10) = false := bne_eq_false_iff_eq.2 (by omega)
  have k1 : S.size ≤ 300 := by omega
  have k2 : x.size ≤ 310 := by omega
  have k3 : y.size ≤ 310 := by omega
  have HG := Lib.hid hg
  have hxy : ∀ (h : a = b), x = y ∧ S = T := fun h => by rw [hx, hy, hS, hT, h]; exact ⟨rfl, rfl⟩
  have hne : ∀ (h : a ≠ b), x ≠ y ∧ S ≠ T := fun h => ⟨fun e => h (packL_inj (by omega) (by omega) (str_inj (by rw [← hx, ← hy]; exact e))), fun e => h (str_inj (by rw [← hS, ← hT]; exact e))⟩
  by_cases hab : a = b
  · obtain ⟨rfl, rfl⟩ := hxy hab
    have hl : ¬ ((x.size : Int) < (x.size : Int)) := by omega
    clear hxy hne hab hx hy hS hT zS zx zy ha hb hg
    go_enter Tryd.func6, Tryd.ntmps6
    go_wp2_with (first
      | (go_at_call 14; (with_reducible refine (H1.out _).mono ?_); rintro e w1 ⟨rfl, hb⟩; have HB1 := Lib.hid hb; have HG1 := Lib.hid (HG.out.out hb); clear hb; have t1 : True := trivial)
      | (go_at_call 14; (with_reducible refine (H2.out _).mono ?_); rintro e w2 ⟨rfl, hb⟩; have HB2 := Lib.hid (HB1.out.trans (hb.mono HB1.out.size)); have HG2 := Lib.hid (HG1.out.out hb); clear hb)
      | (go_at_call 15; (with_reducible refine (H3.out _).mono ?_); rintro e w3 ⟨rfl, hb⟩; have HB3 := Lib.hid (HB2.out.trans (hb.mono HB2.out.size)); have HG3 := Lib.hid (HG2.out.out hb); have HB2 := HB3; have HG2 := HG3; clear hb)
      | (go_at_call 18; (with_reducible refine (awake_any _ HG2.out).mono ?_); rintro e w4 ⟨rfl, hb⟩; have HB4 := Lib.hid (HB2.out.trans (hb.mono HB2.out.size)); clear hb)
      | fail)
    go_ret
    exact ⟨rfl, HB4.out⟩
  · obtain ⟨nx, nS⟩ := hne hab
    have dx1 : decide (x = y) = false := decide_eq_false nx
    have dS1 : decide (S = T) = false := decide_eq_false nS
    have dx2 : (x.toList == y.toList) = false := text_ne nx
    have dS2 : (S.toList == T.toList) = false := text_ne nS
    by_cases hl : x.size < y.size
    · have hsl : ∀ W, (Instr.slice 9 (.string y) none (some (.int .i64 (x.size : Int))) none).run Tryd.prog W = .ok (.string (y.extract 0 x.size)) W := fun W => by
        rw [run_slice_string_h (ht := Tryd.underlying9) _ _ _ .i64 _ (by omega) (by omega)]; simp
      obtain ⟨z, hz⟩ : ∃ z, z = y.extract 0 x.size := ⟨_, rfl⟩
      have nz : z ≠ x := by
        intro e
        have h1 : z.data.toList = x.data.toList := by rw [e]
        rw [hz, ext_list, zx] at h1
        rw [hx, hy, str_list, str_list] at h1
        rw [List.drop_zero] at h1
        exact packL_apart (a := a) (b := b) (by omega) (by omega) (by omega) (by rw [packL_length]; exact h1)
      rw [← hz] at hsl
      have dz1 : decide (z = x) = false := decide_eq_false nz
      have dz2 : (z.toList == x.toList) = false := text_ne nz
      clear hxy hne hab hx hy hS hT zS zx zy ha hb hg nx nS nz hz
      go_enter Tryd.func6, Tryd.ntmps6
      go_wp2_with (first
        | (go_at_call 14; (with_reducible refine (H1.out _).mono ?_); rintro e w1 ⟨rfl, hb⟩; have HB1 := Lib.hid hb; have HG1 := Lib.hid (HG.out.out hb); clear hb)
        | (go_at_call 14; (with_reducible refine (H2.out _).mono ?_); rintro e w2 ⟨rfl, hb⟩; have HB2 := Lib.hid (HB1.out.trans (hb.mono HB1.out.size)); have HG2 := Lib.hid (HG1.out.out hb); clear hb)
        | (go_at_call 15; (with_reducible refine (H3.out _).mono ?_); rintro e w3 ⟨rfl, hb⟩; have HB3 := Lib.hid (HB2.out.trans (hb.mono HB2.out.size)); have HG3 := Lib.hid (HG2.out.out hb); clear hb)
        | (go_at_call 15; (with_reducible refine (H4.out _).mono ?_); rintro e w3 ⟨rfl, hb⟩; have HB3b := Lib.hid (HB3.out.trans (hb.mono HB3.out.size)); have HG3b := Lib.hid (HG3.out.out hb); clear hb)
        | (go_at_call 18; (with_reducible refine (awake_any _ HG3b.out).mono ?_); rintro e w4 ⟨rfl, hb⟩; have HB4 := Lib.hid (HB3b.out.trans (hb.mono HB3b.out.size)); clear hb)
        | fail)
      go_ret
      exact ⟨rfl, HB4.out⟩
    · clear hxy hne hab hx hy hS hT zS zx zy ha hb hg nx nS
      go_enter Tryd.func6, Tryd.ntmps6
      go_wp2_with (first
        | (go_at_call 14; (with_reducible refine (H1.out _).mono ?_); rintro e w1 ⟨rfl, hb⟩; have HB1 := Lib.hid hb; have HG1 := Lib.hid (HG.out.out hb); clear hb)
        | (go_at_call 14; (with_reducible refine (H2.out _).mono ?_); rintro e w2 ⟨rfl, hb⟩; have HB2 := Lib.hid (HB1.out.trans (hb.mono HB1.out.size)); have HG2 := Lib.hid (HG1.out.out hb); clear hb)
        | (go_at_call 15; (with_reducible refine (H3.out _).mono ?_); rintro e w3 ⟨rfl, hb⟩; have HB3 := Lib.hid (HB2.out.trans (hb.mono HB2.out.size)); have HG3 := Lib.hid (HG2.out.out hb); clear hb)
        | (go_at_call 15; (with_reducible refine (H4.out _).mono ?_); rintro e w3 ⟨rfl, hb⟩; have HB3b := Lib.hid (HB3.out.trans (hb.mono HB3.out.size)); have HG3b := Lib.hid (HG3.out.out hb); clear hb)
        | (go_at_call 18; (with_reducible refine (awake_any _ HG3b.out).mono ?_); rintro e w4 ⟨rfl, hb⟩; have HB4 := Lib.hid (HB3b.out.trans (hb.mono HB3b.out.size)); clear hb)
        | fail)
      go_ret
      exact ⟨rfl, HB4.out⟩
end Go.Proofs.YtjlfoiocceepjaaDoor
