/-
  FramePacks, walked.
-/
import Derived.Test.YtjlfoiocceepjaaDoorAwk
import Derived.Test.YtjlfoiocceepjaaDoorRUn
import Derived.Test.YtjlfoiocceepjaaDoorLong
namespace Go.Proofs.YtjlfoiocceepjaaDoor
open Go.RowKit
set_option linter.unusedVariables false
set_option linter.unusedSimpArgs false

set_option maxRecDepth 100000 in
set_option maxHeartbeats 2000000 in
theorem packs_good (A B S T x z : ByteArray) (c : BitVec 32) (w : World) (hg : Gl w)
    (H1 : Hid (∀ V, Calls Tryd.prog 14 #[.string A, .int .i64 2000] V fun e w' => e = .returned (.string S) ∧ Below V.heap.size V w'))
    (H2 : Hid (∀ V, Calls Tryd.prog 14 #[.string B, .int .i64 2000] V fun e w' => e = .returned (.string T) ∧ Below V.heap.size V w'))
    (H3 : Hid (∀ V, Calls Tryd.prog 15 #[.string S] V fun e w' => e = .returned (.tuple #[.string x, .nilIface]) ∧ Below V.heap.size V w'))
    (H4 : Hid (∀ V, Calls Tryd.prog 16 #[.string x] V fun e w' => e = .returned (.tuple #[.string S, .nilIface]) ∧ Below V.heap.size V w'))
    (H5 : Hid (∀ V, Calls Tryd.prog 16 #[.string T] V fun e w' => e = .returned (.tuple #[.string z, .nilIface]) ∧ Below V.heap.size V w'))
    (H6 : Hid (∀ V, Calls Tryd.prog 17 #[.string T] V fun e w' => e = .returned (.tuple #[.string z, .int .i64 0, .int .i64 (-1)]) ∧ Below V.heap.size V w'))
    (H7 : Hid (∀ V, Calls Tryd.prog 19 #[.string S] V fun e w' => e = .returned (.string x) ∧ Below V.heap.size V w'))
    (H8 : Hid (∀ V, Calls Tryd.prog 20 #[.string T] V fun e w' => e = .returned (.int .u32 (c.toNat : Int)) ∧ Below V.heap.size V w'))
    (H9 : Hid (∀ V, Calls Tryd.prog 21 #[.string T] V fun e w' => e = .returned (.int .u32 (c.toNat : Int)) ∧ Below V.heap.size V w')) :
    Calls Tryd.prog 3 #[.string A, .string B] w (RetT w) := by
  have HG := Lib.hid hg
  have HB := Lib.hid (Below.refl w.heap.size w)
  clear hg
  go_enter Tryd.func3, Tryd.ntmps3
  go_wp2_with (first
    | (go_at_call 14; (with_reducible refine (H1.out _).mono ?_); rintro e w' ⟨rfl, hb⟩; have HB := Lib.hid (HB.out.trans (hb.mono HB.out.size)); have HG := Lib.hid (HG.out.out hb); clear hb)
    | (go_at_call 14; (with_reducible refine (H2.out _).mono ?_); rintro e w' ⟨rfl, hb⟩; have HB := Lib.hid (HB.out.trans (hb.mono HB.out.size)); have HG := Lib.hid (HG.out.out hb); clear hb)
    | (go_at_call 15; (with_reducible refine (H3.out _).mono ?_); rintro e w' ⟨rfl, hb⟩; have HB := Lib.hid (HB.out.trans (hb.mono HB.out.size)); have HG := Lib.hid (HG.out.out hb); clear hb)
    | (go_at_call 16; (with_reducible refine (H4.out _).mono ?_); rintro e w' ⟨rfl, hb⟩; have HB := Lib.hid (HB.out.trans (hb.mono HB.out.size)); have HG := Lib.hid (HG.out.out hb); clear hb)
    | (go_at_call 16; (with_reducible refine (H5.out _).mono ?_); rintro e w' ⟨rfl, hb⟩; have HB := Lib.hid (HB.out.trans (hb.mono HB.out.size)); have HG := Lib.hid (HG.out.out hb); clear hb)
    | (go_at_call 17; (with_reducible refine (H6.out _).mono ?_); rintro e w' ⟨rfl, hb⟩; have HB := Lib.hid (HB.out.trans (hb.mono HB.out.size)); have HG := Lib.hid (HG.out.out hb); clear hb)
    | (go_at_call 18; (with_reducible refine (awake_any _ HG.out).mono ?_); rintro e w' ⟨rfl, hb⟩; have HB := Lib.hid (HB.out.trans (hb.mono HB.out.size)); have HG := Lib.hid (HG.out.out hb); clear hb)
    | (go_at_call 19; (with_reducible refine (H7.out _).mono ?_); rintro e w' ⟨rfl, hb⟩; have HB := Lib.hid (HB.out.trans (hb.mono HB.out.size)); have HG := Lib.hid (HG.out.out hb); clear hb)
    | (go_at_call 20; (with_reducible refine (H8.out _).mono ?_); rintro e w' ⟨rfl, hb⟩; have HB := Lib.hid (HB.out.trans (hb.mono HB.out.size)); have HG := Lib.hid (HG.out.out hb); clear hb)
    | (go_at_call 21; (with_reducible refine (H9.out _).mono ?_); rintro e w' ⟨rfl, hb⟩; have HB := Lib.hid (HB.out.trans (hb.mono HB.out.size)); have HG := Lib.hid (HG.out.out hb); clear hb)
    | (go_at_call 22; (with_reducible refine (why_nil _ HG.out).mono ?_); rintro e w' ⟨rfl, hb⟩; have HB := Lib.hid (HB.out.trans (hb.mono HB.out.size)); have HG := Lib.hid (HG.out.out hb); clear hb)
    | (go_at_call 23; (with_reducible refine (place_nil _ HG.out).mono ?_); rintro e w' ⟨rfl, hb⟩; have HB := Lib.hid (HB.out.trans (hb.mono HB.out.size)); have HG := Lib.hid (HG.out.out hb); clear hb)
    | fail)
  go_ret
  exact ⟨rfl, HB.out⟩
set_option maxRecDepth 100000 in
set_option maxHeartbeats 2000000 in
theorem packs_bad (A B S T x z : ByteArray) (why place : Int) (hw : why ≠ 0) (c : BitVec 32) (w : World) (hg : Gl w)
    (H1 : Hid (∀ V, Calls Tryd.prog 14 #[.string A, .int .i64 2000] V fun e w' => e = .returned (.string S) ∧ Below V.heap.size V w'))
    (H2 : Hid (∀ V, Calls Tryd.prog 14 #[.string B, .int .i64 2000] V fun e w' => e = .returned (.string T) ∧ Below V.heap.size V w'))
    (H3 : Hid (∀ V, Calls Tryd.prog 15 #[.string S] V fun e w' => e = .returned (.tuple #[.string x, .nilIface]) ∧ Below V.heap.size V w'))
    (H4 : Hid (∀ V, Calls Tryd.prog 16 #[.string x] V fun e w' => e = .returned (.tuple #[.string S, .nilIface]) ∧ Below V.heap.size V w'))
    (H5 : Hid (∀ V, Calls Tryd.prog 16 #[.string T] V fun e w' => e = .returned (.tuple #[.string z, .iface 41 (.agg #[.int .i64 place, .int .i64 why])]) ∧ Below V.heap.size V w'))
    (H6 : Hid (∀ V, Calls Tryd.prog 17 #[.string T] V fun e w' => e = .returned (.tuple #[.string z, .int .i64 why, .int .i64 place]) ∧ Below V.heap.size V w'))
    (H7 : Hid (∀ V, Calls Tryd.prog 19 #[.string S] V fun e w' => e = .returned (.string x) ∧ Below V.heap.size V w'))
    (H8 : Hid (∀ V, Calls Tryd.prog 20 #[.string T] V fun e w' => e = .returned (.int .u32 (c.toNat : Int)) ∧ Below V.heap.size V w'))
    (H9 : Hid (∀ V, Calls Tryd.prog 21 #[.string T] V fun e w' => e = .returned (.int .u32 (c.toNat : Int)) ∧ Below V.heap.size V w')) :
    Calls Tryd.prog 3 #[.string A, .string B] w (RetT w) := by
  have HG := Lib.hid hg
  have HB := Lib.hid (Below.refl w.heap.size w)
  have hw1 : (why == 0) = false := beq_eq_false_iff_ne.2 hw
  have hw2 : decide (why = 0) = false := decide_eq_false hw
  clear hg
  go_enter Tryd.func3, Tryd.ntmps3
  go_wp2_with (first
    | (go_at_call 14; (with_reducible refine (H1.out _).mono ?_); rintro e w' ⟨rfl, hb⟩; have HB := Lib.hid (HB.out.trans (hb.mono HB.out.size)); have HG := Lib.hid (HG.out.out hb); clear hb)
    | (go_at_call 14; (with_reducible refine (H2.out _).mono ?_); rintro e w' ⟨rfl, hb⟩; have HB := Lib.hid (HB.out.trans (hb.mono HB.out.size)); have HG := Lib.hid (HG.out.out hb); clear hb)
    | (go_at_call 15; (with_reducible refine (H3.out _).mono ?_); rintro e w' ⟨rfl, hb⟩; have HB := Lib.hid (HB.out.trans (hb.mono HB.out.size)); have HG := Lib.hid (HG.out.out hb); clear hb)
    | (go_at_call 16; (with_reducible refine (H4.out _).mono ?_); rintro e w' ⟨rfl, hb⟩; have HB := Lib.hid (HB.out.trans (hb.mono HB.out.size)); have HG := Lib.hid (HG.out.out hb); clear hb)
    | (go_at_call 16; (with_reducible refine (H5.out _).mono ?_); rintro e w' ⟨rfl, hb⟩; have HB := Lib.hid (HB.out.trans (hb.mono HB.out.size)); have HG := Lib.hid (HG.out.out hb); clear hb)
    | (go_at_call 17; (with_reducible refine (H6.out _).mono ?_); rintro e w' ⟨rfl, hb⟩; have HB := Lib.hid (HB.out.trans (hb.mono HB.out.size)); have HG := Lib.hid (HG.out.out hb); clear hb)
    | (go_at_call 18; (with_reducible refine (awake_any _ HG.out).mono ?_); rintro e w' ⟨rfl, hb⟩; have HB := Lib.hid (HB.out.trans (hb.mono HB.out.size)); have HG := Lib.hid (HG.out.out hb); clear hb)
    | (go_at_call 19; (with_reducible refine (H7.out _).mono ?_); rintro e w' ⟨rfl, hb⟩; have HB := Lib.hid (HB.out.trans (hb.mono HB.out.size)); have HG := Lib.hid (HG.out.out hb); clear hb)
    | (go_at_call 20; (with_reducible refine (H8.out _).mono ?_); rintro e w' ⟨rfl, hb⟩; have HB := Lib.hid (HB.out.trans (hb.mono HB.out.size)); have HG := Lib.hid (HG.out.out hb); clear hb)
    | (go_at_call 21; (with_reducible refine (H9.out _).mono ?_); rintro e w' ⟨rfl, hb⟩; have HB := Lib.hid (HB.out.trans (hb.mono HB.out.size)); have HG := Lib.hid (HG.out.out hb); clear hb)
    | (go_at_call 22; (with_reducible refine (why_f place why _ HG.out).mono ?_); rintro e w' ⟨rfl, hb⟩; have HB := Lib.hid (HB.out.trans (hb.mono HB.out.size)); have HG := Lib.hid (HG.out.out hb); clear hb)
    | (go_at_call 23; (with_reducible refine (place_f place why _ HG.out).mono ?_); rintro e w' ⟨rfl, hb⟩; have HB := Lib.hid (HB.out.trans (hb.mono HB.out.size)); have HG := Lib.hid (HG.out.out hb); clear hb)
    | fail)
  go_ret
  exact ⟨rfl, HB.out⟩
theorem packs_any (A B : ByteArray) (w : World) (hg : Gl w) : Calls Tryd.prog 3 #[.string A, .string B] w (RetT w) := by
  obtain ⟨a, ha⟩ : ∃ a, a = A.data.toList.take 2000 := ⟨_, rfl⟩
  obtain ⟨b, hb⟩ : ∃ b, b = B.data.toList.take 2000 := ⟨_, rfl⟩
  have hal : a.length ≤ 2000 := by rw [ha, List.length_take]; omega
  have hbl : b.length ≤ 2000 := by rw [hb, List.length_take]; omega
  have zT : (str b).size ≤ 2000 := by rw [str_size]; exact hbl
  have H1 : Hid (∀ V, Calls Tryd.prog 14 #[.string A, .int .i64 2000] V fun e w' => e = .returned (.string (str a)) ∧ Below V.heap.size V w') := Lib.hid (fun V => by rw [ha]; exact cut_any A 2000 (by omega) V)
  have H2 : Hid (∀ V, Calls Tryd.prog 14 #[.string B, .int .i64 2000] V fun e w' => e = .returned (.string (str b)) ∧ Below V.heap.size V w') := Lib.hid (fun V => by rw [hb]; exact cut_any B 2000 (by omega) V)
  have H3 : Hid (∀ V, Calls Tryd.prog 15 #[.string (str a)] V fun e w' => e = .returned (.tuple #[.string (str (packL a)), .nilIface]) ∧ Below V.heap.size V w') := Lib.hid (fun V => pack_any a V (by omega))
  have H4 : Hid (∀ V, Calls Tryd.prog 16 #[.string (str (packL a))] V fun e w' => e = .returned (.tuple #[.string (str a), .nilIface]) ∧ Below V.heap.size V w') := Lib.hid (fun V => unpack_fact (packL a) a 0 (-1) V (by rw [packL_length]; omega) (unpack_pack a (by omega)))
  have H7 : Hid (∀ V, Calls Tryd.prog 19 #[.string (str a)] V fun e w' => e = .returned (.string (str (packL a))) ∧ Below V.heap.size V w') := Lib.hid (fun V => rpack_any a V (by omega))
  have H8 : Hid (∀ V, Calls Tryd.prog 20 #[.string (str b)] V fun e w' => e = .returned (.int .u32 ((csum (str b).data.toList).toNat : Int)) ∧ Below V.heap.size V w') := Lib.hid (fun V => (sum_any (str b) V (by omega)).mono fun e w' h => ⟨h.1, by rw [← h.2]; exact Below.refl _ _⟩)
  have H9 : Hid (∀ V, Calls Tryd.prog 21 #[.string (str b)] V fun e w' => e = .returned (.int .u32 ((csum (str b).data.toList).toNat : Int)) ∧ Below V.heap.size V w') := Lib.hid (fun V => rsum_any (str b) V (by omega))
  have H5 := fun V => unpack_any b V (by omega)
  have H6 := fun V => runpack_any b V (by omega)
  have hz := unpackL_zero b
  generalize unpackL b = u at *
  obtain ⟨t, why, place⟩ := u
  by_cases hw : why = 0
  · have hp : place = -1 := hz hw
    subst hw hp
    exact packs_good A B (str a) (str b) (str (packL a)) (str t) _ w hg H1 H2 H3 H4 (Lib.hid H5) (Lib.hid H6) H7 H8 H9
  · have e : errV why place = .iface 41 (.agg #[.int .i64 place, .int .i64 why]) := by unfold errV fault; rw [if_neg hw]
    simp only [e] at H5
    exact packs_bad A B (str a) (str b) (str (packL a)) (str t) why place hw _ w hg H1 H2 H3 H4 (Lib.hid H5) (Lib.hid H6) H7 H8 H9
end Go.Proofs.YtjlfoiocceepjaaDoor
