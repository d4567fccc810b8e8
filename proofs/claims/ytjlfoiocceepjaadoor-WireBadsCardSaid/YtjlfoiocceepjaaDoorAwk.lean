/-
  Layer 14's awake, walked: it is true.
-/
import Derived.Test.YtjlfoiocceepjaaDoorWhy
namespace Go.Proofs.YtjlfoiocceepjaaDoor
open Go.RowKit
set_option linter.unusedVariables false
set_option linter.unusedSimpArgs false

theorem unpack_fact (l t : List UInt8) (why place : Int) (w : World) (hl : l.length ≤ 140737488351232) (h : unpackL l = (t, why, place)) :
    Calls Tryd.prog 16 #[.string (str l)] w fun e w' => e = .returned (.tuple #[.string (str t), errV why place]) ∧ Below w.heap.size w w' := by
  have := unpack_any l w hl
  rw [h] at this
  exact this
theorem one_un : unpackL (packL [97]) = ([97], 0, -1) := by decide +kernel
theorem one_un2 : unpackL (packL [97] ++ [120]) = ([], 6, 11) := by decide +kernel
theorem one_len : (packL [97]).length = 11 := by decide +kernel
theorem digits_sum : (csum (⟨#[49, 50, 51, 52, 53, 54, 55, 56, 57]⟩ : ByteArray).data.toList).toNat = 3421780262 := by decide +kernel

set_option maxRecDepth 100000 in
set_option maxHeartbeats 1000000 in
theorem awake_any (w : World) (hg : Gl w) : Calls Tryd.prog 18 #[] w fun e w' => e = .returned (.bool true) ∧ Below w.heap.size w w' := by
  have HG := Lib.hid hg
  obtain ⟨s, hs⟩ : ∃ s, s = str (packL [97]) := ⟨_, rfl⟩
  have hsz : s.size = 11 := by rw [hs, str_size, one_len]
  have HSZ := Lib.hid hsz
  have hs1 : s.size ≤ 11 := by omega
  have hs2 : 11 ≤ s.size := by omega
  have H1 : Hid (∀ V, Calls Tryd.prog 15 #[.string ⟨#[97]⟩] V fun e w' => e = .returned (.tuple #[.string s, .nilIface]) ∧ Below V.heap.size V w') := Lib.hid (fun V => by rw [hs]; exact pack_any [97] V (by decide))
  have H2 : Hid (∀ V, Calls Tryd.prog 16 #[.string s] V fun e w' => e = .returned (.tuple #[.string ⟨#[97]⟩, .nilIface]) ∧ Below V.heap.size V w') := Lib.hid (fun V => by rw [hs]; exact unpack_fact _ [97] 0 (-1) V (by rw [one_len]; omega) one_un)
  have H3 : Hid (∀ V, Calls Tryd.prog 16 #[.string (s ++ ⟨#[120]⟩)] V fun e w' => e = .returned (.tuple #[.string ⟨#[]⟩, .iface 41 (.agg #[.int .i64 11, .int .i64 6])]) ∧ Below V.heap.size V w') := Lib.hid (fun V => by
    have e : s ++ (⟨#[120]⟩ : ByteArray) = str (packL [97] ++ [120]) := by rw [hs, ← str_append]; rfl
    rw [e]; exact unpack_fact _ [] 6 11 V (by rw [List.length_append, one_len]; simp) one_un2)
  have H4 := Lib.hid (fun V => sum_at ⟨#[49, 50, 51, 52, 53, 54, 55, 56, 57]⟩ 3421780262 V (by decide) digits_sum)
  have hl11 : ((s.size : Int) == 11) = true := by rw [hsz]; rfl
  clear hg hs hsz
  go_enter Tryd.func18, Tryd.ntmps18
  go_wp2_with (first
    | (go_at_call 15; (with_reducible refine (H1.out _).mono ?_); rintro e w1 ⟨rfl, hb⟩; have HB1 := Lib.hid hb; have HG1 := Lib.hid (HG.out.out hb); clear hb)
    | (go_at_call 16; (with_reducible refine (H2.out _).mono ?_); rintro e w2 ⟨rfl, hb⟩; have HB2 := Lib.hid (HB1.out.trans (hb.mono HB1.out.size)); have HG2 := Lib.hid (HG1.out.out hb); clear hb)
    | (go_at_call 16; (with_reducible refine (H3.out _).mono ?_); rintro e w3 ⟨rfl, hb⟩; have HB3 := Lib.hid (HB2.out.trans (hb.mono HB2.out.size)); have HG3 := Lib.hid (HG2.out.out hb); clear hb)
    | (go_at_call 20; (with_reducible refine (H4.out _).mono ?_); rintro e w3' ⟨rfl, rfl⟩)
    | (go_at_call 22; (with_reducible refine (why_f 11 6 _ HG3.out).mono ?_); rintro e w4 ⟨rfl, hb⟩; have HB4 := Lib.hid (HB3.out.trans (hb.mono HB3.out.size)); have HG4 := Lib.hid (HG3.out.out hb); clear hb)
    | (go_at_call 23; (with_reducible refine (place_f 11 6 _ HG4.out).mono ?_); rintro e w5 ⟨rfl, hb⟩; have HB5 := Lib.hid (HB4.out.trans (hb.mono HB4.out.size)); clear hb)
    | fail)
  go_ret
  exact ⟨rfl, HB5.out⟩
end Go.Proofs.YtjlfoiocceepjaaDoor
