/-
  FrameLong, walked.
-/
import Derived.Test.YtjlfoiocceepjaaDoorAwk
import Derived.Test.YtjlfoiocceepjaaDoorFrp
namespace Go.Proofs.YtjlfoiocceepjaaDoor
open Go.RowKit Go.Proofs.YtjlfoiocceepjaaDoorW.PrintWords Go.Proofs.YtjlfoiocceepjaaDoorW.PrintLast Go.Proofs.YtjlfoiocceepjaaDoorW.PrintMore
set_option linter.unusedVariables false
set_option linter.unusedSimpArgs false

theorem infoU8 : (Tryd.prog.info? 5).map (fun i => (i.zero, i.size, i.bytes)) = some (some (.int .u8 0), 1, 1) := by kernel_rfl
theorem zeros_str (n : Nat) : strOfNums (List.replicate n 0) = str (List.replicate n 0) := by
  apply str_eq
  rw [strOfNums_data, List.map_replicate]
  rfl
def RetT (w : World) (e : Ending) (w' : World) : Prop := e = .returned (.bool true) ∧ Below w.heap.size w w'
set_option maxRecDepth 100000 in
set_option maxHeartbeats 1000000 in
theorem long_no (n : Int) (w : World) (hg : Gl w) (h : n < 0 ∨ 61000 < n) : Calls Tryd.prog 5 #[.int .i64 n] w (RetT w) := by
  have HA := Lib.hid (awake_any w hg)
  rcases h with h | h
  · go_enter Tryd.func5, Tryd.ntmps5
    go_wp2_with (first | (go_at_call 18; (with_reducible refine HA.out.mono ?_); rintro e w1 ⟨rfl, hb⟩) | fail)
    go_ret
    exact ⟨rfl, hb⟩
  · have h0 : ¬ n < 0 := by omega
    go_enter Tryd.func5, Tryd.ntmps5
    go_wp2_with (first | (go_at_call 18; (with_reducible refine HA.out.mono ?_); rintro e w1 ⟨rfl, hb⟩) | fail)
    go_ret
    exact ⟨rfl, hb⟩
set_option maxRecDepth 100000 in
set_option maxHeartbeats 1000000 in
theorem long_big (n : Nat) (w : World) (hg : Gl w) (h1 : 60000 < n) (h2 : n ≤ 61000) : Calls Tryd.prog 5 #[.int .i64 (n : Int)] w (RetT w) := by
  obtain ⟨B, hB⟩ : ∃ B, B = str (List.replicate n (0 : UInt8)) := ⟨_, rfl⟩
  have hz : strOfNums (List.replicate n 0) = B := by rw [zeros_str, hB]
  have HZ := Lib.hid hz
  have hsz : B.size = n := by rw [hB, str_size, List.length_replicate]
  have HP : Hid (∀ V, Calls Tryd.prog 15 #[.string B] V fun e w' => e = .returned (.tuple #[.string ⟨#[]⟩, .iface 41 (.agg #[.int .i64 60000, .int .i64 2])]) ∧ Below V.heap.size V w') := Lib.hid (fun V => pack_big B V (by omega) (by omega))
  have HG := Lib.hid hg
  clear hz hB hsz hg
  go_enter Tryd.func5, Tryd.ntmps5
  go_wp2_with (first
    | ((with_reducible refine gate_dst (N := 18) rfl ?_); refine Kd.R_make (Kd.int .u8) w.heap.size 5 rfl (N := 18) rfl 37 _ _ rfl (n : Int) rfl rfl Tryd.underlying37 (.int .u8 0) 1 infoU8 rfl (by decide) (by omega) (0 : Int) (ok := fun _ => True) (okp := fun _ => True) rfl (fun _ hk => hk) trivial (by omega) (by omega) (Below.refl _ _) (Nat.le_refl _) ?_; intro v1 w1 ho hb _ _; simp only [Int.toNat_natCast] at ho; have hcv := own_string (P := Tryd.prog) Tryd.underlying37 Tryd.underlying5 Tryd.underlying9 (Kd.own_of_R ho); rw [HZ.out] at hcv; have HB1 := Lib.hid hb; have HG1 := Lib.hid (HG.out.out hb); clear ho hb)
    | (go_at_call 15; (with_reducible refine (HP.out _).mono ?_); rintro e w2 ⟨rfl, hb⟩; have HB2 := Lib.hid (HB1.out.trans (hb.mono HB1.out.size)); have HG2 := Lib.hid (HG1.out.out hb); clear hb hcv)
    | (go_at_call 18; (with_reducible refine (awake_any _ HG2.out).mono ?_); rintro e w3 ⟨rfl, hb⟩; have HB3 := Lib.hid (HB2.out.trans (hb.mono HB2.out.size)); have HG3 := Lib.hid (HG2.out.out hb); clear hb)
    | (go_at_call 22; (with_reducible refine (why_f 60000 2 _ HG3.out).mono ?_); rintro e w4 ⟨rfl, hb⟩; have HB4 := Lib.hid (HB3.out.trans (hb.mono HB3.out.size)); have HG4 := Lib.hid (HG3.out.out hb); clear hb)
    | (go_at_call 23; (with_reducible refine (place_f 60000 2 _ HG4.out).mono ?_); rintro e w5 ⟨rfl, hb⟩; have HB5 := Lib.hid (HB4.out.trans (hb.mono HB4.out.size)); clear hb)
    | fail)
  go_ret
  exact ⟨rfl, HB5.out⟩
set_option maxRecDepth 100000 in
set_option maxHeartbeats 1000000 in
theorem long_ok (n : Nat) (w : World) (hg : Gl w) (h2 : n ≤ 60000) : Calls Tryd.prog 5 #[.int .i64 (n : Int)] w (RetT w) := by
  obtain ⟨b, hb0⟩ : ∃ b, b = List.replicate n (0 : UInt8) := ⟨_, rfl⟩
  have hbl : b.length = n := by rw [hb0, List.length_replicate]
  obtain ⟨B, hB⟩ : ∃ B, B = str b := ⟨_, rfl⟩
  obtain ⟨s, hs⟩ : ∃ s, s = str (packL b) := ⟨_, rfl⟩
  obtain ⟨s1, hs1⟩ : ∃ s1, s1 = str ((packL b).take (n + 9)) := ⟨_, rfl⟩
  have HZ : Hid (strOfNums (List.replicate n 0) = B) := Lib.hid (by rw [zeros_str, hB, hb0])
  have HP : Hid (∀ V, Calls Tryd.prog 15 #[.string B] V fun e w' => e = .returned (.tuple #[.string s, .nilIface]) ∧ Below V.heap.size V w') := Lib.hid (fun V => by rw [hB, hs]; exact pack_any b V (by omega))
  have HU : Hid (∀ V, Calls Tryd.prog 16 #[.string s] V fun e w' => e = .returned (.tuple #[.string B, .nilIface]) ∧ Below V.heap.size V w') := Lib.hid (fun V => by rw [hB, hs]; exact unpack_fact _ b 0 (-1) V (by rw [packL_length]; omega) (unpack_pack b (by omega)))
  have HU2 : Hid (∀ V, Calls Tryd.prog 16 #[.string s1] V fun e w' => e = .returned (.tuple #[.string ⟨#[]⟩, .iface 41 (.agg #[.int .i64 ((n : Int) + 9), .int .i64 11])]) ∧ Below V.heap.size V w') := Lib.hid (fun V => by
    rw [hs1]
    have := unpack_short b (by omega)
    rw [hbl] at this
    exact unpack_fact _ [] 11 ((n : Int) + 9) V (by rw [List.length_take]; omega) this)
  have hsz : s.size = n + 10 := by rw [hs, str_size, packL_length, hbl]
  have hsl : ∀ W, (Instr.slice 9 (.string s) none (some (.int .i64 ((s.size : Int) - 1))) none).run Tryd.prog W = .ok (.string s1) W := fun W => by
    have e : ((s.size : Int) - 1) = ((n + 9 : Nat) : Int) := by omega
    rw [e, run_slice_string_h (ht := Tryd.underlying9) _ _ _ .i64 _ (by omega) (by omega)]
    have e2 : s.extract 0 ((n + 9 : Nat) : Int).toNat = s1 := by
      rw [hs1, Int.toNat_natCast]; apply str_eq; rw [ext_list, hs, str_list, List.drop_zero]
    rw [e2]
  have g1 : s.size ≤ n + 10 := by omega
  have g2 : n + 10 ≤ s.size := by omega
  have c1 : ((s.size : Int) != (n : Int) + 10) = false := bne_eq_false_iff_eq.2 (by omega)
  have c2 : ((n : Int) + 9 == (s.size : Int) - 1) = true := beq_iff_eq.2 (by omega)
  have HG := Lib.hid hg
  clear hB hsz hg hs hs1 hb0 hbl
  go_enter Tryd.func5, Tryd.ntmps5
  go_wp2_with (first
    | ((with_reducible refine gate_dst (N := 18) rfl ?_); refine Kd.R_make (Kd.int .u8) w.heap.size 5 rfl (N := 18) rfl 37 _ _ rfl (n : Int) rfl rfl Tryd.underlying37 (.int .u8 0) 1 infoU8 rfl (by decide) (by omega) (0 : Int) (ok := fun _ => True) (okp := fun _ => True) rfl (fun _ hk => hk) trivial (by omega) (by omega) (Below.refl _ _) (Nat.le_refl _) ?_; intro v1 w1 ho hb _ _; simp only [Int.toNat_natCast] at ho; have hcv := own_string (P := Tryd.prog) Tryd.underlying37 Tryd.underlying5 Tryd.underlying9 (Kd.own_of_R ho); rw [HZ.out] at hcv; have HB1 := Lib.hid hb; have HG1 := Lib.hid (HG.out.out hb); clear ho hb)
    | (go_at_call 15; (with_reducible refine (HP.out _).mono ?_); rintro e w2 ⟨rfl, hb⟩; have HB2 := Lib.hid (HB1.out.trans (hb.mono HB1.out.size)); have HG2 := Lib.hid (HG1.out.out hb); clear hb hcv)
    | (go_at_call 16; (with_reducible refine (HU.out _).mono ?_); rintro e w2a ⟨rfl, hb⟩; have HB2a := Lib.hid (HB2.out.trans (hb.mono HB2.out.size)); have HG2a := Lib.hid (HG2.out.out hb); clear hb)
    | (go_at_call 16; (with_reducible refine (HU2.out _).mono ?_); rintro e w2b ⟨rfl, hb⟩; have HB2b := Lib.hid (HB2a.out.trans (hb.mono HB2a.out.size)); have HG2b := Lib.hid (HG2a.out.out hb); clear hb)
    | (go_at_call 18; (with_reducible refine (awake_any _ HG2b.out).mono ?_); rintro e w3 ⟨rfl, hb⟩; have HB3 := Lib.hid (HB2b.out.trans (hb.mono HB2b.out.size)); have HG3 := Lib.hid (HG2b.out.out hb); clear hb)
    | (go_at_call 22; (with_reducible refine (why_f ((n : Int) + 9) 11 _ HG3.out).mono ?_); rintro e w4 ⟨rfl, hb⟩; have HB4 := Lib.hid (HB3.out.trans (hb.mono HB3.out.size)); have HG4 := Lib.hid (HG3.out.out hb); clear hb)
    | (go_at_call 23; (with_reducible refine (place_f ((n : Int) + 9) 11 _ HG4.out).mono ?_); rintro e w5 ⟨rfl, hb⟩; have HB5 := Lib.hid (HB4.out.trans (hb.mono HB4.out.size)); clear hb)
    | fail)
  go_ret
  exact ⟨rfl, HB5.out⟩
theorem long_any (n : Int) (w : World) (hg : Gl w) : Calls Tryd.prog 5 #[.int .i64 n] w (RetT w) := by
  by_cases h : n < 0 ∨ 61000 < n
  · exact long_no n w hg h
  · obtain ⟨m, rfl⟩ := Int.eq_ofNat_of_zero_le (show 0 ≤ n by omega)
    by_cases h1 : 60000 < m
    · exact long_big m w hg h1 (by omega)
    · exact long_ok m w hg (by omega)
end Go.Proofs.YtjlfoiocceepjaaDoor
