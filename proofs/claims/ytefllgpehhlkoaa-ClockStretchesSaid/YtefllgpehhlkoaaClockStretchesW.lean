/-
  The walk through ClockStretches: it returns true.
-/
import Derived.Test.YtefllgpehhlkoaaCopy
import Derived.Test.YtefllgpehhlkoaaStretch
import Derived.Test.YtefllgpehhlkoaaSlice
import Derived.Test.YtefllgpehhlkoaaAwake17
namespace Go.Proofs.Ytefllgpehhlkoaa
open Go.RowKit

set_option maxRecDepth 100000 in
set_option maxHeartbeats 2000000 in
theorem ct_none (n fr i : Int) (w : World) (cap : Nat) (a : Option Addr) (l : List Int) (h : Sl w w.heap.size a cap l) (hcap : cap ≤ 9223372036854775807) (hn : n < 1 ∨ 8 < n ∨ i < 0 ∨ n ≤ i ∨ fr < 0 ∨ ((l.take 80).length : Int) < fr) :
    Calls Try.prog 6 #[.int .i64 n, .slice a l.length cap, .int .i64 fr, .int .i64 i] w fun e w' => e = .returned (.bool true) ∧ Only w.heap.size w.heap.size w w' := by
  obtain ⟨l1, hl1, hn', HF⟩ : ∃ l1 : List Int, l1.length ≤ 80 ∧ (n < 1 ∨ 8 < n ∨ i < 0 ∨ n ≤ i ∨ fr < 0 ∨ (l1.length : Int) < fr) ∧ Hid (Calls Try.prog 15 #[.slice a l.length cap, .int .i64 80] w (NewRow w l1)) :=
    ⟨l.take 80, by simp; omega, hn, few_any w cap a l h 80 (by omega) hcap⟩
  clear h hn
  have h6 : (n < 1) ∨ (¬ n < 1 ∧ 8 < n) ∨ (¬ n < 1 ∧ ¬ 8 < n ∧ i < 0) ∨ (¬ n < 1 ∧ ¬ 8 < n ∧ ¬ i < 0 ∧ n ≤ i) ∨ (¬ n < 1 ∧ ¬ 8 < n ∧ ¬ i < 0 ∧ ¬ n ≤ i ∧ fr < 0) ∨ (¬ n < 1 ∧ ¬ 8 < n ∧ ¬ i < 0 ∧ ¬ n ≤ i ∧ ¬ fr < 0 ∧ (l1.length : Int) < fr) := by omega
  clear hn'
  rcases h6 with h1 | ⟨h1, h2⟩ | ⟨h1, h2, h3⟩ | ⟨h1, h2, h3, h4⟩ | ⟨h1, h2, h3, h4, h5⟩ | ⟨h1, h2, h3, h4, h5, h6⟩
  all_goals
    go_enter Try.func6, Try.ntmps6
    go_wp2_with (go_at_call 15; refine HF.out.mono ?_; rintro e w1 ⟨a1, cap1, rfl, hs1, ho1⟩; have HO := Lib.hid ho1; clear ho1 hs1)
    go_wp2_with (go_at_call 18; refine (awake17 _).mono ?_; rintro e w' ⟨rfl, hoa⟩)
    go_ret
    exact ⟨rfl, HO.out.then hoa HO.out.size⟩

/-- the copy that ticks on -/
def CtRel (w0 w3 : World) (q n fr : Nat) (l : List Int) (kv : Value) (wr : World) : Prop :=
  ∃ k : Nat, k ≤ l.length - fr ∧ kv = .int .i64 k ∧ Clk wr w3.heap.size (q + 1) q n (St.play n (l.take (fr + k))) ∧ Only w3.heap.size (q + 1) w3 wr ∧ Only w0.heap.size w0.heap.size w0 wr

theorem drop_one (n : Nat) (l : List Int) (fr k : Nat) (h : fr + k < l.length) : St.play n (l.take (fr + (k + 1))) = (St.play n (l.take (fr + k))).tick n (nth l (fr + k)) := play_succ n l (fr + k) h

set_option maxRecDepth 100000 in
set_option maxHeartbeats 4000000 in
theorem ct_some (n fr i : Nat) (w : World) (cap : Nat) (a : Option Addr) (l : List Int) (h : Sl w w.heap.size a cap l) (hcap : cap ≤ 9223372036854775807) (h1 : 1 ≤ n) (h8 : n ≤ 8) (hi : i < n) (hfr : fr ≤ (l.take 80).length) :
    Calls Try.prog 6 #[.int .i64 n, .slice a l.length cap, .int .i64 fr, .int .i64 i] w fun e w' => e = .returned (.bool true) ∧ Only w.heap.size w.heap.size w w' := by
  obtain ⟨l1, hl1, hfl, HF⟩ : ∃ l1 : List Int, l1.length ≤ 80 ∧ fr ≤ l1.length ∧ Hid (Calls Try.prog 15 #[.slice a l.length cap, .int .i64 80] w (NewRow w l1)) :=
    ⟨l.take 80, by simp; omega, hfr, few_any w cap a l h 80 (by omega) hcap⟩
  clear h hfr
  have e1 : ¬ ((n : Int) < 1) := by omega
  have e2 : ¬ (8 < (n : Int)) := by omega
  have e3 : ¬ ((i : Int) < 0) := by omega
  have e4 : ¬ ((n : Int) ≤ (i : Int)) := by omega
  have e5 : ¬ ((fr : Int) < 0) := by omega
  have e6 : ¬ ((l1.length : Int) < (fr : Int)) := by omega
  have d1 : decide ((n : Int) < 1) = false := by simp; omega
  have d2 : decide (8 < (n : Int)) = false := by simp; omega
  have d3 : decide ((i : Int) < 0) = false := by simp
  have d5 : decide ((fr : Int) < 0) = false := by simp
  have d4 : decide (n ≤ i) = false := by simp; omega
  have d6 : decide (l1.length < fr) = false := by simp; omega
  have g4 : ¬ n ≤ i := by omega
  have g6 : ¬ l1.length < fr := by omega
  go_enter Try.func6, Try.ntmps6
  go_wp2_with (go_at_call 15; refine HF.out.mono ?_; rintro e w1 ⟨a1, cap1, rfl, hs1, ho1⟩; have H1 := Lib.hid (And.intro hs1 ho1); have hle1 := hs1.le; have hfc : fr ≤ cap1 := (by omega); have hfc' : (fr : Int) ≤ (cap1 : Int) := (by omega); clear ho1 hs1)
  have HP1 : Hid (Calls Try.prog 16 #[.int .i64 n, .slice a1 fr cap1] w1 fun e w' => ∃ p, e = .returned (.tuple #[.pointer (some ⟨p, 0, none⟩), .int .i64 0]) ∧ Clk w' w1.heap.size (w1.heap.size + 4) p n (St.play n (l1.take fr)) ∧ Only w1.heap.size w1.heap.size w1 w') := by
    have := play_some w1 cap1 a1 (l1.take fr) (H1.out.1.take fr) n h1 h8 (by simp; omega)
    rwa [show (l1.take fr).length = fr by simp; omega] at this
  go_wp2_with (go_at_call 16; with_reducible refine HP1.out.mono ?_; rintro e w2 ⟨p, rfl, hc2, ho2⟩; have H2 := Lib.hid (And.intro hc2 ho2); clear hc2 ho2)
  go_wp2_with (go_at_call 16; refine (play_some w2 cap1 a1 l1 ((H1.out.1.kept H2.out.2 (Nat.le_refl _) (Nat.le_refl _)).mono H2.out.2.size) n h1 h8 (by omega)).mono ?_; rintro e w3 ⟨r, rfl, hc3, ho3⟩; have H3 := Lib.hid (And.intro hc3 ho3); clear hc3 ho3)
  go_wp2_with (first
    | (go_at_call 29; refine (copy_any w3 _ _ p n _ (H2.out.1.kept H3.out.2 (.inl H2.out.1.full)) h1 h8).mono ?_; rintro e w4 ⟨q, rfl, hc4, ho4⟩; have H4 := Lib.hid (And.intro hc4 ho4); clear hc4 ho4)
    | (refine wpList_from _ rfl _ _ rfl a1 l1.length cap1 fr rfl rfl hfl ?_))
  have HR : Hid (RowAt w3 w1.heap.size (adr a1 fr cap1) (l1.drop fr) ∧ w1.heap.size ≤ w3.heap.size) := by
    have o13 : Only w1.heap.size w1.heap.size w1 w3 := H2.out.2.then H3.out.2 H2.out.2.size
    exact ⟨(H1.out.1.from_ fr hfl).kept o13 (Nat.le_refl _) (Nat.le_refl _), by have := H2.out.2.size; have := H3.out.2.size; omega⟩
  have HS : Hid (CtRel w w3 q n fr l1 (.int .i64 0) w4) := ⟨0, Nat.zero_le _, rfl, by rw [Nat.add_zero]; exact H4.out.1, H4.out.2.mono (Nat.le_refl _) (by
      obtain ⟨a', b', c', hx⟩ := H4.out.1
      have := hx.sp.1; omega), ((H1.out.2.then H2.out.2 H1.out.2.size).then H3.out.2 (by have := H1.out.2.size; have := H2.out.2.size; omega)).then H4.out.2 (by have := H1.out.2.size; have := H2.out.2.size; have := H3.out.2.size; omega)⟩
  have HZ : Hid (w.heap.size ≤ w3.heap.size) := by have := H1.out.2.size; have := H2.out.2.size; have := H3.out.2.size; show _ ≤ _; omega
  have HAB : Hid (Clk w3 w1.heap.size (w1.heap.size + 4) p n (St.play n (l1.take fr)) ∧ Clk w3 w2.heap.size (w2.heap.size + 4) r n (St.play n l1) ∧ w1.heap.size + 4 ≤ w3.heap.size ∧ w2.heap.size + 4 ≤ w3.heap.size) :=
    ⟨H2.out.1.kept H3.out.2 (.inl H2.out.1.full), H3.out.1, by have := H2.out.1.full; have := H3.out.2.size; omega, H3.out.1.full⟩
  clear H1 H2 H3 H4 HP1 HF
  have hdl : (l1.drop fr).length = l1.length - fr := by simp
  have HDL := Lib.hid hdl
  clear hdl
  generalize adr a1 fr cap1 = ad at *
  go_loopw [15, 80] (fun _ kv wr => CtRel w w3 q n fr l1 kv wr) (fun _ kv _ => l1.length - fr - (intOf kv).toNat)
  case atStart => exact HS.out
  case round =>
    clear HS
    obtain ⟨k, hk, rfl, hcr, hor, hwr⟩ := hrel
    by_cases hlt : k < l1.length - fr
    · obtain ⟨b, o, rfl, hb, hcell⟩ := HR.out.1.addr (by rw [HDL.out]; omega)
      have hc : wr.cell? ⟨b, o + k, none⟩ = some (.int .i64 (nth l1 (fr + k))) := by
        have h0 := HR.out.2
        rw [hor.cell (by show b < _; omega) (.inl (by show b < _; omega))]
        have := hcell k (by rw [HDL.out]; omega)
        rwa [nth_drop] at this
      have hbd := Bd_mono (Bd_play n (l1.take (fr + k))) (show (l1.take (fr + k)).length ≤ 1000 by simp; omega)
      have HT := Lib.hid (tick_any wr _ _ q n 1000 _ hcr hbd (by omega) (nth l1 (fr + k)) h8)
      have HP := Lib.hid (drop_one n l1 fr k (by omega))
      have HX := Lib.hid (And.intro hor hwr)
      clear hcell hcr hor hwr hbd
      have hlt' : (k : Int) < ((l1.length - fr : Nat) : Int) := by omega
      go_wp2_with (go_at_call 19; refine HT.out.mono ?_; rintro e w5 ⟨rfl, hc5, ho5⟩; have HY := Lib.hid (And.intro hc5 ho5); clear hc5 ho5)
      go_roundw
      case rel => exact ⟨k + 1, by omega, by go_num, by rw [HP.out]; exact HY.out.1, HX.out.1.trans HY.out.2, HX.out.2.then HY.out.2 HZ.out⟩
      case measure => simp [intOf]; omega
    · obtain rfl : k = l1.length - fr := by omega
      have hfin : l1.take (fr + (l1.length - fr)) = l1 := List.take_of_length_le (by omega)
      rw [hfin] at hcr
      have K : Hid (∀ m, Clk (wr.drewN m) w1.heap.size (w1.heap.size + 4) p n (St.play n (l1.take fr)) ∧ Clk (wr.drewN m) w2.heap.size (w2.heap.size + 4) r n (St.play n l1) ∧ Clk (wr.drewN m) w3.heap.size (q + 1) q n (St.play n l1)) := fun m =>
        ⟨(HAB.out.1.kept hor (.inl HAB.out.2.2.1)).kept ((Only.refl 0 0 wr).drewN m) (.inr (Nat.zero_le _)), (HAB.out.2.1.kept hor (.inl HAB.out.2.2.2)).kept ((Only.refl 0 0 wr).drewN m) (.inr (Nat.zero_le _)), hcr.kept ((Only.refl 0 0 wr).drewN m) (.inr (Nat.zero_le _))⟩
      have HW := Lib.hid hwr
      have HSZ : Hid (w2.heap.size + 4 ≤ wr.heap.size) := by have h1 := HAB.out.2.2.2; have h2 := hor.size; show _ ≤ _; omega
      have BA := Lib.hid (Bd_mono (Bd_play n (l1.take fr)) (show (l1.take fr).length ≤ 1000 by simp; omega))
      have BB := Lib.hid (Bd_mono (Bd_play n l1) (show l1.length ≤ 1000 by omega))
      have HL := stretch n l1 fr i
      obtain ⟨s1, s2, s3⟩ := HL
      obtain ⟨a1', a2'⟩ := BA.out.1 i
      obtain ⟨a3', a4'⟩ := BA.out.1 0
      obtain ⟨b1', b2'⟩ := BB.out.1 i
      obtain ⟨b3', b4'⟩ := BB.out.1 0
      clear hcr hor hwr hfin
      have h0 : 0 < n := by omega
      generalize St.play n (l1.take fr) = SA at *
      generalize St.play n l1 = SB at *
      go_wp2_with fail
      refine (now_some wr _ _ r _ _ (K.out 0).2.1 i h8 hi).mono ?_
      rintro e w' ⟨rfl, rfl⟩
      go_wp2_with fail
      refine (now_some wr _ _ p _ _ (K.out 0).1 i h8 hi).mono ?_
      rintro e w' ⟨rfl, rfl⟩
      go_wp2_with fail
      refine (now_some wr _ _ r _ _ (K.out 0).2.1 0 h8 h0).mono ?_
      rintro e w' ⟨rfl, rfl⟩
      go_wp2_with fail
      refine (now_some wr _ _ p _ _ (K.out 0).1 0 h8 h0).mono ?_
      rintro e w' ⟨rfl, rfl⟩
      go_wp2_with fail
      refine (now_some wr _ _ q _ _ (K.out 0).2.2 i h8 hi).mono ?_
      rintro e w' ⟨rfl, rfl⟩
      go_wp2_with fail
      refine (now_some wr _ _ r _ _ (K.out 0).2.1 i h8 hi).mono ?_
      rintro e w' ⟨rfl, rfl⟩
      go_wp2_with fail
      refine (drift_some (wr) _ _ q _ _ _ (K.out 0).2.2 BB.out (by omega) i h8 hi).mono ?_
      rintro e w' ⟨rfl, m1, rfl⟩
      go_wp2_with fail
      refine (drift_some (wr.drewN (m1)) _ _ r _ _ _ (K.out (m1)).2.1 BB.out (by omega) i h8 hi).mono ?_
      rintro e w' ⟨rfl, m2, rfl⟩
      go_wp2_with fail
      refine (drift_some (wr.drewN (m1 + m2)) _ _ p _ _ _ (K.out (m1 + m2)).1 BA.out (by omega) i h8 hi).mono ?_
      rintro e w' ⟨rfl, m3, rfl⟩
      go_wp2_with fail
      refine (drift_some (wr.drewN (m1 + m2 + m3)) _ _ r _ _ _ (K.out (m1 + m2 + m3)).2.1 BB.out (by omega) i h8 hi).mono ?_
      rintro e w' ⟨rfl, m4, rfl⟩
      go_wp2_with fail
      refine (awake17 _).mono ?_
      rintro e w6 ⟨rfl, hoa⟩
      have K2 : Hid (∀ m, Clk (w6.drewN m) w2.heap.size (w2.heap.size + 4) r n SB ∧ Only w.heap.size w.heap.size w (w6.drewN m)) := fun m =>
        ⟨((K.out (m1 + m2 + m3 + m4)).2.1.kept hoa (.inl HSZ.out)).kept ((Only.refl 0 0 w6).drewN m) (.inr (Nat.zero_le _)), ((HW.out.drewN (m1 + m2 + m3 + m4)).then hoa HW.out.size).drewN m⟩
      clear hoa
      go_wp2_with fail
      refine (drift_some w6 _ _ r _ _ _ (K2.out 0).1 BB.out (by omega) i h8 hi).mono ?_
      rintro e w' ⟨rfl, n1, rfl⟩
      go_wp2_with fail
      refine (drift_some (w6.drewN n1) _ _ r _ _ _ (K2.out n1).1 BB.out (by omega) i h8 hi).mono ?_
      rintro e w' ⟨rfl, n2, rfl⟩
      go_wp2_with fail
      go_ret
      exact ⟨rfl, (K2.out (n1 + n2)).2⟩
end Go.Proofs.Ytefllgpehhlkoaa
