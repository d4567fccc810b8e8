/-
  The walk through ClockSums: it returns true.
-/
import Derived.Test.YtefllgpehhlkoaaEven
import Derived.Test.YtefllgpehhlkoaaAwake17
namespace Go.Proofs.Ytefllgpehhlkoaa
open Go.RowKit

set_option maxRecDepth 100000 in
set_option maxHeartbeats 1000000 in
theorem cs_none (n r : Int) (w : World) (cap : Nat) (a : Option Addr) (l : List Int) (h : Sl w w.heap.size a cap l) (hcap : cap ≤ 9223372036854775807) (hn : n < 1 ∨ 8 < n) :
    Calls Try.prog 4 #[.int .i64 n, .slice a l.length cap, .int .i64 r] w fun e w' => e = .returned (.bool true) ∧ Only w.heap.size w.heap.size w w' := by
  have HF := Lib.hid (few_any w cap a l h 80 (by omega) hcap)
  clear h
  rcases hn with hn | hn
  · go_enter Try.func4, Try.ntmps4
    go_wp2_with (go_at_call 15; refine HF.out.mono ?_; rintro e w1 ⟨a1, cap1, rfl, hs1, ho1⟩)
    have HO := Lib.hid ho1
    clear ho1 hs1
    go_wp2_with (go_at_call 18; refine (awake17 _).mono ?_; rintro e w' ⟨rfl, hoa⟩)
    go_ret
    exact ⟨rfl, HO.out.then hoa HO.out.size⟩
  · have h1 : ¬ n < 1 := by omega
    go_enter Try.func4, Try.ntmps4
    go_wp2_with (go_at_call 15; refine HF.out.mono ?_; rintro e w1 ⟨a1, cap1, rfl, hs1, ho1⟩)
    have HO := Lib.hid ho1
    clear ho1 hs1
    go_wp2_with (go_at_call 18; refine (awake17 _).mono ?_; rintro e w' ⟨rfl, hoa⟩)
    go_ret
    exact ⟨rfl, HO.out.then hoa HO.out.size⟩

theorem Only.of_own {w w' : World} {base : Nat} {v : Value} {xs : List Int} (h : Own w base v xs) (hg : w.grownBy w' v.ownBlock) : ∃ hi, Only base hi w w' := by
  have hlt := World.ownsRow.lt h
  cases hv : v.ownBlock with
  | none => rw [hv] at hg; exact ⟨0, Only.of_grown_none hg⟩
  | some g => rw [hv] at hg; exact ⟨g + 1, (Only.of_grown hg).mono (hlt g hv).1 (Nat.le_refl _)⟩

/-- what the third loop keeps -/
def CsRel (w0 : World) (B p n : Nat) (s : St) (sv : Value) (r k : Nat) (wr : World) : Prop :=
  ∃ (a' : Option Addr) (cap' : Nat) (el : List Int), sv = .slice a' el.length cap' ∧ Own wr B (.slice a' el.length cap') el ∧ Even n r k el ∧ Clk wr w0.heap.size (w0.heap.size + 4) p n s ∧ Only w0.heap.size w0.heap.size w0 wr ∧ w0.heap.size + 4 ≤ B ∧ B ≤ wr.heap.size

set_option maxRecDepth 100000 in
set_option maxHeartbeats 2000000 in
theorem cs_some (n : Nat) (rounds : Int) (w : World) (cap : Nat) (a : Option Addr) (l : List Int) (h : Sl w w.heap.size a cap l) (hcap : cap ≤ 9223372036854775807) (h1 : 1 ≤ n) (h8 : n ≤ 8) :
    Calls Try.prog 4 #[.int .i64 n, .slice a l.length cap, .int .i64 rounds] w fun e w' => e = .returned (.bool true) ∧ Only w.heap.size w.heap.size w w' := by
  obtain ⟨l1, hl1, HF⟩ : ∃ l1 : List Int, l1.length ≤ 80 ∧ Hid (Calls Try.prog 15 #[.slice a l.length cap, .int .i64 80] w (NewRow w l1)) :=
    ⟨l.take 80, by simp; omega, few_any w cap a l h 80 (by omega) hcap⟩
  have hlt1 : ¬ ((n : Int) < 1) := by omega
  have hlt8 : ¬ (8 < (n : Int)) := by omega
  have hb0 := build0
  have hd1 : decide ((n : Int) < 1) = false := by simp; omega
  have hd8 : decide (8 < (n : Int)) = false := by simp; omega
  clear h
  go_enter Try.func4, Try.ntmps4
  go_wp2_with (go_at_call 15; refine HF.out.mono ?_; rintro e w1 ⟨a1, cap1, rfl, hs1, ho1⟩)
  have H1 := Lib.hid (And.intro hs1 ho1)
  clear ho1 hs1 HF
  go_wp2_with (go_at_call 16; refine (play_some _ cap1 a1 l1 H1.out.1 n h1 h8 (by omega)).mono ?_; rintro e w2 ⟨p, rfl, hc2, ho2⟩)
  have H2 := Lib.hid (And.intro hc2 ho2)
  have HBd := Lib.hid (Bd_mono (Bd_play n l1) (show l1.length ≤ 1000 by omega))
  clear hc2 ho2
  have HC : Hid (∀ m, Clk (w2.drewN m) w1.heap.size (w1.heap.size + 4) p n (St.play n l1)) := fun m => H2.out.1.kept ((Only.refl 0 0 w2).drewN m) (.inr (Nat.zero_le _))
  go_loopw [9, 11] (fun sv iv wr => ∃ k m : Nat, k ≤ n ∧ iv = .int .i64 k ∧ sv = .int .i64 (total (St.play n l1) k) ∧ wr = w2.drewN m) (fun _ iv _ => n - (intOf iv).toNat)
  case atStart => exact ⟨0, 0, Nat.zero_le _, rfl, rfl, rfl⟩
  case round =>
    obtain ⟨k, m, hk, rfl, rfl, rfl⟩ := hrel
    have htb := total_bd HBd.out k
    obtain ⟨ht1, ht2⟩ := htb
    have ht3 : total (St.play n l1) k ≤ 8000 := by omega
    clear ht2
    by_cases hlt : k < n
    · have hnb := HBd.out.1 k
      obtain ⟨hn1, hn2⟩ := hnb
      have hdb := drift_bd HBd.out k
      obtain ⟨hd1', hd2'⟩ := hdb
      have hle := le_worst (St.play n l1) k n hlt
      go_wp2_with (first
        | (go_at_call 21; refine (now_some _ _ _ _ _ _ (HC.out _) k h8 hlt).mono ?_; rintro e w' ⟨rfl, rfl⟩)
        | (go_at_call 23; refine (drift_some _ _ _ _ _ _ _ (HC.out _) HBd.out (by omega) k h8 hlt).mono ?_; rintro e w' ⟨rfl, m', rfl⟩)
        | (go_at_call 24; refine (worst_any _ _ _ _ _ _ _ (HC.out _) HBd.out (by omega) h8).mono ?_; rintro e w' ⟨rfl, m', rfl⟩))
      go_roundw
      case rel => exact ⟨k + 1, _, by omega, by go_num, rfl, rfl⟩
      case measure => simp [intOf]; omega
    · obtain rfl : k = n := by omega
      have HT := Lib.hid (total_is k l1 l1.length (Nat.le_refl _))
      rw [List.take_length] at HT
      have HR : Hid (Sl (w2.drewN m) w1.heap.size a1 cap1 l1 ∧ Only w1.heap.size w1.heap.size w1 (w2.drewN m)) := ⟨H1.out.1.kept (H2.out.2.drewN m) (Nat.le_refl _) (Nat.le_refl _), H2.out.2.drewN m⟩
      have HCl := Lib.hid (HC.out m)
      have HO1 := Lib.hid H1.out.2
      have hsn : ∀ j, (seen k (l1.take j)).length ≤ 80 := fun j => by have := seen_le k (l1.take j); simp at this; omega
      have HSN := Lib.hid hsn
      clear H1 H2 HC hsn ht3 ht1
      generalize w2.drewN m = w3 at *
      go_wp2_with fail
      go_loop [10, 13, 64] (fun tv _ kv => ∃ j : Nat, j ≤ l1.length ∧ kv = .int .i64 j ∧ tv = .int .i64 (seen k (l1.take j)).length) (fun _ _ kv => l1.length - (intOf kv).toNat)
      case atStart => exact ⟨0, Nat.zero_le _, rfl, rfl⟩
      case round =>
        obtain ⟨j, hj, rfl, rfl⟩ := hrel
        by_cases hlj : j < l1.length
        · obtain ⟨b, o, rfl, hb, hcell⟩ := HR.out.1.row.addr (by omega)
          have hc := hcell j hlj
          have hs80 := HSN.out j
          have HK := Lib.hid (take_nth hlj)
          clear hcell
          generalize nth l1 j = t at *
          by_cases ht : 0 ≤ t ∧ t < k
          · have HV := Lib.hid ht
            obtain ⟨ht1, ht2⟩ := ht
            go_wp2_with fail
            go_round
            case rel => exact ⟨j + 1, by omega, by go_num, by rw [HK.out, seen_snoc_yes _ _ _ HV.out]; simp⟩
            case measure => simp [intOf]; omega
          · have HV := Lib.hid ht
            rcases (show t < 0 ∨ 0 ≤ t ∧ (k : Int) ≤ t by omega) with ht1 | ⟨ht1, ht2⟩
            all_goals
              go_wp2_with fail
              go_round
              case rel => exact ⟨j + 1, by omega, by go_num, by rw [HK.out, seen_snoc_no _ _ _ HV.out]⟩
              case measure => simp [intOf]; omega
        · obtain rfl : j = l1.length := by omega
          rw [List.take_length]
          have hs80 := HSN.out l1.length
          rw [List.take_length] at hs80
          clear HSN
          have HS : Hid (CsRel w1 w3.heap.size p k (St.play k l1) (.slice (some ⟨w3.heap.size, 0, none⟩) 0 0) 0 0 (w3.alloc (.cells #[] 3))) :=
            ⟨_, _, [], rfl, Own.empty w3 _ (Nat.le_refl _), Even.start k, HCl.out.kept ((Only.refl 0 0 w3).alloc _) (.inr (Nat.zero_le _)), HR.out.2.alloc _, HCl.out.full, by simp⟩
          clear HR HCl
          go_wp2_with fail
          generalize w3.heap.size = B at *
          go_loopw [14, 15, 16] (fun sv iv _ wr => ∃ r : Nat, r ≤ 20 ∧ iv = .int .i64 r ∧ CsRel w1 B p k (St.play k l1) sv r 0 wr) (fun _ iv _ _ => 20 - (intOf iv).toNat)
          case atStart => exact ⟨0, by omega, rfl, HS.out⟩
          case round =>
            clear HS
            obtain ⟨r, hr, rfl, a', cap', el, rfl, hown, hev, hcl, honly, hB1, hB2⟩ := hrel
            by_cases hgo : (r : Int) < rounds ∧ r < 20
            · obtain ⟨hg1, hg2⟩ := hgo
              have HR : Hid (CsRel w1 B p k (St.play k l1) (.slice a' el.length cap') r 0 wr) := ⟨a', cap', el, rfl, hown, hev, hcl, honly, hB1, hB2⟩
              clear hown hev hcl honly hB1 hB2
              obtain ⟨wo, rfl⟩ : ∃ wo : World, wo = wr := ⟨_, rfl⟩
              have hgb : decide ((r : Int) < 20) = true := by simp; omega
              go_wp2_with fail
              go_loopw [14, 16] (fun sv jv wr => ∃ j : Nat, j ≤ k ∧ jv = .int .i64 j ∧ CsRel w1 B p k (St.play k l1) sv r j wr) (fun _ jv _ => k - (intOf jv).toNat)
              case atStart => exact ⟨0, Nat.zero_le _, rfl, HR.out⟩
              case round =>
                clear HR
                obtain ⟨j, hj, rfl, a', cap', el, rfl, hown, hev, hcl, honly, hB1, hB2⟩ := hrel
                by_cases hjk : j < k
                · have hel : el.length + 1 ≤ 1000000 := by
                    have h1 := hev.len
                    have h2 : r * k ≤ 20 * 8 := Nat.mul_le_mul (by omega) (by omega)
                    omega
                  have HOw : Hid (Own (wr.alloc (.cells #[.int .i64 j] 3)) B (.slice a' el.length cap') el ∧ B ≤ (wr.alloc (.cells #[.int .i64 j] 3)).heap.size) := ⟨hown.keptOnly (lo := 0) (hi := 0) ((Only.refl _ _ _).alloc _) (Nat.zero_le _), by simp; omega⟩
                  have HX := Lib.hid (And.intro hev (And.intro hcl (And.intro honly (And.intro hB1 hB2))))
                  clear hown hev hcl honly hB1 hB2
                  go_wp2_with (at_builtin; refine wpList_append_ints _ rfl _ _ rfl B _ el [(j : Int)] rfl HOw.out.1 (some ⟨wr.heap.size, 0, none⟩) 1 (wr.heap.size + 1) rfl (one_new _ _) hel HOw.out.2 ?_; intro v' w6 hown' hg)
                  obtain ⟨a6, cap6, hv6, _⟩ := hown'.row
                  obtain ⟨hi, hx⟩ := Only.of_own HOw.out.1 hg
                  have hy : Only B hi wr w6 := ((Only.refl B hi wr).alloc _).trans hx
                  have HY : Hid (CsRel w1 B p k (St.play k l1) v' r (j + 1) w6) := by
                    obtain ⟨x1, x2, x3, x4, x5⟩ := HX.out
                    have z := hy.size
                    refine ⟨a6, cap6, _, hv6, ?_, x1.next hjk, x2.kept hy (.inl (by omega)), x3.then hy (by omega), x4, by omega⟩
                    rw [← hv6]; exact hown'
                  clear hown' hg hv6 hx hy HX HOw
                  go_roundw
                  case rel => exact ⟨j + 1, by omega, by go_num, HY.out⟩
                  case measure => simp [intOf]; omega
                · obtain rfl : j = k := by omega
                  have HY : Hid (CsRel w1 B p j (St.play j l1) (.slice a' el.length cap') (r + 1) 0 wr) := ⟨a', cap', el, rfl, hown, hev.round, hcl, honly, hB1, hB2⟩
                  clear hown hev hcl honly hB1 hB2
                  go_wp2_with fail
                  go_roundw
                  case rel => exact ⟨r + 1, by omega, by go_num, HY.out⟩
                  case measure => simp [intOf]; omega
            · obtain ⟨a6, cap6, hv6, hs6⟩ := hown.row
              have e6 : a6 = a' ∧ cap6 = cap' := by simp at hv6; exact ⟨hv6.1.symm, hv6.2.symm⟩
              obtain ⟨rfl, rfl⟩ := e6
              have hel : el.length ≤ 1000 := by
                have h1 := hev.len
                have h2 : r * k ≤ 20 * 8 := Nat.mul_le_mul (by omega) (by omega)
                omega
              have HP := Lib.hid (play_some wr cap6 a6 el hs6 k h1 h8 hel)
              have hw := hev.worst
              have HE := Lib.hid (Bd_mono (Bd_play k el) hel)
              have HX := Lib.hid (And.intro hcl honly)
              have hsum : (total (St.play k l1) k == ((seen k l1).length : Int)) = true := by rw [HT.out]; simp
              have HD0 := Lib.hid (drift_none0 k l1)
              clear hown hev hcl honly hB1 hB2 hs6 hv6
              have arms : True := trivial
              rcases (show ¬ (r : Int) < rounds ∨ ((r : Int) < rounds ∧ ¬ r < 20) by omega) with hg1 | ⟨hg1, hg2⟩
              · go_wp2_with (go_at_call 16; refine HP.out.mono ?_; rintro e w5 ⟨q, rfl, hc5, ho5⟩)
                have H5 := Lib.hid (And.intro hc5 ho5)
                clear hc5 ho5
                go_wp2_with (go_at_call 18; refine (awake17 _).mono ?_; rintro e w6 ⟨rfl, ho6⟩)
                have HF : Hid (∀ m, Clk (w6.drewN m) wr.heap.size (wr.heap.size + 4) q k (St.play k el) ∧ Clk (w6.drewN m) w1.heap.size (w1.heap.size + 4) p k (St.play k l1) ∧ Only w.heap.size w.heap.size w (w6.drewN m)) := by
                  intro m
                  obtain ⟨y1, y2⟩ := HX.out
                  obtain ⟨y3, y4⟩ := H5.out
                  have y5 := HO1.out
                  have z1 := y2.size; have z2 := y5.size; have z3 := y4.size; have z4 := y1.full; have z5 := y3.full
                  exact ⟨(y3.kept ho6 (.inl z5)).kept ((Only.refl 0 0 _).drewN m) (.inr (Nat.zero_le _)), ((y1.kept y4 (.inl z4)).kept ho6 (.inl (by omega))).kept ((Only.refl 0 0 _).drewN m) (.inr (Nat.zero_le _)), (((y5.then y2 (by omega)).then y4 (by omega)).then ho6 (by omega)).drewN m⟩
                clear ho6 H5 HX
                refine (worst_any w6 _ _ _ _ _ _ (HF.out 0).1 HE.out (by omega) h8).mono ?_
                rintro e w7 ⟨rfl, m1, rfl⟩
                go_wp2_with fail
                refine ((drift_some (w6.drewN m1) _ _ _ _ _ _ (HF.out m1).2.1 HBd.out (by omega) 0 h8 (by omega)).mono (fun e w' h => (⟨h.1.trans (ret_int HD0.out), h.2⟩ : e = .returned (.int .i64 0) ∧ ∃ m, w' = (w6.drewN m1).drewN m))).mono ?_
                rintro e w7 ⟨rfl, m2, rfl⟩
                go_wp2_with fail
                go_ret
                exact ⟨rfl, (HF.out (m1 + m2)).2.2⟩
              · go_wp2_with (go_at_call 16; refine HP.out.mono ?_; rintro e w5 ⟨q, rfl, hc5, ho5⟩)
                have H5 := Lib.hid (And.intro hc5 ho5)
                clear hc5 ho5
                go_wp2_with (go_at_call 18; refine (awake17 _).mono ?_; rintro e w6 ⟨rfl, ho6⟩)
                have HF : Hid (∀ m, Clk (w6.drewN m) wr.heap.size (wr.heap.size + 4) q k (St.play k el) ∧ Clk (w6.drewN m) w1.heap.size (w1.heap.size + 4) p k (St.play k l1) ∧ Only w.heap.size w.heap.size w (w6.drewN m)) := by
                  intro m
                  obtain ⟨y1, y2⟩ := HX.out
                  obtain ⟨y3, y4⟩ := H5.out
                  have y5 := HO1.out
                  have z1 := y2.size; have z2 := y5.size; have z3 := y4.size; have z4 := y1.full; have z5 := y3.full
                  exact ⟨(y3.kept ho6 (.inl z5)).kept ((Only.refl 0 0 _).drewN m) (.inr (Nat.zero_le _)), ((y1.kept y4 (.inl z4)).kept ho6 (.inl (by omega))).kept ((Only.refl 0 0 _).drewN m) (.inr (Nat.zero_le _)), (((y5.then y2 (by omega)).then y4 (by omega)).then ho6 (by omega)).drewN m⟩
                clear ho6 H5 HX
                refine (worst_any w6 _ _ _ _ _ _ (HF.out 0).1 HE.out (by omega) h8).mono ?_
                rintro e w7 ⟨rfl, m1, rfl⟩
                go_wp2_with fail
                refine ((drift_some (w6.drewN m1) _ _ _ _ _ _ (HF.out m1).2.1 HBd.out (by omega) 0 h8 (by omega)).mono (fun e w' h => (⟨h.1.trans (ret_int HD0.out), h.2⟩ : e = .returned (.int .i64 0) ∧ ∃ m, w' = (w6.drewN m1).drewN m))).mono ?_
                rintro e w7 ⟨rfl, m2, rfl⟩
                go_wp2_with fail
                go_ret
                exact ⟨rfl, (HF.out (m1 + m2)).2.2⟩
end Go.Proofs.Ytefllgpehhlkoaa
