/-
  The walk through ClockPlays: it returns true.
-/
import Derived.Test.YtefllgpehhlkoaaSeen
import Derived.Test.YtefllgpehhlkoaaAwake17
namespace Go.Proofs.Ytefllgpehhlkoaa
open Go.RowKit

set_option maxRecDepth 100000 in
set_option maxHeartbeats 1000000 in
theorem cp_small (n : Int) (w : World) (cap : Nat) (a : Option Addr) (l : List Int) (h : Sl w w.heap.size a cap l) (hcap : cap ≤ 9223372036854775807) (hn : n < 1) :
    Calls Try.prog 3 #[.int .i64 n, .slice a l.length cap] w fun e w' => e = .returned (.bool true) ∧ Only w.heap.size w.heap.size w w' := by
  have HF := Lib.hid (few_any w cap a l h 80 (by omega) hcap)
  clear h
  go_enter Try.func3, Try.ntmps3
  go_wp2_with (go_at_call 15; refine HF.out.mono ?_; rintro e w1 ⟨a1, cap1, rfl, hs1, ho1⟩)
  have HO := Lib.hid ho1
  clear ho1 hs1
  go_wp2_with (first
    | (go_at_call 16; refine (play_small n _ _ hn).mono ?_; rintro e w' ⟨rfl, rfl⟩)
    | (go_at_call 17; refine (new_small n _ hn).mono ?_; rintro e w' ⟨rfl, rfl⟩)
    | (go_at_call 18; refine (awake17 _).mono ?_; rintro e w' ⟨rfl, hoa⟩))
  go_ret
  exact ⟨rfl, HO.out.then hoa HO.out.size⟩
set_option maxRecDepth 100000 in
set_option maxHeartbeats 1000000 in
theorem cp_big (n : Int) (w : World) (cap : Nat) (a : Option Addr) (l : List Int) (h : Sl w w.heap.size a cap l) (hcap : cap ≤ 9223372036854775807) (hn : 8 < n) :
    Calls Try.prog 3 #[.int .i64 n, .slice a l.length cap] w fun e w' => e = .returned (.bool true) ∧ Only w.heap.size w.heap.size w w' := by
  have HF := Lib.hid (few_any w cap a l h 80 (by omega) hcap)
  have h1 : ¬ n < 1 := by omega
  clear h
  go_enter Try.func3, Try.ntmps3
  go_wp2_with (go_at_call 15; refine HF.out.mono ?_; rintro e w1 ⟨a1, cap1, rfl, hs1, ho1⟩)
  have HO := Lib.hid ho1
  clear ho1 hs1
  go_wp2_with (first
    | (go_at_call 16; refine (play_big n _ _ hn).mono ?_; rintro e w' ⟨rfl, rfl⟩)
    | (go_at_call 17; refine (new_big n _ hn).mono ?_; rintro e w' ⟨rfl, rfl⟩)
    | (go_at_call 18; refine (awake17 _).mono ?_; rintro e w' ⟨rfl, hoa⟩))
  go_ret
  exact ⟨rfl, HO.out.then hoa HO.out.size⟩

theorem Only.of_own {w w' : World} {base : Nat} {v : Value} {xs : List Int} (h : Own w base v xs) (hg : w.grownBy w' v.ownBlock) : ∃ hi, Only base hi w w' := by
  have hlt := World.ownsRow.lt h
  cases hv : v.ownBlock with
  | none => rw [hv] at hg; exact ⟨0, Only.of_grown_none hg⟩
  | some g => rw [hv] at hg; exact ⟨g + 1, (Only.of_grown hg).mono (hlt g hv).1 (Nat.le_refl _)⟩

/-- What the first loop has done behind the ticks l': the row of those that are there, both clocks. -/
structure CpAt (w0 : World) (B lo1 lo2 p q n : Nat) (a : Option Addr) (cap : Nat) (l l' : List Int) (sv : Value) (wr : World) : Prop where
  own : Own wr B sv (seen n l')
  row : Sl wr lo1 a cap l
  c : Clk wr lo1 (lo1 + 4) p n (St.play n l)
  d : Clk wr lo2 (lo2 + 4) q n (St.play n l')
  only : Only w0.heap.size w0.heap.size w0 wr
  s0 : w0.heap.size ≤ lo1
  s1 : lo1 + 4 ≤ lo2
  s2 : lo2 + 4 ≤ B
  s3 : B ≤ wr.heap.size

/-- a tick that isn't there -/
theorem CpAt.no {w0 wr w5 : World} {B lo1 lo2 p q n cap : Nat} {a : Option Addr} {l l' : List Int} {sv : Value} {t : Int} (h : CpAt w0 B lo1 lo2 p q n a cap l l' sv wr) (ht : ¬ (0 ≤ t ∧ t < n))
    (hc : Clk w5 lo2 (lo2 + 4) q n ((St.play n l').tick n t)) (ho : Only lo2 (lo2 + 4) wr w5) : CpAt w0 B lo1 lo2 p q n a cap l (l' ++ [t]) sv w5 := by
  have z := ho.size
  have e : St.play n (l' ++ [t]) = (St.play n l').tick n t := run_snoc _ _ _ _
  exact ⟨by rw [seen_snoc_no _ _ _ ht]; exact h.own.keptOnly ho h.s2, h.row.kept ho (by have := h.s1; have := h.s2; have := h.s3; omega) (by have := h.s1; omega), h.c.kept ho (.inl h.s1), by rw [e]; exact hc, h.only.then ho (by have := h.s0; have := h.s1; omega), h.s0, h.s1, h.s2, by have := h.s3; omega⟩
/-- a tick that is: the row before it is written -/
theorem CpAt.mid {w0 wr w5 : World} {B lo1 lo2 p q n cap : Nat} {a : Option Addr} {l l' : List Int} {sv : Value} (h : CpAt w0 B lo1 lo2 p q n a cap l l' sv wr) (t : Int) (ho : Only lo2 (lo2 + 4) wr w5) :
    Own (w5.alloc (.cells #[.int .i64 t] 3)) B sv (seen n l') ∧ B ≤ (w5.alloc (.cells #[.int .i64 t] 3)).heap.size := by
  have z := ho.size
  have := h.s3
  have hsz : (w5.alloc (.cells #[.int .i64 t] 3)).heap.size = w5.heap.size + 1 := by simp
  exact ⟨(h.own.keptOnly ho h.s2).keptOnly (lo := 0) (hi := 0) ((Only.refl _ _ _).alloc _) (Nat.zero_le _), by omega⟩
theorem CpAt.yes {w0 wr w5 w6 : World} {B lo1 lo2 p q n cap : Nat} {a : Option Addr} {l l' : List Int} {sv v' : Value} {t : Int} (h : CpAt w0 B lo1 lo2 p q n a cap l l' sv wr) (ht : 0 ≤ t ∧ t < n)
    (hc : Clk w5 lo2 (lo2 + 4) q n ((St.play n l').tick n t)) (ho : Only lo2 (lo2 + 4) wr w5) (hown : Own w6 B v' (seen n l' ++ [t])) (hg : (w5.alloc (.cells #[.int .i64 t] 3)).grownBy w6 sv.ownBlock) :
    CpAt w0 B lo1 lo2 p q n a cap l (l' ++ [t]) v' w6 := by
  obtain ⟨ho', hb'⟩ := h.mid t ho
  obtain ⟨hi, hx⟩ := Only.of_own ho' hg
  have z := ho.size
  have z2 := hx.size
  have e : St.play n (l' ++ [t]) = (St.play n l').tick n t := run_snoc _ _ _ _
  have s0 := h.s0; have s1 := h.s1; have s2 := h.s2; have s3 := h.s3
  have hy : Only B hi w5 w6 := ((Only.refl B hi w5).alloc _).trans hx
  exact ⟨by rw [seen_snoc_yes _ _ _ ht]; exact hown, (h.row.kept ho (by omega) (by omega)).kept hy (by omega) (by omega), (h.c.kept ho (.inl s1)).kept hy (.inl (by omega)), by rw [e]; exact hc.kept hy (.inl (by omega)), (h.only.then ho (by omega)).then hy (by omega), s0, s1, s2, by omega⟩

def CpRel (w0 : World) (B lo1 lo2 p q n : Nat) (a : Option Addr) (cap : Nat) (l : List Int) (sv kv : Value) (wr : World) : Prop :=
  ∃ (k : Nat) (a' : Option Addr) (cap' : Nat), k ≤ l.length ∧ kv = .int .i64 k ∧ sv = .slice a' (seen n (l.take k)).length cap' ∧ CpAt w0 B lo1 lo2 p q n a cap l (l.take k) (.slice a' (seen n (l.take k)).length cap') wr

set_option maxRecDepth 100000 in
set_option maxHeartbeats 2000000 in
theorem cp_some (n : Nat) (w : World) (cap : Nat) (a : Option Addr) (l : List Int) (h : Sl w w.heap.size a cap l) (hcap : cap ≤ 9223372036854775807) (h1 : 1 ≤ n) (h8 : n ≤ 8) :
    Calls Try.prog 3 #[.int .i64 n, .slice a l.length cap] w fun e w' => e = .returned (.bool true) ∧ Only w.heap.size w.heap.size w w' := by
  obtain ⟨l1, hl1, HF⟩ : ∃ l1 : List Int, l1.length ≤ 80 ∧ Hid (Calls Try.prog 15 #[.slice a l.length cap, .int .i64 80] w (NewRow w l1)) :=
    ⟨l.take 80, by simp; omega, few_any w cap a l h 80 (by omega) hcap⟩
  have hlt1 : ¬ ((n : Int) < 1) := by omega
  have hlt8 : ¬ (8 < (n : Int)) := by omega
  have hb0 := build0
  have hd1 : decide ((n : Int) < 1) = false := by simp; omega
  have hd8 : decide (8 < (n : Int)) = false := by simp; omega
  clear h
  go_enter Try.func3, Try.ntmps3
  go_wp2_with (go_at_call 15; refine HF.out.mono ?_; rintro e w1 ⟨a1, cap1, rfl, hs1, ho1⟩)
  have H1 := Lib.hid (And.intro hs1 ho1)
  clear ho1 hs1 HF
  go_wp2_with (go_at_call 16; refine (play_some _ cap1 a1 l1 H1.out.1 n h1 h8 (by omega)).mono ?_; rintro e w2 ⟨p, rfl, hc2, ho2⟩)
  have H2 := Lib.hid (And.intro hc2 ho2)
  clear hc2 ho2
  go_wp2_with (go_at_call 17; refine (new_some n _ h1 h8).mono ?_; rintro e w3 ⟨q, rfl, hc3, ho3⟩)
  have H3 := Lib.hid (And.intro hc3 ho3)
  clear hc3 ho3
  go_wp2_with (go_at_call 18; refine (awake17 _).mono ?_; rintro e w4 ⟨rfl, ho4⟩)
  have H4 := Lib.hid ho4
  clear ho4
  have HS : Hid (CpRel w w4.heap.size w1.heap.size w2.heap.size p q n a1 cap1 l1 (.slice (some ⟨w4.heap.size, 0, none⟩) 0 0) (.int .i64 0) (w4.alloc (.cells #[] 3))) := by
    obtain ⟨h1s, h1o⟩ := H1.out
    obtain ⟨h2c, h2o⟩ := H2.out
    obtain ⟨h3c, h3o⟩ := H3.out
    have h4o := H4.out
    have f2 := h2c.full
    have f3 := h3c.full
    have z1 := h1o.size; have z2 := h2o.size; have z3 := h3o.size; have z4 := h4o.size
    have o14 : Only w1.heap.size w1.heap.size w1 (w4.alloc (.cells #[] 3)) := (((h2o.then h3o (by omega)).then h4o (by omega)).alloc _)
    have o24 : Only w2.heap.size w2.heap.size w2 (w4.alloc (.cells #[] 3)) := ((h3o.then h4o (by omega)).alloc _)
    have o34 : Only w3.heap.size w3.heap.size w3 (w4.alloc (.cells #[] 3)) := (h4o.alloc _)
    refine ⟨0, _, _, Nat.zero_le _, rfl, rfl, ?_⟩
    rw [List.take_zero]
    exact ⟨Own.empty w4 _ (Nat.le_refl _), h1s.kept o14 (Nat.le_refl _) (Nat.le_refl _), h2c.kept o24 (.inl f2), h3c.kept o34 (.inl f3), h1o.then o14 z1, z1, f2, by omega, by simp⟩
  clear H1 H2 H3 H4
  generalize w4.heap.size = B at *
  go_loopw [9, 11, 12, 86] (fun sv _ _ kv wr => CpRel w B w1.heap.size w2.heap.size p q n a1 cap1 l1 sv kv wr) (fun _ _ _ kv _ => l1.length - (intOf kv).toNat)
  case atStart => exact HS.out
  case round =>
    clear HS
    obtain ⟨k, a', cap', hk, rfl, rfl, hat⟩ := hrel
    by_cases hlt : k < l1.length
    · obtain ⟨b, o, rfl, hb, hcell⟩ := hat.row.row.addr (by omega)
      have hc := hcell k hlt
      have hbd := Bd_mono (Bd_play n (l1.take k)) (show (l1.take k).length ≤ 1000 by simp; omega)
      have HT := Lib.hid (tick_any wr _ _ q n 1000 _ hat.d hbd (by omega) (nth l1 k) h8)
      have HP := Lib.hid (play_succ n l1 k hlt)
      have HK := Lib.hid (take_nth hlt)
      have HA := Lib.hid hat
      clear hat hbd hcell
      have hsl : (seen n (l1.take k)).length + 1 ≤ 1000000 := by
        have := seen_le n (l1.take k); simp at this; omega
      have HN : Hid (1 ≤ n ∧ n ≤ 8) := ⟨h1, h8⟩
      generalize hT : nth l1 k = t at *
      clear hT
      by_cases ht : 0 ≤ t ∧ t < n
      · rw [if_pos ht] at HT
        have HV := Lib.hid ht
        obtain ⟨ht1, ht2⟩ := ht
        go_wp2_with (first
          | (go_at_call 19; refine HT.out.mono ?_; rintro e w5 ⟨rfl, hc5, ho5⟩; have HX := Lib.hid (And.intro hc5 ho5); clear hc5 ho5)
          | (at_builtin; refine wpList_append_ints _ rfl _ _ rfl B _ (seen n (l1.take k)) [t] rfl (HA.out.mid t HX.out.2).1 (some ⟨w5.heap.size, 0, none⟩) 1 (w5.heap.size + 1) rfl (one_new _ _) hsl (HA.out.mid t HX.out.2).2 ?_; intro v' w6 hown' hg))
        have hex := hown'.row
        obtain ⟨a6, cap6, hv6, _⟩ := hex
        have HY := Lib.hid (HA.out.yes HV.out HX.out.1 HX.out.2 hown' hg)
        clear hown' hg
        go_roundw
        case rel =>
          rw [← seen_snoc_yes _ _ _ HV.out, ← HK.out] at hv6
          refine ⟨k + 1, a6, cap6, by omega, by go_num, hv6, ?_⟩
          rw [← hv6, HK.out]
          exact HY.out
        case measure => simp [intOf]; omega
      · rw [if_neg ht] at HT
        have HV := Lib.hid ht
        rcases (show t < 0 ∨ 0 ≤ t ∧ (n : Int) ≤ t by omega) with ht1 | ⟨ht1, ht2⟩
        all_goals
          go_wp2_with (go_at_call 19; refine HT.out.mono ?_; rintro e w5 ⟨rfl, hc5, ho5⟩; have HX := Lib.hid (HA.out.no HV.out hc5 ho5); clear hc5 ho5)
          go_roundw
          case rel =>
            refine ⟨k + 1, a', cap', by omega, by go_num, ?_, ?_⟩
            · rw [HK.out, seen_snoc_no _ _ _ HV.out]
            · rw [HK.out]
              have := HX.out
              rw [← seen_snoc_no _ (l1.take k) _ HV.out] at this
              exact this
          case measure => simp [intOf]; omega
    · obtain rfl : k = l1.length := by omega
      rw [List.take_length] at hat ⊢
      have hss : (seen n l1).length ≤ 1000 := by have := seen_le n l1; omega
      have HA := Lib.hid hat
      have HBd := Lib.hid (Bd_mono (Bd_play n l1) (show l1.length ≤ 1000 by omega))
      clear hat
      obtain ⟨a6, cap6, hv6, hs6⟩ := HA.out.own.row
      have e6 : a6 = a' ∧ cap6 = cap' := by simp at hv6; exact ⟨hv6.1.symm, hv6.2.symm⟩
      obtain ⟨rfl, rfl⟩ := e6
      have HS := Lib.hid hs6
      have HN := Lib.hid (now_is n l1)
      have HD := Lib.hid (drift_seen n l1)
      have HD0 := Lib.hid (drift_none0 n l1)
      have HC : Hid (∀ m, Clk (wr.drewN m) w1.heap.size (w1.heap.size + 4) p n (St.play n l1) ∧ Clk (wr.drewN m) w2.heap.size (w2.heap.size + 4) q n (St.play n l1) ∧ Sl (wr.drewN m) wr.heap.size a6 cap6 (seen n l1) ∧ Only w.heap.size w.heap.size w (wr.drewN m)) := fun m =>
        ⟨HA.out.c.kept ((Only.refl 0 0 wr).drewN m) (.inr (Nat.zero_le _)), HA.out.d.kept ((Only.refl 0 0 wr).drewN m) (.inr (Nat.zero_le _)), hs6.kept ((Only.refl wr.heap.size 0 wr).drewN m) (Nat.le_refl _) (Nat.le_refl _), HA.out.only.drewN m⟩
      clear hs6 hv6 HA
      generalize seen n l1 = sn at *
      obtain ⟨wo, rfl⟩ : ∃ wo : World, wo = wr := ⟨_, rfl⟩
      go_wp2_with fail
      go_loopw [13, 14, 15] (fun wv iv _ wr => ∃ k m : Nat, k ≤ n ∧ iv = .int .i64 k ∧ wv = .int .i64 ((St.play n l1).worst k) ∧ wr = wo.drewN m) (fun _ iv _ _ => n - (intOf iv).toNat)
      case atStart => exact ⟨0, 0, Nat.zero_le _, rfl, rfl, rfl⟩
      case round =>
        obtain ⟨k, m, hk, rfl, rfl, rfl⟩ := hrel
        by_cases hlt : k < n
        · have key : ∀ d : Int, d = (St.play n l1).drift k → Hid (∀ m, (Calls Try.prog 20 #[.slice a6 sn.length cap6, .int .i64 k] (wo.drewN m) fun e w' => e = .returned (.int .i64 d) ∧ wo.drewN m = w') ∧
              (∀ r, r = p ∨ r = q → Calls Try.prog 21 #[.pointer (some ⟨r, 0, none⟩), .int .i64 k] (wo.drewN m) fun e w' => e = .returned (.int .i64 ((St.play n l1).N k)) ∧ wo.drewN m = w') ∧
              (Calls Try.prog 22 #[.slice a6 sn.length cap6, .int .i64 k] (wo.drewN m) fun e w' => e = .returned (.int .i64 ((St.play n l1).N k)) ∧ wo.drewN m = w') ∧
              (∀ r, r = p ∨ r = q → Calls Try.prog 23 #[.pointer (some ⟨r, 0, none⟩), .int .i64 k] (wo.drewN m) fun e w' => e = .returned (.int .i64 d) ∧ ∃ m', w' = (wo.drewN m).drewN m')) := by
            rintro d rfl m
            obtain ⟨hc, hd, hs, _⟩ := HC.out m
            refine ⟨(drift_ref _ _ _ _ _ hs k hss).mono fun e w' ⟨he, hw⟩ => ⟨by rw [he, HD.out], hw⟩, fun r hr => ?_, (count_any _ _ _ _ _ hs k hss).mono fun e w' ⟨he, hw⟩ => ⟨by rw [he, HN.out], hw⟩, fun r hr => ?_⟩
            · rcases hr with rfl | rfl
              · exact now_some _ _ _ _ _ _ hc k h8 hlt
              · exact now_some _ _ _ _ _ _ hd k h8 hlt
            · rcases hr with rfl | rfl
              · exact drift_some _ _ _ _ _ _ _ hc HBd.out (by omega) k h8 hlt
              · exact drift_some _ _ _ _ _ _ _ hd HBd.out (by omega) k h8 hlt
          have hdb := drift_bd HBd.out k
          have hwb := worst_bd HBd.out k
          obtain ⟨hd1, hd2⟩ := hdb
          obtain ⟨hw1, hw2⟩ := hwb
          by_cases hk0 : k = 0
          · subst hk0
            have K := key 0 HD0.out.symm
            have HW := Lib.hid (show (St.play n l1).worst (0 + 1) = 0 by simp only [St.worst]; rw [HD0.out]; rfl)
            clear key hd1 hd2
            go_wp2_with (first
              | (go_at_call 20; refine (K.out _).1.mono ?_; rintro e w' ⟨rfl, rfl⟩)
              | (go_at_call 21; refine ((K.out _).2.1 _ (by first | exact .inl rfl | exact .inr rfl)).mono ?_; rintro e w' ⟨rfl, rfl⟩)
              | (go_at_call 22; refine ((K.out _).2.2.1).mono ?_; rintro e w' ⟨rfl, rfl⟩)
              | (go_at_call 23; refine ((K.out _).2.2.2 _ (by first | exact .inl rfl | exact .inr rfl)).mono ?_; rintro e w' ⟨rfl, m', rfl⟩))
            go_roundw
            case rel => exact ⟨1, _, by omega, rfl, by rw [HW.out]; rfl, rfl⟩
            case measure => simp [intOf]; omega
          · have K := key _ rfl
            have hk1 : ((k : Int) == 0) = false := by simp; omega
            clear key hk0
            go_wp2_with (first
              | (go_at_call 20; refine (K.out _).1.mono ?_; rintro e w' ⟨rfl, rfl⟩)
              | (go_at_call 21; refine ((K.out _).2.1 _ (by first | exact .inl rfl | exact .inr rfl)).mono ?_; rintro e w' ⟨rfl, rfl⟩)
              | (go_at_call 22; refine ((K.out _).2.2.1).mono ?_; rintro e w' ⟨rfl, rfl⟩)
              | (go_at_call 23; refine ((K.out _).2.2.2 _ (by first | exact .inl rfl | exact .inr rfl)).mono ?_; rintro e w' ⟨rfl, m', rfl⟩))
            all_goals
              go_roundw
              case rel => exact ⟨k + 1, _, by omega, by go_num, by simp [St.worst, *], rfl⟩
              case measure => simp [intOf]; omega
        · obtain rfl : k = n := by omega
          have K : Hid (∀ m, (∀ r, r = p ∨ r = q → Calls Try.prog 24 #[.pointer (some ⟨r, 0, none⟩)] (wo.drewN m) fun e w' => e = .returned (.int .i64 ((St.play k l1).worst k)) ∧ ∃ m', w' = (wo.drewN m).drewN m') ∧
              (∀ i : Int, i < 0 ∨ (k : Int) ≤ i → Calls Try.prog 21 #[.pointer (some ⟨p, 0, none⟩), .int .i64 i] (wo.drewN m) fun e w' => e = .returned (.int .i64 (-1)) ∧ wo.drewN m = w') ∧
              (Calls Try.prog 23 #[.pointer (some ⟨p, 0, none⟩), .int .i64 k] (wo.drewN m) fun e w' => e = .returned (.int .i64 (-1)) ∧ wo.drewN m = w')) := by
            intro m
            obtain ⟨hc, hd, _, _⟩ := HC.out m
            refine ⟨fun r hr => ?_, fun i hi => now_none _ _ _ _ _ _ hc i h8 hi, drift_none _ _ _ _ _ _ hc _ h8 (.inr (Int.le_refl _))⟩
            rcases hr with rfl | rfl
            · exact worst_any _ _ _ _ _ _ _ hc HBd.out (by omega) h8
            · exact worst_any _ _ _ _ _ _ _ hd HBd.out (by omega) h8
          go_wp2_with (first
            | (go_at_call 24; refine ((K.out _).1 _ (by first | exact .inl rfl | exact .inr rfl)).mono ?_; rintro e w' ⟨rfl, m', rfl⟩)
            | (go_at_call 21; refine ((K.out _).2.1 _ (by omega)).mono ?_; rintro e w' ⟨rfl, rfl⟩)
            | (go_at_call 23; refine ((K.out _).2.2).mono ?_; rintro e w' ⟨rfl, rfl⟩))
          go_ret
          exact ⟨rfl, (HC.out _).2.2.2⟩
end Go.Proofs.Ytefllgpehhlkoaa
